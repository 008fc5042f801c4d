/- The method 'insert' of textedit's merger: what one call does, walked. Conditions: the state's own (the word MM); small sizes. -/
import Derived.Test.YtlhaeonjobcdbaaDeletes
import Derived.Deep.RegionLaw
namespace Go.Proofs.Ytlhaeonjobcdbaa.PA
open Go.RowKit Go.Proofs.YtlhaeonjobcdbaaW.PrintWords Go.Proofs.YtlhaeonjobcdbaaW.PrintLast
set_option linter.unusedVariables false

theorem anySlice {α : Type} {d : Kd α} {q : Nat} {W : World} {base : Nat} {ok : Nat → Prop} {v : Value} {xs : List α} (h : Kd.R d q W base ok v xs) : ∃ A n c, v = .slice A n c := by
  obtain ⟨A, c, e⟩ := Kd.R_slice h
  exact ⟨A, _, c, e⟩
/-- The append of one traced byte to a merger's row, as a step of a region that draws its order. -/
theorem push_step {ops : Array Oper} {o : Oper} {a : Act} {Q : Exit → Act → World → Prop} {Kc : Act → World → Prop} {E : Prop} {w0 W W' : World} (hgd : o.guard = none) (s x : Operand) (ho : o.op = .call { callee := .builtin .append, args := #[s, x], argTypes := #[62, 62] })
    (v v2 : Value) (M : List TB) (b : UInt8) (og : Int) (hs : a.eval s = v) (hx : a.eval x = .slice (some ⟨W.heap.size, 0, none⟩) 1 1) (hW : W' = W.alloc (.cells #[.int .u8 b.toNat, .int .i64 og] 71))
    (HO : Kd.R k71 71 W w0.heap.size (fun k => some k ≠ v2.ownBlock) v (M.map encT)) (hfr : ∀ k, W.heap.size ≤ k → some k ≠ v2.ownBlock) (HB : Below w0.heap.size w0 W) (hl : M.length ≤ 40000000)
    (h : ∀ v1 w1, Kd.R k71 71 w1 w0.heap.size (fun k => some k ≠ v2.ownBlock) v1 (M.map encT ++ [encT (b, og)]) → W.grownBy w1 v.ownBlock → (v1.ownBlock = v.ownBlock ∨ ∃ b, v1.ownBlock = some b ∧ W.heap.size ≤ b) → Kc (a.put o.dst v1) w1) :
    if Region.wanted o (yielded ops a.tmps) = true then Oper.wp Try.prog o a W' Kc Q else E := by
  subst hW
  have hw : Region.wanted o (yielded ops a.tmps) = true := by simp [Region.wanted, hgd]
  rw [if_pos hw]
  have := Kd.R_append_step k71 (w0 := w0) (Q := Q) (Kc := Kc) w0.heap.size hw s x 62 71 (.agg #[.int .u8 0, .int .i64 0]) 16 ho Try.underlying62 infoT rfl (by decide) (by omega) v (M.map encT) (encT (b, og)) [.int .u8 b.toNat, .int .i64 og] (fun k => some k ≠ v2.ownBlock) (fun _ => False) hs hx (k71_mkM _ _ _ (encT (b, og))) (fun _ h => h.elim) hfr HO HB HB.size (by rw [List.length_map]; omega) (fun v1 w1 h1 _ h3 h4 => h v1 w1 h1 h3 h4)
  rwa [if_pos hw] at this

set_option maxHeartbeats 8000000 in
set_option maxRecDepth 100000 in
theorem insert_calls (w0 : World) (g1 g2 : Nat) (e1 : List S43) (o1 : Nat) (M1 : List TB) (e2 : List S43) (o2 : Nat) (M2 : List TB) (i : Int) (w : World) (h : MM w0 g1 g2 e1 o1 M1 e2 o2 M2 w) (hi0 : 0 ≤ i) (hi : i ≤ 2000)
    (hs : ∀ e ∈ e1, e.f2.size ≤ 3000) (ho : o1 ≤ 20000000) (hm1 : M1.length ≤ 20000000) (hm2 : M2.length ≤ 20000000) :
    Calls Try.prog 31 #[.pointer (some ⟨g1, 0, none⟩), .int .i64 i, .pointer (some ⟨g2, 0, none⟩)] w fun e w' => e = .returned (.tuple #[]) ∧ MM w0 g1 g2 e1 (o1 + (insText i e1).length) (M1 ++ traceFrom o1 (insText i e1)) e2 o2 (M2 ++ (insText i e1).map insT) w' := by
  obtain ⟨A1, c1, v1, A2, c2, v2, hP⟩ := h
  have HP := Aside0.mk hP
  obtain ⟨k0, k1, k2⟩ := hP.cell1
  have hu := Try.underlying43
  have huT := Try.underlying71
  have huTS := Try.underlying62
  clear hP
  cases e1 with
  | nil =>
    have hres : MM w0 g1 g2 [] (o1 + (insText i []).length) (M1 ++ traceFrom o1 (insText i [])) e2 o2 (M2 ++ (insText i []).map insT) w := ⟨A1, c1, v1, A2, c2, v2, by simpa [insText, traceFrom] using HP.out⟩
    have HRES := Aside0.mk hres
    clear hres hs
    go_enter Try.func31, Try.ntmps31
    go_wp2
    exact bodyPost_ret (results_none rfl _ _ _) rfl ⟨rfl, HRES.out⟩
  | cons e es =>
    obtain ⟨ad, rfl, x0, x1, x2⟩ := head_cells HP.out.read1
    have hes : e.f2.size ≤ 3000 := hs e (by simp)
    have hz : (((es.length : Int) + 1) == 0) = false := beq_eq_false_iff_ne.2 (by omega)
    clear hs
    by_cases he : e.f0 = i
    · have hb : (e.f0 == i) = true := beq_iff_eq.2 he
      have hb2 : (e.f0 != i) = false := by rw [bne_eq_false_iff_eq]; exact he
      have hti : insText i (e :: es) = bs e.f2 := by simp only [insText]; rw [if_pos he]
      have HTI := Aside0.mk hti
      have hcv := Lib.run_convert_string_bytes (P := Try.prog) w 9 51 5 e.f2 Try.underlying9 Try.underlying51 Try.underlying5
      clear he hti
      go_enter Try.func31, Try.ntmps31
      go_wp2
      obtain ⟨csB, frB, hrowB, hcsB⟩ := bytes_row w e.f2
      have HP0 : Aside0 (MP w0 g1 g2 (e :: es) o1 M1 e2 o2 M2 (some ad) c1 v1 A2 c2 v2 (Lib.bytesWorld w 5 e.f2) ∧ (Lib.bytesWorld w 5 e.f2).heap[w.heap.size]? = some (.cells csB 5 frB) ∧ w.heap.size ≠ g1 ∧ w.heap.size ≠ g2) :=
        ⟨HP.out.move (below_bytes w 5 e.f2) (HP.out.bel.trans ((below_bytes w 5 e.f2).mono HP.out.size)), hrowB, fun h => by have := heap_lt HP.out.b1; omega, fun h => by have := heap_lt HP.out.b2; omega⟩
      have HCS := Aside0.mk hcsB
      clear hrowB hcsB hcv HP x0 x1 x2 k0 k1 k2
      generalize grownCap w e.f2.size 0 5 = cB at *
      generalize w.heap.size = gB at *
      generalize Lib.bytesWorld w 5 e.f2 = W0 at *
      go_loopw [34] (fun i wx => ∃ (q : Nat), q ≤ e.f2.size ∧ i = .int .i64 q ∧ Aside0 (MM w0 g1 g2 (e :: es) (o1 + q) (M1 ++ traceFrom o1 ((bs e.f2).take q)) e2 o2 (M2 ++ ((bs e.f2).take q).map insT) wx ∧ wx.heap[gB]? = some (.cells csB 5 frB) ∧ gB ≠ g1 ∧ gB ≠ g2)) (fun i _ => e.f2.size - (intOf i).toNat)
      case atStart => exact ⟨0, Nat.zero_le _, rfl, ⟨⟨_, _, _, _, _, _, by simpa [traceFrom] using HP0.out.1⟩, HP0.out.2.1, HP0.out.2.2.1, HP0.out.2.2.2⟩⟩
      case round =>
        obtain ⟨q, hq, rfl, HX⟩ := hrel
        obtain ⟨hM, hrow, hn1, hn2⟩ := HX.out
        clear HX
        by_cases hlt : q < e.f2.size
        · obtain ⟨B1, d1, u1, B2, d2, u2, hP⟩ := hM
          have hcb := (Lib.cell_of_heap hrow q).trans (HCS.out q hlt)
          have HTS := Aside0.mk (take_succ_bs e.f2 q hlt)
          have HLQ : Aside0 (((bs e.f2).take q).length = q) := ⟨by rw [List.length_take, bs_length]; omega⟩
          generalize (bs e.f2).getD q 0 = b at *
          have HPr := Aside0.mk hP
          have HROW := Aside0.mk hrow
          obtain ⟨k0, k1, k2⟩ := hP.cell1
          have HN := Aside0.mk (And.intro hn1 hn2)
          have kz := (hP.alloc (.cells #[.int .u8 b.toNat, .int .i64 ((o1 : Int) + (q : Int))] 71)).cell1.2.2
          have kcast : (((o1 + q : Nat) : Int)) = (o1 : Int) + (q : Int) := by omega
          rw [kcast] at k1
          clear hP hrow hn1 hn2 kcast
          go_upto_region 4 with fail
          go_cut [] (fun wc => Aside0 (∃ u1', MP w0 g1 g2 (e :: es) (o1 + q) (M1 ++ traceFrom o1 ((bs e.f2).take q) ++ [(b, ((o1 : Int) + (q : Int)))]) e2 o2 (M2 ++ ((bs e.f2).take q).map insT) B1 d1 u1' B2 d2 u2 wc ∧ wc.heap[gB]? = some (.cells csB 5 frB)))
          case first =>
            go_region_law (refine push_step (w0 := w0) (W := wr.drew) rfl (.tmp 42) (.tmp 49) rfl u1 u2 (M1 ++ traceFrom o1 ((bs e.f2).take q)) b ((o1 : Int) + (q : Int)) rfl (by first | rfl | (simp; done)) (by first | rfl | (simp; done)) HPr.out.drew.m1 HPr.out.drew.fresh HPr.out.drew.bel (by simp only [List.length_append, traceFrom_length]; have := HLQ.out; omega) ?_; intro v1' wA hr hg hat; obtain ⟨Av, nv, cv, hv⟩ := anySlice hr; subst hv; obtain ⟨q1, q2, q3, q4⟩ := HPr.out.drew.push (x := (b, ((o1 : Int) + (q : Int)))) hr hg hat; have Q3 := Aside0.mk (And.intro q3 (q4 gB csB 5 frB HROW.out (by decide) HN.out.1)); clear hr hg hat q3 q4)
            all_goals
              go_wp2_with fail
              go_meet
              case rel => exact ⟨_, Q3.out.1, Q3.out.2⟩
          case rest =>
            obtain ⟨u1', hP3, hrow3⟩ := hcut.out
            have hP3s := hP3.swap
            have HP3 := Aside0.mk (And.intro hP3s hrow3)
            obtain ⟨y0, y1, y2⟩ := hP3s.cell1
            have kcast : (((o1 + q : Nat) : Int)) = (o1 : Int) + (q : Int) := by omega
            have HKC := Aside0.mk kcast
            clear hP3 hP3s hrow3 hcut k0 k1 k2 kz kcast HPr HROW
            go_wp2_with (at_builtin; refine Kd.R_append k71 (w0 := w0) w0.heap.size rfl (.tmp 57) (.tmp 60) 62 71 (.agg #[.int .u8 0, .int .i64 0]) 16 rfl Try.underlying62 infoT rfl (by decide) (by omega) u2 ((M2 ++ ((bs e.f2).take q).map insT).map encT) (encT (insT b)) [.int .u8 b.toNat, .int .i64 (-1)] (fun k => some k ≠ u1'.ownBlock) (fun _ => False) rfl rfl (k71_mkM _ _ _ (encT (insT b))) (fun _ h => h.elim) HP3.out.1.fresh HP3.out.1.m1 HP3.out.1.bel HP3.out.1.size (by simp only [List.length_map, List.length_append]; have := HLQ.out; omega) ?_; intro v2' wA hr hb1 hg hat; obtain ⟨Av, nv, cv, hv⟩ := anySlice hr; subst hv; obtain ⟨q1, q2, q3, q4⟩ := HP3.out.1.push (x := insT b) hr hg hat; have hq3 := q3.swap; obtain ⟨z0, z1, z2⟩ := hq3.cell1; obtain ⟨n1, n2, n3⟩ := hq3.count; rw [HKC.out] at z1 n2 n3; have Q5 := Aside0.mk (And.intro n2 (n3 gB _ (q4 gB csB 5 frB HP3.out.2 (by decide) HN.out.2) HN.out.1)); clear hr hb1 hg hat q3 q4 hq3 n2 n3 z0 z2)
            go_roundw
            case rel => exact ⟨q + 1, by omega, by go_num, ⟨_, _, _, _, _, _, by rw [HTS.out, List.map_append, traceFrom_snoc, HLQ.out, ← List.append_assoc, ← List.append_assoc, HKC.out]; exact Q5.out.1⟩, Q5.out.2, HN.out.1, HN.out.2⟩
            case measure => simp [intOf]; omega
        · have hqe : q = e.f2.size := by omega
          have hfin : MM w0 g1 g2 (e :: es) (o1 + (insText i (e :: es)).length) (M1 ++ traceFrom o1 (insText i (e :: es))) e2 o2 (M2 ++ (insText i (e :: es)).map insT) wr := by
            rw [HTI.out, bs_length]
            rw [List.take_of_length_le (l := bs e.f2) (i := q) (by rw [bs_length]; omega)] at hM
            rw [hqe] at hM
            exact hM
          have HFIN := Aside0.mk hfin
          clear hqe hfin hM hrow hn1 hn2
          go_wp2
          go_end0
          exact ⟨rfl, HFIN.out⟩
    · have hb : (e.f0 == i) = false := beq_eq_false_iff_ne.2 he
      have hb2 : (e.f0 != i) = true := bne_iff_ne.2 he
      have hres : MM w0 g1 g2 (e :: es) (o1 + (insText i (e :: es)).length) (M1 ++ traceFrom o1 (insText i (e :: es))) e2 o2 (M2 ++ (insText i (e :: es)).map insT) w := by
        have hti : insText i (e :: es) = [] := by simp only [insText]; rw [if_neg he]
        rw [hti]
        exact ⟨_, c1, v1, A2, c2, v2, by simpa [traceFrom] using HP.out⟩
      have HRES := Aside0.mk hres
      clear hres he
      go_enter Try.func31, Try.ntmps31
      go_wp2
      exact bodyPost_ret (results_none rfl _ _ _) rfl ⟨rfl, HRES.out⟩
end Go.Proofs.Ytlhaeonjobcdbaa.PA
