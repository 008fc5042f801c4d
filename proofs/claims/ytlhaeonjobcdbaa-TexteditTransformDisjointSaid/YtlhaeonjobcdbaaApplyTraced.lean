/- textedit.applyTraced: what it answers, walked. Conditions: the edits are in order and the result has at most 2000 bytes. -/
import Derived.Test.YtlhaeonjobcdbaaExtApply
namespace Go.Proofs.Ytlhaeonjobcdbaa.PA
open Go.RowKit Go.Proofs.YtlhaeonjobcdbaaW.PrintWords Go.Proofs.YtlhaeonjobcdbaaW.PrintLast
set_option linter.unusedVariables false

theorem infoT : (Try.prog.info? 71).map (fun i => (i.zero, i.size, i.bytes)) = some (some (.agg #[.int .u8 0, .int .i64 0]), 2, 16) := by kernel_rfl
def encT (x : TB) : S71 := ⟨(x.1.toNat : Int), x.2⟩
theorem encT_ins (b : UInt8) : encT (insT b) = ⟨(b.toNat : Int), -1⟩ := rfl
theorem boxKept {W wA : World} {base : Nat} {ok : Nat → Prop} {v : Value} {xs : List S71} (HO : Kd.R k71 71 W base ok v xs) {g t : Nat} {cells : Array Value} {fr : Nat × Nat} (hb : W.heap[g]? = some (.cells cells t fr)) (ht : 71 ≠ t) (hg : W.grownBy wA v.ownBlock) : wA.heap[g]? = some (.cells cells t fr) := by
  obtain ⟨h0, inner, ho, hr⟩ := HO
  have hlt : g < W.heap.size := by
    rcases Nat.lt_or_ge g W.heap.size with h' | h'
    · exact h'
    · rw [Array.getElem?_eq_none h'] at hb; cases hb
  refine (hg.block g hlt (fun e => ?_)).trans hb
  obtain ⟨c2, hc2⟩ := own_typed ho g e.symm
  rw [hc2] at hb
  injection hb with hb
  injection hb with _ h2 _
  exact ht h2
theorem boxKept_alloc {W : World} {g t : Nat} {cells : Array Value} {fr : Nat × Nat} (hb : W.heap[g]? = some (.cells cells t fr)) (o : Obj) : (W.alloc o).heap[g]? = some (.cells cells t fr) := by
  have hlt : g < W.heap.size := by
    rcases Nat.lt_or_ge g W.heap.size with h' | h'
    · exact h'
    · rw [Array.getElem?_eq_none h'] at hb; cases hb
  exact (Below.heap_alloc W o g hlt).trans hb
theorem scalarKM {W : World} {base : Nat} {ok : Nat → Prop} (x : S71) (cs : List Value) (h : k71.K W x cs) : k71.M W base ok x cs := by
  obtain rfl := k71_open h
  exact k71_mkM _ _ _ x

theorem at_step (T : List TB) (l1 rest : List S43) (e : S43) (pre : List TB) (o : Int) (hk1 : okL (T.length : Int) (-1) l1 = true) (hk2 : (T.length : Int) + total l1 ≤ 2000) (ho0 : 0 ≤ o) (hoe : o ≤ e.f0) (o2 : e.f0 ≤ e.f1) (o3 : e.f1 ≤ (T.length : Int))
    (happ : pre ++ app insT T o (e :: rest) = app insT T 0 l1) :
    pre.length + (e.f0.toNat - o.toNat) + e.f2.size ≤ 2000 ∧ (pre ++ (T.take e.f0.toNat).drop o.toNat ++ (bs e.f2).map insT) ++ app insT T e.f1 rest = app insT T 0 l1 := by
  have h2 : (pre ++ (T.take e.f0.toNat).drop o.toNat ++ (bs e.f2).map insT) ++ app insT T e.f1 rest = app insT T 0 l1 := by
    rw [← happ]
    simp only [app, List.append_assoc]
  refine ⟨?_, h2⟩
  have hl := app_length insT T l1 0 (-1) hk1 (by omega) (by omega) (by omega)
  rw [← h2] at hl
  simp only [List.length_append, List.length_map, bs_length, List.length_drop, List.length_take] at hl
  omega

theorem at_len {W : World} {A : Option Addr} {l : List TB} {n : Nat} (hn : l.length = n) (h : Kd.C k71 W A (l.map encT).length (l.map encT)) : Kd.C k71 W A n (l.map encT) := by
  rw [List.length_map, hn] at h
  exact h

theorem take_succ_bs (s : ByteArray) (q : Nat) (h : q < s.size) : (bs s).take (q + 1) = (bs s).take q ++ [(bs s).getD q 0] := by
  rw [List.take_succ_eq_append_getElem (by rw [bs_length]; exact h), List.getD_eq_getElem?_getD, List.getElem?_eq_getElem (by rw [bs_length]; exact h)]
  rfl
theorem at_len2 {W : World} {A : Option Addr} {l : List TB} (h : Kd.C k71 W A l.length (l.map encT)) : Kd.C k71 W A (l.map encT).length (l.map encT) := by
  rw [List.length_map]
  exact h

theorem heap_lt {W : World} {g : Nat} {o : Obj} (h : W.heap[g]? = some o) : g < W.heap.size := by
  rcases Nat.lt_or_ge g W.heap.size with h' | h'
  · exact h'
  · rw [Array.getElem?_eq_none h'] at h; cases h
theorem below_bytes (W : World) (e : TypeId) (s : ByteArray) : Below W.heap.size W (Lib.bytesWorld W e s) :=
  ⟨rfl, rfl, rfl, by rw [Lib.bytesWorld_size]; omega, fun i hi => Lib.bytesWorld_at_old W e s i hi⟩
theorem bytes_row (W : World) (s : ByteArray) : ∃ (cs : Array Value) (fr : Nat × Nat), (Lib.bytesWorld W 5 s).heap[W.heap.size]? = some (.cells cs 5 fr) ∧ ∀ j, j < s.size → cs[j]? = some (.int .u8 ((bs s).getD j 0).toNat) := by
  refine ⟨_, _, Lib.bytesWorld_at_new W 5 s, fun j hj => ?_⟩
  have h := Lib.bytesWorld_cell W 5 s j hj
  rw [Lib.cell_of_heap (Lib.bytesWorld_at_new W 5 s)] at h
  exact h

set_option maxHeartbeats 8000000 in
set_option maxRecDepth 100000 in
theorem applyTraced_calls (A0 : Option Addr) (c0 : Nat) (T : List TB) (A1 : Option Addr) (c1 : Nat) (l1 : List S43) (w : World) (hT : Kd.C k71 w A0 T.length (T.map encT)) (hc0 : T.length ≤ c0) (hr1 : Kd.C k43 w A1 l1.length l1) (hc1 : l1.length ≤ c1)
    (hk1 : okL (T.length : Int) (-1) l1 = true) (hk2 : (T.length : Int) + total l1 ≤ 2000) (hk3 : T.length ≤ 2000) :
    Calls Try.prog 29 #[.slice A0 T.length c0, .slice A1 l1.length c1] w fun e w' => ∃ v, e = .returned v ∧ Kd.R k71 71 w' w.heap.size (fun _ => True) v ((app insT T 0 l1).map encT) ∧ Below w.heap.size w w' := by
  have hu := Try.underlying43
  have huT := Try.underlying71
  have huTS := Try.underlying62
  have HT := Aside0.mk hT
  have HC0 := Aside0.mk hc0
  have HR := Aside0.mk hr1
  have HC := Aside0.mk hc1
  have HK1 := Aside0.mk hk1
  have HK2 := Aside0.mk hk2
  have hlen : (T.map encT).length = T.length := List.length_map _
  have HLEN := Aside0.mk hlen
  have hbig : l1.length ≤ 9223372036854775807 := hr1.2.1
  clear hT hc0 hr1 hc1 hk1 hk2 hlen
  go_enter Try.func29, Try.ntmps29
  go_wp2
  go_loopw [5, 6, 13] (fun out off i wr => ∃ (j : Nat) (o : Int), j ≤ l1.length ∧ i = .int .i64 j ∧ off = .int .i64 o ∧ 0 ≤ o ∧ o ≤ (T.length : Int) ∧ Aside0 (∃ (p : Int) (pre : List TB), o ≤ p + 1 ∧ okL (T.length : Int) p (l1.drop j) = true ∧ pre ++ app insT T o (l1.drop j) = app insT T 0 l1 ∧ Kd.R k71 71 wr w.heap.size (fun _ => True) out (pre.map encT)) ∧ Aside0 (Below w.heap.size w wr)) (fun _ _ i _ => l1.length - (intOf i).toNat)
  case atStart => exact ⟨0, 0, Nat.zero_le _, rfl, rfl, by omega, by omega, ⟨-1, [], by omega, HK1.out, by simp, Kd.R_nil _ _ _ _ _⟩, ⟨Below.refl _ _⟩⟩
  case round =>
    obtain ⟨j, o, hj, rfl, rfl, ho0, hoL, HI, HBr⟩ := hrel
    by_cases hlt : j < l1.length
    · obtain ⟨p, pre, hp, hok, happ, hown⟩ := HI.out
      clear HI
      have hgd : rd_T43 l1 (j : Int) = l1[j] := by
        unfold rd_T43
        rw [Int.toNat_natCast, List.getD_eq_getElem?_getD, List.getElem?_eq_getElem hlt]
        rfl
      rw [List.drop_eq_getElem_cons hlt] at hok happ
      obtain ⟨ad, rfl, hx0, hx1, hx2⟩ := at_T43 (hr_below2 HR.out HBr.out) (j : Int) (by omega) (by omega)
      rw [hgd, Int.toNat_natCast] at hx0 hx1 hx2
      generalize l1[j] = e at *
      rw [okL_cons] at hok
      obtain ⟨o1, o2, o3, o4⟩ := hok
      obtain ⟨hs1, hs2⟩ := at_step T l1 (l1.drop (j + 1)) e pre o HK1.out HK2.out ho0 (by omega) o2 o3 happ
      have HS1 := Aside0.mk hs1
      have HS2 := Aside0.mk hs2
      have HO := Aside0.mk hown
      have O4 := Aside0.mk o4
      clear happ hown o4 hgd hs1 hs2
      have hoe : o ≤ e.f0 := by omega
      have hf0 : 0 ≤ e.f0 := by omega
      obtain ⟨i0, hi0, _, hsz0, _⟩ := info_parts infoT
      have hcut := cut_mid (P := Try.prog) 62 71 .i64 .i64 Try.underlying62 hi0 2 hsz0 A0 T.length c0 o e.f0 ho0 hoe (by omega) HC0.out
      have hmid := Kd.C_mid (lo := o.toNat) (hi := e.f0.toNat) (at_len2 (Kd.C_below HT.out HBr.out)) (by omega) (by rw [HLEN.out]; omega) (by rw [HLEN.out]; exact HC0.out)
      rw [← List.map_take, ← List.map_drop] at hmid
      obtain ⟨AX, hAX⟩ : ∃ AX, AX = (if c0 = o.toNat then A0 else A0.map (·.add (o.toNat * 2))) := ⟨_, rfl⟩
      rw [show k71.sz = 2 from rfl, ← hAX] at hmid
      rw [← hAX] at hcut
      have HM := Aside0.mk hmid
      clear hmid hAX
      have hn : (wr.alloc (.cells #[.int .i64 e.f0, .int .i64 e.f1, .string e.f2] 43)).heap[wr.heap.size]? = some (.cells #[.int .i64 e.f0, .int .i64 e.f1, .string e.f2] 43 (0, 0)) := heap_alloc_new wr _
      have HN := Aside0.mk hn
      have HW2 : Aside0 (Below w.heap.size w (wr.alloc (.cells #[.int .i64 e.f0, .int .i64 e.f1, .string e.f2] 43)) ∧ Kd.R k71 71 (wr.alloc (.cells #[.int .i64 e.f0, .int .i64 e.f1, .string e.f2] 43)) w.heap.size (fun _ => True) u5 (pre.map encT) ∧ Kd.C k71 (wr.alloc (.cells #[.int .i64 e.f0, .int .i64 e.f1, .string e.f2] 43)) AX (e.f0.toNat - o.toNat) (List.map encT ((T.take e.f0.toNat).drop o.toNat))) :=
        ⟨HBr.out.alloc HBr.out.size _, Kd.R_alloc HO.out _, at_len (by rw [List.length_drop, List.length_take]; omega) (Kd.C_alloc HM.out _)⟩
      clear hn HM HO HBr hi0 hsz0
      go_wp2_with (at_builtin; refine Kd.R_append_rows k71 (w0 := w) w.heap.size rfl (.tmp 17) (.tmp 22) 62 71 (.agg #[.int .u8 0, .int .i64 0]) 16 rfl Try.underlying62 infoT rfl (by decide) (by omega) u5 (pre.map encT) (List.map encT ((T.take e.f0.toNat).drop o.toNat)) _ _ _ (fun _ => True) (fun _ => False) rfl rfl HW2.out.2.1 HW2.out.2.2 (fun x cs h => scalarKM x cs h) (fun _ h => h.elim) (fun _ _ => trivial) HW2.out.1 HW2.out.1.size (by rw [List.length_map]; have := HS1.out; omega) ?_; intro v1 wA ho hb hg hat; have hbx := boxKept HW2.out.2.1 HN.out (by decide) hg; have hc1 : wA.cell? ⟨wr.heap.size, 1, none⟩ = some (.int .i64 e.f1) := ((Lib.cell_of_heap hbx 1).trans rfl); have hc2 : wA.cell? ⟨wr.heap.size, 2, none⟩ = some (.string e.f2) := ((Lib.cell_of_heap hbx 2).trans rfl); have hcv := Lib.run_convert_string_bytes (P := Try.prog) wA 9 51 5 e.f2 Try.underlying9 Try.underlying51 Try.underlying5; have HBX := Aside0.mk hbx; have HO1 := Aside0.mk ho; have HB1 := Aside0.mk hb; clear ho hb hg hat hbx)
      obtain ⟨csB, frB, hrowB, hcsB⟩ := bytes_row wA e.f2
      have hB0 : Aside0 (Below w.heap.size w (Lib.bytesWorld wA 5 e.f2) ∧ Kd.R k71 71 (Lib.bytesWorld wA 5 e.f2) w.heap.size (fun _ => True) v1 (pre.map encT ++ List.map encT ((T.take e.f0.toNat).drop o.toNat)) ∧ (Lib.bytesWorld wA 5 e.f2).heap[wr.heap.size]? = some (.cells #[.int .i64 e.f0, .int .i64 e.f1, .string e.f2] 43 (0, 0)) ∧ (Lib.bytesWorld wA 5 e.f2).heap[wA.heap.size]? = some (.cells csB 5 frB)) :=
        ⟨HB1.out.trans ((below_bytes wA 5 e.f2).mono HB1.out.size), Kd.R_below HO1.out (below_bytes wA 5 e.f2), (Lib.bytesWorld_at_old wA 5 e.f2 _ (heap_lt HBX.out)).trans HBX.out, hrowB⟩
      have HCS := Aside0.mk hcsB
      have hf2b : e.f2.size ≤ 2000 := by have := HS1.out; omega
      clear hrowB hcsB hcv hc1 hc2 HBX HO1 HB1 HW2 HN hx0 hx1 hx2 hcut
      generalize wr.heap.size = gE at *
      generalize grownCap wA e.f2.size 0 5 = cB at *
      generalize wA.heap.size = gB at *
      generalize Lib.bytesWorld wA 5 e.f2 = W0 at *
      generalize u5 = uz at *
      go_loopw [5, 28] (fun out i wx => ∃ (q : Nat), q ≤ e.f2.size ∧ i = .int .i64 q ∧ Aside0 (Kd.R k71 71 wx w.heap.size (fun _ => True) out (pre.map encT ++ List.map encT ((T.take e.f0.toNat).drop o.toNat) ++ (((bs e.f2).take q).map insT).map encT) ∧ Below w.heap.size w wx ∧ wx.heap[gE]? = some (.cells #[.int .i64 e.f0, .int .i64 e.f1, .string e.f2] 43 (0, 0)) ∧ wx.heap[gB]? = some (.cells csB 5 frB))) (fun _ i _ => e.f2.size - (intOf i).toNat)
      case atStart => exact ⟨0, Nat.zero_le _, rfl, ⟨by simpa using hB0.out.2.1, hB0.out.1, hB0.out.2.2.1, hB0.out.2.2.2⟩⟩
      case round =>
        obtain ⟨q, hq, rfl, HX⟩ := hrel
        by_cases hltq : q < e.f2.size
        · have hcb := (Lib.cell_of_heap HX.out.2.2.2 q).trans (HCS.out q hltq)
          have HTS := Aside0.mk (take_succ_bs e.f2 q hltq)
          generalize (bs e.f2).getD q 0 = b at *
          go_wp2_with (at_builtin; refine Kd.R_append k71 (w0 := w) w.heap.size rfl (.tmp 32) (.tmp 35) 62 71 (.agg #[.int .u8 0, .int .i64 0]) 16 rfl Try.underlying62 infoT rfl (by decide) (by omega) u5 (pre.map encT ++ List.map encT ((T.take e.f0.toNat).drop o.toNat) ++ (((bs e.f2).take q).map insT).map encT) (encT (insT b)) [.int .u8 b.toNat, .int .i64 (-1)] (fun _ => True) (fun _ => False) rfl rfl (k71_mkM _ _ _ (encT (insT b))) (fun _ h => h.elim) (fun _ _ => trivial) HX.out.1 HX.out.2.1 HX.out.2.1.size (by simp only [List.length_append, List.length_map, List.length_take, List.length_drop, bs_length]; have := HS1.out; omega) ?_; intro v2 wD ho hb hg hat; have hN := Aside0.mk (And.intro ho (And.intro hb (And.intro (boxKept HX.out.1 HX.out.2.2.1 (by decide) hg) (boxKept HX.out.1 HX.out.2.2.2 (by decide) hg)))); clear ho hb hg hat)
          go_roundw
          case rel => exact ⟨q + 1, by omega, by go_num, ⟨by rw [HTS.out, List.map_append, List.map_append, ← List.append_assoc]; exact hN.out.1, hN.out.2.1, hN.out.2.2.1, hN.out.2.2.2⟩⟩
          case measure => simp [intOf]; omega
        · have hqe : q = e.f2.size := by omega
          have hfin : pre.map encT ++ List.map encT ((T.take e.f0.toNat).drop o.toNat) ++ (((bs e.f2).take q).map insT).map encT = (pre ++ (T.take e.f0.toNat).drop o.toNat ++ (bs e.f2).map insT).map encT := by
            rw [List.take_of_length_le (l := bs e.f2) (i := q) (by rw [bs_length]; omega), List.map_append, List.map_append]
          have HXR := Aside0.mk (hfin ▸ HX.out.1)
          have hc1 : wr.cell? ⟨gE, 1, none⟩ = some (.int .i64 e.f1) := (Lib.cell_of_heap HX.out.2.2.1 1).trans rfl
          have HXB := Aside0.mk HX.out.2.1
          clear hqe hfin HX
          go_wp2_with fail
          go_roundw
          case rel => exact ⟨j + 1, e.f1, by omega, by go_num, rfl, by omega, by omega, ⟨e.f1, _, by omega, O4.out, HS2.out, HXR.out⟩, HXB⟩
          case measure => simp [intOf]; omega
    · obtain ⟨p, pre, hp, hok, happ, hown⟩ := HI.out
      rw [List.drop_eq_nil_of_le (by omega)] at happ
      simp only [app] at happ
      obtain ⟨i0, hi0, _, hsz0, _⟩ := info_parts infoT
      have hcut := cut_from (P := Try.prog) 62 71 .i64 Try.underlying62 hi0 2 hsz0 A0 T.length c0 o ho0 hoL
      have hdr := Kd.C_drop (m := o.toNat) (at_len2 (Kd.C_below HT.out HBr.out)) (by rw [HLEN.out]; omega) (by rw [HLEN.out]; exact HC0.out)
      obtain ⟨AX, hAX⟩ : ∃ AX, AX = (if c0 = o.toNat then A0 else A0.map (·.add (o.toNat * 2))) := ⟨_, rfl⟩
      rw [show k71.sz = 2 from rfl, ← hAX] at hdr
      rw [← hAX] at hcut
      rw [← List.map_drop] at hdr
      have HD := Aside0.mk (at_len (n := T.length - o.toNat) (by rw [List.length_drop]) hdr)
      have hln : (pre.map encT).length + (T.length - o.toNat) ≤ 2000 := by
        have hl := app_length insT T l1 0 (-1) HK1.out (by omega) (by omega) (by omega)
        rw [← happ] at hl
        simp only [List.length_append, List.length_drop] at hl
        rw [List.length_map]
        have := HK2.out
        omega
      have HLN := Aside0.mk hln
      have hfin : pre.map encT ++ (T.drop o.toNat).map encT = (app insT T 0 l1).map encT := by rw [← happ, List.map_append]
      have HFIN := Aside0.mk hfin
      have HO := Aside0.mk hown
      clear hAX hdr happ hown HI hok hln hfin hi0 hsz0
      go_wp2_with (at_builtin; refine Kd.R_append_rows k71 (w0 := w) w.heap.size rfl (.tmp 41) (.tmp 44) 62 71 (.agg #[.int .u8 0, .int .i64 0]) 16 rfl Try.underlying62 infoT rfl (by decide) (by omega) u5 (pre.map encT) (List.map encT (T.drop o.toNat)) _ _ _ (fun _ => True) (fun _ => False) rfl rfl HO.out HD.out (fun x cs h => scalarKM x cs h) (fun _ h => h.elim) (fun _ _ => trivial) HBr.out HBr.out.size (by have := HLN.out; omega) ?_; intro v1 wA ho hb hg hat; have hN := Aside0.mk (And.intro ho hb); clear ho hb hg hat)
      go_ret
      exact ⟨_, rfl, by rw [← HFIN.out]; exact hN.out.1, hN.out.2⟩
end Go.Proofs.Ytlhaeonjobcdbaa.PA
