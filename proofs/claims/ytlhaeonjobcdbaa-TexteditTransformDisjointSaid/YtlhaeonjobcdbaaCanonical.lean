/- textedit.canonical: what it answers, walked, its closure by contract. Conditions: at most 2000 traced bytes, their origins in order below the given length, which is at most 2000. -/
import Derived.Test.YtlhaeonjobcdbaaFlush
import Derived.Outline
namespace Go.Proofs.Ytlhaeonjobcdbaa.PA
open Go.RowKit Go.Proofs.YtlhaeonjobcdbaaW.PrintWords Go.Proofs.YtlhaeonjobcdbaaW.PrintLast
set_option linter.unusedVariables false

/-- The origins are -1 or rise from st on, below L. -/
def Org (L : Int) : Int → List TB → Prop
  | _, [] => True
  | st, x :: r => if x.2 = -1 then Org L st r else st ≤ x.2 ∧ x.2 < L ∧ Org L (x.2 + 1) r
theorem Org.of_good {src : List UInt8} : ∀ {T : List TB} {st : Int}, Good src st T → Org src.length st T
  | [], _, _ => trivial
  | (b, o) :: r, st, h => by
    unfold Org
    by_cases ho : o = -1
    · subst ho
      rw [if_pos rfl]
      exact Org.of_good (Good_ins.1 h)
    · rw [if_neg ho]
      obtain ⟨h1, h2, _, h4⟩ := (Good_keep ho).1 h
      exact ⟨h1, h2, Org.of_good h4⟩

theorem FS_alloc {B bS bP bO : Nat} {st : Int} {pend : List UInt8} {outs : List S43} {w : World} (h : FS B bS bP bO st pend outs w) (o : Obj) : FS B bS bP bO st pend outs (w.alloc o) := by
  obtain ⟨hB, hS, ⟨pv, hP, hPR⟩, ⟨ov, hO, hOR⟩⟩ := h
  exact ⟨⟨hB.1, hB.2.1, hB.2.2.1, by have : (w.alloc o).heap.size = w.heap.size + 1 := Array.size_push ..; omega⟩, boxKept_alloc hS o, ⟨pv, boxKept_alloc hP o, Kd.R_alloc hPR o⟩, ⟨ov, boxKept_alloc hO o, Kd.R_alloc hOR o⟩⟩
theorem below_of_grown {α : Type} {d : Kd α} {q B : Nat} {W w1 : World} {ok : Nat → Prop} {v : Value} {xs : List α} (h : Kd.R d q W B ok v xs) (hg : W.grownBy w1 v.ownBlock) (hB : B ≤ W.heap.size) : Below B W w1 := by
  obtain ⟨_, inner, ho, _⟩ := h
  exact (Below.refl B W).grown hg hB (own_base ho)
def canErr (C : List S43) : Int := if C.length > 50 then 2 else 0
def canOut (C : List S43) : List S43 := if C.length > 50 then [] else C
theorem size_alloc1 (W : World) (o : Obj) : (W.alloc o).heap.size = W.heap.size + 1 := Array.size_push ..
theorem below3 (w : World) (a b c : Obj) : Below w.heap.size w (((w.alloc a).alloc b).alloc c) := by
  have s1 : ∀ (W : World) (o : Obj), (W.alloc o).heap.size = W.heap.size + 1 := fun W o => Array.size_push ..
  exact (((Below.refl _ _).alloc (Nat.le_refl _) _).alloc (by rw [s1]; omega) _).alloc (by rw [s1, s1]; omega) _
theorem FS_new (w : World) : FS w.heap.size (w.heap.size + 1) (w.heap.size + 1 + 1) w.heap.size 0 [] [] (((w.alloc (.cells #[.slice none 0 0] 22)).alloc (.cells #[.int .i64 0] 3)).alloc (.cells #[.slice none 0 0] 51)) := by
  have s1 : ∀ (W : World) (o : Obj), (W.alloc o).heap.size = W.heap.size + 1 := fun W o => Array.size_push ..
  have h1 : (w.alloc (.cells #[.slice none 0 0] 22)).heap[w.heap.size]? = some (.cells #[.slice none 0 0] 22 (0, 0)) := heap_alloc_new w _
  have h2 : ((w.alloc (.cells #[.slice none 0 0] 22)).alloc (.cells #[.int .i64 0] 3)).heap[w.heap.size + 1]? = some (.cells #[.int .i64 0] 3 (0, 0)) := by
    have := heap_alloc_new (w.alloc (.cells #[.slice none 0 0] 22)) (.cells #[.int .i64 0] 3)
    rwa [s1] at this
  have h3 : (((w.alloc (.cells #[.slice none 0 0] 22)).alloc (.cells #[.int .i64 0] 3)).alloc (.cells #[.slice none 0 0] 51)).heap[w.heap.size + 1 + 1]? = some (.cells #[.slice none 0 0] 51 (0, 0)) := by
    have := heap_alloc_new ((w.alloc (.cells #[.slice none 0 0] 22)).alloc (.cells #[.int .i64 0] 3)) (.cells #[.slice none 0 0] 51)
    rwa [s1, s1] at this
  exact ⟨⟨by omega, by omega, Nat.le_refl _, by rw [s1, s1, s1]; omega⟩, boxKept_alloc h2 _, ⟨_, h3, Kd.R_nil _ _ _ _ _⟩, ⟨_, boxKept_alloc (boxKept_alloc h1 _) _, Kd.R_nil _ _ _ _ _⟩⟩
theorem flush_yes {st o : Int} {pend : List UInt8} (h : st < o ∨ pend ≠ []) : flushP st o pend = [⟨st, o, ⟨pend.toArray⟩⟩] := by unfold flushP; rw [if_pos h]
theorem flush_no {st o : Int} (h : ¬ st < o) : flushP st o [] = [] := by unfold flushP; rw [if_neg (by simp; omega)]
theorem FS_push {B bS bP bO : Nat} {st : Int} {pend : List UInt8} {b : UInt8} {outs : List S43} {W w1 : World} {pv ov v1 : Value} (hB : B ≤ bS ∧ B ≤ bP ∧ B ≤ bO ∧ B ≤ W.heap.size) (hS : W.heap[bS]? = some (.cells #[.int .i64 st] 3 (0, 0))) (hP : W.heap[bP]? = some (.cells #[pv] 51 (0, 0))) (hPR : Kd.R (Kd.int .u8) 5 W B (fun _ => True) pv (toI pend)) (hO : W.heap[bO]? = some (.cells #[ov] 22 (0, 0)))
    (hOR : Kd.R k43 43 W B (fun _ => True) ov outs) (h1 : Kd.R (Kd.int .u8) 5 w1 B (fun _ => True) v1 (toI pend ++ [(b.toNat : Int)])) (hb : Below B W w1) (hg : W.grownBy w1 pv.ownBlock) :
    w1.frozen? ⟨bP, 0, none⟩ = false ∧ w1.cell? ⟨bP, 0, none⟩ = some pv ∧ FS B bS bP bO st (pend ++ [b]) outs (w1.setCell ⟨bP, 0, none⟩ v1) := by
  have kS := keptK hPR hS (by decide) hg
  have kP := keptK hPR hP (by decide) hg
  have kO := keptK hPR hO (by decide) hg
  have kR : Kd.R k43 43 w1 B (fun _ => True) ov outs := Kd.R_mono (Kd.R_grown (Kd.R_apartR hOR hPR (by decide)) hg (fun _ hk => hk.2)) (fun _ _ => trivial)
  have h2 : Kd.R (Kd.int .u8) 5 w1 B (fun _ => True) v1 (toI (pend ++ [b])) := by
    have : toI (pend ++ [b]) = toI pend ++ [(b.toNat : Int)] := List.map_append
    rw [this]
    exact h1
  refine ⟨blk_frozen kP 0, (blk_cell kP 0).trans rfl, ⟨hB.1, hB.2.1, hB.2.2.1, ?_⟩, set_far kS (Ne.symm (ne_of_types kP kS (by decide))) _, ⟨_, set_same kP _, Kd.R_set h2 kP (by decide) 0 _⟩, ⟨ov, set_far kO (Ne.symm (ne_of_types kP kO (by decide))) _, Kd.R_set kR kP (by decide) 0 _⟩⟩
  have : (w1.setCell ⟨bP, 0, none⟩ v1).heap.size = w1.heap.size := by simp [World.setCell]
  have := hb.size
  omega

set_option maxHeartbeats 8000000 in
set_option maxRecDepth 100000 in
theorem canonical_calls (L : Int) (A0 : Option Addr) (c0 : Nat) (T : List TB) (w : World) (hT : Kd.C k71 w A0 T.length (T.map encT)) (hc0 : T.length ≤ c0) (hL0 : 0 ≤ L) (hL : L ≤ 2000) (hTl : T.length ≤ 2000) (horg : Org L 0 T) :
    Calls Try.prog 28 #[.int .i64 L, .slice A0 T.length c0] w fun e w' => ∃ v, e = .returned (.tuple #[v, .int .i64 (canErr (canon L 0 [] T))]) ∧ Kd.R k43 43 w' w.heap.size (fun _ => True) v (canOut (canon L 0 [] T)) ∧ Below w.heap.size w w' := by
  have HT := Aside0.mk hT
  have HC0 := Aside0.mk hc0
  have HORG := Aside0.mk horg
  have huT := Try.underlying71
  clear hT hc0 horg
  go_enter Try.func28, Try.ntmps28
  go_wp2
  have hst : Aside0 (FS w.heap.size (w.heap.size + 1) (w.heap.size + 1 + 1) w.heap.size 0 [] [] (((w.alloc (.cells #[.slice none 0 0] 22)).alloc (.cells #[.int .i64 0] 3)).alloc (.cells #[.slice none 0 0] 51)) ∧ Below w.heap.size w (((w.alloc (.cells #[.slice none 0 0] 22)).alloc (.cells #[.int .i64 0] 3)).alloc (.cells #[.slice none 0 0] 51))) := ⟨FS_new w, below3 w _ _ _⟩
  go_loopw [15] (fun i wr => ∃ (j : Nat), j ≤ T.length ∧ i = .int .i64 j ∧ Aside0 (∃ (st : Int) (pend : List UInt8) (outs : List S43), FS w.heap.size (w.heap.size + 1) (w.heap.size + 1 + 1) w.heap.size st pend outs wr ∧ outs ++ canon L st pend (T.drop j) = canon L 0 [] T ∧ 0 ≤ st ∧ st ≤ L ∧ Org L st (T.drop j) ∧ pend.length ≤ j ∧ outs.length ≤ j) ∧ Aside0 (Below w.heap.size w wr)) (fun i _ => T.length - (intOf i).toNat)
  case atStart => exact ⟨0, Nat.zero_le _, rfl, ⟨0, [], [], hst.out.1, by simp, by omega, hL0, by simpa using HORG.out, by simp, by simp⟩, ⟨hst.out.2⟩⟩
  case round =>
    obtain ⟨j, hj, rfl, HI, HBr⟩ := hrel
    clear hst
    by_cases hlt : j < T.length
    · obtain ⟨st, pend, outs, hfs, hcan, hst0, hstL, horg, hpl, hol⟩ := HI.out
      clear HI
      rw [List.drop_eq_getElem_cons hlt] at hcan horg
      obtain ⟨ad, rfl, hx0, hx1⟩ := at_T71 (at_len2 (Kd.C_below HT.out HBr.out)) (j : Int) (by omega) (by rw [List.length_map]; omega)
      have hgd : rd_T71 (T.map encT) (j : Int) = encT T[j] := by
        unfold rd_T71
        rw [Int.toNat_natCast, List.getD_eq_getElem?_getD, List.getElem?_map, List.getElem?_eq_getElem hlt]
        rfl
      rw [hgd, Int.toNat_natCast] at hx0 hx1
      generalize T[j] = x at *
      obtain ⟨b, o⟩ := x
      have hxb : (encT (b, o)).f0 = (b.toNat : Int) := rfl
      have hxo : (encT (b, o)).f1 = o := rfl
      rw [hxb] at hx0
      rw [hxo] at hx1
      clear hxb hxo hgd
      have HFS := Aside0.mk (FS_alloc hfs (.cells #[.int .u8 b.toNat, .int .i64 o] 71))
      have HBb : Aside0 (Below w.heap.size w (wr.alloc (.cells #[.int .u8 b.toNat, .int .i64 o] 71))) := ⟨HBr.out.alloc HBr.out.size _⟩
      simp only [canon] at hcan
      unfold Org at horg
      simp only at horg
      by_cases ho : o = -1
      · subst ho
        rw [if_pos rfl] at hcan horg
        have HCAN := Aside0.mk hcan
        have HORG2 := Aside0.mk horg
        clear hcan horg hfs HORG
        obtain ⟨hB, hS, ⟨pv, hP, hPR⟩, ⟨ov, hO, hOR⟩⟩ := HFS.out
        have cP : (wr.alloc (.cells #[.int .u8 b.toNat, .int .i64 (-1)] 71)).cell? ⟨w.heap.size + 1 + 1, 0, none⟩ = some pv := (blk_cell hP 0).trans rfl
        have HH := Aside0.mk (And.intro hB (And.intro hS (And.intro hP (And.intro hPR (And.intro hO hOR)))))
        clear hB hS hP hPR hO hOR HFS
        go_wp2_with (at_builtin; refine Kd.R_append (Kd.int .u8) (w0 := w) w.heap.size rfl (.tmp 22) (.tmp 25) 51 5 (.int .u8 0) 1 rfl Try.underlying51 Bld.infoByte rfl (by decide) (by omega) pv (toI pend) (b.toNat : Int) [.int .u8 b.toNat] (fun _ => True) (fun _ => False) rfl (by rw [size_alloc1]; rfl) rfl (fun _ h => h.elim) (fun _ _ => trivial) HH.out.2.2.2.1 HBb.out HBb.out.size (by rw [toI_length]; omega) ?_; intro v1 w1 hr hb hg hat; obtain ⟨Av, cv, hv⟩ := Kd.R_slice hr; rw [List.length_append, List.length_singleton, toI_length] at hv; subst hv; obtain ⟨q1, q2, q3⟩ := FS_push HH.out.1 HH.out.2.1 HH.out.2.2.1 HH.out.2.2.2.1 HH.out.2.2.2.2.1 HH.out.2.2.2.2.2 hr (below_of_grown HH.out.2.2.2.1 hg HBb.out.size) hg; have Q3 := Aside0.mk q3; have Q4 := Aside0.mk (hb.setCell (p := ⟨w.heap.size + 1 + 1, 0, none⟩) (by show w.heap.size ≤ w.heap.size + 1 + 1; omega) (.slice Av (pend.length + 1) cv)); clear hr hb hg hat q3)
        go_roundw
        case rel => exact ⟨j + 1, by omega, by go_num, ⟨st, pend ++ [b], outs, Q3.out, HCAN.out, hst0, hstL, HORG2.out, by simp; omega, by omega⟩, ⟨Q4.out⟩⟩
        case measure => simp [intOf]; omega
      · rw [if_neg ho] at hcan horg
        obtain ⟨ho1, ho2, ho3⟩ := horg
        have HCAN := Aside0.mk hcan
        have HORG2 := Aside0.mk ho3
        have hob : (o == -1) = false := by simpa using ho
        clear hcan hfs HORG ho ho3
        by_cases hf : st < o ∨ pend ≠ []
        · have HF := Aside0.mk hf
          clear hf
          go_wp2_with (go_at_call 34; refine (flush_some w.heap.size (w.heap.size + 1) (w.heap.size + 1 + 1) w.heap.size st o pend outs _ HFS.out HF.out (by omega) (by omega) (by omega)).mono ?_; rintro e' w' ⟨rfl, hf1, hb1⟩; have Q3 := Aside0.mk hf1; have Q4 := Aside0.mk (HBb.out.trans hb1); clear hf1 hb1)
          go_roundw
          case rel => exact ⟨j + 1, by omega, by go_num, ⟨o + 1, [], _, Q3.out, by rw [← HCAN.out, List.append_assoc, flush_yes HF.out], by omega, by omega, HORG2.out, by simp, by simp; omega⟩, ⟨Q4.out⟩⟩
          case measure => simp [intOf]; omega
        · have hpe : pend = [] := Classical.byContradiction fun h => hf (.inr h)
          have hse : ¬ st < o := fun h => hf (.inl h)
          subst hpe
          clear hf
          go_wp2_with (go_at_call 34; refine (flush_none w.heap.size (w.heap.size + 1) (w.heap.size + 1 + 1) w.heap.size st o outs _ HFS.out (by omega) (by omega) (by omega)).mono ?_; rintro e' w' ⟨rfl, hf1, hb1⟩; have Q3 := Aside0.mk hf1; have Q4 := Aside0.mk (HBb.out.trans hb1); clear hf1 hb1)
          go_roundw
          case rel => exact ⟨j + 1, by omega, by go_num, ⟨o + 1, [], _, Q3.out, by rw [← HCAN.out, flush_no (by omega)]; rfl, by omega, by omega, HORG2.out, by simp, by omega⟩, ⟨Q4.out⟩⟩
          case measure => simp [intOf]; omega
    · obtain ⟨st, pend, outs, hfs, hcan, hst0, hstL, horg, hpl, hol⟩ := HI.out
      clear HI HORG
      rw [List.drop_eq_nil_of_le (by omega)] at hcan
      simp only [canon] at hcan
      have HFS := Aside0.mk hfs
      have HCAN := Aside0.mk hcan
      clear hfs hcan horg
      have hend : ∀ (W : World) (outs' : List S43), FS w.heap.size (w.heap.size + 1) (w.heap.size + 1 + 1) w.heap.size (L + 1) [] outs' W → outs' = canon L 0 [] T → outs'.length ≤ 2001 → ∃ (Av : Option Addr) (cv : Nat), W.cell? ⟨w.heap.size, 0, none⟩ = some (.slice Av outs'.length cv) ∧ Kd.R k43 43 W w.heap.size (fun _ => True) (.slice Av outs'.length cv) outs' := by
        intro W outs' hf he hl'
        obtain ⟨_, _, _, ⟨ov, hO, hOR⟩⟩ := hf
        obtain ⟨Av, cv, hv⟩ := Kd.R_slice hOR
        subst hv
        exact ⟨Av, cv, (blk_cell hO 0).trans rfl, hOR⟩
      have HEND := Aside0.mk hend
      clear hend
      by_cases hf : st < L ∨ pend ≠ []
      · have HF := Aside0.mk hf
        clear hf
        rw [flush_yes HF.out] at HCAN
        have hl2 : (outs ++ [(⟨st, L, ⟨pend.toArray⟩⟩ : S43)]).length ≤ 2001 := by simp; omega
        have HL2 := Aside0.mk hl2
        clear hl2
        go_wp2_with fail
        refine (flush_some w.heap.size (w.heap.size + 1) (w.heap.size + 1 + 1) w.heap.size st L pend outs _ HFS.out HF.out (by omega) (by omega) (by omega)).mono ?_
        rintro e' w' ⟨rfl, hf1, hb1⟩
        have HB1 := Aside0.mk (HBr.out.trans hb1)
        obtain ⟨Av, cv, hc, hR⟩ := HEND.out w' _ hf1 HCAN.out HL2.out
        rw [HCAN.out] at hc hR HL2
        have HRR := Aside0.mk hR
        clear hf1 hb1 hR HCAN HF HFS HEND
        have hl3 := HL2.out
        by_cases h50 : (canon L 0 [] T).length > 50
        · have hd1 : decide (50 < (canon L 0 [] T).length) = true := decide_eq_true h50
          have hd2 : decide ((50 : Int) < ((canon L 0 [] T).length : Int)) = true := decide_eq_true (by omega)
          have he1 : canErr (canon L 0 [] T) = 2 := if_pos h50
          have he2 : canOut (canon L 0 [] T) = [] := if_pos h50
          have HE := Aside0.mk (And.intro he1 he2)
          clear h50 he1 he2
          go_wp2
          go_ret2
          exact ⟨_, by rw [HE.out.1]; rfl, by rw [HE.out.2]; exact Kd.R_nil _ _ _ _ _, HB1.out⟩
        · have hd1 : decide (50 < (canon L 0 [] T).length) = false := decide_eq_false h50
          have hd2 : decide ((50 : Int) < ((canon L 0 [] T).length : Int)) = false := decide_eq_false (by omega)
          have he1 : canErr (canon L 0 [] T) = 0 := if_neg h50
          have he2 : canOut (canon L 0 [] T) = canon L 0 [] T := if_neg h50
          have HE := Aside0.mk (And.intro he1 he2)
          clear h50 he1 he2
          go_wp2
          go_ret2
          exact ⟨_, by rw [HE.out.1]; rfl, by rw [HE.out.2]; exact HRR.out, HB1.out⟩
      · have hpe : pend = [] := Classical.byContradiction fun h => hf (.inr h)
        have hse : ¬ st < L := fun h => hf (.inl h)
        subst hpe
        clear hf
        rw [flush_no hse, List.append_nil] at HCAN
        go_wp2_with fail
        refine (flush_none w.heap.size (w.heap.size + 1) (w.heap.size + 1 + 1) w.heap.size st L outs _ HFS.out (by omega) (by omega) (by omega)).mono ?_
        rintro e' w' ⟨rfl, hf1, hb1⟩
        have HB1 := Aside0.mk (HBr.out.trans hb1)
        obtain ⟨Av, cv, hc, hR⟩ := HEND.out w' _ hf1 HCAN.out (by omega)
        have hl3 : outs.length ≤ 2001 := by omega
        rw [HCAN.out] at hc hR hl3
        have HRR := Aside0.mk hR
        clear hf1 hb1 hR HCAN HFS HEND
        by_cases h50 : (canon L 0 [] T).length > 50
        · have hd1 : decide (50 < (canon L 0 [] T).length) = true := decide_eq_true h50
          have hd2 : decide ((50 : Int) < ((canon L 0 [] T).length : Int)) = true := decide_eq_true (by omega)
          have he1 : canErr (canon L 0 [] T) = 2 := if_pos h50
          have he2 : canOut (canon L 0 [] T) = [] := if_pos h50
          have HE := Aside0.mk (And.intro he1 he2)
          clear h50 he1 he2
          go_wp2
          go_ret2
          exact ⟨_, by rw [HE.out.1]; rfl, by rw [HE.out.2]; exact Kd.R_nil _ _ _ _ _, HB1.out⟩
        · have hd1 : decide (50 < (canon L 0 [] T).length) = false := decide_eq_false h50
          have hd2 : decide ((50 : Int) < ((canon L 0 [] T).length : Int)) = false := decide_eq_false (by omega)
          have he1 : canErr (canon L 0 [] T) = 0 := if_neg h50
          have he2 : canOut (canon L 0 [] T) = canon L 0 [] T := if_neg h50
          have HE := Aside0.mk (And.intro he1 he2)
          clear h50 he1 he2
          go_wp2
          go_ret2
          exact ⟨_, by rw [HE.out.1]; rfl, by rw [HE.out.2]; exact HRR.out, HB1.out⟩
end Go.Proofs.Ytlhaeonjobcdbaa.PA
