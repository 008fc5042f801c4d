-- WRITTEN BY drv.py (a program of this session's, over the kit's print program): Lean checks it.
import Derived.Test.YtldhhomeifjbeaaPAx0
import Derived.Test.YtldhhomeifjbeaaPAx7
import Derived.Test.YtldhhomeifjbeaaExtRank
namespace Go.Proofs.Ytldhhomeifjbeaa.PA
open Go.RowKit Go.Proofs.YtldhhomeifjbeaaW.PrintWords Go.Proofs.YtldhhomeifjbeaaW.PrintLast Go.Proofs.YtldhhomeifjbeaaW.PrintMore
attribute [local go_sem] max2_int min2_int max_two min_two max_three min_three max_four min_four   -- for this text's walks alone
set_option linter.unusedVariables false
set_option linter.unusedSimpArgs false

/-! ### glossatorkeep4_FuzzyEmptyPattern: function 6 -/
mutual
def glossatorkeep4_FuzzyEmptyPattern.l0 : Nat → List ByteArray → List Int → Int → Int → Option (Bool)
  | 0, _, _, _, _ => none
  | k + 1, x0, x3, x5, x6 => if x6 < (x0.length : Int) then (if 0 ≤ x6 then (if ((rdOf ByteArray.empty x0 x6).size : Int) ≤ 30 then (glossatorkeep4_FuzzyEmptyPattern.l0 k x0 x3 (wrap64 (x5 + 1)) (wrap64 (x6 + 1))) else (glossatorkeep4_FuzzyEmptyPattern.l0 k x0 x3 x5 (wrap64 (x6 + 1)))) else (none)) else (glossatorkeep4_FuzzyEmptyPattern.l1 k x0 x3 x5 1)
def glossatorkeep4_FuzzyEmptyPattern.l1 : Nat → List ByteArray → List Int → Int → Int → Option (Bool)
  | 0, _, _, _, _ => none
  | k + 1, x0, x3, x5, x7 => if x7 < (x3.length : Int) then (if 0 ≤ x7 then (if 0 ≤ (rd x3 x7) then (if (rd x3 x7) < (x0.length : Int) then (if 0 ≤ (wrap64 (x7 - 1)) then (if (wrap64 (x7 - 1)) < (x3.length : Int) then (if 0 ≤ (rd x3 (wrap64 (x7 - 1))) then (if (rd x3 (wrap64 (x7 - 1))) < (x0.length : Int) then (if ((rdOf ByteArray.empty x0 (rd x3 x7)).size : Int) < ((rdOf ByteArray.empty x0 (rd x3 (wrap64 (x7 - 1)))).size : Int) then (some false) else (glossatorkeep4_FuzzyEmptyPattern.l1 k x0 x3 x5 (wrap64 (x7 + 1)))) else (none)) else (none)) else (none)) else (none)) else (none)) else (none)) else (none)) else ((glossatorkeep4_fuzzyExamples.f k).bind fun t208 => (if t208 = true then (some ((x3.length : Int) == x5)) else (some false)))
end
def glossatorkeep4_FuzzyEmptyPattern.f (k : Nat) (l0 : List ByteArray) : Option (Bool) := (glossatorkeep4_fuzzyExamples.f k).bind fun t197 => (if t197 = true then ((fuzzy_Rank.f k (⟨#[]⟩ : ByteArray) l0).bind fun bt198 => (if bt198.2 = 0 then (glossatorkeep4_FuzzyEmptyPattern.l0 k l0 bt198.1 0 0) else ((glossatorkeep4_fuzzyExamples.f k).bind fun t202 => (if t202 = true then (some (decide ((l0.length : Int) > 200))) else (some false))))) else (some false))
theorem glossatorkeep4_FuzzyEmptyPattern.mono_l : ∀ k, (∀ y0 y1 y2 y3, LeO (glossatorkeep4_FuzzyEmptyPattern.l0 k y0 y1 y2 y3) (glossatorkeep4_FuzzyEmptyPattern.l0 (k + 1) y0 y1 y2 y3)) ∧ (∀ y0 y1 y2 y3, LeO (glossatorkeep4_FuzzyEmptyPattern.l1 k y0 y1 y2 y3) (glossatorkeep4_FuzzyEmptyPattern.l1 (k + 1) y0 y1 y2 y3))
  | 0 => ⟨fun _ _ _ _ r h => by simp [glossatorkeep4_FuzzyEmptyPattern.l0] at h, fun _ _ _ _ r h => by simp [glossatorkeep4_FuzzyEmptyPattern.l1] at h⟩
  | k + 1 => by
    obtain ⟨ih0, ih1⟩ := glossatorkeep4_FuzzyEmptyPattern.mono_l k
    refine ⟨?_, ?_⟩
    · intro y0 y1 y2 y3
      unfold glossatorkeep4_FuzzyEmptyPattern.l0
      repeat' first
      | (with_reducible exact ih0 _ _ _ _)
      | (with_reducible exact ih1 _ _ _ _)
      | (with_reducible exact fuzzy_Rank.mono _ _ _)
      | (with_reducible exact glossatorkeep4_fuzzyExamples.mono _)
      | (with_reducible exact LeO.refl _)
      | (with_reducible exact LeO.none _)
      | (with_reducible refine LeO.ite ?_ ?_)
      | (with_reducible refine LeO.bind ?_ (fun _ => ?_))
      | exact ih0 _ _ _ _
      | exact ih1 _ _ _ _
      | exact fuzzy_Rank.mono _ _ _
      | exact glossatorkeep4_fuzzyExamples.mono _
      | exact LeO.none _
      | refine LeO.ite ?_ ?_
      | refine LeO.bind ?_ (fun _ => ?_)
    · intro y0 y1 y2 y3
      unfold glossatorkeep4_FuzzyEmptyPattern.l1
      repeat' first
      | (with_reducible exact ih0 _ _ _ _)
      | (with_reducible exact ih1 _ _ _ _)
      | (with_reducible exact fuzzy_Rank.mono _ _ _)
      | (with_reducible exact glossatorkeep4_fuzzyExamples.mono _)
      | (with_reducible exact LeO.refl _)
      | (with_reducible exact LeO.none _)
      | (with_reducible refine LeO.ite ?_ ?_)
      | (with_reducible refine LeO.bind ?_ (fun _ => ?_))
      | exact ih0 _ _ _ _
      | exact ih1 _ _ _ _
      | exact fuzzy_Rank.mono _ _ _
      | exact glossatorkeep4_fuzzyExamples.mono _
      | exact LeO.none _
      | refine LeO.ite ?_ ?_
      | refine LeO.bind ?_ (fun _ => ?_)
theorem glossatorkeep4_FuzzyEmptyPattern.mono : ∀ a0 k, LeO (glossatorkeep4_FuzzyEmptyPattern.f k a0) (glossatorkeep4_FuzzyEmptyPattern.f (k + 1) a0) := by
  intro a0 k
  obtain ⟨ih0, ih1⟩ := glossatorkeep4_FuzzyEmptyPattern.mono_l k
  unfold glossatorkeep4_FuzzyEmptyPattern.f
  repeat' first
      | (with_reducible exact ih0 _ _ _ _)
      | (with_reducible exact ih1 _ _ _ _)
      | (with_reducible exact fuzzy_Rank.mono _ _ _)
      | (with_reducible exact glossatorkeep4_fuzzyExamples.mono _)
      | (with_reducible exact LeO.refl _)
      | (with_reducible exact LeO.none _)
      | (with_reducible refine LeO.ite ?_ ?_)
      | (with_reducible refine LeO.bind ?_ (fun _ => ?_))
      | exact ih0 _ _ _ _
      | exact ih1 _ _ _ _
      | exact fuzzy_Rank.mono _ _ _
      | exact glossatorkeep4_fuzzyExamples.mono _
      | exact LeO.none _
      | refine LeO.ite ?_ ?_
      | refine LeO.bind ?_ (fun _ => ?_)
set_option maxHeartbeats 8000000 in
set_option maxRecDepth 100000 in
theorem glossatorkeep4_FuzzyEmptyPattern.calls (k : Nat) (A0 : Option Addr) (c0 : Nat) (l0 : List ByteArray) (r : Bool) (w : World) (hr0 : Kd.C Kd.string w A0 l0.length l0) (hc0 : l0.length ≤ c0) (h : glossatorkeep4_FuzzyEmptyPattern.f k l0 = some r) :
    Calls Try.prog 6 #[.slice A0 l0.length c0] w fun e w' => e = .returned (.bool r) ∧ Below w.heap.size w w' := by
  have HR0 := Aside0.mk hr0
  have HC0 := Aside0.mk hc0
  clear hr0 hc0
  have HB := Aside0.mk (Below.refl w.heap.size w)
  have H : ((glossatorkeep4_fuzzyExamples.f k).bind fun t197 => (if t197 = true then ((fuzzy_Rank.f k (⟨#[]⟩ : ByteArray) l0).bind fun bt198 => (if bt198.2 = 0 then (glossatorkeep4_FuzzyEmptyPattern.l0 k l0 bt198.1 0 0) else ((glossatorkeep4_fuzzyExamples.f k).bind fun t202 => (if t202 = true then (some (decide ((l0.length : Int) > 200))) else (some false))))) else (some false))) = some r := h
  clear h
  replace H := Option.bind_eq_some_iff.mp H
  obtain ⟨t197, A20, H⟩ := H
  replace H : (if t197 = true then ((fuzzy_Rank.f k (⟨#[]⟩ : ByteArray) l0).bind fun bt198 => (if bt198.2 = 0 then (glossatorkeep4_FuzzyEmptyPattern.l0 k l0 bt198.1 0 0) else ((glossatorkeep4_fuzzyExamples.f k).bind fun t202 => (if t202 = true then (some (decide ((l0.length : Int) > 200))) else (some false))))) else (some false)) = some r := H
  have A2 := Aside0.mk A20
  clear A20
  by_cases c3 : t197 = true
  · subst c3
    have H1 : ((fuzzy_Rank.f k (⟨#[]⟩ : ByteArray) l0).bind fun bt198 => (if bt198.2 = 0 then (glossatorkeep4_FuzzyEmptyPattern.l0 k l0 bt198.1 0 0) else ((glossatorkeep4_fuzzyExamples.f k).bind fun t202 => (if t202 = true then (some (decide ((l0.length : Int) > 200))) else (some false))))) = some r := by rw [if_pos rfl] at H; exact H
    clear H
    have H := H1
    clear H1
    replace H := Option.bind_eq_some_iff.mp H
    obtain ⟨⟨t198, t199⟩, A40, H⟩ := H
    replace H : (if t199 = 0 then (glossatorkeep4_FuzzyEmptyPattern.l0 k l0 t198 0 0) else ((glossatorkeep4_fuzzyExamples.f k).bind fun t202 => (if t202 = true then (some (decide ((l0.length : Int) > 200))) else (some false)))) = some r := H
    have A4 := Aside0.mk A40
    clear A40
    by_cases c5 : t199 = 0
    · rw [if_pos c5] at H
      have c5b0 : (t199 == 0) = true := beq_iff_eq.mpr c5
      have c5b1 : (t199 != 0) = false := bne_eq_false_iff_eq.mpr c5
      clear c5
      have H' := Aside0.mk H
      clear H
      go_enter Try.func6, Try.ntmps6
      go_wp2_with (first | (go_at_call 7; (with_reducible refine (glossatorkeep4_fuzzyExamples.calls k  true _ A2.out).mono ?_); rintro e w6 ⟨rfl, hb⟩; have n0_ := Aside0.mk (below_step (by repeat (first | (with_reducible first | exact HB.out | apply below_alloc | apply pw_below_drewN | apply below_drew1) | exact HB.out)) hb); clear HB; have HB := n0_; clear n0_; (try clear hb); (try clear hb2); (try clear hk); (try clear hi)) | (go_at_call 11; (with_reducible refine (fuzzy_Rank.calls k (⟨#[]⟩ : ByteArray) _ _ l0 t198 t199 _ ?side1 ?side2 A4.out).mono ?_); (case side1 => repeat (first | exact (Kd.C_below HR0.out HB.out) | (with_reducible refine Kd.C_alloc ?_ _) | (with_reducible refine Kd.C_drewN ?_ _) | (with_reducible refine Kd.C_drew ?_))); (case side2 => exact HC0.out); rintro e w7 ⟨v200, rfl, ho0, hb⟩; have n0_ := Aside0.mk (Kd.R_lower ho0 (below_size (by repeat (first | (with_reducible first | exact HB.out | apply below_alloc | apply pw_below_drewN | apply below_drew1) | exact HB.out)))); have n1_ := Aside0.mk (below_step (by repeat (first | (with_reducible first | exact HB.out | apply below_alloc | apply pw_below_drewN | apply below_drew1) | exact HB.out)) hb); clear HB; have HO201 := n0_; have HB := n1_; clear n0_ n1_; (try clear hb); (try clear hb2); (try clear hk); (try clear hi); (try clear ho0)))
      repeat (go_quiet (first | (go_at_call 7; (with_reducible refine (glossatorkeep4_fuzzyExamples.calls k  true _ A2.out).mono ?_); rintro e w6 ⟨rfl, hb⟩; have n0_ := Aside0.mk (below_step (by repeat (first | (with_reducible first | exact HB.out | apply below_alloc | apply pw_below_drewN | apply below_drew1) | exact HB.out)) hb); clear HB; have HB := n0_; clear n0_; (try clear hb); (try clear hb2); (try clear hk); (try clear hi)) | (go_at_call 11; (with_reducible refine (fuzzy_Rank.calls k (⟨#[]⟩ : ByteArray) _ _ l0 t198 t199 _ ?side1 ?side2 A4.out).mono ?_); (case side1 => repeat (first | exact (Kd.C_below HR0.out HB.out) | (with_reducible refine Kd.C_alloc ?_ _) | (with_reducible refine Kd.C_drewN ?_ _) | (with_reducible refine Kd.C_drew ?_))); (case side2 => exact HC0.out); rintro e w7 ⟨v200, rfl, ho0, hb⟩; have n0_ := Aside0.mk (Kd.R_lower ho0 (below_size (by repeat (first | (with_reducible first | exact HB.out | apply below_alloc | apply pw_below_drewN | apply below_drew1) | exact HB.out)))); have n1_ := Aside0.mk (below_step (by repeat (first | (with_reducible first | exact HB.out | apply below_alloc | apply pw_below_drewN | apply below_drew1) | exact HB.out)) hb); clear HB; have HO201 := n0_; have HB := n1_; clear n0_ n1_; (try clear hb); (try clear hb2); (try clear hk); (try clear hi); (try clear ho0))); try go_wp2_with (first | (go_at_call 7; (with_reducible refine (glossatorkeep4_fuzzyExamples.calls k  true _ A2.out).mono ?_); rintro e w6 ⟨rfl, hb⟩; have n0_ := Aside0.mk (below_step (by repeat (first | (with_reducible first | exact HB.out | apply below_alloc | apply pw_below_drewN | apply below_drew1) | exact HB.out)) hb); clear HB; have HB := n0_; clear n0_; (try clear hb); (try clear hb2); (try clear hk); (try clear hi)) | (go_at_call 11; (with_reducible refine (fuzzy_Rank.calls k (⟨#[]⟩ : ByteArray) _ _ l0 t198 t199 _ ?side1 ?side2 A4.out).mono ?_); (case side1 => repeat (first | exact (Kd.C_below HR0.out HB.out) | (with_reducible refine Kd.C_alloc ?_ _) | (with_reducible refine Kd.C_drewN ?_ _) | (with_reducible refine Kd.C_drew ?_))); (case side2 => exact HC0.out); rintro e w7 ⟨v200, rfl, ho0, hb⟩; have n0_ := Aside0.mk (Kd.R_lower ho0 (below_size (by repeat (first | (with_reducible first | exact HB.out | apply below_alloc | apply pw_below_drewN | apply below_drew1) | exact HB.out)))); have n1_ := Aside0.mk (below_step (by repeat (first | (with_reducible first | exact HB.out | apply below_alloc | apply pw_below_drewN | apply below_drew1) | exact HB.out)) hb); clear HB; have HO201 := n0_; have HB := n1_; clear n0_ n1_; (try clear hb); (try clear hb2); (try clear hk); (try clear hi); (try clear ho0))))
      go_loopg [5, 6] k (fun kq v5 v6 w' => ∃ (x5_1 : Int) (x6_1 : Int), v5 = .int .i64 x5_1 ∧ v6 = .int .i64 x6_1 ∧ Aside0 (glossatorkeep4_FuzzyEmptyPattern.l0 kq l0 t198 x5_1 x6_1 = some r) ∧ Aside0 (kq ≤ k) ∧ Aside0 (Kd.R (Kd.int .i64) 3 w' w.heap.size (fun _ => True) v200 t198) ∧ Aside0 (Below w.heap.size w w'))
      case atStart => exact ⟨(0), (0), (by first | rfl | (simp; done) | (simp [*]; done)), (by first | rfl | (simp; done) | (simp [*]; done)), H', ⟨Nat.le_refl _⟩, ⟨by (with_reducible repeat (first | apply Kd.R_alloc | apply Kd.R_drewN | apply Kd.R_drew)); exact HO201.out⟩, ⟨by repeat (first | (with_reducible first | exact HB.out | apply below_alloc | apply pw_below_drewN | apply below_drew1) | exact HB.out)⟩⟩
      case round =>
        clear H'
        try clear p2
        try clear c3
        try clear p4
        try clear c5
        try clear c5b0
        try clear c5b1
        try clear c6
        obtain ⟨x5_1, x6_1, rfl, rfl, HA, HK1, HO_3, HB⟩ := hrel
        cases gk with
        | zero => exact absurd HA.out (by simp [glossatorkeep4_FuzzyEmptyPattern.l0])
        | succ k1 =>
          have H := HA.out
          clear HA
          simp only [glossatorkeep4_FuzzyEmptyPattern.l0] at H
          by_cases c8 : x6_1 < (l0.length : Int)
          · rw [if_pos c8] at H
            have c8b0 : decide (x6_1 < (l0.length : Int)) = true := decide_eq_true c8
            clear c8
            by_cases c9 : 0 ≤ x6_1
            · rw [if_pos c9] at H
              have c9b0 : decide (0 ≤ x6_1) = true := decide_eq_true c9
              clear c9
              by_cases c10 : ((rdOf ByteArray.empty l0 x6_1).size : Int) ≤ 30
              · rw [if_pos c10] at H
                have c10b0 : decide (((rdOf ByteArray.empty l0 x6_1).size : Int) ≤ 30) = true := decide_eq_true c10
                have c10b1 : decide ((rdOf ByteArray.empty l0 x6_1).size ≤ 30) = true := decide_eq_true (by omega)
                clear c10
                have H' := Aside0.mk H
                clear H
                have p203 : 0 ≤ (x6_1 : Int) := of_decide_eq_true (by first | (with_reducible assumption) | assumption)
                have q203 : x6_1 < (l0.length : Int) := of_decide_eq_true (by first | (with_reducible assumption) | assumption)
                obtain ⟨ad203, e203, hx203_0⟩ := Kd.at_string HR0.out x6_1 p203 q203
                cases e203
                replace hx203_0 := (HB.out.cell (World.block_lt_of_cell? w _ hx203_0)).trans hx203_0
                replace p203 := eq_true p203
                replace q203 := eq_true q203
                go_wp2
                repeat (go_quiet (fail); try go_wp2)
                go_roundg k1
                case measure => have := HK1.out; omega
                case rel => exact ⟨(wrap64 (x5_1 + 1)), (wrap64 (x6_1 + 1)), (by first | rfl | (simp; done) | (simp [*]; done)), (by first | rfl | (simp; done) | (simp [*]; done)), H', ⟨by have := HK1.out; omega⟩, ⟨by (with_reducible repeat (first | apply Kd.R_alloc | apply Kd.R_drewN | apply Kd.R_drew)); exact HO_3.out⟩, ⟨by repeat (first | (with_reducible first | exact HB.out | apply below_alloc | apply pw_below_drewN | apply below_drew1) | exact HB.out)⟩⟩
              · rw [if_neg c10] at H
                have c10b0 : decide (((rdOf ByteArray.empty l0 x6_1).size : Int) ≤ 30) = false := decide_eq_false c10
                have c10b1 : decide ((rdOf ByteArray.empty l0 x6_1).size ≤ 30) = false := decide_eq_false (by omega)
                clear c10
                have H' := Aside0.mk H
                clear H
                have p203 : 0 ≤ (x6_1 : Int) := of_decide_eq_true (by first | (with_reducible assumption) | assumption)
                have q203 : x6_1 < (l0.length : Int) := of_decide_eq_true (by first | (with_reducible assumption) | assumption)
                obtain ⟨ad203, e203, hx203_0⟩ := Kd.at_string HR0.out x6_1 p203 q203
                cases e203
                replace hx203_0 := (HB.out.cell (World.block_lt_of_cell? w _ hx203_0)).trans hx203_0
                replace p203 := eq_true p203
                replace q203 := eq_true q203
                go_wp2
                repeat (go_quiet (fail); try go_wp2)
                go_roundg k1
                case measure => have := HK1.out; omega
                case rel => exact ⟨(x5_1), (wrap64 (x6_1 + 1)), (by first | rfl | (simp; done) | (simp [*]; done)), (by first | rfl | (simp; done) | (simp [*]; done)), H', ⟨by have := HK1.out; omega⟩, ⟨by (with_reducible repeat (first | apply Kd.R_alloc | apply Kd.R_drewN | apply Kd.R_drew)); exact HO_3.out⟩, ⟨by repeat (first | (with_reducible first | exact HB.out | apply below_alloc | apply pw_below_drewN | apply below_drew1) | exact HB.out)⟩⟩
            · rw [if_neg c9] at H
              exact absurd H (by simp)
          · rw [if_neg c8] at H
            have c8b0 : decide (x6_1 < (l0.length : Int)) = false := decide_eq_false c8
            clear c8
            have H' := Aside0.mk H
            clear H
            go_wp2
            repeat (go_quiet (fail); try go_wp2)
            go_loopg [7] k1 (fun kq v7 w' => ∃ (x7_2 : Int), v7 = .int .i64 x7_2 ∧ Aside0 (glossatorkeep4_FuzzyEmptyPattern.l1 kq l0 t198 x5_1 x7_2 = some r) ∧ Aside0 (kq ≤ k1) ∧ Aside0 (Kd.R (Kd.int .i64) 3 w' w.heap.size (fun _ => True) v200 t198) ∧ Aside0 (Below w.heap.size w w'))
            case atStart => exact ⟨(1), (by first | rfl | (simp; done) | (simp [*]; done)), H', ⟨Nat.le_refl _⟩, ⟨by (with_reducible repeat (first | apply Kd.R_alloc | apply Kd.R_drewN | apply Kd.R_drew)); exact HO_3.out⟩, ⟨by repeat (first | (with_reducible first | exact HB.out | apply below_alloc | apply pw_below_drewN | apply below_drew1) | exact HB.out)⟩⟩
            case round =>
              clear H'
              try clear c1
              try clear p2
              try clear q2
              try clear hx2
              try clear c3
              try clear p4
              try clear c5
              try clear c5b0
              try clear c5b1
              try clear c6
              try clear p6
              try clear c8
              try clear c8b0
              try clear c9
              try clear c9b0
              try clear c10
              try clear c10b0
              try clear c10b1
              try clear hx203_0
              try clear p2
              try clear p203
              try clear p4
              try clear q203
              obtain ⟨x7_2, rfl, HA, HK2, HO_3, HB⟩ := hrel
              cases gk with
              | zero => exact absurd HA.out (by simp [glossatorkeep4_FuzzyEmptyPattern.l1])
              | succ k2 =>
                have H := HA.out
                clear HA
                simp only [glossatorkeep4_FuzzyEmptyPattern.l1] at H
                by_cases c11 : x7_2 < (t198.length : Int)
                · rw [if_pos c11] at H
                  have c11b0 : decide (x7_2 < (t198.length : Int)) = true := decide_eq_true c11
                  clear c11
                  by_cases c12 : 0 ≤ x7_2
                  · rw [if_pos c12] at H
                    have c12b0 : decide (0 ≤ x7_2) = true := decide_eq_true c12
                    clear c12
                    by_cases c13 : 0 ≤ (rd t198 x7_2)
                    · rw [if_pos c13] at H
                      have c13b0 : decide (0 ≤ (rd t198 x7_2)) = true := decide_eq_true c13
                      clear c13
                      by_cases c14 : (rd t198 x7_2) < (l0.length : Int)
                      · rw [if_pos c14] at H
                        have c14b0 : decide ((rd t198 x7_2) < (l0.length : Int)) = true := decide_eq_true c14
                        clear c14
                        obtain ⟨ji15, hji15⟩ : ∃ j_ : Int, (wrap64 (x7_2 - 1)) = j_ := ⟨_, rfl⟩
                        replace H : (if 0 ≤ (ji15) then (if (ji15) < (t198.length : Int) then (if 0 ≤ (rd t198 (ji15)) then (if (rd t198 (ji15)) < (l0.length : Int) then (if ((rdOf ByteArray.empty l0 (rd t198 x7_2)).size : Int) < ((rdOf ByteArray.empty l0 (rd t198 (ji15))).size : Int) then (some false) else (glossatorkeep4_FuzzyEmptyPattern.l1 k2 l0 t198 x5_1 (wrap64 (x7_2 + 1)))) else (none)) else (none)) else (none)) else (none)) = some r := by first | (rw [hji15] at H; exact H) | (simp only [hji15] at H ⊢; exact H)
                        have hji15w : (IntKind.i64.wrap (x7_2 - 1)) = ji15 := (i64_w _).trans hji15
                        by_cases c16 : 0 ≤ (ji15)
                        · rw [if_pos c16] at H
                          have c16b0 : decide (0 ≤ (ji15)) = true := decide_eq_true c16
                          clear c16
                          by_cases c17 : (ji15) < (t198.length : Int)
                          · rw [if_pos c17] at H
                            have c17b0 : decide ((ji15) < (t198.length : Int)) = true := decide_eq_true c17
                            clear c17
                            by_cases c18 : 0 ≤ (rd t198 (ji15))
                            · rw [if_pos c18] at H
                              have c18b0 : decide (0 ≤ (rd t198 (ji15))) = true := decide_eq_true c18
                              clear c18
                              by_cases c19 : (rd t198 (ji15)) < (l0.length : Int)
                              · rw [if_pos c19] at H
                                have c19b0 : decide ((rd t198 (ji15)) < (l0.length : Int)) = true := decide_eq_true c19
                                clear c19
                                by_cases c20 : ((rdOf ByteArray.empty l0 (rd t198 x7_2)).size : Int) < ((rdOf ByteArray.empty l0 (rd t198 (ji15))).size : Int)
                                · rw [if_pos c20] at H
                                  have c20b0 : decide (((rdOf ByteArray.empty l0 (rd t198 x7_2)).size : Int) < ((rdOf ByteArray.empty l0 (rd t198 (ji15))).size : Int)) = true := decide_eq_true c20
                                  have c20b1 : decide ((rdOf ByteArray.empty l0 (rd t198 x7_2)).size < (rdOf ByteArray.empty l0 (rd t198 (ji15))).size) = true := decide_eq_true (Int.ofNat_lt.mp c20)
                                  clear c20
                                  obtain rfl := Option.some.inj H
                                  obtain ⟨Ao21, co21, eo21⟩ := Kd.R_slice HO_3.out
                                  subst eo21
                                  have p204 : 0 ≤ (x7_2 : Int) := of_decide_eq_true (by first | (with_reducible assumption) | assumption)
                                  have q204 : x7_2 < (t198.length : Int) := of_decide_eq_true (by first | (with_reducible assumption) | assumption)
                                  obtain ⟨ad204, e204, hx204_0⟩ := Kd.at_int (Kd.R_reads' HO_3.out).2.2 x7_2 p204 q204
                                  cases e204
                                  replace p204 := eq_true p204
                                  replace q204 := eq_true q204
                                  have p205 : 0 ≤ ((rd t198 x7_2) : Int) := of_decide_eq_true (by first | (with_reducible assumption) | assumption)
                                  have q205 : (rd t198 x7_2) < (l0.length : Int) := of_decide_eq_true (by first | (with_reducible assumption) | assumption)
                                  obtain ⟨ad205, e205, hx205_0⟩ := Kd.at_string HR0.out (rd t198 x7_2) p205 q205
                                  cases e205
                                  replace hx205_0 := (HB.out.cell (World.block_lt_of_cell? w _ hx205_0)).trans hx205_0
                                  replace p205 := eq_true p205
                                  replace q205 := eq_true q205
                                  have p206 : 0 ≤ ((ji15) : Int) := of_decide_eq_true (by first | (with_reducible assumption) | assumption)
                                  have q206 : (ji15) < (t198.length : Int) := of_decide_eq_true (by first | (with_reducible assumption) | assumption)
                                  obtain ⟨ad206, e206, hx206_0⟩ := Kd.at_int (Kd.R_reads' HO_3.out).2.2 (ji15) p206 q206
                                  obtain rfl : ad204 = ad206 := (by injection e206)
                                  replace p206 := eq_true p206
                                  replace q206 := eq_true q206
                                  have p207 : 0 ≤ ((rd t198 (ji15)) : Int) := of_decide_eq_true (by first | (with_reducible assumption) | assumption)
                                  have q207 : (rd t198 (ji15)) < (l0.length : Int) := of_decide_eq_true (by first | (with_reducible assumption) | assumption)
                                  obtain ⟨ad207, e207, hx207_0⟩ := Kd.at_string HR0.out (rd t198 (ji15)) p207 q207
                                  obtain rfl : ad205 = ad207 := (by injection e207)
                                  replace hx207_0 := (HB.out.cell (World.block_lt_of_cell? w _ hx207_0)).trans hx207_0
                                  replace p207 := eq_true p207
                                  replace q207 := eq_true q207
                                  go_wp2
                                  repeat (go_quiet (fail); try go_wp2)
                                  go_ret
                                  exact ⟨by first | rfl | (simp [errW_none, errW_some] <;> rfl) | (simp only [← hji15]; first | rfl | (simp [errW_none, errW_some] <;> rfl)) | (simp [*, errW_none, errW_some] <;> rfl), by repeat (first | (with_reducible first | exact HB.out | apply below_alloc | apply pw_below_drewN | apply below_drew1) | exact HB.out)⟩
                                · rw [if_neg c20] at H
                                  have c20b0 : decide (((rdOf ByteArray.empty l0 (rd t198 x7_2)).size : Int) < ((rdOf ByteArray.empty l0 (rd t198 (ji15))).size : Int)) = false := decide_eq_false c20
                                  have c20b1 : decide ((rdOf ByteArray.empty l0 (rd t198 x7_2)).size < (rdOf ByteArray.empty l0 (rd t198 (ji15))).size) = false := decide_eq_false (fun h => c20 (Int.ofNat_lt.mpr h))
                                  clear c20
                                  have H' := Aside0.mk H
                                  clear H
                                  obtain ⟨Ao22, co22, eo22⟩ := Kd.R_slice HO_3.out
                                  subst eo22
                                  have p204 : 0 ≤ (x7_2 : Int) := of_decide_eq_true (by first | (with_reducible assumption) | assumption)
                                  have q204 : x7_2 < (t198.length : Int) := of_decide_eq_true (by first | (with_reducible assumption) | assumption)
                                  obtain ⟨ad204, e204, hx204_0⟩ := Kd.at_int (Kd.R_reads' HO_3.out).2.2 x7_2 p204 q204
                                  cases e204
                                  replace p204 := eq_true p204
                                  replace q204 := eq_true q204
                                  have p205 : 0 ≤ ((rd t198 x7_2) : Int) := of_decide_eq_true (by first | (with_reducible assumption) | assumption)
                                  have q205 : (rd t198 x7_2) < (l0.length : Int) := of_decide_eq_true (by first | (with_reducible assumption) | assumption)
                                  obtain ⟨ad205, e205, hx205_0⟩ := Kd.at_string HR0.out (rd t198 x7_2) p205 q205
                                  cases e205
                                  replace hx205_0 := (HB.out.cell (World.block_lt_of_cell? w _ hx205_0)).trans hx205_0
                                  replace p205 := eq_true p205
                                  replace q205 := eq_true q205
                                  have p206 : 0 ≤ ((ji15) : Int) := of_decide_eq_true (by first | (with_reducible assumption) | assumption)
                                  have q206 : (ji15) < (t198.length : Int) := of_decide_eq_true (by first | (with_reducible assumption) | assumption)
                                  obtain ⟨ad206, e206, hx206_0⟩ := Kd.at_int (Kd.R_reads' HO_3.out).2.2 (ji15) p206 q206
                                  obtain rfl : ad204 = ad206 := (by injection e206)
                                  replace p206 := eq_true p206
                                  replace q206 := eq_true q206
                                  have p207 : 0 ≤ ((rd t198 (ji15)) : Int) := of_decide_eq_true (by first | (with_reducible assumption) | assumption)
                                  have q207 : (rd t198 (ji15)) < (l0.length : Int) := of_decide_eq_true (by first | (with_reducible assumption) | assumption)
                                  obtain ⟨ad207, e207, hx207_0⟩ := Kd.at_string HR0.out (rd t198 (ji15)) p207 q207
                                  obtain rfl : ad205 = ad207 := (by injection e207)
                                  replace hx207_0 := (HB.out.cell (World.block_lt_of_cell? w _ hx207_0)).trans hx207_0
                                  replace p207 := eq_true p207
                                  replace q207 := eq_true q207
                                  go_wp2
                                  repeat (go_quiet (fail); try go_wp2)
                                  go_roundg k2
                                  case measure => have := HK1.out; have := HK2.out; omega
                                  case rel => exact ⟨(wrap64 (x7_2 + 1)), (by first | rfl | (simp; done) | (simp [*]; done)), H', ⟨by have := HK1.out; have := HK2.out; omega⟩, ⟨by (with_reducible repeat (first | apply Kd.R_alloc | apply Kd.R_drewN | apply Kd.R_drew)); exact HO_3.out⟩, ⟨by repeat (first | (with_reducible first | exact HB.out | apply below_alloc | apply pw_below_drewN | apply below_drew1) | exact HB.out)⟩⟩
                              · rw [if_neg c19] at H
                                exact absurd H (by simp)
                            · rw [if_neg c18] at H
                              exact absurd H (by simp)
                          · rw [if_neg c17] at H
                            exact absurd H (by simp)
                        · rw [if_neg c16] at H
                          exact absurd H (by simp)
                      · rw [if_neg c14] at H
                        exact absurd H (by simp)
                    · rw [if_neg c13] at H
                      exact absurd H (by simp)
                  · rw [if_neg c12] at H
                    exact absurd H (by simp)
                · rw [if_neg c11] at H
                  have c11b0 : decide (x7_2 < (t198.length : Int)) = false := decide_eq_false c11
                  clear c11
                  replace H := Option.bind_eq_some_iff.mp H
                  obtain ⟨t208, A230, H⟩ := H
                  replace H : (if t208 = true then (some ((t198.length : Int) == x5_1)) else (some false)) = some r := H
                  have A23 := Aside0.mk A230
                  clear A230
                  by_cases c24 : t208 = true
                  · subst c24
                    have H1 : (some ((t198.length : Int) == x5_1)) = some r := by rw [if_pos rfl] at H; exact H
                    clear H
                    have H := H1
                    clear H1
                    obtain rfl := Option.some.inj H
                    obtain ⟨Ao25, co25, eo25⟩ := Kd.R_slice HO_3.out
                    subst eo25
                    go_wp2_with (first | (go_at_call 7; (with_reducible refine (glossatorkeep4_fuzzyExamples.calls k2  true _ A23.out).mono ?_); rintro e w26 ⟨rfl, hb⟩; have n0_ := Aside0.mk (Kd.R_below (by (with_reducible repeat (first | apply Kd.R_alloc | apply Kd.R_drewN | apply Kd.R_drew)); exact HO_3.out) hb); have n1_ := Aside0.mk (below_step (by repeat (first | (with_reducible first | exact HB.out | apply below_alloc | apply pw_below_drewN | apply below_drew1) | exact HB.out)) hb); clear HO_3; clear HB; have HO_3 := n0_; have HB := n1_; clear n0_ n1_; (try clear hb); (try clear hb2); (try clear hk); (try clear hi)))
                    repeat (go_quiet (first | (go_at_call 7; (with_reducible refine (glossatorkeep4_fuzzyExamples.calls k2  true _ A23.out).mono ?_); rintro e w26 ⟨rfl, hb⟩; have n0_ := Aside0.mk (Kd.R_below (by (with_reducible repeat (first | apply Kd.R_alloc | apply Kd.R_drewN | apply Kd.R_drew)); exact HO_3.out) hb); have n1_ := Aside0.mk (below_step (by repeat (first | (with_reducible first | exact HB.out | apply below_alloc | apply pw_below_drewN | apply below_drew1) | exact HB.out)) hb); clear HO_3; clear HB; have HO_3 := n0_; have HB := n1_; clear n0_ n1_; (try clear hb); (try clear hb2); (try clear hk); (try clear hi))); try go_wp2_with (first | (go_at_call 7; (with_reducible refine (glossatorkeep4_fuzzyExamples.calls k2  true _ A23.out).mono ?_); rintro e w26 ⟨rfl, hb⟩; have n0_ := Aside0.mk (Kd.R_below (by (with_reducible repeat (first | apply Kd.R_alloc | apply Kd.R_drewN | apply Kd.R_drew)); exact HO_3.out) hb); have n1_ := Aside0.mk (below_step (by repeat (first | (with_reducible first | exact HB.out | apply below_alloc | apply pw_below_drewN | apply below_drew1) | exact HB.out)) hb); clear HO_3; clear HB; have HO_3 := n0_; have HB := n1_; clear n0_ n1_; (try clear hb); (try clear hb2); (try clear hk); (try clear hi))))
                    go_ret
                    exact ⟨by first | rfl | (simp [errW_none, errW_some] <;> rfl) | (simp [*, errW_none, errW_some] <;> rfl), by repeat (first | (with_reducible first | exact HB.out | apply below_alloc | apply pw_below_drewN | apply below_drew1) | exact HB.out)⟩
                  · replace c24 := Bool.eq_false_iff.mpr c24
                    subst c24
                    have H1 : (some false) = some r := by rw [if_neg (show ¬ (false = true) by decide)] at H; exact H
                    clear H
                    have H := H1
                    clear H1
                    obtain rfl := Option.some.inj H
                    obtain ⟨Ao27, co27, eo27⟩ := Kd.R_slice HO_3.out
                    subst eo27
                    go_wp2_with (first | (go_at_call 7; (with_reducible refine (glossatorkeep4_fuzzyExamples.calls k2  false _ A23.out).mono ?_); rintro e w28 ⟨rfl, hb⟩; have n0_ := Aside0.mk (Kd.R_below (by (with_reducible repeat (first | apply Kd.R_alloc | apply Kd.R_drewN | apply Kd.R_drew)); exact HO_3.out) hb); have n1_ := Aside0.mk (below_step (by repeat (first | (with_reducible first | exact HB.out | apply below_alloc | apply pw_below_drewN | apply below_drew1) | exact HB.out)) hb); clear HO_3; clear HB; have HO_3 := n0_; have HB := n1_; clear n0_ n1_; (try clear hb); (try clear hb2); (try clear hk); (try clear hi)))
                    repeat (go_quiet (first | (go_at_call 7; (with_reducible refine (glossatorkeep4_fuzzyExamples.calls k2  false _ A23.out).mono ?_); rintro e w28 ⟨rfl, hb⟩; have n0_ := Aside0.mk (Kd.R_below (by (with_reducible repeat (first | apply Kd.R_alloc | apply Kd.R_drewN | apply Kd.R_drew)); exact HO_3.out) hb); have n1_ := Aside0.mk (below_step (by repeat (first | (with_reducible first | exact HB.out | apply below_alloc | apply pw_below_drewN | apply below_drew1) | exact HB.out)) hb); clear HO_3; clear HB; have HO_3 := n0_; have HB := n1_; clear n0_ n1_; (try clear hb); (try clear hb2); (try clear hk); (try clear hi))); try go_wp2_with (first | (go_at_call 7; (with_reducible refine (glossatorkeep4_fuzzyExamples.calls k2  false _ A23.out).mono ?_); rintro e w28 ⟨rfl, hb⟩; have n0_ := Aside0.mk (Kd.R_below (by (with_reducible repeat (first | apply Kd.R_alloc | apply Kd.R_drewN | apply Kd.R_drew)); exact HO_3.out) hb); have n1_ := Aside0.mk (below_step (by repeat (first | (with_reducible first | exact HB.out | apply below_alloc | apply pw_below_drewN | apply below_drew1) | exact HB.out)) hb); clear HO_3; clear HB; have HO_3 := n0_; have HB := n1_; clear n0_ n1_; (try clear hb); (try clear hb2); (try clear hk); (try clear hi))))
                    go_ret
                    exact ⟨by first | rfl | (simp [errW_none, errW_some] <;> rfl) | (simp [*, errW_none, errW_some] <;> rfl), by repeat (first | (with_reducible first | exact HB.out | apply below_alloc | apply pw_below_drewN | apply below_drew1) | exact HB.out)⟩
    · rw [if_neg c5] at H
      have c5b0 : (t199 == 0) = false := beq_eq_false_iff_ne.mpr c5
      have c5b1 : (t199 != 0) = true := bne_iff_ne.mpr c5
      replace H := Option.bind_eq_some_iff.mp H
      obtain ⟨t202, A290, H⟩ := H
      replace H : (if t202 = true then (some (decide ((l0.length : Int) > 200))) else (some false)) = some r := H
      have A29 := Aside0.mk A290
      clear A290
      by_cases c30 : t202 = true
      · subst c30
        have H1 : (some (decide ((l0.length : Int) > 200))) = some r := by rw [if_pos rfl] at H; exact H
        clear H
        have H := H1
        clear H1
        obtain rfl := Option.some.inj H
        go_enter Try.func6, Try.ntmps6
        go_wp2_with (first | (go_at_call 7; (with_reducible refine (glossatorkeep4_fuzzyExamples.calls k  true _ A2.out).mono ?_); rintro e w31 ⟨rfl, hb⟩; have n0_ := Aside0.mk (below_step (by repeat (first | (with_reducible first | exact HB.out | apply below_alloc | apply pw_below_drewN | apply below_drew1) | exact HB.out)) hb); clear HB; have HB := n0_; clear n0_; (try clear hb); (try clear hb2); (try clear hk); (try clear hi)) | (go_at_call 11; (with_reducible refine (fuzzy_Rank.calls k (⟨#[]⟩ : ByteArray) _ _ l0 t198 t199 _ ?side1 ?side2 A4.out).mono ?_); (case side1 => repeat (first | exact (Kd.C_below HR0.out HB.out) | (with_reducible refine Kd.C_alloc ?_ _) | (with_reducible refine Kd.C_drewN ?_ _) | (with_reducible refine Kd.C_drew ?_))); (case side2 => exact HC0.out); rintro e w32 ⟨v200, rfl, ho0, hb⟩; have n0_ := Aside0.mk (Kd.R_lower ho0 (below_size (by repeat (first | (with_reducible first | exact HB.out | apply below_alloc | apply pw_below_drewN | apply below_drew1) | exact HB.out)))); have n1_ := Aside0.mk (below_step (by repeat (first | (with_reducible first | exact HB.out | apply below_alloc | apply pw_below_drewN | apply below_drew1) | exact HB.out)) hb); clear HB; have HO201 := n0_; have HB := n1_; clear n0_ n1_; (try clear hb); (try clear hb2); (try clear hk); (try clear hi); (try clear ho0)) | (go_at_call 7; (with_reducible refine (glossatorkeep4_fuzzyExamples.calls k  true _ A29.out).mono ?_); rintro e w33 ⟨rfl, hb⟩; have n0_ := Aside0.mk (Kd.R_below (by (with_reducible repeat (first | apply Kd.R_alloc | apply Kd.R_drewN | apply Kd.R_drew)); exact HO201.out) hb); have n1_ := Aside0.mk (below_step (by repeat (first | (with_reducible first | exact HB.out | apply below_alloc | apply pw_below_drewN | apply below_drew1) | exact HB.out)) hb); clear HO201; clear HB; have HO201 := n0_; have HB := n1_; clear n0_ n1_; (try clear hb); (try clear hb2); (try clear hk); (try clear hi)))
        repeat (go_quiet (first | (go_at_call 7; (with_reducible refine (glossatorkeep4_fuzzyExamples.calls k  true _ A2.out).mono ?_); rintro e w31 ⟨rfl, hb⟩; have n0_ := Aside0.mk (below_step (by repeat (first | (with_reducible first | exact HB.out | apply below_alloc | apply pw_below_drewN | apply below_drew1) | exact HB.out)) hb); clear HB; have HB := n0_; clear n0_; (try clear hb); (try clear hb2); (try clear hk); (try clear hi)) | (go_at_call 11; (with_reducible refine (fuzzy_Rank.calls k (⟨#[]⟩ : ByteArray) _ _ l0 t198 t199 _ ?side1 ?side2 A4.out).mono ?_); (case side1 => repeat (first | exact (Kd.C_below HR0.out HB.out) | (with_reducible refine Kd.C_alloc ?_ _) | (with_reducible refine Kd.C_drewN ?_ _) | (with_reducible refine Kd.C_drew ?_))); (case side2 => exact HC0.out); rintro e w32 ⟨v200, rfl, ho0, hb⟩; have n0_ := Aside0.mk (Kd.R_lower ho0 (below_size (by repeat (first | (with_reducible first | exact HB.out | apply below_alloc | apply pw_below_drewN | apply below_drew1) | exact HB.out)))); have n1_ := Aside0.mk (below_step (by repeat (first | (with_reducible first | exact HB.out | apply below_alloc | apply pw_below_drewN | apply below_drew1) | exact HB.out)) hb); clear HB; have HO201 := n0_; have HB := n1_; clear n0_ n1_; (try clear hb); (try clear hb2); (try clear hk); (try clear hi); (try clear ho0)) | (go_at_call 7; (with_reducible refine (glossatorkeep4_fuzzyExamples.calls k  true _ A29.out).mono ?_); rintro e w33 ⟨rfl, hb⟩; have n0_ := Aside0.mk (Kd.R_below (by (with_reducible repeat (first | apply Kd.R_alloc | apply Kd.R_drewN | apply Kd.R_drew)); exact HO201.out) hb); have n1_ := Aside0.mk (below_step (by repeat (first | (with_reducible first | exact HB.out | apply below_alloc | apply pw_below_drewN | apply below_drew1) | exact HB.out)) hb); clear HO201; clear HB; have HO201 := n0_; have HB := n1_; clear n0_ n1_; (try clear hb); (try clear hb2); (try clear hk); (try clear hi))); try go_wp2_with (first | (go_at_call 7; (with_reducible refine (glossatorkeep4_fuzzyExamples.calls k  true _ A2.out).mono ?_); rintro e w31 ⟨rfl, hb⟩; have n0_ := Aside0.mk (below_step (by repeat (first | (with_reducible first | exact HB.out | apply below_alloc | apply pw_below_drewN | apply below_drew1) | exact HB.out)) hb); clear HB; have HB := n0_; clear n0_; (try clear hb); (try clear hb2); (try clear hk); (try clear hi)) | (go_at_call 11; (with_reducible refine (fuzzy_Rank.calls k (⟨#[]⟩ : ByteArray) _ _ l0 t198 t199 _ ?side1 ?side2 A4.out).mono ?_); (case side1 => repeat (first | exact (Kd.C_below HR0.out HB.out) | (with_reducible refine Kd.C_alloc ?_ _) | (with_reducible refine Kd.C_drewN ?_ _) | (with_reducible refine Kd.C_drew ?_))); (case side2 => exact HC0.out); rintro e w32 ⟨v200, rfl, ho0, hb⟩; have n0_ := Aside0.mk (Kd.R_lower ho0 (below_size (by repeat (first | (with_reducible first | exact HB.out | apply below_alloc | apply pw_below_drewN | apply below_drew1) | exact HB.out)))); have n1_ := Aside0.mk (below_step (by repeat (first | (with_reducible first | exact HB.out | apply below_alloc | apply pw_below_drewN | apply below_drew1) | exact HB.out)) hb); clear HB; have HO201 := n0_; have HB := n1_; clear n0_ n1_; (try clear hb); (try clear hb2); (try clear hk); (try clear hi); (try clear ho0)) | (go_at_call 7; (with_reducible refine (glossatorkeep4_fuzzyExamples.calls k  true _ A29.out).mono ?_); rintro e w33 ⟨rfl, hb⟩; have n0_ := Aside0.mk (Kd.R_below (by (with_reducible repeat (first | apply Kd.R_alloc | apply Kd.R_drewN | apply Kd.R_drew)); exact HO201.out) hb); have n1_ := Aside0.mk (below_step (by repeat (first | (with_reducible first | exact HB.out | apply below_alloc | apply pw_below_drewN | apply below_drew1) | exact HB.out)) hb); clear HO201; clear HB; have HO201 := n0_; have HB := n1_; clear n0_ n1_; (try clear hb); (try clear hb2); (try clear hk); (try clear hi))))
        go_ret
        exact ⟨by first | rfl | (simp [errW_none, errW_some] <;> rfl) | (simp [*, errW_none, errW_some] <;> rfl), by repeat (first | (with_reducible first | exact HB.out | apply below_alloc | apply pw_below_drewN | apply below_drew1) | exact HB.out)⟩
      · replace c30 := Bool.eq_false_iff.mpr c30
        subst c30
        exact absurd (A2.out.symm.trans A29.out) (by simp)
  · replace c3 := Bool.eq_false_iff.mpr c3
    subst c3
    have H1 : (some false) = some r := by rw [if_neg (show ¬ (false = true) by decide)] at H; exact H
    clear H
    have H := H1
    clear H1
    obtain rfl := Option.some.inj H
    go_enter Try.func6, Try.ntmps6
    go_wp2_with (first | (go_at_call 7; (with_reducible refine (glossatorkeep4_fuzzyExamples.calls k  false _ A2.out).mono ?_); rintro e w37 ⟨rfl, hb⟩; have n0_ := Aside0.mk (below_step (by repeat (first | (with_reducible first | exact HB.out | apply below_alloc | apply pw_below_drewN | apply below_drew1) | exact HB.out)) hb); clear HB; have HB := n0_; clear n0_; (try clear hb); (try clear hb2); (try clear hk); (try clear hi)))
    repeat (go_quiet (first | (go_at_call 7; (with_reducible refine (glossatorkeep4_fuzzyExamples.calls k  false _ A2.out).mono ?_); rintro e w37 ⟨rfl, hb⟩; have n0_ := Aside0.mk (below_step (by repeat (first | (with_reducible first | exact HB.out | apply below_alloc | apply pw_below_drewN | apply below_drew1) | exact HB.out)) hb); clear HB; have HB := n0_; clear n0_; (try clear hb); (try clear hb2); (try clear hk); (try clear hi))); try go_wp2_with (first | (go_at_call 7; (with_reducible refine (glossatorkeep4_fuzzyExamples.calls k  false _ A2.out).mono ?_); rintro e w37 ⟨rfl, hb⟩; have n0_ := Aside0.mk (below_step (by repeat (first | (with_reducible first | exact HB.out | apply below_alloc | apply pw_below_drewN | apply below_drew1) | exact HB.out)) hb); clear HB; have HB := n0_; clear n0_; (try clear hb); (try clear hb2); (try clear hk); (try clear hi))))
    go_ret
    exact ⟨by first | rfl | (simp [errW_none, errW_some] <;> rfl) | (simp [*, errW_none, errW_some] <;> rfl), by repeat (first | (with_reducible first | exact HB.out | apply below_alloc | apply pw_below_drewN | apply below_drew1) | exact HB.out)⟩

end Go.Proofs.Ytldhhomeifjbeaa.PA
