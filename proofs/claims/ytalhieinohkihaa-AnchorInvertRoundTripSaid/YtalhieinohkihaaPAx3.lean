-- WRITTEN BY drv.py (a program of this session's, over the kit's print program): Lean checks it.
import Derived.Test.YtalhieinohkihaaPAx0
import Derived.Test.YtalhieinohkihaaPAx1
import Derived.Test.YtalhieinohkihaaPAx2
namespace Go.Proofs.Ytalhieinohkihaa.PA
open Go.RowKit Go.Proofs.YtalhieinohkihaaW.PrintWords Go.Proofs.YtalhieinohkihaaW.PrintLast Go.Proofs.YtalhieinohkihaaW.PrintMore
attribute [local go_sem] max2_int min2_int max_two min_two max_three min_three max_four min_four   -- for this text's walks alone
set_option linter.unusedVariables false
set_option linter.unusedSimpArgs false

/-! ### glossatorkeep4_AnchorMapMonotonic: function 3 -/
def glossatorkeep4_AnchorMapMonotonic.j0 : Nat → Int → Int → Int → Int → Bool → Option (Bool)
  | 0, _, _, _, _, _ => none
  | k + 1, x9, x11, x13, x15, x67 => if x67 = true then ((glossatorkeep4_anchorExamples.f k).bind fun t152 => (some t152)) else ((glossatorkeep4_anchorExamples.f k).bind fun t153 => (if t153 = true then (if x9 ≤ x11 then (some (decide (x15 ≤ x13))) else (some false)) else (some false)))
def glossatorkeep4_AnchorMapMonotonic.f (k : Nat) (l0 : List (S31)) (a1 : Int) (a2 : Int) (a3 : Bool) : Option (Bool) := (glossatorkeep4_anchorExamples.f k).bind fun t143 => (if t143 = true then ((anchor_Map.f k l0 a1 a3).bind fun bt144 => ((anchor_Map.f k l0 a2 a3).bind fun bt146 => ((anchor_Map.f k l0 a1 true).bind fun bt148 => ((anchor_Map.f k l0 a1 false).bind fun bt150 => (if bt144.2 = 0 then (if bt146.2 = 0 then (if bt148.2 = 0 then (if bt150.2 = 0 then (if a1 > a2 then (glossatorkeep4_AnchorMapMonotonic.j0 k bt144.1 bt146.1 bt148.1 bt150.1 true) else (glossatorkeep4_AnchorMapMonotonic.j0 k bt144.1 bt146.1 bt148.1 bt150.1 (decide (a2 > 1099511627776)))) else (glossatorkeep4_AnchorMapMonotonic.j0 k bt144.1 bt146.1 bt148.1 bt150.1 true)) else (glossatorkeep4_AnchorMapMonotonic.j0 k bt144.1 bt146.1 bt148.1 bt150.1 true)) else (glossatorkeep4_AnchorMapMonotonic.j0 k bt144.1 bt146.1 bt148.1 bt150.1 true)) else (glossatorkeep4_AnchorMapMonotonic.j0 k bt144.1 bt146.1 bt148.1 bt150.1 true)))))) else (some false))
theorem glossatorkeep4_AnchorMapMonotonic.mono_l : ∀ k, (∀ y0 y1 y2 y3 y4, LeO (glossatorkeep4_AnchorMapMonotonic.j0 k y0 y1 y2 y3 y4) (glossatorkeep4_AnchorMapMonotonic.j0 (k + 1) y0 y1 y2 y3 y4))
  | 0 => fun _ _ _ _ _ r h => by simp [glossatorkeep4_AnchorMapMonotonic.j0] at h
  | k + 1 => by
    have ih0 := glossatorkeep4_AnchorMapMonotonic.mono_l k
    · intro y0 y1 y2 y3 y4
      unfold glossatorkeep4_AnchorMapMonotonic.j0
      repeat' first
      | (with_reducible exact ih0 _ _ _ _ _)
      | (with_reducible exact anchor_Map.mono _ _ _ _)
      | (with_reducible exact glossatorkeep4_anchorExamples.mono _)
      | (with_reducible exact LeO.refl _)
      | (with_reducible exact LeO.none _)
      | (with_reducible refine LeO.ite ?_ ?_)
      | (with_reducible refine LeO.bind ?_ (fun _ => ?_))
      | exact ih0 _ _ _ _ _
      | exact anchor_Map.mono _ _ _ _
      | exact glossatorkeep4_anchorExamples.mono _
      | exact LeO.none _
      | refine LeO.ite ?_ ?_
      | refine LeO.bind ?_ (fun _ => ?_)
theorem glossatorkeep4_AnchorMapMonotonic.mono : ∀ a0 a1 a2 a3 k, LeO (glossatorkeep4_AnchorMapMonotonic.f k a0 a1 a2 a3) (glossatorkeep4_AnchorMapMonotonic.f (k + 1) a0 a1 a2 a3) := by
  intro a0 a1 a2 a3 k
  have ih0 := glossatorkeep4_AnchorMapMonotonic.mono_l k
  unfold glossatorkeep4_AnchorMapMonotonic.f
  repeat' first
      | (with_reducible exact ih0 _ _ _ _ _)
      | (with_reducible exact anchor_Map.mono _ _ _ _)
      | (with_reducible exact glossatorkeep4_anchorExamples.mono _)
      | (with_reducible exact LeO.refl _)
      | (with_reducible exact LeO.none _)
      | (with_reducible refine LeO.ite ?_ ?_)
      | (with_reducible refine LeO.bind ?_ (fun _ => ?_))
      | exact ih0 _ _ _ _ _
      | exact anchor_Map.mono _ _ _ _
      | exact glossatorkeep4_anchorExamples.mono _
      | exact LeO.none _
      | refine LeO.ite ?_ ?_
      | refine LeO.bind ?_ (fun _ => ?_)
set_option maxHeartbeats 8000000 in
set_option maxRecDepth 100000 in
theorem glossatorkeep4_AnchorMapMonotonic.calls (k : Nat) (A0 : Option Addr) (c0 : Nat) (l0 : List (S31)) (a1 : Int) (a2 : Int) (a3 : Bool) (r : Bool) (w : World) (hr0 : Kd.C k31 w A0 l0.length l0) (hc0 : l0.length ≤ c0) (h : glossatorkeep4_AnchorMapMonotonic.f k l0 a1 a2 a3 = some r) :
    Calls Try.prog 3 #[.slice A0 l0.length c0, .int .i64 a1, .int .i64 a2, .bool a3] w fun e w' => e = .returned (.bool r) ∧ Below w.heap.size w w' := by
  have HR0 := Aside0.mk hr0
  have HC0 := Aside0.mk hc0
  clear hr0 hc0
  have HB := Aside0.mk (Below.refl w.heap.size w)
  have H : ((glossatorkeep4_anchorExamples.f k).bind fun t143 => (if t143 = true then ((anchor_Map.f k l0 a1 a3).bind fun bt144 => ((anchor_Map.f k l0 a2 a3).bind fun bt146 => ((anchor_Map.f k l0 a1 true).bind fun bt148 => ((anchor_Map.f k l0 a1 false).bind fun bt150 => (if bt144.2 = 0 then (if bt146.2 = 0 then (if bt148.2 = 0 then (if bt150.2 = 0 then (if a1 > a2 then (glossatorkeep4_AnchorMapMonotonic.j0 k bt144.1 bt146.1 bt148.1 bt150.1 true) else (glossatorkeep4_AnchorMapMonotonic.j0 k bt144.1 bt146.1 bt148.1 bt150.1 (decide (a2 > 1099511627776)))) else (glossatorkeep4_AnchorMapMonotonic.j0 k bt144.1 bt146.1 bt148.1 bt150.1 true)) else (glossatorkeep4_AnchorMapMonotonic.j0 k bt144.1 bt146.1 bt148.1 bt150.1 true)) else (glossatorkeep4_AnchorMapMonotonic.j0 k bt144.1 bt146.1 bt148.1 bt150.1 true)) else (glossatorkeep4_AnchorMapMonotonic.j0 k bt144.1 bt146.1 bt148.1 bt150.1 true)))))) else (some false))) = some r := h
  clear h
  replace H := Option.bind_eq_some_iff.mp H
  obtain ⟨t143, A50, H⟩ := H
  replace H : (if t143 = true then ((anchor_Map.f k l0 a1 a3).bind fun bt144 => ((anchor_Map.f k l0 a2 a3).bind fun bt146 => ((anchor_Map.f k l0 a1 true).bind fun bt148 => ((anchor_Map.f k l0 a1 false).bind fun bt150 => (if bt144.2 = 0 then (if bt146.2 = 0 then (if bt148.2 = 0 then (if bt150.2 = 0 then (if a1 > a2 then (glossatorkeep4_AnchorMapMonotonic.j0 k bt144.1 bt146.1 bt148.1 bt150.1 true) else (glossatorkeep4_AnchorMapMonotonic.j0 k bt144.1 bt146.1 bt148.1 bt150.1 (decide (a2 > 1099511627776)))) else (glossatorkeep4_AnchorMapMonotonic.j0 k bt144.1 bt146.1 bt148.1 bt150.1 true)) else (glossatorkeep4_AnchorMapMonotonic.j0 k bt144.1 bt146.1 bt148.1 bt150.1 true)) else (glossatorkeep4_AnchorMapMonotonic.j0 k bt144.1 bt146.1 bt148.1 bt150.1 true)) else (glossatorkeep4_AnchorMapMonotonic.j0 k bt144.1 bt146.1 bt148.1 bt150.1 true)))))) else (some false)) = some r := H
  have A5 := Aside0.mk A50
  clear A50
  by_cases c6 : t143 = true
  · subst c6
    have H1 : ((anchor_Map.f k l0 a1 a3).bind fun bt144 => ((anchor_Map.f k l0 a2 a3).bind fun bt146 => ((anchor_Map.f k l0 a1 true).bind fun bt148 => ((anchor_Map.f k l0 a1 false).bind fun bt150 => (if bt144.2 = 0 then (if bt146.2 = 0 then (if bt148.2 = 0 then (if bt150.2 = 0 then (if a1 > a2 then (glossatorkeep4_AnchorMapMonotonic.j0 k bt144.1 bt146.1 bt148.1 bt150.1 true) else (glossatorkeep4_AnchorMapMonotonic.j0 k bt144.1 bt146.1 bt148.1 bt150.1 (decide (a2 > 1099511627776)))) else (glossatorkeep4_AnchorMapMonotonic.j0 k bt144.1 bt146.1 bt148.1 bt150.1 true)) else (glossatorkeep4_AnchorMapMonotonic.j0 k bt144.1 bt146.1 bt148.1 bt150.1 true)) else (glossatorkeep4_AnchorMapMonotonic.j0 k bt144.1 bt146.1 bt148.1 bt150.1 true)) else (glossatorkeep4_AnchorMapMonotonic.j0 k bt144.1 bt146.1 bt148.1 bt150.1 true)))))) = some r := by rw [if_pos rfl] at H; exact H
    clear H
    have H := H1
    clear H1
    replace H := Option.bind_eq_some_iff.mp H
    obtain ⟨⟨t144, t145⟩, A70, H⟩ := H
    replace H : ((anchor_Map.f k l0 a2 a3).bind fun bt146 => ((anchor_Map.f k l0 a1 true).bind fun bt148 => ((anchor_Map.f k l0 a1 false).bind fun bt150 => (if t145 = 0 then (if bt146.2 = 0 then (if bt148.2 = 0 then (if bt150.2 = 0 then (if a1 > a2 then (glossatorkeep4_AnchorMapMonotonic.j0 k t144 bt146.1 bt148.1 bt150.1 true) else (glossatorkeep4_AnchorMapMonotonic.j0 k t144 bt146.1 bt148.1 bt150.1 (decide (a2 > 1099511627776)))) else (glossatorkeep4_AnchorMapMonotonic.j0 k t144 bt146.1 bt148.1 bt150.1 true)) else (glossatorkeep4_AnchorMapMonotonic.j0 k t144 bt146.1 bt148.1 bt150.1 true)) else (glossatorkeep4_AnchorMapMonotonic.j0 k t144 bt146.1 bt148.1 bt150.1 true)) else (glossatorkeep4_AnchorMapMonotonic.j0 k t144 bt146.1 bt148.1 bt150.1 true))))) = some r := H
    have A7 := Aside0.mk A70
    clear A70
    replace H := Option.bind_eq_some_iff.mp H
    obtain ⟨⟨t146, t147⟩, A80, H⟩ := H
    replace H : ((anchor_Map.f k l0 a1 true).bind fun bt148 => ((anchor_Map.f k l0 a1 false).bind fun bt150 => (if t145 = 0 then (if t147 = 0 then (if bt148.2 = 0 then (if bt150.2 = 0 then (if a1 > a2 then (glossatorkeep4_AnchorMapMonotonic.j0 k t144 t146 bt148.1 bt150.1 true) else (glossatorkeep4_AnchorMapMonotonic.j0 k t144 t146 bt148.1 bt150.1 (decide (a2 > 1099511627776)))) else (glossatorkeep4_AnchorMapMonotonic.j0 k t144 t146 bt148.1 bt150.1 true)) else (glossatorkeep4_AnchorMapMonotonic.j0 k t144 t146 bt148.1 bt150.1 true)) else (glossatorkeep4_AnchorMapMonotonic.j0 k t144 t146 bt148.1 bt150.1 true)) else (glossatorkeep4_AnchorMapMonotonic.j0 k t144 t146 bt148.1 bt150.1 true)))) = some r := H
    have A8 := Aside0.mk A80
    clear A80
    replace H := Option.bind_eq_some_iff.mp H
    obtain ⟨⟨t148, t149⟩, A90, H⟩ := H
    replace H : ((anchor_Map.f k l0 a1 false).bind fun bt150 => (if t145 = 0 then (if t147 = 0 then (if t149 = 0 then (if bt150.2 = 0 then (if a1 > a2 then (glossatorkeep4_AnchorMapMonotonic.j0 k t144 t146 t148 bt150.1 true) else (glossatorkeep4_AnchorMapMonotonic.j0 k t144 t146 t148 bt150.1 (decide (a2 > 1099511627776)))) else (glossatorkeep4_AnchorMapMonotonic.j0 k t144 t146 t148 bt150.1 true)) else (glossatorkeep4_AnchorMapMonotonic.j0 k t144 t146 t148 bt150.1 true)) else (glossatorkeep4_AnchorMapMonotonic.j0 k t144 t146 t148 bt150.1 true)) else (glossatorkeep4_AnchorMapMonotonic.j0 k t144 t146 t148 bt150.1 true))) = some r := H
    have A9 := Aside0.mk A90
    clear A90
    replace H := Option.bind_eq_some_iff.mp H
    obtain ⟨⟨t150, t151⟩, A100, H⟩ := H
    replace H : (if t145 = 0 then (if t147 = 0 then (if t149 = 0 then (if t151 = 0 then (if a1 > a2 then (glossatorkeep4_AnchorMapMonotonic.j0 k t144 t146 t148 t150 true) else (glossatorkeep4_AnchorMapMonotonic.j0 k t144 t146 t148 t150 (decide (a2 > 1099511627776)))) else (glossatorkeep4_AnchorMapMonotonic.j0 k t144 t146 t148 t150 true)) else (glossatorkeep4_AnchorMapMonotonic.j0 k t144 t146 t148 t150 true)) else (glossatorkeep4_AnchorMapMonotonic.j0 k t144 t146 t148 t150 true)) else (glossatorkeep4_AnchorMapMonotonic.j0 k t144 t146 t148 t150 true)) = some r := H
    have A10 := Aside0.mk A100
    clear A100
    have HC11 := Aside0.mk H
    clear H
    go_enter Try.func3, Try.ntmps3
    go_upto_region 7 with (first | ((with_reducible refine gate_callee (f := 9) rfl ?_); refine goesL_ (some 17) rfl rfl Try.func9 (by kernel_rfl) rfl #[] rfl (by (try simp only [List.map_toArray, List.map_cons, List.map_nil]); first | done | rfl | (simp only [List.length_drop, List.length_take]; rfl)) ?_; (with_reducible refine (glossatorkeep4_anchorExamples.calls k  true _ A5.out).mono ?_); rintro e w12 ⟨rfl, hb⟩; refine ⟨_, rfl, ?_⟩; have n0_ := Aside0.mk (below_step (by repeat (first | (with_reducible first | exact HB.out | apply below_alloc | apply pw_below_drewN | apply below_drew1) | exact HB.out)) hb); clear HB; have HB := n0_; clear n0_; (try clear hb); (try clear hb2); (try clear hk); (try clear hi)) | ((with_reducible refine gate_callee (f := 10) rfl ?_); refine goesL_ (some 23) rfl rfl Try.func10 (by kernel_rfl) rfl #[.slice A0 l0.length c0, .int .i64 a1, .bool a3] rfl (by (try simp only [List.map_toArray, List.map_cons, List.map_nil]); first | done | rfl | (simp only [List.length_drop, List.length_take]; rfl)) ?_; (with_reducible refine (anchor_Map.calls k _ _ l0 a1 a3 t144 t145 _ ?side1 ?side2 A7.out).mono ?_); (case side1 => repeat (first | exact (Kd.C_below HR0.out HB.out) | (with_reducible refine Kd.C_alloc ?_ _) | (with_reducible refine Kd.C_drewN ?_ _) | (with_reducible refine Kd.C_drew ?_))); (case side2 => exact HC0.out); rintro e w13 ⟨rfl, hb⟩; refine ⟨_, rfl, ?_⟩; have n0_ := Aside0.mk (below_step (by repeat (first | (with_reducible first | exact HB.out | apply below_alloc | apply pw_below_drewN | apply below_drew1) | exact HB.out)) hb); clear HB; have HB := n0_; clear n0_; (try clear hb); (try clear hb2); (try clear hk); (try clear hi)) | ((with_reducible refine gate_callee (f := 10) rfl ?_); refine goesL_ (some 30) rfl rfl Try.func10 (by kernel_rfl) rfl #[.slice A0 l0.length c0, .int .i64 a2, .bool a3] rfl (by (try simp only [List.map_toArray, List.map_cons, List.map_nil]); first | done | rfl | (simp only [List.length_drop, List.length_take]; rfl)) ?_; (with_reducible refine (anchor_Map.calls k _ _ l0 a2 a3 t146 t147 _ ?side1 ?side2 A8.out).mono ?_); (case side1 => repeat (first | exact (Kd.C_below HR0.out HB.out) | (with_reducible refine Kd.C_alloc ?_ _) | (with_reducible refine Kd.C_drewN ?_ _) | (with_reducible refine Kd.C_drew ?_))); (case side2 => exact HC0.out); rintro e w14 ⟨rfl, hb⟩; refine ⟨_, rfl, ?_⟩; have n0_ := Aside0.mk (below_step (by repeat (first | (with_reducible first | exact HB.out | apply below_alloc | apply pw_below_drewN | apply below_drew1) | exact HB.out)) hb); clear HB; have HB := n0_; clear n0_; (try clear hb); (try clear hb2); (try clear hk); (try clear hi)) | ((with_reducible refine gate_callee (f := 10) rfl ?_); refine goesL_ (some 36) rfl rfl Try.func10 (by kernel_rfl) rfl #[.slice A0 l0.length c0, .int .i64 a1, .bool true] rfl (by (try simp only [List.map_toArray, List.map_cons, List.map_nil]); first | done | rfl | (simp only [List.length_drop, List.length_take]; rfl)) ?_; (with_reducible refine (anchor_Map.calls k _ _ l0 a1 true t148 t149 _ ?side1 ?side2 A9.out).mono ?_); (case side1 => repeat (first | exact (Kd.C_below HR0.out HB.out) | (with_reducible refine Kd.C_alloc ?_ _) | (with_reducible refine Kd.C_drewN ?_ _) | (with_reducible refine Kd.C_drew ?_))); (case side2 => exact HC0.out); rintro e w15 ⟨rfl, hb⟩; refine ⟨_, rfl, ?_⟩; have n0_ := Aside0.mk (below_step (by repeat (first | (with_reducible first | exact HB.out | apply below_alloc | apply pw_below_drewN | apply below_drew1) | exact HB.out)) hb); clear HB; have HB := n0_; clear n0_; (try clear hb); (try clear hb2); (try clear hk); (try clear hi)) | ((with_reducible refine gate_callee (f := 10) rfl ?_); refine goesL_ (some 42) rfl rfl Try.func10 (by kernel_rfl) rfl #[.slice A0 l0.length c0, .int .i64 a1, .bool false] rfl (by (try simp only [List.map_toArray, List.map_cons, List.map_nil]); first | done | rfl | (simp only [List.length_drop, List.length_take]; rfl)) ?_; (with_reducible refine (anchor_Map.calls k _ _ l0 a1 false t150 t151 _ ?side1 ?side2 A10.out).mono ?_); (case side1 => repeat (first | exact (Kd.C_below HR0.out HB.out) | (with_reducible refine Kd.C_alloc ?_ _) | (with_reducible refine Kd.C_drewN ?_ _) | (with_reducible refine Kd.C_drew ?_))); (case side2 => exact HC0.out); rintro e w16 ⟨rfl, hb⟩; refine ⟨_, rfl, ?_⟩; have n0_ := Aside0.mk (below_step (by repeat (first | (with_reducible first | exact HB.out | apply below_alloc | apply pw_below_drewN | apply below_drew1) | exact HB.out)) hb); clear HB; have HB := n0_; clear n0_; (try clear hb); (try clear hb2); (try clear hk); (try clear hi)))
    (try simp only [Act.put, List.setIfInBounds_toArray, List.set_cons_zero, List.set_cons_succ])
    go_cut [67] (fun v67 wc => ∃ (kq : Nat) (x67_10 : Bool), v67 = .bool x67_10 ∧ Aside0 (glossatorkeep4_AnchorMapMonotonic.j0 kq t144 t146 t148 t150 x67_10 = some r) ∧ Aside0 (kq ≤ k) ∧ Aside0 (Below w.heap.size w wc))
    case first =>
      have H := HC11.out
      clear HC11
      by_cases c17 : t145 = 0
      · rw [if_pos c17] at H
        have c17b0 : (t145 == 0) = true := beq_iff_eq.mpr c17
        have c17b1 : (t145 != 0) = false := bne_eq_false_iff_eq.mpr c17
        clear c17
        (first | rw [c17b0] | (simp only [i64_w, i32_w]; rw [c17b0]) | skip)
        by_cases c18 : t147 = 0
        · rw [if_pos c18] at H
          have c18b0 : (t147 == 0) = true := beq_iff_eq.mpr c18
          have c18b1 : (t147 != 0) = false := bne_eq_false_iff_eq.mpr c18
          clear c18
          by_cases c19 : t149 = 0
          · rw [if_pos c19] at H
            have c19b0 : (t149 == 0) = true := beq_iff_eq.mpr c19
            have c19b1 : (t149 != 0) = false := bne_eq_false_iff_eq.mpr c19
            clear c19
            by_cases c20 : t151 = 0
            · rw [if_pos c20] at H
              have c20b0 : (t151 == 0) = true := beq_iff_eq.mpr c20
              have c20b1 : (t151 != 0) = false := bne_eq_false_iff_eq.mpr c20
              clear c20
              by_cases c21 : a1 > a2
              · rw [if_pos c21] at H
                have c21b0 : decide (a2 < a1) = true := decide_eq_true c21
                clear c21
                have H' := Aside0.mk H
                clear H
                go_wp2
                go_meet
                case rel => exact ⟨_, (true), (by first | rfl | (simp; done) | (simp [*]; done)), H', ⟨by first | omega | exact Nat.le_refl _⟩, ⟨by repeat (first | (with_reducible first | exact HB.out | apply below_alloc | apply pw_below_drewN | apply below_drew1) | exact HB.out)⟩⟩
              · rw [if_neg c21] at H
                have c21b0 : decide (a2 < a1) = false := decide_eq_false c21
                clear c21
                have H' := Aside0.mk H
                clear H
                go_wp2
                go_meet
                case rel => exact ⟨_, (decide (a2 > 1099511627776)), (by first | rfl | (simp; done) | (simp [*]; done)), H', ⟨by first | omega | exact Nat.le_refl _⟩, ⟨by repeat (first | (with_reducible first | exact HB.out | apply below_alloc | apply pw_below_drewN | apply below_drew1) | exact HB.out)⟩⟩
            · rw [if_neg c20] at H
              have c20b0 : (t151 == 0) = false := beq_eq_false_iff_ne.mpr c20
              have c20b1 : (t151 != 0) = true := bne_iff_ne.mpr c20
              have H' := Aside0.mk H
              clear H
              go_wp2
              go_meet
              case rel => exact ⟨_, (true), (by first | rfl | (simp; done) | (simp [*]; done)), H', ⟨by first | omega | exact Nat.le_refl _⟩, ⟨by repeat (first | (with_reducible first | exact HB.out | apply below_alloc | apply pw_below_drewN | apply below_drew1) | exact HB.out)⟩⟩
          · rw [if_neg c19] at H
            have c19b0 : (t149 == 0) = false := beq_eq_false_iff_ne.mpr c19
            have c19b1 : (t149 != 0) = true := bne_iff_ne.mpr c19
            have H' := Aside0.mk H
            clear H
            go_wp2
            go_meet
            case rel => exact ⟨_, (true), (by first | rfl | (simp; done) | (simp [*]; done)), H', ⟨by first | omega | exact Nat.le_refl _⟩, ⟨by repeat (first | (with_reducible first | exact HB.out | apply below_alloc | apply pw_below_drewN | apply below_drew1) | exact HB.out)⟩⟩
        · rw [if_neg c18] at H
          have c18b0 : (t147 == 0) = false := beq_eq_false_iff_ne.mpr c18
          have c18b1 : (t147 != 0) = true := bne_iff_ne.mpr c18
          have H' := Aside0.mk H
          clear H
          go_wp2
          go_meet
          case rel => exact ⟨_, (true), (by first | rfl | (simp; done) | (simp [*]; done)), H', ⟨by first | omega | exact Nat.le_refl _⟩, ⟨by repeat (first | (with_reducible first | exact HB.out | apply below_alloc | apply pw_below_drewN | apply below_drew1) | exact HB.out)⟩⟩
      · rw [if_neg c17] at H
        have c17b0 : (t145 == 0) = false := beq_eq_false_iff_ne.mpr c17
        have c17b1 : (t145 != 0) = true := bne_iff_ne.mpr c17
        (first | rw [c17b0] | (simp only [i64_w, i32_w]; rw [c17b0]) | skip)
        have H' := Aside0.mk H
        clear H
        go_wp2
        go_meet
        case rel => exact ⟨_, (true), (by first | rfl | (simp; done) | (simp [*]; done)), H', ⟨by first | omega | exact Nat.le_refl _⟩, ⟨by repeat (first | (with_reducible first | exact HB.out | apply below_alloc | apply pw_below_drewN | apply below_drew1) | exact HB.out)⟩⟩
    case rest =>
      clear HC11
      try clear c1
      try clear c2
      try clear p2
      try clear c3
      try clear p4
      try clear c6
      try clear c9
      try clear c10
      try clear c17
      try clear c17b0
      try clear c17b1
      try clear c18
      try clear c18b0
      try clear c18b1
      try clear c19
      try clear c19b0
      try clear c19b1
      try clear c20
      try clear c20b0
      try clear c20b1
      try clear c21
      try clear c21b0
      obtain ⟨kq, x67_10, rfl, HA, HJ10, HB⟩ := hcut
      cases kq with
      | zero => exact absurd HA.out (by simp [glossatorkeep4_AnchorMapMonotonic.j0])
      | succ kj10 =>
        have H := HA.out
        clear HA
        simp only [glossatorkeep4_AnchorMapMonotonic.j0] at H
        by_cases c22 : x67_10 = true
        · subst c22
          have H1 : ((glossatorkeep4_anchorExamples.f kj10).bind fun t152 => (some t152)) = some r := by rw [if_pos rfl] at H; exact H
          clear H
          have H := H1
          clear H1
          replace H := Option.bind_eq_some_iff.mp H
          obtain ⟨t152, A230, H⟩ := H
          replace H : (some t152) = some r := H
          have A23 := Aside0.mk A230
          clear A230
          obtain rfl := Option.some.inj H
          go_wp2_with (first | ((with_reducible refine gate_callee (f := 9) rfl ?_); refine goesL_ (some 68) rfl rfl Try.func9 (by kernel_rfl) rfl #[] rfl (by (try simp only [List.map_toArray, List.map_cons, List.map_nil]); first | done | rfl | (simp only [List.length_drop, List.length_take]; rfl)) ?_; (with_reducible refine (glossatorkeep4_anchorExamples.calls kj10  t152 _ A23.out).mono ?_); rintro e w24 ⟨rfl, hb⟩; refine ⟨_, rfl, ?_⟩; have n0_ := Aside0.mk (below_step (by repeat (first | (with_reducible first | exact HB.out | apply below_alloc | apply pw_below_drewN | apply below_drew1) | exact HB.out)) hb); clear HB; have HB := n0_; clear n0_; (try clear hb); (try clear hb2); (try clear hk); (try clear hi)))
          go_ret
          exact ⟨by first | rfl | (simp [errW_none, errW_some] <;> rfl) | (simp [*, errW_none, errW_some] <;> rfl), by repeat (first | (with_reducible first | exact HB.out | apply below_alloc | apply pw_below_drewN | apply below_drew1) | exact HB.out)⟩
        · replace c22 := Bool.eq_false_iff.mpr c22
          subst c22
          have H1 : ((glossatorkeep4_anchorExamples.f kj10).bind fun t153 => (if t153 = true then (if t144 ≤ t146 then (some (decide (t150 ≤ t148))) else (some false)) else (some false))) = some r := by rw [if_neg (show ¬ (false = true) by decide)] at H; exact H
          clear H
          have H := H1
          clear H1
          replace H := Option.bind_eq_some_iff.mp H
          obtain ⟨t153, A250, H⟩ := H
          replace H : (if t153 = true then (if t144 ≤ t146 then (some (decide (t150 ≤ t148))) else (some false)) else (some false)) = some r := H
          have A25 := Aside0.mk A250
          clear A250
          by_cases c26 : t153 = true
          · subst c26
            have H1 : (if t144 ≤ t146 then (some (decide (t150 ≤ t148))) else (some false)) = some r := by rw [if_pos rfl] at H; exact H
            clear H
            have H := H1
            clear H1
            by_cases c27 : t144 ≤ t146
            · rw [if_pos c27] at H
              have c27b0 : decide (t144 ≤ t146) = true := decide_eq_true c27
              clear c27
              obtain rfl := Option.some.inj H
              go_wp2_with (first | ((with_reducible refine gate_callee (f := 9) rfl ?_); refine goesL_ (some 69) rfl rfl Try.func9 (by kernel_rfl) rfl #[] rfl (by (try simp only [List.map_toArray, List.map_cons, List.map_nil]); first | done | rfl | (simp only [List.length_drop, List.length_take]; rfl)) ?_; (with_reducible refine (glossatorkeep4_anchorExamples.calls kj10  true _ A25.out).mono ?_); rintro e w28 ⟨rfl, hb⟩; refine ⟨_, rfl, ?_⟩; have n0_ := Aside0.mk (below_step (by repeat (first | (with_reducible first | exact HB.out | apply below_alloc | apply pw_below_drewN | apply below_drew1) | exact HB.out)) hb); clear HB; have HB := n0_; clear n0_; (try clear hb); (try clear hb2); (try clear hk); (try clear hi)))
              go_ret
              exact ⟨by first | rfl | (simp [errW_none, errW_some] <;> rfl) | (simp [*, errW_none, errW_some] <;> rfl), by repeat (first | (with_reducible first | exact HB.out | apply below_alloc | apply pw_below_drewN | apply below_drew1) | exact HB.out)⟩
            · rw [if_neg c27] at H
              have c27b0 : decide (t144 ≤ t146) = false := decide_eq_false c27
              clear c27
              obtain rfl := Option.some.inj H
              go_wp2_with (first | ((with_reducible refine gate_callee (f := 9) rfl ?_); refine goesL_ (some 69) rfl rfl Try.func9 (by kernel_rfl) rfl #[] rfl (by (try simp only [List.map_toArray, List.map_cons, List.map_nil]); first | done | rfl | (simp only [List.length_drop, List.length_take]; rfl)) ?_; (with_reducible refine (glossatorkeep4_anchorExamples.calls kj10  true _ A25.out).mono ?_); rintro e w29 ⟨rfl, hb⟩; refine ⟨_, rfl, ?_⟩; have n0_ := Aside0.mk (below_step (by repeat (first | (with_reducible first | exact HB.out | apply below_alloc | apply pw_below_drewN | apply below_drew1) | exact HB.out)) hb); clear HB; have HB := n0_; clear n0_; (try clear hb); (try clear hb2); (try clear hk); (try clear hi)))
              go_ret
              exact ⟨by first | rfl | (simp [errW_none, errW_some] <;> rfl) | (simp [*, errW_none, errW_some] <;> rfl), by repeat (first | (with_reducible first | exact HB.out | apply below_alloc | apply pw_below_drewN | apply below_drew1) | exact HB.out)⟩
          · replace c26 := Bool.eq_false_iff.mpr c26
            subst c26
            have H1 : (some false) = some r := by rw [if_neg (show ¬ (false = true) by decide)] at H; exact H
            clear H
            have H := H1
            clear H1
            obtain rfl := Option.some.inj H
            go_wp2_with (first | ((with_reducible refine gate_callee (f := 9) rfl ?_); refine goesL_ (some 69) rfl rfl Try.func9 (by kernel_rfl) rfl #[] rfl (by (try simp only [List.map_toArray, List.map_cons, List.map_nil]); first | done | rfl | (simp only [List.length_drop, List.length_take]; rfl)) ?_; (with_reducible refine (glossatorkeep4_anchorExamples.calls kj10  false _ A25.out).mono ?_); rintro e w30 ⟨rfl, hb⟩; refine ⟨_, rfl, ?_⟩; have n0_ := Aside0.mk (below_step (by repeat (first | (with_reducible first | exact HB.out | apply below_alloc | apply pw_below_drewN | apply below_drew1) | exact HB.out)) hb); clear HB; have HB := n0_; clear n0_; (try clear hb); (try clear hb2); (try clear hk); (try clear hi)))
            go_ret
            exact ⟨by first | rfl | (simp [errW_none, errW_some] <;> rfl) | (simp [*, errW_none, errW_some] <;> rfl), by repeat (first | (with_reducible first | exact HB.out | apply below_alloc | apply pw_below_drewN | apply below_drew1) | exact HB.out)⟩
  · replace c6 := Bool.eq_false_iff.mpr c6
    subst c6
    have H1 : (some false) = some r := by rw [if_neg (show ¬ (false = true) by decide)] at H; exact H
    clear H
    have H := H1
    clear H1
    obtain rfl := Option.some.inj H
    go_enter Try.func3, Try.ntmps3
    go_wp2_with (first | ((with_reducible refine gate_callee (f := 9) rfl ?_); refine goesL_ (some 17) rfl rfl Try.func9 (by kernel_rfl) rfl #[] rfl (by (try simp only [List.map_toArray, List.map_cons, List.map_nil]); first | done | rfl | (simp only [List.length_drop, List.length_take]; rfl)) ?_; (with_reducible refine (glossatorkeep4_anchorExamples.calls k  false _ A5.out).mono ?_); rintro e w31 ⟨rfl, hb⟩; refine ⟨_, rfl, ?_⟩; have n0_ := Aside0.mk (below_step (by repeat (first | (with_reducible first | exact HB.out | apply below_alloc | apply pw_below_drewN | apply below_drew1) | exact HB.out)) hb); clear HB; have HB := n0_; clear n0_; (try clear hb); (try clear hb2); (try clear hk); (try clear hi)))
    go_ret
    exact ⟨by first | rfl | (simp [errW_none, errW_some] <;> rfl) | (simp [*, errW_none, errW_some] <;> rfl), by repeat (first | (with_reducible first | exact HB.out | apply below_alloc | apply pw_below_drewN | apply below_drew1) | exact HB.out)⟩

/-! ### textedit_Validate: function 22 -/
mutual
def textedit_Validate.j0 : Nat → ByteArray → List (S31) → Bool → Option (Int)
  | 0, _, _, _ => none
  | k + 1, x0, x1, x16 => if x16 = true then (some 2) else (textedit_Validate.l0 k x0 (-1) (x0.size : Int) x1 (x1.length : Int) 0)
def textedit_Validate.l0 : Nat → ByteArray → Int → Int → List (S31) → Int → Int → Option (Int)
  | 0, _, _, _, _, _, _ => none
  | k + 1, x0, x5, x6, x19, x20, x21 => if x21 < x20 then (if 0 ≤ x21 then (if x21 < (x19.length : Int) then (if ((rd_T31 x19 x21).f0) ≤ x5 then (some 3) else (if ((rd_T31 x19 x21).f1) < ((rd_T31 x19 x21).f0) then (some 3) else (if ((rd_T31 x19 x21).f1) > (x0.size : Int) then (some 3) else (textedit_Validate.l0 k x0 ((rd_T31 x19 x21).f1) (wrap64 (x6 + (wrap64 ((((rd_T31 x19 x21).f2).size : Int) - (wrap64 (((rd_T31 x19 x21).f1) - ((rd_T31 x19 x21).f0))))))) x19 x20 (wrap64 (x21 + 1)))))) else (none)) else (none)) else (if x6 > 2000 then (some 2) else (some 0))
end
def textedit_Validate.f (k : Nat) (a0 : ByteArray) (l1 : List (S31)) : Option (Int) := if (a0.size : Int) > 2000 then (textedit_Validate.j0 k a0 l1 true) else (textedit_Validate.j0 k a0 l1 (decide ((l1.length : Int) > 50)))
theorem textedit_Validate.mono_l : ∀ k, (∀ y0 y1 y2, LeO (textedit_Validate.j0 k y0 y1 y2) (textedit_Validate.j0 (k + 1) y0 y1 y2)) ∧ (∀ y0 y1 y2 y3 y4 y5, LeO (textedit_Validate.l0 k y0 y1 y2 y3 y4 y5) (textedit_Validate.l0 (k + 1) y0 y1 y2 y3 y4 y5))
  | 0 => ⟨fun _ _ _ r h => by simp [textedit_Validate.j0] at h, fun _ _ _ _ _ _ r h => by simp [textedit_Validate.l0] at h⟩
  | k + 1 => by
    obtain ⟨ih0, ih1⟩ := textedit_Validate.mono_l k
    refine ⟨?_, ?_⟩
    · intro y0 y1 y2
      unfold textedit_Validate.j0
      repeat' first
      | (with_reducible exact ih0 _ _ _)
      | (with_reducible exact ih1 _ _ _ _ _ _)
      | (with_reducible exact LeO.refl _)
      | (with_reducible exact LeO.none _)
      | (with_reducible refine LeO.ite ?_ ?_)
      | (with_reducible refine LeO.bind ?_ (fun _ => ?_))
      | exact ih0 _ _ _
      | exact ih1 _ _ _ _ _ _
      | exact LeO.none _
      | refine LeO.ite ?_ ?_
      | refine LeO.bind ?_ (fun _ => ?_)
    · intro y0 y1 y2 y3 y4 y5
      unfold textedit_Validate.l0
      repeat' first
      | (with_reducible exact ih0 _ _ _)
      | (with_reducible exact ih1 _ _ _ _ _ _)
      | (with_reducible exact LeO.refl _)
      | (with_reducible exact LeO.none _)
      | (with_reducible refine LeO.ite ?_ ?_)
      | (with_reducible refine LeO.bind ?_ (fun _ => ?_))
      | exact ih0 _ _ _
      | exact ih1 _ _ _ _ _ _
      | exact LeO.none _
      | refine LeO.ite ?_ ?_
      | refine LeO.bind ?_ (fun _ => ?_)
theorem textedit_Validate.mono : ∀ a0 a1 k, LeO (textedit_Validate.f k a0 a1) (textedit_Validate.f (k + 1) a0 a1) := by
  intro a0 a1 k
  obtain ⟨ih0, ih1⟩ := textedit_Validate.mono_l k
  unfold textedit_Validate.f
  repeat' first
      | (with_reducible exact ih0 _ _ _)
      | (with_reducible exact ih1 _ _ _ _ _ _)
      | (with_reducible exact LeO.refl _)
      | (with_reducible exact LeO.none _)
      | (with_reducible refine LeO.ite ?_ ?_)
      | (with_reducible refine LeO.bind ?_ (fun _ => ?_))
      | exact ih0 _ _ _
      | exact ih1 _ _ _ _ _ _
      | exact LeO.none _
      | refine LeO.ite ?_ ?_
      | refine LeO.bind ?_ (fun _ => ?_)
set_option maxHeartbeats 8000000 in
set_option maxRecDepth 100000 in
theorem textedit_Validate.calls (k : Nat) (a0 : ByteArray) (A1 : Option Addr) (c1 : Nat) (l1 : List (S31)) (r : Int) (w : World) (hr1 : Kd.C k31 w A1 l1.length l1) (hc1 : l1.length ≤ c1) (h : textedit_Validate.f k a0 l1 = some r) :
    Calls Try.prog 22 #[.string a0, .slice A1 l1.length c1] w fun e w' => e = .returned (.int .i64 r) ∧ Below w.heap.size w w' := by
  have hu31 := Try.underlying31
  have HR1 := Aside0.mk hr1
  have HC1 := Aside0.mk hc1
  clear hr1 hc1
  have HB := Aside0.mk (Below.refl w.heap.size w)
  have H : (if (a0.size : Int) > 2000 then (textedit_Validate.j0 k a0 l1 true) else (textedit_Validate.j0 k a0 l1 (decide ((l1.length : Int) > 50)))) = some r := h
  clear h
  have HC3 := Aside0.mk H
  clear H
  go_enter Try.func22, Try.ntmps22
  go_upto_region 1 with (fail)
  go_cut [16] (fun v16 wc => ∃ (kq : Nat) (x16_2 : Bool), v16 = .bool x16_2 ∧ Aside0 (textedit_Validate.j0 kq a0 l1 x16_2 = some r) ∧ Aside0 (kq ≤ k) ∧ Aside0 (Below w.heap.size w wc))
  case first =>
    have H := HC3.out
    clear HC3
    by_cases c4 : (a0.size : Int) > 2000
    · rw [if_pos c4] at H
      have c4b0 : decide (2000 < (a0.size : Int)) = true := decide_eq_true c4
      have c4b1 : decide (2000 < a0.size) = true := decide_eq_true (by omega)
      clear c4
      (first | rw [c4b0] | (simp only [i64_w, i32_w]; rw [c4b0]) | skip)
      have H' := Aside0.mk H
      clear H
      go_wp2
      go_meet
      case rel => exact ⟨_, (true), (by first | rfl | (simp; done) | (simp [*]; done)), H', ⟨by first | omega | exact Nat.le_refl _⟩, ⟨by repeat (first | (with_reducible first | exact HB.out | apply below_alloc | apply pw_below_drewN | apply below_drew1) | exact HB.out)⟩⟩
    · rw [if_neg c4] at H
      have c4b0 : decide (2000 < (a0.size : Int)) = false := decide_eq_false c4
      have c4b1 : decide (2000 < a0.size) = false := decide_eq_false (by omega)
      clear c4
      (first | rw [c4b0] | (simp only [i64_w, i32_w]; rw [c4b0]) | skip)
      have H' := Aside0.mk H
      clear H
      go_wp2
      go_meet
      case rel => exact ⟨_, (decide ((l1.length : Int) > 50)), (by first | rfl | (simp; done) | (simp [*]; done)), H', ⟨by first | omega | exact Nat.le_refl _⟩, ⟨by repeat (first | (with_reducible first | exact HB.out | apply below_alloc | apply pw_below_drewN | apply below_drew1) | exact HB.out)⟩⟩
  case rest =>
    clear HC3
    try clear c1
    try clear c2
    try clear p2
    try clear c4
    try clear c4b0
    try clear c4b1
    obtain ⟨kq, x16_2, rfl, HA, HJ2, HB⟩ := hcut
    cases kq with
    | zero => exact absurd HA.out (by simp [textedit_Validate.j0])
    | succ kj2 =>
      have H := HA.out
      clear HA
      simp only [textedit_Validate.j0] at H
      by_cases c5 : x16_2 = true
      · subst c5
        have H1 : (some 2) = some r := by rw [if_pos rfl] at H; exact H
        clear H
        have H := H1
        clear H1
        obtain rfl := Option.some.inj H
        go_wp2
        go_ret
        exact ⟨by first | rfl | (simp [errW_none, errW_some] <;> rfl) | (simp [*, errW_none, errW_some] <;> rfl), by repeat (first | (with_reducible first | exact HB.out | apply below_alloc | apply pw_below_drewN | apply below_drew1) | exact HB.out)⟩
      · replace c5 := Bool.eq_false_iff.mpr c5
        subst c5
        have H1 : (textedit_Validate.l0 kj2 a0 (-1) (a0.size : Int) l1 (l1.length : Int) 0) = some r := by rw [if_neg (show ¬ (false = true) by decide)] at H; exact H
        clear H
        have H := H1
        clear H1
        have H' := Aside0.mk H
        clear H
        go_wp2
        go_loopg [5, 6, 21] kj2 (fun kq v5 v6 v21 w' => ∃ (x5_2 : Int) (x6_2 : Int) (x21_2 : Int), v5 = .int .i64 x5_2 ∧ v6 = .int .i64 x6_2 ∧ v21 = .int .i64 x21_2 ∧ Aside0 (textedit_Validate.l0 kq a0 x5_2 x6_2 l1 (l1.length : Int) x21_2 = some r) ∧ Aside0 (kq ≤ kj2) ∧ Aside0 (Below w.heap.size w w'))
        case atStart => exact ⟨((-1)), ((a0.size : Int)), (0), (by first | rfl | (simp; done) | (simp [*]; done)), (by first | rfl | (simp; done) | (simp [*]; done)), (by first | rfl | (simp; done) | (simp [*]; done)), H', ⟨Nat.le_refl _⟩, ⟨by repeat (first | (with_reducible first | exact HB.out | apply below_alloc | apply pw_below_drewN | apply below_drew1) | exact HB.out)⟩⟩
        case round =>
          clear H'
          try clear c1
          try clear c2
          try clear p2
          try clear c4
          try clear c4b0
          try clear c4b1
          try clear c5
          try clear p2
          obtain ⟨x5_2, x6_2, x21_2, rfl, rfl, rfl, HA, HK2, HB⟩ := hrel
          cases gk with
          | zero => exact absurd HA.out (by simp [textedit_Validate.l0])
          | succ k2 =>
            have H := HA.out
            clear HA
            simp only [textedit_Validate.l0] at H
            by_cases c6 : x21_2 < (l1.length : Int)
            · rw [if_pos c6] at H
              have c6b0 : decide (x21_2 < (l1.length : Int)) = true := decide_eq_true c6
              clear c6
              by_cases c7 : 0 ≤ x21_2
              · rw [if_pos c7] at H
                have c7b0 : decide (0 ≤ x21_2) = true := decide_eq_true c7
                clear c7
                by_cases c8 : x21_2 < (l1.length : Int)
                · rw [if_pos c8] at H
                  have c8b0 : decide (x21_2 < (l1.length : Int)) = true := decide_eq_true c8
                  clear c8
                  by_cases c9 : ((rd_T31 l1 x21_2).f0) ≤ x5_2
                  · rw [if_pos c9] at H
                    have c9b0 : decide (((rd_T31 l1 x21_2).f0) ≤ x5_2) = true := decide_eq_true c9
                    clear c9
                    obtain rfl := Option.some.inj H
                    have p154 : 0 ≤ (x21_2 : Int) := of_decide_eq_true (by first | (with_reducible assumption) | assumption)
                    have q154 : x21_2 < (l1.length : Int) := of_decide_eq_true (by first | (with_reducible assumption) | assumption)
                    obtain ⟨ad154, e154, hx154_0, hx154_1, hx154_2⟩ := at_T31 HR1.out x21_2 p154 q154
                    cases e154
                    replace hx154_0 := (HB.out.cell (World.block_lt_of_cell? w _ hx154_0)).trans hx154_0
                    replace hx154_1 := (HB.out.cell (World.block_lt_of_cell? w _ hx154_1)).trans hx154_1
                    replace hx154_2 := (HB.out.cell (World.block_lt_of_cell? w _ hx154_2)).trans hx154_2
                    replace p154 := eq_true p154
                    replace q154 := eq_true q154
                    go_wp2_with (first | ((with_reducible refine gate_dst (N := 8) rfl ?_); (try (refine gate_guard (by rfl) ?_; dsimp only)); refine box_event ?hg (N := 8) ?hd (cs := #[.int .i64 0, .int .i64 0, .string (⟨#[]⟩ : ByteArray)]) (t := 31) ?hr ?_; (case hd => rfl); (case hg => rfl); (case hr => first | (go_simp; done) | (go_simp; rfl)); intro gb155 hg w10 hbox hb; have n0_ := Aside0.mk (below_step (by repeat (first | (with_reducible first | exact HB.out | apply below_alloc | apply pw_below_drewN | apply below_drew1) | exact HB.out)) hb); have n1_ := Aside0.mk (hbox); have n2_ := Aside0.mk ((by rw [hg]; exact (below_size (by repeat (first | (with_reducible first | exact HB.out | apply below_alloc | apply pw_below_drewN | apply below_drew1) | exact HB.out))) : w.heap.size ≤ gb155)); have n3_ := Aside0.mk ((by rw [hg]; exact (below_size (by repeat (first | (with_reducible first | exact HB.out | apply below_alloc | apply pw_below_drewN | apply below_drew1) | exact HB.out))) : w.heap.size ≤ gb155)); clear HB; have HB := n0_; have BK155 := n1_; have GW155 := n2_; have GE155 := n3_; clear n0_ n1_ n2_ n3_; clear hb hbox hg; have hcz11_0 : w10.cell? ⟨gb155, 0, none⟩ = some (.int .i64 0) := (blk_cell BK155.out 0).trans rfl; have hcz11_1 : w10.cell? ⟨gb155, 1, none⟩ = some (.int .i64 0) := (blk_cell BK155.out 1).trans rfl; have hcz11_2 : w10.cell? ⟨gb155, 2, none⟩ = some (.string (⟨#[]⟩ : ByteArray)) := (blk_cell BK155.out 2).trans rfl; have hfz11_0 := blk_frozen BK155.out 0; have hfz11_1 := blk_frozen BK155.out 1; have hfz11_2 := blk_frozen BK155.out 2))
                    go_ret
                    exact ⟨by first | rfl | (simp [errW_none, errW_some] <;> rfl) | (simp [*, errW_none, errW_some] <;> rfl), by repeat (first | (with_reducible first | exact HB.out | apply below_alloc | apply pw_below_drewN | apply below_drew1 | refine below_set ?_ GE155.out) | exact HB.out)⟩
                  · rw [if_neg c9] at H
                    have c9b0 : decide (((rd_T31 l1 x21_2).f0) ≤ x5_2) = false := decide_eq_false c9
                    clear c9
                    by_cases c12 : ((rd_T31 l1 x21_2).f1) < ((rd_T31 l1 x21_2).f0)
                    · rw [if_pos c12] at H
                      have c12b0 : decide (((rd_T31 l1 x21_2).f1) < ((rd_T31 l1 x21_2).f0)) = true := decide_eq_true c12
                      clear c12
                      obtain rfl := Option.some.inj H
                      have p154 : 0 ≤ (x21_2 : Int) := of_decide_eq_true (by first | (with_reducible assumption) | assumption)
                      have q154 : x21_2 < (l1.length : Int) := of_decide_eq_true (by first | (with_reducible assumption) | assumption)
                      obtain ⟨ad154, e154, hx154_0, hx154_1, hx154_2⟩ := at_T31 HR1.out x21_2 p154 q154
                      cases e154
                      replace hx154_0 := (HB.out.cell (World.block_lt_of_cell? w _ hx154_0)).trans hx154_0
                      replace hx154_1 := (HB.out.cell (World.block_lt_of_cell? w _ hx154_1)).trans hx154_1
                      replace hx154_2 := (HB.out.cell (World.block_lt_of_cell? w _ hx154_2)).trans hx154_2
                      replace p154 := eq_true p154
                      replace q154 := eq_true q154
                      go_wp2_with (first | ((with_reducible refine gate_dst (N := 8) rfl ?_); (try (refine gate_guard (by rfl) ?_; dsimp only)); refine box_event ?hg (N := 8) ?hd (cs := #[.int .i64 0, .int .i64 0, .string (⟨#[]⟩ : ByteArray)]) (t := 31) ?hr ?_; (case hd => rfl); (case hg => rfl); (case hr => first | (go_simp; done) | (go_simp; rfl)); intro gb155 hg w13 hbox hb; have n0_ := Aside0.mk (below_step (by repeat (first | (with_reducible first | exact HB.out | apply below_alloc | apply pw_below_drewN | apply below_drew1) | exact HB.out)) hb); have n1_ := Aside0.mk (hbox); have n2_ := Aside0.mk ((by rw [hg]; exact (below_size (by repeat (first | (with_reducible first | exact HB.out | apply below_alloc | apply pw_below_drewN | apply below_drew1) | exact HB.out))) : w.heap.size ≤ gb155)); have n3_ := Aside0.mk ((by rw [hg]; exact (below_size (by repeat (first | (with_reducible first | exact HB.out | apply below_alloc | apply pw_below_drewN | apply below_drew1) | exact HB.out))) : w.heap.size ≤ gb155)); clear HB; have HB := n0_; have BK155 := n1_; have GW155 := n2_; have GE155 := n3_; clear n0_ n1_ n2_ n3_; clear hb hbox hg; have hcz14_0 : w13.cell? ⟨gb155, 0, none⟩ = some (.int .i64 0) := (blk_cell BK155.out 0).trans rfl; have hcz14_1 : w13.cell? ⟨gb155, 1, none⟩ = some (.int .i64 0) := (blk_cell BK155.out 1).trans rfl; have hcz14_2 : w13.cell? ⟨gb155, 2, none⟩ = some (.string (⟨#[]⟩ : ByteArray)) := (blk_cell BK155.out 2).trans rfl; have hfz14_0 := blk_frozen BK155.out 0; have hfz14_1 := blk_frozen BK155.out 1; have hfz14_2 := blk_frozen BK155.out 2))
                      go_ret
                      exact ⟨by first | rfl | (simp [errW_none, errW_some] <;> rfl) | (simp [*, errW_none, errW_some] <;> rfl), by repeat (first | (with_reducible first | exact HB.out | apply below_alloc | apply pw_below_drewN | apply below_drew1 | refine below_set ?_ GE155.out) | exact HB.out)⟩
                    · rw [if_neg c12] at H
                      have c12b0 : decide (((rd_T31 l1 x21_2).f1) < ((rd_T31 l1 x21_2).f0)) = false := decide_eq_false c12
                      clear c12
                      by_cases c15 : ((rd_T31 l1 x21_2).f1) > (a0.size : Int)
                      · rw [if_pos c15] at H
                        have c15b0 : decide ((a0.size : Int) < ((rd_T31 l1 x21_2).f1)) = true := decide_eq_true c15
                        clear c15
                        obtain rfl := Option.some.inj H
                        have p154 : 0 ≤ (x21_2 : Int) := of_decide_eq_true (by first | (with_reducible assumption) | assumption)
                        have q154 : x21_2 < (l1.length : Int) := of_decide_eq_true (by first | (with_reducible assumption) | assumption)
                        obtain ⟨ad154, e154, hx154_0, hx154_1, hx154_2⟩ := at_T31 HR1.out x21_2 p154 q154
                        cases e154
                        replace hx154_0 := (HB.out.cell (World.block_lt_of_cell? w _ hx154_0)).trans hx154_0
                        replace hx154_1 := (HB.out.cell (World.block_lt_of_cell? w _ hx154_1)).trans hx154_1
                        replace hx154_2 := (HB.out.cell (World.block_lt_of_cell? w _ hx154_2)).trans hx154_2
                        replace p154 := eq_true p154
                        replace q154 := eq_true q154
                        go_wp2_with (first | ((with_reducible refine gate_dst (N := 8) rfl ?_); (try (refine gate_guard (by rfl) ?_; dsimp only)); refine box_event ?hg (N := 8) ?hd (cs := #[.int .i64 0, .int .i64 0, .string (⟨#[]⟩ : ByteArray)]) (t := 31) ?hr ?_; (case hd => rfl); (case hg => rfl); (case hr => first | (go_simp; done) | (go_simp; rfl)); intro gb155 hg w16 hbox hb; have n0_ := Aside0.mk (below_step (by repeat (first | (with_reducible first | exact HB.out | apply below_alloc | apply pw_below_drewN | apply below_drew1) | exact HB.out)) hb); have n1_ := Aside0.mk (hbox); have n2_ := Aside0.mk ((by rw [hg]; exact (below_size (by repeat (first | (with_reducible first | exact HB.out | apply below_alloc | apply pw_below_drewN | apply below_drew1) | exact HB.out))) : w.heap.size ≤ gb155)); have n3_ := Aside0.mk ((by rw [hg]; exact (below_size (by repeat (first | (with_reducible first | exact HB.out | apply below_alloc | apply pw_below_drewN | apply below_drew1) | exact HB.out))) : w.heap.size ≤ gb155)); clear HB; have HB := n0_; have BK155 := n1_; have GW155 := n2_; have GE155 := n3_; clear n0_ n1_ n2_ n3_; clear hb hbox hg; have hcz17_0 : w16.cell? ⟨gb155, 0, none⟩ = some (.int .i64 0) := (blk_cell BK155.out 0).trans rfl; have hcz17_1 : w16.cell? ⟨gb155, 1, none⟩ = some (.int .i64 0) := (blk_cell BK155.out 1).trans rfl; have hcz17_2 : w16.cell? ⟨gb155, 2, none⟩ = some (.string (⟨#[]⟩ : ByteArray)) := (blk_cell BK155.out 2).trans rfl; have hfz17_0 := blk_frozen BK155.out 0; have hfz17_1 := blk_frozen BK155.out 1; have hfz17_2 := blk_frozen BK155.out 2))
                        go_ret
                        exact ⟨by first | rfl | (simp [errW_none, errW_some] <;> rfl) | (simp [*, errW_none, errW_some] <;> rfl), by repeat (first | (with_reducible first | exact HB.out | apply below_alloc | apply pw_below_drewN | apply below_drew1 | refine below_set ?_ GE155.out) | exact HB.out)⟩
                      · rw [if_neg c15] at H
                        have c15b0 : decide ((a0.size : Int) < ((rd_T31 l1 x21_2).f1)) = false := decide_eq_false c15
                        clear c15
                        have H' := Aside0.mk H
                        clear H
                        have p154 : 0 ≤ (x21_2 : Int) := of_decide_eq_true (by first | (with_reducible assumption) | assumption)
                        have q154 : x21_2 < (l1.length : Int) := of_decide_eq_true (by first | (with_reducible assumption) | assumption)
                        obtain ⟨ad154, e154, hx154_0, hx154_1, hx154_2⟩ := at_T31 HR1.out x21_2 p154 q154
                        cases e154
                        replace hx154_0 := (HB.out.cell (World.block_lt_of_cell? w _ hx154_0)).trans hx154_0
                        replace hx154_1 := (HB.out.cell (World.block_lt_of_cell? w _ hx154_1)).trans hx154_1
                        replace hx154_2 := (HB.out.cell (World.block_lt_of_cell? w _ hx154_2)).trans hx154_2
                        replace p154 := eq_true p154
                        replace q154 := eq_true q154
                        go_wp2_with (first | ((with_reducible refine gate_dst (N := 8) rfl ?_); (try (refine gate_guard (by rfl) ?_; dsimp only)); refine box_event ?hg (N := 8) ?hd (cs := #[.int .i64 0, .int .i64 0, .string (⟨#[]⟩ : ByteArray)]) (t := 31) ?hr ?_; (case hd => rfl); (case hg => rfl); (case hr => first | (go_simp; done) | (go_simp; rfl)); intro gb155 hg w18 hbox hb; have n0_ := Aside0.mk (below_step (by repeat (first | (with_reducible first | exact HB.out | apply below_alloc | apply pw_below_drewN | apply below_drew1) | exact HB.out)) hb); have n1_ := Aside0.mk (hbox); have n2_ := Aside0.mk ((by rw [hg]; exact (below_size (by repeat (first | (with_reducible first | exact HB.out | apply below_alloc | apply pw_below_drewN | apply below_drew1) | exact HB.out))) : w.heap.size ≤ gb155)); have n3_ := Aside0.mk ((by rw [hg]; exact (below_size (by repeat (first | (with_reducible first | exact HB.out | apply below_alloc | apply pw_below_drewN | apply below_drew1) | exact HB.out))) : w.heap.size ≤ gb155)); clear HB; have HB := n0_; have BK155 := n1_; have GW155 := n2_; have GE155 := n3_; clear n0_ n1_ n2_ n3_; clear hb hbox hg; have hcz19_0 : w18.cell? ⟨gb155, 0, none⟩ = some (.int .i64 0) := (blk_cell BK155.out 0).trans rfl; have hcz19_1 : w18.cell? ⟨gb155, 1, none⟩ = some (.int .i64 0) := (blk_cell BK155.out 1).trans rfl; have hcz19_2 : w18.cell? ⟨gb155, 2, none⟩ = some (.string (⟨#[]⟩ : ByteArray)) := (blk_cell BK155.out 2).trans rfl; have hfz19_0 := blk_frozen BK155.out 0; have hfz19_1 := blk_frozen BK155.out 1; have hfz19_2 := blk_frozen BK155.out 2))
                        go_roundg k2
                        case measure => have := HJ2.out; have := HK2.out; omega
                        case rel => exact ⟨((rd_T31 l1 x21_2).f1), (wrap64 (x6_2 + (wrap64 ((((rd_T31 l1 x21_2).f2).size : Int) - (wrap64 (((rd_T31 l1 x21_2).f1) - ((rd_T31 l1 x21_2).f0))))))), (wrap64 (x21_2 + 1)), (by first | rfl | (simp; done) | (simp [*]; done)), (by first | rfl | (simp; done) | (simp [*]; done)), (by first | rfl | (simp; done) | (simp [*]; done)), H', ⟨by have := HJ2.out; have := HK2.out; omega⟩, ⟨by repeat (first | (with_reducible first | exact HB.out | apply below_alloc | apply pw_below_drewN | apply below_drew1 | refine below_set ?_ GE155.out) | exact HB.out)⟩⟩
                · rw [if_neg c8] at H
                  exact absurd H (by simp)
              · rw [if_neg c7] at H
                exact absurd H (by simp)
            · rw [if_neg c6] at H
              have c6b0 : decide (x21_2 < (l1.length : Int)) = false := decide_eq_false c6
              clear c6
              by_cases c20 : x6_2 > 2000
              · rw [if_pos c20] at H
                have c20b0 : decide (2000 < x6_2) = true := decide_eq_true c20
                clear c20
                obtain rfl := Option.some.inj H
                go_wp2
                go_ret
                exact ⟨by first | rfl | (simp [errW_none, errW_some] <;> rfl) | (simp [*, errW_none, errW_some] <;> rfl), by repeat (first | (with_reducible first | exact HB.out | apply below_alloc | apply pw_below_drewN | apply below_drew1) | exact HB.out)⟩
              · rw [if_neg c20] at H
                have c20b0 : decide (2000 < x6_2) = false := decide_eq_false c20
                clear c20
                obtain rfl := Option.some.inj H
                go_wp2
                go_ret
                exact ⟨by first | rfl | (simp [errW_none, errW_some] <;> rfl) | (simp [*, errW_none, errW_some] <;> rfl), by repeat (first | (with_reducible first | exact HB.out | apply below_alloc | apply pw_below_drewN | apply below_drew1) | exact HB.out)⟩

/-! ### textedit_Invert: function 11 -/
def textedit_Invert.l0 : Nat → ByteArray → List (S31) → Int → List (S31) → Int → Int → Option ((List (S31)) × Int)
  | 0, _, _, _, _, _, _ => none
  | k + 1, x0, x7, x8, x18, x19, x20 => if x20 < x19 then (if 0 ≤ x20 then (if x20 < (x18.length : Int) then (if 0 ≤ ((rd_T31 x18 x20).f0) then (if ((rd_T31 x18 x20).f0) ≤ ((rd_T31 x18 x20).f1) then (if ((rd_T31 x18 x20).f1) ≤ (x0.size : Int) then (if x7.length < 4398046511104 then (textedit_Invert.l0 k x0 (x7 ++ [(⟨wrap64 (((rd_T31 x18 x20).f0) + x8), wrap64 ((wrap64 (((rd_T31 x18 x20).f0) + x8)) + (((rd_T31 x18 x20).f2).size : Int)), x0.extract (((rd_T31 x18 x20).f0) : Int).toNat (((rd_T31 x18 x20).f1) : Int).toNat⟩ : S31)]) (wrap64 (x8 + (wrap64 ((((rd_T31 x18 x20).f2).size : Int) - (wrap64 (((rd_T31 x18 x20).f1) - ((rd_T31 x18 x20).f0))))))) x18 x19 (wrap64 (x20 + 1))) else (none)) else (none)) else (none)) else (none)) else (none)) else (none)) else (some (x7, 0))
def textedit_Invert.f (k : Nat) (a0 : ByteArray) (l1 : List (S31)) : Option ((List (S31)) × Int) := (textedit_Validate.f k a0 l1).bind fun t156 => (if t156 = 0 then (textedit_Invert.l0 k a0 ([] : List (S31)) 0 l1 (l1.length : Int) 0) else (some (([] : List (S31)), t156)))
theorem textedit_Invert.mono_l : ∀ k, (∀ y0 y1 y2 y3 y4 y5, LeO (textedit_Invert.l0 k y0 y1 y2 y3 y4 y5) (textedit_Invert.l0 (k + 1) y0 y1 y2 y3 y4 y5))
  | 0 => fun _ _ _ _ _ _ r h => by simp [textedit_Invert.l0] at h
  | k + 1 => by
    have ih0 := textedit_Invert.mono_l k
    · intro y0 y1 y2 y3 y4 y5
      unfold textedit_Invert.l0
      repeat' first
      | (with_reducible exact ih0 _ _ _ _ _ _)
      | (with_reducible exact textedit_Validate.mono _ _ _)
      | (with_reducible exact LeO.refl _)
      | (with_reducible exact LeO.none _)
      | (with_reducible refine LeO.ite ?_ ?_)
      | (with_reducible refine LeO.bind ?_ (fun _ => ?_))
      | exact ih0 _ _ _ _ _ _
      | exact textedit_Validate.mono _ _ _
      | exact LeO.none _
      | refine LeO.ite ?_ ?_
      | refine LeO.bind ?_ (fun _ => ?_)
theorem textedit_Invert.mono : ∀ a0 a1 k, LeO (textedit_Invert.f k a0 a1) (textedit_Invert.f (k + 1) a0 a1) := by
  intro a0 a1 k
  have ih0 := textedit_Invert.mono_l k
  unfold textedit_Invert.f
  repeat' first
      | (with_reducible exact ih0 _ _ _ _ _ _)
      | (with_reducible exact textedit_Validate.mono _ _ _)
      | (with_reducible exact LeO.refl _)
      | (with_reducible exact LeO.none _)
      | (with_reducible refine LeO.ite ?_ ?_)
      | (with_reducible refine LeO.bind ?_ (fun _ => ?_))
      | exact ih0 _ _ _ _ _ _
      | exact textedit_Validate.mono _ _ _
      | exact LeO.none _
      | refine LeO.ite ?_ ?_
      | refine LeO.bind ?_ (fun _ => ?_)
def textedit_Invert.T10 : Bool × List (List Nat × List Nat) := (true, [([], []), ([], []), ([], []), ([], []), ([3], [3]), ([4], [4]), ([2, 5], [2, 5]), ([], []), ([], []), ([8], [8]), ([], []), ([10], [10]), ([7, 9, 11], [7, 9, 11]), ([1, 6, 12], [1, 6, 12]), ([13], [13]), ([0, 14], [0, 14]), ([15, 15, 0, 1, 2, 3, 4, 5, 6, 7, 8, 9, 10, 11, 12, 13, 14, 15], [0, 15])])
def textedit_Invert.B10 : List Nat := [0, 0, 0, 0, 8, 24, 60, 0, 0, 256, 0, 1024, 3968, 8190, 16382, 32767, 65535]
theorem textedit_Invert.tab10 : rtab .any (opsOf Try.f11 10) = textedit_Invert.T10 := by kernel_rfl
theorem textedit_Invert.bits10 : waitsOk textedit_Invert.T10.2 textedit_Invert.B10 = true := by kernel_rfl
set_option maxHeartbeats 8000000 in
set_option maxRecDepth 100000 in
theorem textedit_Invert.calls (k : Nat) (a0 : ByteArray) (A1 : Option Addr) (c1 : Nat) (l1 : List (S31)) (r1 : List (S31)) (r2 : Int) (w : World) (hr1 : Kd.C k31 w A1 l1.length l1) (hc1 : l1.length ≤ c1) (h : textedit_Invert.f k a0 l1 = some (r1, r2)) :
    Calls Try.prog 11 #[.string a0, .slice A1 l1.length c1] w fun e w' => ∃ v0_ : Value, e = .returned (.tuple #[v0_, .int .i64 r2]) ∧ Kd.R k31 31 w' w.heap.size (fun _ => True) v0_ r1 ∧ Below w.heap.size w w' := by
  have hu31 := Try.underlying31
  have HR1 := Aside0.mk hr1
  have HC1 := Aside0.mk hc1
  clear hr1 hc1
  have HB := Aside0.mk (Below.refl w.heap.size w)
  have H : ((textedit_Validate.f k a0 l1).bind fun t156 => (if t156 = 0 then (textedit_Invert.l0 k a0 ([] : List (S31)) 0 l1 (l1.length : Int) 0) else (some (([] : List (S31)), t156)))) = some (r1, r2) := h
  clear h
  replace H := Option.bind_eq_some_iff.mp H
  obtain ⟨t156, A30, H⟩ := H
  replace H : (if t156 = 0 then (textedit_Invert.l0 k a0 ([] : List (S31)) 0 l1 (l1.length : Int) 0) else (some (([] : List (S31)), t156))) = some (r1, r2) := H
  have A3 := Aside0.mk A30
  clear A30
  by_cases c4 : t156 = 0
  · rw [if_pos c4] at H
    have c4b0 : (t156 == 0) = true := beq_iff_eq.mpr c4
    have c4b1 : (t156 != 0) = false := bne_eq_false_iff_eq.mpr c4
    clear c4
    have H' := Aside0.mk H
    clear H
    go_enter Try.func11, Try.ntmps11
    go_wp2_with (first | ((with_reducible refine gate_callee (f := 22) rfl ?_); refine goesL_ (some 14) rfl rfl Try.func22 (by kernel_rfl) rfl #[.string a0, .slice A1 l1.length c1] rfl (by (try simp only [List.map_toArray, List.map_cons, List.map_nil]); first | done | rfl | (simp only [List.length_drop, List.length_take]; rfl)) ?_; (with_reducible refine (textedit_Validate.calls k a0 _ _ l1 t156 _ ?side1 ?side2 A3.out).mono ?_); (case side1 => repeat (first | exact HR1.out | (with_reducible refine Kd.C_alloc ?_ _) | (with_reducible refine Kd.C_drewN ?_ _) | (with_reducible refine Kd.C_drew ?_))); (case side2 => exact HC1.out); rintro e w5 ⟨rfl, hb⟩; refine ⟨_, rfl, ?_⟩; have n0_ := Aside0.mk (below_step (by repeat (first | (with_reducible first | exact HB.out | apply below_alloc | apply pw_below_drewN | apply below_drew1) | exact HB.out)) hb); clear HB; have HB := n0_; clear n0_; (try clear hb); (try clear hb2); (try clear hk); (try clear hi)))
    go_loopg [7, 8, 20] k (fun kq v7 v8 v20 w' => ∃ (x7_1 : List (S31)) (x8_1 : Int) (x20_1 : Int), v8 = .int .i64 x8_1 ∧ v20 = .int .i64 x20_1 ∧ Aside0 (textedit_Invert.l0 kq a0 x7_1 x8_1 l1 (l1.length : Int) x20_1 = some (r1, r2)) ∧ Aside0 (kq ≤ k) ∧ Aside0 (Kd.R k31 31 w' w.heap.size (fun _ => True) v7 x7_1) ∧ Aside0 (Below w.heap.size w w'))
    case atStart => exact ⟨(([] : List (S31))), (0), (0), (by first | rfl | (simp; done) | (simp [*]; done)), (by first | rfl | (simp; done) | (simp [*]; done)), H', ⟨Nat.le_refl _⟩, ⟨by first | exact Kd.R_nil _ _ _ _ _ | exact Kd.N_nil _ _ _ _ _ | exact Kd.V_nil _ _ _ _ _ | exact Kd.Q_nil _ _ _ _ _ | exact Kd.S_nil _ _ _ _ _⟩, ⟨by repeat (first | (with_reducible first | exact HB.out | apply below_alloc | apply pw_below_drewN | apply below_drew1) | exact HB.out)⟩⟩
    case round =>
      clear H'
      try clear c1
      try clear c2
      try clear p2
      try clear c4
      try clear c4b0
      try clear c4b1
      obtain ⟨x7_1, x8_1, x20_1, rfl, rfl, HA, HK1, HO_7, HB⟩ := hrel
      cases gk with
      | zero => exact absurd HA.out (by simp [textedit_Invert.l0])
      | succ k1 =>
        have H := HA.out
        clear HA
        simp only [textedit_Invert.l0] at H
        by_cases c6 : x20_1 < (l1.length : Int)
        · rw [if_pos c6] at H
          have c6b0 : decide (x20_1 < (l1.length : Int)) = true := decide_eq_true c6
          clear c6
          by_cases c7 : 0 ≤ x20_1
          · rw [if_pos c7] at H
            have c7b0 : decide (0 ≤ x20_1) = true := decide_eq_true c7
            clear c7
            by_cases c8 : x20_1 < (l1.length : Int)
            · rw [if_pos c8] at H
              have c8b0 : decide (x20_1 < (l1.length : Int)) = true := decide_eq_true c8
              clear c8
              by_cases c9 : 0 ≤ ((rd_T31 l1 x20_1).f0)
              · rw [if_pos c9] at H
                have c9b0 := eq_true c9
                have c9b1 : decide (0 ≤ ((rd_T31 l1 x20_1).f0)) = true := decide_eq_true c9
                clear c9
                by_cases c10 : ((rd_T31 l1 x20_1).f0) ≤ ((rd_T31 l1 x20_1).f1)
                · rw [if_pos c10] at H
                  have c10b0 := eq_true c10
                  have c10b1 : decide (((rd_T31 l1 x20_1).f0) ≤ ((rd_T31 l1 x20_1).f1)) = true := decide_eq_true c10
                  clear c10
                  by_cases c11 : ((rd_T31 l1 x20_1).f1) ≤ (a0.size : Int)
                  · rw [if_pos c11] at H
                    have c11b0 := eq_true c11
                    have c11b1 : decide (((rd_T31 l1 x20_1).f1) ≤ (a0.size : Int)) = true := decide_eq_true c11
                    clear c11
                    by_cases c12 : x7_1.length < 4398046511104
                    · rw [if_pos c12] at H
                      have LMc12 := Aside0.mk c12
                      clear c12
                      obtain ⟨y159, hy159⟩ : ∃ y_ : List (S31), y_ = (x7_1 ++ [(⟨wrap64 (((rd_T31 l1 x20_1).f0) + x8_1), wrap64 ((wrap64 (((rd_T31 l1 x20_1).f0) + x8_1)) + (((rd_T31 l1 x20_1).f2).size : Int)), a0.extract (((rd_T31 l1 x20_1).f0) : Int).toNat (((rd_T31 l1 x20_1).f1) : Int).toNat⟩ : S31)]) := ⟨_, rfl⟩
                      replace H : (textedit_Invert.l0 k1 a0 y159 (wrap64 (x8_1 + (wrap64 ((((rd_T31 l1 x20_1).f2).size : Int) - (wrap64 (((rd_T31 l1 x20_1).f1) - ((rd_T31 l1 x20_1).f0))))))) l1 (l1.length : Int) (wrap64 (x20_1 + 1))) = some (r1, r2) := by first | (rw [hy159]; with_reducible exact H) | (have H2_ := (Option.bind_some _ _).symm.trans H; rw [hy159]; with_reducible exact H2_) | (have H2_ := (Option.bind_some _ _).symm.trans H; with_reducible exact H2_) | with_reducible exact H | (rw [hy159]; exact H) | exact H
                      have Ny159 := Aside0.mk hy159
                      clear hy159
                      have H' := Aside0.mk H
                      clear H
                      have p157 : 0 ≤ (x20_1 : Int) := of_decide_eq_true (by first | (with_reducible assumption) | assumption)
                      have q157 : x20_1 < (l1.length : Int) := of_decide_eq_true (by first | (with_reducible assumption) | assumption)
                      obtain ⟨ad157, e157, hx157_0, hx157_1, hx157_2⟩ := at_T31 HR1.out x20_1 p157 q157
                      cases e157
                      replace hx157_0 := (HB.out.cell (World.block_lt_of_cell? w _ hx157_0)).trans hx157_0
                      replace hx157_1 := (HB.out.cell (World.block_lt_of_cell? w _ hx157_1)).trans hx157_1
                      replace hx157_2 := (HB.out.cell (World.block_lt_of_cell? w _ hx157_2)).trans hx157_2
                      replace p157 := eq_true p157
                      replace q157 := eq_true q157
                      try go_wp2_with (first | ((with_reducible refine gate_dst (N := 10) rfl ?_); refine box_event ?hg (N := 10) ?hd (cs := #[.int .i64 0, .int .i64 0, .string (⟨#[]⟩ : ByteArray)]) (t := 31) ?hr ?_; (case hd => rfl); (case hg => rfl); (case hr => first | (go_simp; done) | (go_simp; rfl)); intro gb158 hg w13 hbox hb; have n0_ := Aside0.mk (Kd.R_below (Kd.R_elderB (by (with_reducible repeat (first | apply Kd.R_alloc | apply Kd.R_drewN | apply Kd.R_drew)); exact HO_7.out) gb158 (Nat.le_of_eq hg.symm)) hb); have n1_ := Aside0.mk (below_step (by repeat (first | (with_reducible first | exact HB.out | apply below_alloc | apply pw_below_drewN | apply below_drew1) | exact HB.out)) hb); have n2_ := Aside0.mk (hbox); have n3_ := Aside0.mk ((by rw [hg]; exact (below_size (by repeat (first | (with_reducible first | exact HB.out | apply below_alloc | apply pw_below_drewN | apply below_drew1) | exact HB.out))) : w.heap.size ≤ gb158)); have n4_ := Aside0.mk ((by rw [hg]; exact (below_size (by repeat (first | (with_reducible first | exact HB.out | apply below_alloc | apply pw_below_drewN | apply below_drew1) | exact HB.out))) : w.heap.size ≤ gb158)); clear HO_7; clear HB; have HO_7 := n0_; have HB := n1_; have BK158 := n2_; have GW158 := n3_; have GE158 := n4_; clear n0_ n1_ n2_ n3_ n4_; clear hb hbox hg; have hcz14_0 : w13.cell? ⟨gb158, 0, none⟩ = some (.int .i64 0) := (blk_cell BK158.out 0).trans rfl; have hcz14_1 : w13.cell? ⟨gb158, 1, none⟩ = some (.int .i64 0) := (blk_cell BK158.out 1).trans rfl; have hcz14_2 : w13.cell? ⟨gb158, 2, none⟩ = some (.string (⟨#[]⟩ : ByteArray)) := (blk_cell BK158.out 2).trans rfl; have hfz14_0 := blk_frozen BK158.out 0; have hfz14_1 := blk_frozen BK158.out 1; have hfz14_2 := blk_frozen BK158.out 2))
                      have n0_ : Aside0 (Kd.R k31 31 (((w13.setCell ⟨gb158, 0, none⟩ (.int .i64 ((rd_T31 l1 x20_1).f0))).setCell ⟨gb158, 1, none⟩ (.int .i64 ((rd_T31 l1 x20_1).f1))).setCell ⟨gb158, 2, none⟩ (.string ((rd_T31 l1 x20_1).f2))) w.heap.size (fun k_ => k_ ≠ gb158) u7 x7_1) := ⟨by (with_reducible repeat (first | apply Kd.R_alloc | apply Kd.R_drewN | apply Kd.R_drew)); exact Kd.R_mono (Kd.R_far (p := ⟨gb158, 2, none⟩) (Kd.R_far (p := ⟨gb158, 1, none⟩) (Kd.R_far (p := ⟨gb158, 0, none⟩) (Kd.R_mono HO_7.out (fun k_ hk => (⟨hk, hk.2⟩ : _ ∧ k_ ≠ gb158))) (fun _ hk => hk.2) (.int .i64 ((rd_T31 l1 x20_1).f0))) (fun _ hk => hk.2) (.int .i64 ((rd_T31 l1 x20_1).f1))) (fun _ hk => hk.2) (.string ((rd_T31 l1 x20_1).f2))) (fun _ hk => hk.1.2)⟩
                      have n1_ : Aside0 ((((w13.setCell ⟨gb158, 0, none⟩ (.int .i64 ((rd_T31 l1 x20_1).f0))).setCell ⟨gb158, 1, none⟩ (.int .i64 ((rd_T31 l1 x20_1).f1))).setCell ⟨gb158, 2, none⟩ (.string ((rd_T31 l1 x20_1).f2))).heap[gb158]? = some (.cells #[.int .i64 ((rd_T31 l1 x20_1).f0), .int .i64 ((rd_T31 l1 x20_1).f1), .string ((rd_T31 l1 x20_1).f2)] 31 (0, 0))) := ⟨by (with_reducible repeat (first | refine blk_drewN ?_ _ | refine blk_drew ?_ | refine blk_alloc ?_ _)); refine blk_put (cs := #[.int .i64 ((rd_T31 l1 x20_1).f0), .int .i64 ((rd_T31 l1 x20_1).f1), .string (⟨#[]⟩ : ByteArray)]) ?_ 2 _ rfl; (with_reducible repeat (first | refine blk_drewN ?_ _ | refine blk_drew ?_ | refine blk_alloc ?_ _)); refine blk_put (cs := #[.int .i64 ((rd_T31 l1 x20_1).f0), .int .i64 0, .string (⟨#[]⟩ : ByteArray)]) ?_ 1 _ rfl; (with_reducible repeat (first | refine blk_drewN ?_ _ | refine blk_drew ?_ | refine blk_alloc ?_ _)); refine blk_put (cs := #[.int .i64 0, .int .i64 0, .string (⟨#[]⟩ : ByteArray)]) ?_ 0 _ rfl; (with_reducible repeat (first | refine blk_drewN ?_ _ | refine blk_drew ?_ | refine blk_alloc ?_ _)); exact BK158.out⟩
                      have n2_ : Aside0 (Below w.heap.size w (((w13.setCell ⟨gb158, 0, none⟩ (.int .i64 ((rd_T31 l1 x20_1).f0))).setCell ⟨gb158, 1, none⟩ (.int .i64 ((rd_T31 l1 x20_1).f1))).setCell ⟨gb158, 2, none⟩ (.string ((rd_T31 l1 x20_1).f2)))) := ⟨by repeat (first | (with_reducible first | exact HB.out | apply below_alloc | apply pw_below_drewN | apply below_drew1 | refine below_set ?_ GE158.out) | exact HB.out)⟩
                      (try clear HO_7)
                      (try clear BK158)
                      (try clear HB)
                      generalize (((w13.setCell ⟨gb158, 0, none⟩ (.int .i64 ((rd_T31 l1 x20_1).f0))).setCell ⟨gb158, 1, none⟩ (.int .i64 ((rd_T31 l1 x20_1).f1))).setCell ⟨gb158, 2, none⟩ (.string ((rd_T31 l1 x20_1).f2))) = w15 at n0_ n1_ n2_ ⊢
                      have HO_7 := n0_
                      have BK158 := n1_
                      have HB := n2_
                      clear n0_ n1_ n2_
                      have n0_ := Aside0.mk (Kd.R_drew HO_7.out)
                      have n1_ := Aside0.mk (blk_drew BK158.out)
                      have n2_ := Aside0.mk (below_drew1 HB.out)
                      clear HO_7
                      clear BK158
                      clear HB
                      have HO_7 := n0_
                      have BK158 := n1_
                      have HB := n2_
                      clear n0_ n1_ n2_
                      refine start_ (n := 17) (S := fun w' => w'.cell? ⟨gb158, 0, none⟩ = some (.int .i64 ((rd_T31 l1 x20_1).f0)) ∧ w'.cell? ⟨gb158, 1, none⟩ = some (.int .i64 ((rd_T31 l1 x20_1).f1)) ∧ w'.cell? ⟨gb158, 2, none⟩ = some (.string ((rd_T31 l1 x20_1).f2))) (ds := []) #[false, false, false, false, false, false, false, false, false, false, false, false, false, false, false, false, false] (by kernel_rfl) rfl rfl ⟨(blk_cell BK158.out 0).trans rfl, (blk_cell BK158.out 1).trans rfl, (blk_cell BK158.out 2).trans rfl⟩ (fun hHeld => ?_); refine with_tabW textedit_Invert.tab10 textedit_Invert.bits10 (fun HT_ HW_ => ?_)
                      generalize w15.drew = w16 at HO_7 BK158 HB hHeld ⊢
                      refine pure_ (i := 0) (N := some 28) (v := ?_) (a' := ?_) #[true, false, false, false, false, false, false, false, false, false, false, false, false, false, false, false, false] rfl rfl (any_of HT_.out (by kernel_rfl)) (fun _ _ _ h => h) (Or.inl ⟨by rfl, ?_⟩) ?_ ?_
                      rotate_left
                      · intro w'
                        go_simp
                        with_reducible rfl
                      rotate_left
                      · simp only [Act.put, List.setIfInBounds_toArray, List.set_cons_zero, List.set_cons_succ, i64_w, i32_w]
                        rfl
                      refine pure_ (i := 1) (N := some 29) (v := ?_) (a' := ?_) #[true, true, false, false, false, false, false, false, false, false, false, false, false, false, false, false, false] rfl rfl (any_of HT_.out (by kernel_rfl)) (fun _ _ _ h => h) (Or.inl ⟨by rfl, ?_⟩) ?_ ?_
                      rotate_left
                      · intro w'
                        go_simp
                        with_reducible rfl
                      rotate_left
                      · simp only [Act.put, List.setIfInBounds_toArray, List.set_cons_zero, List.set_cons_succ, i64_w, i32_w]
                        rfl
                      refine pure_ (i := 2) (N := some 30) (v := ?_) (a' := ?_) #[true, true, true, false, false, false, false, false, false, false, false, false, false, false, false, false, false] rfl rfl (any_of HT_.out (by kernel_rfl)) (fun _ _ _ h => h) (Or.inl ⟨by rfl, ?_⟩) ?_ ?_
                      rotate_left
                      · intro w'
                        go_simp
                        with_reducible rfl
                      rotate_left
                      · simp only [Act.put, List.setIfInBounds_toArray, List.set_cons_zero, List.set_cons_succ, i64_w, i32_w]
                        rfl
                      refine pure_ (i := 3) (N := some 31) (v := ?_) (a' := ?_) #[true, true, true, true, false, false, false, false, false, false, false, false, false, false, false, false, false] rfl rfl (any_of HT_.out (by kernel_rfl)) (fun _ _ _ h => h) (Or.inl ⟨by rfl, ?_⟩) ?_ ?_
                      rotate_left
                      · intro w'
                        go_simp
                        with_reducible rfl
                      rotate_left
                      · simp only [Act.put, List.setIfInBounds_toArray, List.set_cons_zero, List.set_cons_succ, i64_w, i32_w]
                        rfl
                      refine pure_ (i := 7) (N := some 35) (v := ?_) (a' := ?_) #[true, true, true, true, false, false, false, true, false, false, false, false, false, false, false, false, false] rfl rfl (any_of HT_.out (by kernel_rfl)) (fun _ _ _ h => h) (Or.inl ⟨by rfl, ?_⟩) ?_ ?_
                      rotate_left
                      · intro w'
                        go_simp
                        with_reducible rfl
                      rotate_left
                      · simp only [Act.put, List.setIfInBounds_toArray, List.set_cons_zero, List.set_cons_succ, i64_w, i32_w]
                        rfl
                      refine pure_ (i := 8) (N := some 36) (v := ?_) (a' := ?_) #[true, true, true, true, false, false, false, true, true, false, false, false, false, false, false, false, false] rfl rfl (any_of HT_.out (by kernel_rfl)) (fun _ _ _ h => h) (Or.inl ⟨by rfl, ?_⟩) ?_ ?_
                      rotate_left
                      · intro w'
                        go_simp
                        with_reducible rfl
                      rotate_left
                      · simp only [Act.put, List.setIfInBounds_toArray, List.set_cons_zero, List.set_cons_succ, i64_w, i32_w]
                        rfl
                      refine pure_ (i := 10) (N := some 38) (v := ?_) (a' := ?_) #[true, true, true, true, false, false, false, true, true, false, true, false, false, false, false, false, false] rfl rfl (any_of HT_.out (by kernel_rfl)) (fun _ _ _ h => h) (Or.inl ⟨by rfl, ?_⟩) ?_ ?_
                      rotate_left
                      · intro w'
                        go_simp
                        with_reducible rfl
                      rotate_left
                      · simp only [Act.put, List.setIfInBounds_toArray, List.set_cons_zero, List.set_cons_succ, i64_w, i32_w]
                        rfl
                      refine take_ (i := 4) (N := some 32) (v := ?_) (a' := ?_) #[true, true, true, true, true, false, false, true, true, false, true, false, false, false, false, false, false] rfl rfl (take_ofW HT_.out HW_.out (by kernel_rfl)) (fun _ _ _ h => h) (Or.inl ⟨by rfl, ?_⟩) hHeld ?_ ?_
                      rotate_left
                      · rintro w' ⟨s0, s1, s2⟩
                        go_simp
                        with_reducible rfl
                      rotate_left
                      · simp only [Act.put, List.setIfInBounds_toArray, List.set_cons_zero, List.set_cons_succ, i64_w, i32_w]
                        rfl
                      refine pure_ (i := 5) (N := some 33) (v := ?_) (a' := ?_) #[true, true, true, true, true, true, false, true, true, false, true, false, false, false, false, false, false] rfl rfl (any_of HT_.out (by kernel_rfl)) (fun _ _ _ h => h) (Or.inl ⟨by rfl, ?_⟩) ?_ ?_
                      rotate_left
                      · intro w'
                        go_simp
                        with_reducible rfl
                      rotate_left
                      · simp only [Act.put, List.setIfInBounds_toArray, List.set_cons_zero, List.set_cons_succ, i64_w, i32_w]
                        rfl
                      refine pure_ (i := 6) (N := some 34) (v := ?_) (a' := ?_) #[true, true, true, true, true, true, true, true, true, false, true, false, false, false, false, false, false] rfl rfl (any_of HT_.out (by kernel_rfl)) (fun _ _ _ h => h) (Or.inl ⟨by rfl, ?_⟩) ?_ ?_
                      rotate_left
                      · intro w'
                        go_simp
                        with_reducible rfl
                      rotate_left
                      · simp only [Act.put, List.setIfInBounds_toArray, List.set_cons_zero, List.set_cons_succ, i64_w, i32_w]
                        rfl
                      refine take_ (i := 9) (N := some 37) (v := ?_) (a' := ?_) #[true, true, true, true, true, true, true, true, true, true, true, false, false, false, false, false, false] rfl rfl (take_ofW HT_.out HW_.out (by kernel_rfl)) (fun _ _ _ h => h) (Or.inl ⟨by rfl, ?_⟩) hHeld ?_ ?_
                      rotate_left
                      · rintro w' ⟨s0, s1, s2⟩
                        go_simp
                        with_reducible rfl
                      rotate_left
                      · simp only [Act.put, List.setIfInBounds_toArray, List.set_cons_zero, List.set_cons_succ, i64_w, i32_w]
                        rfl
                      refine take_ (i := 11) (N := some 39) (v := ?_) (a' := ?_) #[true, true, true, true, true, true, true, true, true, true, true, true, false, false, false, false, false] rfl rfl (take_ofW HT_.out HW_.out (by kernel_rfl)) (fun _ _ _ h => h) (Or.inl ⟨by rfl, ?_⟩) hHeld ?_ ?_
                      rotate_left
                      · rintro w' ⟨s0, s1, s2⟩
                        go_simp
                        with_reducible rfl
                      rotate_left
                      · simp only [Act.put, List.setIfInBounds_toArray, List.set_cons_zero, List.set_cons_succ, i64_w, i32_w]
                        rfl
                      refine pure_ (i := 12) (N := some 40) (v := ?_) (a' := ?_) #[true, true, true, true, true, true, true, true, true, true, true, true, true, false, false, false, false] rfl rfl (any_of HT_.out (by kernel_rfl)) (fun _ _ _ h => h) (Or.inl ⟨by rfl, ?_⟩) ?_ ?_
                      rotate_left
                      · intro w'
                        go_simp
                        with_reducible rfl
                      rotate_left
                      · simp only [Act.put, List.setIfInBounds_toArray, List.set_cons_zero, List.set_cons_succ, i64_w, i32_w]
                        rfl
                      refine pure_ (i := 13) (N := some 41) (v := ?_) (a' := ?_) #[true, true, true, true, true, true, true, true, true, true, true, true, true, true, false, false, false] rfl rfl (any_of HT_.out (by kernel_rfl)) (fun _ _ _ h => h) (Or.inl ⟨by rfl, ?_⟩) ?_ ?_
                      rotate_left
                      · intro w'
                        go_simp
                        with_reducible rfl
                      rotate_left
                      · simp only [Act.put, List.setIfInBounds_toArray, List.set_cons_zero, List.set_cons_succ, i64_w, i32_w]
                        rfl
                      refine one_ (i := 14) (N := some 42) #[true, true, true, true, true, true, true, true, true, true, true, true, true, true, true, false, false] rfl rfl (one_of HT_.out (by kernel_rfl)) (by decide) (fun K hK => ?_)
                      refine value_ (w1 := ?_) (v := ?_) (by rfl) rfl ?_ ?_
                      rotate_left 2
                      · go_simp
                        constructor
                        · rfl
                        · rfl
                      refine hK.out _ _ ⟨(blk_cell (blk_alloc BK158.out _) 0).trans rfl, (blk_cell (blk_alloc BK158.out _) 1).trans rfl, (blk_cell (blk_alloc BK158.out _) 2).trans rfl⟩ (fun hHeld => ?_)
                      clear hK K
                      refine norm_ (a' := ?_) ?_ ?_
                      rotate_left
                      · show Act.put _ (some 42) _ = _
                        simp only [Act.put, List.setIfInBounds_toArray, List.set_cons_zero, List.set_cons_succ, i64_w, i32_w]
                        rfl
                      refine one_ (i := 15) (N := some 43) #[true, true, true, true, true, true, true, true, true, true, true, true, true, true, true, true, false] rfl rfl (one_of HT_.out (by kernel_rfl)) (by decide) (fun K hK => ?_)
                      refine Kd.R_append_step k31 (w0 := w) w.heap.size (by rfl) (.tmp 28) (.tmp 42) 22 31 (.agg #[(.int .i64 0), (.int .i64 0), (.string ⟨#[]⟩)]) 32 rfl Try.underlying22 info31 rfl (by decide) (by omega) u7 x7_1 (⟨wrap64 (((rd_T31 l1 x20_1).f0) + x8_1), wrap64 ((wrap64 (((rd_T31 l1 x20_1).f0) + x8_1)) + (((rd_T31 l1 x20_1).f2).size : Int)), a0.extract (((rd_T31 l1 x20_1).f0) : Int).toNat (((rd_T31 l1 x20_1).f1) : Int).toNat⟩ : S31) [.int .i64 (wrap64 (((rd_T31 l1 x20_1).f0) + x8_1)), .int .i64 (wrap64 ((wrap64 (((rd_T31 l1 x20_1).f0) + x8_1)) + (((rd_T31 l1 x20_1).f2).size : Int))), .string (a0.extract (((rd_T31 l1 x20_1).f0) : Int).toNat (((rd_T31 l1 x20_1).f1) : Int).toNat)] (fun k_ => k_ ≠ gb158) (fun _ => False) rfl rfl ?aP (fun _ hk => hk.elim) ?aF ?aO ?aB ?aS ?aL ?_
                      (case aP => exact k31_mkM _ _ _ (⟨wrap64 (((rd_T31 l1 x20_1).f0) + x8_1), wrap64 ((wrap64 (((rd_T31 l1 x20_1).f0) + x8_1)) + (((rd_T31 l1 x20_1).f2).size : Int)), a0.extract (((rd_T31 l1 x20_1).f0) : Int).toNat (((rd_T31 l1 x20_1).f1) : Int).toNat⟩ : S31))
                      (case aB => exact (by repeat (first | (with_reducible first | exact HB.out | apply below_alloc | apply pw_below_drewN | apply below_drew1 | refine below_set ?_ GE158.out) | exact HB.out)))
                      (case aF => exact (fun k_ hk => Kd.freshB (g := gb158) (o := .cells #[.int .i64 ((rd_T31 l1 x20_1).f0), .int .i64 ((rd_T31 l1 x20_1).f1), .string ((rd_T31 l1 x20_1).f2)] 31 (0, 0)) (by (with_reducible repeat (first | refine blk_drewN ?_ _ | refine blk_drew ?_ | refine blk_alloc ?_ _)); exact BK158.out) k_ hk))
                      (case aO => exact (by (with_reducible repeat (first | apply Kd.R_alloc | apply Kd.R_drewN | apply Kd.R_drew)); exact HO_7.out))
                      (case aS => exact (below_size (by repeat (first | (with_reducible first | exact HB.out | apply below_alloc | apply pw_below_drewN | apply below_drew1 | refine below_set ?_ GE158.out) | exact HB.out))))
                      (case aL => have := LMc12.out; omega)
                      intro v160 w17 ho hb hg hat
                      rw [← Ny159.out] at ho
                      have n0_ := Aside0.mk (blk_grown (g := gb158) (o := .cells #[.int .i64 ((rd_T31 l1 x20_1).f0), .int .i64 ((rd_T31 l1 x20_1).f1), .string ((rd_T31 l1 x20_1).f2)] 31 (0, 0)) (by (with_reducible repeat (first | refine blk_drewN ?_ _ | refine blk_drew ?_ | refine blk_alloc ?_ _)); exact BK158.out) hg (Kd.R_away HO_7.out (fun _ hk => hk)))
                      have n1_ := Aside0.mk (hb)
                      have n2_ := Aside0.mk (ho)
                      clear BK158
                      clear HB
                      clear HO_7
                      have BK158 := n0_
                      have HB := n1_
                      have HO161 := n2_
                      clear n0_ n1_ n2_
                      clear ho hb hg hat
                      refine hK.out _ _ ⟨(blk_cell BK158.out 0).trans rfl, (blk_cell BK158.out 1).trans rfl, (blk_cell BK158.out 2).trans rfl⟩ (fun hHeld => ?_)
                      clear hK K
                      refine norm_ (a' := ?_) ?_ ?_
                      rotate_left
                      · show Act.put _ (some 43) _ = _
                        simp only [Act.put, List.setIfInBounds_toArray, List.set_cons_zero, List.set_cons_succ, i64_w, i32_w]
                        rfl
                      refine pure_ (i := 16) (N := some 7) (v := ?_) (a' := ?_) #[true, true, true, true, true, true, true, true, true, true, true, true, true, true, true, true, true] rfl rfl (any_of HT_.out (by kernel_rfl)) (fun _ _ _ h => h) (Or.inl ⟨by rfl, ?_⟩) ?_ ?_
                      rotate_left
                      · intro w'
                        go_simp
                        with_reducible rfl
                      rotate_left
                      · simp only [Act.put, List.setIfInBounds_toArray, List.set_cons_zero, List.set_cons_succ, i64_w, i32_w]
                        rfl
                      refine done_ (done_of HT_.out (by kernel_rfl)) ?_
                      have hcz18_0 : w17.cell? ⟨gb158, 0, none⟩ = some (.int .i64 ((rd_T31 l1 x20_1).f0)) := (blk_cell BK158.out 0).trans rfl
                      have hcz18_1 : w17.cell? ⟨gb158, 1, none⟩ = some (.int .i64 ((rd_T31 l1 x20_1).f1)) := (blk_cell BK158.out 1).trans rfl
                      have hcz18_2 : w17.cell? ⟨gb158, 2, none⟩ = some (.string ((rd_T31 l1 x20_1).f2)) := (blk_cell BK158.out 2).trans rfl
                      have hfz18_0 := blk_frozen BK158.out 0
                      have hfz18_1 := blk_frozen BK158.out 1
                      have hfz18_2 := blk_frozen BK158.out 2
                      try go_wp2
                      go_roundg k1
                      case measure => have := HK1.out; omega
                      case rel => exact ⟨(y159), (wrap64 (x8_1 + (wrap64 ((((rd_T31 l1 x20_1).f2).size : Int) - (wrap64 (((rd_T31 l1 x20_1).f1) - ((rd_T31 l1 x20_1).f0))))))), (wrap64 (x20_1 + 1)), (by first | rfl | (simp; done) | (simp [*]; done)), (by first | rfl | (simp; done) | (simp [*]; done)), H', ⟨by have := HK1.out; omega⟩, ⟨by (with_reducible repeat (first | apply Kd.R_alloc | apply Kd.R_drewN | apply Kd.R_drew)); exact Kd.R_mono HO161.out (fun _ hk => trivial)⟩, ⟨by repeat (first | (with_reducible first | exact HB.out | apply below_alloc | apply pw_below_drewN | apply below_drew1 | refine below_set ?_ GE158.out) | exact HB.out)⟩⟩
                    · rw [if_neg c12] at H
                      exact absurd H (by simp)
                  · rw [if_neg c11] at H
                    exact absurd H (by simp)
                · rw [if_neg c10] at H
                  exact absurd H (by simp)
              · rw [if_neg c9] at H
                exact absurd H (by simp)
            · rw [if_neg c8] at H
              exact absurd H (by simp)
          · rw [if_neg c7] at H
            exact absurd H (by simp)
        · rw [if_neg c6] at H
          have c6b0 : decide (x20_1 < (l1.length : Int)) = false := decide_eq_false c6
          clear c6
          simp only [Option.some.injEq, Prod.mk.injEq] at H
          obtain ⟨rfl, rfl⟩ := H
          go_wp2
          go_ret2
          exact ⟨_, by first | rfl | (simp [errW_none, errW_some] <;> rfl) | (simp [*, errW_none, errW_some] <;> rfl), by (with_reducible repeat (first | apply Kd.R_alloc | apply Kd.R_drewN | apply Kd.R_drew)); exact HO_7.out, by repeat (first | (with_reducible first | exact HB.out | apply below_alloc | apply pw_below_drewN | apply below_drew1) | exact HB.out)⟩
  · rw [if_neg c4] at H
    have c4b0 : (t156 == 0) = false := beq_eq_false_iff_ne.mpr c4
    have c4b1 : (t156 != 0) = true := bne_iff_ne.mpr c4
    simp only [Option.some.injEq, Prod.mk.injEq] at H
    obtain ⟨rfl, rfl⟩ := H
    go_enter Try.func11, Try.ntmps11
    go_wp2_with (first | ((with_reducible refine gate_callee (f := 22) rfl ?_); refine goesL_ (some 14) rfl rfl Try.func22 (by kernel_rfl) rfl #[.string a0, .slice A1 l1.length c1] rfl (by (try simp only [List.map_toArray, List.map_cons, List.map_nil]); first | done | rfl | (simp only [List.length_drop, List.length_take]; rfl)) ?_; (with_reducible refine (textedit_Validate.calls k a0 _ _ l1 t156 _ ?side1 ?side2 A3.out).mono ?_); (case side1 => repeat (first | exact HR1.out | (with_reducible refine Kd.C_alloc ?_ _) | (with_reducible refine Kd.C_drewN ?_ _) | (with_reducible refine Kd.C_drew ?_))); (case side2 => exact HC1.out); rintro e w19 ⟨rfl, hb⟩; refine ⟨_, rfl, ?_⟩; have n0_ := Aside0.mk (below_step (by repeat (first | (with_reducible first | exact HB.out | apply below_alloc | apply pw_below_drewN | apply below_drew1) | exact HB.out)) hb); clear HB; have HB := n0_; clear n0_; (try clear hb); (try clear hb2); (try clear hk); (try clear hi)))
    go_ret2
    exact ⟨_, by first | rfl | (simp [errW_none, errW_some] <;> rfl) | (simp [*, errW_none, errW_some] <;> rfl), by first | exact Kd.R_nil _ _ _ _ _ | exact Kd.N_nil _ _ _ _ _ | exact Kd.V_nil _ _ _ _ _ | exact Kd.Q_nil _ _ _ _ _ | exact Kd.S_nil _ _ _ _ _, by repeat (first | (with_reducible first | exact HB.out | apply below_alloc | apply pw_below_drewN | apply below_drew1) | exact HB.out)⟩

end Go.Proofs.Ytalhieinohkihaa.PA
