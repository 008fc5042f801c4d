-- WRITTEN BY drv.py (a program of this session's, over the kit's print program): Lean checks it.
import Derived.Test.YtlhaeonjobcdbaaPAx0
namespace Go.Proofs.Ytlhaeonjobcdbaa.PA
open Go.RowKit Go.Proofs.YtlhaeonjobcdbaaW.PrintWords Go.Proofs.YtlhaeonjobcdbaaW.PrintLast Go.Proofs.YtlhaeonjobcdbaaW.PrintMore
attribute [local go_sem] max2_int min2_int max_two min_two max_three min_three max_four min_four   -- for this text's walks alone
set_option linter.unusedVariables false
set_option linter.unusedSimpArgs false

/-! ### anchor_mapOffset: function 27 -/
mutual
def anchor_mapOffset.l0 : Nat → Int → Bool → Int → List (S43) → Int → Int → Option (Int)
  | 0, _, _, _, _, _, _ => none
  | k + 1, x1, x2, x7, x10, x11, x12 => if x12 < x11 then (if 0 ≤ x12 then (if x12 < (x10.length : Int) then (if ((rd_T43 x10 x12).f1) < x1 then (anchor_mapOffset.j1 k x1 x2 x7 x10 x11 x12 (decide (((rd_T43 x10 x12).f1) < x1)) ((rd_T43 x10 x12).f0) ((rd_T43 x10 x12).f1) ((rd_T43 x10 x12).f2)) else (if ((rd_T43 x10 x12).f1) = x1 then (if ((rd_T43 x10 x12).f0) < x1 then (anchor_mapOffset.j1 k x1 x2 x7 x10 x11 x12 true ((rd_T43 x10 x12).f0) ((rd_T43 x10 x12).f1) ((rd_T43 x10 x12).f2)) else (anchor_mapOffset.j1 k x1 x2 x7 x10 x11 x12 x2 ((rd_T43 x10 x12).f0) ((rd_T43 x10 x12).f1) ((rd_T43 x10 x12).f2))) else (anchor_mapOffset.j1 k x1 x2 x7 x10 x11 x12 false ((rd_T43 x10 x12).f0) ((rd_T43 x10 x12).f1) ((rd_T43 x10 x12).f2)))) else (none)) else (none)) else (some (wrap64 (x1 + x7)))
def anchor_mapOffset.j1 : Nat → Int → Bool → Int → List (S43) → Int → Int → Bool → Int → Int → ByteArray → Option (Int)
  | 0, _, _, _, _, _, _, _, _, _, _ => none
  | k + 1, x1, x2, x7, x10, x11, x12, x19, x105000, x105001, x105002 => if x19 = true then (anchor_mapOffset.l0 k x1 x2 (wrap64 (x7 + (wrap64 ((x105002.size : Int) - (wrap64 (x105001 - x105000)))))) x10 x11 (wrap64 (x12 + 1))) else (if x105000 < x1 then (anchor_mapOffset.j2 k x1 x7 x2 x105000 x105001 x105002) else (anchor_mapOffset.j2 k x1 x7 false x105000 x105001 x105002))
def anchor_mapOffset.j2 : Nat → Int → Int → Bool → Int → Int → ByteArray → Option (Int)
  | 0, _, _, _, _, _, _ => none
  | k + 1, x1, x7, x48, x105000, x105001, x105002 => if x48 = true then (some (wrap64 ((wrap64 (x105000 + x7)) + (x105002.size : Int)))) else (if x105000 < x1 then (some (wrap64 (x105000 + x7))) else (some (wrap64 (x1 + x7))))
end
def anchor_mapOffset.f (k : Nat) (l0 : List (S43)) (a1 : Int) (a2 : Bool) : Option (Int) := anchor_mapOffset.l0 k a1 a2 0 l0 (l0.length : Int) 0
theorem anchor_mapOffset.mono_l : ∀ k, (∀ y0 y1 y2 y3 y4 y5, LeO (anchor_mapOffset.l0 k y0 y1 y2 y3 y4 y5) (anchor_mapOffset.l0 (k + 1) y0 y1 y2 y3 y4 y5)) ∧ (∀ y0 y1 y2 y3 y4 y5 y6 y7 y8 y9, LeO (anchor_mapOffset.j1 k y0 y1 y2 y3 y4 y5 y6 y7 y8 y9) (anchor_mapOffset.j1 (k + 1) y0 y1 y2 y3 y4 y5 y6 y7 y8 y9)) ∧ (∀ y0 y1 y2 y3 y4 y5, LeO (anchor_mapOffset.j2 k y0 y1 y2 y3 y4 y5) (anchor_mapOffset.j2 (k + 1) y0 y1 y2 y3 y4 y5))
  | 0 => ⟨fun _ _ _ _ _ _ r h => by simp [anchor_mapOffset.l0] at h, fun _ _ _ _ _ _ _ _ _ _ r h => by simp [anchor_mapOffset.j1] at h, fun _ _ _ _ _ _ r h => by simp [anchor_mapOffset.j2] at h⟩
  | k + 1 => by
    obtain ⟨ih0, ih1, ih2⟩ := anchor_mapOffset.mono_l k
    refine ⟨?_, ?_, ?_⟩
    · intro y0 y1 y2 y3 y4 y5
      unfold anchor_mapOffset.l0
      repeat' first
      | (with_reducible exact ih0 _ _ _ _ _ _)
      | (with_reducible exact ih1 _ _ _ _ _ _ _ _ _ _)
      | (with_reducible exact ih2 _ _ _ _ _ _)
      | (with_reducible exact LeO.refl _)
      | (with_reducible exact LeO.none _)
      | (with_reducible refine LeO.ite ?_ ?_)
      | (with_reducible refine LeO.bind ?_ (fun _ => ?_))
      | exact ih0 _ _ _ _ _ _
      | exact ih1 _ _ _ _ _ _ _ _ _ _
      | exact ih2 _ _ _ _ _ _
      | exact LeO.none _
      | refine LeO.ite ?_ ?_
      | refine LeO.bind ?_ (fun _ => ?_)
    · intro y0 y1 y2 y3 y4 y5 y6 y7 y8 y9
      unfold anchor_mapOffset.j1
      repeat' first
      | (with_reducible exact ih0 _ _ _ _ _ _)
      | (with_reducible exact ih1 _ _ _ _ _ _ _ _ _ _)
      | (with_reducible exact ih2 _ _ _ _ _ _)
      | (with_reducible exact LeO.refl _)
      | (with_reducible exact LeO.none _)
      | (with_reducible refine LeO.ite ?_ ?_)
      | (with_reducible refine LeO.bind ?_ (fun _ => ?_))
      | exact ih0 _ _ _ _ _ _
      | exact ih1 _ _ _ _ _ _ _ _ _ _
      | exact ih2 _ _ _ _ _ _
      | exact LeO.none _
      | refine LeO.ite ?_ ?_
      | refine LeO.bind ?_ (fun _ => ?_)
    · intro y0 y1 y2 y3 y4 y5
      unfold anchor_mapOffset.j2
      repeat' first
      | (with_reducible exact ih0 _ _ _ _ _ _)
      | (with_reducible exact ih1 _ _ _ _ _ _ _ _ _ _)
      | (with_reducible exact ih2 _ _ _ _ _ _)
      | (with_reducible exact LeO.refl _)
      | (with_reducible exact LeO.none _)
      | (with_reducible refine LeO.ite ?_ ?_)
      | (with_reducible refine LeO.bind ?_ (fun _ => ?_))
      | exact ih0 _ _ _ _ _ _
      | exact ih1 _ _ _ _ _ _ _ _ _ _
      | exact ih2 _ _ _ _ _ _
      | exact LeO.none _
      | refine LeO.ite ?_ ?_
      | refine LeO.bind ?_ (fun _ => ?_)
theorem anchor_mapOffset.mono : ∀ a0 a1 a2 k, LeO (anchor_mapOffset.f k a0 a1 a2) (anchor_mapOffset.f (k + 1) a0 a1 a2) := by
  intro a0 a1 a2 k
  obtain ⟨ih0, ih1, ih2⟩ := anchor_mapOffset.mono_l k
  unfold anchor_mapOffset.f
  repeat' first
      | (with_reducible exact ih0 _ _ _ _ _ _)
      | (with_reducible exact ih1 _ _ _ _ _ _ _ _ _ _)
      | (with_reducible exact ih2 _ _ _ _ _ _)
      | (with_reducible exact LeO.refl _)
      | (with_reducible exact LeO.none _)
      | (with_reducible refine LeO.ite ?_ ?_)
      | (with_reducible refine LeO.bind ?_ (fun _ => ?_))
      | exact ih0 _ _ _ _ _ _
      | exact ih1 _ _ _ _ _ _ _ _ _ _
      | exact ih2 _ _ _ _ _ _
      | exact LeO.none _
      | refine LeO.ite ?_ ?_
      | refine LeO.bind ?_ (fun _ => ?_)
set_option maxHeartbeats 8000000 in
set_option maxRecDepth 100000 in
theorem anchor_mapOffset.calls (k : Nat) (A0 : Option Addr) (c0 : Nat) (l0 : List (S43)) (a1 : Int) (a2 : Bool) (r : Int) (w : World) (hr0 : Kd.C k43 w A0 l0.length l0) (hc0 : l0.length ≤ c0) (h : anchor_mapOffset.f k l0 a1 a2 = some r) :
    Calls Try.prog 27 #[.slice A0 l0.length c0, .int .i64 a1, .bool a2] w fun e w' => e = .returned (.int .i64 r) ∧ Below w.heap.size w w' := by
  have hu43 := Try.underlying43
  have HR0 := Aside0.mk hr0
  have HC0 := Aside0.mk hc0
  clear hr0 hc0
  have HB := Aside0.mk (Below.refl w.heap.size w)
  have H : (anchor_mapOffset.l0 k a1 a2 0 l0 (l0.length : Int) 0) = some r := h
  clear h
  have H' := Aside0.mk H
  clear H
  go_enter Try.func27, Try.ntmps27
  go_wp2
  go_loopg [7, 12] k (fun kq v7 v12 w' => ∃ (x7_1 : Int) (x12_1 : Int), v7 = .int .i64 x7_1 ∧ v12 = .int .i64 x12_1 ∧ Aside0 (anchor_mapOffset.l0 kq a1 a2 x7_1 l0 (l0.length : Int) x12_1 = some r) ∧ Aside0 (kq ≤ k) ∧ Aside0 (Below w.heap.size w w'))
  case atStart => exact ⟨(0), (0), (by first | rfl | (simp; done) | (simp [*]; done)), (by first | rfl | (simp; done) | (simp [*]; done)), H', ⟨Nat.le_refl _⟩, ⟨by repeat (first | (with_reducible first | exact HB.out | apply below_alloc | apply pw_below_drewN | apply below_drew1) | exact HB.out)⟩⟩
  case round =>
    clear H'
    try clear c2
    try clear p2
    obtain ⟨x7_1, x12_1, rfl, rfl, HA, HK1, HB⟩ := hrel
    cases gk with
    | zero => exact absurd HA.out (by simp [anchor_mapOffset.l0])
    | succ k1 =>
      have H := HA.out
      clear HA
      simp only [anchor_mapOffset.l0] at H
      by_cases c4 : x12_1 < (l0.length : Int)
      · rw [if_pos c4] at H
        have c4b0 : decide (x12_1 < (l0.length : Int)) = true := decide_eq_true c4
        clear c4
        by_cases c5 : 0 ≤ x12_1
        · rw [if_pos c5] at H
          have c5b0 : decide (0 ≤ x12_1) = true := decide_eq_true c5
          clear c5
          by_cases c6 : x12_1 < (l0.length : Int)
          · rw [if_pos c6] at H
            have c6b0 : decide (x12_1 < (l0.length : Int)) = true := decide_eq_true c6
            clear c6
            have HC7 := Aside0.mk H
            clear H
            have p103 : 0 ≤ (x12_1 : Int) := of_decide_eq_true (by first | (with_reducible assumption) | assumption)
            have q103 : x12_1 < (l0.length : Int) := of_decide_eq_true (by first | (with_reducible assumption) | assumption)
            obtain ⟨ad103, e103, hx103_0, hx103_1, hx103_2⟩ := at_T43 HR0.out x12_1 p103 q103
            cases e103
            replace hx103_0 := (HB.out.cell (World.block_lt_of_cell? w _ hx103_0)).trans hx103_0
            replace hx103_1 := (HB.out.cell (World.block_lt_of_cell? w _ hx103_1)).trans hx103_1
            replace hx103_2 := (HB.out.cell (World.block_lt_of_cell? w _ hx103_2)).trans hx103_2
            replace p103 := eq_true p103
            replace q103 := eq_true q103
            go_upto_if 19 with (first | ((with_reducible refine gate_dst (N := 9) rfl ?_); refine box_event ?hg (N := 9) ?hd (cs := #[.int .i64 0, .int .i64 0, .string (⟨#[]⟩ : ByteArray)]) (t := 43) ?hr ?_; (case hd => rfl); (case hg => rfl); (case hr => first | (go_simp; done) | (go_simp; rfl)); intro gb104 hg w8 hbox hb; have n0_ := Aside0.mk (below_step (by repeat (first | (with_reducible first | exact HB.out | apply below_alloc | apply pw_below_drewN | apply below_drew1) | exact HB.out)) hb); have n1_ := Aside0.mk (hbox); have n2_ := Aside0.mk ((by rw [hg]; exact (below_size (by repeat (first | (with_reducible first | exact HB.out | apply below_alloc | apply pw_below_drewN | apply below_drew1) | exact HB.out))) : w.heap.size ≤ gb104)); have n3_ := Aside0.mk ((by rw [hg]; exact (below_size (by repeat (first | (with_reducible first | exact HB.out | apply below_alloc | apply pw_below_drewN | apply below_drew1) | exact HB.out))) : w.heap.size ≤ gb104)); clear HB; have HB := n0_; have BK104 := n1_; have GW104 := n2_; have GE104 := n3_; clear n0_ n1_ n2_ n3_; clear hb hbox hg; have hcz9_0 : w8.cell? ⟨gb104, 0, none⟩ = some (.int .i64 0) := (blk_cell BK104.out 0).trans rfl; have hcz9_1 : w8.cell? ⟨gb104, 1, none⟩ = some (.int .i64 0) := (blk_cell BK104.out 1).trans rfl; have hcz9_2 : w8.cell? ⟨gb104, 2, none⟩ = some (.string (⟨#[]⟩ : ByteArray)) := (blk_cell BK104.out 2).trans rfl; have hfz9_0 := blk_frozen BK104.out 0; have hfz9_1 := blk_frozen BK104.out 1; have hfz9_2 := blk_frozen BK104.out 2))
            (try simp only [Act.put, List.setIfInBounds_toArray, List.set_cons_zero, List.set_cons_succ])
            go_cut [19] (fun v19 wc => ∃ (kq : Nat) (x19_6 : Bool), v19 = .bool x19_6 ∧ Aside0 (anchor_mapOffset.j1 kq a1 a2 x7_1 l0 (l0.length : Int) x12_1 x19_6 ((rd_T43 l0 x12_1).f0) ((rd_T43 l0 x12_1).f1) ((rd_T43 l0 x12_1).f2) = some r) ∧ Aside0 (kq ≤ k1) ∧ Aside0 (wc.heap[gb104]? = some (.cells #[.int .i64 ((rd_T43 l0 x12_1).f0), .int .i64 ((rd_T43 l0 x12_1).f1), .string ((rd_T43 l0 x12_1).f2)] 43 (0, 0))) ∧ Aside0 (Below w.heap.size w wc))
            case first =>
              have H := HC7.out
              clear HC7
              by_cases c10 : ((rd_T43 l0 x12_1).f1) < a1
              · rw [if_pos c10] at H
                have c10b0 : decide (((rd_T43 l0 x12_1).f1) < a1) = true := decide_eq_true c10
                clear c10
                (first | rw [c10b0] | (simp only [i64_w, i32_w]; rw [c10b0]) | skip)
                have H' := Aside0.mk H
                clear H
                go_wp2
                go_meet
                case rel => exact ⟨_, (decide (((rd_T43 l0 x12_1).f1) < a1)), (by first | rfl | (simp; done) | (simp [*]; done)), H', ⟨by have := HK1.out; first | omega | exact Nat.le_refl _⟩, ⟨by (with_reducible repeat (first | refine blk_drewN ?_ _ | refine blk_drew ?_ | refine blk_alloc ?_ _)); refine blk_put (cs := #[.int .i64 ((rd_T43 l0 x12_1).f0), .int .i64 ((rd_T43 l0 x12_1).f1), .string (⟨#[]⟩ : ByteArray)]) ?_ 2 _ rfl; (with_reducible repeat (first | refine blk_drewN ?_ _ | refine blk_drew ?_ | refine blk_alloc ?_ _)); refine blk_put (cs := #[.int .i64 ((rd_T43 l0 x12_1).f0), .int .i64 0, .string (⟨#[]⟩ : ByteArray)]) ?_ 1 _ rfl; (with_reducible repeat (first | refine blk_drewN ?_ _ | refine blk_drew ?_ | refine blk_alloc ?_ _)); refine blk_put (cs := #[.int .i64 0, .int .i64 0, .string (⟨#[]⟩ : ByteArray)]) ?_ 0 _ rfl; (with_reducible repeat (first | refine blk_drewN ?_ _ | refine blk_drew ?_ | refine blk_alloc ?_ _)); exact BK104.out⟩, ⟨by repeat (first | (with_reducible first | exact HB.out | apply below_alloc | apply pw_below_drewN | apply below_drew1 | refine below_set ?_ GE104.out) | exact HB.out)⟩⟩
              · rw [if_neg c10] at H
                have c10b0 : decide (((rd_T43 l0 x12_1).f1) < a1) = false := decide_eq_false c10
                clear c10
                (first | rw [c10b0] | (simp only [i64_w, i32_w]; rw [c10b0]) | skip)
                by_cases c11 : ((rd_T43 l0 x12_1).f1) = a1
                · rw [if_pos c11] at H
                  have c11b0 : (((rd_T43 l0 x12_1).f1) == a1) = true := beq_iff_eq.mpr c11
                  have c11b1 : (((rd_T43 l0 x12_1).f1) != a1) = false := bne_eq_false_iff_eq.mpr c11
                  clear c11
                  by_cases c12 : ((rd_T43 l0 x12_1).f0) < a1
                  · rw [if_pos c12] at H
                    have c12b0 : decide (((rd_T43 l0 x12_1).f0) < a1) = true := decide_eq_true c12
                    clear c12
                    have H' := Aside0.mk H
                    clear H
                    have hcz13_0 : w8.cell? ⟨gb104, 0, none⟩ = some (.int .i64 0) := (blk_cell BK104.out 0).trans rfl
                    have hcz13_1 : w8.cell? ⟨gb104, 1, none⟩ = some (.int .i64 0) := (blk_cell BK104.out 1).trans rfl
                    have hcz13_2 : w8.cell? ⟨gb104, 2, none⟩ = some (.string (⟨#[]⟩ : ByteArray)) := (blk_cell BK104.out 2).trans rfl
                    have hfz13_0 := blk_frozen BK104.out 0
                    have hfz13_1 := blk_frozen BK104.out 1
                    have hfz13_2 := blk_frozen BK104.out 2
                    go_wp2
                    go_meet
                    case rel => exact ⟨_, (true), (by first | rfl | (simp; done) | (simp [*]; done)), H', ⟨by have := HK1.out; first | omega | exact Nat.le_refl _⟩, ⟨by (with_reducible repeat (first | refine blk_drewN ?_ _ | refine blk_drew ?_ | refine blk_alloc ?_ _)); refine blk_put (cs := #[.int .i64 ((rd_T43 l0 x12_1).f0), .int .i64 ((rd_T43 l0 x12_1).f1), .string (⟨#[]⟩ : ByteArray)]) ?_ 2 _ rfl; (with_reducible repeat (first | refine blk_drewN ?_ _ | refine blk_drew ?_ | refine blk_alloc ?_ _)); refine blk_put (cs := #[.int .i64 ((rd_T43 l0 x12_1).f0), .int .i64 0, .string (⟨#[]⟩ : ByteArray)]) ?_ 1 _ rfl; (with_reducible repeat (first | refine blk_drewN ?_ _ | refine blk_drew ?_ | refine blk_alloc ?_ _)); refine blk_put (cs := #[.int .i64 0, .int .i64 0, .string (⟨#[]⟩ : ByteArray)]) ?_ 0 _ rfl; (with_reducible repeat (first | refine blk_drewN ?_ _ | refine blk_drew ?_ | refine blk_alloc ?_ _)); exact BK104.out⟩, ⟨by repeat (first | (with_reducible first | exact HB.out | apply below_alloc | apply pw_below_drewN | apply below_drew1 | refine below_set ?_ GE104.out) | exact HB.out)⟩⟩
                  · rw [if_neg c12] at H
                    have c12b0 : decide (((rd_T43 l0 x12_1).f0) < a1) = false := decide_eq_false c12
                    clear c12
                    have H' := Aside0.mk H
                    clear H
                    have hcz14_0 : w8.cell? ⟨gb104, 0, none⟩ = some (.int .i64 0) := (blk_cell BK104.out 0).trans rfl
                    have hcz14_1 : w8.cell? ⟨gb104, 1, none⟩ = some (.int .i64 0) := (blk_cell BK104.out 1).trans rfl
                    have hcz14_2 : w8.cell? ⟨gb104, 2, none⟩ = some (.string (⟨#[]⟩ : ByteArray)) := (blk_cell BK104.out 2).trans rfl
                    have hfz14_0 := blk_frozen BK104.out 0
                    have hfz14_1 := blk_frozen BK104.out 1
                    have hfz14_2 := blk_frozen BK104.out 2
                    go_wp2
                    go_meet
                    case rel => exact ⟨_, (a2), (by first | rfl | (simp; done) | (simp [*]; done)), H', ⟨by have := HK1.out; first | omega | exact Nat.le_refl _⟩, ⟨by (with_reducible repeat (first | refine blk_drewN ?_ _ | refine blk_drew ?_ | refine blk_alloc ?_ _)); refine blk_put (cs := #[.int .i64 ((rd_T43 l0 x12_1).f0), .int .i64 ((rd_T43 l0 x12_1).f1), .string (⟨#[]⟩ : ByteArray)]) ?_ 2 _ rfl; (with_reducible repeat (first | refine blk_drewN ?_ _ | refine blk_drew ?_ | refine blk_alloc ?_ _)); refine blk_put (cs := #[.int .i64 ((rd_T43 l0 x12_1).f0), .int .i64 0, .string (⟨#[]⟩ : ByteArray)]) ?_ 1 _ rfl; (with_reducible repeat (first | refine blk_drewN ?_ _ | refine blk_drew ?_ | refine blk_alloc ?_ _)); refine blk_put (cs := #[.int .i64 0, .int .i64 0, .string (⟨#[]⟩ : ByteArray)]) ?_ 0 _ rfl; (with_reducible repeat (first | refine blk_drewN ?_ _ | refine blk_drew ?_ | refine blk_alloc ?_ _)); exact BK104.out⟩, ⟨by repeat (first | (with_reducible first | exact HB.out | apply below_alloc | apply pw_below_drewN | apply below_drew1 | refine below_set ?_ GE104.out) | exact HB.out)⟩⟩
                · rw [if_neg c11] at H
                  have c11b0 : (((rd_T43 l0 x12_1).f1) == a1) = false := beq_eq_false_iff_ne.mpr c11
                  have c11b1 : (((rd_T43 l0 x12_1).f1) != a1) = true := bne_iff_ne.mpr c11
                  have H' := Aside0.mk H
                  clear H
                  have hcz15_0 : w8.cell? ⟨gb104, 0, none⟩ = some (.int .i64 0) := (blk_cell BK104.out 0).trans rfl
                  have hcz15_1 : w8.cell? ⟨gb104, 1, none⟩ = some (.int .i64 0) := (blk_cell BK104.out 1).trans rfl
                  have hcz15_2 : w8.cell? ⟨gb104, 2, none⟩ = some (.string (⟨#[]⟩ : ByteArray)) := (blk_cell BK104.out 2).trans rfl
                  have hfz15_0 := blk_frozen BK104.out 0
                  have hfz15_1 := blk_frozen BK104.out 1
                  have hfz15_2 := blk_frozen BK104.out 2
                  go_wp2
                  go_meet
                  case rel => exact ⟨_, (false), (by first | rfl | (simp; done) | (simp [*]; done)), H', ⟨by have := HK1.out; first | omega | exact Nat.le_refl _⟩, ⟨by (with_reducible repeat (first | refine blk_drewN ?_ _ | refine blk_drew ?_ | refine blk_alloc ?_ _)); refine blk_put (cs := #[.int .i64 ((rd_T43 l0 x12_1).f0), .int .i64 ((rd_T43 l0 x12_1).f1), .string (⟨#[]⟩ : ByteArray)]) ?_ 2 _ rfl; (with_reducible repeat (first | refine blk_drewN ?_ _ | refine blk_drew ?_ | refine blk_alloc ?_ _)); refine blk_put (cs := #[.int .i64 ((rd_T43 l0 x12_1).f0), .int .i64 0, .string (⟨#[]⟩ : ByteArray)]) ?_ 1 _ rfl; (with_reducible repeat (first | refine blk_drewN ?_ _ | refine blk_drew ?_ | refine blk_alloc ?_ _)); refine blk_put (cs := #[.int .i64 0, .int .i64 0, .string (⟨#[]⟩ : ByteArray)]) ?_ 0 _ rfl; (with_reducible repeat (first | refine blk_drewN ?_ _ | refine blk_drew ?_ | refine blk_alloc ?_ _)); exact BK104.out⟩, ⟨by repeat (first | (with_reducible first | exact HB.out | apply below_alloc | apply pw_below_drewN | apply below_drew1 | refine below_set ?_ GE104.out) | exact HB.out)⟩⟩
            case rest =>
              clear HC7
              try clear c1
              try clear p1
              try clear q1
              try clear hx1
              try clear c2
              try clear p2
              try clear c4
              try clear c4b0
              try clear c5
              try clear c5b0
              try clear c6
              try clear c6b0
              try clear c10
              try clear c10b0
              try clear p10
              try clear q10
              try clear hx10
              try clear c11
              try clear c11b0
              try clear c11b1
              try clear c12
              try clear c12b0
              try clear hcz13_0
              try clear hcz13_1
              try clear hcz13_2
              try clear hcz14_0
              try clear hcz14_1
              try clear hcz14_2
              try clear hcz15_0
              try clear hcz15_1
              try clear hcz15_2
              try clear hcz9_0
              try clear hcz9_1
              try clear hcz9_2
              try clear hfz13_0
              try clear hfz13_1
              try clear hfz13_2
              try clear hfz14_0
              try clear hfz14_1
              try clear hfz14_2
              try clear hfz15_0
              try clear hfz15_1
              try clear hfz15_2
              try clear hfz9_0
              try clear hfz9_1
              try clear hfz9_2
              try clear hx103_0
              try clear hx103_1
              try clear hx103_2
              try clear p103
              try clear p2
              try clear q103
              obtain ⟨kq, x19_6, rfl, HA, HJ6, BK104, HB⟩ := hcut
              cases kq with
              | zero => exact absurd HA.out (by simp [anchor_mapOffset.j1])
              | succ kj6 =>
                have H := HA.out
                clear HA
                simp only [anchor_mapOffset.j1] at H
                by_cases c16 : x19_6 = true
                · subst c16
                  have H1 : (anchor_mapOffset.l0 kj6 a1 a2 (wrap64 (x7_1 + (wrap64 ((((rd_T43 l0 x12_1).f2).size : Int) - (wrap64 (((rd_T43 l0 x12_1).f1) - ((rd_T43 l0 x12_1).f0))))))) l0 (l0.length : Int) (wrap64 (x12_1 + 1))) = some r := by rw [if_pos rfl] at H; exact H
                  clear H
                  have H := H1
                  clear H1
                  have H' := Aside0.mk H
                  clear H
                  have hcz17_0 : wc.cell? ⟨gb104, 0, none⟩ = some (.int .i64 ((rd_T43 l0 x12_1).f0)) := (blk_cell BK104.out 0).trans rfl
                  have hcz17_1 : wc.cell? ⟨gb104, 1, none⟩ = some (.int .i64 ((rd_T43 l0 x12_1).f1)) := (blk_cell BK104.out 1).trans rfl
                  have hcz17_2 : wc.cell? ⟨gb104, 2, none⟩ = some (.string ((rd_T43 l0 x12_1).f2)) := (blk_cell BK104.out 2).trans rfl
                  have hfz17_0 := blk_frozen BK104.out 0
                  have hfz17_1 := blk_frozen BK104.out 1
                  have hfz17_2 := blk_frozen BK104.out 2
                  go_wp2
                  go_roundg kj6
                  case measure => have := HK1.out; have := HJ6.out; omega
                  case rel => exact ⟨(wrap64 (x7_1 + (wrap64 ((((rd_T43 l0 x12_1).f2).size : Int) - (wrap64 (((rd_T43 l0 x12_1).f1) - ((rd_T43 l0 x12_1).f0))))))), (wrap64 (x12_1 + 1)), (by first | rfl | (simp; done) | (simp [*]; done)), (by first | rfl | (simp; done) | (simp [*]; done)), H', ⟨by have := HK1.out; have := HJ6.out; omega⟩, ⟨by repeat (first | (with_reducible first | exact HB.out | apply below_alloc | apply pw_below_drewN | apply below_drew1 | refine below_set ?_ GE104.out) | exact HB.out)⟩⟩
                · replace c16 := Bool.eq_false_iff.mpr c16
                  subst c16
                  have H1 : (if ((rd_T43 l0 x12_1).f0) < a1 then (anchor_mapOffset.j2 kj6 a1 x7_1 a2 ((rd_T43 l0 x12_1).f0) ((rd_T43 l0 x12_1).f1) ((rd_T43 l0 x12_1).f2)) else (anchor_mapOffset.j2 kj6 a1 x7_1 false ((rd_T43 l0 x12_1).f0) ((rd_T43 l0 x12_1).f1) ((rd_T43 l0 x12_1).f2))) = some r := by rw [if_neg (show ¬ (false = true) by decide)] at H; exact H
                  clear H
                  have H := H1
                  clear H1
                  have HC18 := Aside0.mk H
                  clear H
                  go_upto_region 9 with (fail)
                  go_cut [48] (fun v48 wc => ∃ (kq : Nat) (x48_17 : Bool), v48 = .bool x48_17 ∧ Aside0 (anchor_mapOffset.j2 kq a1 x7_1 x48_17 ((rd_T43 l0 x12_1).f0) ((rd_T43 l0 x12_1).f1) ((rd_T43 l0 x12_1).f2) = some r) ∧ Aside0 (kq ≤ kj6) ∧ Aside0 (wc.heap[gb104]? = some (.cells #[.int .i64 ((rd_T43 l0 x12_1).f0), .int .i64 ((rd_T43 l0 x12_1).f1), .string ((rd_T43 l0 x12_1).f2)] 43 (0, 0))) ∧ Aside0 (Below w.heap.size w wc))
                  case first =>
                    have H := HC18.out
                    clear HC18
                    by_cases c19 : ((rd_T43 l0 x12_1).f0) < a1
                    · rw [if_pos c19] at H
                      have c19b0 : decide (((rd_T43 l0 x12_1).f0) < a1) = true := decide_eq_true c19
                      clear c19
                      (first | rw [c19b0] | (simp only [i64_w, i32_w]; rw [c19b0]) | skip)
                      have H' := Aside0.mk H
                      clear H
                      have hcz20_0 : wc.cell? ⟨gb104, 0, none⟩ = some (.int .i64 ((rd_T43 l0 x12_1).f0)) := (blk_cell BK104.out 0).trans rfl
                      have hcz20_1 : wc.cell? ⟨gb104, 1, none⟩ = some (.int .i64 ((rd_T43 l0 x12_1).f1)) := (blk_cell BK104.out 1).trans rfl
                      have hcz20_2 : wc.cell? ⟨gb104, 2, none⟩ = some (.string ((rd_T43 l0 x12_1).f2)) := (blk_cell BK104.out 2).trans rfl
                      have hfz20_0 := blk_frozen BK104.out 0
                      have hfz20_1 := blk_frozen BK104.out 1
                      have hfz20_2 := blk_frozen BK104.out 2
                      go_wp2
                      go_meet
                      case rel => exact ⟨_, (a2), (by first | rfl | (simp; done) | (simp [*]; done)), H', ⟨by have := HK1.out; have := HJ6.out; first | omega | exact Nat.le_refl _⟩, ⟨by (with_reducible repeat (first | refine blk_drewN ?_ _ | refine blk_drew ?_ | refine blk_alloc ?_ _)); exact BK104.out⟩, ⟨by repeat (first | (with_reducible first | exact HB.out | apply below_alloc | apply pw_below_drewN | apply below_drew1 | refine below_set ?_ GE104.out) | exact HB.out)⟩⟩
                    · rw [if_neg c19] at H
                      have c19b0 : decide (((rd_T43 l0 x12_1).f0) < a1) = false := decide_eq_false c19
                      clear c19
                      (first | rw [c19b0] | (simp only [i64_w, i32_w]; rw [c19b0]) | skip)
                      have H' := Aside0.mk H
                      clear H
                      have hcz21_0 : wc.cell? ⟨gb104, 0, none⟩ = some (.int .i64 ((rd_T43 l0 x12_1).f0)) := (blk_cell BK104.out 0).trans rfl
                      have hcz21_1 : wc.cell? ⟨gb104, 1, none⟩ = some (.int .i64 ((rd_T43 l0 x12_1).f1)) := (blk_cell BK104.out 1).trans rfl
                      have hcz21_2 : wc.cell? ⟨gb104, 2, none⟩ = some (.string ((rd_T43 l0 x12_1).f2)) := (blk_cell BK104.out 2).trans rfl
                      have hfz21_0 := blk_frozen BK104.out 0
                      have hfz21_1 := blk_frozen BK104.out 1
                      have hfz21_2 := blk_frozen BK104.out 2
                      go_wp2
                      go_meet
                      case rel => exact ⟨_, (false), (by first | rfl | (simp; done) | (simp [*]; done)), H', ⟨by have := HK1.out; have := HJ6.out; first | omega | exact Nat.le_refl _⟩, ⟨by (with_reducible repeat (first | refine blk_drewN ?_ _ | refine blk_drew ?_ | refine blk_alloc ?_ _)); exact BK104.out⟩, ⟨by repeat (first | (with_reducible first | exact HB.out | apply below_alloc | apply pw_below_drewN | apply below_drew1 | refine below_set ?_ GE104.out) | exact HB.out)⟩⟩
                  case rest =>
                    clear HC18
                    try clear c1
                    try clear p1
                    try clear q1
                    try clear hx1
                    try clear c2
                    try clear p2
                    try clear c4
                    try clear c4b0
                    try clear c5
                    try clear c5b0
                    try clear c6
                    try clear c6b0
                    try clear p6
                    try clear c10
                    try clear c10b0
                    try clear p10
                    try clear q10
                    try clear hx10
                    try clear c11
                    try clear c11b0
                    try clear c11b1
                    try clear c12
                    try clear c12b0
                    try clear c16
                    try clear c19
                    try clear c19b0
                    try clear hcz13_0
                    try clear hcz13_1
                    try clear hcz13_2
                    try clear hcz14_0
                    try clear hcz14_1
                    try clear hcz14_2
                    try clear hcz15_0
                    try clear hcz15_1
                    try clear hcz15_2
                    try clear hcz17_0
                    try clear hcz17_1
                    try clear hcz17_2
                    try clear hcz20_0
                    try clear hcz20_1
                    try clear hcz20_2
                    try clear hcz21_0
                    try clear hcz21_1
                    try clear hcz21_2
                    try clear hcz9_0
                    try clear hcz9_1
                    try clear hcz9_2
                    try clear hfz13_0
                    try clear hfz13_1
                    try clear hfz13_2
                    try clear hfz14_0
                    try clear hfz14_1
                    try clear hfz14_2
                    try clear hfz15_0
                    try clear hfz15_1
                    try clear hfz15_2
                    try clear hfz17_0
                    try clear hfz17_1
                    try clear hfz17_2
                    try clear hfz20_0
                    try clear hfz20_1
                    try clear hfz20_2
                    try clear hfz21_0
                    try clear hfz21_1
                    try clear hfz21_2
                    try clear hfz9_0
                    try clear hfz9_1
                    try clear hfz9_2
                    try clear hx103_0
                    try clear hx103_1
                    try clear hx103_2
                    try clear p1
                    try clear p10
                    try clear p103
                    try clear p2
                    try clear q1
                    try clear q10
                    try clear q103
                    obtain ⟨kq, x48_17, rfl, HA, HJ17, BK104, HB⟩ := hcut
                    cases kq with
                    | zero => exact absurd HA.out (by simp [anchor_mapOffset.j2])
                    | succ kj17 =>
                      have H := HA.out
                      clear HA
                      simp only [anchor_mapOffset.j2] at H
                      by_cases c22 : x48_17 = true
                      · subst c22
                        have H1 : (some (wrap64 ((wrap64 (((rd_T43 l0 x12_1).f0) + x7_1)) + (((rd_T43 l0 x12_1).f2).size : Int)))) = some r := by rw [if_pos rfl] at H; exact H
                        clear H
                        have H := H1
                        clear H1
                        obtain rfl := Option.some.inj H
                        have hcz23_0 : wc.cell? ⟨gb104, 0, none⟩ = some (.int .i64 ((rd_T43 l0 x12_1).f0)) := (blk_cell BK104.out 0).trans rfl
                        have hcz23_1 : wc.cell? ⟨gb104, 1, none⟩ = some (.int .i64 ((rd_T43 l0 x12_1).f1)) := (blk_cell BK104.out 1).trans rfl
                        have hcz23_2 : wc.cell? ⟨gb104, 2, none⟩ = some (.string ((rd_T43 l0 x12_1).f2)) := (blk_cell BK104.out 2).trans rfl
                        have hfz23_0 := blk_frozen BK104.out 0
                        have hfz23_1 := blk_frozen BK104.out 1
                        have hfz23_2 := blk_frozen BK104.out 2
                        go_wp2
                        go_ret
                        exact ⟨by first | rfl | (simp [errW_none, errW_some] <;> rfl) | (simp [*, errW_none, errW_some] <;> rfl), by repeat (first | (with_reducible first | exact HB.out | apply below_alloc | apply pw_below_drewN | apply below_drew1 | refine below_set ?_ GE104.out) | exact HB.out)⟩
                      · replace c22 := Bool.eq_false_iff.mpr c22
                        subst c22
                        have H1 : (if ((rd_T43 l0 x12_1).f0) < a1 then (some (wrap64 (((rd_T43 l0 x12_1).f0) + x7_1))) else (some (wrap64 (a1 + x7_1)))) = some r := by rw [if_neg (show ¬ (false = true) by decide)] at H; exact H
                        clear H
                        have H := H1
                        clear H1
                        by_cases c24 : ((rd_T43 l0 x12_1).f0) < a1
                        · rw [if_pos c24] at H
                          have c24b0 : decide (((rd_T43 l0 x12_1).f0) < a1) = true := decide_eq_true c24
                          clear c24
                          obtain rfl := Option.some.inj H
                          have hcz25_0 : wc.cell? ⟨gb104, 0, none⟩ = some (.int .i64 ((rd_T43 l0 x12_1).f0)) := (blk_cell BK104.out 0).trans rfl
                          have hcz25_1 : wc.cell? ⟨gb104, 1, none⟩ = some (.int .i64 ((rd_T43 l0 x12_1).f1)) := (blk_cell BK104.out 1).trans rfl
                          have hcz25_2 : wc.cell? ⟨gb104, 2, none⟩ = some (.string ((rd_T43 l0 x12_1).f2)) := (blk_cell BK104.out 2).trans rfl
                          have hfz25_0 := blk_frozen BK104.out 0
                          have hfz25_1 := blk_frozen BK104.out 1
                          have hfz25_2 := blk_frozen BK104.out 2
                          go_wp2
                          go_ret
                          exact ⟨by first | rfl | (simp [errW_none, errW_some] <;> rfl) | (simp [*, errW_none, errW_some] <;> rfl), by repeat (first | (with_reducible first | exact HB.out | apply below_alloc | apply pw_below_drewN | apply below_drew1 | refine below_set ?_ GE104.out) | exact HB.out)⟩
                        · rw [if_neg c24] at H
                          have c24b0 : decide (((rd_T43 l0 x12_1).f0) < a1) = false := decide_eq_false c24
                          clear c24
                          obtain rfl := Option.some.inj H
                          have hcz26_0 : wc.cell? ⟨gb104, 0, none⟩ = some (.int .i64 ((rd_T43 l0 x12_1).f0)) := (blk_cell BK104.out 0).trans rfl
                          have hcz26_1 : wc.cell? ⟨gb104, 1, none⟩ = some (.int .i64 ((rd_T43 l0 x12_1).f1)) := (blk_cell BK104.out 1).trans rfl
                          have hcz26_2 : wc.cell? ⟨gb104, 2, none⟩ = some (.string ((rd_T43 l0 x12_1).f2)) := (blk_cell BK104.out 2).trans rfl
                          have hfz26_0 := blk_frozen BK104.out 0
                          have hfz26_1 := blk_frozen BK104.out 1
                          have hfz26_2 := blk_frozen BK104.out 2
                          go_wp2
                          go_ret
                          exact ⟨by first | rfl | (simp [errW_none, errW_some] <;> rfl) | (simp [*, errW_none, errW_some] <;> rfl), by repeat (first | (with_reducible first | exact HB.out | apply below_alloc | apply pw_below_drewN | apply below_drew1 | refine below_set ?_ GE104.out) | exact HB.out)⟩
          · rw [if_neg c6] at H
            exact absurd H (by simp)
        · rw [if_neg c5] at H
          exact absurd H (by simp)
      · rw [if_neg c4] at H
        have c4b0 : decide (x12_1 < (l0.length : Int)) = false := decide_eq_false c4
        clear c4
        obtain rfl := Option.some.inj H
        go_wp2
        go_ret
        exact ⟨by first | rfl | (simp [errW_none, errW_some] <;> rfl) | (simp [*, errW_none, errW_some] <;> rfl), by repeat (first | (with_reducible first | exact HB.out | apply below_alloc | apply pw_below_drewN | apply below_drew1) | exact HB.out)⟩

end Go.Proofs.Ytlhaeonjobcdbaa.PA
