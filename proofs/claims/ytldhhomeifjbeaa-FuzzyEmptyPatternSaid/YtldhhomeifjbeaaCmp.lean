/- cmp.Compare, strings.Compare, cmp.Or and the comparison that fuzzy.Rank hands to the sort: what they answer, walked. -/
import Derived.Test.YtldhhomeifjbeaaIns
import Derived.Lib.Small
import Derived.Lib.Bytealg
import Derived.Lib.Walk
import Derived.Deep.RegionHeld3
namespace Go.Proofs.Ytldhhomeifjbeaa.PA
open Go.RowKit Go.Shelf Go.Sort Go.Proofs.YtldhhomeifjbeaaW.PrintWords Go.Proofs.YtldhhomeifjbeaaW.PrintLast
set_option linter.unusedVariables false
set_option linter.unusedSimpArgs false

set_option maxHeartbeats 1000000 in
theorem cmpInt_calls (x y : Int) (w : World) : Calls Try.prog 19 #[.int .i64 x, .int .i64 y] w fun e w' => e = .returned (.int .i64 (Lib.compareInt x y)) ∧ w' = w := by
  go_enter Try.func19, Try.ntmps19
  go_wp2
  all_goals (go_ret; refine ⟨?_, rfl⟩; unfold Lib.compareInt; (repeat' split) <;> first | rfl | (exfalso; omega))
set_option maxHeartbeats 1000000 in
set_option maxRecDepth 100000 in
theorem cmpBytes_calls (a b : ByteArray) (w : World) : Calls Try.prog 27 #[.string a, .string b] w fun e w' => e = .returned (.int .i64 (Lib.compareBytes a.data.toList b.data.toList)) ∧ w' = w := by
  go_enter Try.func27, Try.ntmps27
  go_wp2
  rw [run_callFunc_extern Try.func34 (by kernel_rfl) (by kernel_rfl) (by kernel_rfl) (e := Extern.BytealgCompare.compare) (by kernel_rfl), Lib.run_compareString]
  simp only [Result.andThen]
  rw [Oper.upon_value]
  go_wp2
  go_ret
  exact ⟨rfl, rfl⟩
set_option maxHeartbeats 1000000 in
theorem cmpStr_calls (a b : ByteArray) (w : World) : Calls Try.prog 20 #[.string a, .string b] w fun e w' => e = .returned (.int .i64 (Lib.compareBytes a.data.toList b.data.toList)) ∧ w' = w := by
  go_enter Try.func20, Try.ntmps20
  go_wp2_with (go_at_call 27; refine (cmpBytes_calls _ _ _).mono ?_; rintro e w' ⟨rfl, rfl⟩)
  go_ret
  exact ⟨rfl, rfl⟩
def orP (x y z : Int) : Int := if x ≠ 0 then x else if y ≠ 0 then y else z
set_option maxHeartbeats 1000000 in
theorem or_calls (x y z : Int) (b : Nat) (w : World) (h0 : w.cell? ⟨b, 0, none⟩ = some (.int .i64 x)) (h1 : w.cell? ⟨b, 1, none⟩ = some (.int .i64 y)) (h2 : w.cell? ⟨b, 2, none⟩ = some (.int .i64 z)) :
    Calls Try.prog 18 #[.slice (some ⟨b, 0, none⟩) 3 3] w fun e w' => e = .returned (.int .i64 (orP x y z)) ∧ w' = w := by
  by_cases hx : x = 0
  · by_cases hy : y = 0
    · by_cases hz : z = 0
      · subst hx hy hz
        go_enter Try.func18, Try.ntmps18
        go_wp2
        refine wp_loop_rounds 4 ?_
        rw [rounds_succ]
        go_wp2
        rw [rounds_succ]
        go_wp2
        rw [rounds_succ]
        go_wp2
        rw [rounds_succ]
        go_wp2
        go_ret
        exact ⟨by simp [orP, *], rfl⟩
      · subst hx hy
        have dz : (z != 0) = true := bne_iff_ne.mpr hz
        have cz : (z == 0) = false := beq_eq_false_iff_ne.mpr hz
        go_enter Try.func18, Try.ntmps18
        go_wp2
        refine wp_loop_rounds 3 ?_
        rw [rounds_succ]
        go_wp2
        rw [rounds_succ]
        go_wp2
        rw [rounds_succ]
        go_wp2
        go_ret
        exact ⟨by simp [orP, *], rfl⟩
    · subst hx
      have dy : (y != 0) = true := bne_iff_ne.mpr hy
      have cy : (y == 0) = false := beq_eq_false_iff_ne.mpr hy
      go_enter Try.func18, Try.ntmps18
      go_wp2
      refine wp_loop_rounds 2 ?_
      rw [rounds_succ]
      go_wp2
      rw [rounds_succ]
      go_wp2
      go_ret
      exact ⟨by simp [orP, *], rfl⟩
  · have dx : (x != 0) = true := bne_iff_ne.mpr hx
    have cx : (x == 0) = false := beq_eq_false_iff_ne.mpr hx
    go_enter Try.func18, Try.ntmps18
    go_wp2
    refine wp_loop_rounds 1 ?_
    rw [rounds_succ]
    go_wp2
    go_ret
    exact ⟨by simp [orP, *], rfl⟩
/-- The comparison of two names: score (the greater first), length, bytes. -/
def cmpP (sx sy : Int) (p q : ByteArray) : Int := orP (Lib.compareInt sy sx) (Lib.compareInt (p.size : Int) (q.size : Int)) (Lib.compareBytes p.data.toList q.data.toList)
theorem grow_alloc1 (W : World) (o : Obj) : (W.alloc o).drew = grow (W.drewN 1) #[o] := by
  rw [alloc_eq_grow]
  rfl
set_option maxHeartbeats 4000000 in
set_option maxRecDepth 100000 in
theorem closure_calls (x y : Nat) (bs bn sB n m c : Nat) (A : Addr) (sx sy : Int) (p q : ByteArray) (W : World) (hx : x < n) (hy : y < n) (hxm : x < m) (hym : y < m)
    (h1 : W.cell? ⟨bs, 0, none⟩ = some (.slice (some ⟨sB, 0, none⟩) n n)) (h2 : W.cell? ⟨bn, 0, none⟩ = some (.slice (some A) m c))
    (h3 : W.cell? ⟨sB, x, none⟩ = some (.int .i64 sx)) (h4 : W.cell? ⟨sB, y, none⟩ = some (.int .i64 sy)) (h5 : W.cell? (A.add x) = some (.string p)) (h6 : W.cell? (A.add y) = some (.string q)) :
    Calls Try.prog 17 #[.int .i64 x, .int .i64 y, .pointer (some ⟨bs, 0, none⟩), .pointer (some ⟨bn, 0, none⟩)] W fun e w' => e = .returned (.int .i64 (cmpP sx sy p q)) ∧ ∃ d os, w' = grow (W.drewN d) os := by
  have i1 : (0 : Int) ≤ (x : Int) := by omega
  have i2 : (x : Int) < (n : Int) := by omega
  have i3 : (0 : Int) ≤ (y : Int) := by omega
  have i4 : (y : Int) < (n : Int) := by omega
  have i5 : (x : Int) < (m : Int) := by omega
  have i6 : (y : Int) < (m : Int) := by omega
  go_enter Try.func17, Try.ntmps17
  go_wp2_with fail
  go_region_held3 (fun w' => w'.cell? ⟨bs, 0, none⟩ = some (.slice (some ⟨sB, 0, none⟩) n n) ∧ w'.cell? ⟨bn, 0, none⟩ = some (.slice (some A) m c) ∧ w'.cell? ⟨sB, x, none⟩ = some (.int .i64 sx) ∧ w'.cell? ⟨sB, y, none⟩ = some (.int .i64 sy) ∧ w'.cell? (A.add x) = some (.string p) ∧ w'.cell? (A.add y) = some (.string q)) (go_keep) (first | (go_at_call 19; refine (cmpInt_calls _ _ _).mono ?_; rintro e w' ⟨rfl, rfl⟩) | (go_at_call 20; refine (cmpStr_calls _ _ _).mono ?_; rintro e w' ⟨rfl, rfl⟩) | (go_at_call 18; refine (or_calls (Lib.compareInt sy sx) (Lib.compareInt (p.size : Int) (q.size : Int)) (Lib.compareBytes p.data.toList q.data.toList) W.heap.size _ ((blk_cell (heap_alloc_new W.drew _) 0).trans rfl) ((blk_cell (heap_alloc_new W.drew _) 1).trans rfl) ((blk_cell (heap_alloc_new W.drew _) 2).trans rfl)).mono ?_; rintro e w' ⟨rfl, rfl⟩))
  go_wp2
  go_ret
  exact ⟨rfl, 1, _, grow_alloc1 W _⟩
end Go.Proofs.Ytldhhomeifjbeaa.PA
