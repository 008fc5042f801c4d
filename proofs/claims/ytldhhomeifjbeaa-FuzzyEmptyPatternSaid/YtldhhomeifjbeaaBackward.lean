/- slices.Backward at [][]int: the iterator's contract (all indices, from the last to the first), for every loop body that leaves the row's block and the box in place. -/
import Derived.RangeFuncNested
import Derived.RangeFuncBound
import Derived.RangeFuncCalls
import Derived.RangeFuncLeaves
import Derived.RangeFuncBox
import Derived.Shelf.Abstract
import Derived.WalkKit
import Derived.OwnWalkIn
import Derived.TacticsInMore
import Derived.LoopNIn
import Derived.LoopIn
import Derived.Test.YtldhhomeifjbeaaProg
namespace Go.Proofs.Ytldhhomeifjbeaa.PA
open Go.RowKit Go.Shelf
set_option linter.unusedVariables false
set_option linter.unusedSimpArgs false
attribute [local go_sem] Oper.semAt_some

/-- What a round keeps: the box, and a value in every cell of the row. -/
def Bk (bT len Bs : Nat) (sv : Value) (W W' : World) : Prop :=
  (W.cell? ⟨Bs, 0, none⟩ = some sv → W'.cell? ⟨Bs, 0, none⟩ = some sv) ∧ ((∀ i, i < len → ∃ v, W.cell? ⟨bT, i, none⟩ = some v) → ∀ i, i < len → ∃ v, W'.cell? ⟨bT, i, none⟩ = some v)
theorem Bk.trans {bT len Bs : Nat} {sv : Value} {A B C : World} (h : Bk bT len Bs sv A B) (g : Bk bT len Bs sv B C) : Bk bT len Bs sv A C := ⟨fun x => g.1 (h.1 x), fun x => g.2 (h.2 x)⟩
theorem Bk.refl (bT len Bs : Nat) (sv : Value) (A : World) : Bk bT len Bs sv A A := ⟨id, id⟩
theorem cell_putObj {W : World} {l : Nat} {o' : Obj} {p : Addr} (h : p.block ≠ l) : (W.putObj l o').cell? p = W.cell? p := by
  unfold World.cell?
  rw [World.putObj_heap_other h]
theorem Bk.put {bT len Bs : Nat} {sv : Value} (W : World) (l : Nat) (o' : Obj) (h1 : bT < l) (h2 : Bs < l) : Bk bT len Bs sv W (W.putObj l o') := by
  refine ⟨fun h => ?_, fun h i hi => ?_⟩
  · rw [cell_putObj (by simp only; omega)]; exact h
  · rw [cell_putObj (by simp only; omega)]; exact h i hi
theorem rev_range_succ (n : Nat) : (List.range (n + 1)).reverse = n :: (List.range n).reverse := by rw [List.range_succ, List.reverse_append]; rfl
/-- what a round is handed: an index and whatever lies there -/
abbrev Ixv (len : Nat) := { x : Nat × Value // x.1 < len }
/-- the indices from n - 1 down to n - k -/
def dn (n : Nat) : Nat → List Nat
  | 0 => []
  | j + 1 => dn n j ++ [n - 1 - j]

set_option maxRecDepth 100000 in
set_option maxHeartbeats 2000000 in
theorem backward1_in (F : Fence) (n : Nat) (h29 : F.fn 29) (hro : F.round = none) (hn : 1 ≤ n) (l Bs bT len cap : Nat) (hlen : len ≤ 1000) (J Jx : List (Ixv len) → World → Prop)
    (hY : ∀ pre x W, J pre W → pre.length < len → YieldAt F (n - 1) Try.prog l #[.int .i64 (x.1.1 : Int), x.1.2] W fun e W' =>
      (e = .returned (.bool true) ∧ J (pre ++ [x]) W' ∧ Bk bT len Bs (.slice (some ⟨bT, 0, none⟩) len cap) W W') ∨ (e = .returned (.bool false) ∧ Jx (pre ++ [x]) W'))
    (W : World) (hBs : W.cell? ⟨Bs, 0, none⟩ = some (.slice (some ⟨bT, 0, none⟩) len cap)) (hc : ∀ i, i < len → ∃ v, W.cell? ⟨bT, i, none⟩ = some v) (h0 : J [] W) :
    CallsIn F n Try.prog 29 #[.func (.yield l) #[] #[], .pointer (some ⟨Bs, 0, none⟩)] W fun e W' => (∃ v, e = .returned v) ∧
      ((∃ ys, ys.map (fun x => x.1.1) = dn len len ∧ J ys W') ∨ (∃ pre, Jx pre W')) := by
  refine callsIn_of_wp Try.func29 rfl h29 ?_ hro
  simp only [Try.ntmps29, List.size_toArray, List.length_cons, List.length_nil, Nat.reduceAdd, Nat.reduceSub, Array.replicate_succ, Array.replicate_zero, List.push_toArray, List.append_toArray, List.nil_append, List.cons_append]
  have hBk := Bk.refl bT len Bs (.slice (some ⟨bT, 0, none⟩) len cap) W
  gi_wp2
  gi_loopw [3] (fun i wr => ∃ k : Nat, k ≤ len ∧ i = .int .i64 ((len : Int) - 1 - k) ∧ ∃ pre, pre.map (fun x => x.1.1) = dn len k ∧ J pre wr ∧ Bk bT len Bs (.slice (some ⟨bT, 0, none⟩) len cap) W wr)
    (fun i _ => (intOf i + 1).toNat)
  case atStart => exact ⟨0, Nat.zero_le _, by simp, [], rfl, h0, hBk⟩
  case round =>
    obtain ⟨k, hk, rfl, pre, hpre, hJs, hB⟩ := hrel
    have hbs' := hB.1 hBs
    have hpl : pre.length = k := by
      have := congrArg List.length hpre
      rw [List.length_map] at this
      rw [this]
      clear this hpre
      induction k with
      | zero => rfl
      | succ k ih => simp [dn, ih (by omega)]
    by_cases hlt : k < len
    · obtain ⟨v, hv⟩ := hB.2 hc (len - 1 - k) (by omega)
      obtain ⟨fn, tmps, assign, body, hy, hR⟩ := hY pre ⟨(len - 1 - k, v), show len - 1 - k < len by omega⟩ wr hJs (by omega)
      have hcast : (((len - 1 - k : Nat)) : Int) = (len : Int) - 1 - k := by omega
      dsimp only at hy
      rw [hcast] at hy
      have htn : ((len : Int) - 1 - k).toNat = len - 1 - k := by omega
      gi_wp2
      refine hR.mono ?_
      rintro e W3 (⟨rfl, hJ3, hk3⟩ | ⟨rfl, hJx3⟩)
      · gi_wp2
        go_roundw
        case rel => exact ⟨k + 1, by omega, by first | go_num | (simp; omega), pre ++ [⟨(len - 1 - k, v), show len - 1 - k < len by omega⟩], by rw [List.map_append, hpre]; rfl, hJ3, hB.trans hk3⟩
        case measure => simp [intOf]; omega
      · gi_wp2
        refine bodyPost_ret (results_none rfl _ _ _) rfl ?_
        exact ⟨⟨_, rfl⟩, .inr ⟨_, hJx3⟩⟩
    · obtain rfl : k = len := by omega
      have hz : (k : Int) - 1 - k = -1 := by omega
      rw [hz]
      gi_wp2
      go_end0
      exact ⟨⟨_, rfl⟩, .inl ⟨_, hpre, hJs⟩⟩

set_option maxHeartbeats 1000000 in
/-- the iterator's making -/
theorem backward_in (F : Fence) (n : Nat) (h22 : F.fn 22) (hro : F.round = none) (a : Option Addr) (len cap : Nat) (w : World) :
    CallsIn F n Try.prog 22 #[.slice a len cap] w fun e w' => e = .returned (.func (.func 29) #[] #[.pointer (some ⟨w.heap.size, 0, none⟩)]) ∧ w' = w.alloc (.cells #[.slice a len cap] 37) := by
  refine callsIn_of_wp Try.func22 rfl h22 ?_ hro
  simp only [Try.ntmps22, List.size_toArray, List.length_cons, List.length_nil, Nat.reduceAdd, Nat.reduceSub, Array.replicate_succ, Array.replicate_zero, List.push_toArray, List.append_toArray, List.nil_append, List.cons_append]
  gi_wp2
  go_ret
  exact ⟨rfl, rfl⟩
theorem backward_stops (F : Fence) (n : Nat) (h29 : F.fn 29) (hro : F.round = none) (hn : 1 ≤ n) (Bs bT len cap : Nat) (hlen : len ≤ 1000) (w : World) (hBs : Bs < w.heap.size) (hbT : bT < w.heap.size)
    (hc : w.cell? ⟨Bs, 0, none⟩ = some (.slice (some ⟨bT, 0, none⟩) len cap)) (hT : ∀ i, i < len → ∃ v, w.cell? ⟨bT, i, none⟩ = some v) :
    SeqStopsK F n Try.prog 29 #[.pointer (some ⟨Bs, 0, none⟩)] (fun x : Ixv len => #[Value.int .i64 (x.1.1 : Int), x.1.2]) (Bk bT len Bs (.slice (some ⟨bT, 0, none⟩) len cap)) (fun ys => ys.map (fun x => x.1.1) = dn len len) (fun _ => True) len w := fun l J Jx W hW _ _ hY h0 => by
  refine (backward1_in F n h29 hro hn l Bs bT len cap hlen J Jx hY W ((hW.cell (p := ⟨Bs, 0, none⟩) hBs).trans hc) (fun i hi => ?_) h0).mono ?_
  · obtain ⟨v, hv⟩ := hT i hi
    exact ⟨v, (hW.cell (p := ⟨bT, i, none⟩) hbT).trans hv⟩
  · rintro e W' ⟨he, ⟨ys, h1, h2⟩ | ⟨pre, h⟩⟩
    · exact ⟨he, .inl ⟨ys, h1, h2⟩⟩
    · exact ⟨he, .inr ⟨pre, trivial, h⟩⟩
end Go.Proofs.Ytldhhomeifjbeaa.PA
