/- Packed texts, part 10: contracts and plain lemmas towards outlineProperlyNested_holds. -/
import Derived.Test.YtkijamagbgigmaaGreatDoorQ9
import Derived.Lib.SlicesCompact
import Derived.Laws.StructEq
import Derived.Deep.LoopGhost
import Derived.Deep.RegionHeld3
import Derived.Lib.SliceRun
import Derived.StillTailTactics
import Derived.Test.YtkijamagbgigmaaGreatDoorRows
import Derived.Test.YtkijamagbgigmaaGreatDoorCards
import Derived.Test.YtkijamagbgigmaaGreatDoorTie
import Derived.WalkKit
import Derived.ProofKit
import Derived.OpenShut
import Derived.ShutString
import Derived.ChangeOld
import Derived.Below
import Derived.SizedLaws
import Derived.LaidMore
import Derived.Stop.Joined
import Derived.Stop.LaidErr
import Derived.Lib.LaidTab
import Derived.SevenTiedAt
set_option maxHeartbeats 8000000
set_option maxRecDepth 1000000
set_option linter.unusedVariables false
set_option linter.unusedSimpArgs false
namespace Go.Proofs.YtkijamagbgigmaaGreatDoor.Par
open Go.RowKit Go.Sort Go.Lib Go.Proofs.YtkijamagbgigmaaGreatDoorW.PrintWords Go.Proofs.YtkijamagbgigmaaGreatDoorW.PrintLast
instance : DecidableEq Dg := fun x y => decidable_of_iff (x.f0 = y.f0 ∧ x.f1 = y.f1 ∧ x.f2 = y.f2 ∧ x.f3 = y.f3 ∧ x.f4 = y.f4) ⟨fun ⟨a, b, c, d, e⟩ => by cases x; cases y; simp only at a b c d e; rw [a, b, c, d, e], fun h => by rw [h]; exact ⟨rfl, rfl, rfl, rfl, rfl⟩⟩
theorem eqD (x y : Dg) (w : World) : (Op.equalIn 10000 62 (.agg #[.int .i64 x.f0, .int .i64 x.f1, .int .i64 x.f2, .int .i64 x.f3, .string x.f4]) (.agg #[.int .i64 y.f0, .int .i64 y.f1, .int .i64 y.f2, .int .i64 y.f3, .string y.f4])).run Tryz.prog w = .ok (decide (x = y)) w := by
 obtain ⟨x0, x1, x2, x3, x4⟩ := x
 obtain ⟨y0, y1, y2, y3, y4⟩ := y
 have ht : Tryz.prog.underlying 62 = some (.struct (Tryz.prog.fieldsOf 62)) := by kernel_rfl
 rw [run_equalIn_struct w 9999 _ _ _ ht Tryz.stoodInHeld62]
 have e : (Tryz.prog.fieldsOf 62).toList = [⟨"Code", 3, 0, false, "", "", 0⟩, ⟨"Module", 3, 1, false, "", "", 8⟩, ⟨"Start", 3, 2, false, "", "", 16⟩, ⟨"End", 3, 3, false, "", "", 24⟩, ⟨"Name", 9, 4, false, "", "", 32⟩] := by kernel_rfl
 rw [e]
 have h3 := fun a b => run_equalIn_int w 9998 3 .i64 .i64 a b Tryz.underlying3
 have h9 := fun a b => run_equalIn_string w 9998 9 a b Tryz.underlying9
 simp only [Op.eqFields]
 go_simp
 have h4 : (x4.toList = y4.toList) ↔ x4 = y4 := ⟨fun h => by
  rw [Go.ByteArray.toList_eq, Go.ByteArray.toList_eq] at h
  exact ByteArray.ext (Array.ext' (by simpa using h)), fun h => by rw [h]⟩
 simp only [h4]
 by_cases a0 : x0 = y0 <;> by_cases a1 : x1 = y1 <;> by_cases a2 : x2 = y2 <;> by_cases a3 : x3 = y3 <;> by_cases a4 : x4 = y4 <;> simp [a0, a1, a2, a3, a4]
structure CRow (B g cap : Nat) (W wr : World) (d : Array Dg) : Prop where
 row : wr.ownsRow B 62 5 (.slice (some ⟨g, 0, none⟩) d.toList.length cap) d.toList.length (dgCells d.toList)
 only : Only g W wr
theorem CRow.cap {B g cap : Nat} {W wr : World} {d : Array Dg} (h : CRow B g cap W wr d) : d.size ≤ cap := by
 rcases h.row.2 with ⟨hh, _⟩ | ⟨g', cap', cur, hv, h1, h2, h3, _⟩
 ·cases hh
 ·simp only [Value.slice.injEq, Option.some.injEq, Addr.mk.injEq, and_true] at hv
  obtain ⟨rfl, _, rfl⟩ := hv
  simpa using h3
theorem CRow.drew {B g cap : Nat} {W wr : World} {d : Array Dg} (h : CRow B g cap W wr d) : CRow B g cap W wr.drew d := ⟨own_kept h.row (fun _ _ => rfl), h.only.trans (.below (below_drew (Below.refl _ _)))⟩
theorem CRow.at {B g cap : Nat} {W wr : World} {d : Array Dg} (h : CRow B g cap W wr d) (j : Nat) (hj : j < d.size) :
  (wr.cell? ⟨g, j * 5, none⟩ = some (.int .i64 d[j]!.f0) ∧ wr.cell? ⟨g, j * 5 + 1, none⟩ = some (.int .i64 d[j]!.f1) ∧ wr.cell? ⟨g, j * 5 + 2, none⟩ = some (.int .i64 d[j]!.f2) ∧ wr.cell? ⟨g, j * 5 + 3, none⟩ = some (.int .i64 d[j]!.f3) ∧ wr.cell? ⟨g, j * 5 + 4, none⟩ = some (.string d[j]!.f4)) ∧ ∀ i, wr.frozen? ⟨g, i, none⟩ = false := by
 have hc : ∀ i v, i < 5 → (encD d[j]!)[i]? = some v → wr.cell? ⟨g, j * 5 + i, none⟩ = some v := fun i v hi hv => by
  have h1 := flatMap_get encD 5 (fun _ => rfl) d.toList (j * 5 + i) (by simp; omega)
  rw [show (j * 5 + i) / 5 = j by omega, show (j * 5 + i) % 5 = i by omega] at h1
  have e : d.toList[j]! = d[j]! := by simp [getElem!_pos, hj]
  rw [e, hv] at h1
  have := h.row.cells (g := g) rfl _ _ h1
  rw [Addr.add_lit, Nat.zero_add] at this
  exact this
 refine ⟨⟨hc 0 _ (by omega) rfl, hc 1 _ (by omega) rfl, hc 2 _ (by omega) rfl, hc 3 _ (by omega) rfl, hc 4 _ (by omega) rfl⟩, fun i => ?_⟩
 rcases h.row.2 with ⟨hh, _⟩ | ⟨g', cap', cur, hv, h1, h2, _⟩
 ·cases hh
 ·simp only [Value.slice.injEq, Option.some.injEq, Addr.mk.injEq, and_true] at hv
  obtain ⟨rfl, _, rfl⟩ := hv
  exact blk_frozen h2 i
theorem flatMap_set {α : Type} (enc : α → List Value) (k : Nat) (hk : ∀ x, (enc x).length = k) : ∀ (l : List α) (i : Nat) (u : α), i < l.length → (l.set i u).flatMap enc = (l.flatMap enc).take (i * k) ++ enc u ++ (l.flatMap enc).drop (i * k + k)
 | [], i, u, h => by simp at h
 | x :: xs, 0, u, h => by
  simp only [List.set_cons_zero, List.flatMap_cons, Nat.zero_mul, List.take_zero, List.nil_append, Nat.zero_add]
  rw [List.drop_append_of_le_length (by rw [hk]; exact Nat.le_refl _), List.drop_eq_nil_of_le (by rw [hk]; exact Nat.le_refl _), List.nil_append]
 | x :: xs, i + 1, u, h => by
  simp only [List.set_cons_succ, List.flatMap_cons]
  rw [flatMap_set enc k hk xs i u (by simpa using h)]
  have e : (i + 1) * k = (enc x).length + i * k := by rw [hk, Nat.add_mul, Nat.one_mul, Nat.add_comm]
  rw [e, List.take_length_add_append, show (enc x).length + i * k + k = (enc x).length + (i * k + k) by omega, List.drop_length_add_append, List.append_assoc, List.append_assoc, List.append_assoc]
theorem set5 (l : List Value) (n : Nat) (h : n + 5 ≤ l.length) (a b c d e : Value) : ((((l.set n a).set (n + 1) b).set (n + 2) c).set (n + 3) d).set (n + 4) e = l.take n ++ [a, b, c, d, e] ++ l.drop (n + 5) := by
 apply List.ext_getElem?
 intro i
 simp only [List.getElem?_set, List.length_set, List.getElem?_append, List.getElem?_take, List.getElem?_drop, List.length_append, List.length_take]
 rcases Nat.lt_or_ge i n with h1 | h1
 ·simp [show ¬ n + 4 = i by omega, show ¬ n + 3 = i by omega, show ¬ n + 2 = i by omega, show ¬ n + 1 = i by omega, show ¬ n = i by omega, h1, show i < min n l.length + 5 by omega, show i < min n l.length by omega]
 ·rcases Nat.lt_or_ge i (n + 5) with h2 | h2
  ·obtain ⟨j, rfl⟩ : ∃ j, i = n + j := ⟨i - n, by omega⟩
   have hj : j < 5 := by omega
   have hm : min n l.length = n := by omega
   rw [hm]
   rcases show j = 0 ∨ j = 1 ∨ j = 2 ∨ j = 3 ∨ j = 4 by omega with rfl | rfl | rfl | rfl | rfl <;> simp [show n < l.length by omega, show n + 1 < l.length by omega, show n + 2 < l.length by omega, show n + 3 < l.length by omega, show n + 4 < l.length by omega] <;> (intro hh; omega)
  ·have hm : min n l.length = n := by omega
   rw [hm]
   simp [show ¬ n + 4 = i by omega, show ¬ n + 3 = i by omega, show ¬ n + 2 = i by omega, show ¬ n + 1 = i by omega, show ¬ n = i by omega, show ¬ i < n + 5 by omega, show n + 5 + (i - (n + 5)) = i by omega]
theorem CRow.put {B g cap : Nat} {W wr : World} {d : Array Dg} (h : CRow B g cap W wr d) (k : Nat) (hk : k < d.size) (u : Dg) :
  CRow B g cap W (((((wr.setCell ⟨g, k * 5, none⟩ (.int .i64 u.f0)).setCell ⟨g, k * 5 + 1, none⟩ (.int .i64 u.f1)).setCell ⟨g, k * 5 + 2, none⟩ (.int .i64 u.f2)).setCell ⟨g, k * 5 + 3, none⟩ (.int .i64 u.f3)).setCell ⟨g, k * 5 + 4, none⟩ (.string u.f4)) (d.setIfInBounds k u) := by
 have hs := own_set (own_set (own_set (own_set (own_set h.row (k * 5) (.int .i64 u.f0)) (k * 5 + 1) (.int .i64 u.f1)) (k * 5 + 2) (.int .i64 u.f2)) (k * 5 + 3) (.int .i64 u.f3)) (k * 5 + 4) (.string u.f4)
 have hl : (dgCells d.toList).length = d.size * 5 := by rw [dgCells_length]; simp
 rw [set5 _ _ (by rw [hl]; omega)] at hs
 have e := flatMap_set encD 5 (fun _ => rfl) d.toList k u (by simpa using hk)
 have e2 : dgCells (d.toList.set k u) = (dgCells d.toList).take (k * 5) ++ encD u ++ (dgCells d.toList).drop (k * 5 + 5) := e
 refine ⟨?_, ((((h.only.set _ _).set _ _).set _ _).set _ _).set _ _⟩
 have e3 : (d.setIfInBounds k u).toList = d.toList.set k u := by simp
 have e4 : (d.setIfInBounds k u).toList.length = d.toList.length := by simp
 rw [e4, e3, e2]
 exact hs
def zerosD (n : Nat) : List Value := (Builtin.zeroCells (Value.agg #[.int .i64 0, .int .i64 0, .int .i64 0, .int .i64 0, .string ⟨#[]⟩]).cells n).toList
theorem zerosD_len (n : Nat) : (zerosD n).length = n * 5 := by simp [zerosD, Builtin.zeroCells, Value.cells]
theorem zerosD_one (n : Nat) : ∀ v ∈ zerosD n, v.oneCell' = true := by
 intro v hv
 simp only [zerosD, Builtin.zeroCells, Value.cells, Array.toList_map, List.mem_map] at hv
 obtain ⟨i, _, rfl⟩ := hv
 have h5 : i % 5 < 5 := Nat.mod_lt _ (by decide)
 show ((#[.int .i64 0, .int .i64 0, .int .i64 0, .int .i64 0, .string ⟨#[]⟩] : Array Value)[i % 5]!).oneCell' = true
 rcases show i % 5 = 0 ∨ i % 5 = 1 ∨ i % 5 = 2 ∨ i % 5 = 3 ∨ i % 5 = 4 by omega with h | h | h | h | h <;> (rw [h]; rfl)
theorem run_clearD {B g cap : Nat} {W wr : World} {d : Array Dg} (h : CRow B g cap W wr d) (kk : Nat) (hk : kk < d.size) (ty : TypeId) :
  (Builtin.clear_ #[41] ty #[.slice (some ⟨g, kk * 5, none⟩) (d.size - kk) (cap - kk)]).run Tryz.prog wr = .ok (.tuple #[]) (wr.setCells g (kk * 5) (zerosD (d.size - kk))) := by
 have hst := run_storeCells_cells (P := Tryz.prog) g (kk * 5) (zerosD (d.size - kk)) 0 wr (fun j hj => by
  rw [zerosD_len] at hj
  have := (h.at (kk + j / 5) (by omega)).1
  rw [Nat.add_zero, show kk * 5 + j = (kk + j / 5) * 5 + j % 5 by omega]
  have h5 : j % 5 < 5 := Nat.mod_lt _ (by decide)
  rcases show j % 5 = 0 ∨ j % 5 = 1 ∨ j % 5 = 2 ∨ j % 5 = 3 ∨ j % 5 = 4 by omega with e | e | e | e | e <;> rw [e]
  ·rw [Nat.add_zero, this.1]; rfl
  ·rw [this.2.1]; rfl
  ·rw [this.2.2.1]; rfl
  ·rw [this.2.2.2.1]; rfl
  ·rw [this.2.2.2.2]; rfl) (fun j hj => by
  rw [Nat.add_zero]
  exact (h.at kk hk).2 _) (zerosD_one _)
 rw [Nat.add_zero] at hst
 obtain ⟨m, hm⟩ : ∃ m, d.size - kk = m + 1 := ⟨d.size - kk - 1, by omega⟩
 rw [hm] at hst ⊢
 unfold zerosD at hst
 simp [Builtin.clear_, run_underlying Tryz.underlying41, Tryz.zeroValue62, hst, zerosD]
theorem setCells_low (g : Nat) : ∀ (vs : List Value) (o : Nat) (w : World) (cur : Array Value) (e : TypeId), w.heap[g]? = some (.cells cur e (0, 0)) → ∃ cur', (w.setCells g o vs).heap[g]? = some (.cells cur' e (0, 0)) ∧ cur'.size = cur.size ∧ cur'.toList.take o = cur.toList.take o ∧ Only g w (w.setCells g o vs)
 | [], o, w, cur, e, h => ⟨cur, h, rfl, rfl, .refl _ _⟩
 | v :: vs, o, w, cur, e, h => by
  obtain ⟨cur', h1, h2, h3, h4⟩ := setCells_low g vs (o + 1) (w.setCell ⟨g, o, none⟩ v) (cur.setIfInBounds o v) e (blk_set h o v)
  refine ⟨cur', h1, by rw [h2]; simp, ?_, ((Only.refl g w).set o v).trans h4⟩
  have h5 : (cur'.toList.take (o + 1)).take o = ((cur.setIfInBounds o v).toList.take (o + 1)).take o := by rw [h3]
  rw [List.take_take, List.take_take, show min o (o + 1) = o by omega] at h5
  rw [h5, Array.toList_setIfInBounds, List.take_set_of_le (Nat.le_refl _)]
theorem CRow.cut {B g cap kk : Nat} {W wr : World} {d dk : Array Dg} (h : CRow B g cap W wr dk) (hI : CompInv d d.size kk dk) (D : Nat) :
  (compactUpTo d d.size).length = kk ∧ (wr.setCells g (kk * 5) (zerosD D)).ownsRow B 62 5 (.slice (some ⟨g, 0, none⟩) kk cap) kk (dgCells (compactUpTo d d.size)) ∧ Only g W (wr.setCells g (kk * 5) (zerosD D)) := by
 refine ⟨hI.len, ?_⟩
 have hs := hI.size
 have hk := hI.lt
 rcases h.row.2 with ⟨hh, _⟩ | ⟨g', cap', cur, hv, h1, h2, h3, h4, h5, h6⟩
 ·cases hh
 ·simp only [Value.slice.injEq, Option.some.injEq, Addr.mk.injEq, and_true] at hv
  obtain ⟨rfl, _, rfl⟩ := hv
  obtain ⟨cur', k1, k2, k3, k4⟩ := setCells_low g (zerosD D) (kk * 5) wr cur _ h2
  have hl : dk.toList.length = dk.size := by simp
  have e1 : dk.toList.take kk = compactUpTo d d.size := by
   apply List.ext_getElem?
   intro i
   by_cases hi : i < kk
   ·rw [List.getElem?_take_of_lt hi, hI.low i hi, Array.getElem?_toList, Array.getElem?_eq_getElem (by omega), getElem!_pos dk i (by omega)]
   ·rw [List.getElem?_eq_none (by simp; omega), List.getElem?_eq_none (by rw [hI.len]; omega)]
  have e2 : dgCells (dk.toList.take kk) = (dgCells dk.toList).take (kk * 5) := by
   have hlen : (dgCells (dk.toList.take kk)).length = kk * 5 := by rw [dgCells_length, List.length_take, show min kk dk.toList.length = kk by omega]
   have : dgCells dk.toList = dgCells (dk.toList.take kk) ++ dgCells (dk.toList.drop kk) := by rw [← dgCells_append, List.take_append_drop]
   rw [this, ← hlen, List.take_left]
  refine ⟨⟨by rw [dgCells_length, hI.len], .inr ⟨g, cap, cur', rfl, h1, k1, by omega, h4, by rw [k2]; exact h5, ?_⟩⟩, h.only.trans k4⟩
  rw [k3, ← e1, e2, ← h6, List.take_take, show min (kk * 5) (dk.toList.length * 5) = kk * 5 by omega]
theorem compactDa_calls {B g cap : Nat} {W : World} {d : Array Dg} (ho : CRow B g cap W W d) (hl : d.size ≤ 10000000) (h2 : 2 ≤ d.size) :
  Calls Tryz.prog 23 #[.slice (some ⟨g, 0, none⟩) d.size cap] W fun e W' => e = .returned (.slice (some ⟨g, 0, none⟩) (compactUpTo d d.size).length cap) ∧ W'.ownsRow B 62 5 (.slice (some ⟨g, 0, none⟩) (compactUpTo d d.size).length cap) (compactUpTo d d.size).length (dgCells (compactUpTo d d.size)) ∧ Only g W W' := by
 have H0 := ak ho
 have hsz : d.toList.length = d.size := by simp
 clear ho
 go_enter Tryz.func23, Tryz.ntmps23
 go_wp2_with fail
 go_loopg [3] d.size (fun gg s3 wr => ∃ k : Nat, s3 = .int .i64 (k : Int) ∧ 1 ≤ k ∧ k ≤ d.size ∧ d.size - k ≤ gg ∧ Aside0 (CRow B g cap W wr d ∧ ∀ j, j < k → keeps d j = true))
 case atStart => exact ⟨1, rfl, Nat.le_refl _, by omega, by omega, ak ⟨H0.out, keeps_lt_one d⟩⟩
 case round =>
  obtain ⟨k, rfl, hk1, hk, hgg, A⟩ := hrel
  obtain ⟨m, hkm⟩ : ∃ m, k = m + 1 := ⟨k - 1, by omega⟩
  have w1 : IntKind.i64.wrap ((k : Int) - 1) = (m : Int) := by rw [IntKind.wrap_i64]; omega
  have w2 : IntKind.i64.wrap ((k : Int) + 1) = (k : Int) + 1 := by rw [IntKind.wrap_i64]; omega
  have i0 : (0 : Int) ≤ (k : Int) := by omega
  have i2 : (0 : Int) ≤ (m : Int) := by omega
  have i3 : (m : Int) < (d.size : Int) := by omega
  by_cases hlt : k < d.size
  ·have i1 : (k : Int) < (d.size : Int) := by omega
   obtain ⟨⟨c0, c1, c2, c3, c4⟩, fz⟩ := A.out.1.at k hlt
   obtain ⟨⟨e0, e1, e2, e3, e4⟩, _⟩ := A.out.1.at m (by omega)
   have HKM := ak hkm
   clear hkm
   obtain ⟨x, hx⟩ : ∃ x, d[k]! = x := ⟨_, rfl⟩
   obtain ⟨y, hy⟩ : ∃ y, d[m]! = y := ⟨_, rfl⟩
   rw [hx] at c0 c1 c2 c3 c4
   rw [hy] at e0 e1 e2 e3 e4
   have HXY := ak (And.intro hx hy)
   clear hx hy
   have he := eqD x y
   by_cases hdup : x = y
   ·have hd := decide_eq_true hdup
    rw [hd] at he
    go_wp2_with fail
    go_region_held3 (fun w' => (w'.cell? ⟨g, k * 5, none⟩ = some (.int .i64 x.f0) ∧ w'.cell? ⟨g, k * 5 + 1, none⟩ = some (.int .i64 x.f1) ∧ w'.cell? ⟨g, k * 5 + 2, none⟩ = some (.int .i64 x.f2) ∧ w'.cell? ⟨g, k * 5 + 3, none⟩ = some (.int .i64 x.f3) ∧ w'.cell? ⟨g, k * 5 + 4, none⟩ = some (.string x.f4)) ∧ (w'.cell? ⟨g, m * 5, none⟩ = some (.int .i64 y.f0) ∧ w'.cell? ⟨g, m * 5 + 1, none⟩ = some (.int .i64 y.f1) ∧ w'.cell? ⟨g, m * 5 + 2, none⟩ = some (.int .i64 y.f2) ∧ w'.cell? ⟨g, m * 5 + 3, none⟩ = some (.int .i64 y.f3) ∧ w'.cell? ⟨g, m * 5 + 4, none⟩ = some (.string y.f4))) (go_keep) (fail)
    have icap : k < cap := by have := A.out.1.cap; omega
    have icap' : (k : Int) ≤ (cap : Int) := by omega
    have icap2 : ¬ cap = k := by omega
    have A2 := ak A.out.1.drew
    clear c0 c1 c2 c3 c4 e0 e1 e2 e3 e4 he hd
    go_wp2_with fail
    obtain ⟨L, hL⟩ : ∃ L, d.size - k = L := ⟨_, rfl⟩
    obtain ⟨C, hC⟩ : ∃ C, cap - k = C := ⟨_, rfl⟩
    rw [hL, hC]
    have HLC := ak (And.intro hL hC)
    clear hL hC
    go_loopg [3, 5] d.size (fun gg s3 s5 w3 => ∃ (kk k2 : Nat) (dk : Array Dg), s3 = .int .i64 (kk : Int) ∧ s5 = .int .i64 (k2 : Int) ∧ 1 ≤ k2 ∧ k + k2 ≤ d.size ∧ d.size - (k + k2) ≤ gg ∧ Aside0 (CRow B g cap W w3 dk ∧ CompInv d (k + k2) kk dk))
    case atStart => exact ⟨k, 1, d, rfl, rfl, Nat.le_refl _, by omega, by omega, ak ⟨A2.out, CompInv.start A.out.2 (keeps_neg (by omega) (by have := HKM.out; rw [HXY.out.1, show k - 1 = m by omega, HXY.out.2, hdup]))⟩⟩
    case round =>
     obtain ⟨kk, k2, dk, rfl, rfl, h1, hle, hg2, A3⟩ := hrel
     have hL := HLC.out.1
     have hds : dk.size = d.size := A3.out.2.size
     have hkk := A3.out.2.lt
     obtain ⟨q, hq⟩ : ∃ q, k2 = q + 1 := ⟨k2 - 1, by omega⟩
     have v1 : IntKind.i64.wrap ((k2 : Int) - 1) = (q : Int) := by rw [IntKind.wrap_i64]; omega
     have v2 : IntKind.i64.wrap ((k2 : Int) + 1) = (k2 : Int) + 1 := by rw [IntKind.wrap_i64]; omega
     have v3 : IntKind.i64.wrap ((kk : Int) + 1) = (kk : Int) + 1 := by rw [IntKind.wrap_i64]; omega
     have j0 : (0 : Int) ≤ (k2 : Int) := by omega
     have j1 : (0 : Int) ≤ (q : Int) := by omega
     have j2 : (q : Int) < (L : Int) := by omega
     have j3 : (0 : Int) ≤ (kk : Int) := by omega
     have j4 : (kk : Int) < (d.size : Int) := by omega
     by_cases hlt2 : k + k2 < d.size
     ·have j5 : (k2 : Int) < (L : Int) := by omega
      have j6 : decide ((k2 : Int) < (L : Int)) = true := decide_eq_true j5
      obtain ⟨⟨c0, c1, c2, c3, c4⟩, fz⟩ := A3.out.1.at (k + k2) (by omega)
      obtain ⟨⟨e0, e1, e2, e3, e4⟩, _⟩ := A3.out.1.at (k + q) (by omega)
      obtain ⟨⟨o0, o1, o2, o3, o4⟩, _⟩ := A3.out.1.at kk (by omega)
      rw [Nat.add_mul] at c0 c1 c2 c3 c4 e0 e1 e2 e3 e4
      rw [A3.out.2.high (k + k2) (by omega)] at c0 c1 c2 c3 c4
      rw [A3.out.2.high (k + q) (by omega)] at e0 e1 e2 e3 e4
      obtain ⟨u, hu⟩ : ∃ u, d[k + k2]! = u := ⟨_, rfl⟩
      obtain ⟨v, hv⟩ : ∃ v, d[k + q]! = v := ⟨_, rfl⟩
      rw [hu] at c0 c1 c2 c3 c4
      rw [hv] at e0 e1 e2 e3 e4
      have HUV := ak (And.intro hu hv)
      have HQ := ak hq
      clear hu hv hq hL hds hkk
      have he := eqD u v
      by_cases huv : u = v
      ·have hd := decide_eq_true huv
       rw [hd] at he
       go_wp2_with fail
       go_region_held3 (fun w' => (w'.cell? ⟨g, k * 5 + k2 * 5, none⟩ = some (.int .i64 u.f0) ∧ w'.cell? ⟨g, k * 5 + k2 * 5 + 1, none⟩ = some (.int .i64 u.f1) ∧ w'.cell? ⟨g, k * 5 + k2 * 5 + 2, none⟩ = some (.int .i64 u.f2) ∧ w'.cell? ⟨g, k * 5 + k2 * 5 + 3, none⟩ = some (.int .i64 u.f3) ∧ w'.cell? ⟨g, k * 5 + k2 * 5 + 4, none⟩ = some (.string u.f4)) ∧ (w'.cell? ⟨g, k * 5 + q * 5, none⟩ = some (.int .i64 v.f0) ∧ w'.cell? ⟨g, k * 5 + q * 5 + 1, none⟩ = some (.int .i64 v.f1) ∧ w'.cell? ⟨g, k * 5 + q * 5 + 2, none⟩ = some (.int .i64 v.f2) ∧ w'.cell? ⟨g, k * 5 + q * 5 + 3, none⟩ = some (.int .i64 v.f3) ∧ w'.cell? ⟨g, k * 5 + q * 5 + 4, none⟩ = some (.string v.f4))) (go_keep) (fail)
       clear he hd
       go_wp2
       go_roundg (d.size - (k + (k2 + 1)))
       case measure => omega
       case rel => exact ⟨kk, k2 + 1, dk, rfl, rfl, by omega, by omega, Nat.le_refl _, ak ⟨A3.out.1.drew, A3.out.2.skip (keeps_neg (by omega) (by have := HQ.out; rw [HUV.out.1, show k + k2 - 1 = k + q by omega, HUV.out.2, huv]))⟩⟩
      ·have hd := decide_eq_false huv
       rw [hd] at he
       go_wp2_with fail
       go_region_held3 (fun w' => (w'.cell? ⟨g, k * 5 + k2 * 5, none⟩ = some (.int .i64 u.f0) ∧ w'.cell? ⟨g, k * 5 + k2 * 5 + 1, none⟩ = some (.int .i64 u.f1) ∧ w'.cell? ⟨g, k * 5 + k2 * 5 + 2, none⟩ = some (.int .i64 u.f2) ∧ w'.cell? ⟨g, k * 5 + k2 * 5 + 3, none⟩ = some (.int .i64 u.f3) ∧ w'.cell? ⟨g, k * 5 + k2 * 5 + 4, none⟩ = some (.string u.f4)) ∧ (w'.cell? ⟨g, k * 5 + q * 5, none⟩ = some (.int .i64 v.f0) ∧ w'.cell? ⟨g, k * 5 + q * 5 + 1, none⟩ = some (.int .i64 v.f1) ∧ w'.cell? ⟨g, k * 5 + q * 5 + 2, none⟩ = some (.int .i64 v.f2) ∧ w'.cell? ⟨g, k * 5 + q * 5 + 3, none⟩ = some (.int .i64 v.f3) ∧ w'.cell? ⟨g, k * 5 + q * 5 + 4, none⟩ = some (.string v.f4))) (go_keep) (fail)
       clear he hd
       go_wp2
       go_roundg (d.size - (k + (k2 + 1)))
       case measure => omega
       case rel => exact ⟨kk + 1, k2 + 1, dk.setIfInBounds kk u, rfl, rfl, by omega, by omega, Nat.le_refl _, ak ⟨(A3.out.1.put kk (by have := A3.out.2.size; have := A3.out.2.lt; omega) u).drew, by have := HQ.out; have := A3.out.2.keep hlt2 (keeps_pos (by rw [HUV.out.1, show k + k2 - 1 = k + q by omega, HUV.out.2]; exact huv)); rwa [HUV.out.1] at this⟩⟩
     ·have j5 : ¬ (k2 : Int) < (L : Int) := by omega
      have j6 : decide ((k2 : Int) < (L : Int)) = false := decide_eq_false j5
      have hend : k + k2 = d.size := by omega
      have hcl := run_clearD A3.out.1 kk (by omega)
      have hcap := A3.out.1.cap
      rw [hds] at hcl hcap
      obtain ⟨D, hD⟩ : ∃ D, d.size - kk = D := ⟨_, rfl⟩
      have j7 : (kk : Int) ≤ (cap : Int) := by omega
      have j8 : ¬ cap = kk := by omega
      have j9 : (kk : Int) ≤ (d.size : Int) := by omega
      rw [hD] at hcl
      go_wp2_with fail
      go_ret
      have hI := A3.out.2
      rw [hend] at hI
      obtain ⟨k1, k2, k3⟩ := CRow.cut A3.out.1 hI D
      rw [hI.len]
      exact ⟨rfl, k2, k3⟩
   ·have hd := decide_eq_false hdup
    rw [hd] at he
    go_wp2_with fail
    go_region_held3 (fun w' => (w'.cell? ⟨g, k * 5, none⟩ = some (.int .i64 x.f0) ∧ w'.cell? ⟨g, k * 5 + 1, none⟩ = some (.int .i64 x.f1) ∧ w'.cell? ⟨g, k * 5 + 2, none⟩ = some (.int .i64 x.f2) ∧ w'.cell? ⟨g, k * 5 + 3, none⟩ = some (.int .i64 x.f3) ∧ w'.cell? ⟨g, k * 5 + 4, none⟩ = some (.string x.f4)) ∧ (w'.cell? ⟨g, m * 5, none⟩ = some (.int .i64 y.f0) ∧ w'.cell? ⟨g, m * 5 + 1, none⟩ = some (.int .i64 y.f1) ∧ w'.cell? ⟨g, m * 5 + 2, none⟩ = some (.int .i64 y.f2) ∧ w'.cell? ⟨g, m * 5 + 3, none⟩ = some (.int .i64 y.f3) ∧ w'.cell? ⟨g, m * 5 + 4, none⟩ = some (.string y.f4))) (go_keep) (fail)
    clear c0 c1 c2 c3 c4 e0 e1 e2 e3 e4 he hd
    go_wp2
    go_roundg (d.size - (k + 1))
    case measure => omega
    case rel =>
     refine ⟨k + 1, rfl, by omega, by omega, Nat.le_refl _, ak ⟨A.out.1.drew, fun j hj => ?_⟩⟩
     by_cases e : j = k
     ·subst e
      exact keeps_pos (by have := HKM.out; rw [HXY.out.1, show j - 1 = m by omega, HXY.out.2]; exact hdup)
     ·exact A.out.2 j (by omega)
  ·have i1 : ¬ (k : Int) < (d.size : Int) := by omega
   have hke : k = d.size := by omega
   clear w1 w2 hkm
   go_wp2_with fail
   go_ret
   have e : compactUpTo d d.size = d.toList := by rw [compactUpTo_all d _ (fun j hj => A.out.2 j (by omega)), range_map_get]
   have hr := A.out.1.row
   rw [e]
   rw [hsz] at hr ⊢
   exact ⟨rfl, hr, A.out.1.only⟩
def compactD (ds : List Dg) : List Dg := compactUpTo ds.toArray ds.toArray.size
theorem compactD_calls {B : Nat} {W : World} {h : Value} {ds : List Dg} (ho : W.ownsRow B 62 5 h ds.length (dgCells ds)) (hl : ds.length ≤ 10000000) :
  Calls Tryz.prog 23 #[h] W fun e W' => ∃ h', e = .returned h' ∧ W'.ownsRow B 62 5 h' (compactD ds).length (dgCells (compactD ds)) ∧ own1 h' = own1 h ∧ W'.os = W.os ∧ W'.tape = W.tape ∧ W'.output = W.output ∧ W.heap.size ≤ W'.heap.size ∧ ∀ g, g < W.heap.size → g ∉ own1 h → W'.heap[g]? = W.heap[g]? := by
 by_cases h2 : ds.length < 2
 ·have e : compactD ds = ds := by
   match ds, h2 with
   | [], _ => rfl
   | [d], _ => rfl
  rw [e]
  obtain ⟨A, c, rfl⟩ := Par.own_slice ho
  have HO := ak ho
  have h2' : (ds.length : Int) < 2 := by omega
  have h2d : decide ((ds.length : Int) < 2) = true := decide_eq_true h2'
  clear ho h2 e
  go_enter Tryz.func23, Tryz.ntmps23
  go_wp2_with fail
  go_ret
  exact ⟨_, rfl, HO.out, rfl, rfl, rfl, rfl, Nat.le_refl _, fun _ _ _ => rfl⟩
 ·rcases ho.2 with ⟨rfl, hn⟩ | ⟨g, cap, cur, rfl, _⟩
  ·omega
  ·have hr : CRow B g cap W W ds.toArray := ⟨by simpa using ho, .refl _ _⟩
   have hc := compactDa_calls hr (by simpa using hl) (by simp; omega)
   rw [show ds.toArray.size = ds.length by simp] at hc
   refine hc.mono ?_
   rintro e W' ⟨rfl, k1, k2⟩
   have e2 : compactD ds = compactUpTo ds.toArray ds.length := by unfold compactD; simp
   rw [e2]
   refine ⟨_, rfl, k1, rfl, k2.os, k2.tape, k2.output, k2.size, fun b hb hn => k2.kept b hb (fun e => hn ?_)⟩
   subst e
   simp [own1, Value.ownBlock]
end Go.Proofs.YtkijamagbgigmaaGreatDoor.Par
namespace Go.Proofs.YtkijamagbgigmaaGreatDoor.Par
open Go.RowKit Go.Proofs.YtkijamagbgigmaaGreatDoorW.PrintWords Go.Proofs.YtkijamagbgigmaaGreatDoorW.PrintLast
theorem tokenize_big {s : ByteArray} (hs : 2000 < s.size) (w : World) :
  Calls Tryz.prog 30 #[.string s] w fun e w' => e = .returned (.tuple #[.slice none 0 0, .int .i64 2]) ∧ Below w.heap.size w w' := by
 have h0 : (2000 : Int) < (s.size : Int) := by omega
 have h0b : decide ((2000 : Int) < (s.size : Int)) = true := decide_eq_true h0
 go_enter Tryz.func30, Tryz.ntmps30
 go_wp2_with fail
 go_ret2
 exact ⟨rfl, by repeat (first | exact Below.refl _ _ | apply below_drew)⟩
theorem parse_big {s : ByteArray} (hs : 2000 < s.size) (w : World) :
  Calls Tryz.prog 19 #[.string s] w fun e w' => e = .returned (.tuple #[.agg #[.int .i64 0, .string ⟨#[]⟩, .slice none 0 0], .int .i64 2]) ∧ Below w.heap.size w w' := by
 go_enter Tryz.func19, Tryz.ntmps19
 go_wp2_with fail
 refine (tokenize_big hs _).mono ?_
 rintro e W2 ⟨rfl, hb⟩
 have hr := hb.block w.heap.size (by simp [World.size_alloc])
 rw [blk_new w] at hr
 have y0 : W2.cell? ⟨w.heap.size, 0, none⟩ = some (.int .i64 0) := (blk_cell hr 0).trans rfl
 have y1 : W2.cell? ⟨w.heap.size, 1, none⟩ = some (.string ⟨#[]⟩) := (blk_cell hr 1).trans rfl
 have y2 : W2.cell? ⟨w.heap.size, 2, none⟩ = some (.slice none 0 0) := (blk_cell hr 2).trans rfl
 have z0 := blk_frozen hr 0
 have z1 := blk_frozen hr 1
 have z2 := blk_frozen hr 2
 have HB := ak (show Below w.heap.size w W2 from (below_alloc (Below.refl _ _) _).trans (hb.mono (by simp [World.size_alloc])))
 have HR := ak hr
 clear hb hr
 go_wp2_with fail
 obtain ⟨W3, hW3⟩ : ∃ W3, ((W2.setCell ⟨w.heap.size, 0, none⟩ (.int .i64 0)).setCell ⟨w.heap.size, 1, none⟩ (.string ⟨#[]⟩)).setCell ⟨w.heap.size, 2, none⟩ (.slice none 0 0) = W3 := ⟨_, rfl⟩
 have hb3 : W3.heap[w.heap.size]? = some (.cells #[.int .i64 0, .string ⟨#[]⟩, .slice none 0 0] 53 (0, 0)) := by rw [← hW3]; simp [World.setCell, Array.getElem?_modify, HR.out]
 have x0 : W3.cell? ⟨w.heap.size, 0, none⟩ = some (.int .i64 0) := (blk_cell hb3 0).trans rfl
 have x1 : W3.cell? ⟨w.heap.size, 1, none⟩ = some (.string ⟨#[]⟩) := (blk_cell hb3 1).trans rfl
 have x2 : W3.cell? ⟨w.heap.size, 2, none⟩ = some (.slice none 0 0) := (blk_cell hb3 2).trans rfl
 have hbw : Below w.heap.size w W3 := by
  have o : Only w.heap.size W2 W3 := by rw [← hW3]; exact (((Only.refl _ _).set _ _).set _ _).set _ _
  exact HB.out.trans (o.belowN (Nat.le_refl _) HB.out.size)
 rw [hW3]
 refine bodyPost_ret (v := .tuple #[.agg #[.int .i64 0, .string ⟨#[]⟩, .slice none 0 0], .int .i64 2]) (by simp [results, Tryz.results19, go_sem, x0, x1, x2]) rfl ⟨rfl, hbw⟩
theorem astBig_calls {s : ByteArray} (hs : 2000 < s.size) (w : World) :
  Calls Tryz.prog 11 #[.string s] w fun e w' => e = .returned (.tuple #[.agg #[.int .i64 0, .int .i64 0, .string ⟨#[]⟩, .int .i64 0, .int .i64 0, .int .i64 0, .slice none 0 0], .slice none 0 0, .int .i64 2]) ∧ Below w.heap.size w w' := by
 go_enter Tryz.func11, Tryz.ntmps11
 go_wp2_with fail
 refine (parse_big hs _).mono ?_
 rintro e W2 ⟨rfl, hb⟩
 have hr := hb.block w.heap.size (by simp [World.size_alloc])
 rw [blk_new w] at hr
 have hlt := blk_lt hr
 have HB := ak (show Below w.heap.size w W2 from (below_alloc (Below.refl _ _) _).trans (hb.mono (by simp [World.size_alloc])))
 obtain ⟨W3, hW3⟩ : ∃ W3, W2.alloc (.cells #[.int .i64 0, .string ⟨#[]⟩, .slice none 0 0] 53) = W3 := ⟨_, rfl⟩
 have hr3 : W3.heap[w.heap.size]? = some (.cells #[.int .i64 0, .int .i64 0, .string ⟨#[]⟩, .int .i64 0, .int .i64 0, .int .i64 0, .slice none 0 0] NDT (0, 0)) := by rw [← hW3]; exact blk_alloc hr _
 have hq3 : W3.heap[W2.heap.size]? = some (.cells #[.int .i64 0, .string ⟨#[]⟩, .slice none 0 0] 53 (0, 0)) := by rw [← hW3]; exact blk_new W2 _
 have hB3 : Below w.heap.size w W3 := by rw [← hW3]; exact below_alloc HB.out _
 have q0 : W3.cell? ⟨W2.heap.size, 0, none⟩ = some (.int .i64 0) := (blk_cell hq3 0).trans rfl
 have qz0 := blk_frozen hq3 0
 have q1 : W3.cell? ⟨W2.heap.size, 1, none⟩ = some (.string ⟨#[]⟩) := (blk_cell hq3 1).trans rfl
 have qz1 := blk_frozen hq3 1
 have q2 : W3.cell? ⟨W2.heap.size, 2, none⟩ = some (.slice none 0 0) := (blk_cell hq3 2).trans rfl
 have qz2 := blk_frozen hq3 2
 have y0 : W3.cell? ⟨w.heap.size, 0, none⟩ = some (.int .i64 0) := (blk_cell hr3 0).trans rfl
 have z0 := blk_frozen hr3 0
 have y1 : W3.cell? ⟨w.heap.size, 1, none⟩ = some (.int .i64 0) := (blk_cell hr3 1).trans rfl
 have z1 := blk_frozen hr3 1
 have y2 : W3.cell? ⟨w.heap.size, 2, none⟩ = some (.string ⟨#[]⟩) := (blk_cell hr3 2).trans rfl
 have z2 := blk_frozen hr3 2
 have y3 : W3.cell? ⟨w.heap.size, 3, none⟩ = some (.int .i64 0) := (blk_cell hr3 3).trans rfl
 have z3 := blk_frozen hr3 3
 have y4 : W3.cell? ⟨w.heap.size, 4, none⟩ = some (.int .i64 0) := (blk_cell hr3 4).trans rfl
 have z4 := blk_frozen hr3 4
 have y5 : W3.cell? ⟨w.heap.size, 5, none⟩ = some (.int .i64 0) := (blk_cell hr3 5).trans rfl
 have z5 := blk_frozen hr3 5
 have y6 : W3.cell? ⟨w.heap.size, 6, none⟩ = some (.slice none 0 0) := (blk_cell hr3 6).trans rfl
 have z6 := blk_frozen hr3 6
 have HR := ak (And.intro hr3 (And.intro hq3 hB3))
 have HLT := ak hlt
 clear hb hr hr3 hq3 hB3
 go_wp2_with fail
 clear hW3
 obtain ⟨X, hX⟩ : ∃ X, ((W3.setCell ⟨W2.heap.size, 0, none⟩ (.int .i64 0)).setCell ⟨W2.heap.size, 1, none⟩ (.string ⟨#[]⟩)).setCell ⟨W2.heap.size, 2, none⟩ (.slice none 0 0) = X := ⟨_, rfl⟩
 have oX : Only W2.heap.size W3 X := by rw [← hX]; exact (((Only.refl _ _).set _ _).set _ _).set _ _
 have hneX : w.heap.size ≠ W2.heap.size := by have := HLT.out; omega
 have hrX := (oX.kept w.heap.size (blk_lt HR.out.1) hneX).trans HR.out.1
 have hBX : Below w.heap.size w X := HR.out.2.2.trans (oX.belowN (by have := HLT.out; omega) HR.out.2.2.size)
 rw [hX]
 obtain ⟨W4, hW4⟩ : ∃ W4, ((((((X.setCell ⟨w.heap.size, 0, none⟩ (.int .i64 0)).setCell ⟨w.heap.size, 1, none⟩ (.int .i64 0)).setCell ⟨w.heap.size, 2, none⟩ (.string ⟨#[]⟩)).setCell ⟨w.heap.size, 3, none⟩ (.int .i64 0)).setCell ⟨w.heap.size, 4, none⟩ (.int .i64 0)).setCell ⟨w.heap.size, 5, none⟩ (.int .i64 0)).setCell ⟨w.heap.size, 6, none⟩ (.slice none 0 0) = W4 := ⟨_, rfl⟩
 have hb3 : W4.heap[w.heap.size]? = some (.cells #[.int .i64 0, .int .i64 0, .string ⟨#[]⟩, .int .i64 0, .int .i64 0, .int .i64 0, .slice none 0 0] NDT (0, 0)) := by rw [← hW4]; exact set7 hrX _ _ _ _ _ _ _
 have x0 : W4.cell? ⟨w.heap.size, 0, none⟩ = some (.int .i64 0) := (blk_cell hb3 0).trans rfl
 have x1 : W4.cell? ⟨w.heap.size, 1, none⟩ = some (.int .i64 0) := (blk_cell hb3 1).trans rfl
 have x2 : W4.cell? ⟨w.heap.size, 2, none⟩ = some (.string ⟨#[]⟩) := (blk_cell hb3 2).trans rfl
 have x3 : W4.cell? ⟨w.heap.size, 3, none⟩ = some (.int .i64 0) := (blk_cell hb3 3).trans rfl
 have x4 : W4.cell? ⟨w.heap.size, 4, none⟩ = some (.int .i64 0) := (blk_cell hb3 4).trans rfl
 have x5 : W4.cell? ⟨w.heap.size, 5, none⟩ = some (.int .i64 0) := (blk_cell hb3 5).trans rfl
 have x6 : W4.cell? ⟨w.heap.size, 6, none⟩ = some (.slice none 0 0) := (blk_cell hb3 6).trans rfl
 have hbw : Below w.heap.size w W4 := by
  have o : Only w.heap.size X W4 := by rw [← hW4]; exact only7 X _ _ _ _ _ _ _ _
  exact hBX.trans (o.belowN (Nat.le_refl _) hBX.size)
 rw [hW4]
 refine bodyPost_ret (v := .tuple #[.agg #[.int .i64 0, .int .i64 0, .string ⟨#[]⟩, .int .i64 0, .int .i64 0, .int .i64 0, .slice none 0 0], .slice none 0 0, .int .i64 2]) (by simp [results, Tryz.results11, go_sem, x0, x1, x2, x3, x4, x5, x6]) rfl ⟨rfl, hbw⟩
def astR (l : List UInt8) (src : ByteArray) : Nd × BSt := nodeP src (.mk 1 noText (parseKids l)) ⟨0, []⟩
def astN (src : ByteArray) : Nd := ⟨(astR src.data.toList src).1.f0, (astR src.data.toList src).1.f1, (astR src.data.toList src).1.f2, 0, (src.size : Int), (astR src.data.toList src).1.f5, (astR src.data.toList src).1.f6⟩
def astD (src : ByteArray) : List Dg := compactD (sortD (astR src.data.toList src).2.ds)
theorem Glb.up {N0 N1 : Nat} {W : World} (h : Glb N0 W) (hN : N0 ≤ N1) : Glb N1 W := ⟨h.rng, h.syn, Nat.lt_of_lt_of_le h.lo.1 hN, Nat.lt_of_lt_of_le h.lo.2 hN⟩
theorem sumB_tokens (l : List UInt8) : sumB (Lex.tokens l) = l.length := by
 have h := tokens_text l.length l (Nat.le_refl _)
 conv => rhs; rw [← h]
 rw [List.length_flatMap]
 unfold sumB
 congr 1
theorem root_fit {l : List UInt8} (h : l.length ≤ 2000) : FitT (.mk 1 noText (parseKids l)) ∧ cntT (.mk 1 noText (parseKids l)) ≤ 60001 ∧ bytesT (.mk 1 noText (parseKids l)) = l.length := by
 have hk := parseKids_ok h
 refine ⟨⟨hk.good, fun e => by cases e⟩, ?_, ?_⟩
 ·have h1 := hk.few
  have h2 := Lex.tokens_len _ l (Nat.le_refl _)
  simp only [cntT]
  omega
 ·rw [bytesT_node _ _ _ (by decide)]
  unfold bytesL
  rw [hk.toks, sumB_tokens]
theorem nodeP_fit (src : ByteArray) (k : Int) (x : ByteArray) (ks : List Tree) (hg : FitT (.mk k x ks)) (hk : k < 100) (s : BSt) : NodeOk s (nodeP src (.mk k x ks) s).2 (nodeP src (.mk k x ks) s).1 (cntT (.mk k x ks)) (bytesT (.mk k x ks)) := by
 have h := kidsP_ok src ks hg.kids s.off ⟨k, 0, noText, s.off, -1, -1, []⟩ s (.inl ⟨rfl, rfl, Nat.le_refl _⟩)
 have h1 := h.off
 have h2 := h.ds
 have h3 := h.rng
 have f1 := finishP_off src (endP (kidsP src ks ⟨k, 0, noText, s.off, -1, -1, []⟩ s).1) (kidsP src ks ⟨k, 0, noText, s.off, -1, -1, []⟩ s).2
 have f2 := finishP_rng src (endP (kidsP src ks ⟨k, 0, noText, s.off, -1, -1, []⟩ s).1) (kidsP src ks ⟨k, 0, noText, s.off, -1, -1, []⟩ s).2
 rw [nodeP, bytesT_node k x ks hk]
 refine ⟨f1.1.trans h1, ?_, ?_⟩
 ·have := f1.2
  simp only [cntT]
  omega
 ·rw [f2.1, f2.2, f1.1]
  simp only [endP]
  unfold Rng at h3
  omega
theorem ast_calls {s : ByteArray} (hs : s.size ≤ 2000) (w : World) (hS : Spc w) (hG : Glb w.heap.size w) :
  Calls Tryz.prog 11 #[.string s] w fun e w' => ∃ hd F dv, e = .returned (.tuple #[.agg #[.int .i64 (astN s).f0, .int .i64 (astN s).f1, .string (astN s).f2, .int .i64 (astN s).f3, .int .i64 (astN s).f4, .int .i64 (astN s).f5, hd], dv, .int .i64 0]) ∧ AR w' w.heap.size NDT (astN s).f6 hd F ∧ w'.ownsRow w.heap.size 62 5 dv (astD s).length (dgCells (astD s)) ∧ Below w.heap.size w w' := by
 have hl : s.data.toList.length = s.size := by simp
 have HS := ak (And.intro hS hG)
 clear hS hG
 go_enter Tryz.func11, Tryz.ntmps11
 go_wp2_with fail
 refine (parse_said hs _ (HS.out.1.below (below_alloc (Below.refl _ _) _))).mono ?_
 rintro e W2 ⟨v, F0, rfl, tr, nd0, hb⟩
 obtain ⟨vA, vc, rfl⟩ : ∃ A c, v = .slice A (parseKids s.data.toList).length c := by
  obtain ⟨_, _, ho, _, _⟩ := tr
  exact Par.own_slice ho
 have hr := hb.block w.heap.size (by simp [World.size_alloc])
 rw [blk_new w] at hr
 have hlt := blk_lt hr
 have hbw : Below w.heap.size w W2 := (below_alloc (Below.refl _ _) _).trans (hb.mono (by simp [World.size_alloc]))
 obtain ⟨W3, hW3⟩ : ∃ W3, (W2.alloc (.cells #[.int .i64 1, .string ⟨#[]⟩, .slice vA (parseKids s.data.toList).length vc] 53)).alloc (.cells #[.string s, .int .i64 0, .slice none 0 0] 58) = W3 := ⟨_, rfl⟩
 have hb3 : Below W2.heap.size W2 W3 := by rw [← hW3]; exact below_alloc (below_alloc (Below.refl _ _) _) _
 have hs3 : W3.heap.size = W2.heap.size + 1 + 1 := by rw [← hW3]; simp [World.size_alloc]
 have t5 : W3.heap[W2.heap.size]? = some (.cells #[.int .i64 1, .string ⟨#[]⟩, .slice vA (parseKids s.data.toList).length vc] 53 (0, 0)) := by rw [← hW3]; exact blk_alloc (blk_new W2 _) _
 have t7 : W3.heap[W2.heap.size + 1]? = some (.cells #[.string s, .int .i64 0, .slice none 0 0] 58 (0, 0)) := by
  rw [← hW3]
  have hb := blk_new (W2.alloc (.cells #[.int .i64 1, .string ⟨#[]⟩, .slice vA (parseKids s.data.toList).length vc] 53)) (.cells #[.string s, .int .i64 0, .slice none 0 0] 58)
  simp only [World.size_alloc] at hb
  exact hb
 have hg3 : Glb W2.heap.size W3 := ((HS.out.2.keep (fun g h1 h2 => (hbw.trans (hb3.mono (by omega))).block g h1)).up (Nat.le_of_lt hlt))
 have bs3 : BS W2.heap.size (W2.heap.size + 1) s W3 ⟨0, []⟩ := ⟨⟨_, t7, rfl, .inl ⟨rfl, rfl⟩⟩, by omega, hg3⟩
 have tr3 : TRlo W2.heap.size W3 (parseKids s.data.toList) (.slice vA (parseKids s.data.toList).length vc) := ⟨_, F0, TR_kept tr (fun g hg => hb3.block g (TR_bound tr g hg).2.1), fun g hg => (TR_bound tr g hg).2.1⟩
 have y0 : W3.cell? ⟨W2.heap.size, 0, none⟩ = some (.int .i64 1) := (blk_cell t5 0).trans rfl
 have y1 : W3.cell? ⟨W2.heap.size, 1, none⟩ = some (.string ⟨#[]⟩) := (blk_cell t5 1).trans rfl
 have y2 : W3.cell? ⟨W2.heap.size, 2, none⟩ = some (.slice vA (parseKids s.data.toList).length vc) := (blk_cell t5 2).trans rfl
 have H3 := ak (And.intro bs3 (And.intro tr3 (And.intro hb3 (And.intro hs3 (And.intro hr (And.intro hbw hlt))))))
 clear tr nd0 hb hr hlt hbw hb3 hs3 t5 t7 hg3 bs3 tr3
 go_wp2_with fail
 clear hW3 y0 y1 y2
 obtain ⟨rf1, rf2, rf3⟩ := root_fit (l := s.data.toList) (by omega)
 refine (bnode_calls (src := s) (by omega) 60001 (.mk 1 noText (parseKids s.data.toList)) rf2 rf1 (show (1 : Int) < 100 by decide) W3 ⟨0, []⟩ _ H3.out.1 H3.out.2.1 (by have := H3.out.2.2.2.1; omega) (by rw [rf3]; show 0 + _ + _ ≤ _; omega) (by rw [rf3]; show 0 + _ ≤ _; omega)).mono ?_
 clear rf1 rf2 rf3
 rintro e W4 ⟨hd, F, rfl, ar4, bs4, f4⟩
 obtain ⟨R, hR⟩ : ∃ R, nodeP s (.mk 1 noText (parseKids s.data.toList)) ⟨0, []⟩ = R := ⟨_, rfl⟩
 rw [hR] at ar4 bs4 ⊢
 obtain ⟨hA, hc, rfl⟩ : ∃ A c, hd = .slice A R.1.f6.length c := by
  obtain ⟨_, _, ho, _, _⟩ := ar4
  exact Par.own_slice ho
 obtain ⟨dv, b1, b2⟩ := bs4.obj
 obtain ⟨dA, dc, rfl⟩ := Par.own_slice b2
 have hnk' : ∀ R, nodeP s (.mk 1 noText (parseKids s.data.toList)) ⟨0, []⟩ = R → R.2.ds.length ≤ 100000 ∧ True := fun R hR => by
  obtain ⟨rf1, rf2, rf3⟩ := root_fit (l := s.data.toList) (by omega)
  have h1 := (nodeP_fit s 1 noText (parseKids s.data.toList) rf1 (by decide) ⟨0, []⟩).ds
  rw [hR, rf3] at h1
  have h2 : (BSt.mk 0 []).ds.length = 0 := rfl
  exact ⟨by omega, trivial⟩
 have HR0 := ak hR
 have s34 := f4.size
 have hs3 := H3.out.2.2.2.1
 have hb43 : Below W2.heap.size W3 W4 := f4.below (Nat.le_refl _) (by omega) (fun _ h => h.elim) (by omega)
 have hwW4 : Below w.heap.size w W4 := H3.out.2.2.2.2.2.1.trans ((H3.out.2.2.1.trans hb43).mono (Nat.le_of_lt H3.out.2.2.2.2.2.2))
 obtain ⟨W5, hW5⟩ : ∃ W5, W4.alloc (.cells #[.int .i64 R.1.f0, .int .i64 R.1.f1, .string R.1.f2, .int .i64 0, .int .i64 (s.size : Int), .int .i64 R.1.f5, .slice hA R.1.f6.length hc] NDT) = W5 := ⟨_, rfl⟩
 have o45 : Below W4.heap.size W4 W5 := by rw [← hW5]; exact below_alloc (Below.refl _ _) _
 have hlt0 := H3.out.2.2.2.2.2.2
 have t2 : W5.heap[w.heap.size]? = some (.cells #[.int .i64 0, .int .i64 0, .string ⟨#[]⟩, .int .i64 0, .int .i64 0, .int .i64 0, .slice none 0 0] NDT (0, 0)) := (o45.block _ (by omega)).trans ((hb43.block _ hlt0).trans ((H3.out.2.2.1.block _ hlt0).trans H3.out.2.2.2.2.1))
 have t8 : W5.heap[W4.heap.size]? = some (.cells #[.int .i64 R.1.f0, .int .i64 R.1.f1, .string R.1.f2, .int .i64 0, .int .i64 (s.size : Int), .int .i64 R.1.f5, .slice hA R.1.f6.length hc] NDT (0, 0)) := by rw [← hW5]; exact blk_new W4 _
 have tb : W5.heap[W2.heap.size + 1]? = some (.cells #[.string s, .int .i64 (R.2.off : Int), .slice dA R.2.ds.length dc] 58 (0, 0)) := (o45.block _ (blk_lt b1)).trans b1
 have r5 : W5.ownsRow W2.heap.size 62 5 (.slice dA R.2.ds.length dc) R.2.ds.length (dgCells R.2.ds) := own_kept b2 (fun g hg => o45.block g (own_bound b2 g hg).2.1)
 have hdl : R.2.ds.length ≤ 1000000 := by
  have h1 := (hnk' R hR).1
  omega
 have ar5 : AR W5 W3.heap.size NDT R.1.f6 (.slice hA R.1.f6.length hc) F := AR_kept ar4 (fun g hg => o45.block g (AR_bound ar4 g hg).2.1)
 have hB5 : Below w.heap.size w W5 := hwW4.trans (o45.mono (by omega))
 have n0 : W5.cell? ⟨W4.heap.size, 0, none⟩ = some (.int .i64 R.1.f0) := (blk_cell t8 0).trans rfl
 have n1 : W5.cell? ⟨W4.heap.size, 1, none⟩ = some (.int .i64 R.1.f1) := (blk_cell t8 1).trans rfl
 have n2 : W5.cell? ⟨W4.heap.size, 2, none⟩ = some (.string R.1.f2) := (blk_cell t8 2).trans rfl
 have n3 : W5.cell? ⟨W4.heap.size, 3, none⟩ = some (.int .i64 0) := (blk_cell t8 3).trans rfl
 have n4 : W5.cell? ⟨W4.heap.size, 4, none⟩ = some (.int .i64 (s.size : Int)) := (blk_cell t8 4).trans rfl
 have n5 : W5.cell? ⟨W4.heap.size, 5, none⟩ = some (.int .i64 R.1.f5) := (blk_cell t8 5).trans rfl
 have n6 : W5.cell? ⟨W4.heap.size, 6, none⟩ = some (.slice hA R.1.f6.length hc) := (blk_cell t8 6).trans rfl
 have cb : W5.cell? ⟨W2.heap.size + 1, 2, none⟩ = some (.slice dA R.2.ds.length dc) := (blk_cell tb 2).trans rfl
 have H5 := ak (And.intro t2 (And.intro t8 (And.intro tb (And.intro r5 (And.intro ar5 (And.intro hB5 (And.intro hlt0 (And.intro s34 hs3))))))))
 clear o45 hlt0 t2 t8 tb r5 ar5 hB5 ar4 bs4 b1 b2 f4 hnk' hb43 hwW4 s34 hs3
 go_wp2_with fail
 clear hW5
 refine (sortD_calls H5.out.2.2.2.1 (by omega)).mono ?_
 rintro e W6 ⟨rfl, r6, e1, e2, e3, sz6, kp6⟩
 have hown : ∀ (g : Nat) (c : Array Value) (t : TypeId), W5.heap[g]? = some (.cells c t (0, 0)) → t ≠ 62 → g ∉ own1 (.slice dA R.2.ds.length dc) := fun g c t h1 h2 hg => by
  obtain ⟨_, _, cur, h3⟩ := own_bound H5.out.2.2.2.1 g hg
  exact Ty.ne h1 h2 ⟨_, _, h3⟩
 have t2 := (kp6 _ (blk_lt H5.out.1) (hown _ _ _ H5.out.1 (by decide))).trans H5.out.1
 have t8 := (kp6 _ (blk_lt H5.out.2.1) (hown _ _ _ H5.out.2.1 (by decide))).trans H5.out.2.1
 have tb := (kp6 _ (blk_lt H5.out.2.2.1) (hown _ _ _ H5.out.2.2.1 (by decide))).trans H5.out.2.2.1
 have ar6 : AR W6 W3.heap.size NDT R.1.f6 (.slice hA R.1.f6.length hc) F := AR_kept H5.out.2.2.2.2.1 (fun g hg => by
  obtain ⟨_, h2, cur, h3⟩ := AR_bound H5.out.2.2.2.2.1 g hg
  exact kp6 g h2 (hown g cur _ h3 (by decide)))
 have hB6 : Below w.heap.size w W6 := ⟨e1.trans H5.out.2.2.2.2.2.1.os, e2.trans H5.out.2.2.2.2.2.1.tape, e3.trans H5.out.2.2.2.2.2.1.output, Nat.le_trans H5.out.2.2.2.2.2.1.size sz6, fun g hg => (kp6 g (Nat.lt_of_lt_of_le hg H5.out.2.2.2.2.2.1.size) (fun hh => by have := (own_bound H5.out.2.2.2.1 g hh).1; have := H5.out.2.2.2.2.2.2.1; omega)).trans (H5.out.2.2.2.2.2.1.block g hg)⟩
 have H6 := ak (And.intro t2 (And.intro t8 (And.intro tb (And.intro r6 (And.intro ar6 hB6)))))
 clear n0 n1 n2 n3 n4 n5 n6 cb
 have n0 : W6.cell? ⟨W4.heap.size, 0, none⟩ = some (.int .i64 R.1.f0) := (blk_cell t8 0).trans rfl
 have n1 : W6.cell? ⟨W4.heap.size, 1, none⟩ = some (.int .i64 R.1.f1) := (blk_cell t8 1).trans rfl
 have n2 : W6.cell? ⟨W4.heap.size, 2, none⟩ = some (.string R.1.f2) := (blk_cell t8 2).trans rfl
 have n3 : W6.cell? ⟨W4.heap.size, 3, none⟩ = some (.int .i64 0) := (blk_cell t8 3).trans rfl
 have n4 : W6.cell? ⟨W4.heap.size, 4, none⟩ = some (.int .i64 (s.size : Int)) := (blk_cell t8 4).trans rfl
 have n5 : W6.cell? ⟨W4.heap.size, 5, none⟩ = some (.int .i64 R.1.f5) := (blk_cell t8 5).trans rfl
 have n6 : W6.cell? ⟨W4.heap.size, 6, none⟩ = some (.slice hA R.1.f6.length hc) := (blk_cell t8 6).trans rfl
 have cb : W6.cell? ⟨W2.heap.size + 1, 2, none⟩ = some (.slice dA R.2.ds.length dc) := (blk_cell tb 2).trans rfl
 clear t2 t8 tb r6 ar6 hB6 kp6 e1 e2 e3 sz6 hown
 go_wp2_with fail
 refine start_ (ds := []) (S := (fun w' => w'.cell? ⟨W4.heap.size, 0, none⟩ = some (.int .i64 R.1.f0) ∧ w'.cell? ⟨W4.heap.size, 1, none⟩ = some (.int .i64 R.1.f1) ∧ w'.cell? ⟨W4.heap.size, 2, none⟩ = some (.string R.1.f2) ∧ w'.cell? ⟨W4.heap.size, 3, none⟩ = some (.int .i64 0) ∧ w'.cell? ⟨W4.heap.size, 4, none⟩ = some (.int .i64 (s.size : Int)) ∧ w'.cell? ⟨W4.heap.size, 5, none⟩ = some (.int .i64 R.1.f5) ∧ w'.cell? ⟨W4.heap.size, 6, none⟩ = some (.slice hA R.1.f6.length hc) ∧ w'.cell? ⟨W2.heap.size + 1, 2, none⟩ = some (.slice dA R.2.ds.length dc))) #[false, false, false, false, false, false, false, false, false] (by kernel_rfl) rfl rfl ⟨n0, n1, n2, n3, n4, n5, n6, cb⟩ (fun hS => ?_)
 refine take_ (i := 0) (N := some 33) (v := .agg #[.int .i64 R.1.f0, .int .i64 R.1.f1, .string R.1.f2, .int .i64 0, .int .i64 (s.size : Int), .int .i64 R.1.f5, .slice hA R.1.f6.length hc]) #[true, false, false, false, false, false, false, false, false] rfl rfl (by kernel_rfl) (fun _ _ _ h => h) (Or.inl ⟨by kernel_rfl, by rintro w' ⟨z1, z2, z3, z4, z5, z6, z7, z8⟩; go_simp⟩) hS rfl ?_
 simp only [Act.put, sia, List.set]
 refine take_ (i := 1) (N := some 34) (v := .pointer (some ⟨W2.heap.size + 1, 0, none⟩)) #[true, true, false, false, false, false, false, false, false] rfl rfl (by kernel_rfl) (fun _ _ _ h => h) (Or.inl ⟨by kernel_rfl, by rintro w' ⟨z1, z2, z3, z4, z5, z6, z7, z8⟩; go_simp⟩) hS rfl ?_
 simp only [Act.put, sia, List.set]
 refine take_ (i := 2) (N := some 35) (v := .pointer (some ⟨W2.heap.size + 1, 0, none⟩)) #[true, true, true, false, false, false, false, false, false] rfl rfl (by kernel_rfl) (fun _ _ _ h => h) (Or.inl ⟨by kernel_rfl, by rintro w' ⟨z1, z2, z3, z4, z5, z6, z7, z8⟩; go_simp⟩) hS rfl ?_
 simp only [Act.put, sia, List.set]
 refine take_ (i := 3) (N := some 36) (v := .pointer (some ⟨W2.heap.size + 1, 2, none⟩)) #[true, true, true, true, false, false, false, false, false] rfl rfl (by kernel_rfl) (fun _ _ _ h => h) (Or.inl ⟨by kernel_rfl, by rintro w' ⟨z1, z2, z3, z4, z5, z6, z7, z8⟩; go_simp⟩) hS rfl ?_
 simp only [Act.put, sia, List.set]
 refine take_ (i := 4) (N := some 37) (v := .slice dA R.2.ds.length dc) #[true, true, true, true, true, false, false, false, false] rfl rfl (by kernel_rfl) (fun _ _ _ h => h) (Or.inl ⟨by kernel_rfl, by rintro w' ⟨z1, z2, z3, z4, z5, z6, z7, z8⟩; go_simp⟩) hS rfl ?_
 simp only [Act.put, sia, List.set]
 refine one_ (i := 5) (N := some 38) #[true, true, true, true, true, true, false, false, false] rfl rfl (by kernel_rfl) (by simp) (fun K hK => ?_)
 go_simp
 have hq : W6.drew.ownsRow W2.heap.size 62 5 (.slice dA R.2.ds.length dc) (sortD R.2.ds).length (dgCells (sortD R.2.ds)) := by
  rw [sortD_len]
  exact own_kept H6.out.2.2.2.1 (fun g hg => rfl)
 refine (compactD_calls hq (by rw [sortD_len]; omega)).mono ?_
 clear hq
 rintro e W7 ⟨h7, rfl, r7, eo7, e1, e2, e3, sz7, kp7⟩
 have hown : ∀ (g : Nat) (c : Array Value) (t : TypeId), W6.heap[g]? = some (.cells c t (0, 0)) → t ≠ 62 → g ∉ own1 (.slice dA R.2.ds.length dc) := fun g c t h1 h2 hg => by
  obtain ⟨_, _, cur, h3⟩ := own_bound H6.out.2.2.2.1 g hg
  exact Ty.ne h1 h2 ⟨_, _, h3⟩
 have t2 := (kp7 _ (blk_lt H6.out.1) (hown _ _ _ H6.out.1 (by decide))).trans H6.out.1
 have t8 := (kp7 _ (blk_lt H6.out.2.1) (hown _ _ _ H6.out.2.1 (by decide))).trans H6.out.2.1
 have tb := (kp7 _ (blk_lt H6.out.2.2.1) (hown _ _ _ H6.out.2.2.1 (by decide))).trans H6.out.2.2.1
 have ar7 : AR W7 W3.heap.size NDT R.1.f6 (.slice hA R.1.f6.length hc) F := AR_kept H6.out.2.2.2.2.1 (fun g hg => by
  obtain ⟨_, h2, cur, h3⟩ := AR_bound H6.out.2.2.2.2.1 g hg
  exact kp7 g h2 (hown g cur _ h3 (by decide)))
 have hB7 : Below w.heap.size w W7 := ⟨e1.trans H6.out.2.2.2.2.2.os, e2.trans H6.out.2.2.2.2.2.tape, e3.trans H6.out.2.2.2.2.2.output, Nat.le_trans H6.out.2.2.2.2.2.size sz7, fun g hg => (kp7 g (Nat.lt_of_lt_of_le hg H6.out.2.2.2.2.2.size) (fun hh => by have := (own_bound H6.out.2.2.2.1 g hh).1; have := H5.out.2.2.2.2.2.2.1; omega)).trans (H6.out.2.2.2.2.2.block g hg)⟩
 have cS : (fun w' => w'.cell? ⟨W4.heap.size, 0, none⟩ = some (.int .i64 R.1.f0) ∧ w'.cell? ⟨W4.heap.size, 1, none⟩ = some (.int .i64 R.1.f1) ∧ w'.cell? ⟨W4.heap.size, 2, none⟩ = some (.string R.1.f2) ∧ w'.cell? ⟨W4.heap.size, 3, none⟩ = some (.int .i64 0) ∧ w'.cell? ⟨W4.heap.size, 4, none⟩ = some (.int .i64 (s.size : Int)) ∧ w'.cell? ⟨W4.heap.size, 5, none⟩ = some (.int .i64 R.1.f5) ∧ w'.cell? ⟨W4.heap.size, 6, none⟩ = some (.slice hA R.1.f6.length hc) ∧ w'.cell? ⟨W2.heap.size + 1, 2, none⟩ = some (.slice dA R.2.ds.length dc)) W7 := ⟨(blk_cell t8 0).trans rfl, (blk_cell t8 1).trans rfl, (blk_cell t8 2).trans rfl, (blk_cell t8 3).trans rfl, (blk_cell t8 4).trans rfl, (blk_cell t8 5).trans rfl, (blk_cell t8 6).trans rfl, (blk_cell tb 2).trans rfl⟩
 have H7 := ak (And.intro t2 (And.intro r7 (And.intro ar7 hB7)))
 obtain ⟨h7A, h7c, rfl⟩ := Par.own_slice r7
 have hDD := ak eo7
 have y0 : W7.cell? ⟨w.heap.size, 0, none⟩ = some (.int .i64 0) := (blk_cell t2 0).trans rfl
 have z0 := blk_frozen t2 0
 have y1 : W7.cell? ⟨w.heap.size, 1, none⟩ = some (.int .i64 0) := (blk_cell t2 1).trans rfl
 have z1 := blk_frozen t2 1
 have y2 : W7.cell? ⟨w.heap.size, 2, none⟩ = some (.string ⟨#[]⟩) := (blk_cell t2 2).trans rfl
 have z2 := blk_frozen t2 2
 have y3 : W7.cell? ⟨w.heap.size, 3, none⟩ = some (.int .i64 0) := (blk_cell t2 3).trans rfl
 have z3 := blk_frozen t2 3
 have y4 : W7.cell? ⟨w.heap.size, 4, none⟩ = some (.int .i64 0) := (blk_cell t2 4).trans rfl
 have z4 := blk_frozen t2 4
 have y5 : W7.cell? ⟨w.heap.size, 5, none⟩ = some (.int .i64 0) := (blk_cell t2 5).trans rfl
 have z5 := blk_frozen t2 5
 have y6 : W7.cell? ⟨w.heap.size, 6, none⟩ = some (.slice none 0 0) := (blk_cell t2 6).trans rfl
 have z6 := blk_frozen t2 6
 clear t2 t8 tb ar7 hB7 kp7 e1 e2 e3 sz7 hown r7 eo7
 refine hK.out _ _ cS (fun hS => ?_)
 clear hK
 try simp only [Act.put, sia, List.set]
 refine one_ (i := 6) (N := none) #[true, true, true, true, true, true, true, false, false] rfl rfl (by kernel_rfl) (by simp) (fun K hK => ?_)
 go_simp
 have W8h : ∃ W8, (((((((W7.setCell ⟨w.heap.size, 0, none⟩ (.int .i64 R.1.f0)).setCell ⟨w.heap.size, 1, none⟩ (.int .i64 R.1.f1)).setCell ⟨w.heap.size, 2, none⟩ (.string R.1.f2)).setCell ⟨w.heap.size, 3, none⟩ (.int .i64 0)).setCell ⟨w.heap.size, 4, none⟩ (.int .i64 (s.size : Int))).setCell ⟨w.heap.size, 5, none⟩ (.int .i64 R.1.f5)).setCell ⟨w.heap.size, 6, none⟩ (.slice hA R.1.f6.length hc)) = W8 := ⟨_, rfl⟩
 obtain ⟨W8, hW8⟩ := W8h
 have o8 : Only w.heap.size W7 W8 := by rw [← hW8]; exact only7 W7 _ _ _ _ _ _ _ _
 have t9 : W8.heap[w.heap.size]? = some (.cells #[.int .i64 R.1.f0, .int .i64 R.1.f1, .string R.1.f2, .int .i64 0, .int .i64 (s.size : Int), .int .i64 R.1.f5, .slice hA R.1.f6.length hc] NDT (0, 0)) := by rw [← hW8]; exact set7 H7.out.1 _ _ _ _ _ _ _
 have hk8 : ∀ g i v, g < W7.heap.size → g ≠ w.heap.size → W7.cell? ⟨g, i, none⟩ = some v → W8.cell? ⟨g, i, none⟩ = some v := fun g i v h1 h2 h3 => (World.cell?_of_block (o8.kept g h1 h2)).trans h3
 have hlt7 := H5.out.2.2.2.2.2.2.1
 have hlt4 := World.block_lt_of_cell? W7 ⟨W4.heap.size, 0, none⟩ cS.1
 have hltb := World.block_lt_of_cell? W7 ⟨W2.heap.size + 1, 2, none⟩ cS.2.2.2.2.2.2.2
 have s34 := H5.out.2.2.2.2.2.2.2.1
 have hs3 := H5.out.2.2.2.2.2.2.2.2
 have cS8 : W8.cell? ⟨W4.heap.size, 0, none⟩ = some (.int .i64 R.1.f0) ∧ W8.cell? ⟨W4.heap.size, 1, none⟩ = some (.int .i64 R.1.f1) ∧ W8.cell? ⟨W4.heap.size, 2, none⟩ = some (.string R.1.f2) ∧ W8.cell? ⟨W4.heap.size, 3, none⟩ = some (.int .i64 0) ∧ W8.cell? ⟨W4.heap.size, 4, none⟩ = some (.int .i64 (s.size : Int)) ∧ W8.cell? ⟨W4.heap.size, 5, none⟩ = some (.int .i64 R.1.f5) ∧ W8.cell? ⟨W4.heap.size, 6, none⟩ = some (.slice hA R.1.f6.length hc) ∧ W8.cell? ⟨W2.heap.size + 1, 2, none⟩ = some (.slice dA R.2.ds.length dc) :=
  ⟨hk8 _ _ _ hlt4 (by omega) cS.1, hk8 _ _ _ hlt4 (by omega) cS.2.1, hk8 _ _ _ hlt4 (by omega) cS.2.2.1, hk8 _ _ _ hlt4 (by omega) cS.2.2.2.1, hk8 _ _ _ hlt4 (by omega) cS.2.2.2.2.1, hk8 _ _ _ hlt4 (by omega) cS.2.2.2.2.2.1, hk8 _ _ _ hlt4 (by omega) cS.2.2.2.2.2.2.1, hk8 _ _ _ hltb (by omega) cS.2.2.2.2.2.2.2⟩
 have ar8 : AR W8 W3.heap.size NDT R.1.f6 (.slice hA R.1.f6.length hc) F := AR_kept H7.out.2.2.1 (fun g hg => by
  have h2 := AR_bound H7.out.2.2.1 g hg
  exact o8.kept g h2.2.1 (by omega))
 have r8 : W8.ownsRow W2.heap.size 62 5 (.slice h7A (compactD (sortD R.2.ds)).length h7c) (compactD (sortD R.2.ds)).length (dgCells (compactD (sortD R.2.ds))) := own_kept H7.out.2.1 (fun g hg => by
  have h2 := own_bound H7.out.2.1 g hg
  exact o8.kept g h2.2.1 (by omega))
 have hB8 : Below w.heap.size w W8 := H7.out.2.2.2.trans (o8.belowN (Nat.le_refl _) H7.out.2.2.2.size)
 have H8 := ak (And.intro t9 (And.intro ar8 (And.intro r8 (And.intro hB8 (And.intro hlt7 (And.intro s34 hs3))))))
 rw [hW8]
 clear hW8 t9 ar8 r8 hB8 hk8 o8 hlt7 s34 hs3 hlt4 hltb y0 y1 y2 y3 y4 y5 y6 z0 z1 z2 z3 z4 z5 z6
 refine hK.out _ _ cS8 (fun hS => ?_)
 clear hK
 try simp only [Act.put, sia, List.set]
 refine take_ (i := 7) (N := some 3) (v := .slice h7A (compactD (sortD R.2.ds)).length h7c) #[true, true, true, true, true, true, true, true, false] rfl rfl (by kernel_rfl) (fun _ _ _ h => h) (Or.inl ⟨by kernel_rfl, by rintro w' ⟨z1, z2, z3, z4, z5, z6, z7, z8⟩; go_simp⟩) hS rfl ?_
 simp only [Act.put, sia, List.set]
 refine take_ (i := 8) (N := some 4) (v := .int .i64 0) #[true, true, true, true, true, true, true, true, true] rfl rfl (by kernel_rfl) (fun _ _ _ h => h) (Or.inl ⟨by kernel_rfl, by rintro w' ⟨z1, z2, z3, z4, z5, z6, z7, z8⟩; go_simp⟩) hS rfl ?_
 simp only [Act.put, sia, List.set]
 refine wpAnyLast_done (by kernel_rfl) ?_ _
 go_wp2_with fail
 have x0 : W8.cell? ⟨w.heap.size, 0, none⟩ = some (.int .i64 R.1.f0) := (blk_cell H8.out.1 0).trans rfl
 have x1 : W8.cell? ⟨w.heap.size, 1, none⟩ = some (.int .i64 R.1.f1) := (blk_cell H8.out.1 1).trans rfl
 have x2 : W8.cell? ⟨w.heap.size, 2, none⟩ = some (.string R.1.f2) := (blk_cell H8.out.1 2).trans rfl
 have x3 : W8.cell? ⟨w.heap.size, 3, none⟩ = some (.int .i64 0) := (blk_cell H8.out.1 3).trans rfl
 have x4 : W8.cell? ⟨w.heap.size, 4, none⟩ = some (.int .i64 (s.size : Int)) := (blk_cell H8.out.1 4).trans rfl
 have x5 : W8.cell? ⟨w.heap.size, 5, none⟩ = some (.int .i64 R.1.f5) := (blk_cell H8.out.1 5).trans rfl
 have x6 : W8.cell? ⟨w.heap.size, 6, none⟩ = some (.slice hA R.1.f6.length hc) := (blk_cell H8.out.1 6).trans rfl
 refine bodyPost_ret (v := .tuple #[.agg #[.int .i64 R.1.f0, .int .i64 R.1.f1, .string R.1.f2, .int .i64 0, .int .i64 (s.size : Int), .int .i64 R.1.f5, .slice hA R.1.f6.length hc], .slice h7A (compactD (sortD R.2.ds)).length h7c, .int .i64 0]) (by simp [results, Tryz.results11, go_sem, x0, x1, x2, x3, x4, x5, x6]) rfl ?_
 obtain ⟨t9, ar8, r8, hB8, hlt7, s34, hs3⟩ := H8.out
 have e : astR s.data.toList s = R := HR0.out
 have en : astN s = ⟨R.1.f0, R.1.f1, R.1.f2, 0, (s.size : Int), R.1.f5, R.1.f6⟩ := by unfold astN; rw [e]
 have ed : astD s = compactD (sortD R.2.ds) := by unfold astD; rw [e]
 rw [en, ed]
 exact ⟨_, F, _, rfl, AR_low ar8 (by omega), own_low r8 (by omega), hB8⟩
mutual
theorem AC_M {W : World} {B : Nat} : ∀ (t : Nd) (c : List Value) (F : List Nat) (ok : Nat → Prop), AC W B NDT t c F → (∀ g ∈ F, ok g) → PA.k40.M W B ok t c
 | ⟨k1, k2, k3, k4, k5, k6, ks⟩, c, F, ok, h, hk => by
  simp only [AC] at h
  obtain ⟨hd, cs, Fs, rfl, h2, rfl, h4, h5⟩ := h
  exact PA.k40_mkM W B ok ⟨k1, k2, k3, k4, k5, k6, ks⟩ ⟨fun k e => hk k (List.mem_append_left _ (by simp [own1, e])), cs, h2, AL_M ks cs Fs _ h4 (fun g hg => ⟨hk g (List.mem_append_right _ hg), h5 g hg⟩)⟩
theorem AL_M {W : World} {B : Nat} : ∀ (ts : List Nd) (cs : List Value) (F : List Nat) (ok : Nat → Prop), AL W B NDT ts cs F → (∀ g ∈ F, ok g) → Reps (PA.k40.M W B ok) 7 ts cs
 | [], cs, F, ok, h, hk => by
  simp only [AL] at h
  rw [h.1]
  exact Reps.none _ _
 | t :: ts, cs, F, ok, h, hk => by
  simp only [AL] at h
  obtain ⟨c, cs', F1, F2, rfl, rfl, h3, h4⟩ := h
  have m1 := AC_M t c F1 ok h3 (fun g hg => hk g (List.mem_append_left _ hg))
  have m2 := AL_M ts cs' F2 ok h4 (fun g hg => hk g (List.mem_append_right _ hg))
  have l1 := AC_len h3
  refine ⟨by rw [List.length_append, m2.1, l1, List.length_cons]; omega, fun j p hj => ?_⟩
  cases j with
  | zero =>
   have : t = p := by simpa using hj
   subst this
   rw [Nat.zero_mul, List.drop_zero, List.take_left' l1]
   exact m1
  | succ j =>
   rw [show (j + 1) * 7 = c.length + j * 7 by omega, List.drop_length_add_append]
   exact m2.2 j p (by simpa using hj)
end
theorem AR_R {W : World} {B : Nat} {ts : List Nd} {h : Value} {F : List Nat} (hr : AR W B NDT ts h F) : Kd.R PA.k40 40 W B (fun k => k ∈ F) h ts := by
 obtain ⟨cs, Fs, h1, rfl, h3, h4⟩ := hr
 exact ⟨fun k e => List.mem_append_left _ (by simp [own1, e]), cs, h1, AL_M ts cs Fs _ h3 (fun g hg => ⟨List.mem_append_right _ hg, h4 g hg⟩)⟩
theorem AR_C {W : World} {B : Nat} {ts : List Nd} {A : Option Addr} {n c : Nat} {F : List Nat} (hr : AR W B NDT ts (.slice A n c) F) : n = ts.length ∧ ts.length ≤ c ∧ Kd.C PA.k40 W A ts.length ts := by
 obtain ⟨A', c', e, h1, h2⟩ := Kd.R_reads (AR_R hr)
 injection e with e1 e2 e3
 rw [e1, e2, e3]
 exact ⟨rfl, h1, h2⟩
end Go.Proofs.YtkijamagbgigmaaGreatDoor.Par
namespace Go.Proofs.YtkijamagbgigmaaGreatDoor.Par
abbrev Oi := PA.S31
abbrev ON := PA.k31
abbrev OT : TypeId := 31
abbrev NK := PA.k40
abbrev Rg := PA.S37
abbrev RK := PA.k37
abbrev RT : TypeId := 37
end Go.Proofs.YtkijamagbgigmaaGreatDoor.Par
namespace Go.Proofs.YtkijamagbgigmaaGreatDoor.Par
open Go.RowKit Go.Proofs.YtkijamagbgigmaaGreatDoorW.PrintWords Go.Proofs.YtkijamagbgigmaaGreatDoorW.PrintLast
def symK (k : Int) : Int := if k = 3 then 2 else if k = 4 then 3 else if k = 5 then 4 else if k = 6 then 5 else if k = 7 then 6 else if k = 8 then 7 else if k = 9 then 8 else if k = 14 then 11 else if k = 15 then 12 else if k = 16 then 13 else 0
theorem symK_oK (k : Int) : symK k = 0 ↔ oK k = false := by
 unfold symK oK
 simp only [List.contains_cons, List.contains_nil, Bool.or_false, Bool.or_eq_false_iff, beq_eq_false_iff_ne]
 repeat' split
 all_goals first | (subst_vars; simp; done) | simp [*]
mutual
def itO : Nd → List Oi
 | ⟨k, _, t, a, b, _, ks⟩ => if symK k = 0 then itL ks else [⟨symK k, a, b, t, itL ks⟩]
def itL : List Nd → List Oi
 | [] => []
 | c :: cs => itO c ++ itL cs
end
mutual
def cntN : Nd → Nat
 | ⟨_, _, _, _, _, _, ks⟩ => 1 + cntNL ks
def cntNL : List Nd → Nat
 | [] => 0
 | c :: cs => cntN c + cntNL cs
end
theorem itO_eq (n : Nd) : itO n = if symK n.f0 = 0 then itL n.f6 else [⟨symK n.f0, n.f3, n.f4, n.f2, itL n.f6⟩] := by
 cases n
 simp only [itO]
theorem cntN_eq (n : Nd) : cntN n = 1 + cntNL n.f6 := by
 cases n
 simp only [cntN]
mutual
theorem itO_len : ∀ (n : Nd), (itO n).length ≤ cntN n
 | ⟨k, v, t, a, b, x, ks⟩ => by
  have := itL_len ks
  simp only [itO, cntN]
  split
  ·omega
  ·simp only [List.length_singleton]
   omega
theorem itL_len : ∀ (ks : List Nd), (itL ks).length ≤ cntNL ks
 | [] => Nat.le_refl _
 | c :: cs => by
  have h1 := itO_len c
  have h2 := itL_len cs
  simp only [itL, cntNL, List.length_append]
  omega
end
theorem cntNL_append (a b : List Nd) : cntNL (a ++ b) = cntNL a + cntNL b := by
 induction a with
 | nil => simp [cntNL]
 | cons c cs ih => simp only [List.cons_append, cntNL, ih]; omega
theorem itL_append (a b : List Nd) : itL (a ++ b) = itL a ++ itL b := by
 induction a with
 | nil => rfl
 | cons c cs ih => simp only [List.cons_append, itL, ih, List.append_assoc]
theorem lenN (ks : List Nd) : ks.length ≤ cntNL ks := by
 induction ks with
 | nil => exact Nat.le_refl _
 | cons c cs ih =>
  simp only [List.length_cons, cntNL, cntN_eq]
  omega
mutual
theorem nodeP_cnt (src : ByteArray) : ∀ (t : Tree) (s : BSt), cntN (nodeP src t s).1 ≤ cntT t
 | .mk k x ks, s => by
  have h := kidsP_cnt src ks ⟨k, 0, noText, s.off, -1, -1, []⟩ s
  rw [nodeP]
  generalize hm : (kidsP src ks ⟨k, 0, noText, s.off, -1, -1, []⟩ s) = M at *
  obtain ⟨m, s'⟩ := M
  simp only [cntNL] at h
  simp only [cntT]
  unfold finishP
  split
  ·split
   ·rename_i c r e6
    have e6' : m.f6 = c :: r := e6
    rw [e6'] at h
    simp only [cntNL, cntN_eq] at h
    simp only [cntN]
    omega
   ·rw [cntN_eq]
    show 1 + cntNL m.f6 ≤ _
    omega
  ·split
   ·simp only [cntN, cntNL]
    omega
   ·rw [cntN_eq]
    show 1 + cntNL m.f6 ≤ _
    omega
theorem kidsP_cnt (src : ByteArray) : ∀ (ts : List Tree) (n : Nd) (s : BSt), cntNL (kidsP src ts n s).1.f6 ≤ cntNL n.f6 + cntL ts
 | [], n, s => by rw [kidsP]; exact Nat.le_add_right _ _
 | t :: ts, n, s => by
  rw [kidsP]
  simp only [cntL]
  split
  ·have h := kidsP_cnt src ts (tokenP n t.kind t.text s).1 (tokenP n t.kind t.text s).2
   rw [(tokenP_same _ _ _ _).1] at h
   omega
  ·have h := kidsP_cnt src ts (addKid n (nodeP src t s).1) (nodeP src t s).2
   have h2 := nodeP_cnt src t s
   have e : cntNL (addKid n (nodeP src t s).1).f6 = cntNL n.f6 + cntN (nodeP src t s).1 := by
    show cntNL (n.f6 ++ [_]) = _
    rw [cntNL_append]
    rfl
   omega
end
def okL : List Oi → Int → Int → Nat → Prop
 | [], _, _, _ => True
 | ⟨_, a, b, _, ks⟩ :: xs, lo, hi, d => lo ≤ a ∧ a ≤ b ∧ b ≤ hi ∧ d ≤ 40 ∧ okL ks a b (d + 1) ∧ okL xs b hi d
theorem okL_cons {x : Oi} {xs : List Oi} {lo hi : Int} {d : Nat} : okL (x :: xs) lo hi d ↔ lo ≤ x.f1 ∧ x.f1 ≤ x.f2 ∧ x.f2 ≤ hi ∧ d ≤ 40 ∧ okL x.f4 x.f1 x.f2 (d + 1) ∧ okL xs x.f2 hi d := by
 cases x
 simp only [okL]
theorem okL_up {xs : List Oi} {lo hi lo' hi' : Int} {d : Nat} (h : okL xs lo hi d) (h1 : lo' ≤ lo) (h2 : hi ≤ hi') : okL xs lo' hi' d := by
 induction xs generalizing lo lo' with
 | nil => simp only [okL]
 | cons x xs ih =>
  rw [okL_cons] at h ⊢
  exact ⟨by omega, h.2.1, by omega, h.2.2.2.1, h.2.2.2.2.1, ih h.2.2.2.2.2 (Int.le_refl _)⟩
theorem okL_append {a b : List Oi} {lo mid hi : Int} {d : Nat} (h : okL a lo mid d) (k : okL b mid hi d) (h1 : lo ≤ mid) (h2 : mid ≤ hi) : okL (a ++ b) lo hi d := by
 induction a generalizing lo with
 | nil => exact okL_up k h1 (Int.le_refl _)
 | cons x xs ih =>
  rw [okL_cons] at h
  rw [List.cons_append, okL_cons]
  exact ⟨h.1, h.2.1, by omega, h.2.2.2.1, h.2.2.2.2.1, ih h.2.2.2.2.2 h.2.2.1⟩
mutual
theorem itO_ok : ∀ (n : Nd) (d : Nat), Inn n → hgt n + d ≤ 41 → okL (itO n) n.f3 n.f4 d
 | ⟨k, v, t, a, b, x, ks⟩, d, hn, hh => by
  simp only [Inn] at hn
  simp only [hgt] at hh
  simp only [itO]
  split
  ·exact itL_ok ks a b d hn (by omega)
  ·rename_i hk
   have ho : oK k = true := by
    cases h : oK k with
    | true => rfl
    | false => exact absurd ((symK_oK k).2 h) hk
   rw [if_pos ho] at hh
   have hle := InnL.le hn
   simp only [okL]
   exact ⟨Int.le_refl _, hle, Int.le_refl _, by omega, itL_ok ks a b (d + 1) hn (by omega), trivial⟩
theorem itL_ok : ∀ (ks : List Nd) (a b : Int) (d : Nat), InnL ks a b → hgtL ks + d ≤ 41 → okL (itL ks) a b d
 | [], a, b, d, hn, hh => by simp only [itL, okL]
 | c :: cs, a, b, d, hn, hh => by
  simp only [InnL] at hn
  simp only [hgtL] at hh
  have hc := InnL.le (Inn.iff.1 hn.2.1)
  simp only [itL]
  exact okL_append (okL_up (itO_ok c d hn.2.1 (by omega)) hn.1 (Int.le_refl _)) (itL_ok cs c.f4 b d hn.2.2 (by omega)) (by omega) (InnL.le hn.2.2)
end
def cntI : List Oi → Nat
 | [] => 0
 | ⟨_, _, _, _, ks⟩ :: xs => 1 + cntI ks + cntI xs
theorem cntI_cons (x : Oi) (xs : List Oi) : cntI (x :: xs) = 1 + cntI x.f4 + cntI xs := by
 cases x
 simp only [cntI]
theorem cntI_append (a b : List Oi) : cntI (a ++ b) = cntI a + cntI b := by
 induction a with
 | nil => simp [cntI]
 | cons y ys ih => rw [List.cons_append, cntI_cons, cntI_cons, ih]; omega
mutual
theorem itO_cnt : ∀ (n : Nd), cntI (itO n) ≤ cntN n
 | ⟨k, v, t, a, b, x, ks⟩ => by
  have := itL_cnt ks
  simp only [itO, cntN]
  split
  ·omega
  ·rw [cntI_cons]
   simp only [cntI]
   omega
theorem itL_cnt : ∀ (ks : List Nd), cntI (itL ks) ≤ cntNL ks
 | [] => by simp [itL, cntI]
 | c :: cs => by
  have h1 := itO_cnt c
  have h2 := itL_cnt cs
  simp only [itL, cntNL, cntI_append]
  omega
end
theorem lenI : ∀ xs : List Oi, xs.length ≤ cntI xs
 | [] => Nat.zero_le _
 | x :: xs => by
  have := lenI xs
  rw [cntI_cons, List.length_cons]
  omega
theorem astN_facts {s : ByteArray} (hs : s.size ≤ 2000) : cntN (astN s) ≤ 60001 ∧ InnL (astN s).f6 0 (s.size : Int) ∧ hgtL (astN s).f6 ≤ 2 ∧ (astN s).f0 = 1 := by
 have hl : s.data.toList.length ≤ 2000 := by simpa using hs
 have hk := parseKids_ok hl
 obtain ⟨rf1, rf2, rf3⟩ := root_fit hl
 have hr0 : Rng 0 (⟨1, 0, noText, 0, -1, -1, []⟩ : Nd) 0 := .inl ⟨rfl, rfl, Nat.le_refl _⟩
 have h := kidsP_nst s (parseKids s.data.toList) hk.good 0 ⟨1, 0, noText, 0, -1, -1, []⟩ ⟨0, []⟩ hr0 (.inl ⟨show (-1 : Int) < 0 by decide, rfl⟩) 2 (fun j hj => depIt j (List.all_eq_true.1 hk.items j hj)) (Nat.zero_le _)
 have h3 := kidsP_ok s (parseKids s.data.toList) hk.good 0 ⟨1, 0, noText, 0, -1, -1, []⟩ ⟨0, []⟩ hr0
 have hc := nodeP_cnt s (.mk 1 noText (parseKids s.data.toList)) ⟨0, []⟩
 have e : (astR s.data.toList s).1 = endP (kidsP s (parseKids s.data.toList) ⟨1, 0, noText, 0, -1, -1, []⟩ ⟨0, []⟩).1 := by
  have hkd : (kidsP s (parseKids s.data.toList) ⟨1, 0, noText, 0, -1, -1, []⟩ ⟨0, []⟩).1.f0 = 1 := h3.kind
  have f1 : ∀ (m : Nd) (z : BSt), m.f0 = 1 → finishP s m z = (m, z) := fun m z hm => by
   unfold finishP
   rw [if_neg (by rw [hm]; decide), if_neg (by rw [hm]; decide)]
  have := f1 (endP (kidsP s (parseKids s.data.toList) ⟨1, 0, noText, 0, -1, -1, []⟩ ⟨0, []⟩).1) (kidsP s (parseKids s.data.toList) ⟨1, 0, noText, 0, -1, -1, []⟩ ⟨0, []⟩).2 hkd
  unfold astR
  rw [nodeP]
  exact congrArg Prod.fst this
 have hkd : (kidsP s (parseKids s.data.toList) ⟨1, 0, noText, 0, -1, -1, []⟩ ⟨0, []⟩).1.f0 = 1 := h3.kind
 have e6 : (astN s).f6 = (kidsP s (parseKids s.data.toList) ⟨1, 0, noText, 0, -1, -1, []⟩ ⟨0, []⟩).1.f6 := by
  show (astR s.data.toList s).1.f6 = _
  rw [e]
  rfl
 refine ⟨?_, ?_, by rw [e6]; exact h.2, ?_⟩
 ·rw [cntN_eq]
  have hc2 : cntN (astR s.data.toList s).1 ≤ cntT (.mk 1 noText (parseKids s.data.toList)) := hc
  rw [cntN_eq] at hc2
  show 1 + cntNL (astR s.data.toList s).1.f6 ≤ _
  omega
 ·rw [e6]
  have hro := h3.off
  have hrr := h3.rng
  have hb : bytesL (parseKids s.data.toList) = s.size := by
   rw [bytesT_node _ _ _ (by decide)] at rf3
   rw [rf3]
   simp
  rw [hb] at hro
  unfold Rng at hrr
  have ho : ((kidsP s (parseKids s.data.toList) ⟨1, 0, noText, 0, -1, -1, []⟩ ⟨0, []⟩).2.off : Int) = (s.size : Int) := by rw [hro]; simp
  rcases h.1 with ⟨a, b⟩ | ⟨a, b⟩
  ·rw [b]
   simp only [InnL]
   omega
  ·exact b.up (by omega) (by omega)
 ·show (astR s.data.toList s).1.f0 = 1
  rw [e]
  exact hkd
theorem mem_cnt {ks : List Nd} {i : Nat} {x : Nd} (h : ks[i]? = some x) : cntN x ≤ cntNL ks := by
 obtain ⟨hi, rfl⟩ := List.getElem?_eq_some_iff.1 h
 have e : ks = ks.take i ++ ks[i] :: ks.drop (i + 1) := by simp
 generalize ks[i] = x at e
 rw [e, cntNL_append]
 simp only [cntNL]
 omega
theorem itL_take {ks : List Nd} {i : Nat} {x : Nd} (h : ks[i]? = some x) : itL (ks.take (i + 1)) = itL (ks.take i) ++ itO x := by
 rw [List.take_add_one, h, itL_append]
 simp [itL]
theorem cntNL_take (ks : List Nd) (i : Nat) : cntNL (ks.take i) ≤ cntNL ks := by
 conv => rhs; rw [← List.take_append_drop i ks, cntNL_append]
 omega
def foK (k : Int) : Bool := ([21, 4, 5, 6, 7, 35] : List Int).contains k
def nlB (s : ByteArray) (a b : Int) : Bool := decide (0 ≤ Lib.indexByte (s.extract a.toNat b.toNat).data.toList 10)
mutual
def foO (s : ByteArray) : Nd → List Rg
 | ⟨k, _, _, a, b, _, ks⟩ => (if foK k = true then (if nlB s a b = true then [⟨0, a, b⟩] else []) else []) ++ foL s ks
def foL (s : ByteArray) : List Nd → List Rg
 | [] => []
 | c :: cs => foO s c ++ foL s cs
end
theorem foO_eq (s : ByteArray) (n : Nd) : foO s n = (if foK n.f0 = true then (if nlB s n.f3 n.f4 = true then [⟨0, n.f3, n.f4⟩] else []) else []) ++ foL s n.f6 := by
 cases n
 simp only [foO]
theorem foL_append (s : ByteArray) (a b : List Nd) : foL s (a ++ b) = foL s a ++ foL s b := by
 induction a with
 | nil => rfl
 | cons c cs ih => simp only [List.cons_append, foL, ih, List.append_assoc]
theorem foL_take {s : ByteArray} {ks : List Nd} {i : Nat} {x : Nd} (h : ks[i]? = some x) : foL s (ks.take (i + 1)) = foL s (ks.take i) ++ foO s x := by
 rw [List.take_add_one, h, foL_append]
 simp [foL]
mutual
theorem foO_len (s : ByteArray) : ∀ (n : Nd), (foO s n).length ≤ cntN n
 | ⟨k, v, t, a, b, x, ks⟩ => by
  have := foL_len s ks
  have h1 : ((if foK k = true then (if nlB s a b = true then [⟨0, a, b⟩] else []) else []) : List Rg).length ≤ 1 := by
   repeat' split
   all_goals simp
  simp only [foO, cntN, List.length_append]
  omega
theorem foL_len (s : ByteArray) : ∀ (ks : List Nd), (foL s ks).length ≤ cntNL ks
 | [] => Nat.le_refl _
 | c :: cs => by
  have h1 := foO_len s c
  have h2 := foL_len s cs
  simp only [foL, cntNL, List.length_append]
  omega
end
theorem InnL.mem {ks : List Nd} {a b : Int} {i : Nat} {x : Nd} (h : InnL ks a b) (hi : ks[i]? = some x) : a ≤ x.f3 ∧ x.f4 ≤ b ∧ Inn x := by
 induction ks generalizing a i with
 | nil => simp at hi
 | cons c cs ih =>
  simp only [InnL] at h
  cases i with
  | zero =>
   have : c = x := by simpa using hi
   subst this
   exact ⟨h.1, InnL.le h.2.2, h.2.1⟩
  | succ i =>
   have h3 := ih h.2.2 (by simpa using hi)
   have := InnL.le (Inn.iff.1 h.2.1)
   exact ⟨by omega, h3.2⟩
theorem oi_cells {w : World} {A : Option Addr} {xs : List Oi} {i : Nat} {x : Oi} (h : Kd.C ON w A xs.length xs) (hx : xs[i]? = some x) : ∃ ad A4 c4, A = some ad ∧ w.cell? (ad.add (i * 5)) = some (.int .i64 x.f0) ∧ w.cell? ⟨(ad.add (i * 5)).block, (ad.add (i * 5)).off + 1, none⟩ = some (.int .i64 x.f1) ∧ w.cell? ⟨(ad.add (i * 5)).block, (ad.add (i * 5)).off + 2, none⟩ = some (.int .i64 x.f2) ∧ w.cell? ⟨(ad.add (i * 5)).block, (ad.add (i * 5)).off + 3, none⟩ = some (.string x.f3) ∧ w.cell? ⟨(ad.add (i * 5)).block, (ad.add (i * 5)).off + 4, none⟩ = some (.slice A4 x.f4.length c4) ∧ x.f4.length ≤ c4 ∧ Kd.C ON w A4 x.f4.length x.f4 := by
 have hlt := (List.getElem?_eq_some_iff.1 hx).1
 have hxe : PA.rd_T31 xs (i : Int) = x := by simp [PA.rd_T31, hx]
 have := PA.at_T31 h (i : Int) (by omega) (by omega)
 rw [hxe] at this
 simpa only [Int.toNat_natCast] using this
theorem cntI_drop {xs : List Oi} {i : Nat} {x : Oi} (hx : xs[i]? = some x) : xs.drop i = x :: xs.drop (i + 1) ∧ cntI x.f4 < cntI xs := by
 obtain ⟨h1, h2⟩ := List.getElem?_eq_some_iff.1 hx
 have hdr : xs.drop i = x :: xs.drop (i + 1) := by rw [← h2]; exact List.drop_eq_getElem_cons h1
 refine ⟨hdr, ?_⟩
 conv => rhs; rw [← List.take_append_drop i xs, cntI_append, hdr, cntI_cons]
 omega
theorem properRec_calls : ∀ (m : Nat) (xs : List Oi), cntI xs < m → cntI xs ≤ 1000000 → ∀ (lo hi : Int) (d : Nat), okL xs lo hi d → ∀ (A : Option Addr) (c : Nat) (w : World), Kd.C ON w A xs.length xs → xs.length ≤ c →
  Calls Tryz.prog 7 #[.slice A xs.length c, .int .i64 lo, .int .i64 hi, .int .i64 (d : Int)] w fun e w' => e = .returned (.bool true) ∧ Below w.heap.size w w' := by
 intro m
 induction m with
 | zero => exact fun xs h => absurd h (Nat.not_lt_zero _)
 | succ m ih =>
  intro xs hm hk lo hi d hok A c w hC hc
  have hn := lenI xs
  have hlk : xs.length ≤ 1000000 := by omega
  have IH := ak ih
  have HC := ak (And.intro hC (And.intro hm hk))
  have HO := ak hok
  clear ih hC hk hm hn hok
  go_enter Tryz.func7, Tryz.ntmps7
  go_wp2_with fail
  go_loopw [1, 9] (fun v z wr => ∃ (i : Nat) (l : Int), v = .int .i64 l ∧ z = .int .i64 (i : Int) ∧ i ≤ xs.length ∧ Aside0 (okL (xs.drop i) l hi d ∧ Below w.heap.size w wr)) (fun _ z _ => xs.length - (intOf z).toNat)
  case atStart => exact ⟨0, lo, rfl, rfl, Nat.zero_le _, ⟨by rw [List.drop_zero]; exact HO.out, Below.refl _ _⟩⟩
  case round =>
   obtain ⟨i, l, rfl, rfl, hile, HR⟩ := hrel
   by_cases hlt : i < xs.length
   ·have i0 : (0 : Int) ≤ (i : Int) := by omega
    have i1 : (i : Int) < (xs.length : Int) := by omega
    have wi : IntKind.i64.wrap ((i : Int) + 1) = (i : Int) + 1 := by rw [IntKind.wrap_i64]; omega
    obtain ⟨x, hx⟩ : ∃ x, xs[i]? = some x := ⟨_, List.getElem?_eq_getElem hlt⟩
    obtain ⟨ad, A4, c4, rfl, x0, x1, x2, x3, x4, hl4, h4⟩ := oi_cells (Kd.C_below HC.out.1 HR.out.2) hx
    obtain ⟨hdr, hlc⟩ := cntI_drop hx
    have hok := HR.out.1
    rw [hdr, okL_cons] at hok
    obtain ⟨o1, o2, o3, o4, o5, o6⟩ := hok
    have g1 : decide (x.f1 < l) = false := decide_eq_false (by omega)
    have g2 : decide (x.f2 < x.f1) = false := decide_eq_false (by omega)
    have g3 : decide (x.f2 > hi) = false := decide_eq_false (by omega)
    have g4 : decide ((d : Int) > 40) = false := decide_eq_false (by omega)
    have g1' : ¬ x.f1 < l := by omega
    have g2' : ¬ x.f2 < x.f1 := by omega
    have g3' : ¬ hi < x.f2 := by omega
    have g4' : ¬ (40 : Int) < (d : Int) := by omega
    have wd : IntKind.i64.wrap ((d : Int) + 1) = ((d + 1 : Nat) : Int) := by rw [IntKind.wrap_i64]; omega
    have H4 := ak (And.intro hl4 (And.intro h4 (And.intro o5 (And.intro o6 hlc))))
    clear hl4 h4 o1 o2 o3 o4 o5 o6 hlc hdr hx
    go_wp2_with fail
    refine (IH.out x.f4 (by have := H4.out.2.2.2.2; have := HC.out.2; omega) (by have := H4.out.2.2.2.2; have := HC.out.2; omega) x.f1 x.f2 (d + 1) H4.out.2.2.1 A4 c4 _ (Kd.C_below H4.out.2.1 (below_alloc (Below.refl _ _) _)) H4.out.1).mono ?_
    rintro e w2 ⟨rfl, hb2⟩
    have hb1 := fun o => (below_alloc (Below.refl wr.heap.size wr) o)
    have y2 := (hb2.cell (World.block_lt_of_cell? _ ⟨wr.heap.size, 2, none⟩ ((blk_cell (blk_new wr _) 2).trans rfl))).trans ((blk_cell (blk_new wr _) 2).trans rfl)
    have H2 := ak ((hb1 _).trans (hb2.mono (hb1 _).size))
    clear hb1 hb2
    go_wp2_with fail
    refine ⟨⟨i + 1, x.f2, rfl, ?_, by omega, ⟨H4.out.2.2.2.1, HR.out.2.trans (H2.out.mono HR.out.2.size)⟩⟩, ?_⟩
    ·first | rfl | simp [wi]
    ·simp only [intOf]
     omega
   ·have i1 : ¬ (i : Int) < (xs.length : Int) := by omega
    go_wp2_with fail
    go_ret
    exact ⟨rfl, HR.out.2⟩
theorem symbolKind_calls (k : Int) (w : World) : Calls Tryz.prog 24 #[.int .i64 k] w fun e w' => e = .returned (.int .i64 (symK k)) ∧ w' = w := by
 go_enter Tryz.func24, Tryz.ntmps24
 go_wp2
 all_goals (go_ret; refine ⟨?_, rfl⟩; simp_all [symK])
theorem isFoldable_calls (k : Int) (w : World) : Calls Tryz.prog 25 #[.int .i64 k] w fun e w' => e = .returned (.bool (foK k)) ∧ w' = w := by
 go_enter Tryz.func25, Tryz.ntmps25
 go_wp2
 all_goals (go_ret; refine ⟨?_, rfl⟩; simp_all [foK])
theorem nd_at {w : World} {A : Option Addr} {ks : List Nd} {i : Nat} {x : Nd} (h : Kd.C NK w A ks.length ks) (hx : ks[i]? = some x) : ∃ ad A6 c6, A = some ad ∧ w.cell? (ad.add (i * 7)) = some (.int .i64 x.f0) ∧ w.cell? ⟨(ad.add (i * 7)).block, (ad.add (i * 7)).off + 1, none⟩ = some (.int .i64 x.f1) ∧ w.cell? ⟨(ad.add (i * 7)).block, (ad.add (i * 7)).off + 2, none⟩ = some (.string x.f2) ∧ w.cell? ⟨(ad.add (i * 7)).block, (ad.add (i * 7)).off + 3, none⟩ = some (.int .i64 x.f3) ∧ w.cell? ⟨(ad.add (i * 7)).block, (ad.add (i * 7)).off + 4, none⟩ = some (.int .i64 x.f4) ∧ w.cell? ⟨(ad.add (i * 7)).block, (ad.add (i * 7)).off + 5, none⟩ = some (.int .i64 x.f5) ∧ w.cell? ⟨(ad.add (i * 7)).block, (ad.add (i * 7)).off + 6, none⟩ = some (.slice A6 x.f6.length c6) ∧ x.f6.length ≤ c6 ∧ Kd.C NK w A6 x.f6.length x.f6 := by
 have hlt := (List.getElem?_eq_some_iff.1 hx).1
 have hxe : PA.rd_T40 ks (i : Int) = x := by simp [PA.rd_T40, hx]
 have := PA.at_T40 h (i : Int) (by omega) (by omega)
 rw [hxe] at this
 simpa only [Int.toNat_natCast] using this
theorem items_calls : ∀ (m : Nat) (n : Nd), cntN n < m → cntN n ≤ 1000000 → ∀ (A : Option Addr) (c : Nat) (w : World), Kd.C NK w A n.f6.length n.f6 → n.f6.length ≤ c →
  Calls Tryz.prog 12 #[.agg #[.int .i64 n.f0, .int .i64 n.f1, .string n.f2, .int .i64 n.f3, .int .i64 n.f4, .int .i64 n.f5, .slice A n.f6.length c]] w fun e w' => ∃ v, e = .returned v ∧ Kd.N ON OT w' w.heap.size (fun g => w.heap.size ≤ g) v (itO n) ∧ Below w.heap.size w w' := by
 intro m
 induction m with
 | zero => exact fun n h => absurd h (Nat.not_lt_zero _)
 | succ m ih =>
  intro n hm hk A c w hC hc
  have hn := lenN n.f6
  have hcn := cntN_eq n
  have IH := ak ih
  have HC := ak (And.intro hC (And.intro hm hk))
  obtain ⟨ks, hks⟩ : ∃ ks, Hid (n.f6 = ks) := ⟨_, rfl⟩
  have hks' : n.f6 = ks := hks
  rw [hks'] at HC hn hcn hc ⊢
  have hlk : ks.length ≤ 1000000 := by omega
  have HE := ak (And.intro hks' hcn)
  clear ih hC hk hm hks hks' hcn hn
  go_enter Tryz.func12, Tryz.ntmps12
  obtain ⟨w0, hw0⟩ : ∃ w0, w.alloc (.cells #[.int .i64 n.f0, .int .i64 n.f1, .string n.f2, .int .i64 n.f3, .int .i64 n.f4, .int .i64 n.f5, .slice A ks.length c] 40) = w0 := ⟨_, rfl⟩
  have hb0 : Below w.heap.size w w0 := by rw [← hw0]; exact below_alloc (Below.refl _ _) _
  have bk : w0.heap[w.heap.size]? = some (.cells #[.int .i64 n.f0, .int .i64 n.f1, .string n.f2, .int .i64 n.f3, .int .i64 n.f4, .int .i64 n.f5, .slice A ks.length c] 40 (0, 0)) := by rw [← hw0]; exact blk_new w _
  have y6 : w0.cell? ⟨w.heap.size, 6, none⟩ = some (.slice A ks.length c) := (blk_cell bk 6).trans rfl
  have H0 := ak (And.intro hb0 bk)
  clear hb0 bk
  go_wp2_with fail
  clear hw0 y6
  go_loopw [3, 10] (fun v z wr => ∃ i : Nat, z = .int .i64 (i : Int) ∧ i ≤ ks.length ∧ Aside0 (Kd.N ON OT wr w0.heap.size (fun g => w0.heap.size ≤ g) v (itL (ks.take i)) ∧ Below w0.heap.size w0 wr)) (fun _ z _ => ks.length - (intOf z).toNat)
  case atStart => exact ⟨0, rfl, Nat.zero_le _, ⟨Kd.N_nil _ _ _ _ _, Below.refl _ _⟩⟩
  case round =>
   obtain ⟨i, rfl, hi, HR⟩ := hrel
   have hu := HR.out.2.size
   by_cases hlt : i < ks.length
   ·have i0 : (0 : Int) ≤ (i : Int) := by omega
    have i1 : (i : Int) < (ks.length : Int) := by omega
    have wi : IntKind.i64.wrap ((i : Int) + 1) = (i : Int) + 1 := by rw [IntKind.wrap_i64]; omega
    obtain ⟨x, hx⟩ : ∃ x, ks[i]? = some x := ⟨_, List.getElem?_eq_getElem hlt⟩
    have hb := H0.out.1.trans (HR.out.2.mono H0.out.1.size)
    obtain ⟨ad, A6, c6, rfl, x0, x1, x2, x3, x4, x5, x6, hl6, h6⟩ := nd_at (Kd.C_below HC.out.1 hb) hx
    have H6 := ak (And.intro hl6 h6)
    have HX := ak (And.intro hx (mem_cnt hx))
    clear hl6 h6 hx hb
    go_wp2_with fail
    refine (IH.out x (by have := HX.out.2; have := HE.out.2; have := HC.out.2; omega) (by have := HX.out.2; have := HE.out.2; have := HC.out.2; omega) A6 c6 _ (Kd.C_below H6.out.2 (below_alloc (Below.refl _ _) _)) H6.out.1).mono ?_
    rintro e w2 ⟨v2, rfl, n2, hb2⟩
    obtain ⟨A2, c2, rfl⟩ := Kd.N_slice n2
    have hb1 := fun o => (below_alloc (Below.refl wr.heap.size wr) o)
    have H2 := ak (And.intro (Kd.N_mono (ok' := fun g => wr.heap.size ≤ g) (Kd.N_lower n2 (hb1 _).size) (fun g hg => Nat.le_trans (hb1 _).size hg)) ((hb1 _).trans (hb2.mono (hb1 _).size)))
    clear n2 hb2 hb1
    have hk2 := Nat.le_trans hu H2.out.2.size
    go_wp2_with ((with_reducible refine gate_builtin (b := .append) (xs := #[.tmp 14, .tmp 16]) rfl ?_); at_builtin; refine Kd.N_append_rows ON (w0 := w0) w0.heap.size rfl (.tmp 14) (.tmp 16) 23 OT (.agg #[.int .i64 0, .int .i64 0, .int .i64 0, .string ⟨#[]⟩, .slice none 0 0]) 64 rfl Tryz.underlying23 PA.info31 rfl (by decide) (by decide) u3 (itL (ks.take i)) (itO x) A2 (itO x).length c2 (fun g => w0.heap.size ≤ g) (fun g => wr.heap.size ≤ g) rfl rfl (Kd.N_below HR.out.1 H2.out.2) (Kd.N_F H2.out.1) (fun g hg => ⟨Nat.le_trans hu hg, fun e => absurd (Kd.N_lt HR.out.1 g e.symm) (Nat.not_lt.2 hg)⟩) (fun g hg => Nat.le_trans hk2 hg) (HR.out.2.trans (H2.out.2.mono hu)) hk2 (by have := itO_len x; have := itL_len (ks.take i); have := cntNL_take ks i; have := HX.out.2; have := HE.out.2; have := HC.out.2; omega) ?_; intro v3 w3 n3 hb3 hg3 ha3; have H3 := ak (And.intro n3 hb3); clear n3 hb3 hg3 ha3)
    refine ⟨⟨i + 1, ?_, by omega, ?_⟩, ?_⟩
    ·first | rfl | simp [wi]
    ·rw [itL_take HX.out.1]
     exact ⟨H3.out.1, H3.out.2⟩
    ·simp only [intOf]
     omega
   ·have i1 : ¬ (i : Int) < (ks.length : Int) := by omega
    have e : ks.take i = ks := List.take_of_length_le (by omega)
    have bk := (HR.out.2.block _ (blk_lt H0.out.2)).trans H0.out.2
    have y0 : wr.cell? ⟨w.heap.size, 0, none⟩ = some (.int .i64 n.f0) := (blk_cell bk 0).trans rfl
    have y2 : wr.cell? ⟨w.heap.size, 2, none⟩ = some (.string n.f2) := (blk_cell bk 2).trans rfl
    have y3 : wr.cell? ⟨w.heap.size, 3, none⟩ = some (.int .i64 n.f3) := (blk_cell bk 3).trans rfl
    have y4 : wr.cell? ⟨w.heap.size, 4, none⟩ = some (.int .i64 n.f4) := (blk_cell bk 4).trans rfl
    have hR := HR.out
    rw [e] at hR
    clear bk HR
    have hIt := itO_eq n
    rw [HE.out.1] at hIt
    have HI := ak hIt
    obtain ⟨A3, c3, rfl⟩ := Kd.N_slice hR.1
    have HR := ak hR
    clear hR e hIt
    go_wp2_with fail
    refine (symbolKind_calls n.f0 _).mono ?_
    rintro e w2 ⟨rfl, rfl⟩
    obtain ⟨q, hq⟩ : ∃ q, Hid (symK n.f0 = q) := ⟨_, rfl⟩
    have hq' : symK n.f0 = q := hq
    rw [hq'] at HI ⊢
    clear hq hq'
    have hf := fun g (hg : w0.heap.size ≤ g) => Nat.le_trans H0.out.1.size hg
    by_cases h0 : q = 0
    ·have d0 : (q == 0) = true := beq_iff_eq.mpr h0
     go_wp2_with fail
     go_ret
     rw [HI.out, if_pos h0]
     exact ⟨_, rfl, Kd.N_mono (Kd.N_lower HR.out.1 H0.out.1.size) hf, H0.out.1.trans (HR.out.2.mono H0.out.1.size)⟩
    ·have d0 : (q == 0) = false := beq_eq_false_iff_ne.mpr h0
     go_wp2_with ((with_reducible refine gate_dst (N := 34) rfl ?_); refine Kd.N_lit ON (w0 := w2) w2.heap.size OT rfl (N' := 34) rfl (xs := [(⟨q, n.f3, n.f4, n.f2, itL ks⟩ : Oi)]) (inner := [.int .i64 q, .int .i64 n.f3, .int .i64 n.f4, .string n.f2, .slice A3 (itL ks).length c3]) (ok := fun g => w0.heap.size ≤ g) (okp := fun g => w0.heap.size ≤ g) (by go_simp; done) (Reps.c5 (PA.k31_mkF _ _ (⟨q, n.f3, n.f4, n.f2, itL ks⟩ : Oi) (Kd.N_reads' HR.out.1).2.1 (Kd.N_F HR.out.1)) (Reps.none _ _)) (fun _ h => h) hu (Below.refl _ _) (Nat.le_refl _) (by simp) ?_; intro v4 w4 n4 hb4 hg4 ha4; have H4 := ak (And.intro n4 hb4); clear n4 hb4 hg4 ha4)
     go_ret
     rw [HI.out, if_neg h0]
     have hb := H0.out.1.trans (HR.out.2.mono H0.out.1.size)
     exact ⟨_, rfl, Kd.N_mono (Kd.N_lower H4.out.1 hb.size) hf, hb.trans (H4.out.2.mono hb.size)⟩
theorem foldable_calls (s : ByteArray) : ∀ (m : Nat) (n : Nd), cntN n < m → cntN n ≤ 1000000 → 0 ≤ n.f3 → n.f4 ≤ (s.size : Int) → Inn n → ∀ (A : Option Addr) (c : Nat) (w : World), Kd.C NK w A n.f6.length n.f6 → n.f6.length ≤ c →
  Calls Tryz.prog 13 #[.string s, .agg #[.int .i64 n.f0, .int .i64 n.f1, .string n.f2, .int .i64 n.f3, .int .i64 n.f4, .int .i64 n.f5, .slice A n.f6.length c]] w fun e w' => ∃ v, e = .returned v ∧ Kd.N RK RT w' w.heap.size (fun g => w.heap.size ≤ g) v (foO s n) ∧ Below w.heap.size w w' := by
 intro m
 induction m with
 | zero => exact fun n h => absurd h (Nat.not_lt_zero _)
 | succ m ih =>
  intro n hm hk p0 p1 hin A c w hC hc
  have hn := lenN n.f6
  have hcn := cntN_eq n
  have IH := ak ih
  have HN := ak (Inn.iff.1 hin)
  have p2 := InnL.le HN.out
  have HC := ak (And.intro hC (And.intro hm hk))
  obtain ⟨ks, hks⟩ : ∃ ks, Hid (n.f6 = ks) := ⟨_, rfl⟩
  have hks' : n.f6 = ks := hks
  have hFo := foO_eq s n
  rw [hks'] at HC HN hn hcn hc hFo ⊢
  have hlk : ks.length ≤ 1000000 := by omega
  have HE := ak (And.intro hFo (And.intro hcn (And.intro p0 p1)))
  clear ih hC hk hm hks hks' hcn hn hFo hin
  go_enter Tryz.func13, Tryz.ntmps13
  obtain ⟨w0, hw0⟩ : ∃ w0, w.alloc (.cells #[.int .i64 n.f0, .int .i64 n.f1, .string n.f2, .int .i64 n.f3, .int .i64 n.f4, .int .i64 n.f5, .slice A ks.length c] 40) = w0 := ⟨_, rfl⟩
  have hb0 : Below w.heap.size w w0 := by rw [← hw0]; exact below_alloc (Below.refl _ _) _
  have bk : w0.heap[w.heap.size]? = some (.cells #[.int .i64 n.f0, .int .i64 n.f1, .string n.f2, .int .i64 n.f3, .int .i64 n.f4, .int .i64 n.f5, .slice A ks.length c] 40 (0, 0)) := by rw [← hw0]; exact blk_new w _
  have y0 : w0.cell? ⟨w.heap.size, 0, none⟩ = some (.int .i64 n.f0) := (blk_cell bk 0).trans rfl
  have y3 : w0.cell? ⟨w.heap.size, 3, none⟩ = some (.int .i64 n.f3) := (blk_cell bk 3).trans rfl
  have y4 : w0.cell? ⟨w.heap.size, 4, none⟩ = some (.int .i64 n.f4) := (blk_cell bk 4).trans rfl
  have H0 := ak (And.intro hb0 bk)
  clear hb0 bk
  obtain ⟨bq, hbq⟩ : ∃ bq, Hid ((foK n.f0 && nlB s n.f3 n.f4) = bq) := ⟨_, rfl⟩
  have HB := ak (show (foK n.f0 && nlB s n.f3 n.f4) = bq from hbq)
  clear hbq
  go_upto_region 2 with fail
  go_cut [19] (fun t wx => t = .bool bq ∧ w0 = wx)
  case first =>
   have q0 : (0 : Int) ≤ n.f3 := HE.out.2.2.1
   have q1 : n.f4 ≤ (s.size : Int) := HE.out.2.2.2
   go_wp2_with fail
   refine (isFoldable_calls n.f0 _).mono ?_
   rintro e w2 ⟨rfl, rfl⟩
   cases hk : foK n.f0 with
   | false =>
    go_wp2_with fail
    go_meet
    case rel => exact ⟨by rw [← HB.out, hk]; rfl, rfl⟩
   | true =>
    go_wp2_with fail
    refine (Tryz.strings_Contains_one (s.extract n.f3.toNat n.f4.toNat) 10 _).mono ?_
    rintro e w3 ⟨rfl, rfl⟩
    have hq := HB.out
    rw [hk, Bool.true_and] at hq
    unfold nlB at hq
    rw [hq]
    clear hq
    cases bq
    ·go_wp2_with fail
     go_meet
     case rel => exact ⟨rfl, rfl⟩
    ·go_wp2_with fail
     go_meet
     case rel => exact ⟨rfl, rfl⟩
  case rest =>
   obtain ⟨rfl, rfl⟩ := hcut
   have hpre : (if bq = true then [⟨0, n.f3, n.f4⟩] else [] : List Rg) ++ foL s ks = foO s n := by
    rw [HE.out.1, ← HB.out]
    cases foK n.f0 <;> simp
   obtain ⟨pre, hpr⟩ : ∃ pre, Hid ((if bq = true then [⟨0, n.f3, n.f4⟩] else [] : List Rg) = pre) := ⟨_, rfl⟩
   have hpr' : (if bq = true then [⟨0, n.f3, n.f4⟩] else [] : List Rg) = pre := hpr
   have hpl : pre.length ≤ 1 := by rw [← hpr']; cases bq <;> simp
   rw [hpr'] at hpre
   have HP := ak (And.intro hpr' hpre)
   clear hpr hpr' hpre
   go_upto_if 19 with fail
   go_cut [5] (fun v wx => Aside0 (Kd.N RK RT wx w0.heap.size (fun g => w0.heap.size ≤ g) v pre ∧ Below w0.heap.size w0 wx))
   case first =>
    cases bq
    ·go_wp2_with fail
     go_meet
     case rel => exact ⟨HP.out.1 ▸ Kd.N_nil _ _ _ _ _, Below.refl _ _⟩
    ·go_wp2_with ((with_reducible refine gate_builtin (b := .append) (xs := #[.tmp 20, .tmp 26]) rfl ?_); at_builtin; refine Kd.N_append RK (w0 := w0) w0.heap.size rfl (.tmp 20) (.tmp 26) 33 RT (.agg #[.int .i64 0, .int .i64 0, .int .i64 0]) 24 rfl Tryz.underlying33 PA.info37 rfl (by decide) (by decide) (.slice none 0 0) [] (⟨0, n.f3, n.f4⟩ : Rg) [.int .i64 0, .int .i64 n.f3, .int .i64 n.f4] (fun g => w0.heap.size ≤ g) (fun _ => False) rfl (by go_simp; done) (PA.k37_mkF _ _ (⟨0, n.f3, n.f4⟩ : Rg)) (fun _ hk => hk.elim) (fun g hg => hg) (Kd.N_nil _ _ _ _ _) (Below.refl _ _) (Nat.le_refl _) (by decide) ?_; intro v1 w1 n1 hb1 hg1 ha1; have H1 := ak (And.intro n1 hb1); clear n1 hb1 hg1 ha1)
     go_meet
     case rel => exact ⟨HP.out.1 ▸ H1.out.1, H1.out.2⟩
   case rest =>
    have H1 := hcut
    clear hcut
    have bk := (H1.out.2.block _ (blk_lt H0.out.2)).trans H0.out.2
    have y6 : wc.cell? ⟨w.heap.size, 6, none⟩ = some (.slice A ks.length c) := (blk_cell bk 6).trans rfl
    clear bk
    go_wp2_with fail
    go_loopw [5, 31] (fun v z wr => ∃ i : Nat, z = .int .i64 (i : Int) ∧ i ≤ ks.length ∧ Aside0 (Kd.N RK RT wr w0.heap.size (fun g => w0.heap.size ≤ g) v (pre ++ foL s (ks.take i)) ∧ Below w0.heap.size w0 wr)) (fun _ z _ => ks.length - (intOf z).toNat)
    case atStart => exact ⟨0, rfl, Nat.zero_le _, ⟨by rw [List.take_zero]; simp only [foL, List.append_nil]; exact H1.out⟩⟩
    case round =>
     obtain ⟨i, rfl, hi, HR⟩ := hrel
     have hu := HR.out.2.size
     by_cases hlt : i < ks.length
     ·have i0 : (0 : Int) ≤ (i : Int) := by omega
      have i1 : (i : Int) < (ks.length : Int) := by omega
      have wi : IntKind.i64.wrap ((i : Int) + 1) = (i : Int) + 1 := by rw [IntKind.wrap_i64]; omega
      obtain ⟨x, hx⟩ : ∃ x, ks[i]? = some x := ⟨_, List.getElem?_eq_getElem hlt⟩
      have hb := H0.out.1.trans (HR.out.2.mono H0.out.1.size)
      obtain ⟨ad, A6, c6, rfl, x0, x1, x2, x3, x4, x5, x6, hl6, h6⟩ := nd_at (Kd.C_below HC.out.1 hb) hx
      have H6 := ak (And.intro hl6 h6)
      have HX := ak (And.intro hx (And.intro (mem_cnt hx) (InnL.mem HN.out hx)))
      clear hl6 h6 hx hb
      go_wp2_with fail
      refine (IH.out x (by have := HX.out.2.1; have := HE.out.2.1; have := HC.out.2; omega) (by have := HX.out.2.1; have := HE.out.2.1; have := HC.out.2; omega) (by have := HX.out.2.2; have := HE.out.2.2; omega) (by have := HX.out.2.2; have := HE.out.2.2; omega) HX.out.2.2.2.2 A6 c6 _ (Kd.C_below H6.out.2 (below_alloc (Below.refl _ _) _)) H6.out.1).mono ?_
      rintro e w2 ⟨v2, rfl, n2, hb2⟩
      obtain ⟨A2, c2, rfl⟩ := Kd.N_slice n2
      have hb1 := fun o => (below_alloc (Below.refl wr.heap.size wr) o)
      have H2 := ak (And.intro (Kd.N_mono (ok' := fun g => wr.heap.size ≤ g) (Kd.N_lower n2 (hb1 _).size) (fun g hg => Nat.le_trans (hb1 _).size hg)) ((hb1 _).trans (hb2.mono (hb1 _).size)))
      clear n2 hb2 hb1
      have hk2 := Nat.le_trans hu H2.out.2.size
      go_wp2_with ((with_reducible refine gate_builtin (b := .append) (xs := #[.tmp 35, .tmp 38]) rfl ?_); at_builtin; refine Kd.N_append_rows RK (w0 := w0) w0.heap.size rfl (.tmp 35) (.tmp 38) 33 RT (.agg #[.int .i64 0, .int .i64 0, .int .i64 0]) 24 rfl Tryz.underlying33 PA.info37 rfl (by decide) (by decide) u5 (pre ++ foL s (ks.take i)) (foO s x) A2 (foO s x).length c2 (fun g => w0.heap.size ≤ g) (fun g => wr.heap.size ≤ g) rfl rfl (Kd.N_below HR.out.1 H2.out.2) (Kd.N_F H2.out.1) (fun g hg => ⟨Nat.le_trans hu hg, fun e => absurd (Kd.N_lt HR.out.1 g e.symm) (Nat.not_lt.2 hg)⟩) (fun g hg => Nat.le_trans hk2 hg) (HR.out.2.trans (H2.out.2.mono hu)) hk2 (by have := foO_len s x; have := foL_len s (ks.take i); have := cntNL_take ks i; have := HX.out.2.1; have := HE.out.2.1; have := HC.out.2; rw [List.length_append]; omega) ?_; intro v3 w3 n3 hb3 hg3 ha3; have H3 := ak (And.intro n3 hb3); clear n3 hb3 hg3 ha3)
      refine ⟨⟨i + 1, ?_, by omega, ?_⟩, ?_⟩
      ·first | rfl | simp [wi]
      ·rw [foL_take HX.out.1, ← List.append_assoc]
       exact ⟨H3.out.1, H3.out.2⟩
      ·simp only [intOf]
       omega
     ·have i1 : ¬ (i : Int) < (ks.length : Int) := by omega
      have e : ks.take i = ks := List.take_of_length_le (by omega)
      have hR := HR.out
      rw [e, HP.out.2] at hR
      clear HR e
      have HR := ak hR
      clear hR
      go_wp2_with fail
      go_ret
      exact ⟨_, rfl, Kd.N_mono (Kd.N_lower HR.out.1 H0.out.1.size) (fun g hg => Nat.le_trans H0.out.1.size hg), H0.out.1.trans (HR.out.2.mono H0.out.1.size)⟩
theorem symbols_calls {s : ByteArray} (hs : s.size ≤ 2000) (w : World) (hS : Spc w) (hG : Glb w.heap.size w) :
  Calls Tryz.prog 6 #[.string s] w fun e w' => ∃ v, e = .returned (.tuple #[v, .int .i64 0]) ∧ Kd.N PA.k31 31 w' w.heap.size (fun g => w.heap.size ≤ g) v (itO (astN s)) ∧ Below w.heap.size w w' := by
 have HS := ak (And.intro hS hG)
 clear hS hG
 go_enter Tryz.func6, Tryz.ntmps6
 go_wp2_with fail
 refine (ast_calls hs _ HS.out.1 HS.out.2).mono ?_
 rintro e W2 ⟨hd, F, dv, rfl, ar, dg, hb⟩
 obtain ⟨A, c, rfl⟩ : ∃ A c, hd = .slice A (astN s).f6.length c := by
  obtain ⟨_, _, ho, _, _⟩ := ar
  exact Par.own_slice ho
 obtain ⟨_, hc, kc⟩ := AR_C ar
 have K2 := ak (And.intro kc hb)
 clear ar dg kc hb
 go_wp2_with fail
 refine (items_calls 100000 (astN s) (by have := (astN_facts hs).1; omega) (by have := (astN_facts hs).1; omega) A c _ (Kd.C_below K2.out.1 (below_alloc (Below.refl _ _) _)) hc).mono ?_
 rintro e W3 ⟨v, rfl, n3, hb3⟩
 have K3 := ak (And.intro n3 hb3)
 clear n3 hb3
 go_wp2_with fail
 refine bodyPost_ret (v := .tuple #[v, .int .i64 0]) (by simp [results, Tryz.results6, go_sem]) rfl ?_
 have hb := K2.out.2
 have h1 := fun o => hb.trans ((below_alloc (Below.refl W2.heap.size W2) o).mono hb.size)
 exact ⟨v, rfl, Kd.N_mono (Kd.N_lower K3.out.1 (h1 _).size) (fun g hg => Nat.le_trans (h1 _).size hg), (h1 _).trans (K3.out.2.mono (h1 _).size)⟩
theorem symbolsBig_calls {s : ByteArray} (hs : 2000 < s.size) (w : World) :
  Calls Tryz.prog 6 #[.string s] w fun e w' => e = .returned (.tuple #[.slice none 0 0, .int .i64 2]) ∧ Below w.heap.size w w' := by
 go_enter Tryz.func6, Tryz.ntmps6
 go_wp2_with fail
 refine (astBig_calls hs _).mono ?_
 rintro e W2 ⟨rfl, hb⟩
 have K2 := ak hb
 clear hb
 go_wp2_with fail
 refine bodyPost_ret (v := .tuple #[.slice none 0 0, .int .i64 2]) (by simp [results, Tryz.results6, go_sem]) rfl ?_
 exact ⟨rfl, (fun o => K2.out.trans ((below_alloc (Below.refl W2.heap.size W2) o).mono K2.out.size)) _⟩
theorem ins1_calls (A : Addr) (c : Nat) (v : Value) (w : World) : Calls Tryz.prog 40 #[.slice (some A) 1 c, .int .i64 0, .int .i64 1, v] w fun e w' => e = .returned (.tuple #[]) ∧ Below w.heap.size w w' := by
 go_enter Tryz.func40, Tryz.ntmps40
 go_wp2_with fail
 go_loopw [8] (fun z wr => z = .int .i64 1 ∧ wr = w) (fun _ _ => 0)
 case atStart => exact ⟨rfl, rfl⟩
 case round =>
  obtain ⟨rfl, rfl⟩ := hrel
  go_wp2_with fail
  go_end0
  exact ⟨rfl, Below.refl _ _⟩
theorem pdq1_calls (A : Addr) (c : Nat) (n : Int) (v : Value) (w : World) : Calls Tryz.prog 27 #[.slice (some A) 1 c, .int .i64 0, .int .i64 1, .int .i64 n, v] w fun e w' => e = .returned (.tuple #[]) ∧ Below w.heap.size w w' := by
 go_enter Tryz.func27, Tryz.ntmps27
 go_wp2_with fail
 go_loopw [1, 2] (fun z y wr => z = .int .i64 0 ∧ y = .int .i64 1 ∧ wr = w) (fun _ _ _ => 0)
 case atStart => exact ⟨rfl, rfl, rfl⟩
 case round =>
  obtain ⟨rfl, rfl, rfl⟩ := hrel
  go_wp2_with fail
  refine (ins1_calls A c v _).mono ?_
  rintro e w' ⟨rfl, hb⟩
  have HB := ak hb
  clear hb
  go_wp2_with fail
  refine bodyPost_ret (results_none rfl _ _ _) rfl ?_
  exact ⟨rfl, HB.out⟩
theorem sort1_calls (A : Addr) (c : Nat) (v : Value) (w : World) : Calls Tryz.prog 14 #[.slice (some A) 1 c, v] w fun e w' => e = .returned (.tuple #[]) ∧ Below w.heap.size w w' := by
 go_enter Tryz.func14, Tryz.ntmps14
 go_wp2_with fail
 refine (Tryz.bits_Len 1 _ (by decide) (by decide)).mono ?_
 rintro e w' ⟨rfl, rfl⟩
 go_wp2_with fail
 refine (pdq1_calls A c _ v _).mono ?_
 rintro e w' ⟨rfl, hb⟩
 have HB := ak hb
 clear hb
 go_wp2_with fail
 go_end0
 exact ⟨rfl, HB.out⟩
theorem compact1_calls (A : Addr) (c : Nat) (w : World) : Calls Tryz.prog 18 #[.slice (some A) 1 c] w fun e w' => e = .returned (.slice (some A) 1 c) ∧ Below w.heap.size w w' := by
 go_enter Tryz.func18, Tryz.ntmps18
 go_wp2_with fail
 go_ret
 exact ⟨rfl, Below.refl _ _⟩
theorem folding_calls {s : ByteArray} (hs : s.size ≤ 2000) (w : World) (hS : Spc w) (hG : Glb w.heap.size w) (r : Rg) (h : foO s (astN s) = [r]) :
  Calls Tryz.prog 10 #[.string s] w fun e w' => ∃ v, e = .returned (.tuple #[v, .int .i64 0]) ∧ Kd.N RK RT w' w.heap.size (fun g => w.heap.size ≤ g) v [r] ∧ Below w.heap.size w w' := by
 have HS := ak (And.intro hS (And.intro hG h))
 clear hS hG h
 go_enter Tryz.func10, Tryz.ntmps10
 go_wp2_with fail
 refine (ast_calls hs _ HS.out.1 HS.out.2.1).mono ?_
 rintro e W2 ⟨hd, F, dv, rfl, ar, dg, hb⟩
 obtain ⟨A, c, rfl⟩ : ∃ A c, hd = .slice A (astN s).f6.length c := by
  obtain ⟨_, _, ho, _, _⟩ := ar
  exact Par.own_slice ho
 obtain ⟨_, hc, kc⟩ := AR_C ar
 have K2 := ak (And.intro kc hb)
 clear ar dg kc hb
 go_wp2_with fail
 refine (foldable_calls s 100000 (astN s) (by have := (astN_facts hs).1; omega) (by have := (astN_facts hs).1; omega) (Int.le_refl _) (Int.le_refl _) (Inn.iff.2 (astN_facts hs).2.1) A c _ (Kd.C_below K2.out.1 (below_alloc (Below.refl _ _) _)) hc).mono ?_
 rintro e W3 ⟨v, rfl, n3, hb3⟩
 rw [HS.out.2.2] at n3
 obtain ⟨g1, cap1, rfl, _⟩ := Kd.N_form n3 (by simp)
 have K3 := ak (And.intro n3 hb3)
 clear n3 hb3
 go_wp2_with fail
 refine (sort1_calls _ _ _ _).mono ?_
 rintro e W4 ⟨rfl, hb4⟩
 go_wp2_with fail
 refine (compact1_calls _ _ _).mono ?_
 rintro e W5 ⟨rfl, hb5⟩
 have K5 := ak (hb4.trans (hb5.mono hb4.size))
 clear hb4 hb5
 go_wp2_with fail
 refine bodyPost_ret (v := .tuple #[.slice (some ⟨g1, 0, none⟩) 1 cap1, .int .i64 0]) (by simp [results, Tryz.results10, go_sem]) rfl ?_
 have hb := K2.out.2
 have h1 := fun o => hb.trans ((below_alloc (Below.refl W2.heap.size W2) o).mono hb.size)
 exact ⟨_, rfl, Kd.N_below (Kd.N_mono (Kd.N_lower K3.out.1 (h1 _).size) (fun g hg => Nat.le_trans (h1 _).size hg)) K5.out, ((h1 _).trans (K3.out.2.mono (h1 _).size)).trans (K5.out.mono (Nat.le_trans (h1 _).size K3.out.2.size))⟩
mutual
def flatO : Oi → List Oi
 | ⟨a, b, c, d, ks⟩ => ⟨a, b, c, d, []⟩ :: flatL ks
def flatL : List Oi → List Oi
 | [] => []
 | x :: xs => flatO x ++ flatL xs
end
theorem flatL_append (a b : List Oi) : flatL (a ++ b) = flatL a ++ flatL b := by
 induction a with
 | nil => rfl
 | cons x xs ih => simp only [List.cons_append, flatL, ih, List.append_assoc]
theorem flatO_eq (x : Oi) : flatO x = ⟨x.f0, x.f1, x.f2, x.f3, []⟩ :: flatL x.f4 := by
 cases x
 simp only [flatO]
theorem flatL_mem {xs : List Oi} {i : Nat} {x : Oi} (h : xs[i]? = some x) : (flatL x.f4).length < (flatL xs).length := by
 obtain ⟨hi, rfl⟩ := List.getElem?_eq_some_iff.1 h
 have e : xs = xs.take i ++ xs[i] :: xs.drop (i + 1) := by simp
 generalize xs[i] = x at e
 rw [e, flatL_append]
 simp only [flatL, flatO_eq, List.length_append, List.length_cons]
 omega
theorem flatL_ge : ∀ (xs : List Oi), xs.length ≤ (flatL xs).length
 | [] => Nat.le_refl _
 | x :: xs => by
  have := flatL_ge xs
  simp only [flatL, flatO_eq, List.length_append, List.length_cons]
  omega
theorem flatL_take {xs : List Oi} {i : Nat} {x : Oi} (h : xs[i]? = some x) : flatL (xs.take (i + 1)) = flatL (xs.take i) ++ flatO x := by
 rw [List.take_add_one, h, flatL_append]
 simp [flatL]
theorem flatL_take_le (xs : List Oi) (i : Nat) : (flatL (xs.take i)).length ≤ (flatL xs).length := by
 conv => rhs; rw [← List.take_append_drop i xs, flatL_append]
 simp
theorem flat_calls : ∀ (m : Nat) (xs : List Oi), (flatL xs).length < m → (flatL xs).length ≤ 1000000 → ∀ (A : Option Addr) (c : Nat) (w : World), Kd.C ON w A xs.length xs → xs.length ≤ c →
  Calls Tryz.prog 9 #[.slice A xs.length c] w fun e w' => ∃ v, e = .returned v ∧ Kd.N ON OT w' w.heap.size (fun g => w.heap.size ≤ g) v (flatL xs) ∧ Below w.heap.size w w' := by
 intro m
 induction m with
 | zero => exact fun xs h => absurd h (Nat.not_lt_zero _)
 | succ m ih =>
  intro xs hm hk A c w hC hc
  have hn : xs.length ≤ 1000000 := Nat.le_trans (flatL_ge xs) hk
  have IH := ak ih
  have HC := ak hC
  have HK := ak hk
  have HM := ak hm
  clear ih hC hk hm
  go_enter Tryz.func9, Tryz.ntmps9
  go_wp2_with fail
  go_loopw [3, 9] (fun v z wr => ∃ i : Nat, z = .int .i64 (i : Int) ∧ i ≤ xs.length ∧ Aside0 (Kd.N ON OT wr w.heap.size (fun g => w.heap.size ≤ g) v (flatL (xs.take i)) ∧ Below w.heap.size w wr)) (fun _ z _ => xs.length - (intOf z).toNat)
  case atStart => exact ⟨0, rfl, Nat.zero_le _, ⟨Kd.N_nil _ _ _ _ _, Below.refl _ _⟩⟩
  case round =>
   obtain ⟨i, rfl, hi, HR⟩ := hrel
   by_cases hlt : i < xs.length
   ·have i0 : (0 : Int) ≤ (i : Int) := by omega
    have i1 : (i : Int) < (xs.length : Int) := by omega
    have wi : IntKind.i64.wrap ((i : Int) + 1) = (i : Int) + 1 := by rw [IntKind.wrap_i64]; omega
    obtain ⟨ad, A4, c4, rfl, x0, x1, x2, x3, x4, hl4, h4⟩ := PA.at_T31 HC.out (i : Int) i0 i1
    obtain ⟨x, hx, hxe⟩ : ∃ x, xs[i]? = some x ∧ PA.rd_T31 xs (i : Int) = x := ⟨xs[i], List.getElem?_eq_getElem hlt, by simp [PA.rd_T31, hlt]⟩
    rw [hxe] at x0 x1 x2 x3 x4 hl4 h4
    simp only [Int.toNat_natCast] at x0 x1 x2 x3 x4
    have hb := HR.out.2
    replace x0 := (hb.cell (World.block_lt_of_cell? w _ x0)).trans x0
    replace x1 := (hb.cell (World.block_lt_of_cell? w _ x1)).trans x1
    replace x2 := (hb.cell (World.block_lt_of_cell? w _ x2)).trans x2
    replace x3 := (hb.cell (World.block_lt_of_cell? w _ x3)).trans x3
    replace x4 := (hb.cell (World.block_lt_of_cell? w _ x4)).trans x4
    have H4 := ak (And.intro hl4 h4)
    have HX := ak hx
    clear hl4 h4 hx hxe hb
    have hu := HR.out.2.size
    go_wp2_with ((with_reducible refine gate_builtin (b := .append) (xs := #[.tmp 16, .tmp 18]) rfl ?_); at_builtin; refine Kd.N_append ON (w0 := w) w.heap.size rfl (.tmp 16) (.tmp 18) 23 OT (.agg #[.int .i64 0, .int .i64 0, .int .i64 0, .string ⟨#[]⟩, .slice none 0 0]) 64 rfl Tryz.underlying23 PA.info31 rfl (by decide) (by decide) u3 (flatL (xs.take i)) (⟨x.f0, x.f1, x.f2, x.f3, []⟩ : Oi) [.int .i64 x.f0, .int .i64 x.f1, .int .i64 x.f2, .string x.f3, .slice none 0 0] (fun g => w.heap.size ≤ g) (fun _ => False) rfl (by go_simp; done) (PA.k31_mkF _ _ (⟨x.f0, x.f1, x.f2, x.f3, []⟩ : Oi) (Nat.le_refl _) (Kd.F_nil _ _ _)) (fun _ hk => hk.elim) (fun g hg => Nat.le_trans hu (Nat.le_trans (Nat.le_of_lt (by simp [World.size_alloc])) hg)) (Kd.N_alloc HR.out.1 _) (HR.out.2.trans ((below_alloc (Below.refl _ _) _).mono hu)) (by simp only [World.size_alloc]; omega) (by have := flatL_take_le xs i; have := HK.out; omega) ?_; intro v1 w1 n1 hb1 hg1 ha1; have H1 := ak (And.intro n1 hb1); clear n1 hb1 hg1 ha1)
    have hlm := flatL_mem HX.out
    refine (IH.out x.f4 (by have := HM.out; omega) (by have := HK.out; omega) A4 c4 w1 (Kd.C_below H4.out.2 H1.out.2) H4.out.1).mono ?_
    rintro e w2 ⟨v2, rfl, n2, hb2⟩
    obtain ⟨A2, c2, rfl⟩ := Kd.N_slice n2
    have H2 := ak (And.intro n2 hb2)
    clear n2 hb2
    have htl := flatL_take HX.out
    rw [flatO_eq] at htl
    have HT := ak htl
    clear htl
    go_wp2_with ((with_reducible refine gate_builtin (b := .append) (xs := #[.tmp 19, .tmp 21]) rfl ?_); at_builtin; refine Kd.N_append_rows ON (w0 := w) w.heap.size rfl (.tmp 19) (.tmp 21) 23 OT (.agg #[.int .i64 0, .int .i64 0, .int .i64 0, .string ⟨#[]⟩, .slice none 0 0]) 64 rfl Tryz.underlying23 PA.info31 rfl (by decide) (by decide) v1 (flatL (xs.take i) ++ [(⟨x.f0, x.f1, x.f2, x.f3, []⟩ : Oi)]) (flatL x.f4) A2 (flatL x.f4).length c2 (fun g => w.heap.size ≤ g) (fun g => w1.heap.size ≤ g) rfl rfl (Kd.N_below H1.out.1 H2.out.2) (Kd.N_F H2.out.1) (fun g hg => ⟨Nat.le_trans H1.out.2.size hg, fun e => absurd (Kd.N_lt H1.out.1 g e.symm) (Nat.not_lt.2 hg)⟩) (fun g hg => Nat.le_trans H1.out.2.size (Nat.le_trans H2.out.2.size hg)) (H1.out.2.trans (H2.out.2.mono H1.out.2.size)) (Nat.le_trans H1.out.2.size H2.out.2.size) (by have := flatL_take_le xs i; have := HK.out; simp only [List.length_append, List.length_singleton]; omega) ?_; intro v3 w3 n3 hb3 hg3 ha3; have H3 := ak (And.intro n3 hb3); clear n3 hb3 hg3 ha3)
    refine ⟨⟨i + 1, ?_, by omega, ?_⟩, ?_⟩
    ·first | rfl | simp [wi]
    ·rw [HT.out]
     refine ⟨?_, H3.out.2⟩
     have h := H3.out.1
     rw [List.append_assoc] at h
     exact h
    ·simp only [intOf]
     omega
   ·have i1 : ¬ (i : Int) < (xs.length : Int) := by omega
    go_wp2_with fail
    go_ret
    have e : xs.take i = xs := List.take_of_length_le (by omega)
    have h := HR.out
    rw [e] at h
    exact ⟨_, rfl, h.1, h.2⟩
def ex1 : ByteArray := ⟨#[115, 116, 114, 117, 99, 116, 32, 83, 32, 123, 32, 97, 58, 32, 105, 110, 116, 32, 125, 10, 101, 110, 117, 109, 32, 69, 32, 123, 32, 65, 44, 32, 66, 40, 105, 110, 116, 41, 32, 125]⟩
def ex2 : ByteArray := ⟨#[102, 110, 32, 102, 40, 41, 32, 123, 10, 125, 10, 102, 110, 32, 103, 40, 41, 32, 123, 32, 125]⟩
def exR : List Oi := [⟨3, 0, 19, (⟨#[83]⟩ : ByteArray), [⟨11, 11, 17, (⟨#[97]⟩ : ByteArray), []⟩]⟩, ⟨4, 20, 40, (⟨#[69]⟩ : ByteArray), [⟨12, 29, 30, (⟨#[65]⟩ : ByteArray), []⟩, ⟨12, 32, 38, (⟨#[66]⟩ : ByteArray), []⟩]⟩]
theorem ex1_items : itO (astN ex1) = exR := by kernel_rfl
theorem ex2_fold : foO ex2 (astN ex2) = [⟨0, 7, 10⟩] := by kernel_rfl
theorem oi_at {W : World} {A : Option Addr} {xs : List Oi} {j : Nat} {x : Oi} (h : Kd.C ON W A xs.length xs) (hj : xs[j]? = some x) : ∃ ad A4 c4, A = some ad ∧ W.cell? (ad.add (j * 5)) = some (.int .i64 x.f0) ∧ W.cell? ⟨(ad.add (j * 5)).block, (ad.add (j * 5)).off + 3, none⟩ = some (.string x.f3) ∧ W.cell? ⟨(ad.add (j * 5)).block, (ad.add (j * 5)).off + 4, none⟩ = some (.slice A4 x.f4.length c4) ∧ Kd.C ON W A4 x.f4.length x.f4 := by
 have hlt := (List.getElem?_eq_some_iff.1 hj).1
 obtain ⟨ad, A4, c4, e, x0, x1, x2, x3, x4, hl4, h4⟩ := PA.at_T31 h (j : Int) (by omega) (by omega)
 have hxe : PA.rd_T31 xs (j : Int) = x := by simp [PA.rd_T31, hj]
 rw [hxe] at x0 x3 x4 h4
 simp only [Int.toNat_natCast] at x0 x3 x4
 exact ⟨ad, A4, c4, e, x0, x3, x4, h4⟩
theorem outlineEx_calls (w : World) (hS : Spc w) (hG : Glb w.heap.size w) : Calls Tryz.prog 5 #[] w fun e w' => e = .returned (.bool true) ∧ Below w.heap.size w w' := by
 have HS := ak (And.intro hS hG)
 clear hS hG
 go_enter Tryz.func5, Tryz.ntmps5
 go_wp2_with fail
 refine (symbols_calls (s := ex1) (by decide) _ HS.out.1 HS.out.2).mono ?_
 rintro e W1 ⟨v1, rfl, n1, hb1⟩
 rw [ex1_items] at n1
 obtain ⟨A1, c1, rfl, hc1, k1⟩ := Kd.N_reads n1
 have hS1 := HS.out.1.below hb1
 have hG1 := (HS.out.2.keep (fun g h1 h2 => hb1.block g h1)).up hb1.size
 have H1 := ak (And.intro hS1 (And.intro hG1 (And.intro k1 (And.intro hc1 hb1))))
 clear hS1 hG1 n1 k1 hc1 hb1
 go_wp2_with fail
 refine (folding_calls (s := ex2) (by decide) _ H1.out.1 H1.out.2.1 ⟨0, 7, 10⟩ ex2_fold).mono ?_
 rintro e W2 ⟨v2, rfl, n2, hb2⟩
 obtain ⟨A2, c2, rfl, hc2, k2⟩ := Kd.N_reads n2
 have k1 : Kd.C ON W2 A1 exR.length exR := Kd.C_below H1.out.2.2.1 hb2
 obtain ⟨ad, A10, c10, rfl, a0, a3, a4, k10⟩ := oi_at (j := 0) k1 rfl
 obtain ⟨ad', A11, c11, e, b0, b3, b4, k11⟩ := oi_at (j := 1) k1 rfl
 cases e
 obtain ⟨ad10, _, _, rfl, _, d3, _, _⟩ := oi_at (j := 0) k10 rfl
 obtain ⟨ad11, _, _, rfl, e0, _, _, _⟩ := oi_at (j := 1) k11 rfl
 obtain ⟨ad2, rfl, r0, r1, r2⟩ := PA.at_T37 k2 0 (by decide) (by decide)
 have H2 := ak (And.intro k1 (And.intro k2 hb2))
 have z0 : ∀ a : Addr, a.add 0 = a := fun a => rfl
 simp only [Nat.zero_mul, Nat.one_mul, z0, Int.toNat_zero] at a0 a3 a4 b0 b3 b4 d3 e0 r0 r1 r2
 replace b4 : W2.cell? ⟨ad.block, ad.off + 5 + 4, none⟩ = _ := b4
 replace e0 : W2.cell? ⟨ad11.block, ad11.off + 5, none⟩ = _ := e0
 clear b0 b3
 clear n2 k1 k2 hb2 k10 k11
 have HF := flat_calls 10 exR (by decide) (by decide)
 go_wp2_with fail
 refine (HF _ _ _ H2.out.1 H1.out.2.2.2.1).mono ?_
 rintro e W3 ⟨v3, rfl, n3, hb3⟩
 obtain ⟨A3, c3, rfl⟩ := Kd.N_slice n3
 replace r0 := (hb3.cell (World.block_lt_of_cell? W2 _ r0)).trans r0
 replace r1 := (hb3.cell (World.block_lt_of_cell? W2 _ r1)).trans r1
 replace r2 := (hb3.cell (World.block_lt_of_cell? W2 _ r2)).trans r2
 have H3 := ak hb3
 have e5 : (flatL exR).length = 5 := rfl
 rw [e5]
 clear n3 hb3 a0 a3 a4 b4 d3 e0 e5
 go_wp2_with fail
 go_ret
 have h12 := H1.out.2.2.2.2.trans (H2.out.2.2.mono H1.out.2.2.2.2.size)
 exact ⟨rfl, h12.trans (H3.out.mono h12.size)⟩
structure Gw (w : World) : Prop where
 spc : Spc w
 glb : Glb w.heap.size w
theorem Gw.below {w w' : World} (h : Gw w) (hb : Below w.heap.size w w') : Gw w' := ⟨h.spc.below hb, (h.glb.keep (fun g h1 h2 => hb.block g h1)).up hb.size⟩
theorem itO_root {s : ByteArray} (hs : s.size ≤ 2000) : itO (astN s) = itL (astN s).f6 := by
 rw [itO_eq, (astN_facts hs).2.2.2, if_pos (by decide)]
theorem itL_nested {s : ByteArray} (hs : s.size ≤ 2000) : okL (itL (astN s).f6) 0 (s.size : Int) 0 ∧ cntI (itL (astN s).f6) ≤ 60001 := by
 obtain ⟨h1, h2, h3, h4⟩ := astN_facts hs
 have hc := itL_cnt (astN s).f6
 rw [cntN_eq] at h1
 exact ⟨itL_ok (astN s).f6 0 (s.size : Int) 0 h2 (by omega), by omega⟩
theorem proper_calls (s : ByteArray) (w : World) (hG : Gw w) : Calls Tryz.prog 3 #[.string s] w fun e w' => e = .returned (.bool true) ∧ Below w.heap.size w w' := by
 have H0 := ak hG
 clear hG
 by_cases hs : s.size ≤ 2000
 ·go_enter Tryz.func3, Tryz.ntmps3
  go_wp2_with fail
  refine (outlineEx_calls _ H0.out.spc H0.out.glb).mono ?_
  rintro e W1 ⟨rfl, hb1⟩
  have H1 := ak (And.intro (H0.out.below hb1) hb1)
  clear hb1
  go_wp2_with fail
  refine (symbols_calls hs _ H1.out.1.spc H1.out.1.glb).mono ?_
  rintro e W2 ⟨v2, rfl, n2, hb2⟩
  rw [itO_root hs] at n2
  obtain ⟨A2, c2, rfl, hc2, k2⟩ := Kd.N_reads n2
  have H2 := ak (And.intro (H1.out.1.below hb2) (And.intro k2 (H1.out.2.trans (hb2.mono H1.out.2.size))))
  clear n2 k2 hb2
  go_wp2_with fail
  refine (outlineEx_calls _ H2.out.1.spc H2.out.1.glb).mono ?_
  rintro e W3 ⟨rfl, hb3⟩
  have H3 := ak (And.intro (Kd.C_below H2.out.2.1 hb3) (H2.out.2.2.trans (hb3.mono H2.out.2.2.size)))
  clear hb3
  go_wp2_with fail
  refine (properRec_calls 100000 (itL (astN s).f6) (by have := (itL_nested hs).2; omega) (by have := (itL_nested hs).2; omega) 0 (s.size : Int) 0 (itL_nested hs).1 A2 c2 _ H3.out.1 hc2).mono ?_
  rintro e W4 ⟨rfl, hb4⟩
  have H4 := ak (H3.out.2.trans (hb4.mono H3.out.2.size))
  clear hb4
  go_wp2_with fail
  go_ret
  exact ⟨rfl, H4.out⟩
 ·go_enter Tryz.func3, Tryz.ntmps3
  go_wp2_with fail
  refine (outlineEx_calls _ H0.out.spc H0.out.glb).mono ?_
  rintro e W1 ⟨rfl, hb1⟩
  have H1 := ak (And.intro (H0.out.below hb1) hb1)
  clear hb1
  go_wp2_with fail
  refine (symbolsBig_calls (by omega) _).mono ?_
  rintro e W2 ⟨rfl, hb2⟩
  have H2 := ak (And.intro (H1.out.1.below hb2) (H1.out.2.trans (hb2.mono H1.out.2.size)))
  clear hb2
  go_wp2_with fail
  refine (outlineEx_calls _ H2.out.1.spc H2.out.1.glb).mono ?_
  rintro e W3 ⟨rfl, hb3⟩
  have H3 := ak (H2.out.2.trans (hb3.mono H2.out.2.size))
  clear hb3
  go_wp2_with fail
  go_ret
  exact ⟨rfl, H3.out⟩
theorem OutlineProperlyNested_row (a0 : ByteArray) (h0 : a0.size ≤ 140737488351232) (W : World) (hG : Gw W) : Calls Tryz.prog 3 #[.string a0] W fun e w' => e = .returned (.bool true) ∧ Below W.heap.size W w' := proper_calls a0 W hG
end Go.Proofs.YtkijamagbgigmaaGreatDoor.Par
namespace Go.Proofs.YtkijamagbgigmaaGreatDoor.outlineProperlyNested
open Go.ChangeShapes Go.WideShapes Go.ChangeAt Go.RowKit Go.Proofs.YtkijamagbgigmaaGreatDoorW.PrintWords Go.Proofs.YtkijamagbgigmaaGreatDoor.PA
open Go.ChangeMaps (open_string shut_string)
theorem own : ownKnob Tryz.prog.godebug = none := by kernel_rfl
def laidL : List (String × DataW Unit) := [("math/bits.deBruijn32tab", Rows.laid_math_bits_deBruijn32tab), ("math/bits.deBruijn64tab", Rows.laid_math_bits_deBruijn64tab), ("internal/strconv.uint64pow10", Rows.laid_internal_strconv_uint64pow10), ("strconv.ErrRange", Rows.laid_strconv_ErrRange), ("strconv.ErrSyntax", Rows.laid_strconv_ErrSyntax), ("unicode.White_Space", Rows.laid_unicode_White_Space), ("strings.asciiSpace", Rows.laid_strings_asciiSpace)]
theorem door_met (os : Os) (args : Array Value) : laidMetH Tryz.prog laidL ((World.doorLaid Tryz.prog 86 os).forCall (fun _ _ => 0) ⟨#[], args, []⟩).memory :=
 laidMetH_of_parts3 (fuel := 8) (laidMet_of_run' 8 (by kernel_rfl) (by kernel_rfl)) (by kernel_rfl) (by kernel_rfl)
theorem star : "*" ++ "errors.errorString" = "*errors.errorString" := by decide
theorem rowErr (u : TypeId) (h : Tryz.prog.typeName? 3 u = some "*errors.errorString") : u = 198 :=
 typeName_ptr_named (nm := "errors.errorString") (by rw [star]; kernel_rfl) (by kernel_rfl) (by decide) u (by rw [star]; exact h)
theorem gw_of_laid {W : World} (h : laidMetH Tryz.prog laidL W) : Par.Gw W := by
 rw [MakeChecks.laidMetH_plain _ _ _ (by kernel_rfl)] at h
 have hL : laidMet Tryz.prog laidL W := h
 clear h
 obtain ⟨a0, s0, hv0, _⟩ := laid_sentinel (g := 4) (ti := 133) (tp := 198) (te := 200) (ts := 9) (hL.tail.tail.tail) (by kernel_rfl) (by kernel_rfl) Tryz.underlying133 rowErr Tryz.underlying198 Tryz.underlying200 rfl rfl Tryz.underlying9 (by kernel_rfl) (by kernel_rfl)
 obtain ⟨a1, s1, hv1, _⟩ := laid_sentinel (g := 3) (ti := 133) (tp := 198) (te := 200) (ts := 9) (hL.tail.tail.tail.tail) (by kernel_rfl) (by kernel_rfl) Tryz.underlying133 rowErr Tryz.underlying198 Tryz.underlying200 rfl rfl Tryz.underlying9 (by kernel_rfl) (by kernel_rfl)
 have c0 := World.var?_cell (show Tryz.prog.globalNamed "strconv.ErrRange" = some 4 by kernel_rfl) hv0 0
 have c1 := World.var?_cell (show Tryz.prog.globalNamed "strconv.ErrSyntax" = some 3 by kernel_rfl) hv1 0
 replace c0 : W.cell? ⟨4, 0, none⟩ = some (.iface 198 (.pointer (some a0))) := by simpa using c0
 replace c1 : W.cell? ⟨3, 0, none⟩ = some (.iface 198 (.pointer (some a1))) := by simpa using c1
 exact ⟨Lib.tabIs_of_head (g := 1) (t := 146) (e := 5) (by kernel_rfl) (by kernel_rfl) Tryz.underlying146 Tryz.underlying5 (by kernel_rfl) (by kernel_rfl) (hL.tail.tail.tail.tail.tail.tail), ⟨⟨_, _, c0⟩, ⟨_, _, c1⟩, World.block_lt_of_cell? W _ c0, World.block_lt_of_cell? W _ c1⟩⟩
theorem lifted (os : Os) (started : os.Started) (H : Type) (enc : TypeId × Value → H) :
  ReturnsInHanded {} Tryz.checked os 3 .any (fun w args => (Rows.outlineProperlyNestedSpec.pre enc Tryz.prog Tryz.f3 [] false w args ∧ laidMetH Tryz.prog laidL w) ∧ sizedMet enc Tryz.prog Tryz.f3 (OpenSpec.ofChange Rows.outlineProperlyNestedSpec) false w args) (Rows.outlineProperlyNestedSpec.post enc Tryz.prog Tryz.f3 false true false false) := by
 refine returnsInHanded_of_change_and (C := Tryz.checked) (X := fun w _ => laidMetH Tryz.prog laidL w) (fun _ _ _ hh h => h.of_heap hh) own started (by kernel_rfl) Tryz.func3
  (ChangeSpec.witness_shaped (enc := enc) (C := Tryz.checked) (os := os) (X := fun w _ => laidMetH Tryz.prog laidL w) false (World.doorLaid Tryz.prog 86 os) #[.string ByteArray.empty] 8 rfl (World.shaped_of_RefB (by kernel_rfl) (by kernel_rfl)) (by kernel_rfl) (by kernel_rfl) (by kernel_rfl) (door_met os _)) ?_
 intro W base args ds gs before hval0 hW hcnd hsz0 hL _
 have hsz : (DataW.weightsEach Tryz.prog (Tryz.f3.params.toList ++ Rows.outlineProperlyNestedSpec.plain.varTypes Tryz.prog) (ds ++ gs)).all (· ≤ reachBytes) = true := hsz0
 have hval : ∀ (j : Nat) t v, Tryz.f3.params[j]? = some t → args[j]? = some v → Value.okWide Tryz.prog W .any base t v := hval0
 have hW' := hW
 obtain ⟨p, q, hA0, hV, rfl, hfz, hnd⟩ := hW
 have hA : DataW.TrodAll enc Tryz.prog W 0 (fun _ => true) true Tryz.f3.params.toList args.toList ds p := hA0
 rw [Tryz.params3] at hA hval hsz
 obtain ⟨v0, vs0, d0, ds0, p0, q0, hargs, rfl, rfl, h0, r0⟩ := trodAll_cons hA
 obtain ⟨rfl, rfl, rfl⟩ := trodAll_nil r0
 obtain rfl : args = #[v0] := by cases args; simp_all
 obtain ⟨rfl, rfl⟩ := trodVars_none hV
 obtain ⟨a0, rfl, rfl, rfl, y0⟩ := open_string Tryz.underlying9 (hval 0 9 v0 rfl rfl) h0
 have w0 : a0.size ≤ 140737488351232 := by
  have z := sized_string hsz (j := 0) (t := 9) rfl rfl
  rw [Array.length_toList] at z
  exact z
 clear hA0 hval0 hsz0 hsz
 refine (Par.OutlineProperlyNested_row a0 w0 W (gw_of_laid hL)).mono fun e W' ⟨he, bel⟩ => ?_
 subst he
 exact ⟨_, rfl, _, _, _, [], _, [], hW', trodAll_mk1 (shut_bool Tryz.underlying4 _), (trodAll_cons_mk (shut_string Tryz.underlying9 y0) trodAll_mk0), rfl, bel.frame _, fun h => by cases h⟩
theorem over : Rows.outlineProperlyNestedRow.holds Tryz.pinned (OpenSpec.ofChange Rows.outlineProperlyNestedSpec) :=
 OpenClaim.holds_of_wide 3 Tryz.f3 rfl rfl rfl rfl rfl rfl rfl ⟨rfl, rfl, rfl, rfl, rfl⟩ rfl rfl rfl rfl rfl (by kernel_rfl) Tryz.func3 (by kernel_rfl)
  (odt (by kernel_rfl)) (by unfold Func.isWrapper; first | (rw [if_pos (by decide +kernel)]; kernel_rfl) | (rw [if_neg (by decide +kernel)]; exact ⟨rfl, rfl⟩))
  (fun os started H enc _ => lifted os started H enc)
theorem card : Rows.OutlineProperlyNestedCardSaid :=
 Claim7.holds_tied_plain_at .later [] [.data, .data, .data, .sentinel, .sentinel, .listed, .data] true (true, "3e34607de9675f013b15bd46084d2aa6e41db3946a22301fef41171adac32467") true
  over (fun _ h => by cases h) (by kernel_rfl) (fun _ h => by cases h) outlineProperlyNested_row_tie rfl ⟨rfl, rfl⟩ (by kernel_rfl) rfl
  (fun f fn hf hfn => by
   obtain rfl : f = 3 := Option.some.inj ((show Tryz.prog.funcNamed "glossator/glossatorkeep4.OutlineProperlyNested" = some 3 by kernel_rfl).symm.trans hf) |>.symm
   obtain rfl : fn = Tryz.f3 := (Option.some.inj (Tryz.func3.symm.trans hfn)).symm
   exact ⟨by kernel_rfl, fun j t ht => by
    rw [Tryz.params3] at ht
    have hm : t ∈ [9] := by simpa using Array.mem_of_getElem? ht
    have hall : ([9].all fun u => !Tryz.prog.wantsStandIn u) = true := by kernel_rfl
    exact (show Tryz.prog.wantsStandIn t = false by simpa using List.all_eq_true.1 hall t hm)⟩)
  (by kernel_rfl)
end Go.Proofs.YtkijamagbgigmaaGreatDoor.outlineProperlyNested
namespace Go.Proofs.YtkijamagbgigmaaGreatDoor
theorem outlineProperlyNested_holds : Rows.OutlineProperlyNestedCardSaid := outlineProperlyNested.card
end Go.Proofs.YtkijamagbgigmaaGreatDoor
