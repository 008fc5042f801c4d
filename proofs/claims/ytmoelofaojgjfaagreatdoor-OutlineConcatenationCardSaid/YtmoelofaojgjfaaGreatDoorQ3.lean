/- Packed texts, part 3: contracts and plain lemmas towards outlineConcatenation_holds. -/
import Derived.Test.YtmoelofaojgjfaaGreatDoorQ2
import Derived.Laws.Strings
import Derived.Shelf.Strings.Builder1
import Derived.Shelf.Small.Bits
import Derived.Shelf.Small.Strs
import Derived.Shelf.Strings.BuilderF
import Derived.Shelf.Strings.BuilderK
import Derived.Shelf.Strconv.Atoi
import Derived.Shelf.Strconv.Itoa0
import Derived.Shelf.Strconv.AtoiErrFast
import Derived.Shelf.Strconv.ParseIntEmpty
import Derived.Shelf.Strconv.AtoiFail
import Derived.Shelf.LaysM
import Derived.Shelf.Strconv.Clone
import Derived.Shelf.Strconv.SyntaxError
import Derived.Shelf.LaysC
import Derived.Shelf.Strconv.ToError
import Derived.Shelf.Strconv.Lower
import Derived.Shelf.Strconv.ParseUint10
import Derived.Shelf.Strconv.ParseUint10Empty
import Derived.Shelf.Strconv.ParseUint10Any
import Derived.Shelf.Strconv.ParseInt10
import Derived.Shelf.Strconv.AtoiLong
import Derived.Shelf.Strconv.AtoiInnerAll
import Derived.Shelf.Strconv.RangeError
import Derived.Shelf.Strconv.ToErrorRange
import Derived.Shelf.Strconv.AtoiAll
import Derived.Shelf.Strings.Search1
import Derived.Shelf.Strings.Search2
import Derived.Shelf.Strings.Search3
import Derived.Shelf.Strings.Count
import Derived.Shelf.Strings.Shaped
import Derived.Shelf.Strings.Prefix
import Derived.Shelf.Strings.Fields
import Derived.Shelf.Unicode.Latin
import Derived.Shelf.Unicode.Is16White
import Derived.Shelf.Unicode.IsSpaceAny
import Derived.Shelf.Unicode.Is16Any
import Derived.Shelf.Unicode.Is32Any
import Derived.Shelf.Unicode.ExclAny
import Derived.Shelf.Slices.Turned
import Derived.Test.YtmoelofaojgjfaaGreatDoorProg
set_option maxHeartbeats 8000000
set_option maxRecDepth 1000000
set_option linter.unusedVariables false
set_option linter.unusedSimpArgs false
namespace Go.Proofs.YtmoelofaojgjfaaGreatDoor.Par
open Go.RowKit Go.Proofs.YtmoelofaojgjfaaGreatDoorW.PrintWords Go.Proofs.YtmoelofaojgjfaaGreatDoorW.PrintLast
theorem zl6 {T : List Tok} {pos : Nat} (hp : pos < T.length) : T.drop pos = T[pos] :: T.drop (pos + 1) := List.drop_eq_getElem_cons hp
theorem zwj {T : List Tok} {pos : Nat} {ks : List Tree} (hp : pos < T.length) (ht : triv (T[pos]).1 = true) : zbc T (pos, ks) = zbc T (pos + 1, ks ++ [leaf (T[pos])]) := by
 unfold zbc za9
 rw [zl6 hp]
 simp only [List.takeWhile_cons, ht, if_true, List.length_cons, List.map_cons]
 rw [show pos + ((List.takeWhile (fun t => triv t.1) (T.drop (pos + 1))).length + 1) = pos + 1 + (List.takeWhile (fun t => triv t.1) (T.drop (pos + 1))).length by omega, List.append_assoc]
 rfl
theorem zkd {T : List Tok} {pos : Nat} {ks : List Tree} (h : ∀ hp : pos < T.length, triv (T[pos]).1 = false) : zbc T (pos, ks) = (pos, ks) := by
 unfold zbc za9
 by_cases hp : pos < T.length
 ·rw [zl6 hp]
  simp only [List.takeWhile_cons, h hp]
  simp
 ·simp [List.drop_eq_nil_of_le (Nat.le_of_not_lt hp)]
theorem zqc {T : List Tok} {pos : Nat} {ks : List Tree} (hp : pos ≤ T.length) : pos ≤ (zbc T (pos, ks)).1 ∧ (zbc T (pos, ks)).1 ≤ T.length ∧ (zbc T (pos, ks)).2.length + pos = ks.length + (zbc T (pos, ks)).1 := by
 have h1 : (za9 T pos).length ≤ T.length - pos := by
  have := (List.takeWhile_sublist (fun t : Tok => triv t.1) (l := T.drop pos)).length_le
  rw [List.length_drop] at this
  exact this
 refine ⟨by simp [zbc], by simp [zbc]; omega, by simp [zbc]; omega⟩
theorem z0j (k : Int) : PA.parser_isTrivia.f k = some (triv k) := by
 unfold PA.parser_isTrivia.f triv
 by_cases h : k = 101
 ·rw [if_pos h]
  simp [h]
 ·rw [if_neg h]
  simp [h]
  rfl
theorem zex {k : Int} {b : Bool} (h : triv k = b) (w : World) : Calls Tryz.prog 151 #[.int .i64 k] w fun e w' => e = .returned (.bool b) ∧ ∃ n, w' = w.drewN n :=
 (PA.parser_isTrivia.calls k b w (by rw [z0j, h])).mono (fun _ _ h => ⟨h.1, h.2.out⟩)
def posAt (pb : Nat) (W : World) : Nat := match W.cell? ⟨pb, 1, none⟩ with
 | some (.int _ n) => n.toNat
 | _ => 0
end Go.Proofs.YtmoelofaojgjfaaGreatDoor.Par
namespace Go.Proofs.YtmoelofaojgjfaaGreatDoor.Par
open Go.RowKit Go.Proofs.YtmoelofaojgjfaaGreatDoorW.PrintWords Go.Proofs.YtmoelofaojgjfaaGreatDoorW.PrintLast
variable {B : Nat} {T : List Tok} {tv : Value} {pb : Nat} {W : World} {pos : Nat} {stk : List Tree} {F : List Nat}
theorem PS.posAt (h : PS 186 128 B T tv pb W pos stk F) : posAt pb W = pos := by
 obtain ⟨_, h1, _⟩ := h.cells
 simp [Par.posAt, h1]
end Go.Proofs.YtmoelofaojgjfaaGreatDoor.Par
namespace Go.Proofs.YtmoelofaojgjfaaGreatDoor.Par
open Go.RowKit Go.Proofs.YtmoelofaojgjfaaGreatDoorW.PrintWords Go.Proofs.YtmoelofaojgjfaaGreatDoorW.PrintLast
theorem zkc {B : Nat} {T : List Tok} {tv : Value} {pb : Nat} {W : World} {pos : Nat} {low : List Tree} {kd : Int} {tx : ByteArray} {ks : List Tree} {F : List Nat} (hT : T.length ≤ 100000) (hp : pos ≤ T.length)
  (h : PS 186 128 B T tv pb W pos (low ++ [.mk kd tx ks]) F) (hsm : low.length + ks.length ≤ 100000000) :
  Calls Tryz.prog 98 #[.pointer (some ⟨pb, 0, none⟩)] W fun e W' => e = .returned (.tuple #[]) ∧ ∃ F', PS 186 128 B T tv pb W' (zbc T (pos, ks)).1 (low ++ [.mk kd tx (zbc T (pos, ks)).2]) F' ∧ Fr pb F F' W W' := by
 go_enter Tryz.func98, Tryz.ntmps98
 have H0 := ak h
 clear h
 go_wp2_with fail
 go_loopw [] (fun wr => ∃ p1 k1 F1, PS 186 128 B T tv pb wr p1 (low ++ [.mk kd tx k1]) F1 ∧ Fr pb F F1 W wr ∧ p1 ≤ T.length ∧ zbc T (p1, k1) = zbc T (pos, ks) ∧ k1.length + pos = ks.length + p1) (fun wr => T.length - posAt pb wr)
 case atStart => exact ⟨pos, ks, F, H0.out, Fr.refl _ _ _, hp, rfl, rfl⟩
 case round =>
  obtain ⟨p1, k1, F1, h1, f1, hp1, hs1, hl1⟩ := hrel
  obtain ⟨o0, o1, o3, _⟩ := h1.cells
  have H1 := ak (And.intro h1 (And.intro f1 (And.intro hs1 hl1)))
  have HPo := ak h1.posAt
  clear o3
  by_cases hlt : p1 < T.length
  ·obtain ⟨tb, tq, c, rfl, t1, t2⟩ := h1.tokAt hlt
   have i0 : (0 : Int) ≤ (p1 : Int) := by omega
   have i1 : (p1 : Int) < (T.length : Int) := by omega
   have i1b : decide ((p1 : Int) < (T.length : Int)) = true := decide_eq_true i1
   obtain ⟨tk, htk⟩ : ∃ tk, tk = T[p1] := ⟨_, rfl⟩
   rw [← htk] at t1 t2
   clear h1 f1 hs1 hl1
   have HTK := ak htk
   clear htk
   cases htr : triv tk.1
   ·have HTR := ak htr
    go_wp2_with fail
    go_quiet ((go_at_call 151; refine Calls.quiet_of (zex HTR.out _)))
    go_wp2_with fail
    go_end0
    obtain ⟨h1, f1, hs1, hl1⟩ := H1.out
    rw [zkd (fun _ => by rw [← HTK.out]; exact HTR.out)] at hs1
    rw [← hs1]
    exact ⟨rfl, F1, h1.below (za0 (Below.refl _ _) _), f1.trans (Fr.of_below (za0 (Below.refl _ _) _))⟩
   ·have HTR := ak htr
    go_wp2_with fail
    go_quiet ((go_at_call 151; refine Calls.quiet_of (zex HTR.out _)))
    go_wp2_with fail
    refine (zgg hT hlt (H1.out.1.below (za0 (Below.refl _ _) _)) (by have := H1.out.2.2.2; omega)).mono ?_
    rintro e W3 ⟨rfl, F3, h3, f3⟩
    have H3 := ak (And.intro h3 f3)
    have HP3 := ak h3.posAt
    clear h3 f3
    go_wp2_with fail
    go_roundw
    case rel =>
     obtain ⟨h1, f1, hs1, hl1⟩ := H1.out
     rw [zwj hlt (by rw [← HTK.out]; exact HTR.out)] at hs1
     exact ⟨p1 + 1, _, F3, H3.out.1, (f1.trans (Fr.of_below (za0 (Below.refl _ _) _))).trans H3.out.2, hlt, hs1, by rw [List.length_append, List.length_singleton]; omega⟩
    case measure =>
     rw [HP3.out, HPo.out]
     omega
  ·obtain ⟨A, c, rfl, _⟩ := h1.toks
   have i1b : decide ((p1 : Int) < (T.length : Int)) = false := decide_eq_false (by omega)
   clear h1 f1 hs1 hl1
   go_wp2_with fail
   go_quiet (fail)
   go_wp2_with fail
   go_end0
   obtain ⟨h1, f1, hs1, hl1⟩ := H1.out
   rw [zkd (fun h => absurd h hlt)] at hs1
   rw [← hs1]
   exact ⟨rfl, F1, h1.below (za0 (Below.refl _ _) _), f1.trans (Fr.of_below (za0 (Below.refl _ _) _))⟩
theorem zqx (T : List Tok) (s : St) : zz T s = match T[(zbc T s).1]? with
 | some t => ((zbc T s).1 + 1, (zbc T s).2 ++ [leaf t])
 | none => zbc T s := rfl
theorem zf7 {T : List Tok} {s : St} (hp : s.1 ≤ T.length) : s.1 ≤ (zz T s).1 ∧ (zz T s).1 ≤ T.length ∧ (zz T s).2.length + s.1 = s.2.length + (zz T s).1 := by
 have h := zqc (T := T) (pos := s.1) (ks := s.2) hp
 rw [zqx]
 split
 ·rename_i t ht
  have := (List.getElem?_eq_some_iff.1 ht).1
  obtain ⟨g1, g2, g3⟩ := h
  change s.1 ≤ (zbc T s).1 at g1
  change (zbc T s).2.length + s.1 = s.2.length + (zbc T s).1 at g3
  refine ⟨by show s.1 ≤ (zbc T s).1 + 1; omega, this, ?_⟩
  show ((zbc T s).2 ++ [leaf t]).length + s.1 = s.2.length + ((zbc T s).1 + 1)
  rw [List.length_append, List.length_singleton]
  omega
 ·exact h
theorem zf6 {B : Nat} {T : List Tok} {tv : Value} {pb : Nat} {W : World} {pos : Nat} {low : List Tree} {kd : Int} {tx : ByteArray} {ks : List Tree} {F : List Nat} (hT : T.length ≤ 100000) (hp : pos ≤ T.length)
  (h : PS 186 128 B T tv pb W pos (low ++ [.mk kd tx ks]) F) (hsm : low.length + ks.length ≤ 100000000) :
  Calls Tryz.prog 149 #[.pointer (some ⟨pb, 0, none⟩)] W fun e W' => e = .returned (.tuple #[]) ∧ ∃ F', PS 186 128 B T tv pb W' (zz T (pos, ks)).1 (low ++ [.mk kd tx (zz T (pos, ks)).2]) F' ∧ Fr pb F F' W W' := by
 go_enter Tryz.func149, Tryz.ntmps149
 have H0 := ak h
 clear h
 go_wp2_with fail
 refine (zkc hT hp H0.out hsm).mono ?_
 rintro e W1 ⟨rfl, F1, h1, f1⟩
 have hle := zqc (T := T) (pos := pos) (ks := ks) hp
 obtain ⟨p1, hp1⟩ : ∃ p1, Hid ((zbc T (pos, ks)).1 = p1) := ⟨_, rfl⟩
 obtain ⟨k1, hk1⟩ : ∃ k1, Hid ((zbc T (pos, ks)).2 = k1) := ⟨_, rfl⟩
 rw [show (zbc T (pos, ks)).1 = p1 from hp1, show (zbc T (pos, ks)).2 = k1 from hk1] at h1 hle
 have hb : zz T (pos, ks) = match T[p1]? with
  | some t => (p1 + 1, k1 ++ [leaf t])
  | none => (p1, k1) := by
  rw [zqx, show zbc T (pos, ks) = (p1, k1) from Prod.ext hp1 hk1]
 have H1 := ak (And.intro h1 (And.intro f1 (And.intro hle hb)))
 obtain ⟨o0, o1, o3, _⟩ := h1.cells
 obtain ⟨A, c, rfl, _⟩ := h1.toks
 clear h1 f1 hle hb o3
 by_cases hlt : p1 < T.length
 ·have i1b : decide ((p1 : Int) < (T.length : Int)) = true := decide_eq_true (by omega)
  go_wp2_with fail
  go_quiet (fail)
  go_wp2_with fail
  refine (zgg hT hlt (H1.out.1.below (za0 (Below.refl _ _) _)) (by have := H1.out.2.2.1; omega)).mono ?_
  rintro e W3 ⟨rfl, F3, h3, f3⟩
  have H3 := ak (And.intro h3 f3)
  clear h3 f3
  go_wp2_with fail
  go_end0
  obtain ⟨h1, f1, hle, hb⟩ := H1.out
  rw [List.getElem?_eq_getElem hlt] at hb
  rw [hb]
  exact ⟨rfl, F3, H3.out.1, (f1.trans (Fr.of_below (za0 (Below.refl _ _) _))).trans H3.out.2⟩
 ·have i1b : decide ((p1 : Int) < (T.length : Int)) = false := decide_eq_false (by omega)
  go_wp2_with fail
  go_quiet (fail)
  go_wp2_with fail
  go_end0
  obtain ⟨h1, f1, hle, hb⟩ := H1.out
  rw [List.getElem?_eq_none (by omega)] at hb
  rw [hb]
  exact ⟨rfl, F1, h1.below (za0 (Below.refl _ _) _), f1.trans (Fr.of_below (za0 (Below.refl _ _) _))⟩
theorem zwr {T : List Tok} {pos : Nat} (hp : pos < T.length) (ht : triv (T[pos]).1 = true) : zal T pos = zal T (pos + 1) := by
 unfold zal
 rw [zl6 hp, List.find?_cons_of_neg (by simp [ht])]
theorem zws {T : List Tok} {pos : Nat} (hp : pos < T.length) (ht : triv (T[pos]).1 = false) : zal T pos = T[pos] := by
 unfold zal
 rw [zl6 hp, List.find?_cons_of_pos (by simp [ht])]
 rfl
theorem ztu {T : List Tok} {pos : Nat} (hp : T.length ≤ pos) : zal T pos = (100, zj) := by
 unfold zal
 rw [List.drop_eq_nil_of_le hp]
 rfl
theorem PS.tokAtJ {B : Nat} {T : List Tok} {tv : Value} {pb : Nat} {W : World} {pos j : Nat} {stk : List Tree} {F : List Nat} (h : PS 186 128 B T tv pb W pos stk F) (hp : j < T.length) : ∃ tb tq c, tv = .slice (some ⟨tb, tq, none⟩) T.length c ∧ W.cell? ⟨tb, tq + j * 2, none⟩ = some (.int .i64 (T[j]).1) ∧ W.cell? ⟨tb, tq + j * 2 + 1, none⟩ = some (.string (T[j]).2) := by
 obtain ⟨A, c, h1, h2⟩ := h.toks
 obtain ⟨tb, tq, rfl, h3⟩ := h2 (by omega)
 obtain ⟨k1, k2⟩ := h3 j (T[j]) (List.getElem?_eq_getElem hp)
 exact ⟨tb, tq, c, h1, k1, k2⟩
theorem ze3 {B : Nat} {T : List Tok} {tv : Value} {pb : Nat} {W : World} {pos : Nat} {stk : List Tree} {F : List Nat} (hT : T.length ≤ 100000) (hp : pos ≤ T.length)
  (h : PS 186 128 B T tv pb W pos stk F) :
  Calls Tryz.prog 141 #[.pointer (some ⟨pb, 0, none⟩)] W fun e W' => e = .returned (.agg #[.int .i64 (zal T pos).1, .string (zal T pos).2]) ∧ Below W.heap.size W W' := by
 go_enter Tryz.func141, Tryz.ntmps141
 have H0 := ak h
 have hu98 := Tryz.underlying154
 obtain ⟨o0, o1, _, _⟩ := h.cells
 have hlt : pb < W.heap.size := World.block_lt_of_cell? W _ o0
 clear h
 go_wp2_with fail
 have hb0 : (W.alloc (Obj.cells #[Value.int IntKind.i64 0, Value.string { data := #[] }] 154)).heap[W.heap.size]? = some (.cells #[.int .i64 0, .string ⟨#[]⟩] 154 (0, 0)) := heap_alloc_new W _
 have HBl := ak (show Below W.heap.size W (W.alloc (Obj.cells #[Value.int IntKind.i64 0, Value.string { data := #[] }] 154)) from (Below.refl _ _).alloc (Nat.le_refl _) _)
 have HB0 := ak hb0
 clear hb0 o0 o1
 go_loopw [3] (fun i wr => ∃ j : Nat, i = .int .i64 (j : Int) ∧ j ≤ T.length ∧ zal T j = zal T pos ∧ Below W.heap.size W wr ∧ wr.heap[W.heap.size]? = some (.cells #[.int .i64 0, .string ⟨#[]⟩] 154 (0, 0))) (fun i _ => T.length - (intOf i).toNat)
 case atStart => exact ⟨pos, rfl, hp, rfl, HBl.out, HB0.out⟩
 case round =>
  obtain ⟨j, rfl, hj, hpk, hbe, hbl⟩ := hrel
  have h1 := H0.out.below hbe
  obtain ⟨o0, o1, _, _⟩ := h1.cells
  have HBR := ak hbe
  have HBL := ak hbl
  have HPK := ak hpk
  have c0 : wr.cell? ⟨W.heap.size, 0, none⟩ = some (.int .i64 0) := (zf hbl 0).trans rfl
  have c1 : wr.cell? ⟨W.heap.size, 1, none⟩ = some (.string ⟨#[]⟩) := (zf hbl 1).trans rfl
  have z0 := zl hbl 0
  have z1 := zl hbl 1
  clear hbe hbl hpk
  have hne : pb ≠ W.heap.size := by omega
  by_cases hlt : j < T.length
  ·obtain ⟨tb, tq, c, rfl, t1, t2⟩ := PS.tokAtJ h1 hlt
   have i0 : (0 : Int) ≤ (j : Int) := by omega
   have i1 : (j : Int) < (T.length : Int) := by omega
   have i1b : decide ((j : Int) < (T.length : Int)) = true := decide_eq_true i1
   have i2b : decide ((j : Int) = (T.length : Int)) = false := decide_eq_false (by omega)
   have i3b : ((j : Int) == (T.length : Int)) = false := beq_eq_false_iff_ne.2 (by omega)
   obtain ⟨tk, htk⟩ : ∃ tk, tk = T[j] := ⟨_, rfl⟩
   rw [← htk] at t1 t2
   clear h1
   have HTK := ak htk
   clear htk
   cases htr : triv tk.1
   ·have HTR := ak htr
    go_wp2_with (first | (go_at_call 151; refine (zex HTR.out _).mono ?_; rintro e w' ⟨rfl, n, rfl⟩))
    refine bodyPost_ret (results_cell_row rfl _ _ W.heap.size 154 #[.int .i64 tk.1, .string tk.2] (0, 0) _ rfl (by refine zfm (cs := #[.int .i64 tk.1, .string ⟨#[]⟩]) ?_ 1 _ rfl; refine zfm (cs := #[.int .i64 0, .string ⟨#[]⟩]) ?_ 0 _ rfl; exact zvv HBL.out _) hu98 rfl (by kernel_rfl)) rfl ?_
    rw [← HPK.out, zws hlt (by rw [← HTK.out]; exact HTR.out), ← HTK.out]
    exact ⟨rfl, zhf (zhf (za0 HBR.out _) (Nat.le_refl _)) (Nat.le_refl _)⟩
   ·have HTR := ak htr
    go_wp2_with (first | (go_at_call 151; refine (zex HTR.out _).mono ?_; rintro e w' ⟨rfl, n, rfl⟩))
    go_roundw
    case rel => exact ⟨j + 1, by simp, hlt, by rw [← HPK.out, zwr hlt (by rw [← HTK.out]; exact HTR.out)], za0 HBR.out _, HBL.out⟩
    case measure => simp [intOf]; omega
  ·obtain ⟨A, c, rfl, _⟩ := h1.toks
   obtain rfl : j = T.length := by omega
   have i1b : decide ((T.length : Int) < (T.length : Int)) = false := decide_eq_false (by omega)
   clear h1
   go_wp2_with fail
   refine bodyPost_ret (results_cell_row rfl _ _ W.heap.size 154 #[.int .i64 100, .string ⟨#[]⟩] (0, 0) _ rfl (by refine zfm (cs := #[.int .i64 100, .string ⟨#[]⟩]) ?_ 1 _ rfl; refine zfm (cs := #[.int .i64 0, .string ⟨#[]⟩]) ?_ 0 _ rfl; exact HBL.out) hu98 rfl (by kernel_rfl)) rfl ?_
   rw [← HPK.out, ztu (Nat.le_refl _)]
   exact ⟨rfl, zhf (zhf HBR.out (Nat.le_refl _)) (Nat.le_refl _)⟩
theorem ByteArray.toList_inj' {a b : ByteArray} (h : a.toList = b.toList) : a = b := by
 rw [Go.ByteArray.toList_eq, Go.ByteArray.toList_eq] at h
 exact ByteArray.ext (Array.ext' h)
theorem zkp (l : List ByteArray) (a : ByteArray) (hl : l.length ≤ 1000) : ∀ k i : Nat, i ≤ l.length → l.length - i < k →
  ∃ r, PA.slices_Index_string_string.l0 k l a (l.length : Int) (i : Int) = some r ∧ (r ≥ 0 ↔ ∃ x ∈ l.drop i, a = x)
 | 0, i, _, h => by omega
 | k + 1, i, hi, h => by
  unfold PA.slices_Index_string_string.l0
  by_cases hlt : i < l.length
  ·rw [if_pos (by omega), if_pos (by omega), if_pos (by omega)]
   have hget : rdOf ByteArray.empty l (i : Int) = l[i] := by
    unfold rdOf
    simp [List.getD_eq_getElem?_getD, List.getElem?_eq_getElem hlt]
   have hd : l.drop i = l[i] :: l.drop (i + 1) := List.drop_eq_getElem_cons hlt
   rw [hget]
   by_cases he : a = l[i]
   ·rw [if_pos (by rw [he])]
    exact ⟨_, rfl, by constructor <;> intro _ <;> first | omega | exact ⟨_, by rw [hd]; exact List.mem_cons_self, he⟩⟩
   ·rw [if_neg (fun h => he (ByteArray.toList_inj' h)), show wrap64 ((i : Int) + 1) = ((i + 1 : Nat) : Int) by rw [IntWalk.wrap64_in _ (by omega)]; rfl]
    obtain ⟨r, h1, h2⟩ := zkp l a hl k (i + 1) hlt (by omega)
    refine ⟨r, h1, h2.trans ?_⟩
    rw [hd]
    constructor
    ·rintro ⟨x, hx, e⟩
     exact ⟨x, List.mem_cons_of_mem _ hx, e⟩
    ·rintro ⟨x, hx, e⟩
     rcases List.mem_cons.1 hx with rfl | hx
     ·exact absurd e he
     ·exact ⟨x, hx, e⟩
  ·rw [if_neg (by omega)]
   refine ⟨_, rfl, ?_⟩
   rw [List.drop_eq_nil_of_le (by omega)]
   simp
theorem zd4 (l : List ByteArray) (a : ByteArray) (hl : l.length ≤ 1000) (A : Option Addr) (c : Nat) (W : World) (hr : Kd.C Kd.string W A l.length l) (hc : l.length ≤ c) :
  Calls Tryz.prog 178 #[.slice A l.length c, .string a] W fun e W' => e = .returned (.bool (l.any (fun x => decide (a = x)))) ∧ ∃ n, W' = W.drewN n := by
 obtain ⟨r, h1, h2⟩ := zkp l a hl (l.length + 1) 0 (by omega) (by omega)
 rw [List.drop_zero] at h2
 have hf : PA.slices_Contains_string_string.f (l.length + 1) l a = some (l.any (fun x => decide (a = x))) := by
  unfold PA.slices_Contains_string_string.f PA.slices_Index_string_string.f
  rw [show (0 : Int) = ((0 : Nat) : Int) from rfl, h1]
  show some (decide (r ≥ 0)) = _
  congr 1
  rw [Bool.eq_iff_iff, decide_eq_true_iff, h2]
  simp
 exact (PA.slices_Contains_string_string.calls (l.length + 1) A c l a _ W hr hc hf).mono (fun _ _ h => ⟨h.1, h.2.out⟩)
theorem zhi {B : Nat} {T : List Tok} {tv : Value} {pb : Nat} {W : World} {pos : Nat} {stk : List Tree} {F : List Nat} (hT : T.length ≤ 100000) (hp : pos ≤ T.length)
  (h : PS 186 128 B T tv pb W pos stk F) {l : List ByteArray} {A : Option Addr} {c : Nat} (hl : l.length ≤ 1000) (hr : Kd.C Kd.string W A l.length l) (hc : l.length ≤ c) :
  Calls Tryz.prog 142 #[.pointer (some ⟨pb, 0, none⟩), .slice A l.length c] W fun e W' => e = .returned (.bool (atT T pos l)) ∧ Below W.heap.size W W' := by
 go_enter Tryz.func142, Tryz.ntmps142
 have H0 := ak h
 have hu98 := Tryz.underlying154
 have HR := ak hr
 have HC := ak hc
 clear h hr hc
 go_wp2_with fail
 refine (ze3 hT hp H0.out).mono ?_
 rintro e W1 ⟨rfl, hb1⟩
 have HR1 := ak (Kd.C_below HR.out hb1)
 have HB1 := ak hb1
 clear hb1
 obtain ⟨kd, hkd⟩ : ∃ kd, Hid ((zal T pos).1 = kd) := ⟨_, rfl⟩
 obtain ⟨tx, htx⟩ : ∃ tx, Hid ((zal T pos).2 = tx) := ⟨_, rfl⟩
 have hat : Hid (atT T pos l = ((decide (kd = 104) || decide (kd = 107)) && l.any (fun x => decide (tx = x)))) := by
  show atT T pos l = _
  unfold atT
  rw [show (zal T pos).1 = kd from hkd, show (zal T pos).2 = tx from htx]
 rw [show (zal T pos).1 = kd from hkd, show (zal T pos).2 = tx from htx]
 have hyes : (kd = 104 ∨ kd = 107) → atT T pos l = l.any (fun x => decide (tx = x)) := by
  intro h
  rw [show atT T pos l = _ from hat]
  rcases h with rfl | rfl <;> simp
 have HAT := ak (And.intro hat hyes)
 clear hat hyes
 have hend : ∀ (k : Int) (w' : World), (∃ n, w' = (W1.alloc (Obj.cells #[Value.int IntKind.i64 k, Value.string tx] 154)).drewN n) → Below W.heap.size W w' := by
  rintro k w' ⟨n, rfl⟩
  exact za0 (zh HB1.out _) _
 by_cases k1 : kd = 104
 ·subst k1
  go_wp2_with (first | (go_at_call 178; refine (zd4 l tx hl A c _ (Kd.C_below HR1.out (zh (Below.refl _ _) _)) HC.out).mono ?_; rintro e w' ⟨rfl, hw⟩; have HWE := ak (hend _ _ hw); clear hw))
  go_ret
  exact ⟨by rw [HAT.out.2 (.inl trivial)]; rfl, HWE.out⟩
 by_cases k2 : kd = 107
 ·subst k2
  go_wp2_with (first | (go_at_call 178; refine (zd4 l tx hl A c _ (Kd.C_below HR1.out (zh (Below.refl _ _) _)) HC.out).mono ?_; rintro e w' ⟨rfl, hw⟩; have HWE := ak (hend _ _ hw); clear hw))
  go_ret
  exact ⟨by rw [HAT.out.2 (.inr trivial)]; rfl, HWE.out⟩
 have e1 : (kd == 104) = false := beq_eq_false_iff_ne.2 k1
 have e2 : (kd == 107) = false := beq_eq_false_iff_ne.2 k2
 go_wp2_with fail
 go_ret
 refine ⟨?_, hend _ _ ⟨0, rfl⟩⟩
 rw [show atT T pos l = _ from HAT.out.1]
 simp [k1, k2]
theorem zpr (kd : Int) (tx : ByteArray) : ∀ w : World, (Instr.field 154 (.agg #[.int .i64 kd, .string tx]) 0).run Tryz.prog w = .ok (.int .i64 kd) w := fun _ => by kernel_rfl
theorem zvf {B : Nat} {T : List Tok} {tv : Value} {pb : Nat} {W : World} {pos : Nat} {stk : List Tree} {F : List Nat} (hT : T.length ≤ 100000) (hp : pos ≤ T.length)
  (h : PS 186 128 B T tv pb W pos stk F) :
  Calls Tryz.prog 96 #[.pointer (some ⟨pb, 0, none⟩)] W fun e W' => e = .returned (.bool (eofT T pos)) ∧ Below W.heap.size W W' := by
 go_enter Tryz.func96, Tryz.ntmps96
 have H0 := ak h
 have hu98 := Tryz.underlying154
 clear h
 go_wp2_with fail
 refine (ze3 hT hp H0.out).mono ?_
 rintro e W1 ⟨rfl, hb1⟩
 have HB1 := ak hb1
 clear hb1
 obtain ⟨kd, hkd⟩ : ∃ kd, Hid ((zal T pos).1 = kd) := ⟨_, rfl⟩
 obtain ⟨tx, htx⟩ : ∃ tx, Hid ((zal T pos).2 = tx) := ⟨_, rfl⟩
 rw [show (zal T pos).1 = kd from hkd, show (zal T pos).2 = tx from htx]
 have hfd := zpr kd tx
 go_wp2_with fail
 go_ret
 refine ⟨?_, HB1.out⟩
 have hk : (zal T pos).1 = kd := hkd
 show _ = Ending.returned (.bool (decide ((zal T pos).1 = 100)))
 rw [hk]
 rfl
theorem zgl {B : Nat} {T : List Tok} {tv : Value} {pb : Nat} {W : World} {pos : Nat} {stk : List Tree} {F : List Nat} (hT : T.length ≤ 100000) (hp : pos ≤ T.length)
  (h : PS 186 128 B T tv pb W pos stk F) :
  Calls Tryz.prog 278 #[.pointer (some ⟨pb, 0, none⟩)] W fun e W' => e = .returned (.bool (idT T pos)) ∧ Below W.heap.size W W' := by
 go_enter Tryz.func278, Tryz.ntmps278
 have H0 := ak h
 have hu98 := Tryz.underlying154
 clear h
 go_wp2_with fail
 refine (ze3 hT hp H0.out).mono ?_
 rintro e W1 ⟨rfl, hb1⟩
 have HB1 := ak hb1
 clear hb1
 obtain ⟨kd, hkd⟩ : ∃ kd, Hid ((zal T pos).1 = kd) := ⟨_, rfl⟩
 obtain ⟨tx, htx⟩ : ∃ tx, Hid ((zal T pos).2 = tx) := ⟨_, rfl⟩
 rw [show (zal T pos).1 = kd from hkd, show (zal T pos).2 = tx from htx]
 have hfd := zpr kd tx
 go_wp2_with fail
 go_ret
 refine ⟨?_, HB1.out⟩
 have hk : (zal T pos).1 = kd := hkd
 show _ = Ending.returned (.bool (decide ((zal T pos).1 = 103)))
 rw [hk]
 rfl
end Go.Proofs.YtmoelofaojgjfaaGreatDoor.Par
namespace Go.Proofs
open Go.Shelf
def Tryz.lays169_ren : Go.Shelf.Ren := ⟨fun | 169 => 54 | n => n, fun | 70 => 116 | 9 => 9 | 0 => 0 | 72 => 119 | 37 => 117 | 127 => 183 | 3 => 3 | 5 => 5 | n => n, fun | n => n⟩
theorem Tryz.lays169 : Go.Proofs.Lays.n169 Tryz.prog Tryz.lays169_ren := {
 mixed := by kernel_rfl
 f169 := Tryz.func54.trans (congrArg some (by kernel_rfl))
 t0 := Tryz.underlying0
 a0 := Tryz.isAgg0
 z0 := Tryz.sizeOf0
 v0 := Tryz.zeroValue0
 t3 := Tryz.underlying3
 a3 := Tryz.isAgg3
 z3 := Tryz.sizeOf3
 v3 := Tryz.zeroValue3
 t9 := Tryz.underlying9
 a9 := Tryz.isAgg9
 z9 := Tryz.sizeOf9
 v9 := Tryz.zeroValue9
 t37 := Tryz.underlying117
 a37 := Tryz.isAgg117
 z37 := Tryz.sizeOf117
 v37 := Tryz.zeroValue117
 t70 := Tryz.underlying116
 a70 := Tryz.isAgg116
 z70 := Tryz.sizeOf116
 v70 := Tryz.zeroValue116
 t72 := Tryz.underlying119
 a72 := Tryz.isAgg119
 z72 := Tryz.sizeOf119
 v72 := Tryz.zeroValue119
 t127 := Tryz.underlying183
 a127 := Tryz.isAgg183
 z127 := Tryz.sizeOf183
 v127 := Tryz.zeroValue183 }
theorem Tryz.Builder_Extra_169 : Builder.Extra Tryz.prog Tryz.lays169_ren := {
 sizeBuilder := by kernel_rfl
 liesBuilder := by kernel_rfl
 t5 := Tryz.underlying5
 a5 := Tryz.isAgg5
 z5 := Tryz.sizeOf5
 v5 := Tryz.zeroValue5
 infoByte := by kernel_rfl
 cellsByte := by kernel_rfl
 sizeByte := by kernel_rfl
 neB5 := by decide }
def Tryz.lays125_ren : Go.Shelf.Ren := ⟨fun | 125 => 67 | 128 => 112 | 129 => 113 | n => n, fun | 46 => 146 | 3 => 3 | 51 => 200 | 53 => 202 | 4 => 4 | 5 => 5 | 9 => 9 | n => n, fun | n => n⟩
theorem Tryz.lays125 : Go.Proofs.Lays.n125 Tryz.prog Tryz.lays125_ren := {
 mixed := by kernel_rfl
 f125 := Tryz.func67.trans (congrArg some (by kernel_rfl))
 f128 := Tryz.func112.trans (congrArg some (by kernel_rfl))
 f129 := Tryz.func113.trans (congrArg some (by kernel_rfl))
 t3 := Tryz.underlying3
 a3 := Tryz.isAgg3
 z3 := Tryz.sizeOf3
 v3 := Tryz.zeroValue3
 t4 := Tryz.underlying4
 a4 := Tryz.isAgg4
 z4 := Tryz.sizeOf4
 v4 := Tryz.zeroValue4
 t5 := Tryz.underlying5
 a5 := Tryz.isAgg5
 z5 := Tryz.sizeOf5
 v5 := Tryz.zeroValue5
 t9 := Tryz.underlying9
 a9 := Tryz.isAgg9
 z9 := Tryz.sizeOf9
 v9 := Tryz.zeroValue9
 t46 := Tryz.underlying146
 a46 := Tryz.isAgg146
 z46 := Tryz.sizeOf146
 v46 := Tryz.zeroValue146
 t51 := Tryz.underlying200
 a51 := Tryz.isAgg200
 z51 := Tryz.sizeOf200
 v51 := Tryz.zeroValue200
 t53 := Tryz.underlying202
 a53 := Tryz.isAgg202
 z53 := Tryz.sizeOf202
 v53 := Tryz.zeroValue202 }
theorem Tryz.bits_Len (x : Int) (w : World) (h0 : 0 ≤ x) (h1 : x ≤ 18446744073709551615) :
  Calls Tryz.prog 67 #[.int .u64 x] w fun e w' => e = .returned (.int .i64 (Lib.bitLen x.toNat)) ∧ w' = w := Any.bits_Len Tryz.lays125 x w h0 h1
def Tryz.lays137_ren : Go.Shelf.Ren := ⟨fun | 137 => 182 | 217 => 184 | 266 => 241 | n => n, fun | 9 => 9 | 5 => 5 | 3 => 3 | n => n, fun | n => n⟩
theorem Tryz.lays137 : Go.Proofs.Lays.n137 Tryz.prog Tryz.lays137_ren := {
 mixed := by kernel_rfl
 f137 := Tryz.func182.trans (congrArg some (by kernel_rfl))
 f217 := Tryz.func184.trans (congrArg some (by kernel_rfl))
 f266 := Tryz.func241.trans (congrArg some (by kernel_rfl))
 t3 := Tryz.underlying3
 a3 := Tryz.isAgg3
 z3 := Tryz.sizeOf3
 v3 := Tryz.zeroValue3
 t5 := Tryz.underlying5
 a5 := Tryz.isAgg5
 z5 := Tryz.sizeOf5
 v5 := Tryz.zeroValue5
 t9 := Tryz.underlying9
 a9 := Tryz.isAgg9
 z9 := Tryz.sizeOf9
 v9 := Tryz.zeroValue9 }
open Go.RowKit in
theorem Tryz.strings_IndexByte (s : ByteArray) (c : Int) (w : World) :
  Calls Tryz.prog 182 #[.string s, .int .u8 c] w fun e w' => e = .returned (.int .i64 (Lib.indexByte s.data.toList c.toNat.toUInt8)) ∧ w' = w := Any.strings_IndexByte Tryz.lays137 s c w
open Go.RowKit in
theorem Tryz.Builder_String_any_k (B b : Nat) (l : List UInt8) (w : World) (h : Lib.IsBuilderF 119 5 B b (Lib.byteCells l) w) (hBw : B ≤ w.heap.size) :
  Calls Tryz.prog 54 #[.pointer (some ⟨b, 0, none⟩)] w fun e w' => e = .returned (.string ⟨l.toArray⟩) ∧ (Lib.IsBuilderF 119 5 B b (Lib.byteCells l) w' ∧ Below B w w' ∧ Lib.OthersKept 5 (some b) w w') := Any.Builder_String_any_k Tryz.lays169 Tryz.Builder_Extra_169 B b l w h hBw
def Tryz.laysC172_ren : Go.Shelf.Ren := ⟨fun | 172 => 234 | 244 => 293 | 245 => 294 | 247 => 328 | 279 => 329 | 280 => 330 | 281 => 331 | 282 => 332 | 287 => 351 | 316 => 352 | 171 => 354 | 205 => 353 | 321 => 367 | 322 => 368 | 243 => 369 | 246 => 380 | 283 => 381 | 284 => 382 | 285 => 383 | 286 => 384 | 129 => 113 | 317 => 385 | 318 => 386 | 319 => 387 | 320 => 388 | 337 => 389 | 338 => 390 | n => n, fun | 9 => 9 | 3 => 3 | 75 => 121 | 76 => 122 | 4 => 4 | 5 => 5 | 167 => 331 | 37 => 117 | 0 => 0 | 85 => 332 | 2 => 2 | 168 => 334 | 53 => 202 | 175 => 351 | 46 => 146 | 210 => 355 | 127 => 183 | 145 => 365 | 143 => 363 | 21 => 21 | 171 => 367 | 173 => 369 | 212 => 372 | 51 => 200 | 20 => 20 | 213 => 373 | 232 => 374 | 233 => 375 | 80 => 124 | n => n, fun | 15 => 3 | 16 => 4 | 17 => 5 | 18 => 6 | 19 => 7 | n => n⟩
theorem Tryz.laysC172 : Go.Proofs.LaysC.n172 Tryz.prog Tryz.laysC172_ren := {
 mixed := by kernel_rfl
 f129 := Tryz.func113.trans (congrArg some (by kernel_rfl))
 f171 := Tryz.func354.trans (congrArg some (by kernel_rfl))
 f172 := Tryz.func234.trans (congrArg some (by kernel_rfl))
 f205 := Tryz.func353.trans (congrArg some (by kernel_rfl))
 f243 := Tryz.func369.trans (congrArg some (by kernel_rfl))
 f244 := Tryz.func293.trans (congrArg some (by kernel_rfl))
 f245 := Tryz.func294.trans (congrArg some (by kernel_rfl))
 f246 := Tryz.func380.trans (congrArg some (by kernel_rfl))
 f247 := Tryz.func328.trans (congrArg some (by kernel_rfl))
 f279 := Tryz.func329.trans (congrArg some (by kernel_rfl))
 f280 := Tryz.func330.trans (congrArg some (by kernel_rfl))
 f281 := Tryz.func331.trans (congrArg some (by kernel_rfl))
 f282 := Tryz.func332.trans (congrArg some (by kernel_rfl))
 f283 := Tryz.func381.trans (congrArg some (by kernel_rfl))
 f284 := Tryz.func382.trans (congrArg some (by kernel_rfl))
 f285 := Tryz.func383.trans (congrArg some (by kernel_rfl))
 f286 := Tryz.func384.trans (congrArg some (by kernel_rfl))
 f287 := Tryz.func351.trans (congrArg some (by kernel_rfl))
 f316 := Tryz.func352.trans (congrArg some (by kernel_rfl))
 f317 := Tryz.func385.trans (congrArg some (by kernel_rfl))
 f318 := Tryz.func386.trans (congrArg some (by kernel_rfl))
 f319 := Tryz.func387.trans (congrArg some (by kernel_rfl))
 f320 := Tryz.func388.trans (congrArg some (by kernel_rfl))
 f321 := Tryz.func367.trans (congrArg some (by kernel_rfl))
 f322 := Tryz.func368.trans (congrArg some (by kernel_rfl))
 f337 := Tryz.func389.trans (congrArg some (by kernel_rfl))
 f338 := Tryz.func390.trans (congrArg some (by kernel_rfl))
 t0 := Tryz.underlying0
 a0 := Tryz.isAgg0
 z0 := Tryz.sizeOf0
 v0 := Tryz.zeroValue0
 t2 := Tryz.underlying2
 a2 := Tryz.isAgg2
 z2 := Tryz.sizeOf2
 v2 := Tryz.zeroValue2
 t3 := Tryz.underlying3
 a3 := Tryz.isAgg3
 z3 := Tryz.sizeOf3
 v3 := Tryz.zeroValue3
 t4 := Tryz.underlying4
 a4 := Tryz.isAgg4
 z4 := Tryz.sizeOf4
 v4 := Tryz.zeroValue4
 t5 := Tryz.underlying5
 a5 := Tryz.isAgg5
 z5 := Tryz.sizeOf5
 v5 := Tryz.zeroValue5
 t9 := Tryz.underlying9
 a9 := Tryz.isAgg9
 z9 := Tryz.sizeOf9
 v9 := Tryz.zeroValue9
 t20 := Tryz.underlying20
 a20 := Tryz.isAgg20
 z20 := Tryz.sizeOf20
 v20 := Tryz.zeroValue20
 t21 := Tryz.underlying21
 a21 := Tryz.isAgg21
 z21 := Tryz.sizeOf21
 v21 := Tryz.zeroValue21
 t37 := Tryz.underlying117
 a37 := Tryz.isAgg117
 z37 := Tryz.sizeOf117
 v37 := Tryz.zeroValue117
 t46 := Tryz.underlying146
 a46 := Tryz.isAgg146
 z46 := Tryz.sizeOf146
 v46 := Tryz.zeroValue146
 t51 := Tryz.underlying200
 a51 := Tryz.isAgg200
 z51 := Tryz.sizeOf200
 v51 := Tryz.zeroValue200
 t53 := Tryz.underlying202
 a53 := Tryz.isAgg202
 z53 := Tryz.sizeOf202
 v53 := Tryz.zeroValue202
 t75 := Tryz.underlying121
 a75 := Tryz.isAgg121
 z75 := Tryz.sizeOf121
 v75 := Tryz.zeroValue121
 t76 := Tryz.underlying122
 a76 := Tryz.isAgg122
 z76 := Tryz.sizeOf122
 v76 := Tryz.zeroValue122
 t85 := Tryz.underlying332
 a85 := Tryz.isAgg332
 z85 := Tryz.sizeOf332
 v85 := Tryz.zeroValue332
 t127 := Tryz.underlying183
 a127 := Tryz.isAgg183
 z127 := Tryz.sizeOf183
 v127 := Tryz.zeroValue183
 t143 := Tryz.underlying363
 a143 := Tryz.isAgg363
 z143 := Tryz.sizeOf363
 v143 := Tryz.zeroValue363
 t145 := Tryz.underlying365
 a145 := Tryz.isAgg365
 z145 := Tryz.sizeOf365
 v145 := Tryz.zeroValue365
 t167 := Tryz.underlying331
 a167 := Tryz.isAgg331
 z167 := Tryz.sizeOf331
 v167 := Tryz.zeroValue331
 t168 := Tryz.underlying334
 a168 := Tryz.isAgg334
 z168 := Tryz.sizeOf334
 v168 := Tryz.zeroValue334
 t171 := Tryz.underlying367
 a171 := Tryz.isAgg367
 z171 := Tryz.sizeOf367
 v171 := Tryz.zeroValue367
 t173 := Tryz.underlying369
 a173 := Tryz.isAgg369
 z173 := Tryz.sizeOf369
 v173 := Tryz.zeroValue369
 t175 := Tryz.underlying351
 a175 := Tryz.isAgg351
 z175 := Tryz.sizeOf351
 v175 := Tryz.zeroValue351
 t210 := Tryz.underlying355
 a210 := Tryz.isAgg355
 z210 := Tryz.sizeOf355
 v210 := Tryz.zeroValue355
 t212 := Tryz.underlying372
 a212 := Tryz.isAgg372
 z212 := Tryz.sizeOf372
 v212 := Tryz.zeroValue372
 t213 := Tryz.underlying373
 a213 := Tryz.isAgg373
 z213 := Tryz.sizeOf373
 t232 := Tryz.underlying374
 a232 := Tryz.isAgg374
 z232 := Tryz.sizeOf374
 v232 := Tryz.zeroValue374
 t233 := Tryz.underlying375
 a233 := Tryz.isAgg375
 z233 := Tryz.sizeOf375
 v233 := Tryz.zeroValue375
 g15 := by kernel_rfl
 g16 := by kernel_rfl
 g17 := by kernel_rfl
 g18 := by kernel_rfl
 g19 := by kernel_rfl
 t80 := Tryz.underlying124
 a80 := Tryz.isAgg124
 z80 := Tryz.sizeOf124
 v80 := Tryz.zeroValue124
 i0 := by kernel_rfl
 i2 := by kernel_rfl
 i3 := by kernel_rfl
 i4 := by kernel_rfl
 i5 := by kernel_rfl
 i9 := by kernel_rfl
 i20 := by kernel_rfl
 i21 := by kernel_rfl
 i37 := by kernel_rfl
 i46 := by kernel_rfl
 i51 := by kernel_rfl
 i53 := by kernel_rfl
 i75 := by kernel_rfl
 i76 := by kernel_rfl
 i80 := by kernel_rfl
 i85 := by kernel_rfl
 i127 := by kernel_rfl
 i143 := by kernel_rfl
 i145 := by kernel_rfl
 i167 := by kernel_rfl
 i168 := by kernel_rfl
 i171 := by kernel_rfl
 i173 := by kernel_rfl
 i175 := by kernel_rfl
 i210 := by kernel_rfl
 i212 := by kernel_rfl
 i232 := by kernel_rfl
 i233 := by kernel_rfl
 m15 := by kernel_rfl
 m16 := by kernel_rfl
 m17 := by kernel_rfl
 m18 := by kernel_rfl
 m19 := by kernel_rfl
 c0 := by kernel_rfl
 c2 := by kernel_rfl
 c3 := by kernel_rfl
 c4 := by kernel_rfl
 c5 := by kernel_rfl
 c9 := by kernel_rfl
 c20 := by kernel_rfl
 c21 := by kernel_rfl
 c37 := by kernel_rfl
 c46 := by kernel_rfl
 c51 := by kernel_rfl
 c53 := by kernel_rfl
 c75 := by kernel_rfl
 c76 := by kernel_rfl
 c80 := by kernel_rfl
 c85 := by kernel_rfl
 c127 := by kernel_rfl
 c143 := by kernel_rfl
 c145 := by kernel_rfl
 c167 := by kernel_rfl
 c168 := by kernel_rfl
 c171 := by kernel_rfl
 c173 := by kernel_rfl
 c175 := by kernel_rfl
 c210 := by kernel_rfl
 c212 := by kernel_rfl
 c213 := by kernel_rfl
 c232 := by kernel_rfl
 c233 := by kernel_rfl }
open Go.RowKit in
theorem Tryz.strconv_Atoi_ok (s : ByteArray) (hmax : s.size ≤ 9223372036854775806) (v : Int) (h : Lib.atoiAll s.data.toList = .ok v) (w : World) :
  Calls Tryz.prog 234 #[.string s] w fun e w' => e = .returned (.tuple #[.int .i64 v, .nilIface]) ∧ (w' = w ∨ ∃ t, w' = Lib.bytesWorld w 5 t) := Any.strconv_Atoi_ok Tryz.laysC172 s hmax v h w
open Go.RowKit in
theorem Tryz.strconv_Atoi_syntax (s : ByteArray) (hlim : s.size ≤ 281474976710656) (h : Lib.atoiAll s.data.toList = Go.Lib.NumEnd.syntax) (ev : Value) (w : World) (hv : w.cell? ⟨3, 0, none⟩ = some ev) (hev : ev = .nilIface ∨ ∃ te pe, ev = .iface te pe) :
  Calls Tryz.prog 234 #[.string s] w fun e w' => ∃ N, e = .returned (.tuple #[.int .i64 (0), .iface 334 (.pointer (some ⟨N, 0, none⟩))]) ∧ w.heap.size ≤ N ∧ w'.heap[N]? = some (.cells #[.string ⟨#[65, 116, 111, 105]⟩, .string s, ev] 355 (0, 0)) ∧ Below w.heap.size w w' := Any.strconv_Atoi_syntax Tryz.laysC172 s hlim h ev w hv hev
open Go.RowKit in
theorem Tryz.strconv_Atoi_range (s : ByteArray) (hlim : s.size ≤ 281474976710656) (h : Lib.atoiAll s.data.toList = .range) (ev : Value) (w : World) (hv : w.cell? ⟨4, 0, none⟩ = some ev) (hev : ev = .nilIface ∨ ∃ te pe, ev = .iface te pe) :
  Calls Tryz.prog 234 #[.string s] w fun e w' => ∃ N, e = .returned (.tuple #[.int .i64 (Lib.atoiSat s.data.toList), .iface 334 (.pointer (some ⟨N, 0, none⟩))]) ∧ w.heap.size ≤ N ∧ w'.heap[N]? = some (.cells #[.string ⟨#[65, 116, 111, 105]⟩, .string s, ev] 355 (0, 0)) ∧ Below w.heap.size w w' := Any.strconv_Atoi_range Tryz.laysC172 s hlim h ev w hv hev
def Tryz.lays144_ren : Go.Shelf.Ren := ⟨fun | 144 => 95 | 143 => 74 | 219 => 116 | 217 => 184 | 225 => 185 | 224 => 186 | 267 => 187 | 266 => 241 | 314 => 242 | n => n, fun | 9 => 9 | 4 => 4 | 3 => 3 | 5 => 5 | 46 => 146 | 146 => 208 | 51 => 200 | n => n, fun | 1 => 0 | n => n⟩
theorem Tryz.lays144 : Go.Proofs.Lays.n144 Tryz.prog Tryz.lays144_ren := {
 mixed := by kernel_rfl
 f143 := Tryz.func74.trans (congrArg some (by kernel_rfl))
 f144 := Tryz.func95.trans (congrArg some (by kernel_rfl))
 f217 := Tryz.func184.trans (congrArg some (by kernel_rfl))
 f219 := Tryz.func116.trans (congrArg some (by kernel_rfl))
 f224 := Tryz.func186.trans (congrArg some (by kernel_rfl))
 f225 := Tryz.func185.trans (congrArg some (by kernel_rfl))
 f266 := Tryz.func241.trans (congrArg some (by kernel_rfl))
 f267 := Tryz.func187.trans (congrArg some (by kernel_rfl))
 f314 := Tryz.func242.trans (congrArg some (by kernel_rfl))
 t3 := Tryz.underlying3
 a3 := Tryz.isAgg3
 z3 := Tryz.sizeOf3
 v3 := Tryz.zeroValue3
 t4 := Tryz.underlying4
 a4 := Tryz.isAgg4
 z4 := Tryz.sizeOf4
 v4 := Tryz.zeroValue4
 t5 := Tryz.underlying5
 a5 := Tryz.isAgg5
 z5 := Tryz.sizeOf5
 v5 := Tryz.zeroValue5
 t9 := Tryz.underlying9
 a9 := Tryz.isAgg9
 z9 := Tryz.sizeOf9
 v9 := Tryz.zeroValue9
 t46 := Tryz.underlying146
 a46 := Tryz.isAgg146
 z46 := Tryz.sizeOf146
 v46 := Tryz.zeroValue146
 t51 := Tryz.underlying200
 a51 := Tryz.isAgg200
 z51 := Tryz.sizeOf200
 v51 := Tryz.zeroValue200
 t146 := Tryz.underlying208
 a146 := Tryz.isAgg208
 z146 := Tryz.sizeOf208
 v146 := Tryz.zeroValue208
 g1 := by kernel_rfl }
open Go.RowKit Go.Lib in
theorem Tryz.strings_Contains_one (s : ByteArray) (c : UInt8) (w : World) :
  Calls Tryz.prog 95 #[.string s, .string ⟨#[c]⟩] w fun e w' => e = .returned (.bool (decide (0 ≤ Lib.indexByte s.data.toList c))) ∧ w' = w := Any.strings_Contains_one Tryz.lays144 s c w
def Tryz.lays99_ren : Go.Shelf.Ren := ⟨fun | 99 => 120 | 206 => 189 | n => n, fun | 9 => 9 | 4 => 4 | 3 => 3 | n => n, fun | n => n⟩
theorem Tryz.lays99 : Go.Proofs.Lays.n99 Tryz.prog Tryz.lays99_ren := {
 mixed := by kernel_rfl
 f99 := Tryz.func120.trans (congrArg some (by kernel_rfl))
 f206 := Tryz.func189.trans (congrArg some (by kernel_rfl))
 t3 := Tryz.underlying3
 a3 := Tryz.isAgg3
 z3 := Tryz.sizeOf3
 v3 := Tryz.zeroValue3
 t4 := Tryz.underlying4
 a4 := Tryz.isAgg4
 z4 := Tryz.sizeOf4
 v4 := Tryz.zeroValue4
 t9 := Tryz.underlying9
 a9 := Tryz.isAgg9
 z9 := Tryz.sizeOf9
 v9 := Tryz.zeroValue9 }
open Go.RowKit Go.Lib in
theorem Tryz.strings_HasPrefix (s p : ByteArray) (w : World) :
  Calls Tryz.prog 120 #[.string s, .string p] w fun e w' => e = .returned (.bool (Lib.hasPrefix s.data.toList p.data.toList)) ∧ w' = w := Any.strings_HasPrefix Tryz.lays99 s p w
def Tryz.lays157_ren : Go.Shelf.Ren := ⟨fun | 157 => 218 | 229 => 269 | 199 => 270 | 261 => 313 | 311 => 338 | 312 => 339 | n => n, fun | 9 => 9 | 31 => 255 | 3 => 3 | 5 => 5 | 4 => 4 | 119 => 300 | 0 => 0 | 40 => 302 | 152 => 323 | 21 => 21 | 154 => 325 | 51 => 200 | 141 => 327 | 196 => 342 | 193 => 339 | 198 => 345 | 49 => 343 | 194 => 340 | 201 => 348 | 226 => 359 | 46 => 146 | 227 => 360 | n => n, fun | 0 => 1 | 6 => 2 | n => n⟩
theorem Tryz.lays157 : Go.Proofs.Lays.n157 Tryz.prog Tryz.lays157_ren := {
 mixed := by kernel_rfl
 f157 := Tryz.func218.trans (congrArg some (by kernel_rfl))
 f199 := Tryz.func270.trans (congrArg some (by kernel_rfl))
 f229 := Tryz.func269.trans (congrArg some (by kernel_rfl))
 f261 := Tryz.func313.trans (congrArg some (by kernel_rfl))
 f311 := Tryz.func338.trans (congrArg some (by kernel_rfl))
 f312 := Tryz.func339.trans (congrArg some (by kernel_rfl))
 t0 := Tryz.underlying0
 a0 := Tryz.isAgg0
 z0 := Tryz.sizeOf0
 v0 := Tryz.zeroValue0
 t3 := Tryz.underlying3
 a3 := Tryz.isAgg3
 z3 := Tryz.sizeOf3
 v3 := Tryz.zeroValue3
 t4 := Tryz.underlying4
 a4 := Tryz.isAgg4
 z4 := Tryz.sizeOf4
 v4 := Tryz.zeroValue4
 t5 := Tryz.underlying5
 a5 := Tryz.isAgg5
 z5 := Tryz.sizeOf5
 v5 := Tryz.zeroValue5
 t9 := Tryz.underlying9
 a9 := Tryz.isAgg9
 z9 := Tryz.sizeOf9
 v9 := Tryz.zeroValue9
 t21 := Tryz.underlying21
 a21 := Tryz.isAgg21
 z21 := Tryz.sizeOf21
 v21 := Tryz.zeroValue21
 t31 := Tryz.underlying255
 a31 := Tryz.isAgg255
 z31 := Tryz.sizeOf255
 v31 := Tryz.zeroValue255
 t40 := Tryz.underlying302
 a40 := Tryz.isAgg302
 z40 := Tryz.sizeOf302
 v40 := Tryz.zeroValue302
 t46 := Tryz.underlying146
 a46 := Tryz.isAgg146
 z46 := Tryz.sizeOf146
 v46 := Tryz.zeroValue146
 t49 := Tryz.underlying343
 a49 := Tryz.isAgg343
 z49 := Tryz.sizeOf343
 v49 := Tryz.zeroValue343
 t51 := Tryz.underlying200
 a51 := Tryz.isAgg200
 z51 := Tryz.sizeOf200
 v51 := Tryz.zeroValue200
 t119 := Tryz.underlying300
 a119 := Tryz.isAgg300
 z119 := Tryz.sizeOf300
 t141 := Tryz.underlying327
 a141 := Tryz.isAgg327
 z141 := Tryz.sizeOf327
 v141 := Tryz.zeroValue327
 t152 := Tryz.underlying323
 a152 := Tryz.isAgg323
 z152 := Tryz.sizeOf323
 v152 := Tryz.zeroValue323
 t154 := Tryz.underlying325
 a154 := Tryz.isAgg325
 z154 := Tryz.sizeOf325
 v154 := Tryz.zeroValue325
 t193 := Tryz.underlying339
 a193 := Tryz.isAgg339
 z193 := Tryz.sizeOf339
 v193 := Tryz.zeroValue339
 t194 := Tryz.underlying340
 a194 := Tryz.isAgg340
 z194 := Tryz.sizeOf340
 v194 := Tryz.zeroValue340
 t196 := Tryz.underlying342
 a196 := Tryz.isAgg342
 z196 := Tryz.sizeOf342
 v196 := Tryz.zeroValue342
 t198 := Tryz.underlying345
 a198 := Tryz.isAgg345
 z198 := Tryz.sizeOf345
 v198 := Tryz.zeroValue345
 t201 := Tryz.underlying348
 a201 := Tryz.isAgg348
 z201 := Tryz.sizeOf348
 v201 := Tryz.zeroValue348
 t226 := Tryz.underlying359
 a226 := Tryz.isAgg359
 z226 := Tryz.sizeOf359
 v226 := Tryz.zeroValue359
 t227 := Tryz.underlying360
 a227 := Tryz.isAgg360
 z227 := Tryz.sizeOf360
 v227 := Tryz.zeroValue360
 g0 := by kernel_rfl
 g6 := by kernel_rfl }
open Go.RowKit Go.Lib in
theorem Tryz.strings_Fields (s : ByteArray) (w : World) (hs : s.size < 4294967281) (hascii : ∀ (j : Nat) b, s.data.toList[j]? = some b → b.toNat < 128) (htab : Lib.TabIs Tryz.prog w "strings.asciiSpace" .u8 Lib.asciiSpaceTab) :
  Calls Tryz.prog 218 #[.string s] w fun e w' =>
   e = .returned (.slice (some ⟨w.heap.size, 0, none⟩) (Lib.fields s.data.toList).length (Lib.fields s.data.toList).length) ∧ w' = w.alloc (.cells ((Lib.fields s.data.toList).map fun l => Value.string ⟨l.toArray⟩).toArray 9) := Any.strings_Fields Tryz.lays157 (by kernel_rfl) (by kernel_rfl) s w hs hascii htab
def Tryz.lays107_ren : Go.Shelf.Ren := ⟨fun | 107 => 118 | 108 => 188 | n => n, fun | 28 => 86 | 3 => 3 | 4 => 4 | 0 => 0 | n => n, fun | n => n⟩
theorem Tryz.lays107 : Go.Proofs.Lays.n107 Tryz.prog Tryz.lays107_ren := {
 mixed := by kernel_rfl
 f107 := Tryz.func118.trans (congrArg some (by kernel_rfl))
 f108 := Tryz.func188.trans (congrArg some (by kernel_rfl))
 t0 := Tryz.underlying0
 a0 := Tryz.isAgg0
 z0 := Tryz.sizeOf0
 v0 := Tryz.zeroValue0
 t3 := Tryz.underlying3
 a3 := Tryz.isAgg3
 z3 := Tryz.sizeOf3
 v3 := Tryz.zeroValue3
 t4 := Tryz.underlying4
 a4 := Tryz.isAgg4
 z4 := Tryz.sizeOf4
 v4 := Tryz.zeroValue4
 t28 := Tryz.underlying86
 a28 := Tryz.isAgg86
 z28 := Tryz.sizeOf86
 v28 := Tryz.zeroValue86 }
open Go.Lib in
theorem Tryz.slices_Contains_int (b off n c : Nat) (zs : List Int) (x : Int) (w : World) (hz : n ≤ zs.length) (hbig : n ≤ 9223372036854775807) (hc : ∀ j, j < zs.length → w.cell? ⟨b, off + j, none⟩ = some (.int .i64 (zs.getD j 0))) :
  Calls Tryz.prog 118 #[.slice (some ⟨b, off, none⟩) n c, .int .i64 x] w fun e w' => e = .returned (.bool ((zs.take n).contains x)) ∧ w' = w := Any.slices_Contains_int Tryz.lays107 b off n c zs x w hz hbig hc
def Tryz.lays109_ren : Go.Shelf.Ren := ⟨fun | 109 => 217 | n => n, fun | 31 => 255 | 9 => 9 | 3 => 3 | 0 => 0 | 4 => 4 | n => n, fun | n => n⟩
theorem Tryz.lays109 : Go.Proofs.Lays.n109 Tryz.prog Tryz.lays109_ren := {
 mixed := by kernel_rfl
 f109 := Tryz.func217.trans (congrArg some (by kernel_rfl))
 t0 := Tryz.underlying0
 a0 := Tryz.isAgg0
 z0 := Tryz.sizeOf0
 v0 := Tryz.zeroValue0
 t3 := Tryz.underlying3
 a3 := Tryz.isAgg3
 z3 := Tryz.sizeOf3
 v3 := Tryz.zeroValue3
 t4 := Tryz.underlying4
 a4 := Tryz.isAgg4
 z4 := Tryz.sizeOf4
 v4 := Tryz.zeroValue4
 t9 := Tryz.underlying9
 a9 := Tryz.isAgg9
 z9 := Tryz.sizeOf9
 v9 := Tryz.zeroValue9
 t31 := Tryz.underlying255
 a31 := Tryz.isAgg255
 z31 := Tryz.sizeOf255
 v31 := Tryz.zeroValue255 }
open Go.Lib in
theorem Tryz.slices_Index_string (b off n c : Nat) (zs : List ByteArray) (x : ByteArray) (w : World) (hz : n ≤ zs.length) (hbig : n ≤ 9223372036854775807) (hc : ∀ j, j < zs.length → w.cell? ⟨b, off + j, none⟩ = some (.string (zs.getD j ByteArray.empty))) :
  Calls Tryz.prog 217 #[.slice (some ⟨b, off, none⟩) n c, .string x] w fun e w' => e = .returned (.int .i64 (Lib.idxOfS (zs.take n) x)) ∧ w' = w := Any.slices_Index_string Tryz.lays109 b off n c zs x w hz hbig hc
end Go.Proofs
namespace Go.Proofs.YtmoelofaojgjfaaGreatDoor.Par
open Go.RowKit Go.Proofs.YtmoelofaojgjfaaGreatDoorW.PrintWords Go.Proofs.YtmoelofaojgjfaaGreatDoorW.PrintLast
theorem zdv {W : World} {g : Nat} {t : TypeId} {fr : Nat × Nat} (l : List ByteArray) (hl : l.length ≤ 1000) (h : W.heap[g]? = some (.cells (l.map Value.string).toArray t fr)) : Kd.C Kd.string W (some ⟨g, 0, none⟩) l.length l := by
 refine ⟨rfl, by omega, fun _ => ⟨_, rfl, fun j p hp => ⟨[.string p], rfl, rfl, fun i u hu => ?_⟩⟩⟩
 have hj := (List.getElem?_eq_some_iff.1 hp).1
 cases i with
 | zero =>
  simp only [List.getElem?_cons_zero, Option.some.injEq] at hu
  subst hu
  have hz : Kd.string.sz = 1 := rfl
  have : (Addr.add ⟨g, 0, none⟩ (j * Kd.string.sz + 0)) = ⟨g, j, none⟩ := by
   rw [Addr.add_lit, hz]
   congr 1
   omega
  rw [this]
  have h3 : W.cell? ⟨g, j, none⟩ = (l.map Value.string).toArray[j]? := by
   unfold World.cell?
   simp only [h]
   rfl
  rw [h3]
  simp [hp]
 | succ i => simp at hu
def Post (B : Nat) (T : List Tok) (tv : Value) (pb : Nat) (W : World) (low : List Tree) (kd : Int) (tx : ByteArray) (F : List Nat) (v : Value) (s : St) : Ending → World → Prop := fun e W' =>
 e = .returned v ∧ ∃ F', PS 186 128 B T tv pb W' s.1 (low ++ [.mk kd tx s.2]) F' ∧ Fr pb F F' W W'
theorem zby {T : List Tok} {s : St} {l : List ByteArray} (h : atT T s.1 l = true) : zbq T s l = zz T s := if_pos h
theorem zbz {T : List Tok} {s : St} {l : List ByteArray} (h : atT T s.1 l = false) : zbq T s l = s := if_neg (by rw [h]; simp)
theorem zva {T : List Tok} {s : St} {t : ByteArray} (h : atT T s.1 [t] = true) : zx T t s = zz T s := if_pos h
theorem zvb {T : List Tok} {s : St} {t : ByteArray} (h : atT T s.1 [t] = false) : zx T t s = zev s := if_neg (by rw [h]; simp)
theorem zpt {T : List Tok} {s : St} (h : idT T s.1 = true) : zao T s = zz T s := if_pos h
theorem zpu {T : List Tok} {s : St} (h : idT T s.1 = false) : zao T s = zev s := if_neg (by rw [h]; simp)
end Go.Proofs.YtmoelofaojgjfaaGreatDoor.Par
namespace Go.Proofs.YtmoelofaojgjfaaGreatDoor.Par
open Go.RowKit Go.Proofs.YtmoelofaojgjfaaGreatDoorW.PrintWords Go.Proofs.YtmoelofaojgjfaaGreatDoorW.PrintLast
variable {B : Nat} {T : List Tok} {tv : Value} {pb : Nat} {W : World} {pos : Nat} {low : List Tree} {kd : Int} {tx : ByteArray} {ks : List Tree} {F : List Nat}
theorem zia (hT : T.length ≤ 100000) (hp : pos ≤ T.length) (h : PS 186 128 B T tv pb W pos (low ++ [.mk kd tx ks]) F) (hsm : low.length + ks.length ≤ 100000000)
  {l : List ByteArray} {A : Option Addr} {c : Nat} (hl : l.length ≤ 1000) (hr : Kd.C Kd.string W A l.length l) (hc : l.length ≤ c) :
  Calls Tryz.prog 148 #[.pointer (some ⟨pb, 0, none⟩), .slice A l.length c] W (Post B T tv pb W low kd tx F (.bool (atT T pos l)) (zbq T (pos, ks) l)) := by
 go_enter Tryz.func148, Tryz.ntmps148
 have H0 := ak h
 have HR := ak hr
 have HC := ak hc
 clear h hr hc
 go_wp2_with fail
 refine (zhi hT hp H0.out hl HR.out HC.out).mono ?_
 rintro e W1 ⟨rfl, hb1⟩
 have H1 := ak (H0.out.below hb1)
 have HB1 := ak (Fr.of_below (pb := pb) (F := F) hb1)
 clear hb1
 cases hat : atT T pos l
 ·have HAT := ak hat
  go_wp2_with fail
  go_ret
  exact ⟨by rw [HAT.out]; rfl, F, by rw [zbz HAT.out]; exact H1.out, HB1.out⟩
 ·have HAT := ak hat
  go_wp2_with fail
  refine (zf6 hT hp H1.out hsm).mono ?_
  rintro e W2 ⟨rfl, F2, h2, f2⟩
  have H2 := ak (And.intro h2 (HB1.out.trans f2))
  clear h2 f2
  go_wp2_with fail
  go_ret
  exact ⟨by rw [HAT.out]; rfl, F2, by rw [zby HAT.out]; exact H2.out.1, H2.out.2⟩
theorem zjx (h : PS 186 128 B T tv pb W pos (low ++ [.mk kd tx ks]) F) (hsm : low.length + ks.length ≤ 1000000000) :
  Calls Tryz.prog 288 #[.pointer (some ⟨pb, 0, none⟩)] W (Post B T tv pb W low kd tx F (.tuple #[]) (ze5 (pos, ks))) := by
 go_enter Tryz.func288, Tryz.ntmps288
 have H0 := ak h
 clear h
 go_wp2_with fail
 refine (zf1 (.mk 46 zj []) H0.out (hv := .slice none 0 0) (Ft := []) (zon _ _ _) (by rw [List.append_nil]; exact H0.out.nd) (by simp) hsm).mono ?_
 rintro e W3 ⟨rfl, F3, h3, f3⟩
 rw [List.append_nil] at f3
 have H3 := ak (And.intro h3 f3)
 clear h3 f3
 go_wp2_with fail
 go_end0
 exact ⟨rfl, F3, H3.out⟩
theorem zfc (h : PS 186 128 B T tv pb W pos (low ++ [.mk kd tx ks]) F) (hsm : low.length + ks.length ≤ 1000000000) :
  Calls Tryz.prog 281 #[.pointer (some ⟨pb, 0, none⟩)] W (Post B T tv pb W low kd tx F (.tuple #[]) (zev (pos, ks))) := by
 go_enter Tryz.func281, Tryz.ntmps281
 have H0 := ak h
 clear h
 go_wp2_with fail
 refine (zf1 (.mk 108 zj []) H0.out (hv := .slice none 0 0) (Ft := []) (zon _ _ _) (by rw [List.append_nil]; exact H0.out.nd) (by simp) hsm).mono ?_
 rintro e W3 ⟨rfl, F3, h3, f3⟩
 rw [List.append_nil] at f3
 have H3 := ak (And.intro h3 f3)
 clear h3 f3
 go_wp2_with fail
 go_end0
 exact ⟨rfl, F3, H3.out⟩
theorem zom (h : PS 186 128 B T tv pb W pos (low ++ [.mk kd tx ks]) F) (hsm : low.length + ks.length ≤ 1000000000) :
  Calls Tryz.prog 274 #[.pointer (some ⟨pb, 0, none⟩)] W (Post B T tv pb W low kd tx F (.tuple #[]) (ze0 (pos, ks))) := by
 go_enter Tryz.func274, Tryz.ntmps274
 have H0 := ak h
 clear h
 go_wp2_with fail
 refine (zf1 (.mk 0 zj []) H0.out (hv := .slice none 0 0) (Ft := []) (zon _ _ _) (by rw [List.append_nil]; exact H0.out.nd) (by simp) hsm).mono ?_
 rintro e W3 ⟨rfl, F3, h3, f3⟩
 rw [List.append_nil] at f3
 have H3 := ak (And.intro h3 f3)
 clear h3 f3
 go_wp2_with fail
 go_end0
 exact ⟨rfl, F3, H3.out⟩
theorem zns (hT : T.length ≤ 100000) (hp : pos ≤ T.length) (h : PS 186 128 B T tv pb W pos (low ++ [.mk kd tx ks]) F) (hsm : low.length + ks.length ≤ 100000000) (text : ByteArray) :
  Calls Tryz.prog 228 #[.pointer (some ⟨pb, 0, none⟩), .string text] W (Post B T tv pb W low kd tx F (.tuple #[]) (zx T text (pos, ks))) := by
 go_enter Tryz.func228, Tryz.ntmps228
 have H0 := ak h
 clear h
 go_wp2_with fail
 refine (zia (l := [text]) hT hp (H0.out.below (zh (Below.refl _ _) _)) hsm (by simp) (zdv [text] (by simp) (zaj W _)) (Nat.le_refl _)).mono ?_
 rintro e W1 ⟨rfl, F1, h1, f1⟩
 have H1 := ak (And.intro h1 ((Fr.of_below (pb := pb) (F := F) (zh (Below.refl _ _) _)).trans f1))
 clear h1 f1
 cases hat : atT T pos [text]
 ·have HAT := ak hat
  have h1 := H1.out.1
  rw [zbz hat] at h1
  have H1' := ak (And.intro h1 H1.out.2)
  clear h1 H1
  go_wp2_with fail
  refine (zfc H1'.out.1 (by omega)).mono ?_
  rintro e W2 ⟨rfl, F2, h2, f2⟩
  have H2 := ak (And.intro h2 (H1'.out.2.trans f2))
  clear h2 f2
  go_wp2_with fail
  go_end0
  exact ⟨rfl, F2, by rw [zvb HAT.out]; exact H2.out.1, H2.out.2⟩
 ·have HAT := ak hat
  have h1 := H1.out.1
  rw [zby hat] at h1
  have H1' := ak (And.intro h1 H1.out.2)
  clear h1 H1
  go_wp2_with fail
  go_end0
  exact ⟨rfl, F1, by rw [zva HAT.out]; exact H1'.out.1, H1'.out.2⟩
theorem zj2 (hT : T.length ≤ 100000) (hp : pos ≤ T.length) (h : PS 186 128 B T tv pb W pos (low ++ [.mk kd tx ks]) F) (hsm : low.length + ks.length ≤ 100000000) :
  Calls Tryz.prog 225 #[.pointer (some ⟨pb, 0, none⟩)] W (Post B T tv pb W low kd tx F (.tuple #[]) (zao T (pos, ks))) := by
 go_enter Tryz.func225, Tryz.ntmps225
 have H0 := ak h
 clear h
 go_wp2_with fail
 refine (zgl hT hp H0.out).mono ?_
 rintro e W1 ⟨rfl, hb1⟩
 have H1 := ak (H0.out.below hb1)
 have HB1 := ak (Fr.of_below (pb := pb) (F := F) hb1)
 clear hb1
 cases hat : idT T pos
 ·have HAT := ak hat
  go_wp2_with fail
  refine (zfc H1.out (by omega)).mono ?_
  rintro e W2 ⟨rfl, F2, h2, f2⟩
  have H2 := ak (And.intro h2 (HB1.out.trans f2))
  clear h2 f2
  go_wp2_with fail
  go_end0
  exact ⟨rfl, F2, by rw [zpu HAT.out]; exact H2.out.1, H2.out.2⟩
 ·have HAT := ak hat
  go_wp2_with fail
  refine (zf6 hT hp H1.out hsm).mono ?_
  rintro e W2 ⟨rfl, F2, h2, f2⟩
  have H2 := ak (And.intro h2 (HB1.out.trans f2))
  clear h2 f2
  go_wp2_with fail
  go_end0
  exact ⟨rfl, F2, by rw [zpt HAT.out]; exact H2.out.1, H2.out.2⟩
end Go.Proofs.YtmoelofaojgjfaaGreatDoor.Par
namespace Go.Proofs.YtmoelofaojgjfaaGreatDoor.Par
open Go.RowKit Go.Proofs.YtmoelofaojgjfaaGreatDoorW.PrintWords Go.Proofs.YtmoelofaojgjfaaGreatDoorW.PrintLast
def zi7 : ByteArray := ⟨#[117, 115, 101, 32, 112, 117, 98, 32, 102, 110, 32, 115, 116, 114, 117, 99, 116, 32, 101, 110, 117, 109, 32, 116, 114, 97, 105, 116, 32, 105, 109, 112, 108, 32, 99, 111, 110, 115, 116, 32, 109, 97, 99, 114, 111]⟩
theorem zlm : (Lib.fields zi7.data.toList).map (fun l => Value.string ⟨l.toArray⟩) = zei.map Value.string := by kernel_rfl
theorem zr3 : (Lib.fields zi7.data.toList).length = 9 := by kernel_rfl
theorem zm3 : ∀ (j : Nat) b, zi7.data.toList[j]? = some b → b.toNat < 128 := by
 have h : zi7.data.toList.all (fun b => decide (b.toNat < 128)) = true := by kernel_rfl
 intro j b hb
 exact odt (List.all_eq_true.1 h b (List.mem_of_getElem? hb))
theorem zpf : zi7.size < 4294967281 := by
 have : zi7.size = 45 := by kernel_rfl
 omega
end Go.Proofs.YtmoelofaojgjfaaGreatDoor.Par
namespace Go.Proofs.YtmoelofaojgjfaaGreatDoor.Par
open Go.RowKit Go.Proofs.YtmoelofaojgjfaaGreatDoorW.PrintWords Go.Proofs.YtmoelofaojgjfaaGreatDoorW.PrintLast
variable {B : Nat} {T : List Tok} {tv : Value} {pb : Nat} {W : World} {pos : Nat} {stk : List Tree} {low : List Tree} {kd : Int} {tx : ByteArray} {ks : List Tree} {F : List Nat}
theorem zqn (W : World) (h : Spc W) :
  Calls Tryz.prog 220 #[] W fun e W' => e = .returned (.slice (some ⟨W.heap.size, 0, none⟩) zei.length 9) ∧ Below W.heap.size W W' ∧ W'.heap[W.heap.size]? = some (.cells (zei.map Value.string).toArray 9 (0, 0)) := by
 go_enter Tryz.func220, Tryz.ntmps220
 have H := ak h
 clear h
 go_wp2_with fail
 refine (Tryz.strings_Fields zi7 W zpf zm3 H.out).mono ?_
 rintro e W1 ⟨rfl, rfl⟩
 rw [zlm, zr3]
 go_wp2_with fail
 go_ret
 exact ⟨rfl, zh (Below.refl _ _) _, zaj W _⟩
theorem zoh (hT : T.length ≤ 100000) (hp : pos ≤ T.length) (h : PS 186 128 B T tv pb W pos stk F) :
  Calls Tryz.prog 318 #[.pointer (some ⟨pb, 0, none⟩)] W fun e W' => e = .returned (.bool (zea T pos)) ∧ Below W.heap.size W W' := by
 go_enter Tryz.func318, Tryz.ntmps318
 have H0 := ak h
 clear h
 go_wp2_with fail
 refine (zqn W H0.out.spc).mono ?_
 rintro e W1 ⟨rfl, hb1, hk1⟩
 have H1 := ak (And.intro (H0.out.below hb1) (And.intro hb1 (zdv zei (by decide) hk1)))
 clear hb1 hk1
 go_wp2_with fail
 refine (zhi (l := zei) hT hp H1.out.1 (by decide) H1.out.2.2 (by decide)).mono ?_
 rintro e W2 ⟨rfl, hb2⟩
 have H2 := ak (And.intro (H1.out.1.below hb2) (zbi H1.out.2.1 hb2))
 clear hb2 H1
 cases hat : atT T pos zei
 ·have HAT := ak hat
  go_wp2_with fail
  go_ret
  exact ⟨by unfold zea; rw [HAT.out]; rfl, H2.out.2⟩
 ·have HAT := ak hat
  go_wp2_with fail
  refine (zhi (l := [⟨#[102, 110]⟩]) hT hp (H2.out.1.below (zh (Below.refl _ _) _)) (by simp) (zdv [⟨#[102, 110]⟩] (by simp) (zaj W2 _)) (Nat.le_refl _)).mono ?_
  rintro e W3 ⟨rfl, hb3⟩
  have H3 := ak (zbi (zbi H2.out.2 (zh (Below.refl _ _) _)) hb3)
  clear hb3
  cases hfn : atT T pos [⟨#[102, 110]⟩]
  ·have HI := ak (show zea T pos = true by unfold zea; rw [HAT.out]; exact congrArg (fun b => true && !b) hfn)
   go_wp2_with fail
   go_ret
   exact ⟨by rw [HI.out]; rfl, H3.out⟩
  ·have HI := ak (show zea T pos = false by unfold zea; rw [HAT.out]; exact congrArg (fun b => true && !b) hfn)
   go_wp2_with fail
   go_ret
   exact ⟨by rw [HI.out]; rfl, H3.out⟩
end Go.Proofs.YtmoelofaojgjfaaGreatDoor.Par
namespace Go.Proofs.YtmoelofaojgjfaaGreatDoor.Par
open Go.RowKit Go.Proofs.YtmoelofaojgjfaaGreatDoorW.PrintWords Go.Proofs.YtmoelofaojgjfaaGreatDoorW.PrintLast
theorem zv3 {W : World} {B e g : Nat} {t : Tree} {x y z : Value} {Ft : List Nat} (hg : B ≤ g) (h : W.heap[g]? = some (.cells #[x, y, z] e (0, 0))) (ht : TC W B e t [x, y, z] Ft) : TR W B e [t] (.slice (some ⟨g, 0, none⟩) 1 1) (g :: Ft) := by
 refine ⟨[x, y, z], Ft, ⟨rfl, .inr ⟨g, 1, #[x, y, z], rfl, hg, h, Nat.le_refl _, by decide, rfl, rfl⟩⟩, rfl, ?_⟩
 simp only [TL]
 exact ⟨[x, y, z], [], Ft, [], rfl, by simp, ht, rfl, rfl⟩
theorem zmc {W : World} {B e : Nat} {kd : Int} {tx : ByteArray} : TC W B e (.mk kd tx []) [.int .i64 kd, .string tx, .slice none 0 0] [] := zih.2 ⟨_, rfl, zon W B e⟩
end Go.Proofs.YtmoelofaojgjfaaGreatDoor.Par
namespace Go.Proofs.YtmoelofaojgjfaaGreatDoor.Par
open Go.RowKit Go.Proofs.YtmoelofaojgjfaaGreatDoorW.PrintWords Go.Proofs.YtmoelofaojgjfaaGreatDoorW.PrintLast
variable {B : Nat} {T : List Tok} {tv : Value} {pb : Nat} {W : World} {pos : Nat} {stk : List Tree} {low : List Tree} {kd : Int} {tx : ByteArray} {ks : List Tree} {F : List Nat}
theorem zkm (hT : T.length ≤ 100000) (hp : pos ≤ T.length) (h : PS 186 128 B T tv pb W pos stk F) :
  Calls Tryz.prog 143 #[.pointer (some ⟨pb, 0, none⟩)] W fun e W' => ∃ qb, e = .returned (.pointer (some ⟨qb, 0, none⟩)) ∧ Below W.heap.size W W' ∧ ∃ sq Fq, PS 186 128 W.heap.size T tv qb W' (zb1 T pos) sq Fq := by
 go_enter Tryz.func143, Tryz.ntmps143
 have H0 := ak h
 obtain ⟨A, c, rfl, _⟩ := h.toks
 obtain ⟨o0, o1, _, _⟩ := h.cells
 clear h
 go_wp2_with fail
 go_region_held3 (fun w' => w'.cell? ⟨pb, 0, none⟩ = some (.slice A T.length c) ∧ w'.cell? ⟨pb, 1, none⟩ = some (.int .i64 (pos : Int))) (go_keep) (fail)
 obtain ⟨W1, hW1⟩ : ∃ W1, ((W.alloc (Obj.cells #[Value.int IntKind.i64 0, Value.string { data := #[] }, Value.slice none 0 0] 128)).alloc (Obj.cells #[Value.slice A T.length c, Value.int IntKind.i64 ↑pos, Value.slice (some { block := W.heap.size, off := 0 }) 1 1] 186)).drew = W1 := ⟨_, rfl⟩
 have HB1 := ak (show Below W.heap.size W W1 by rw [← hW1]; exact zae (zh (zh (Below.refl _ _) _) _))
 have HQ := ak (show PS 186 128 W.heap.size T (.slice A T.length c) (W.heap.size + 1) W1 pos ([] ++ [.mk 0 zj []]) [W.heap.size] by
  have g0 : W1.heap[W.heap.size]? = some (.cells #[.int .i64 0, .string ⟨#[]⟩, .slice none 0 0] 128 (0, 0)) := by
   rw [← hW1]
   exact zdp (za5 (zaj W _) _)
  have g1 : W1.heap[W.heap.size + 1]? = some (.cells #[.slice A T.length c, .int .i64 (pos : Int), .slice (some ⟨W.heap.size, 0, none⟩) 1 1] 186 (0, 0)) := by
   rw [← hW1]
   refine zdp ?_
   have := zaj (W.alloc (Obj.cells #[Value.int IntKind.i64 0, Value.string { data := #[] }, Value.slice none 0 0] 128)) (Obj.cells #[Value.slice A T.length c, Value.int IntKind.i64 ↑pos, Value.slice (some { block := W.heap.size, off := 0 }) 1 1] 186)
   rw [World.size_alloc] at this
   exact this
  obtain ⟨Wt, t1, t2, t3⟩ := H0.out.tok
  have hge := H0.out.ge
  have hlt : pb < W.heap.size := by
   obtain ⟨_, h1, _⟩ := H0.out.obj
   exact (Array.getElem?_eq_some_iff.1 h1).1
  exact ⟨⟨_, g1, zv3 (Nat.le_refl _) g0 zmc⟩, by simp, by simp, by omega, Wt, by omega, t2, t3.trans (HB1.out.mono (by omega))⟩)
 rw [hW1]
 clear hW1 o0 o1
 go_wp2_with fail
 refine (zf6 hT hp HQ.out (by simp)).mono ?_
 rintro e W2 ⟨rfl, F2, h2, f2⟩
 have H2 := ak (And.intro h2 (show Below W.heap.size W W2 from HB1.out.trans (f2.below (by omega) (by simp) HB1.out.size)))
 clear h2 f2
 go_wp2_with fail
 go_ret
 exact ⟨_, rfl, H2.out.2, _, F2, H2.out.1⟩
end Go.Proofs.YtmoelofaojgjfaaGreatDoor.Par
namespace Go.Proofs.YtmoelofaojgjfaaGreatDoor.Par
open Go.RowKit
variable {tp te B : Nat} {T : List Tok} {tv : Value} {pb : Nat} {W : World} {pos : Nat} {stk : List Tree} {F : List Nat}
theorem PS.tokBelow (h : PS tp te B T tv pb W pos stk F) {W' : World} {G G' : List Nat} (f : Fr pb G G' W W') (hG : ∀ g ∈ G, B ≤ g) : ∃ Wt : World, Wt.heap.size ≤ B ∧ (zma Wt T tv ∧ Spc Wt) ∧ Below Wt.heap.size Wt W' := by
 obtain ⟨Wt, t1, t2, t3⟩ := h.tok
 obtain ⟨sv, h1, _⟩ := h.obj
 have hlt := (Array.getElem?_eq_some_iff.1 h1).1
 have := h.ge
 exact ⟨Wt, t1, t2, t3.trans ((f.below h.ge hG (by omega)).mono t1)⟩
theorem PS.push_mem {W1 : World} {sv v1 : Value} {cs c : List Value} {Fs Ft : List Nat} {t : Tree}
  (h : PS tp te B T tv pb W pos stk (own1 sv ++ Fs)) (hpb : W.heap[pb]? = some (.cells #[tv, .int .i64 (pos : Int), sv] tp (0, 0))) (hcs : TL W B te stk cs Fs)
  (ht : TC W B te t c Ft) (hN : ((own1 sv ++ Fs) ++ Ft).Nodup) (hpt : pb ∉ Ft)
  (hv : W1.ownsRow B te 3 v1 (stk.length + 1) (cs ++ c)) (hat : v1.ownBlock = sv.ownBlock ∨ ∃ b, v1.ownBlock = some b ∧ W.heap.size ≤ b)
  (ho1 : W1.os = W.os) (ho2 : W1.tape = W.tape) (ho3 : W1.output = W.output) (hsz : W.heap.size ≤ W1.heap.size) (hkp : ∀ g, g < W.heap.size → some g ≠ sv.ownBlock → W1.heap[g]? = W.heap[g]?) :
  ∃ F', PS tp te B T tv pb (W1.setCell ⟨pb, 2, none⟩ v1) pos (stk ++ [t]) F' ∧ Fr pb ((own1 sv ++ Fs) ++ Ft) F' W (W1.setCell ⟨pb, 2, none⟩ v1) := by
 have nd := zbn.1 hN
 have nF := zbn.1 nd.1
 have bF : ∀ g ∈ own1 sv ++ Fs, B ≤ g ∧ g < W.heap.size := h.rowsGe
 have bT : ∀ g ∈ Ft, B ≤ g ∧ g < W.heap.size := fun g hg => ⟨(zhl t c Ft ht g hg).1, (zhl t c Ft ht g hg).2.1⟩
 have hpbs : pb < W.heap.size := (Array.getElem?_eq_some_iff.1 hpb).1
 have hpF := h.pbF
 have hpsv : some pb ≠ sv.ownBlock := fun e => hpF (List.mem_append_left _ (zas.2 e.symm))
 have hv1 : ∀ g ∈ own1 v1, g ∈ own1 sv ∨ W.heap.size ≤ g := by
  intro g hg
  rcases hat with e | ⟨b, e, hb⟩
  ·left
   rw [zas] at hg ⊢
   rw [← e]
   exact hg
  ·right
   rw [zas, e] at hg
   injection hg with hg
   omega
 have hpv1 : pb ∉ own1 v1 := fun hh => by
  rcases hv1 pb hh with h1 | h1
  ·exact hpF (List.mem_append_left _ h1)
  ·omega
 have hset : ∀ g, g ≠ pb → (W1.setCell ⟨pb, 2, none⟩ v1).heap[g]? = W1.heap[g]? := fun g hg => Below.heap_setCell W1 ⟨pb, 2, none⟩ v1 g hg
 have hkeep : ∀ g, g < W.heap.size → some g ≠ sv.ownBlock → g ≠ pb → (W1.setCell ⟨pb, 2, none⟩ v1).heap[g]? = W.heap[g]? := fun g h1 h2 h3 => (hset g h3).trans (hkp g h1 h2)
 have kS : ∀ g ∈ Fs, (W1.setCell ⟨pb, 2, none⟩ v1).heap[g]? = W.heap[g]? := fun g hg => hkeep g (bF g (List.mem_append_right _ hg)).2 (fun e => nF.2.2 g (zas.2 e.symm) hg) (fun e => hpF (List.mem_append_right _ (e ▸ hg)))
 have kT : ∀ g ∈ Ft, (W1.setCell ⟨pb, 2, none⟩ v1).heap[g]? = W.heap[g]? := fun g hg => hkeep g (bT g hg).2 (fun e => nd.2.2 g (List.mem_append_left _ (zas.2 e.symm)) hg) (fun e => hpt (e ▸ hg))
 have hmem : ∀ g ∈ own1 v1 ++ (Fs ++ Ft), g ∈ (own1 sv ++ Fs) ++ Ft ∨ W.heap.size ≤ g := by
  intro g hg
  rcases List.mem_append.1 hg with hg | hg
  ·rcases hv1 g hg with h1 | h1
   ·exact .inl (List.mem_append_left _ (List.mem_append_left _ h1))
   ·exact .inr h1
  ·rcases List.mem_append.1 hg with hg | hg
   ·exact .inl (List.mem_append_left _ (List.mem_append_right _ hg))
   ·exact .inl (List.mem_append_right _ hg)
 have hfr : Fr pb ((own1 sv ++ Fs) ++ Ft) (own1 v1 ++ (Fs ++ Ft)) W (W1.setCell ⟨pb, 2, none⟩ v1) :=
  ⟨ho1, ho2, ho3, by simpa [World.setCell] using hsz, fun g h1 h2 h3 => hkeep g h1 (fun e => h3 (List.mem_append_left _ (List.mem_append_left _ (zas.2 e.symm)))) h2, hmem⟩
 refine ⟨_, ⟨⟨v1, ?_, ⟨cs ++ c, Fs ++ Ft, ?_, rfl, zeq stk [t] cs c Fs Ft (zc1 stk cs Fs hcs kS) (zoo (zp7 t c Ft ht kT))⟩⟩, ?_, ?_, h.ge, h.tokBelow hfr ?_⟩, hfr⟩
 ·have hb : W1.heap[pb]? = some (.cells #[tv, .int .i64 (pos : Int), sv] tp (0, 0)) := (hkp pb hpbs hpsv).trans hpb
  simp [World.setCell, Array.getElem?_modify, hb]
 ·rw [List.length_append, List.length_singleton]
  exact za7 hv (fun g hg => hset g (fun e => hpv1 (e ▸ hg)))
 ·rw [zbn, zbn]
  refine ⟨zhr _, ⟨nF.2.1, nd.2.1, fun x hx hx2 => nd.2.2 x (List.mem_append_right _ hx) hx2⟩, fun x hx hx2 => ?_⟩
  have hlt : x < W.heap.size := by
   rcases List.mem_append.1 hx2 with hh | hh
   ·exact (bF x (List.mem_append_right _ hh)).2
   ·exact (bT x hh).2
  rcases hv1 x hx with h1 | h1
  ·rcases List.mem_append.1 hx2 with hh | hh
   ·exact nF.2.2 x h1 hh
   ·exact nd.2.2 x (List.mem_append_left _ h1) hh
  ·omega
 ·intro hh
  rcases hmem pb hh with h1 | h1
  ·rcases List.mem_append.1 h1 with h1 | h1
   ·exact hpF h1
   ·exact hpt h1
  ·omega
 ·intro g hg
  rcases List.mem_append.1 hg with hg | hg
  ·exact (bF g hg).1
  ·exact (bT g hg).1
theorem zmd {W : World} {B e : Nat} {t : Tree} {c : List Value} {F : List Nat} (h : TC W B e t c F) : ∃ hv, c = [.int .i64 t.kind, .string t.text, hv] ∧ TR W B e t.kids hv F := by
 cases t
 exact zih.1 h
theorem zqh {W : World} {B e n cap g : Nat} {xs ys : List Value} (h : W.ownsRow B e 3 (.slice (some ⟨g, 0, none⟩) (n + 1) cap) (n + 1) (xs ++ ys)) (hx : xs.length = n * 3) : W.ownsRow B e 3 (.slice (some ⟨g, 0, none⟩) n cap) n xs := by
 refine ⟨hx, ?_⟩
 rcases h.2 with ⟨h0, _⟩ | ⟨g', cap', cur, he, h2, h3, h4, h5, h6, h7⟩
 ·cases h0
 ·simp only [Value.slice.injEq, Option.some.injEq, Addr.mk.injEq, and_true] at he
  obtain ⟨rfl, _, rfl⟩ := he
  refine .inr ⟨g, cap, cur, rfl, h2, h3, by omega, h5, h6, ?_⟩
  have e2 : (cur.toList.take ((n + 1) * 3)).take (n * 3) = cur.toList.take (n * 3) := by rw [List.take_take, Nat.min_eq_left (by omega)]
  have e3 : (xs ++ ys).take (n * 3) = xs := by
   rw [List.take_append_of_le_length (by omega)]
   exact List.take_of_length_le (by omega)
  rw [← e2, h7, e3]
theorem PS.pop {t : Tree} (h : PS tp te B T tv pb W pos (stk ++ [t]) F) :
  ∃ sb scap hv F1 Ft, W.heap[pb]? = some (.cells #[tv, .int .i64 (pos : Int), .slice (some ⟨sb, 0, none⟩) (stk.length + 1) scap] tp (0, 0)) ∧ stk.length + 1 ≤ scap ∧ sb ≠ pb ∧
   W.cell? ⟨sb, stk.length * 3, none⟩ = some (.int .i64 t.kind) ∧ W.cell? ⟨sb, stk.length * 3 + 1, none⟩ = some (.string t.text) ∧ W.cell? ⟨sb, stk.length * 3 + 2, none⟩ = some hv ∧ F = F1 ++ Ft ∧
   (∀ W' : World, W'.os = W.os → W'.tape = W.tape → W'.output = W.output → W.heap.size ≤ W'.heap.size → (∀ g, g < W.heap.size → g ≠ pb → W'.heap[g]? = W.heap[g]?) → W'.heap[pb]? = some (.cells #[tv, .int .i64 (pos : Int), .slice (some ⟨sb, 0, none⟩) stk.length scap] tp (0, 0)) →
    PS tp te B T tv pb W' pos stk F1 ∧ TR W' B te t.kids hv Ft ∧ Fr pb F F1 W W') := by
 obtain ⟨sv, h1, cs0, Fs0, h2, h3, h4⟩ := h.obj
 obtain ⟨c1, c2, F1, F2, rfl, rfl, k3, k4⟩ := zmb h4
 obtain ⟨hv, rfl, k5⟩ := zmd k4
 rw [List.length_append, List.length_singleton] at h2
 obtain ⟨sb, scap, rfl, n1, n2, n3, n4, n5, n6⟩ := zdz h2
 have hl1 := zf3 stk c1 F1 k3
 have hcap : stk.length + 1 ≤ scap := by
  rcases h2.2 with ⟨h0, _⟩ | ⟨g', cap', cur, he, q2, q3, q4, _⟩
  ·cases h0
  ·simp only [Value.slice.injEq, Option.some.injEq, Addr.mk.injEq, and_true] at he
   obtain ⟨_, _, rfl⟩ := he
   exact q4
 have hO : own1 (Value.slice (some ⟨sb, 0, none⟩) (stk.length + 1) scap) = [sb] := by simp [own1, Value.ownBlock]
 have hO2 : own1 (Value.slice (some ⟨sb, 0, none⟩) stk.length scap) = [sb] := by simp [own1, Value.ownBlock]
 rw [hO] at h3
 have hbd := h.rowsGe
 have hnd := h.nd
 have hpF := h.pbF
 have hsp : sb ≠ pb := fun e => hpF (by rw [h3, e]; exact List.mem_cons_self)
 refine ⟨sb, scap, hv, [sb] ++ F1, F2, h1, hcap, hsp, n3, n4, n5, by rw [h3, List.append_assoc], fun W' e1 e2 e3 e4 e5 e6 => ?_⟩
 subst h3
 have kk : ∀ g ∈ [sb] ++ (F1 ++ F2), W'.heap[g]? = W.heap[g]? := fun g hg => e5 g (hbd g hg).2 (fun e => hpF (e ▸ hg))
 have hfr : Fr pb ([sb] ++ (F1 ++ F2)) ([sb] ++ F1) W W' := ⟨e1, e2, e3, e4, fun g g1 g2 _ => e5 g g1 g2, fun g hg => .inl (by
  rcases List.mem_append.1 hg with hg | hg
  ·exact List.mem_append_left _ hg
  ·exact List.mem_append_right _ (List.mem_append_left _ hg))⟩
 rw [← List.append_assoc] at hnd
 refine ⟨⟨⟨_, e6, c1, F1, za7 (zqh h2 hl1) (fun g hg => kk g (by rw [hO2] at hg; exact List.mem_append_left _ hg)), by rw [hO2], zc1 stk c1 F1 k3 (fun g hg => kk g (List.mem_append_right _ (List.mem_append_left _ hg)))⟩, (zbn.1 hnd).1, fun hh => hpF ?_, h.ge, h.tokBelow hfr (fun g hg => (hbd g hg).1)⟩, zeb k5 (fun g hg => kk g (List.mem_append_right _ (List.mem_append_right _ hg))), hfr⟩
 rcases List.mem_append.1 hh with hg | hg
 ·exact List.mem_append_left _ hg
 ·exact List.mem_append_right _ (List.mem_append_left _ hg)
end Go.Proofs.YtmoelofaojgjfaaGreatDoor.Par
namespace Go.Proofs.YtmoelofaojgjfaaGreatDoor.Par
open Go.RowKit Go.Proofs.YtmoelofaojgjfaaGreatDoorW.PrintWords Go.Proofs.YtmoelofaojgjfaaGreatDoorW.PrintLast
variable {B : Nat} {T : List Tok} {tv : Value} {pb : Nat} {W : World} {pos : Nat} {low : List Tree} {kd : Int} {tx : ByteArray} {ks : List Tree} {F : List Nat}
theorem zck (t : Tree) (h : PS 186 128 B T tv pb W pos ((low ++ [.mk kd tx ks]) ++ [t]) F) (hsm : low.length + ks.length ≤ 1000000000) :
  Calls Tryz.prog 221 #[.pointer (some ⟨pb, 0, none⟩)] W fun e W' => e = .returned (.tuple #[]) ∧ ∃ F', PS 186 128 B T tv pb W' pos (low ++ [.mk kd tx (ks ++ [t])]) F' ∧ Fr pb F F' W W' := by
 obtain ⟨sb, scap, hv, F1, Ft, h1, h2, h3, h4, h5, h6, rfl, h7⟩ := h.pop
 have hND := ak (And.intro h.nd (fun hh => h.pbF (List.mem_append_right F1 hh) : pb ∉ Ft))
 have hu53 := Tryz.underlying128
 obtain ⟨n, hn⟩ : ∃ n, Hid ((low ++ [Tree.mk kd tx ks]).length = n) := ⟨_, rfl⟩
 have hn1 : 1 ≤ n := by
  rw [← show (low ++ [Tree.mk kd tx ks]).length = n from hn, List.length_append, List.length_singleton]
  omega
 have hn2 : n ≤ 1000000001 := by
  rw [← show (low ++ [Tree.mk kd tx ks]).length = n from hn, List.length_append, List.length_singleton]
  omega
 rw [show (low ++ [Tree.mk kd tx ks]).length = n from hn] at h1 h2 h4 h5 h6 h7
 have o2 : W.cell? ⟨pb, 2, none⟩ = some (.slice (some ⟨sb, 0, none⟩) (n + 1) scap) := (zf h1 2).trans rfl
 have o3 := zl h1 2
 have HP := ak h7
 have H1 := ak h1
 have hpl : pb < W.heap.size := za8 h1
 have hA : ∃ A c, hv = .slice A t.kids.length c := by
  obtain ⟨_, _, g, _⟩ := (h7 (W.setCell ⟨pb, 2, none⟩ (.slice (some ⟨sb, 0, none⟩) n scap)) rfl rfl rfl (by simp [World.setCell]) (fun g hg hne => Below.heap_setCell W ⟨pb, 2, none⟩ _ g hne) (zfm h1 2 _ rfl)).2.1
  exact za3 g
 obtain ⟨hvA, hvc, rfl⟩ := hA
 have z0 : (0 : Int) ≤ (n : Int) := by omega
 have z1 : (n : Int) < ((n + 1 : Nat) : Int) := by omega
 have z2 : (n : Int) < (n : Int) + 1 := by omega
 have z3 : (n : Int) ≤ (scap : Int) := by omega
 have hl1 : IntKind.i64.wrap ((n : Int) + 1 - 1) = (n : Int) := by rw [IntKind.wrap_i64]; omega
 have hl2 : IntKind.i64.wrap (((n + 1 : Nat) : Int) - 1) = (n : Int) := by rw [IntKind.wrap_i64]; omega
 have hl3 : IntKind.i64.wrap (n : Int) = (n : Int) := by rw [IntKind.wrap_i64]; omega
 clear h h1 h7
 go_enter Tryz.func221, Tryz.ntmps221
 go_wp2_with fail
 obtain ⟨g1, g2, g3⟩ := HP.out ((W.setCell ⟨pb, 2, none⟩ (.slice (some ⟨sb, 0, none⟩) n scap)).alloc (Obj.cells #[Value.int IntKind.i64 t.kind, Value.string t.text, Value.slice hvA t.kids.length hvc] 128)) rfl rfl rfl (by rw [World.size_alloc]; simp [World.setCell])
  (fun g hg hne => by
   rw [heap_alloc_old _ _ (by simpa [World.setCell] using hg)]
   exact Below.heap_setCell W ⟨pb, 2, none⟩ _ g hne) (za5 (zfm H1.out 2 _ rfl) _)
 have G3 := ak g3
 clear g3
 refine (zf1 t g1 g2 hND.out.1 hND.out.2 hsm).mono ?_
 rintro e W3 ⟨rfl, F3, h3, f3⟩
 have H3 := ak (And.intro h3 f3)
 clear h3 f3 g1 g2
 go_wp2_with fail
 go_end0
 refine ⟨rfl, F3, H3.out.1, ?_⟩
 have f1 := G3.out
 have f2 := H3.out.2
 refine ⟨f2.os.trans f1.os, f2.tape.trans f1.tape, f2.output.trans f1.output, Nat.le_trans f1.size f2.size, fun g k1 k2 k3 => ?_, fun g hg => ?_⟩
 ·rw [f2.kept g (Nat.lt_of_lt_of_le k1 f1.size) k2 k3]
  exact f1.kept g k1 k2 k3
 ·rcases f2.rows g hg with k | k
  ·exact .inl k
  ·exact .inr (Nat.le_trans f1.size k)
theorem zrv (kind : Int) (fid : Nat) (bound free : Array Value) (s' : St) (h : PS 186 128 B T tv pb W pos (low ++ [.mk kd tx ks]) F) (hsm : low.length + ks.length ≤ 1000000000) (hen : ∀ args w, (callFunc fid args).run Tryz.prog w = .ok (.enter fid args) w)
  (hf : ∀ W1 F1, PS 186 128 B T tv pb W1 pos ((low ++ [.mk kd tx ks]) ++ [.mk kind zj []]) F1 → Fr pb F F1 W W1 →
   Calls Tryz.prog fid (bound ++ free) W1 fun e W' => (∃ v, e = .returned v) ∧ ∃ F', PS 186 128 B T tv pb W' s'.1 ((low ++ [.mk kd tx ks]) ++ [.mk kind zj s'.2]) F' ∧ Fr pb F1 F' W1 W') :
  Calls Tryz.prog 146 #[.pointer (some ⟨pb, 0, none⟩), .int .i64 kind, .func (.func fid) bound free] W (Post B T tv pb W low kd tx F (.tuple #[]) (s'.1, ks ++ [.mk kind zj s'.2])) := by
 obtain ⟨sv, p1, cs, Fs, p2, rfl, p3⟩ := h.obj
 obtain ⟨sA, scap, rfl⟩ := za3 p2
 obtain ⟨n, hn⟩ : ∃ n, Hid ((low ++ [Tree.mk kd tx ks]).length = n) := ⟨_, rfl⟩
 have hn2 : n ≤ 1000000001 := by
  rw [← show (low ++ [Tree.mk kd tx ks]).length = n from hn, List.length_append, List.length_singleton]
  omega
 rw [show (low ++ [Tree.mk kd tx ks]).length = n from hn] at p1 p2 h hf ⊢
 have HF := ak hf
 have H0 := ak h
 have o2 : W.cell? ⟨pb, 2, none⟩ = some (.slice sA n scap) := (zf p1 2).trans rfl
 have o3 := zl p1 2
 have hpl : pb < W.heap.size := za8 p1
 have HP := ak (And.intro p1 (And.intro p2 p3))
 have HNN := ak (show (low ++ [Tree.mk kd tx ks]).length = n from hn)
 clear h hf p1 p2 p3 hn
 go_enter Tryz.func146, Tryz.ntmps146
 go_wp2_with fail
 have HBA := ak (show Below W.heap.size W W.drew from (Below.refl _ _).drew)
 have HPd := ak (show PS 186 128 B T tv pb W.drew pos (low ++ [.mk kd tx ks]) (own1 (Value.slice sA n scap) ++ Fs) from H0.out.below HBA.out)
 have HOW := ak (show W.drew.ownsRow B 128 3 (.slice sA n scap) n cs from za7 HP.out.2.1 (fun _ _ => rfl))
 have HTL := ak (show TL W.drew B 128 (low ++ [.mk kd tx ks]) cs Fs from zc1 _ cs Fs HP.out.2.2 (fun _ _ => rfl))
 have HPB := ak (show W.drew.heap[pb]? = some (.cells #[tv, .int .i64 (pos : Int), .slice sA n scap] 186 (0, 0)) from HP.out.1)
 have hBW : B ≤ W.drew.heap.size := by
  have := H0.out.ge
  show B ≤ W.heap.size
  omega
 have hpsv : some pb ≠ (Value.slice sA n scap).ownBlock := fun e => H0.out.pbF (List.mem_append_left _ (zas.2 e.symm))
 have HNE := ak hpsv
 clear hpsv
 have HO3 := ak o3
 have o2d : W.drew.cell? ⟨pb, 2, none⟩ = some (.slice sA n scap) := o2
 refine zbj (ds := [13]) (S := (fun w' => w'.cell? ⟨pb, 2, none⟩ = some (.slice sA n scap))) (by kernel_rfl) o2 (fun hS => ?_)
 refine zm (i := 0) (v := .pointer (some ⟨pb, 0, none⟩)) rfl (by kernel_rfl) (by kernel_rfl) (by kernel_rfl) (by kernel_rfl) (by kernel_rfl) (fun _ _ _ h => h) (Or.inl ⟨by rfl, by intro w' z1; go_simp⟩) hS ?_
 simp only [Act.put, sia, List.set]
 refine zm (i := 1) (v := .pointer (some ⟨pb, 0, none⟩)) rfl (by kernel_rfl) (by kernel_rfl) (by kernel_rfl) (by kernel_rfl) (by kernel_rfl) (fun _ _ _ h => h) (Or.inl ⟨by rfl, by intro w' z1; go_simp⟩) hS ?_
 simp only [Act.put, sia, List.set]
 refine zm (i := 2) (v := .pointer (some ⟨pb, 2, none⟩)) rfl (by kernel_rfl) (by kernel_rfl) (by kernel_rfl) (by kernel_rfl) (by kernel_rfl) (fun _ _ _ h => h) (Or.inl ⟨by rfl, by intro w' z1; go_simp⟩) hS ?_
 simp only [Act.put, sia, List.set]
 refine zm (i := 3) (v := .slice sA n scap) rfl (by kernel_rfl) (by kernel_rfl) (by kernel_rfl) (by kernel_rfl) (by kernel_rfl) (fun _ _ _ h => h) (Or.inl ⟨by rfl, by intro w' z1; go_simp⟩) hS ?_
 simp only [Act.put, sia, List.set]
 refine zm (i := 4) (v := .int .i64 kind) rfl (by kernel_rfl) (by kernel_rfl) (by kernel_rfl) (by kernel_rfl) (by kernel_rfl) (fun _ _ _ h => h) (Or.inl ⟨by rfl, by intro w' z1; go_simp⟩) hS ?_
 simp only [Act.put, sia, List.set]
 refine zm (i := 5) (v := .agg #[.int .i64 kind, .string ⟨#[]⟩, .slice none 0 0]) rfl (by kernel_rfl) (by kernel_rfl) (by kernel_rfl) (by kernel_rfl) (by kernel_rfl) (fun _ _ _ h => h) (Or.inl ⟨by rfl, by intro w' z1; go_simp⟩) hS ?_
 simp only [Act.put, sia, List.set]
 refine zm (i := 6) (v := .int .i64 (n : Int)) rfl (by kernel_rfl) (by kernel_rfl) (by kernel_rfl) (by kernel_rfl) (by kernel_rfl) (fun _ _ _ h => h) (Or.inl ⟨by rfl, by intro w' z1; go_simp⟩) hS ?_
 simp only [Act.put, sia, List.set]
 refine zp (rs := [7]) (by kernel_rfl) (by simp) (zo.cons rfl (by simp) (fun K hK => ?_) zo.nil)
 go_simp
 refine hK.out _ _ (by go_keep) (fun hS => ?_)
 clear hK
 try simp only [Act.put, sia, List.set]
 refine zp (rs := [8]) (by kernel_rfl) (by simp) (zo.cons rfl (by simp) (fun K hK => ?_) zo.nil)
 refine zc3 (w0 := W.drew) (W := W.drew) B (by rfl) (.tmp 9) (.tmp 13) 126 128 (.agg #[.int .i64 0, .string ⟨#[]⟩, .slice none 0 0]) 3 48 (by rfl) Tryz.underlying126 zsa rfl (by decide) (by decide) (.slice sA n scap) n cs [.int .i64 0, .string ⟨#[]⟩, .slice none 0 0] rfl rfl rfl (by intro u hu; simp only [List.mem_cons, List.not_mem_nil, or_false] at hu; rcases hu with rfl | rfl | rfl <;> rfl) HOW.out (Below.refl _ _) hBW (by omega) ?_
 intro v1 w1 hown hb hg hat
 obtain ⟨g1, cap1, rfl, a1, a2, a3, a4, a5, a6⟩ := zdz hown
 have r0 : w1.cell? ⟨pb, 2, none⟩ = some (.slice sA n scap) := (World.cell?_of_block (hg.block pb hpl HNE.out)).trans o2
 have r4 : w1.frozen? ⟨pb, 2, none⟩ = false := (World.frozen?_of_block (hg.block pb hpl HNE.out)).trans HO3.out
 have hgs := zd8 hat HNE.out hpl
 have hgp : pb ≠ g1 := fun e => hgs e.symm
 have a4' : ((w1.setCell ⟨g1, n * 3, none⟩ (.int .i64 kind)).setCell ⟨g1, n * 3 + 1, none⟩ (.string ⟨#[]⟩)).cell? ⟨g1, n * 3 + 2, none⟩ = some (.slice none 0 0) := (by rw [World.cell?_setCell_other _ _ _ _ (by intro e; injection e; omega), World.cell?_setCell_other _ _ _ _ (by intro e; injection e; omega)]; exact a5)
 have HFin := ak (show ∃ F', PS 186 128 B T tv pb ((((w1.setCell ⟨g1, n * 3, none⟩ (.int .i64 kind)).setCell ⟨g1, n * 3 + 1, none⟩ (.string ⟨#[]⟩)).setCell ⟨g1, n * 3 + 2, none⟩ (.slice none 0 0)).setCell ⟨pb, 2, none⟩ (.slice (some ⟨g1, 0, none⟩) (n + 1) cap1)) pos ((low ++ [.mk kd tx ks]) ++ [.mk kind zj []]) F' ∧ Fr pb (own1 (Value.slice sA n scap) ++ Fs) F' W ((((w1.setCell ⟨g1, n * 3, none⟩ (.int .i64 kind)).setCell ⟨g1, n * 3 + 1, none⟩ (.string ⟨#[]⟩)).setCell ⟨g1, n * 3 + 2, none⟩ (.slice none 0 0)).setCell ⟨pb, 2, none⟩ (.slice (some ⟨g1, 0, none⟩) (n + 1) cap1)) by
  obtain ⟨F', f1, f2⟩ := PS.push_mem (t := .mk kind zj []) (W1 := (((w1.setCell ⟨g1, n * 3, none⟩ (.int .i64 kind)).setCell ⟨g1, n * 3 + 1, none⟩ (.string ⟨#[]⟩)).setCell ⟨g1, n * 3 + 2, none⟩ (.slice none 0 0))) (v1 := .slice (some ⟨g1, 0, none⟩) (n + 1) cap1) (c := [.int .i64 kind, .string ⟨#[]⟩, .slice none 0 0]) HPd.out HPB.out HTL.out zmc (by rw [List.append_nil]; exact HPd.out.nd) (by simp) (by rw [HNN.out]; exact zg1 (x := .int .i64 kind) (y := .string ⟨#[]⟩) (z := .slice none 0 0) hown (by rw [zf3 _ cs Fs HTL.out, HNN.out])) hat hg.os hg.tape hg.output (by have := hg.size; simpa [World.setCell] using this) (fun g h1 h2 => by
   have hgg := zd8 hat h2 h1
   rw [Below.heap_setCell _ _ _ g (Ne.symm hgg), Below.heap_setCell _ _ _ g (Ne.symm hgg), Below.heap_setCell _ _ _ g (Ne.symm hgg)]
   exact hg.block g h1 h2)
  rw [List.append_nil] at f2
  exact ⟨F', f1, (Fr.of_below HBA.out).trans f2⟩)
 clear hown hb hg hat
 have j0 : (0 : Int) ≤ (n : Int) := by omega
 have j1 : (n : Int) < ((n + 1 : Nat) : Int) := by omega
 have j2 : (n : Int) < (n : Int) + 1 := by omega
 refine hK.out _ _ r0 (fun hS => ?_)
 clear hK
 try simp only [Act.put, sia, List.set]
 refine zft (i := 9) (v := .pointer (some ⟨g1, n * 3, none⟩)) #[true, true, true, true, true, true, true, true, true, true, false, false, false, false] rfl rfl (by kernel_rfl) (fun _ _ _ h => h) (Or.inl ⟨by rfl, by intro w'; go_simp⟩) rfl ?_
 simp only [Act.put, sia, List.set]
 refine zft (i := 11) (v := .pointer (some ⟨pb, 0, none⟩)) #[true, true, true, true, true, true, true, true, true, true, false, true, false, false] rfl rfl (by kernel_rfl) (fun _ _ _ h => h) (Or.inl ⟨by rfl, by intro w'; go_simp⟩) rfl ?_
 simp only [Act.put, sia, List.set]
 refine zft (i := 12) (v := .pointer (some ⟨pb, 2, none⟩)) #[true, true, true, true, true, true, true, true, true, true, false, true, true, false] rfl rfl (by kernel_rfl) (fun _ _ _ h => h) (Or.inl ⟨by rfl, by intro w'; go_simp⟩) rfl ?_
 simp only [Act.put, sia, List.set]
 refine zp (rs := [10, 13]) (by kernel_rfl) (by simp) (zo.cons rfl (by simp) (fun K hK => ?_) (zo.cons_last rfl (by simp) (fun K hK => ?_) zo.nil))
 ·go_simp
  refine hK.out _ _ (by go_keep) (fun hS => ?_)
  clear hK
  try simp only [Act.put, sia, List.set]
  refine zp (rs := [13]) (by kernel_rfl) (by simp) (zo.cons_last rfl (by simp) (fun K hK => ?_) zo.nil)
  go_simp
  refine hK.out _ _ ?_
  refine zq (by kernel_rfl) ?_ _
  clear hK hS
  obtain ⟨F2, h2, f2⟩ := HFin.out
  refine ‹∀ (a : Act) (w : World), (Code.seq _ _).wp _ _ a w → _› _ _ ?_
  generalize (((w1.setCell ⟨g1, n * 3, none⟩ (.int .i64 kind)).setCell ⟨g1, n * 3 + 1, none⟩ (.string ⟨#[]⟩)).setCell ⟨g1, n * 3 + 2, none⟩ (.slice none 0 0)).setCell ⟨pb, 2, none⟩ (.slice (some ⟨g1, 0, none⟩) (n + 1) cap1) = W2 at h2 f2 ⊢
  have H2 := ak (And.intro h2 f2)
  clear h2 f2 r0 r4 a1 a2 a3 a4 a5 a6 a4' hgs hgp o2 o3 o2d HFin
  go_wp2_with fail
  refine (HF.out W2 F2 H2.out.1 H2.out.2).mono ?_
  rintro e W3 ⟨⟨v, rfl⟩, F3, h3, f3⟩
  have H3 := ak (And.intro h3 (H2.out.2.trans f3))
  clear h3 f3 H2
  go_wp2_with fail
  refine (zck (.mk kind zj s'.2) H3.out.1 hsm).mono ?_
  rintro e W4 ⟨rfl, F4, h4, f4⟩
  have H4 := ak (And.intro h4 (H3.out.2.trans f4))
  clear h4 f4 H3
  go_wp2_with fail
  go_end0
  exact ⟨rfl, F4, H4.out⟩
 ·go_simp
  refine hK.out _ _ ?_
  clear hK
  try simp only [Act.put, sia, List.set]
  refine zp (rs := [10]) (by kernel_rfl) (by simp) (zhu rfl (fun K hK => ?_) zo.nil)
  go_simp
  refine hK.out _ _ (by intro z1; go_keep) ?_
  refine zq (by kernel_rfl) ?_ _
  clear hK
  rw [zdk w1 g1 pb _ _ _ _ _ _ _ _ hgs]
  obtain ⟨F2, h2, f2⟩ := HFin.out
  refine ‹∀ (a : Act) (w : World), (Code.seq _ _).wp _ _ a w → _› _ _ ?_
  generalize (((w1.setCell ⟨g1, n * 3, none⟩ (.int .i64 kind)).setCell ⟨g1, n * 3 + 1, none⟩ (.string ⟨#[]⟩)).setCell ⟨g1, n * 3 + 2, none⟩ (.slice none 0 0)).setCell ⟨pb, 2, none⟩ (.slice (some ⟨g1, 0, none⟩) (n + 1) cap1) = W2 at h2 f2 ⊢
  have H2 := ak (And.intro h2 f2)
  clear h2 f2 r0 r4 a1 a2 a3 a4 a5 a6 a4' hgs hgp o2 o3 o2d HFin
  go_wp2_with fail
  refine (HF.out W2 F2 H2.out.1 H2.out.2).mono ?_
  rintro e W3 ⟨⟨v, rfl⟩, F3, h3, f3⟩
  have H3 := ak (And.intro h3 (H2.out.2.trans f3))
  clear h3 f3 H2
  go_wp2_with fail
  refine (zck (.mk kind zj s'.2) H3.out.1 hsm).mono ?_
  rintro e W4 ⟨rfl, F4, h4, f4⟩
  have H4 := ak (And.intro h4 (H3.out.2.trans f4))
  clear h4 f4 H3
  go_wp2_with fail
  go_end0
  exact ⟨rfl, F4, H4.out⟩
end Go.Proofs.YtmoelofaojgjfaaGreatDoor.Par
namespace Go.Proofs.YtmoelofaojgjfaaGreatDoor.Par
open Go.RowKit Go.Proofs.YtmoelofaojgjfaaGreatDoorW.PrintWords Go.Proofs.YtmoelofaojgjfaaGreatDoorW.PrintLast
variable {tp te B : Nat} {T : List Tok} {tv : Value} {pb : Nat} {W : World} {pos : Nat} {low : List Tree} {kd : Int} {tx : ByteArray} {ks : List Tree} {F : List Nat}
theorem zli {W : World} {B e n cap g : Nat} {xs : List Value} (h : W.ownsRow B e 3 (.slice (some ⟨g, 0, none⟩) n cap) n xs) : n ≤ cap := by
 rcases h.2 with ⟨h0, _⟩ | ⟨g', cap', cur, he, h2, h3, h4, h5, h6, h7⟩
 ·cases h0
 ·simp only [Value.slice.injEq, Option.some.injEq, Addr.mk.injEq, and_true] at he
  obtain ⟨_, _, rfl⟩ := he
  exact h4
theorem PS.cutTop {t : Tree} (h : PS tp te B T tv pb W pos (low ++ [.mk kd tx (ks ++ [t])]) F) :
  ∃ sb scap kg kcap hv F0 Ft, W.heap[pb]? = some (.cells #[tv, .int .i64 (pos : Int), .slice (some ⟨sb, 0, none⟩) (low.length + 1) scap] tp (0, 0)) ∧ low.length + 1 ≤ scap ∧ ks.length + 1 ≤ kcap ∧
   (sb ≠ pb ∧ kg ≠ pb ∧ kg ≠ sb ∧ sb < W.heap.size ∧ kg < W.heap.size ∧ pb < W.heap.size) ∧ (∀ i, W.frozen? ⟨sb, i, none⟩ = false) ∧
   W.cell? ⟨sb, low.length * 3 + 2, none⟩ = some (.slice (some ⟨kg, 0, none⟩) (ks.length + 1) kcap) ∧
   (W.cell? ⟨kg, ks.length * 3, none⟩ = some (.int .i64 t.kind) ∧ W.cell? ⟨kg, ks.length * 3 + 1, none⟩ = some (.string t.text) ∧ W.cell? ⟨kg, ks.length * 3 + 2, none⟩ = some hv) ∧
   (∃ A c, hv = .slice A t.kids.length c) ∧ F = F0 ++ Ft ∧
   (∀ W' : World, W'.os = W.os → W'.tape = W.tape → W'.output = W.output → W.heap.size ≤ W'.heap.size → (∀ g, g < W.heap.size → g ≠ sb → W'.heap[g]? = W.heap[g]?) →
    W'.heap[sb]? = (W.setCell ⟨sb, low.length * 3 + 2, none⟩ (.slice (some ⟨kg, 0, none⟩) ks.length kcap)).heap[sb]? →
    PS tp te B T tv pb W' pos (low ++ [.mk kd tx ks]) F0 ∧ TR W' B te t.kids hv Ft ∧ Fr pb F F0 W W') := by
 obtain ⟨sb, scap, hd, c1, F1, cs, Fs, p1, p2, p3, p4, p5, rfl⟩ := h.top
 obtain ⟨ca, cb, Fa, Fb, rfl, rfl, k3, k4⟩ := zmb p5
 obtain ⟨hv, rfl, k5⟩ := zmd k4
 rw [List.length_append, List.length_singleton] at p4
 obtain ⟨kg, kcap, rfl, n1, n2, n3, n4, n5, n6⟩ := zdz p4
 obtain ⟨_, _, e1, m1, m2, m3, m4, m5, m6⟩ := zdz p2
 simp only [Value.slice.injEq, Option.some.injEq, Addr.mk.injEq, and_true] at e1
 obtain ⟨rfl, _, rfl⟩ := e1
 have hc1 := zf3 low c1 F1 p3
 have hla := zf3 ks ca Fa k3
 have hO : own1 (Value.slice (some ⟨kg, 0, none⟩) (ks.length + 1) kcap) = [kg] := by simp [own1, Value.ownBlock]
 have hO2 : own1 (Value.slice (some ⟨kg, 0, none⟩) ks.length kcap) = [kg] := by simp [own1, Value.ownBlock]
 have hO3 : own1 (Value.slice (some ⟨sb, 0, none⟩) (low.length + 1) scap) = [sb] := by simp [own1, Value.ownBlock]
 rw [hO] at h
 have hbd := h.rowsGe
 have hnd := h.nd
 have hpF := h.pbF
 have hpl : pb < W.heap.size := za8 p1
 have msb : sb ∈ sb :: (F1 ++ ([kg] ++ (Fa ++ Fb))) := List.mem_cons_self
 have mkg : kg ∈ sb :: (F1 ++ ([kg] ++ (Fa ++ Fb))) := List.mem_cons_of_mem _ (List.mem_append_right _ (List.mem_append_left _ (by simp)))
 have nd1 := List.nodup_cons.1 hnd
 have hks : kg ≠ sb := fun e => nd1.1 (by rw [← e]; exact List.mem_append_right _ (List.mem_append_left _ (by simp)))
 refine ⟨sb, scap, kg, kcap, hv, sb :: (F1 ++ ([kg] ++ Fa)), Fb, p1, zli p2, zli p4, ⟨fun e => hpF (e ▸ msb), fun e => hpF (e ▸ mkg), hks, (hbd sb msb).2, (hbd kg mkg).2, hpl⟩, m6, m5, ⟨n3, n4, n5⟩, (by obtain ⟨_, _, q, _⟩ := k5; exact za3 q), by rw [hO]; simp, fun W' e1 e2 e3 e4 e5 e6 => ?_⟩
 have hF : sb :: (F1 ++ ([kg] ++ (Fa ++ Fb))) = (sb :: (F1 ++ ([kg] ++ Fa))) ++ Fb := by simp
 rw [hO]
 have hsub : ∀ g ∈ sb :: (F1 ++ ([kg] ++ Fa)), g ∈ sb :: (F1 ++ ([kg] ++ (Fa ++ Fb))) := fun g hg => by rw [hF]; exact List.mem_append_left _ hg
 have hsubT : ∀ g ∈ Fb, g ∈ sb :: (F1 ++ ([kg] ++ (Fa ++ Fb))) := fun g hg => by rw [hF]; exact List.mem_append_right _ hg
 have kk : ∀ g ∈ F1 ++ ([kg] ++ (Fa ++ Fb)), W'.heap[g]? = W.heap[g]? := fun g hg => e5 g (hbd g (List.mem_cons_of_mem _ hg)).2 (fun e => nd1.1 (e ▸ hg))
 have hfr : Fr pb (sb :: (F1 ++ ([kg] ++ (Fa ++ Fb)))) (sb :: (F1 ++ ([kg] ++ Fa))) W W' := ⟨e1, e2, e3, e4, fun g g1 _ g3 => e5 g g1 (fun e => g3 (e ▸ msb)), fun g hg => .inl (hsub g hg)⟩
 have hset := zcr p2 (low.length * 3 + 2) (.slice (some ⟨kg, 0, none⟩) ks.length kcap)
 have hxs : (c1 ++ [Value.int .i64 kd, .string tx, .slice (some ⟨kg, 0, none⟩) (ks.length + 1) kcap]).set (low.length * 3 + 2) (.slice (some ⟨kg, 0, none⟩) ks.length kcap) = c1 ++ [.int .i64 kd, .string tx, .slice (some ⟨kg, 0, none⟩) ks.length kcap] := by
  rw [List.set_append, if_neg (by omega), hc1]
  congr 1
  have : low.length * 3 + 2 - low.length * 3 = 2 := by omega
  rw [this]
  rfl
 rw [hxs] at hset
 have hrow : W'.ownsRow B te 3 (.slice (some ⟨sb, 0, none⟩) (low.length + 1) scap) (low.length + 1) (c1 ++ [.int .i64 kd, .string tx, .slice (some ⟨kg, 0, none⟩) ks.length kcap]) := za7 hset (fun g hg => by
  have : g = sb := by simpa [hO3] using hg
  subst this
  exact e6)
 have hnode : TR W' B te ks (.slice (some ⟨kg, 0, none⟩) ks.length kcap) ([kg] ++ Fa) := by
  refine ⟨ca, Fa, za7 (zqh p4 hla) (fun g hg => kk g ?_), by rw [hO2], zc1 ks ca Fa k3 (fun g hg => kk g (List.mem_append_right _ (List.mem_append_right _ (List.mem_append_left _ hg))))⟩
  rw [hO2] at hg
  exact List.mem_append_right _ (List.mem_append_left _ hg)
 refine ⟨⟨⟨_, (e5 pb hpl (fun e => hpF (e ▸ msb))).trans p1, ?_⟩, ?_, fun hh => hpF (hsub _ hh), h.ge, h.tokBelow hfr (fun g hg => (hbd g hg).1)⟩, zeb k5 (fun g hg => kk g (List.mem_append_right _ (List.mem_append_right _ (List.mem_append_right _ hg)))), hfr⟩
 ·refine ⟨c1 ++ [.int .i64 kd, .string tx, .slice (some ⟨kg, 0, none⟩) ks.length kcap], F1 ++ ([kg] ++ Fa), ?_, by rw [hO3]; rfl, zeq low _ c1 _ F1 _ (zc1 low c1 F1 p3 (fun g hg => kk g (List.mem_append_left _ hg))) (zoo (zih.2 ⟨_, rfl, hnode⟩))⟩
  rw [List.length_append, List.length_singleton]
  exact hrow
 ·rw [hF] at hnd
  exact (zbn.1 hnd).1
end Go.Proofs.YtmoelofaojgjfaaGreatDoor.Par
namespace Go.Proofs.YtmoelofaojgjfaaGreatDoor.Par
open Go.RowKit Go.Proofs.YtmoelofaojgjfaaGreatDoorW.PrintWords Go.Proofs.YtmoelofaojgjfaaGreatDoorW.PrintLast
theorem zgb {P : Program} {ops : Array Oper} {o : Oper} {a : Act} {Q : Exit → Act → World → Prop} {K : Act → World → Prop} {W : World} (base gz : Nat) (hw : Region.wanted o (yielded ops a.tmps) = true) (s x : Operand) (t e : TypeId) (z : Value) (size bytes : Nat)
  (ho : o.op = .call { callee := .builtin .append, args := #[s, x], argTypes := #[t, t] })
  (ht : P.underlying t = some (.slice e)) (hinfo : (P.info? e).map (fun i => (i.zero, i.size, i.bytes)) = some (some z, size, bytes)) (hz : z.cells.size = size) (hs0 : 0 < size) (hb0 : 0 < bytes)
  (v : Value) (n : Nat) (xs ys : List Value) (hs : a.eval s = v) (hx : a.eval x = .slice (some ⟨gz, 0, none⟩) 1 1) (hys : ys.length = size) (h1 : ∀ u ∈ ys, u.oneCell' = true)
  (HO : W.ownsRow base e size v n xs) (hgz : W.heap[gz]? = some (.cells ys.toArray e (0, 0))) (hbase : base ≤ W.heap.size) (hl : (n + 1) * bytes ≤ 140737488355328)
  (h : ∀ v1 w1, w1.ownsRow base e size v1 (n + 1) (xs ++ ys) → W.grownBy w1 v.ownBlock → (v1.ownBlock = v.ownBlock ∨ ∃ b, v1.ownBlock = some b ∧ W.heap.size ≤ b) → K (a.put o.dst v1) w1) :
  if Region.wanted o (yielded ops a.tmps) = true then Oper.wp P o a W K Q else K (a.put o.dst undef) W := by
 obtain ⟨i0, hi, hzz⟩ := Option.map_eq_some_iff.1 hinfo
 simp only [Prod.mk.injEq] at hzz
 obtain ⟨hz0, hz1, hz2⟩ := hzz
 have hlen : n + 1 ≤ 140737488355328 := Nat.le_trans (Nat.le_mul_of_pos_right _ hb0) hl
 rw [if_pos hw]
 obtain ⟨v1, w1, hr, hown, hg, _, hat⟩ := run_append_own_at (P := P) W base t o.type e i0 z size bytes ht hi hz0 hz1 hz2 hz hs0 v n xs HO ⟨gz, 0, none⟩ 1 1 ys (by rw [hys]; simp)
  (by simpa using World.news_of_block (cs := ys.toArray) (t := e) (fr := (0, 0)) hgz) h1 (by simp only [maxLen]; omega) hl hbase
 unfold Oper.wp execOp
 simp only [ho, resolve, invoke, builtin, Sem.run_bind, Sem.run_pure, Result.andThen_ok, List.map_toArray, List.map_cons, List.map_nil, hs, hx, hr]
 refine h v1 w1 hown hg ?_
 rcases hat with hat | hat
 ·exact .inl hat
 ·exact .inr ⟨_, hat, Nat.le_refl _⟩
end Go.Proofs.YtmoelofaojgjfaaGreatDoor.Par
namespace Go.Proofs.YtmoelofaojgjfaaGreatDoor.Par
open Go.RowKit Go.Proofs.YtmoelofaojgjfaaGreatDoorW.PrintWords Go.Proofs.YtmoelofaojgjfaaGreatDoorW.PrintLast
variable {B : Nat} {T : List Tok} {tv : Value} {pb : Nat} {W : World} {pos : Nat} {low : List Tree} {kd : Int} {tx : ByteArray} {ks : List Tree} {F : List Nat}
theorem zq5 (kind : Int) (fid : Nat) (bound free : Array Value) (s' : St) (t : Tree) (h : PS 186 128 B T tv pb W pos (low ++ [.mk kd tx (ks ++ [t])]) F) (hsm : low.length + ks.length ≤ 1000000000) (hen : ∀ args w, (callFunc fid args).run Tryz.prog w = .ok (.enter fid args) w)
  (hf : ∀ W1 F1, PS 186 128 B T tv pb W1 pos ((low ++ [.mk kd tx ks]) ++ [.mk kind zj [t]]) F1 → Fr pb F F1 W W1 →
   Calls Tryz.prog fid (bound ++ free) W1 fun e W' => (∃ v, e = .returned v) ∧ ∃ F', PS 186 128 B T tv pb W' s'.1 ((low ++ [.mk kd tx ks]) ++ [.mk kind zj s'.2]) F' ∧ Fr pb F1 F' W1 W') :
  Calls Tryz.prog 326 #[.pointer (some ⟨pb, 0, none⟩), .int .i64 kind, .func (.func fid) bound free] W (Post B T tv pb W low kd tx F (.tuple #[]) (s'.1, ks ++ [.mk kind zj s'.2])) := by
 obtain ⟨sb, scap, kg, kcap, hv, F0, Ft, p1, hc1, hc2, ⟨n1, n2, n3, l1, l2, l3⟩, hfz, c0, ⟨c1, c2, c3⟩, ⟨hvA, hvc, rfl⟩, hF, hcut⟩ := h.cutTop
 have HF := ak hf
 have H0 := ak h
 have HC := ak (And.intro hF (And.intro hcut p1))
 have o2 : W.cell? ⟨pb, 2, none⟩ = some (.slice (some ⟨sb, 0, none⟩) (low.length + 1) scap) := (zf p1 2).trans rfl
 have o3 := zl p1 2
 have hfz0 := hfz (low.length * 3 + 2)
 have hl1 : IntKind.i64.wrap (((low.length : Nat) : Int) + 1 - 1) = ((low.length : Nat) : Int) := by rw [IntKind.wrap_i64]; omega
 have hl2 : IntKind.i64.wrap (((low.length + 1 : Nat) : Int) - 1) = ((low.length : Nat) : Int) := by rw [IntKind.wrap_i64]; omega
 have hl3 : IntKind.i64.wrap ((low.length : Nat) : Int) = ((low.length : Nat) : Int) := by rw [IntKind.wrap_i64]; omega
 have hk1 : IntKind.i64.wrap (((ks.length : Nat) : Int) + 1 - 1) = ((ks.length : Nat) : Int) := by rw [IntKind.wrap_i64]; omega
 have hk2 : IntKind.i64.wrap (((ks.length + 1 : Nat) : Int) - 1) = ((ks.length : Nat) : Int) := by rw [IntKind.wrap_i64]; omega
 have hk3 : IntKind.i64.wrap ((ks.length : Nat) : Int) = ((ks.length : Nat) : Int) := by rw [IntKind.wrap_i64]; omega
 have i0 : (0 : Int) ≤ ((low.length : Nat) : Int) := by omega
 have i1 : ((low.length : Nat) : Int) < ((low.length + 1 : Nat) : Int) := by omega
 have i2 : ((low.length : Nat) : Int) < ((low.length : Nat) : Int) + 1 := by omega
 have j0 : (0 : Int) ≤ ((ks.length : Nat) : Int) := by omega
 have j1 : ((ks.length : Nat) : Int) < ((ks.length + 1 : Nat) : Int) := by omega
 have j2 : ((ks.length : Nat) : Int) < ((ks.length : Nat) : Int) + 1 := by omega
 have j3 : ((ks.length : Nat) : Int) ≤ (kcap : Int) := by omega
 clear h hf hF hcut p1 hfz
 go_enter Tryz.func326, Tryz.ntmps326
 go_wp2_with fail
 go_region_held3 (fun w' => w'.cell? ⟨pb, 2, none⟩ = some (.slice (some ⟨sb, 0, none⟩) (low.length + 1) scap)) (go_keep) (fail)
 go_wp2_with fail
 obtain ⟨W1, hW1⟩ : ∃ W1, ((W.setCell ⟨sb, low.length * 3 + 2, none⟩ (.slice (some ⟨kg, 0, none⟩) ks.length kcap)).alloc (Obj.cells #[Value.int IntKind.i64 t.kind, Value.string t.text, Value.slice hvA t.kids.length hvc] 128)).drew = W1 := ⟨_, rfl⟩
 have hsz1 : W1.heap.size = W.heap.size + 1 := by
  rw [← hW1]
  show ((W.setCell _ _).alloc _).heap.size = _
  rw [World.size_alloc]
  simp [World.setCell]
 have hbx : W1.heap[W.heap.size]? = some (.cells #[.int .i64 t.kind, .string t.text, .slice hvA t.kids.length hvc] 128 (0, 0)) := by
  rw [← hW1]
  have := heap_alloc_new (W.setCell ⟨sb, low.length * 3 + 2, none⟩ (.slice (some ⟨kg, 0, none⟩) ks.length kcap)) (Obj.cells #[Value.int IntKind.i64 t.kind, Value.string t.text, Value.slice hvA t.kids.length hvc] 128)
  rw [show (W.setCell ⟨sb, low.length * 3 + 2, none⟩ (.slice (some ⟨kg, 0, none⟩) ks.length kcap)).heap.size = W.heap.size by simp [World.setCell]] at this
  exact this
 have hold : ∀ g, g < W.heap.size → W1.heap[g]? = (W.setCell ⟨sb, low.length * 3 + 2, none⟩ (.slice (some ⟨kg, 0, none⟩) ks.length kcap)).heap[g]? := by
  intro g hg
  rw [← hW1]
  exact heap_alloc_old _ _ (by simpa [World.setCell] using hg)
 obtain ⟨hF, hcut, p1⟩ := HC.out
 obtain ⟨g1', g2', g3'⟩ := hcut W1 (by rw [← hW1]; rfl) (by rw [← hW1]; rfl) (by rw [← hW1]; rfl) (by omega) (fun g hg hne => (hold g hg).trans (Below.heap_setCell W ⟨sb, low.length * 3 + 2, none⟩ _ g hne)) (hold sb l1)
 have hF0 : ∀ g ∈ F0 ++ Ft, B ≤ g ∧ g < W.heap.size := fun g hg => by
  have := H0.out.rowsGe g (by rw [hF]; exact hg)
  exact this
 have hnd : (F0 ++ Ft).Nodup := hF ▸ H0.out.nd
 have hpF : pb ∉ F0 ++ Ft := hF ▸ H0.out.pbF
 have HG := ak (And.intro g1' (And.intro g2' (And.intro g3' (And.intro hF0 (And.intro hnd (And.intro hpF hF))))))
 have hB0 : B ≤ W.heap.size := by have := H0.out.ge; omega
 have p1' : W1.heap[pb]? = some (.cells #[tv, .int .i64 (pos : Int), .slice (some ⟨sb, 0, none⟩) (low.length + 1) scap] 186 (0, 0)) := ((hold pb l3).trans (Below.heap_setCell W ⟨sb, low.length * 3 + 2, none⟩ _ pb (fun e => n1 e.symm))).trans p1
 have o2' : W1.cell? ⟨pb, 2, none⟩ = some (.slice (some ⟨sb, 0, none⟩) (low.length + 1) scap) := (zf p1' 2).trans rfl
 have q0 : W1.cell? ⟨W.heap.size, 0, none⟩ = some (.int .i64 t.kind) := (zf hbx 0).trans rfl
 have q1 : W1.cell? ⟨W.heap.size, 1, none⟩ = some (.string t.text) := (zf hbx 1).trans rfl
 have q2 : W1.cell? ⟨W.heap.size, 2, none⟩ = some (.slice hvA t.kids.length hvc) := (zf hbx 2).trans rfl
 have HP1 := ak (And.intro p1' (And.intro hbx hsz1))
 rw [hW1]
 clear hW1 hold hF hcut p1 g1' g2' g3' hF0 hnd hpF p1' hbx c0 c1 c2 c3 o2 o3 hfz0
 refine zbj (ds := [15]) (S := (fun w' => w'.cell? ⟨pb, 2, none⟩ = some (.slice (some ⟨sb, 0, none⟩) (low.length + 1) scap) ∧ w'.cell? ⟨W.heap.size, 0, none⟩ = some (.int .i64 t.kind) ∧ w'.cell? ⟨W.heap.size, 1, none⟩ = some (.string t.text) ∧ w'.cell? ⟨W.heap.size, 2, none⟩ = some (.slice hvA t.kids.length hvc))) (by kernel_rfl) ⟨o2', q0, q1, q2⟩ (fun hS => ?_)
 refine zm (i := 0) (v := .pointer (some ⟨pb, 0, none⟩)) rfl (by kernel_rfl) (by kernel_rfl) (by kernel_rfl) (by kernel_rfl) (by kernel_rfl) (fun _ _ _ h => h) (Or.inl ⟨by rfl, by rintro w' ⟨z1, z2, z3, z4⟩; go_simp⟩) hS ?_
 simp only [Act.put, sia, List.set]
 refine zm (i := 1) (v := .pointer (some ⟨pb, 0, none⟩)) rfl (by kernel_rfl) (by kernel_rfl) (by kernel_rfl) (by kernel_rfl) (by kernel_rfl) (fun _ _ _ h => h) (Or.inl ⟨by rfl, by rintro w' ⟨z1, z2, z3, z4⟩; go_simp⟩) hS ?_
 simp only [Act.put, sia, List.set]
 refine zm (i := 2) (v := .pointer (some ⟨pb, 2, none⟩)) rfl (by kernel_rfl) (by kernel_rfl) (by kernel_rfl) (by kernel_rfl) (by kernel_rfl) (fun _ _ _ h => h) (Or.inl ⟨by rfl, by rintro w' ⟨z1, z2, z3, z4⟩; go_simp⟩) hS ?_
 simp only [Act.put, sia, List.set]
 refine zm (i := 3) (v := .slice (some ⟨sb, 0, none⟩) (low.length + 1) scap) rfl (by kernel_rfl) (by kernel_rfl) (by kernel_rfl) (by kernel_rfl) (by kernel_rfl) (fun _ _ _ h => h) (Or.inl ⟨by rfl, by rintro w' ⟨z1, z2, z3, z4⟩; go_simp⟩) hS ?_
 simp only [Act.put, sia, List.set]
 refine zm (i := 4) (v := .int .i64 kind) rfl (by kernel_rfl) (by kernel_rfl) (by kernel_rfl) (by kernel_rfl) (by kernel_rfl) (fun _ _ _ h => h) (Or.inl ⟨by rfl, by rintro w' ⟨z1, z2, z3, z4⟩; go_simp⟩) hS ?_
 simp only [Act.put, sia, List.set]
 refine zm (i := 5) (v := .agg #[.int .i64 t.kind, .string t.text, .slice hvA t.kids.length hvc]) rfl (by kernel_rfl) (by kernel_rfl) (by kernel_rfl) (by kernel_rfl) (by kernel_rfl) (fun _ _ _ h => h) (Or.inl ⟨by rfl, by rintro w' ⟨z1, z2, z3, z4⟩; go_simp⟩) hS ?_
 simp only [Act.put, sia, List.set]
 refine zm (i := 8) (v := .int .i64 ((low.length : Int) + 1)) rfl (by kernel_rfl) (by kernel_rfl) (by kernel_rfl) (by kernel_rfl) (by kernel_rfl) (fun _ _ _ h => h) (Or.inl ⟨by rfl, by rintro w' ⟨z1, z2, z3, z4⟩; go_simp⟩) hS ?_
 simp only [Act.put, sia, List.set]
 refine zp (rs := [6, 9]) (by kernel_rfl) (by simp) (zo.cons rfl (by simp) (fun K hK => ?_) (zo.cons rfl (by simp) (fun K hK => ?_) zo.nil))
 ·go_simp
  refine hK.out _ _ (by go_keep) (fun hS => ?_)
  clear hK
  try simp only [Act.put, sia, List.set]
  refine zm (i := 7) (v := .agg #[.int .i64 kind, .string ⟨#[]⟩, .slice (some ⟨W1.heap.size, 0, none⟩) 1 1]) rfl (by kernel_rfl) (by kernel_rfl) (by kernel_rfl) (by kernel_rfl) (by kernel_rfl) (fun _ _ _ h => h) (Or.inl ⟨by rfl, by rintro w' ⟨z1, z2, z3, z4⟩; go_simp⟩) hS ?_
  simp only [Act.put, sia, List.set]
  refine zp (rs := [9]) (by kernel_rfl) (by simp) (zo.cons rfl (by simp) (fun K hK => ?_) zo.nil)
  go_simp
  refine hK.out _ _ (by go_keep) (fun hS => ?_)
  clear hK
  try simp only [Act.put, sia, List.set]
  obtain ⟨W2, hW2⟩ : ∃ W2, ((W1.alloc (Obj.cells #[.int .i64 t.kind, .string t.text, .slice hvA t.kids.length hvc] 128)).alloc (Obj.cells #[.int .i64 0, .string ⟨#[]⟩, .slice none 0 0] 128)).drew = W2 := ⟨_, rfl⟩
  have hb2 : Below W1.heap.size W1 W2 := by rw [← hW2]; exact zae (zh (zh (Below.refl _ _) _) _)
  have ga : W2.heap[W.heap.size + 1]? = some (.cells #[.int .i64 t.kind, .string t.text, .slice hvA t.kids.length hvc] 128 (0, 0)) := by rw [← hW2]; rw [← hsz1]; exact za5 (zaj W1 _) _
  have gz : W2.heap[W.heap.size + 1 + 1]? = some (.cells #[.int .i64 0, .string ⟨#[]⟩, .slice none 0 0] 128 (0, 0)) := by rw [← hW2]; have := zaj (W1.alloc (Obj.cells #[.int .i64 t.kind, .string t.text, .slice hvA t.kids.length hvc] 128)) (Obj.cells #[.int .i64 0, .string ⟨#[]⟩, .slice none 0 0] 128); rw [World.size_alloc, hsz1] at this; exact this
  rw [hW2] at hS ⊢
  clear hW2
  obtain ⟨G1, G2, G3, hF0, hnd, hpF, hF⟩ := HG.out
  obtain ⟨p1', hbx, _⟩ := HP1.out
  have hs2 : W1.heap.size ≤ W2.heap.size := hb2.size
  have HP2 := G1.below hb2
  have p2 : W2.heap[pb]? = some (.cells #[tv, .int .i64 (pos : Int), .slice (some ⟨sb, 0, none⟩) (low.length + 1) scap] 186 (0, 0)) := (hb2.block pb (by omega)).trans p1'
  have hT2 := zeb G2 (fun g hg => hb2.block g (by have := (hF0 g (List.mem_append_right _ hg)).2; omega))
  have hgaB : B ≤ W.heap.size + 1 := by omega
  have hgaN : W.heap.size ≤ W.heap.size + 1 := by omega
  have htc : TC W2 B 128 t [.int .i64 t.kind, .string t.text, .slice hvA t.kids.length hvc] Ft := by
   cases t
   rw [zih]
   exact ⟨_, rfl, hT2⟩
  have HTC := ak (show TC W2 B 128 (.mk kind zj [t]) [.int .i64 kind, .string ⟨#[]⟩, .slice (some ⟨(W.heap.size + 1), 0, none⟩) 1 1] ((W.heap.size + 1) :: Ft) from zih.2 ⟨_, rfl, zv3 hgaB ga htc⟩)
  obtain ⟨sv, h1, cs, Fs, h2, hFs, h4⟩ := HP2.obj
  have hsv : sv = .slice (some ⟨sb, 0, none⟩) (low.length + 1) scap := by
   rw [p2] at h1
   simpa using h1.symm
  subst hsv
  rw [List.length_append, List.length_singleton] at h2
  have hN2 : (F0 ++ ((W.heap.size + 1) :: Ft)).Nodup := by
   rw [zbn] at hnd ⊢
   refine ⟨hnd.1, List.nodup_cons.2 ⟨fun hh => ?_, hnd.2.1⟩, fun x hx hx2 => ?_⟩
   ·have := (hF0 (W.heap.size + 1) (List.mem_append_right _ hh)).2
    omega
   ·rcases List.mem_cons.1 hx2 with hx2 | hx2
    ·have := (hF0 x (List.mem_append_left _ hx)).2
     omega
    ·exact hnd.2.2 x hx hx2
  have hp2 : pb ∉ (W.heap.size + 1) :: Ft := fun hh => by
   rcases List.mem_cons.1 hh with hh | hh
   ·omega
   ·exact hpF (List.mem_append_right _ hh)
  have hBW : B ≤ W2.heap.size := by omega
  have hpsv : some pb ≠ (Value.slice (some ⟨sb, 0, none⟩) (low.length + 1) scap).ownBlock := fun e => hpF (List.mem_append_left _ (by rw [hFs]; exact List.mem_append_left _ (zas.2 e.symm)))
  have hbsv : some W.heap.size ≠ (Value.slice (some ⟨sb, 0, none⟩) (low.length + 1) scap).ownBlock := fun e => by
   simp only [Value.ownBlock, Option.some.injEq] at e
   omega
  have hpl2 : pb < W2.heap.size := by omega
  have hbl2 : W.heap.size < W2.heap.size := by omega
  have HH := ak (And.intro HP2 (And.intro h4 (And.intro hFs (And.intro hN2 (And.intro hp2 (And.intro h2 (And.intro hs2 (And.intro hb2 (And.intro p2 hgaN)))))))))
  have b2 : W2.heap[W.heap.size]? = some (.cells #[.int .i64 t.kind, .string t.text, .slice hvA t.kids.length hvc] 128 (0, 0)) := (hb2.block _ (by omega)).trans hbx
  have HB2 := ak b2
  have HZ := ak gz
  have HNN := ak (And.intro hpsv hbsv)
  have o3d := zl p2 2
  have HO3 := ak o3d
  clear G1 G2 G3 hF0 hnd hpF hF p1' hbx hT2 htc h1 h4 hFs hN2 hp2 h2 hb2 p2 ga gz HP2 hpsv hbsv b2 hgaN o3d hgaB
  refine zp (rs := [10]) (by kernel_rfl) (by simp) (zo.cons rfl (by simp) (fun K hK => ?_) zo.nil)
  refine zgb (W := W2) B (W.heap.size + 1 + 1) (by rfl) (.tmp 45) (.tmp 51) 126 128 (.agg #[.int .i64 0, .string ⟨#[]⟩, .slice none 0 0]) 3 48 (by rfl) Tryz.underlying126 zsa rfl (by decide) (by decide) (.slice (some ⟨sb, 0, none⟩) (low.length + 1) scap) (low.length + 1) cs [.int .i64 0, .string ⟨#[]⟩, .slice none 0 0] rfl rfl rfl (by intro u hu; simp only [List.mem_cons, List.not_mem_nil, or_false] at hu; rcases hu with rfl | rfl | rfl <;> rfl) HH.out.2.2.2.2.2.1 HZ.out hBW (by omega) ?_
  intro v1 w1 hown hg hat
  obtain ⟨g1, cap1, rfl, a1, a2, a3, a4, a5, a6⟩ := zdz hown
  have r0 : w1.cell? ⟨pb, 2, none⟩ = some (.slice (some ⟨sb, 0, none⟩) (low.length + 1) scap) := (zf ((hg.block pb hpl2 HNN.out.1).trans HH.out.2.2.2.2.2.2.2.2.1) 2).trans rfl
  have r4 : w1.frozen? ⟨pb, 2, none⟩ = false := (World.frozen?_of_block (hg.block pb hpl2 HNN.out.1)).trans HO3.out
  have rbk := (hg.block W.heap.size hbl2 HNN.out.2).trans HB2.out
  have r1 : w1.cell? ⟨W.heap.size, 0, none⟩ = some (.int .i64 t.kind) := (zf rbk 0).trans rfl
  have r2 : w1.cell? ⟨W.heap.size, 1, none⟩ = some (.string t.text) := (zf rbk 1).trans rfl
  have r3 : w1.cell? ⟨W.heap.size, 2, none⟩ = some (.slice hvA t.kids.length hvc) := (zf rbk 2).trans rfl
  clear rbk
  have hgs := zd8 hat HNN.out.1 hpl2
  have hgp : pb ≠ g1 := fun e => hgs e.symm
  have hgb := zd8 hat HNN.out.2 hbl2
  have hgb' : W.heap.size ≠ g1 := fun e => hgb e.symm
  have a4' : ((w1.setCell ⟨g1, (low.length + 1) * 3, none⟩ (.int .i64 kind)).setCell ⟨g1, (low.length + 1) * 3 + 1, none⟩ (.string ⟨#[]⟩)).cell? ⟨g1, (low.length + 1) * 3 + 2, none⟩ = some (.slice none 0 0) := (by rw [World.cell?_setCell_other _ _ _ _ (by intro e; injection e; omega), World.cell?_setCell_other _ _ _ _ (by intro e; injection e; omega)]; exact a5)
  have HFin := ak (show ∃ F', PS 186 128 B T tv pb ((((w1.setCell ⟨g1, (low.length + 1) * 3, none⟩ (.int .i64 kind)).setCell ⟨g1, (low.length + 1) * 3 + 1, none⟩ (.string ⟨#[]⟩)).setCell ⟨g1, (low.length + 1) * 3 + 2, none⟩ (.slice (some ⟨(W.heap.size + 1), 0, none⟩) 1 1)).setCell ⟨pb, 2, none⟩ (.slice (some ⟨g1, 0, none⟩) (low.length + 1 + 1) cap1)) pos ((low ++ [.mk kd tx ks]) ++ [.mk kind zj [t]]) F' ∧ Fr pb F F' W ((((w1.setCell ⟨g1, (low.length + 1) * 3, none⟩ (.int .i64 kind)).setCell ⟨g1, (low.length + 1) * 3 + 1, none⟩ (.string ⟨#[]⟩)).setCell ⟨g1, (low.length + 1) * 3 + 2, none⟩ (.slice (some ⟨(W.heap.size + 1), 0, none⟩) 1 1)).setCell ⟨pb, 2, none⟩ (.slice (some ⟨g1, 0, none⟩) (low.length + 1 + 1) cap1)) by
   obtain ⟨HP2, h4, hFs, hN2, hp2, h2, hs2, hb2, p2, hgaN⟩ := HH.out
   obtain ⟨G1, G2, G3, hF0, hnd, hpF, hF⟩ := HG.out
   rw [hFs] at HP2 hN2
   have hlen : (low ++ [Tree.mk kd tx ks]).length = low.length + 1 := by rw [List.length_append, List.length_singleton]
   obtain ⟨F', f1, f2⟩ := PS.push_mem (t := .mk kind zj [t]) (W1 := (((w1.setCell ⟨g1, (low.length + 1) * 3, none⟩ (.int .i64 kind)).setCell ⟨g1, (low.length + 1) * 3 + 1, none⟩ (.string ⟨#[]⟩)).setCell ⟨g1, (low.length + 1) * 3 + 2, none⟩ (.slice (some ⟨(W.heap.size + 1), 0, none⟩) 1 1))) (v1 := .slice (some ⟨g1, 0, none⟩) (low.length + 1 + 1) cap1) (c := [.int .i64 kind, .string ⟨#[]⟩, .slice (some ⟨(W.heap.size + 1), 0, none⟩) 1 1]) HP2 p2 h4 HTC.out hN2 hp2 (by rw [hlen]; exact zg1 (x := .int .i64 kind) (y := .string ⟨#[]⟩) (z := .slice (some ⟨(W.heap.size + 1), 0, none⟩) 1 1) hown (by rw [zf3 _ cs Fs h4, hlen])) hat hg.os hg.tape hg.output (by have := hg.size; simpa [World.setCell] using this) (fun g h1 h2 => by
    have hgg := zd8 hat h2 h1
    rw [Below.heap_setCell _ _ _ g (Ne.symm hgg), Below.heap_setCell _ _ _ g (Ne.symm hgg), Below.heap_setCell _ _ _ g (Ne.symm hgg)]
    exact hg.block g h1 h2)
   refine ⟨F', f1, ⟨f2.os.trans (hb2.os.trans G3.os), f2.tape.trans (hb2.tape.trans G3.tape), f2.output.trans (hb2.output.trans G3.output), Nat.le_trans G3.size (Nat.le_trans hs2 f2.size), fun g k1 k2 k3 => ?_, fun g hg => ?_⟩⟩
   ·have hs3 := G3.size
    rw [f2.kept g (by omega) k2 (fun hh => ?_), hb2.block g (by omega), G3.kept g k1 k2 k3]
    rw [← hFs] at hh
    rcases List.mem_append.1 hh with hh | hh
    ·exact k3 (by rw [hF]; exact List.mem_append_left _ hh)
    ·rcases List.mem_cons.1 hh with hh | hh
     ·omega
     ·exact k3 (by rw [hF]; exact List.mem_append_right _ hh)
   ·have hs3 := G3.size
    rcases f2.rows g hg with hh | hh
    ·rw [← hFs] at hh
     rcases List.mem_append.1 hh with hh | hh
     ·exact .inl (by rw [hF]; exact List.mem_append_left _ hh)
     ·rcases List.mem_cons.1 hh with hh | hh
      ·exact .inr (by rw [hh]; exact hgaN)
      ·exact .inl (by rw [hF]; exact List.mem_append_right _ hh)
    ·exact .inr (by omega))
  clear hown hg hat
  have jj0 : (0 : Int) ≤ (low.length : Int) + 1 := by omega
  have jj1 : (low.length : Int) + 1 < ((low.length + 1 + 1 : Nat) : Int) := by omega
  have jj2 : (low.length : Int) + 1 < (low.length : Int) + 1 + 1 := by omega
  have jt : ((low.length : Int) + 1).toNat = low.length + 1 := by omega
  refine hK.out _ _ ⟨r0, r1, r2, r3⟩ (fun hS => ?_)
  clear hK
  try simp only [Act.put, sia, List.set]
  refine zft (i := 11) (v := .pointer (some ⟨g1, (low.length + 1) * 3, none⟩)) #[true, true, true, true, true, true, true, true, true, true, true, true, false, false, false, false] rfl rfl (by kernel_rfl) (fun _ _ _ h => h) (Or.inl ⟨by rfl, by intro w'; go_simp⟩) rfl ?_
  simp only [Act.put, sia, List.set]
  refine zft (i := 13) (v := .pointer (some ⟨pb, 0, none⟩)) #[true, true, true, true, true, true, true, true, true, true, true, true, false, true, false, false] rfl rfl (by kernel_rfl) (fun _ _ _ h => h) (Or.inl ⟨by rfl, by intro w'; go_simp⟩) rfl ?_
  simp only [Act.put, sia, List.set]
  refine zft (i := 14) (v := .pointer (some ⟨pb, 2, none⟩)) #[true, true, true, true, true, true, true, true, true, true, true, true, false, true, true, false] rfl rfl (by kernel_rfl) (fun _ _ _ h => h) (Or.inl ⟨by rfl, by intro w'; go_simp⟩) rfl ?_
  simp only [Act.put, sia, List.set]
  refine zp (rs := [12, 15]) (by kernel_rfl) (by simp) (zo.cons rfl (by simp) (fun K hK => ?_) (zo.cons_last rfl (by simp) (fun K hK => ?_) zo.nil))
  ·go_simp
   refine hK.out _ _ (by go_keep) (fun hS => ?_)
   clear hK
   try simp only [Act.put, sia, List.set]
   refine zp (rs := [15]) (by kernel_rfl) (by simp) (zo.cons_last rfl (by simp) (fun K hK => ?_) zo.nil)
   go_simp
   refine hK.out _ _ ?_
   refine zq (by kernel_rfl) ?_ _
   clear hK hS
   obtain ⟨F2, h2, f2⟩ := HFin.out
   refine ‹∀ (a : Act) (w : World), (Code.seq _ _).wp _ _ a w → _› _ _ ?_
   generalize (((w1.setCell ⟨g1, (low.length + 1) * 3, none⟩ (.int .i64 kind)).setCell ⟨g1, (low.length + 1) * 3 + 1, none⟩ (.string ⟨#[]⟩)).setCell ⟨g1, (low.length + 1) * 3 + 2, none⟩ (.slice (some ⟨(W.heap.size + 1), 0, none⟩) 1 1)).setCell ⟨pb, 2, none⟩ (.slice (some ⟨g1, 0, none⟩) (low.length + 1 + 1) cap1) = W3 at h2 f2 ⊢
   have H2 := ak (And.intro h2 f2)
   clear h2 f2 r0 r1 r2 r3 r4 a1 a2 a3 a4 a5 a6 a4' hgs hgp hgb hgb' HFin
   go_wp2_with fail
   refine (HF.out W3 F2 H2.out.1 H2.out.2).mono ?_
   rintro e W4 ⟨⟨v, rfl⟩, F3, h3, f3⟩
   have H3 := ak (And.intro h3 (H2.out.2.trans f3))
   clear h3 f3 H2
   go_wp2_with fail
   refine (zck (.mk kind zj s'.2) H3.out.1 hsm).mono ?_
   rintro e W5 ⟨rfl, F4, h4, f4⟩
   have H4 := ak (And.intro h4 (H3.out.2.trans f4))
   clear h4 f4 H3
   go_wp2_with fail
   go_end0
   exact ⟨rfl, F4, H4.out⟩
  ·go_simp
   refine hK.out _ _ ?_
   clear hK
   try simp only [Act.put, sia, List.set]
   refine zp (rs := [12]) (by kernel_rfl) (by simp) (zhu rfl (fun K hK => ?_) zo.nil)
   go_simp
   refine hK.out _ _ (by rintro ⟨z1, z2, z3, z4⟩; go_keep) ?_
   refine zq (by kernel_rfl) ?_ _
   clear hK
   rw [zdk w1 g1 pb _ _ _ _ _ _ _ _ hgs]
   obtain ⟨F2, h2, f2⟩ := HFin.out
   refine ‹∀ (a : Act) (w : World), (Code.seq _ _).wp _ _ a w → _› _ _ ?_
   generalize (((w1.setCell ⟨g1, (low.length + 1) * 3, none⟩ (.int .i64 kind)).setCell ⟨g1, (low.length + 1) * 3 + 1, none⟩ (.string ⟨#[]⟩)).setCell ⟨g1, (low.length + 1) * 3 + 2, none⟩ (.slice (some ⟨(W.heap.size + 1), 0, none⟩) 1 1)).setCell ⟨pb, 2, none⟩ (.slice (some ⟨g1, 0, none⟩) (low.length + 1 + 1) cap1) = W3 at h2 f2 ⊢
   have H2 := ak (And.intro h2 f2)
   clear h2 f2 r0 r1 r2 r3 r4 a1 a2 a3 a4 a5 a6 a4' hgs hgp hgb hgb' HFin
   go_wp2_with fail
   refine (HF.out W3 F2 H2.out.1 H2.out.2).mono ?_
   rintro e W4 ⟨⟨v, rfl⟩, F3, h3, f3⟩
   have H3 := ak (And.intro h3 (H2.out.2.trans f3))
   clear h3 f3 H2
   go_wp2_with fail
   refine (zck (.mk kind zj s'.2) H3.out.1 hsm).mono ?_
   rintro e W5 ⟨rfl, F4, h4, f4⟩
   have H4 := ak (And.intro h4 (H3.out.2.trans f4))
   clear h4 f4 H3
   go_wp2_with fail
   go_end0
   exact ⟨rfl, F4, H4.out⟩
 ·go_simp
  refine hK.out _ _ (by go_keep) (fun hS => ?_)
  clear hK
  try simp only [Act.put, sia, List.set]
  refine zp (rs := [6]) (by kernel_rfl) (by simp) (zo.cons rfl (by simp) (fun K hK => ?_) zo.nil)
  go_simp
  refine hK.out _ _ (by go_keep) (fun hS => ?_)
  clear hK
  try simp only [Act.put, sia, List.set]
  refine zm (i := 7) (v := .agg #[.int .i64 kind, .string ⟨#[]⟩, .slice (some ⟨W1.heap.size + 1, 0, none⟩) 1 1]) rfl (by kernel_rfl) (by kernel_rfl) (by kernel_rfl) (by kernel_rfl) (by kernel_rfl) (fun _ _ _ h => h) (Or.inl ⟨by rfl, by rintro w' ⟨z1, z2, z3, z4⟩; go_simp⟩) hS ?_
  simp only [Act.put, sia, List.set]
  obtain ⟨W2, hW2⟩ : ∃ W2, ((W1.alloc (Obj.cells #[.int .i64 0, .string ⟨#[]⟩, .slice none 0 0] 128)).alloc (Obj.cells #[.int .i64 t.kind, .string t.text, .slice hvA t.kids.length hvc] 128)).drew = W2 := ⟨_, rfl⟩
  have hb2 : Below W1.heap.size W1 W2 := by rw [← hW2]; exact zae (zh (zh (Below.refl _ _) _) _)
  have ga : W2.heap[W.heap.size + 1 + 1]? = some (.cells #[.int .i64 t.kind, .string t.text, .slice hvA t.kids.length hvc] 128 (0, 0)) := by rw [← hW2]; have := zaj (W1.alloc (Obj.cells #[.int .i64 0, .string ⟨#[]⟩, .slice none 0 0] 128)) (Obj.cells #[.int .i64 t.kind, .string t.text, .slice hvA t.kids.length hvc] 128); rw [World.size_alloc, hsz1] at this; exact this
  have gz : W2.heap[W.heap.size + 1]? = some (.cells #[.int .i64 0, .string ⟨#[]⟩, .slice none 0 0] 128 (0, 0)) := by rw [← hW2]; rw [← hsz1]; exact za5 (zaj W1 _) _
  rw [hW2] at hS ⊢
  clear hW2
  obtain ⟨G1, G2, G3, hF0, hnd, hpF, hF⟩ := HG.out
  obtain ⟨p1', hbx, _⟩ := HP1.out
  have hs2 : W1.heap.size ≤ W2.heap.size := hb2.size
  have HP2 := G1.below hb2
  have p2 : W2.heap[pb]? = some (.cells #[tv, .int .i64 (pos : Int), .slice (some ⟨sb, 0, none⟩) (low.length + 1) scap] 186 (0, 0)) := (hb2.block pb (by omega)).trans p1'
  have hT2 := zeb G2 (fun g hg => hb2.block g (by have := (hF0 g (List.mem_append_right _ hg)).2; omega))
  have hgaB : B ≤ W.heap.size + 1 + 1 := by omega
  have hgaN : W.heap.size ≤ W.heap.size + 1 + 1 := by omega
  have htc : TC W2 B 128 t [.int .i64 t.kind, .string t.text, .slice hvA t.kids.length hvc] Ft := by
   cases t
   rw [zih]
   exact ⟨_, rfl, hT2⟩
  have HTC := ak (show TC W2 B 128 (.mk kind zj [t]) [.int .i64 kind, .string ⟨#[]⟩, .slice (some ⟨(W.heap.size + 1 + 1), 0, none⟩) 1 1] ((W.heap.size + 1 + 1) :: Ft) from zih.2 ⟨_, rfl, zv3 hgaB ga htc⟩)
  obtain ⟨sv, h1, cs, Fs, h2, hFs, h4⟩ := HP2.obj
  have hsv : sv = .slice (some ⟨sb, 0, none⟩) (low.length + 1) scap := by
   rw [p2] at h1
   simpa using h1.symm
  subst hsv
  rw [List.length_append, List.length_singleton] at h2
  have hN2 : (F0 ++ ((W.heap.size + 1 + 1) :: Ft)).Nodup := by
   rw [zbn] at hnd ⊢
   refine ⟨hnd.1, List.nodup_cons.2 ⟨fun hh => ?_, hnd.2.1⟩, fun x hx hx2 => ?_⟩
   ·have := (hF0 (W.heap.size + 1 + 1) (List.mem_append_right _ hh)).2
    omega
   ·rcases List.mem_cons.1 hx2 with hx2 | hx2
    ·have := (hF0 x (List.mem_append_left _ hx)).2
     omega
    ·exact hnd.2.2 x hx hx2
  have hp2 : pb ∉ (W.heap.size + 1 + 1) :: Ft := fun hh => by
   rcases List.mem_cons.1 hh with hh | hh
   ·omega
   ·exact hpF (List.mem_append_right _ hh)
  have hBW : B ≤ W2.heap.size := by omega
  have hpsv : some pb ≠ (Value.slice (some ⟨sb, 0, none⟩) (low.length + 1) scap).ownBlock := fun e => hpF (List.mem_append_left _ (by rw [hFs]; exact List.mem_append_left _ (zas.2 e.symm)))
  have hbsv : some W.heap.size ≠ (Value.slice (some ⟨sb, 0, none⟩) (low.length + 1) scap).ownBlock := fun e => by
   simp only [Value.ownBlock, Option.some.injEq] at e
   omega
  have hpl2 : pb < W2.heap.size := by omega
  have hbl2 : W.heap.size < W2.heap.size := by omega
  have HH := ak (And.intro HP2 (And.intro h4 (And.intro hFs (And.intro hN2 (And.intro hp2 (And.intro h2 (And.intro hs2 (And.intro hb2 (And.intro p2 hgaN)))))))))
  have b2 : W2.heap[W.heap.size]? = some (.cells #[.int .i64 t.kind, .string t.text, .slice hvA t.kids.length hvc] 128 (0, 0)) := (hb2.block _ (by omega)).trans hbx
  have HB2 := ak b2
  have HZ := ak gz
  have HNN := ak (And.intro hpsv hbsv)
  have o3d := zl p2 2
  have HO3 := ak o3d
  clear G1 G2 G3 hF0 hnd hpF hF p1' hbx hT2 htc h1 h4 hFs hN2 hp2 h2 hb2 p2 ga gz HP2 hpsv hbsv b2 hgaN o3d hgaB
  refine zp (rs := [10]) (by kernel_rfl) (by simp) (zo.cons rfl (by simp) (fun K hK => ?_) zo.nil)
  refine zgb (W := W2) B (W.heap.size + 1) (by rfl) (.tmp 45) (.tmp 51) 126 128 (.agg #[.int .i64 0, .string ⟨#[]⟩, .slice none 0 0]) 3 48 (by rfl) Tryz.underlying126 zsa rfl (by decide) (by decide) (.slice (some ⟨sb, 0, none⟩) (low.length + 1) scap) (low.length + 1) cs [.int .i64 0, .string ⟨#[]⟩, .slice none 0 0] rfl rfl rfl (by intro u hu; simp only [List.mem_cons, List.not_mem_nil, or_false] at hu; rcases hu with rfl | rfl | rfl <;> rfl) HH.out.2.2.2.2.2.1 HZ.out hBW (by omega) ?_
  intro v1 w1 hown hg hat
  obtain ⟨g1, cap1, rfl, a1, a2, a3, a4, a5, a6⟩ := zdz hown
  have r0 : w1.cell? ⟨pb, 2, none⟩ = some (.slice (some ⟨sb, 0, none⟩) (low.length + 1) scap) := (zf ((hg.block pb hpl2 HNN.out.1).trans HH.out.2.2.2.2.2.2.2.2.1) 2).trans rfl
  have r4 : w1.frozen? ⟨pb, 2, none⟩ = false := (World.frozen?_of_block (hg.block pb hpl2 HNN.out.1)).trans HO3.out
  have rbk := (hg.block W.heap.size hbl2 HNN.out.2).trans HB2.out
  have r1 : w1.cell? ⟨W.heap.size, 0, none⟩ = some (.int .i64 t.kind) := (zf rbk 0).trans rfl
  have r2 : w1.cell? ⟨W.heap.size, 1, none⟩ = some (.string t.text) := (zf rbk 1).trans rfl
  have r3 : w1.cell? ⟨W.heap.size, 2, none⟩ = some (.slice hvA t.kids.length hvc) := (zf rbk 2).trans rfl
  clear rbk
  have hgs := zd8 hat HNN.out.1 hpl2
  have hgp : pb ≠ g1 := fun e => hgs e.symm
  have hgb := zd8 hat HNN.out.2 hbl2
  have hgb' : W.heap.size ≠ g1 := fun e => hgb e.symm
  have a4' : ((w1.setCell ⟨g1, (low.length + 1) * 3, none⟩ (.int .i64 kind)).setCell ⟨g1, (low.length + 1) * 3 + 1, none⟩ (.string ⟨#[]⟩)).cell? ⟨g1, (low.length + 1) * 3 + 2, none⟩ = some (.slice none 0 0) := (by rw [World.cell?_setCell_other _ _ _ _ (by intro e; injection e; omega), World.cell?_setCell_other _ _ _ _ (by intro e; injection e; omega)]; exact a5)
  have HFin := ak (show ∃ F', PS 186 128 B T tv pb ((((w1.setCell ⟨g1, (low.length + 1) * 3, none⟩ (.int .i64 kind)).setCell ⟨g1, (low.length + 1) * 3 + 1, none⟩ (.string ⟨#[]⟩)).setCell ⟨g1, (low.length + 1) * 3 + 2, none⟩ (.slice (some ⟨(W.heap.size + 1 + 1), 0, none⟩) 1 1)).setCell ⟨pb, 2, none⟩ (.slice (some ⟨g1, 0, none⟩) (low.length + 1 + 1) cap1)) pos ((low ++ [.mk kd tx ks]) ++ [.mk kind zj [t]]) F' ∧ Fr pb F F' W ((((w1.setCell ⟨g1, (low.length + 1) * 3, none⟩ (.int .i64 kind)).setCell ⟨g1, (low.length + 1) * 3 + 1, none⟩ (.string ⟨#[]⟩)).setCell ⟨g1, (low.length + 1) * 3 + 2, none⟩ (.slice (some ⟨(W.heap.size + 1 + 1), 0, none⟩) 1 1)).setCell ⟨pb, 2, none⟩ (.slice (some ⟨g1, 0, none⟩) (low.length + 1 + 1) cap1)) by
   obtain ⟨HP2, h4, hFs, hN2, hp2, h2, hs2, hb2, p2, hgaN⟩ := HH.out
   obtain ⟨G1, G2, G3, hF0, hnd, hpF, hF⟩ := HG.out
   rw [hFs] at HP2 hN2
   have hlen : (low ++ [Tree.mk kd tx ks]).length = low.length + 1 := by rw [List.length_append, List.length_singleton]
   obtain ⟨F', f1, f2⟩ := PS.push_mem (t := .mk kind zj [t]) (W1 := (((w1.setCell ⟨g1, (low.length + 1) * 3, none⟩ (.int .i64 kind)).setCell ⟨g1, (low.length + 1) * 3 + 1, none⟩ (.string ⟨#[]⟩)).setCell ⟨g1, (low.length + 1) * 3 + 2, none⟩ (.slice (some ⟨(W.heap.size + 1 + 1), 0, none⟩) 1 1))) (v1 := .slice (some ⟨g1, 0, none⟩) (low.length + 1 + 1) cap1) (c := [.int .i64 kind, .string ⟨#[]⟩, .slice (some ⟨(W.heap.size + 1 + 1), 0, none⟩) 1 1]) HP2 p2 h4 HTC.out hN2 hp2 (by rw [hlen]; exact zg1 (x := .int .i64 kind) (y := .string ⟨#[]⟩) (z := .slice (some ⟨(W.heap.size + 1 + 1), 0, none⟩) 1 1) hown (by rw [zf3 _ cs Fs h4, hlen])) hat hg.os hg.tape hg.output (by have := hg.size; simpa [World.setCell] using this) (fun g h1 h2 => by
    have hgg := zd8 hat h2 h1
    rw [Below.heap_setCell _ _ _ g (Ne.symm hgg), Below.heap_setCell _ _ _ g (Ne.symm hgg), Below.heap_setCell _ _ _ g (Ne.symm hgg)]
    exact hg.block g h1 h2)
   refine ⟨F', f1, ⟨f2.os.trans (hb2.os.trans G3.os), f2.tape.trans (hb2.tape.trans G3.tape), f2.output.trans (hb2.output.trans G3.output), Nat.le_trans G3.size (Nat.le_trans hs2 f2.size), fun g k1 k2 k3 => ?_, fun g hg => ?_⟩⟩
   ·have hs3 := G3.size
    rw [f2.kept g (by omega) k2 (fun hh => ?_), hb2.block g (by omega), G3.kept g k1 k2 k3]
    rw [← hFs] at hh
    rcases List.mem_append.1 hh with hh | hh
    ·exact k3 (by rw [hF]; exact List.mem_append_left _ hh)
    ·rcases List.mem_cons.1 hh with hh | hh
     ·omega
     ·exact k3 (by rw [hF]; exact List.mem_append_right _ hh)
   ·have hs3 := G3.size
    rcases f2.rows g hg with hh | hh
    ·rw [← hFs] at hh
     rcases List.mem_append.1 hh with hh | hh
     ·exact .inl (by rw [hF]; exact List.mem_append_left _ hh)
     ·rcases List.mem_cons.1 hh with hh | hh
      ·exact .inr (by rw [hh]; exact hgaN)
      ·exact .inl (by rw [hF]; exact List.mem_append_right _ hh)
    ·exact .inr (by omega))
  clear hown hg hat
  have jj0 : (0 : Int) ≤ (low.length : Int) + 1 := by omega
  have jj1 : (low.length : Int) + 1 < ((low.length + 1 + 1 : Nat) : Int) := by omega
  have jj2 : (low.length : Int) + 1 < (low.length : Int) + 1 + 1 := by omega
  have jt : ((low.length : Int) + 1).toNat = low.length + 1 := by omega
  refine hK.out _ _ ⟨r0, r1, r2, r3⟩ (fun hS => ?_)
  clear hK
  try simp only [Act.put, sia, List.set]
  refine zft (i := 11) (v := .pointer (some ⟨g1, (low.length + 1) * 3, none⟩)) #[true, true, true, true, true, true, true, true, true, true, true, true, false, false, false, false] rfl rfl (by kernel_rfl) (fun _ _ _ h => h) (Or.inl ⟨by rfl, by intro w'; go_simp⟩) rfl ?_
  simp only [Act.put, sia, List.set]
  refine zft (i := 13) (v := .pointer (some ⟨pb, 0, none⟩)) #[true, true, true, true, true, true, true, true, true, true, true, true, false, true, false, false] rfl rfl (by kernel_rfl) (fun _ _ _ h => h) (Or.inl ⟨by rfl, by intro w'; go_simp⟩) rfl ?_
  simp only [Act.put, sia, List.set]
  refine zft (i := 14) (v := .pointer (some ⟨pb, 2, none⟩)) #[true, true, true, true, true, true, true, true, true, true, true, true, false, true, true, false] rfl rfl (by kernel_rfl) (fun _ _ _ h => h) (Or.inl ⟨by rfl, by intro w'; go_simp⟩) rfl ?_
  simp only [Act.put, sia, List.set]
  refine zp (rs := [12, 15]) (by kernel_rfl) (by simp) (zo.cons rfl (by simp) (fun K hK => ?_) (zo.cons_last rfl (by simp) (fun K hK => ?_) zo.nil))
  ·go_simp
   refine hK.out _ _ (by go_keep) (fun hS => ?_)
   clear hK
   try simp only [Act.put, sia, List.set]
   refine zp (rs := [15]) (by kernel_rfl) (by simp) (zo.cons_last rfl (by simp) (fun K hK => ?_) zo.nil)
   go_simp
   refine hK.out _ _ ?_
   refine zq (by kernel_rfl) ?_ _
   clear hK hS
   obtain ⟨F2, h2, f2⟩ := HFin.out
   refine ‹∀ (a : Act) (w : World), (Code.seq _ _).wp _ _ a w → _› _ _ ?_
   generalize (((w1.setCell ⟨g1, (low.length + 1) * 3, none⟩ (.int .i64 kind)).setCell ⟨g1, (low.length + 1) * 3 + 1, none⟩ (.string ⟨#[]⟩)).setCell ⟨g1, (low.length + 1) * 3 + 2, none⟩ (.slice (some ⟨(W.heap.size + 1 + 1), 0, none⟩) 1 1)).setCell ⟨pb, 2, none⟩ (.slice (some ⟨g1, 0, none⟩) (low.length + 1 + 1) cap1) = W3 at h2 f2 ⊢
   have H2 := ak (And.intro h2 f2)
   clear h2 f2 r0 r1 r2 r3 r4 a1 a2 a3 a4 a5 a6 a4' hgs hgp hgb hgb' HFin
   go_wp2_with fail
   refine (HF.out W3 F2 H2.out.1 H2.out.2).mono ?_
   rintro e W4 ⟨⟨v, rfl⟩, F3, h3, f3⟩
   have H3 := ak (And.intro h3 (H2.out.2.trans f3))
   clear h3 f3 H2
   go_wp2_with fail
   refine (zck (.mk kind zj s'.2) H3.out.1 hsm).mono ?_
   rintro e W5 ⟨rfl, F4, h4, f4⟩
   have H4 := ak (And.intro h4 (H3.out.2.trans f4))
   clear h4 f4 H3
   go_wp2_with fail
   go_end0
   exact ⟨rfl, F4, H4.out⟩
  ·go_simp
   refine hK.out _ _ ?_
   clear hK
   try simp only [Act.put, sia, List.set]
   refine zp (rs := [12]) (by kernel_rfl) (by simp) (zhu rfl (fun K hK => ?_) zo.nil)
   go_simp
   refine hK.out _ _ (by rintro ⟨z1, z2, z3, z4⟩; go_keep) ?_
   refine zq (by kernel_rfl) ?_ _
   clear hK
   rw [zdk w1 g1 pb _ _ _ _ _ _ _ _ hgs]
   obtain ⟨F2, h2, f2⟩ := HFin.out
   refine ‹∀ (a : Act) (w : World), (Code.seq _ _).wp _ _ a w → _› _ _ ?_
   generalize (((w1.setCell ⟨g1, (low.length + 1) * 3, none⟩ (.int .i64 kind)).setCell ⟨g1, (low.length + 1) * 3 + 1, none⟩ (.string ⟨#[]⟩)).setCell ⟨g1, (low.length + 1) * 3 + 2, none⟩ (.slice (some ⟨(W.heap.size + 1 + 1), 0, none⟩) 1 1)).setCell ⟨pb, 2, none⟩ (.slice (some ⟨g1, 0, none⟩) (low.length + 1 + 1) cap1) = W3 at h2 f2 ⊢
   have H2 := ak (And.intro h2 f2)
   clear h2 f2 r0 r1 r2 r3 r4 a1 a2 a3 a4 a5 a6 a4' hgs hgp hgb hgb' HFin
   go_wp2_with fail
   refine (HF.out W3 F2 H2.out.1 H2.out.2).mono ?_
   rintro e W4 ⟨⟨v, rfl⟩, F3, h3, f3⟩
   have H3 := ak (And.intro h3 (H2.out.2.trans f3))
   clear h3 f3 H2
   go_wp2_with fail
   refine (zck (.mk kind zj s'.2) H3.out.1 hsm).mono ?_
   rintro e W5 ⟨rfl, F4, h4, f4⟩
   have H4 := ak (And.intro h4 (H3.out.2.trans f4))
   clear h4 f4 H3
   go_wp2_with fail
   go_end0
   exact ⟨rfl, F4, H4.out⟩
end Go.Proofs.YtmoelofaojgjfaaGreatDoor.Par
namespace Go.Proofs.YtmoelofaojgjfaaGreatDoor.Par
open Go.RowKit Go.Proofs.YtmoelofaojgjfaaGreatDoorW.PrintWords Go.Proofs.YtmoelofaojgjfaaGreatDoorW.PrintLast
structure Now (B : Nat) (T : List Tok) (tv : Value) (pb : Nat) (m : Nat) (low : List Tree) (kd : Int) (tx : ByteArray) (W0 : World) (F0 : List Nat) (W : World) (s : St) : Prop where
 st : ∃ F, PS 186 128 B T tv pb W s.1 (low ++ [.mk kd tx s.2]) F ∧ Fr pb F0 F W0 W
 pos : s.1 ≤ T.length
 len : T.length ≤ 100000
 low : low.length ≤ 10000000
 kids : s.2.length ≤ s.1 + m
structure zer (pb : Nat) (W0 : World) (F0 : List Nat) (b : Nat) : Prop where
 lt : b < W0.heap.size
 ne : b ≠ pb
 nin : b ∉ F0
abbrev NowP (B : Nat) (T : List Tok) (tv : Value) (pb : Nat) (m : Nat) (low : List Tree) (kd : Int) (tx : ByteArray) (W0 : World) (F0 : List Nat) (v : Value) (s : St) : Ending → World → Prop := fun e W' => e = .returned v ∧ Now B T tv pb m low kd tx W0 F0 W' s
end Go.Proofs.YtmoelofaojgjfaaGreatDoor.Par
namespace Go.Proofs.YtmoelofaojgjfaaGreatDoor.Par
open Go.RowKit Go.Proofs.YtmoelofaojgjfaaGreatDoorW.PrintWords Go.Proofs.YtmoelofaojgjfaaGreatDoorW.PrintLast
variable {B : Nat} {T : List Tok} {tv : Value} {pb : Nat} {m : Nat} {low : List Tree} {kd : Int} {tx : ByteArray} {W0 : World} {F0 : List Nat} {W : World} {s : St}
theorem Now.below (N : Now B T tv pb m low kd tx W0 F0 W s) {W' : World} (h : Below W.heap.size W W') : Now B T tv pb m low kd tx W0 F0 W' s := by
 obtain ⟨F, h1, h2⟩ := N.st
 exact ⟨⟨F, h1.below h, h2.trans (Fr.of_below h)⟩, N.pos, N.len, N.low, N.kids⟩
theorem Now.size (N : Now B T tv pb m low kd tx W0 F0 W s) : W0.heap.size ≤ W.heap.size := by
 obtain ⟨F, h1, h2⟩ := N.st
 exact h2.size
theorem Now.keep (N : Now B T tv pb m low kd tx W0 F0 W s) {b : Nat} (a : zer pb W0 F0 b) : W.heap[b]? = W0.heap[b]? := by
 obtain ⟨F, h1, h2⟩ := N.st
 exact h2.kept b a.lt a.ne a.nin
theorem Now.apart (N : Now B T tv pb m low kd tx W0 F0 W s) {b : Nat} {F : List Nat} (h : Fr pb F0 F W0 W) (a : zer pb W0 F0 b) : zer pb W F b := by
 refine ⟨Nat.lt_of_lt_of_le a.lt h.size, a.ne, fun hh => ?_⟩
 rcases h.rows b hh with h1 | h1
 ·exact a.nin h1
 ·have := a.lt
  omega
theorem Now.enter (N : Now B T tv pb m low kd tx W0 F0 W s) {W1 : World} (h : Below W.heap.size W W1) : ∃ F, Now B T tv pb m low kd tx W1 F W1 s ∧ (∀ b, W.heap.size ≤ b → b < W1.heap.size → zer pb W1 F b) ∧ (∀ b, zer pb W0 F0 b → zer pb W1 F b) ∧
  ∀ W' m' low' kd' tx' s', Now B T tv pb m' low' kd' tx' W1 F W' s' → Now B T tv pb m' low' kd' tx' W0 F0 W' s' := by
 obtain ⟨F, h1, h2⟩ := N.st
 have hpl : pb < W.heap.size := by
  obtain ⟨_, g, _⟩ := h1.obj
  exact za8 g
 refine ⟨F, ⟨⟨F, h1.below h, Fr.refl _ _ _⟩, N.pos, N.len, N.low, N.kids⟩, fun b h3 h4 => ⟨h4, by omega, fun hh => ?_⟩, fun b a => ?_, fun W' m' low' kd' tx' s' N' => ?_⟩
 ·have := (h1.rowsGe b hh).2
  omega
 ·have := N.apart h2 a
  exact ⟨Nat.lt_of_lt_of_le this.lt h.size, this.ne, this.nin⟩
 ·obtain ⟨F', k1, k2⟩ := N'.st
  exact ⟨⟨F', k1, (h2.trans (Fr.of_below h)).trans k2⟩, N'.pos, N'.len, N'.low, N'.kids⟩
theorem Now.enter2 (N : Now B T tv pb m low kd tx W0 F0 W s) {W1 : World} (h : Below W.heap.size W W1) : ∃ F, Now B T tv pb m low kd tx W1 F W1 s ∧ (∀ b, W.heap.size ≤ b → b < W1.heap.size → zer pb W1 F b) ∧ (∀ b, zer pb W0 F0 b → zer pb W1 F b ∧ W1.heap[b]? = W0.heap[b]?) ∧
  ∀ W' m' low' kd' tx' s', Now B T tv pb m' low' kd' tx' W1 F W' s' → Now B T tv pb m' low' kd' tx' W0 F0 W' s' := by
 obtain ⟨F, h1, h2, h3, h4⟩ := N.enter h
 refine ⟨F, h1, h2, fun b a => ⟨h3 b a, ?_⟩, h4⟩
 have := N.size
 have hl := a.lt
 rw [h.block b (by omega)]
 exact N.keep a
theorem Now.weak (N : Now B T tv pb m low kd tx W0 F0 W s) {m' : Nat} (h : s.2.length ≤ s.1 + m') : Now B T tv pb m' low kd tx W0 F0 W s := ⟨N.st, N.pos, N.len, N.low, h⟩
theorem zcf {s : St} : fit T s = true ↔ s.1 ≤ T.length ∧ s.2.length ≤ 10000000 := by simp [fit]
theorem zad {k : Nat} {x : NT} {q : Bool × St} (h : run T k x s = some q) : ∃ j, k = j + 1 ∧ fit T s = true ∧ step T (run T j) x s = some q ∧ fit T q.2 = true := by
 cases k with
 | zero => cases h
 | succ j =>
  unfold run at h
  by_cases h1 : fit T s = true
  ·rw [if_pos h1] at h
   obtain ⟨a, h2, h3⟩ := Option.bind_eq_some_iff.1 h
   by_cases h4 : fit T a.2 = true
   ·rw [if_pos h4] at h3
    cases h3
    exact ⟨j, rfl, h1, h2, h4⟩
   ·rw [if_neg h4] at h3
    cases h3
  ·rw [if_neg h1] at h
   cases h
theorem zce {k : Nat} {x : NT} {q : Bool × St} (h : run T k x s = some q) : fit T q.2 = true := by
 obtain ⟨_, _, _, _, h⟩ := zad h
 exact h
theorem Now.fit (N : Now B T tv pb m low kd tx W0 F0 W s) (h : fit T s = true) : Now B T tv pb 10000000 low kd tx W0 F0 W s := N.weak (by have := (zcf.1 h).2; omega)
theorem zbh {f : St → St} {fs : List (St → Ans)} {q : Bool × St} (h : sqL (st f :: fs) s = some q) : sqL fs (f s) = some q := h
theorem zu {f : St → Ans} {fs : List (St → Ans)} {q : Bool × St} (h : sqL (f :: fs) s = some q) : ∃ p, f s = some p ∧ sqL fs p.2 = some q := by
 obtain ⟨a, h1, h2⟩ := Option.bind_eq_some_iff.1 h
 exact ⟨a, h1, h2⟩
theorem zaw {q : Bool × St} (h : sqL [] s = some q) : q = (false, s) := by
 cases h
 rfl
theorem zab {p q : Bool × St} (h : some p = some q) : q = p := by
 cases h
 rfl
theorem zcp {x : Ans} {f : Bool × St → Ans} {q : Bool × St} (h : x.bind f = some q) : ∃ p, x = some p ∧ f p = some q := by
 obtain ⟨a, h1, h2⟩ := Option.bind_eq_some_iff.1 h
 exact ⟨a, h1, h2⟩
theorem zai {kind : Int} {f : St → Ans} {q : Bool × St} (h : zbt kind f s = some q) : ∃ p, f (s.1, []) = some p ∧ q = (false, (p.2.1, s.2 ++ [.mk kind zj p.2.2])) := by
 obtain ⟨a, h1, h2⟩ := zcp h
 exact ⟨a, h1, zab h2⟩
theorem zdi {kind : Int} {f : St → Ans} {q : Bool × St} (h : ze9 kind f s = some q) : ∃ ks t p, s = (s.1, ks ++ [t]) ∧ f (s.1, [t]) = some p ∧ q = (false, (p.2.1, ks ++ [.mk kind zj p.2.2])) := by
 unfold ze9 at h
 cases hg : s.2.getLast? with
 | none =>
  rw [hg] at h
  cases h
 | some t =>
  rw [hg] at h
  obtain ⟨a, h1, h2⟩ := zcp h
  have hd : s.2 = s.2.dropLast ++ [t] := by
   have hne : s.2 ≠ [] := by
    rintro e
    rw [e] at hg
    cases hg
   have h3 := List.dropLast_concat_getLast hne
   rw [List.getLast?_eq_some_getLast hne] at hg
   cases hg
   exact h3.symm
  exact ⟨s.2.dropLast, t, a, Prod.ext rfl hd, h1, zab h2⟩
theorem if_t {b : Bool} {x y : Ans} {q : Bool × St} (hb : b = true) (h : (if b = true then x else y) = some q) : x = some q := by rwa [if_pos hb] at h
theorem if_f {b : Bool} {x y : Ans} {q : Bool × St} (hb : b = false) (h : (if b = true then x else y) = some q) : y = some q := by rwa [if_neg (by rw [hb]; simp)] at h
theorem if_y {p : Prop} [Decidable p] {x y : Ans} {q : Bool × St} (hb : p) (h : (if p then x else y) = some q) : x = some q := by rwa [if_pos hb] at h
theorem if_n {p : Prop} [Decidable p] {x y : Ans} {q : Bool × St} (hb : ¬ p) (h : (if p then x else y) = some q) : y = some q := by rwa [if_neg hb] at h
theorem Now.post (N : Now B T tv pb m low kd tx W0 F0 W s) {v : Value} {s' : St} (hpos : s'.1 ≤ T.length) {m' : Nat} (hk : s'.2.length ≤ s'.1 + m') {f : FuncId} {args : Array Value}
  (h : ∀ F, PS 186 128 B T tv pb W s.1 (low ++ [.mk kd tx s.2]) F → Calls Tryz.prog f args W (Post B T tv pb W low kd tx F v s')) :
  Calls Tryz.prog f args W (NowP B T tv pb m' low kd tx W0 F0 v s') := by
 obtain ⟨F, h1, h2⟩ := N.st
 refine (h F h1).mono ?_
 rintro e W' ⟨rfl, F', k1, k2⟩
 exact ⟨rfl, ⟨F', k1, h2.trans k2⟩, hpos, N.len, N.low, hk⟩
theorem zat (N : Now B T tv pb m low kd tx W0 F0 W s) (hm : m ≤ 20000000) : Calls Tryz.prog 149 #[.pointer (some ⟨pb, 0, none⟩)] W (NowP B T tv pb m low kd tx W0 F0 (.tuple #[]) (zz T s)) := by
 obtain ⟨h1, h2, h3⟩ := zf7 (T := T) N.pos
 refine N.post h2 (by have := N.kids; omega) (fun F h => (zf6 N.len N.pos h (by have := N.low; have := N.kids; have := N.pos; have := N.len; omega)).mono ?_)
 rintro e W' ⟨rfl, h⟩
 exact ⟨rfl, h⟩
theorem zs5 (N : Now B T tv pb m low kd tx W0 F0 W s) (hm : m ≤ 20000000) {l : List ByteArray} {A : Option Addr} {c : Nat} (hl : l.length ≤ 1000) (hr : Kd.C Kd.string W A l.length l) (hc : l.length ≤ c) :
  Calls Tryz.prog 148 #[.pointer (some ⟨pb, 0, none⟩), .slice A l.length c] W (NowP B T tv pb m low kd tx W0 F0 (.bool (atT T s.1 l)) (zbq T s l)) := by
 obtain ⟨h1, h2, h3⟩ := zf7 (T := T) N.pos
 have hle : (zbq T s l).1 ≤ T.length ∧ (zbq T s l).2.length ≤ (zbq T s l).1 + m := by
  have := N.kids
  have := N.pos
  unfold zbq
  split <;> constructor <;> omega
 exact N.post hle.1 hle.2 (fun F h => zia N.len N.pos h (by have := N.low; have := N.kids; have := N.pos; have := N.len; omega) hl hr hc)
theorem zfu (N : Now B T tv pb m low kd tx W0 F0 W s) (t : Tree) : (addS s t).1 ≤ T.length ∧ (addS s t).2.length ≤ (addS s t).1 + (m + 1) := by
 have := N.kids
 have := N.pos
 simp [addS]
 omega
theorem zde (N : Now B T tv pb m low kd tx W0 F0 W s) (hm : m ≤ 20000000) : Calls Tryz.prog 288 #[.pointer (some ⟨pb, 0, none⟩)] W (NowP B T tv pb (m + 1) low kd tx W0 F0 (.tuple #[]) (ze5 s)) :=
 N.post (zfu N _).1 (zfu N _).2 (fun F h => zjx h (by have := N.low; have := N.kids; have := N.pos; have := N.len; omega))
theorem zpc (N : Now B T tv pb m low kd tx W0 F0 W s) (hm : m ≤ 20000000) : Calls Tryz.prog 281 #[.pointer (some ⟨pb, 0, none⟩)] W (NowP B T tv pb (m + 1) low kd tx W0 F0 (.tuple #[]) (zev s)) :=
 N.post (zfu N _).1 (zfu N _).2 (fun F h => zfc h (by have := N.low; have := N.kids; have := N.pos; have := N.len; omega))
theorem zeg (N : Now B T tv pb m low kd tx W0 F0 W s) (hm : m ≤ 20000000) : Calls Tryz.prog 274 #[.pointer (some ⟨pb, 0, none⟩)] W (NowP B T tv pb (m + 1) low kd tx W0 F0 (.tuple #[]) (ze0 s)) :=
 N.post (zfu N _).1 (zfu N _).2 (fun F h => zom h (by have := N.low; have := N.kids; have := N.pos; have := N.len; omega))
theorem zag (N : Now B T tv pb m low kd tx W0 F0 W s) (hm : m ≤ 20000000) (text : ByteArray) : Calls Tryz.prog 228 #[.pointer (some ⟨pb, 0, none⟩), .string text] W (NowP B T tv pb (m + 1) low kd tx W0 F0 (.tuple #[]) (zx T text s)) := by
 obtain ⟨h1, h2, h3⟩ := zf7 (T := T) N.pos
 have h4 := zfu N (.mk 108 zj [])
 have hle : (zx T text s).1 ≤ T.length ∧ (zx T text s).2.length ≤ (zx T text s).1 + (m + 1) := by
  have := N.kids
  unfold zx
  split
  ·constructor <;> omega
  ·exact h4
 exact N.post hle.1 hle.2 (fun F h => zns N.len N.pos h (by have := N.low; have := N.kids; have := N.pos; have := N.len; omega) text)
theorem zbl (N : Now B T tv pb m low kd tx W0 F0 W s) (hm : m ≤ 20000000) : Calls Tryz.prog 225 #[.pointer (some ⟨pb, 0, none⟩)] W (NowP B T tv pb (m + 1) low kd tx W0 F0 (.tuple #[]) (zao T s)) := by
 obtain ⟨h1, h2, h3⟩ := zf7 (T := T) N.pos
 have h4 := zfu N (.mk 108 zj [])
 have hle : (zao T s).1 ≤ T.length ∧ (zao T s).2.length ≤ (zao T s).1 + (m + 1) := by
  have := N.kids
  unfold zao
  split
  ·constructor <;> omega
  ·exact h4
 exact N.post hle.1 hle.2 (fun F h => zj2 N.len N.pos h (by have := N.low; have := N.kids; have := N.pos; have := N.len; omega))
theorem Now.ask (N : Now B T tv pb m low kd tx W0 F0 W s) {v : Value} {f : FuncId} {args : Array Value}
  (h : ∀ F, PS 186 128 B T tv pb W s.1 (low ++ [.mk kd tx s.2]) F → Calls Tryz.prog f args W (fun e W' => e = .returned v ∧ Below W.heap.size W W')) :
  Calls Tryz.prog f args W (NowP B T tv pb m low kd tx W0 F0 v s) := by
 obtain ⟨F, h1, h2⟩ := N.st
 refine (h F h1).mono ?_
 rintro e W' ⟨rfl, hb⟩
 exact ⟨rfl, N.below hb⟩
theorem zdr (N : Now B T tv pb m low kd tx W0 F0 W s) {l : List ByteArray} {A : Option Addr} {c : Nat} (hl : l.length ≤ 1000) (hr : Kd.C Kd.string W A l.length l) (hc : l.length ≤ c) :
  Calls Tryz.prog 142 #[.pointer (some ⟨pb, 0, none⟩), .slice A l.length c] W (NowP B T tv pb m low kd tx W0 F0 (.bool (atT T s.1 l)) s) :=
 N.ask (fun F h => zhi N.len N.pos h hl hr hc)
theorem zbk (N : Now B T tv pb m low kd tx W0 F0 W s) (l : List ByteArray) (hl : l.length ≤ 1000) :
  Calls Tryz.prog 142 #[.pointer (some ⟨pb, 0, none⟩), .slice (some ⟨W.heap.size, 0, none⟩) l.length l.length] (W.alloc (.cells (l.map Value.string).toArray 9)) (NowP B T tv pb m low kd tx W0 F0 (.bool (atT T s.1 l)) s) :=
 zdr (N.below (zh (Below.refl _ _) _)) hl (zdv l hl (zaj W _)) (Nat.le_refl _)
theorem zbm (N : Now B T tv pb m low kd tx W0 F0 W s) (hm : m ≤ 20000000) (l : List ByteArray) (hl : l.length ≤ 1000) :
  Calls Tryz.prog 148 #[.pointer (some ⟨pb, 0, none⟩), .slice (some ⟨W.heap.size, 0, none⟩) l.length l.length] (W.alloc (.cells (l.map Value.string).toArray 9)) (NowP B T tv pb m low kd tx W0 F0 (.bool (atT T s.1 l)) (zbq T s l)) :=
 zs5 (N.below (zh (Below.refl _ _) _)) hm hl (zdv l hl (zaj W _)) (Nat.le_refl _)
theorem zfy (N : Now B T tv pb m low kd tx W0 F0 W s) : Calls Tryz.prog 96 #[.pointer (some ⟨pb, 0, none⟩)] W (NowP B T tv pb m low kd tx W0 F0 (.bool (eofT T s.1)) s) := N.ask (fun F h => zvf N.len N.pos h)
theorem za4 (N : Now B T tv pb m low kd tx W0 F0 W s) : Calls Tryz.prog 278 #[.pointer (some ⟨pb, 0, none⟩)] W (NowP B T tv pb m low kd tx W0 F0 (.bool (idT T s.1)) s) := N.ask (fun F h => zgl N.len N.pos h)
theorem zs3 (N : Now B T tv pb m low kd tx W0 F0 W s) : Calls Tryz.prog 318 #[.pointer (some ⟨pb, 0, none⟩)] W (NowP B T tv pb m low kd tx W0 F0 (.bool (zea T s.1)) s) := N.ask (fun F h => zoh N.len N.pos h)
theorem zii (N : Now B T tv pb m low kd tx W0 F0 W s) : Calls Tryz.prog 141 #[.pointer (some ⟨pb, 0, none⟩)] W (NowP B T tv pb m low kd tx W0 F0 (.agg #[.int .i64 (zal T s.1).1, .string (zal T s.1).2]) s) := N.ask (fun F h => ze3 N.len N.pos h)
theorem zqm (N : Now B T tv pb m low kd tx W0 F0 W s) : Calls Tryz.prog 220 #[] W fun e W' => e = .returned (.slice (some ⟨W.heap.size, 0, none⟩) zei.length 9) ∧ Now B T tv pb m low kd tx W0 F0 W' s ∧ Kd.C Kd.string W' (some ⟨W.heap.size, 0, none⟩) zei.length zei := by
 obtain ⟨F, h1, h2⟩ := N.st
 refine (zqn W h1.spc).mono ?_
 rintro e W' ⟨rfl, hb, hk⟩
 exact ⟨rfl, N.below hb, zdv zei (by decide) hk⟩
def Look (T : List Tok) (tv : Value) (qb : Nat) (W : World) (n : Nat) : Prop := n ≤ T.length ∧ ∃ Bq sq Fq, PS 186 128 Bq T tv qb W n sq Fq
theorem Look.below {qb n : Nat} (h : Look T tv qb W n) {W' : World} (hb : Below W.heap.size W W') : Look T tv qb W' n := by
 obtain ⟨h0, Bq, sq, Fq, h1⟩ := h
 exact ⟨h0, Bq, sq, Fq, h1.below hb⟩
theorem zql {n : Nat} (h : n ≤ T.length) : zb1 T n ≤ T.length := (zf7 (T := T) (s := (n, [])) h).2.1
theorem zew (N : Now B T tv pb m low kd tx W0 F0 W s) : Calls Tryz.prog 143 #[.pointer (some ⟨pb, 0, none⟩)] W fun e W' => ∃ qb, e = .returned (.pointer (some ⟨qb, 0, none⟩)) ∧ Now B T tv pb m low kd tx W0 F0 W' s ∧ Look T tv qb W' (zb1 T s.1) := by
 obtain ⟨F, h1, h2⟩ := N.st
 refine (zkm N.len N.pos h1).mono ?_
 rintro e W' ⟨qb, rfl, hb, sq, Fq, hq⟩
 exact ⟨qb, rfl, N.below hb, zql N.pos, _, sq, Fq, hq⟩
theorem zuq {qb n : Nat} (N : Now B T tv pb m low kd tx W0 F0 W s) (L : Look T tv qb W n) : Calls Tryz.prog 143 #[.pointer (some ⟨qb, 0, none⟩)] W fun e W' => ∃ rb, e = .returned (.pointer (some ⟨rb, 0, none⟩)) ∧ Now B T tv pb m low kd tx W0 F0 W' s ∧ Look T tv rb W' (zb1 T n) := by
 obtain ⟨h0, Bq, sq, Fq, h1⟩ := L
 refine (zkm N.len h0 h1).mono ?_
 rintro e W' ⟨rb, rfl, hb, sq, Fq, hq⟩
 exact ⟨rb, rfl, N.below hb, zql h0, _, sq, Fq, hq⟩
theorem zds {qb n : Nat} (N : Now B T tv pb m low kd tx W0 F0 W s) (L : Look T tv qb W n) (l : List ByteArray) (hl : l.length ≤ 1000) :
  Calls Tryz.prog 142 #[.pointer (some ⟨qb, 0, none⟩), .slice (some ⟨W.heap.size, 0, none⟩) l.length l.length] (W.alloc (.cells (l.map Value.string).toArray 9)) (NowP B T tv pb m low kd tx W0 F0 (.bool (atT T n l)) s) := by
 obtain ⟨h0, Bq, sq, Fq, h1⟩ := L
 refine (zhi N.len h0 (h1.below (zh (Below.refl _ _) _)) hl (zdv l hl (zaj W _)) (Nat.le_refl _)).mono ?_
 rintro e W' ⟨rfl, hb⟩
 exact ⟨rfl, (N.below (zh (Below.refl _ _) _)).below hb⟩
theorem zkq {qb n : Nat} (N : Now B T tv pb m low kd tx W0 F0 W s) (L : Look T tv qb W n) : Calls Tryz.prog 278 #[.pointer (some ⟨qb, 0, none⟩)] W fun e W' => e = .returned (.bool (idT T n)) ∧ Now B T tv pb m low kd tx W0 F0 W' s ∧ Look T tv qb W' n := by
 obtain ⟨h0, Bq, sq, Fq, h1⟩ := L
 refine (zgl N.len h0 h1).mono ?_
 rintro e W' ⟨rfl, hb⟩
 exact ⟨rfl, N.below hb, h0, Bq, sq, Fq, h1.below hb⟩
theorem ztt {qb n : Nat} (N : Now B T tv pb m low kd tx W0 F0 W s) (L : Look T tv qb W n) : Calls Tryz.prog 141 #[.pointer (some ⟨qb, 0, none⟩)] W (NowP B T tv pb m low kd tx W0 F0 (.agg #[.int .i64 (zal T n).1, .string (zal T n).2]) s) := by
 obtain ⟨h0, Bq, sq, Fq, h1⟩ := L
 refine (ze3 N.len h0 h1).mono ?_
 rintro e W' ⟨rfl, hb⟩
 exact ⟨rfl, N.below hb⟩
abbrev Old (pb : Nat) (W0 : World) (F0 : List Nat) (W1 : World) (F1 : List Nat) : Prop := ∀ b, zer pb W0 F0 b → zer pb W1 F1 b ∧ W1.heap[b]? = W0.heap[b]?
theorem zd3 (N : Now B T tv pb m low kd tx W0 F0 W s) (hm : m ≤ 30000000) (hlow : low.length < 10000000) (kind : Int) (fid : Nat) (bound free : Array Value) (s' : St) (hen : ∀ args w, (callFunc fid args).run Tryz.prog w = .ok (.enter fid args) w) (hp : s'.1 ≤ T.length)
  (hf : ∀ W1 F1, Now B T tv pb 0 (low ++ [.mk kd tx s.2]) kind zj W1 F1 W1 (s.1, []) → Old pb W0 F0 W1 F1 → Calls Tryz.prog fid (bound ++ free) W1 fun e W' => (∃ v, e = .returned v) ∧ ∃ m', Now B T tv pb m' (low ++ [.mk kd tx s.2]) kind zj W1 F1 W' s') :
  Calls Tryz.prog 146 #[.pointer (some ⟨pb, 0, none⟩), .int .i64 kind, .func (.func fid) bound free] W (NowP B T tv pb (m + 100001) low kd tx W0 F0 (.tuple #[]) (s'.1, s.2 ++ [.mk kind zj s'.2])) := by
 obtain ⟨F, h1, h2⟩ := N.st
 have hsm : low.length + s.2.length ≤ 1000000000 := by have := N.low; have := N.kids; have := N.pos; have := N.len; omega
 have hl2 : (low ++ [Tree.mk kd tx s.2]).length ≤ 10000000 := by rw [List.length_append, List.length_singleton]; omega
 refine (zrv kind fid bound free s' h1 hsm hen (fun W1 F1 g1 g2 => (hf W1 F1 ⟨⟨F1, g1, Fr.refl _ _ _⟩, N.pos, N.len, hl2, by simp⟩ (fun b a => ⟨?_, ?_⟩)).mono ?_)).mono ?_
 ·have a2 := N.apart h2 a
  refine ⟨Nat.lt_of_lt_of_le a2.lt g2.size, a2.ne, fun hh => ?_⟩
  rcases g2.rows b hh with h | h
  ·exact a2.nin h
  ·have := a2.lt
   omega
 ·have a2 := N.apart h2 a
  rw [g2.kept b a2.lt a2.ne a2.nin]
  exact N.keep a
 ·rintro e W' ⟨hv, m', M⟩
  obtain ⟨F', k1, k2⟩ := M.st
  exact ⟨hv, F', k1, k2⟩
 ·rintro e W' ⟨rfl, F', k1, k2⟩
  exact ⟨rfl, ⟨F', k1, h2.trans k2⟩, hp, N.len, N.low, by have := N.kids; have := N.pos; have := N.len; simp; omega⟩
theorem zd1 {ks : List Tree} {t : Tree} (N : Now B T tv pb m low kd tx W0 F0 W s) (hs : s = (s.1, ks ++ [t])) (hm : m ≤ 30000000) (hlow : low.length < 10000000) (kind : Int) (fid : Nat) (bound free : Array Value) (s' : St) (hen : ∀ args w, (callFunc fid args).run Tryz.prog w = .ok (.enter fid args) w) (hp : s'.1 ≤ T.length)
  (hf : ∀ W1 F1, Now B T tv pb 1 (low ++ [.mk kd tx ks]) kind zj W1 F1 W1 (s.1, [t]) → Old pb W0 F0 W1 F1 → Calls Tryz.prog fid (bound ++ free) W1 fun e W' => (∃ v, e = .returned v) ∧ ∃ m', Now B T tv pb m' (low ++ [.mk kd tx ks]) kind zj W1 F1 W' s') :
  Calls Tryz.prog 326 #[.pointer (some ⟨pb, 0, none⟩), .int .i64 kind, .func (.func fid) bound free] W (NowP B T tv pb (m + 100001) low kd tx W0 F0 (.tuple #[]) (s'.1, ks ++ [.mk kind zj s'.2])) := by
 obtain ⟨F, h1, h2⟩ := N.st
 have hk := N.kids
 have hpo := N.pos
 have hle := N.len
 have e2 : s.2 = ks ++ [t] := congrArg Prod.snd hs
 rw [e2] at h1 hk
 simp only [List.length_append, List.length_singleton] at hk
 have hsm : low.length + ks.length ≤ 1000000000 := by have := N.low; omega
 have hl2 : (low ++ [Tree.mk kd tx ks]).length ≤ 10000000 := by rw [List.length_append, List.length_singleton]; omega
 refine (zq5 kind fid bound free s' t h1 hsm hen (fun W1 F1 g1 g2 => (hf W1 F1 ⟨⟨F1, g1, Fr.refl _ _ _⟩, hpo, hle, hl2, by simp⟩ (fun b a => ⟨?_, ?_⟩)).mono ?_)).mono ?_
 ·have a2 := N.apart h2 a
  refine ⟨Nat.lt_of_lt_of_le a2.lt g2.size, a2.ne, fun hh => ?_⟩
  rcases g2.rows b hh with h | h
  ·exact a2.nin h
  ·have := a2.lt
   omega
 ·have a2 := N.apart h2 a
  rw [g2.kept b a2.lt a2.ne a2.nin]
  exact N.keep a
 ·rintro e W' ⟨hv, m', M⟩
  obtain ⟨F', k1, k2⟩ := M.st
  exact ⟨hv, F', k1, k2⟩
 ·rintro e W' ⟨rfl, F', k1, k2⟩
  exact ⟨rfl, ⟨F', k1, h2.trans k2⟩, hp, hle, N.low, by simp; omega⟩
end Go.Proofs.YtmoelofaojgjfaaGreatDoor.Par
namespace Go.Proofs.YtmoelofaojgjfaaGreatDoor.Par
open Go.RowKit Go.Proofs.YtmoelofaojgjfaaGreatDoorW.PrintWords Go.Proofs.YtmoelofaojgjfaaGreatDoorW.PrintLast
def Does (B : Nat) (T : List Tok) (tv : Value) (pb : Nat) (k : Nat) (x : NT) (fid : Nat) (args : Array Value) (low : List Tree) (kd : Int) (tx : ByteArray) (W0 : World) (F0 : List Nat) : Prop :=
 ∀ i, i < k → ∀ m W s q, m ≤ 30000000 → Now B T tv pb m low kd tx W0 F0 W s → run T i x s = some q → Calls Tryz.prog fid args W fun e W' => (∃ v, e = .returned v) ∧ ∃ m', Now B T tv pb m' low kd tx W0 F0 W' q.2
def Meth (B : Nat) (T : List Tok) (tv : Value) (pb : Nat) (k : Nat) (x : NT) (fid : Nat) (args : Array Value) (res : Bool → Value) : Prop :=
 ∀ m low kd tx W0 F0 W s q, m ≤ 30000000 → low.length + k ≤ 10000000 → Now B T tv pb m low kd tx W0 F0 W s → run T k x s = some q → Calls Tryz.prog fid args W (NowP B T tv pb 10000000 low kd tx W0 F0 (res q.1) q.2)
structure Box (pb : Nat) (W0 : World) (F0 : List Nat) (b : Nat) (v : Value) : Prop where
 apart : zer pb W0 F0 b
 cell : ∃ t, W0.heap[b]? = some (.cells #[v] t (0, 0))
end Go.Proofs.YtmoelofaojgjfaaGreatDoor.Par
namespace Go.Proofs.YtmoelofaojgjfaaGreatDoor.Par
open Go.RowKit Go.Proofs.YtmoelofaojgjfaaGreatDoorW.PrintWords Go.Proofs.YtmoelofaojgjfaaGreatDoorW.PrintLast
variable {B : Nat} {T : List Tok} {tv : Value} {pb : Nat} {m : Nat} {low : List Tree} {kd : Int} {tx : ByteArray} {W0 : World} {F0 : List Nat} {W : World} {s : St}
theorem Now.box (N : Now B T tv pb m low kd tx W0 F0 W s) {b : Nat} {v : Value} (h : Box pb W0 F0 b v) : W.cell? ⟨b, 0, none⟩ = some v := by
 obtain ⟨t, h1⟩ := h.cell
 exact (zf ((N.keep h.apart).trans h1) 0).trans rfl
theorem Box.old {b : Nat} {v : Value} {W1 : World} {F1 : List Nat} (h : Box pb W0 F0 b v) (o : Old pb W0 F0 W1 F1) : Box pb W1 F1 b v := by
 obtain ⟨t, h1⟩ := h.cell
 obtain ⟨h2, h3⟩ := o b h.apart
 exact ⟨h2, t, h3.trans h1⟩
theorem Meth.does {k j : Nat} {x : NT} {fid : Nat} {args : Array Value} {res : Bool → Value} (h : ∀ i, i < k → Meth B T tv pb i x fid args res) (hl : low.length + k ≤ 10000000) (hj : j ≤ k) : Does B T tv pb j x fid args low kd tx W0 F0 := by
 intro i hi m W s q hm N hr
 refine (h i (by omega) m low kd tx W0 F0 W s q hm (by omega) N hr).mono ?_
 rintro e W' ⟨rfl, N'⟩
 exact ⟨⟨_, rfl⟩, _, N'⟩
theorem zbu (k : Nat) : Does B T tv pb k .bump 149 #[.pointer (some ⟨pb, 0, none⟩)] low kd tx W0 F0 := by
 intro i hi m W s q hm N hr
 obtain ⟨j, rfl, h1, h2, h3⟩ := zad hr
 refine (zat (N.fit h1) (by omega)).mono ?_
 rintro e W' ⟨rfl, N'⟩
 obtain rfl := zab h2
 exact ⟨⟨_, rfl⟩, _, N'⟩
theorem zg9 (k : Nat) : Does B T tv pb k .expectId 225 #[.pointer (some ⟨pb, 0, none⟩)] low kd tx W0 F0 := by
 intro i hi m W s q hm N hr
 obtain ⟨j, rfl, h1, h2, h3⟩ := zad hr
 refine (zbl (N.fit h1) (by omega)).mono ?_
 rintro e W' ⟨rfl, N'⟩
 obtain rfl := zab h2
 exact ⟨⟨_, rfl⟩, _, N'⟩
theorem z1b : ∀ args w, (callFunc 149 args).run Tryz.prog w = .ok (.enter 149 args) w := enters_of Tryz.func149 (by kernel_rfl) rfl
theorem zis (N : Now B T tv pb m low kd tx W0 F0 W s) (hm : m ≤ 20000000) (hlow : low.length < 10000000) : Calls Tryz.prog 319 #[.pointer (some ⟨pb, 0, none⟩)] W (NowP B T tv pb (m + 100001) low kd tx W0 F0 (.tuple #[]) (zes T s)) := by
 have H0 := ak N
 clear N
 go_enter Tryz.func319, Tryz.ntmps319
 go_wp2_with fail
 refine (zd3 H0.out (by omega) hlow 46 149 #[.pointer (some ⟨pb, 0, none⟩)] #[] (zz T (s.1, [])) z1b (zf7 (T := T) (s := (s.1, [])) H0.out.pos).2.1 (fun W1 F1 N1 _ => (zat N1 (by omega)).mono ?_)).mono ?_
 ·rintro e W' ⟨rfl, N'⟩
  exact ⟨⟨_, rfl⟩, _, N'⟩
 rintro e W' ⟨rfl, N'⟩
 have H1 := ak N'
 clear N'
 go_wp2_with fail
 go_end0
 exact ⟨rfl, H1.out⟩
theorem zgi {k : Nat} {x : NT} {text : ByteArray} {q : Bool × St} (fid : Nat) (bound free : Array Value) (hen : ∀ args w, (callFunc fid args).run Tryz.prog w = .ok (.enter fid args) w)
  (hd : Does B T tv pb k x fid (bound ++ free) low kd tx W0 F0) (N : Now B T tv pb m low kd tx W0 F0 W s) (hr : run T k (.opt text x) s = some q) :
  Calls Tryz.prog 273 #[.pointer (some ⟨pb, 0, none⟩), .string text, .func (.func fid) bound free] W (NowP B T tv pb 10000000 low kd tx W0 F0 (.tuple #[]) q.2) := by
 obtain ⟨j, rfl, h1, h2, h3⟩ := zad hr
 have H0 := ak (N.fit h1)
 have HD := ak hd
 have E0 := ak (And.intro h2 h3)
 clear N hd h1 h2 h3 hr
 go_enter Tryz.func273, Tryz.ntmps273
 go_wp2_with fail
 refine (zbm H0.out (by omega) [text] (by simp)).mono ?_
 rintro e W1 ⟨rfl, N1⟩
 cases hat : atT T s.1 [text]
 ·rw [zbz hat] at N1
  have H1 := ak N1
  have E1 := ak (And.intro (zab (if_f hat E0.out.1)) E0.out.2)
  clear N1 E0
  go_wp2_with fail
  refine (zeg H1.out (by omega)).mono ?_
  rintro e W2 ⟨rfl, N2⟩
  have H2 := ak N2
  clear N2
  go_wp2_with fail
  go_end0
  obtain ⟨rfl, h3⟩ := E1.out
  exact ⟨rfl, H2.out.fit h3⟩
 ·rw [zby hat] at N1
  have H1 := ak N1
  have E1 := ak (And.intro (if_t hat E0.out.1) E0.out.2)
  clear N1 E0
  go_wp2_with fail
  refine (HD.out j (by omega) _ _ _ _ (by omega) H1.out E1.out.1).mono ?_
  rintro e W2 ⟨⟨v, rfl⟩, m', N2⟩
  have H2 := ak (N2.fit E1.out.2)
  clear N2
  go_wp2_with fail
  go_end0
  exact ⟨rfl, H2.out⟩
end Go.Proofs.YtmoelofaojgjfaaGreatDoor.Par
