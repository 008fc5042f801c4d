/- Packed texts, part 2: contracts and plain lemmas towards outlineProperlyNested_holds. -/
import Derived.Test.YtkijamagbgigmaaGreatDoorQ1
import Derived.Laws.StructEq
import Derived.Test.YtkijamagbgigmaaGreatDoorProg
import Derived.Below
import Derived.Deep.Draws
import Derived.Deep.AppendLies
import Derived.Maps.AppendAt
import Derived.OwnWalk
import Derived.Laws.BytesArg
import Derived.Laws.MakeOwn
import Derived.Laws.OwnMore
import Derived.Deep.OwnRows
import Derived.Tactics
import Derived.Lib.ConvBytes
import Derived.Laws.Slices
import Derived.WalkKit
import Derived.KernelRfl
import Derived.RowKit3
import Derived.Deep.LoopGhost
import Derived.Deep.QuietTactic
import Derived.BigQuiet
import Derived.WideLaws
import Derived.Deep.DeepCutAuto
import Derived.Deep.CutBlock
import Derived.Deep.RegionHeld3
import Derived.Laws.Rows
import Derived.Lib.AppendStr
import Derived.ArgAppend
import Derived.Laws.IdiomCopy
import Derived.OrdersHeld
import Derived.Laws.BitsLemmas
import Derived.RowKit
import Derived.Laws.Strings
import Derived.Shelf.Strings.Builder1
import Derived.Shelf.Small.Bits
import Derived.Shelf.Small.Strs
import Derived.Shelf.Strings.BuilderF
import Derived.Shelf.Strings.BuilderK
import Derived.Shelf.Strconv.Atoi
import Derived.Shelf.Strconv.Itoa0
import Derived.Shelf.Strconv.AtoiErrFast
import Derived.Shelf.Strconv.ParseIntEmpty
import Derived.Shelf.Strconv.AtoiFail
import Derived.Shelf.LaysM
import Derived.Shelf.Strconv.Clone
import Derived.Shelf.Strconv.SyntaxError
import Derived.Shelf.LaysC
import Derived.Shelf.Strconv.ToError
import Derived.Shelf.Strconv.Lower
import Derived.Shelf.Strconv.ParseUint10
import Derived.Shelf.Strconv.ParseUint10Empty
import Derived.Shelf.Strconv.ParseUint10Any
import Derived.Shelf.Strconv.ParseInt10
import Derived.Shelf.Strconv.AtoiLong
import Derived.Shelf.Strconv.AtoiInnerAll
import Derived.Shelf.Strconv.RangeError
import Derived.Shelf.Strconv.ToErrorRange
import Derived.Shelf.Strconv.AtoiAll
import Derived.Shelf.Strings.Search1
import Derived.Shelf.Strings.Search2
import Derived.Shelf.Strings.Search3
import Derived.Shelf.Strings.Shaped
import Derived.Shelf.Strings.Prefix
import Derived.Shelf.Strings.Fields
import Derived.Shelf.Unicode.Latin
import Derived.Shelf.Unicode.Is16White
import Derived.Shelf.Unicode.IsSpaceAny
import Derived.Shelf.Unicode.Is16Any
import Derived.Shelf.Unicode.Is32Any
import Derived.Shelf.Unicode.ExclAny
import Derived.Shelf.Slices.Turned
set_option maxHeartbeats 8000000
set_option maxRecDepth 1000000
set_option linter.unusedVariables false
set_option linter.unusedSimpArgs false
namespace Go.Proofs.YtkijamagbgigmaaGreatDoorW.PrintWords
open Go.RowKit
def Kept (w W : World) (S : Nat → Prop) : Prop := w.heap.size ≤ W.heap.size ∧ ∀ i, i < w.heap.size → ¬ S i → W.heap[i]? = w.heap[i]?
end Go.Proofs.YtkijamagbgigmaaGreatDoorW.PrintWords
namespace Go.Proofs.YtkijamagbgigmaaGreatDoorW.PrintWords
open Go.RowKit
variable {w W W2 : World} {S S2 S' : Nat → Prop}
theorem Kept.refl (w : World) (S : Nat → Prop) : Kept w w S := ⟨Nat.le_refl _, fun _ _ _ => rfl⟩
theorem Kept.of_below (h : Below w.heap.size w W) (S : Nat → Prop) : Kept w W S := ⟨h.size, fun i hi _ => h.block i hi⟩
theorem Kept.mono (h : Kept w W S) (hs : ∀ k, S k → S' k) : Kept w W S' := ⟨h.1, fun i hi hn => h.2 i hi (fun hk => hn (hs i hk))⟩
theorem Kept.then_ (h : Kept w W S) (k : Kept W W2 S2) (hs : ∀ k, S2 k → S k ∨ w.heap.size ≤ k) : Kept w W2 S :=
 ⟨Nat.le_trans h.1 k.1, fun i hi hn => (k.2 i (Nat.lt_of_lt_of_le hi h.1) (fun h2 => (hs i h2).elim hn (fun h3 => by omega))).trans (h.2 i hi hn)⟩
theorem Kept.below (h : Kept w W S) (hb : Below W.heap.size W W2) : Kept w W2 S := h.then_ (Kept.of_below hb (fun _ => False)) (fun _ hk => hk.elim)
theorem Kept.alloc (h : Kept w W S) (o : Obj) : Kept w (W.alloc o) S := h.below (below_alloc (Below.refl _ _) o)
theorem Kept.drew (h : Kept w W S) : Kept w W.drew S := h
theorem Kept.drewN (h : Kept w W S) (m : Nat) : Kept w (W.drewN m) S := h
theorem Kept.setCell (h : Kept w W S) {p : Addr} (hp : S p.block ∨ w.heap.size ≤ p.block) (u : Value) : Kept w (W.setCell p u) S :=
 h.then_ (S2 := fun k => k = p.block) ⟨by simp [World.setCell], fun i _ hn => Below.heap_setCell W p u i hn⟩ (fun k hk => by rw [hk]; exact hp)
theorem Kept.keep {g : Nat} (h : KeepBut w W g none) (k : Kept W W2 S2) (hs : ∀ k, S2 k → w.heap.size ≤ k) : KeepBut w W2 g none :=
 ⟨Nat.le_trans h.1 k.1, fun i hi hg hr => (k.2 i (Nat.lt_of_lt_of_le hi h.1) (fun h2 => by have := hs i h2; omega)).trans (h.2 i hi hg hr)⟩
end Go.Proofs.YtkijamagbgigmaaGreatDoorW.PrintWords
namespace Go.Proofs.YtkijamagbgigmaaGreatDoorW.PrintWords
open Go.RowKit
def Foot (P : World → Prop) (W : World) (ok : Nat → Prop) : Prop := ∀ W' : World, (∀ k, ok k → k < W.heap.size → W'.heap[k]? = W.heap[k]?) → P W'
theorem heap_lt {W W1 : World} {k : Nat} (h : W1.heap[k]? = W.heap[k]?) (hlt : k < W.heap.size) : k < W1.heap.size := by
 rw [Array.getElem?_eq_getElem hlt] at h
 exact (Array.getElem?_eq_some_iff.1 h).1
end Go.Proofs.YtkijamagbgigmaaGreatDoorW.PrintWords
namespace Go.Proofs.YtkijamagbgigmaaGreatDoorW.PrintWords.Foot
open Go.RowKit
variable {P Q : World → Prop} {W W1 : World} {ok ok' : Nat → Prop}
theorem now (h : Foot P W ok) : P W := h W (fun _ _ _ => rfl)
theorem mono (h : Foot P W ok) (hok : ∀ k, ok k → ok' k) : Foot P W ok' := fun W' hW => h W' (fun k hk hlt => hW k (hok k hk) hlt)
theorem bound (h : Foot P W ok) : Foot P W (fun k => ok k ∧ k < W.heap.size) := fun W' hW => h W' (fun k hk hlt => hW k ⟨hk, hlt⟩ hlt)
theorem step (h : Foot P W ok) (hm : ∀ k, ok k → k < W.heap.size → W1.heap[k]? = W.heap[k]?) : Foot P W1 ok := fun W' hW => h W' (fun k hk hlt => (hW k hk (heap_lt (hm k hk hlt) hlt)).trans (hm k hk hlt))
theorem imp (h : Foot P W ok) (hi : ∀ W', P W' → Q W') : Foot Q W ok := fun W' hW => hi W' (h W' hW)
theorem old (h : Foot P W ok) (hb : Below W.heap.size W W1) : Foot P W1 (fun k => ok k ∧ k < W.heap.size) := (h.bound).step (fun k _ hlt => hb.block k hlt)
end Go.Proofs.YtkijamagbgigmaaGreatDoorW.PrintWords.Foot
namespace Go.Proofs.YtkijamagbgigmaaGreatDoorW.PrintWords.Kd
open Go.RowKit
def F {α : Type} (d : Kd α) (W : World) (ok : Nat → Prop) (A : Option Addr) (n : Nat) (xs : List α) : Prop := Foot (fun W => d.C W A n xs) W ok
def FK {α : Type} (d : Kd α) (W : World) (ok : Nat → Prop) (x : α) (c : List Value) : Prop := Foot (fun W => d.K W x c) W ok
end Go.Proofs.YtkijamagbgigmaaGreatDoorW.PrintWords.Kd
namespace Go.Proofs.YtkijamagbgigmaaGreatDoorW.PrintWords.Kd
open Go.RowKit
variable {α β : Type} {d : Kd α} {e base n n' cc g N : Nat} {ok ok' okp S : Nat → Prop} {w w0 w1 W W1 : World} {A A' : Option Addr} {u v v1 : Value} {xs : List α} {xs' : List β} {d' : Kd β} {x : α} {c : List Value}
theorem F_now (h : F d W ok A n xs) : d.C W A n xs := Foot.now h
theorem F_nil (d : Kd α) (W : World) (ok : Nat → Prop) : F d W ok none ([] : List α).length [] := fun W' _ => C_nil d W'
theorem FK_now (h : FK d W ok x c) : d.K W x c := Foot.now h
theorem FK_mono (h : FK d W ok x c) (hok : ∀ k, ok k → ok' k) : FK d W ok' x c := Foot.mono h hok
theorem FK_bound (h : FK d W ok x c) : FK d W (fun k => ok k ∧ k < W.heap.size) x c := Foot.bound h
theorem FK_step (h : FK d W ok x c) (hm : ∀ k, ok k → k < W.heap.size → W1.heap[k]? = W.heap[k]?) : FK d W1 ok x c := Foot.step h hm
theorem FK_of_M (h : d.M W base ok x c) : FK d W ok x c := fun _ hW => d.K_of_M (M_step h hW)
theorem emptied (W : World) (g : Nat) : ∃ W' : World, (∀ k, k ≠ g → W'.heap[k]? = W.heap[k]?) ∧ ∀ a : Addr, a.block = g → W'.cell? a = none := by
 refine ⟨{ W with heap := W.heap.setIfInBounds g (.cells #[] 0) }, fun k hk => by simp [Ne.symm hk], fun a ha => ?_⟩
 subst ha
 by_cases hlt : a.block < W.heap.size
 ·simp [World.cell?, hlt]
 ·simp [World.cell?, hlt]
end Go.Proofs.YtkijamagbgigmaaGreatDoorW.PrintWords.Kd
namespace Go.Proofs.YtkijamagbgigmaaGreatDoorW.PrintWords.Kd
open Go.RowKit
def chunks (sz : Nat) (n : Nat) (inner : List Value) : List (List Value) := (List.range n).map fun j => (inner.drop (j * sz)).take sz
theorem chunks_length (sz n : Nat) (inner : List Value) : (chunks sz n inner).length = n := by simp [chunks]
theorem chunks_at {sz n : Nat} {inner : List Value} {j : Nat} (hj : j < n) : (chunks sz n inner)[j]? = some ((inner.drop (j * sz)).take sz) := by simp [chunks, hj]
theorem chunks_get {sz n : Nat} {inner : List Value} {j : Nat} {c : List Value} (h : (chunks sz n inner)[j]? = some c) : c = (inner.drop (j * sz)).take sz := by
 have hj : j < n := by have := (List.getElem?_eq_some_iff.1 h).1; rwa [chunks_length] at this
 rw [chunks_at hj] at h
 injection h with h
 exact h.symm
theorem reps_raw {α : Type} {Rr : α → List Value → Prop} {sz : Nat} {xs : List α} {inner : List Value} (h : Reps Rr sz xs inner) (hR : ∀ x c, Rr x c → c.length = sz ∧ ∀ u ∈ c, u.oneCell' = true) : Reps (fun x cs => cs = x ∧ cs.length = sz ∧ ∀ u ∈ cs, u.oneCell' = true) sz (chunks sz xs.length inner) inner := by
 refine ⟨by rw [chunks_length]; exact h.1, fun j p hj => ?_⟩
 have hjl : j < xs.length := by have := (List.getElem?_eq_some_iff.1 hj).1; rwa [chunks_length] at this
 have hp := chunks_get hj
 exact ⟨hp.symm, hR _ _ (h.2 j _ (List.getElem?_eq_getElem hjl))⟩
end Go.Proofs.YtkijamagbgigmaaGreatDoorW.PrintWords.Kd
namespace Go.Proofs.YtkijamagbgigmaaGreatDoorW.PrintWords.Kd
open Go.RowKit
variable {α : Type} {d : Kd α} {e base n cc g : Nat} {ok ok' okp S : Nat → Prop} {w w1 W W1 : World} {A : Option Addr} {u v v1 : Value} {xs : List α} {x : α} {c : List Value}
theorem F_get (h : F d W ok A n xs) (z : α) (i : Int) (h0 : 0 ≤ i) (h1 : i < n) :
  ∃ ad c, A = some ad ∧ c.length = d.sz ∧ FK d W ok (xs.getD i.toNat z) c ∧ (∀ j u, c[j]? = some u → W.cell? (ad.add (i.toNat * d.sz + j)) = some u) ∧ (0 < d.sz → ok ad.block) := by
 obtain ⟨ad, c, rfl, hcl, hK, hcc⟩ := C_get (F_now h) z i h0 h1
 have hin : 0 < d.sz → ok ad.block := by
  intro hs
  by_cases hk : ok ad.block
  ·exact hk
  ·obtain ⟨W', h2, h3⟩ := emptied W ad.block
   obtain ⟨ad', c', he, hcl', _, hcc'⟩ := C_get (h W' (fun k hk' _ => h2 k (fun e => hk (e ▸ hk')))) z i h0 h1
   injection he with he
   subst he
   have h4 := hcc' 0 _ (List.getElem?_eq_getElem (by omega))
   rw [h3 _ (add_block _ _)] at h4
   cases h4
 refine ⟨ad, c, rfl, hcl, fun W' hW => ?_, hcc, hin⟩
 obtain ⟨ad', c', he, hcl', hK', hcc'⟩ := C_get (h W' hW) z i h0 h1
 injection he with he
 subst he
 have hc : c = c' := by
  apply List.ext_getElem?
  intro j
  by_cases hj : j < d.sz
  ·have hb : W'.heap[ad.block]? = W.heap[ad.block]? := by
    have h5 := hcc j _ (List.getElem?_eq_getElem (by omega))
    have h6 := World.block_lt_of_cell? W _ h5
    rw [add_block] at h6
    exact hW _ (hin (by omega)) h6
   have h5 := hcc j _ (List.getElem?_eq_getElem (by omega))
   have h6 := hcc' j _ (List.getElem?_eq_getElem (by omega))
   have h7 : W'.cell? (ad.add (i.toNat * d.sz + j)) = W.cell? (ad.add (i.toNat * d.sz + j)) := by simp [World.cell?, add_block, hb]
   rw [h7, h5] at h6
   rw [List.getElem?_eq_getElem (by omega), List.getElem?_eq_getElem (by omega)]
   exact h6
  ·rw [List.getElem?_eq_none (by omega), List.getElem?_eq_none (by omega)]
 rw [hc]
 exact hK'
theorem F_rows (h : F d W ok A n xs) : ReadsRow (fun x c => FK d W ok x c) d.sz W A n xs := by
 obtain ⟨hl, hm, hn⟩ := F_now h
 refine ⟨hl, hm, fun hp => ?_⟩
 obtain ⟨ad, rfl, _⟩ := hn hp
 refine ⟨ad, rfl, fun j p hj => ?_⟩
 obtain ⟨hjl, hjp⟩ := List.getElem?_eq_some_iff.1 hj
 obtain ⟨ad', c, he, hcl, hK, hcc, _⟩ := F_get h p (j : Int) (by omega) (by omega)
 injection he with he
 subst he
 simp only [Int.toNat_natCast] at hK hcc
 rw [List.getD_eq_getElem?_getD, hj] at hK
 exact ⟨c, hcl, hK, hcc⟩
def N {α : Type} (d : Kd α) (e : Nat) (w : World) (base : Nat) (ok : Nat → Prop) (v : Value) (xs : List α) : Prop :=
 (∀ k, v.ownBlock = some k → ok k) ∧ ∃ rows : List (List Value), rows.length = xs.length ∧ (raw d.sz).R e w base (fun k => some k = v.ownBlock) v rows ∧ ∀ (j : Nat) (x : α) (c : List Value), xs[j]? = some x → rows[j]? = some c → FK d w (fun k => ok k ∧ some k ≠ v.ownBlock) x c
theorem raw_tight {sz : Nat} {rows : List (List Value)} (h : (raw sz).R e w base ok v rows) : (raw sz).R e w base (fun k => some k = v.ownBlock) v rows := R_tight rfl h
theorem raw_any {sz : Nat} {rows : List (List Value)} (h : (raw sz).R e w base ok v rows) : (raw sz).R e w base (fun _ => True) v rows := R_mono h (fun _ _ => trivial)
theorem R_N (h : d.R e w base ok v xs) : N d e w base ok v xs := by
 obtain ⟨h0, inner, ho, hr⟩ := h
 refine ⟨h0, chunks d.sz xs.length inner, chunks_length _ _ _, ⟨fun k hk => hk.symm, inner, by rw [chunks_length]; exact ho, reps_raw hr (fun x c hp => ⟨d.K_len (d.K_of_M hp), d.K_one (d.K_of_M hp)⟩)⟩, fun j x c hx hc => ?_⟩
 rw [chunks_get hc]
 exact FK_of_M (hr.2 j x hx)
theorem N_nil (d : Kd α) (e : Nat) (w : World) (base : Nat) (ok : Nat → Prop) : N d e w base ok (.slice none 0 0) [] := R_N (R_nil _ _ _ _ _)
theorem N_mono (h : N d e w base ok v xs) (hok : ∀ k, ok k → ok' k) : N d e w base ok' v xs := by
 obtain ⟨h0, rows, hl, hR, hf⟩ := h
 exact ⟨fun k hk => hok k (h0 k hk), rows, hl, hR, fun j x c hx hc => FK_mono (hf j x c hx hc) (fun k hk => ⟨hok k hk.1, hk.2⟩)⟩
theorem N_lt (h : N d e w base ok v xs) : ∀ k, v.ownBlock = some k → k < w.heap.size := by
 obtain ⟨_, rows, _, hR, _⟩ := h
 exact R_lt hR
theorem N_lower {base' : Nat} (h : N d e w base ok v xs) (hb : base' ≤ base) : N d e w base' ok v xs := by
 obtain ⟨h0, rows, hl, hR, hf⟩ := h
 exact ⟨h0, rows, hl, R_lower hR hb, hf⟩
theorem N_step (h : N d e w base ok v xs) (hm : ∀ k, ok k → k < w.heap.size → w1.heap[k]? = w.heap[k]?) : N d e w1 base ok v xs := by
 obtain ⟨h0, rows, hl, hR, hf⟩ := h
 exact ⟨h0, rows, hl, R_step hR (fun k hk hlt => hm k (h0 k hk.symm) hlt), fun j x c hx hc => FK_step (hf j x c hx hc) (fun k hk hlt => hm k hk.1 hlt)⟩
theorem N_below (h : N d e w base ok v xs) (hb : Below w.heap.size w w1) : N d e w1 base ok v xs := N_step h (fun k _ hk => hb.block k hk)
theorem N_alloc (h : N d e w base ok v xs) (o : Obj) : N d e (w.alloc o) base ok v xs := N_below h (below_alloc (Below.refl _ _) o)
theorem N_slice (h : N d e w base ok v xs) : ∃ A c, v = .slice A xs.length c := by
 obtain ⟨_, rows, hl, hR, _⟩ := h
 obtain ⟨A, c, he⟩ := R_slice hR
 exact ⟨A, c, by rw [he, hl]⟩
theorem N_form (h : N d e w base ok v xs) (hp : 0 < xs.length) : ∃ g cap, v = .slice (some ⟨g, 0, none⟩) xs.length cap ∧ base ≤ g ∧ g < w.heap.size ∧ ∃ cells, w.heap[g]? = some (.cells cells e (0, 0)) := by
 obtain ⟨_, rows, hl, hR, _⟩ := h
 rw [← hl] at hp ⊢
 exact R_form hR hp
theorem N_reads' {n c : Nat} (h : N d e w base ok (.slice A n c) xs) : n = xs.length ∧ n ≤ c ∧ d.C w A xs.length xs := by
 obtain ⟨_, rows, hl, hR, hf⟩ := h
 obtain ⟨hn, hc, hC⟩ := R_reads' hR
 refine ⟨by omega, hc, ?_⟩
 rw [hl] at hC
 refine ⟨rfl, hC.2.1, fun hp => ?_⟩
 obtain ⟨ad, he, hcell⟩ := hC.2.2 hp
 refine ⟨ad, he, fun j p hj => ?_⟩
 have hjl : j < rows.length := by have := (List.getElem?_eq_some_iff.1 hj).1; omega
 obtain ⟨c', hcl, hK, hcc⟩ := hcell j _ (List.getElem?_eq_getElem hjl)
 have hk := FK_now (hf j p _ hj (List.getElem?_eq_getElem hjl))
 refine ⟨c', hcl, ?_, hcc⟩
 rw [show c' = rows[j] from hK.1]
 exact hk
theorem N_reads (h : N d e w base ok v xs) : ∃ A c, v = .slice A xs.length c ∧ xs.length ≤ c ∧ d.C w A xs.length xs := by
 obtain ⟨A, c, rfl⟩ := N_slice h
 exact ⟨A, c, rfl, (N_reads' h).2⟩
theorem N_F {n : Nat} (h : N d e w base ok (.slice A n cc) xs) : F d w ok A n xs := fun W' hW => by
 have h2 := N_reads' (N_step h hW)
 rw [h2.1]
 exact h2.2.2
end Go.Proofs.YtkijamagbgigmaaGreatDoorW.PrintWords.Kd
namespace Go.Proofs.YtkijamagbgigmaaGreatDoorW.PrintWords
theorem Reps.one {α : Type} {R : α → List Value → Prop} {ps : List α} {cs : List Value} {p : α} {v : Value} (hp : R p [v]) (h : Reps R 1 ps cs) : Reps R 1 (p :: ps) (v :: cs) := by
 refine ⟨by simp [h.1], fun j q hq => ?_⟩
 cases j with
 | zero =>
  simp only [List.getElem?_cons_zero, Option.some.injEq] at hq
  subst hq
  simpa using hp
 | succ j =>
  simp only [List.getElem?_cons_succ] at hq
  have h1 := h.2 j q hq
  simpa [Nat.mul_one] using h1
theorem Reps.front {α : Type} {R : α → List Value → Prop} {size : Nat} {ps : List α} {cs c all : List Value} {p : α} (hp : R p c) (hc : c.length = size) (h : Reps R size ps cs) (ha : c ++ cs = all) : Reps R size (p :: ps) all := by
 subst ha
 refine ⟨by rw [List.length_append, hc, h.1, List.length_cons, Nat.succ_mul, Nat.add_comm], fun j q hq => ?_⟩
 cases j with
 | zero =>
  simp only [List.getElem?_cons_zero, Option.some.injEq] at hq
  subst hq
  rw [Nat.zero_mul, List.drop_zero, List.take_append_of_le_length (by omega), List.take_of_length_le (by omega)]
  exact hp
 | succ j =>
  simp only [List.getElem?_cons_succ] at hq
  have h1 := h.2 j q hq
  rw [Nat.succ_mul, List.drop_append, List.drop_of_length_le (by rw [hc]; exact Nat.le_add_left _ _), List.nil_append, hc, Nat.add_sub_cancel]
  exact h1
theorem Reps.c2 {α : Type} {R : α → List Value → Prop} {ps : List α} {cs : List Value} {p : α} {va vb : Value} (hp : R p [va, vb]) (h : Reps R 2 ps cs) : Reps R 2 (p :: ps) (va :: vb :: cs) := Reps.front hp rfl h rfl
theorem Reps.c3 {α : Type} {R : α → List Value → Prop} {ps : List α} {cs : List Value} {p : α} {va vb vc : Value} (hp : R p [va, vb, vc]) (h : Reps R 3 ps cs) : Reps R 3 (p :: ps) (va :: vb :: vc :: cs) := Reps.front hp rfl h rfl
theorem Reps.c4 {α : Type} {R : α → List Value → Prop} {ps : List α} {cs : List Value} {p : α} {va vb vc vd : Value} (hp : R p [va, vb, vc, vd]) (h : Reps R 4 ps cs) : Reps R 4 (p :: ps) (va :: vb :: vc :: vd :: cs) := Reps.front hp rfl h rfl
theorem Reps.c5 {α : Type} {R : α → List Value → Prop} {ps : List α} {cs : List Value} {p : α} {va vb vc vd ve : Value} (hp : R p [va, vb, vc, vd, ve]) (h : Reps R 5 ps cs) : Reps R 5 (p :: ps) (va :: vb :: vc :: vd :: ve :: cs) := Reps.front hp rfl h rfl
theorem Reps.c6 {α : Type} {R : α → List Value → Prop} {ps : List α} {cs : List Value} {p : α} {va vb vc vd ve vf : Value} (hp : R p [va, vb, vc, vd, ve, vf]) (h : Reps R 6 ps cs) : Reps R 6 (p :: ps) (va :: vb :: vc :: vd :: ve :: vf :: cs) := Reps.front hp rfl h rfl
theorem Reps.c7 {α : Type} {R : α → List Value → Prop} {ps : List α} {cs : List Value} {p : α} {va vb vc vd ve vf vg : Value} (hp : R p [va, vb, vc, vd, ve, vf, vg]) (h : Reps R 7 ps cs) : Reps R 7 (p :: ps) (va :: vb :: vc :: vd :: ve :: vf :: vg :: cs) := Reps.front hp rfl h rfl
theorem Reps.c9 {α : Type} {R : α → List Value → Prop} {ps : List α} {cs : List Value} {p : α} {va vb vc vd ve vf vg vh vi : Value} (hp : R p [va, vb, vc, vd, ve, vf, vg, vh, vi]) (h : Reps R 9 ps cs) : Reps R 9 (p :: ps) (va :: vb :: vc :: vd :: ve :: vf :: vg :: vh :: vi :: cs) := Reps.front hp rfl h rfl
theorem Reps.c10 {α : Type} {R : α → List Value → Prop} {ps : List α} {cs : List Value} {p : α} {va vb vc vd ve vf vg vh vi vj : Value} (hp : R p [va, vb, vc, vd, ve, vf, vg, vh, vi, vj]) (h : Reps R 10 ps cs) : Reps R 10 (p :: ps) (va :: vb :: vc :: vd :: ve :: vf :: vg :: vh :: vi :: vj :: cs) := Reps.front hp rfl h rfl
end Go.Proofs.YtkijamagbgigmaaGreatDoorW.PrintWords
namespace Go.Proofs.YtkijamagbgigmaaGreatDoorW.PrintLast
def up (b : Nat → Bool) (i : Nat) : Nat → Bool := fun j => if j = i then true else b j
end Go.Proofs.YtkijamagbgigmaaGreatDoorW.PrintLast
namespace Go.Proofs.YtkijamagbgigmaaGreatDoorW.PrintWords.Kd
open Go.RowKit
variable {α : Type} {d : Kd α} {e base n cap g : Nat} {ok ok' okp : Nat → Prop} {w w1 W : World} {v v1 : Value} {xs ys : List α}
theorem N_appended {rows news : List (List Value)} (h0 : ∀ k, v.ownBlock = some k → ok k) (hl : rows.length = xs.length) (hf : ∀ (j : Nat) (x : α) (c : List Value), xs[j]? = some x → rows[j]? = some c → FK d W (fun k => ok k ∧ some k ≠ v.ownBlock) x c)
  (hl2 : news.length = ys.length) (hf2 : ∀ (j : Nat) (x : α) (c : List Value), ys[j]? = some x → news[j]? = some c → FK d W okp x c) (hokp : ∀ k, okp k → ok k ∧ some k ≠ v.ownBlock) (hfresh : ∀ k, W.heap.size ≤ k → ok k)
  (hR : (raw d.sz).R e w1 base (fun _ => True) v1 (rows ++ news)) (hg : W.grownBy w1 v.ownBlock) (hat : v1.ownBlock = v.ownBlock ∨ ∃ b, v1.ownBlock = some b ∧ W.heap.size ≤ b) : N d e w1 base ok v1 (xs ++ ys) := by
 have hne : ∀ k, some k ≠ v.ownBlock → k < W.heap.size → some k ≠ v1.ownBlock := by
  intro k hk hlt
  rcases hat with hat | ⟨b, hb, hle⟩
  ·rw [hat]; exact hk
  ·rw [hb]
   intro he
   injection he with he
   omega
 have step : ∀ {x : α} {c : List Value} {o : Nat → Prop}, FK d W o x c → (∀ k, o k → ok k ∧ some k ≠ v.ownBlock) → FK d w1 (fun k => ok k ∧ some k ≠ v1.ownBlock) x c := by
  intro x c o hq ho
  exact FK_mono (FK_step (FK_bound hq) (fun k hk hlt => hg.block k hlt (ho k hk.1).2)) (fun k hk => ⟨(ho k hk.1).1, hne k (ho k hk.1).2 hk.2⟩)
 refine ⟨fun k hk => ?_, rows ++ news, by rw [List.length_append, List.length_append, hl, hl2], raw_tight hR, fun j x c hx hc => ?_⟩
 ·rcases hat with hat | ⟨b, hb, hle⟩
  ·exact h0 k (hat ▸ hk)
  ·rw [hb] at hk
   injection hk with hk
   exact hfresh k (by omega)
 ·rcases Nat.lt_or_ge j xs.length with hlt | hge
  ·rw [List.getElem?_append_left hlt] at hx
   rw [List.getElem?_append_left (by omega)] at hc
   exact step (hf j x c hx hc) (fun _ hk => hk)
  ·rw [List.getElem?_append_right hge] at hx
   rw [List.getElem?_append_right (by omega), hl] at hc
   exact step (hf2 _ x c hx hc) hokp
theorem FK_raw {x : α} {c : List Value} (h : FK d W ok x c) : c = c ∧ c.length = d.sz ∧ ∀ u ∈ c, u.oneCell' = true := ⟨rfl, d.K_len (FK_now h), d.K_one (FK_now h)⟩
theorem N_made {rows : List (List Value)} (hR : (raw d.sz).R e w1 base (fun k => k = W.heap.size) v1 rows) (hg : W.grownBy w1 none) (hat : ∃ b, v1.ownBlock = some b ∧ W.heap.size ≤ b) (hl : rows.length = xs.length) (hf : ∀ (j : Nat) (x : α) (c : List Value), xs[j]? = some x → rows[j]? = some c → FK d W okp x c)
  (hok : ∀ k, okp k → ok k) (hfresh : ok W.heap.size) : N d e w1 base ok v1 xs := by
 obtain ⟨b, hb, hle⟩ := hat
 refine ⟨fun k hk => by rw [hR.1 k hk]; exact hfresh, rows, hl, raw_tight hR, fun j x c hx hc => ?_⟩
 refine FK_mono (FK_step (FK_bound (hf j x c hx hc)) (fun k hk hlt => hg.block k hlt (by simp))) (fun k hk => ⟨hok k hk.1, fun he => ?_⟩)
 rw [hb] at he
 injection he with he
 have := hk.2
 omega
theorem reads_raw {Rr : α → List Value → Prop} {sz m : Nat} {A : Option Addr} (h : ReadsRow Rr sz W A m ys) (hR : ∀ x c, Rr x c → c.length = sz ∧ ∀ u ∈ c, u.oneCell' = true) :
  ∃ news : List (List Value), news.length = ys.length ∧ ReadsRow (fun x cs => cs = x ∧ cs.length = sz ∧ ∀ u ∈ cs, u.oneCell' = true) sz W A m news ∧ ∀ (j : Nat) (x : α) (c : List Value), ys[j]? = some x → news[j]? = some c → Rr x c := by
 rcases Nat.eq_zero_or_pos m with h0 | hp
 ·have hy : ys = [] := List.eq_nil_of_length_eq_zero (h.1.trans h0)
  subst hy
  exact ⟨[], rfl, ⟨h0 ▸ rfl, h.2.1, fun hp => by omega⟩, fun j x c hx => by simp at hx⟩
 ·obtain ⟨ad, rfl, _⟩ := h.2.2 hp
  obtain ⟨inner, hr, hc⟩ := ReadsRow.inner_ h
  refine ⟨chunks sz ys.length inner, chunks_length _ _ _, ⟨by rw [chunks_length]; exact h.1, h.2.1, fun _ => ⟨ad, rfl, fun j p hj => ?_⟩⟩, fun j x c hx hcc => ?_⟩
  ·have hjl : j < ys.length := by have := (List.getElem?_eq_some_iff.1 hj).1; rwa [chunks_length] at this
   have hpe := chunks_get hj
   have hq := hR _ _ (hr.2 j _ (List.getElem?_eq_getElem hjl))
   rw [← hpe] at hq
   refine ⟨p, hq.1, ⟨rfl, hq⟩, fun i u hu => ?_⟩
   have hu2 : inner[j * sz + i]? = some u := by
    rw [hpe, List.getElem?_take] at hu
    split at hu
    ·rw [List.getElem?_drop] at hu
     exact hu
    ·cases hu
   exact hc _ u hu2
  ·rw [chunks_get hcc]
   exact hr.2 j x hx
end Go.Proofs.YtkijamagbgigmaaGreatDoorW.PrintWords.Kd
namespace Go.Proofs.YtkijamagbgigmaaGreatDoorW.PrintWords.Kd
open Go.RowKit
variable {P : Program} {ops : Array Oper} {rest : List Oper} {o : Oper} {a : Act} {Q : Exit → Act → World → Prop} {Kc : Act → World → Prop} {α : Type}
theorem N_append (d : Kd α) {w0 W : World} (base : Nat) (hgd : o.guard = none) (s x : Operand) (t e : TypeId) (z : Value) (bytes : Nat)
  (ho : o.op = .call { callee := .builtin .append, args := #[s, x], argTypes := #[t, t] })
  (ht : P.underlying t = some (.slice e)) (hinfo : (P.info? e).map (fun i => (i.zero, i.size, i.bytes)) = some (some z, d.sz, bytes)) (hz : z.cells.size = d.sz) (hs0 : 0 < d.sz) (hb0 : 0 < bytes)
  (v : Value) (xs : List α) (p : α) (cs : List Value) (ok okp : Nat → Prop) (hs : a.eval s = v) (hx : a.eval x = .slice (some ⟨W.heap.size, 0, none⟩) 1 1) (hp : FK d W okp p cs) (hokp : ∀ k, okp k → ok k ∧ some k ≠ v.ownBlock) (hfresh : ∀ k, W.heap.size ≤ k → ok k)
  (HO : N d e W base ok v xs) (HB : Below base w0 W) (hbase : base ≤ W.heap.size) (hl : (xs.length + 1) * bytes ≤ 140737488355328)
  (h : ∀ v1 w1, N d e w1 base ok v1 (xs ++ [p]) → Below base w0 w1 → W.grownBy w1 v.ownBlock → (v1.ownBlock = v.ownBlock ∨ ∃ b, v1.ownBlock = some b ∧ W.heap.size ≤ b) → wpList P ops Q rest (a.put o.dst v1) w1) :
  wpList P ops Q (o :: rest) a (W.alloc (.cells cs.toArray e)) := by
 obtain ⟨h0, rows, hlr, hR, hf⟩ := HO
 refine R_append (raw d.sz) base hgd s x t e z bytes ho ht hinfo hz hs0 hb0 v rows cs cs (fun _ => True) (fun _ => False) hs hx (FK_raw hp) (fun _ hk => hk.elim) (fun _ _ => trivial) (raw_any hR) HB hbase (by rw [hlr]; exact hl) ?_
 intro v1 w1 hr hb hg hat
 exact h v1 w1 (N_appended h0 hlr hf (ys := [p]) (news := [cs]) rfl (fun j y c hy hc => by
  rcases j with _ | j
  ·simp only [List.getElem?_cons_zero, Option.some.injEq] at hy hc
   rw [← hy, ← hc]; exact hp
  ·simp at hy) hokp hfresh hr hg hat) hb hg hat
theorem N_append_rows (d : Kd α) {w0 W : World} (base : Nat) (hgd : o.guard = none) (s x : Operand) (t e : TypeId) (z : Value) (bytes : Nat)
  (ho : o.op = .call { callee := .builtin .append, args := #[s, x], argTypes := #[t, t] })
  (ht : P.underlying t = some (.slice e)) (hinfo : (P.info? e).map (fun i => (i.zero, i.size, i.bytes)) = some (some z, d.sz, bytes)) (hz : z.cells.size = d.sz) (hs0 : 0 < d.sz) (hb0 : 0 < bytes)
  (v : Value) (xs ys : List α) (A : Option Addr) (m c : Nat) (ok okp : Nat → Prop) (hs : a.eval s = v) (hx : a.eval x = .slice A m c)
  (HO : N d e W base ok v xs) (HR : F d W okp A m ys) (hokp : ∀ k, okp k → ok k ∧ some k ≠ v.ownBlock) (hfresh : ∀ k, W.heap.size ≤ k → ok k)
  (HB : Below base w0 W) (hbase : base ≤ W.heap.size) (hl : (xs.length + m) * bytes ≤ 140737488355328)
  (h : ∀ v1 w1, N d e w1 base ok v1 (xs ++ ys) → Below base w0 w1 → W.grownBy w1 v.ownBlock → (v1.ownBlock = v.ownBlock ∨ ∃ b, v1.ownBlock = some b ∧ W.heap.size ≤ b) → wpList P ops Q rest (a.put o.dst v1) w1) :
  wpList P ops Q (o :: rest) a W := by
 obtain ⟨h0, rows, hlr, hR, hf⟩ := HO
 obtain ⟨news, hnl, hnr, hnf⟩ := reads_raw (F_rows HR) (fun y c hk => ⟨d.K_len (FK_now hk), d.K_one (FK_now hk)⟩)
 refine R_append_rows (raw d.sz) base hgd s x t e z bytes ho ht hinfo hz hs0 hb0 v rows news A m c (fun _ => True) (fun _ => False) hs hx (raw_any hR) hnr (fun _ _ hk => hk) (fun _ hk => hk.elim) (fun _ _ => trivial) HB hbase (by rw [hlr]; exact hl) ?_
 intro v1 w1 hr hb hg hat
 exact h v1 w1 (N_appended h0 hlr hf hnl hnf hokp hfresh hr hg hat) hb hg hat
theorem N_lit (d : Kd α) {w0 W : World} (base e : Nat) (hgd : o.guard = none) {N' : Tmp} (_hd : o.dst = some N') {xs : List α} {inner : List Value} {ok okp : Nat → Prop}
  (hrun : (execOp a.eval o).run P W = .ok (.value (.slice (some ⟨W.heap.size, 0, none⟩) xs.length xs.length)) (W.alloc (.cells inner.toArray e)))
  (hrep : Reps (FK d W okp) d.sz xs inner) (hok : ∀ k, okp k → ok k) (hfresh : ok W.heap.size) (HB : Below base w0 W) (hbase : base ≤ W.heap.size) (hm : xs.length ≤ 9223372036854775807)
  (h : ∀ v1 w1, N d e w1 base ok v1 xs → Below base w0 w1 → W.grownBy w1 none → (∃ b, v1.ownBlock = some b ∧ W.heap.size ≤ b) → wpList P ops Q rest (a.put o.dst v1) w1) :
  wpList P ops Q (o :: rest) a W := by
 refine R_lit (raw d.sz) base e hgd _hd (xs := chunks d.sz xs.length inner) (inner := inner) (ok := fun k => k = W.heap.size) (okp := fun _ => False) (by rw [chunks_length]; exact hrun) (reps_raw hrep (fun y c hk => ⟨d.K_len (FK_now hk), d.K_one (FK_now hk)⟩)) (fun _ hk => hk.elim) rfl HB hbase (by rw [chunks_length]; exact hm) ?_
 intro v1 w1 hr hb hg hat
 exact h v1 w1 (N_made hr hg hat (chunks_length _ _ _) (fun j y c hy hc => by rw [chunks_get hc]; exact hrep.2 j y hy) hok hfresh) hb hg hat
end Go.Proofs.YtkijamagbgigmaaGreatDoorW.PrintWords.Kd
namespace Go.Proofs.YtkijamagbgigmaaGreatDoorW.PrintWords
open Go.RowKit
variable {P : Program} {ops : Array Oper} {rest : List Oper} {o : Oper} {a : Act} {Q : Exit → Act → World → Prop} {W : World}
theorem gate_callee {f : FuncId} {as_ : Array Operand} {ts : Array TypeId} (_ho : o.op = .call { callee := .value (.func f), args := as_, argTypes := ts }) (h : wpList P ops Q (o :: rest) a W) : wpList P ops Q (o :: rest) a W := h
theorem gate_builtin {b : Builtin} {xs : Array Operand} {ts : Array TypeId} (_ho : o.op = .call { callee := .builtin b, args := xs, argTypes := ts }) (h : wpList P ops Q (o :: rest) a W) : wpList P ops Q (o :: rest) a W := h
end Go.Proofs.YtkijamagbgigmaaGreatDoorW.PrintWords
namespace Go.Proofs.YtkijamagbgigmaaGreatDoor.PA
open Go.RowKit Go.Proofs.YtkijamagbgigmaaGreatDoorW.PrintWords Go.Proofs.YtkijamagbgigmaaGreatDoorW.PrintLast
theorem info31 : (Tryz.prog.info? 31).map (fun i => (i.zero, i.size, i.bytes)) = some (some (.agg #[(.int .i64 0), (.int .i64 0), (.int .i64 0), (.string ⟨#[]⟩), (.slice none 0 0)]), 5, 64) := by kernel_rfl
theorem info37 : (Tryz.prog.info? 37).map (fun i => (i.zero, i.size, i.bytes)) = some (some (.agg #[(.int .i64 0), (.int .i64 0), (.int .i64 0)]), 3, 24) := by kernel_rfl
structure S53 where
 f0 : Int
 f1 : ByteArray
 f2 : (List S53)
def z53 : S53 := ⟨(0 : Int), (⟨#[]⟩ : ByteArray), ([] : List S53)⟩
structure S40 where
 f0 : Int
 f1 : Int
 f2 : ByteArray
 f3 : Int
 f4 : Int
 f5 : Int
 f6 : (List S40)
def z40 : S40 := ⟨(0 : Int), (0 : Int), (⟨#[]⟩ : ByteArray), (0 : Int), (0 : Int), (0 : Int), ([] : List S40)⟩
def F40 (d : Kd S40) : Kd S40 := Kd.iso (Kd.pair (Kd.int .i64) (Kd.pair (Kd.int .i64) (Kd.pair Kd.string (Kd.pair (Kd.int .i64) (Kd.pair (Kd.int .i64) (Kd.pair (Kd.int .i64) (Kd.slice 40 d))))))) (fun x : S40 => (x.f0, x.f1, x.f2, x.f3, x.f4, x.f5, x.f6))
theorem mono40 : Kd.Mono F40 := Kd.mono_iso _ (Kd.mono_pair (Kd.mono_const _) (Kd.mono_pair (Kd.mono_const _) (Kd.mono_pair (Kd.mono_const _) (Kd.mono_pair (Kd.mono_const _) (Kd.mono_pair (Kd.mono_const _) (Kd.mono_pair (Kd.mono_const _) (Kd.mono_slice 40 Kd.mono_id)))))))
theorem sub40 : Kd.Sub F40 [40] := Kd.sub_iso _ (Kd.sub_pair (Kd.sub_const _ (by decide)) (Kd.sub_pair (Kd.sub_const _ (by decide)) (Kd.sub_pair (Kd.sub_const _ (by decide)) (Kd.sub_pair (Kd.sub_const _ (by decide)) (Kd.sub_pair (Kd.sub_const _ (by decide)) (Kd.sub_pair (Kd.sub_const _ (by decide)) (Kd.sub_slice 40 (by decide) Kd.sub_id)))))))
theorem sz40 : ∀ n, (Kd.upto F40 7 [40] n).sz = 7 := Kd.upto_sz (fun _ => rfl)
def k40 : Kd S40 := Kd.fix F40 7 [40] sz40 (Kd.upto_E sub40)
theorem k40_open {w : World} {x : S40} {cs : List Value} (h : k40.K w x cs) : ∃ A6 c6, cs = [.int .i64 x.f0, .int .i64 x.f1, .string x.f2, .int .i64 x.f3, .int .i64 x.f4, .int .i64 x.f5, .slice A6 x.f6.length c6] ∧ x.f6.length ≤ c6 ∧ k40.C w A6 x.f6.length x.f6 := by
 obtain ⟨n, h⟩ := h
 cases n with
 | zero => exact h.elim
 | succ n =>
  obtain ⟨_, _, rfl, rfl, ⟨_, _, rfl, rfl, ⟨_, _, rfl, rfl, ⟨_, _, rfl, rfl, ⟨_, _, rfl, rfl, ⟨_, _, rfl, rfl, ⟨A6, c6, rfl, l6, g6⟩⟩⟩⟩⟩⟩⟩ := h
  exact ⟨A6, c6, rfl, l6, Kd.fix_C g6⟩
theorem k40_mkM (w : World) (base : Nat) (ok : Nat → Prop) (x : S40) {v6 : Value} (g6 : k40.R 40 w base ok v6 x.f6) : k40.M w base ok x [.int .i64 x.f0, .int .i64 x.f1, .string x.f2, .int .i64 x.f3, .int .i64 x.f4, .int .i64 x.f5, v6] := by
 obtain ⟨n6, q6⟩ := Kd.fix_R_back mono40 g6
 have r6 := Kd.upto_R_le mono40 sz40 (show n6 ≤ n6 by omega) q6
 exact ⟨n6 + 1, ⟨[.int .i64 x.f0], [.int .i64 x.f1, .string x.f2, .int .i64 x.f3, .int .i64 x.f4, .int .i64 x.f5, v6], rfl, rfl, ⟨[.int .i64 x.f1], [.string x.f2, .int .i64 x.f3, .int .i64 x.f4, .int .i64 x.f5, v6], rfl, rfl, ⟨[.string x.f2], [.int .i64 x.f3, .int .i64 x.f4, .int .i64 x.f5, v6], rfl, rfl, ⟨[.int .i64 x.f3], [.int .i64 x.f4, .int .i64 x.f5, v6], rfl, rfl, ⟨[.int .i64 x.f4], [.int .i64 x.f5, v6], rfl, rfl, ⟨[.int .i64 x.f5], [v6], rfl, rfl, ⟨v6, rfl, r6⟩⟩⟩⟩⟩⟩⟩⟩
def rd_T40 (xs : List S40) (i : Int) : S40 := xs.getD i.toNat z40
theorem at_T40 {w : World} {A : Option Addr} {n : Nat} {xs : List S40} (h : Kd.C k40 w A n xs) (i : Int) (h0 : 0 ≤ i) (h1 : i < n) : ∃ ad A6 c6, A = some ad ∧ w.cell? (ad.add (i.toNat * 7)) = some (.int .i64 (rd_T40 xs i).f0) ∧ w.cell? ⟨(ad.add (i.toNat * 7)).block, (ad.add (i.toNat * 7)).off + 1, none⟩ = some (.int .i64 (rd_T40 xs i).f1) ∧ w.cell? ⟨(ad.add (i.toNat * 7)).block, (ad.add (i.toNat * 7)).off + 2, none⟩ = some (.string (rd_T40 xs i).f2) ∧ w.cell? ⟨(ad.add (i.toNat * 7)).block, (ad.add (i.toNat * 7)).off + 3, none⟩ = some (.int .i64 (rd_T40 xs i).f3) ∧ w.cell? ⟨(ad.add (i.toNat * 7)).block, (ad.add (i.toNat * 7)).off + 4, none⟩ = some (.int .i64 (rd_T40 xs i).f4) ∧ w.cell? ⟨(ad.add (i.toNat * 7)).block, (ad.add (i.toNat * 7)).off + 5, none⟩ = some (.int .i64 (rd_T40 xs i).f5) ∧ w.cell? ⟨(ad.add (i.toNat * 7)).block, (ad.add (i.toNat * 7)).off + 6, none⟩ = some (.slice A6 (rd_T40 xs i).f6.length c6) ∧ (rd_T40 xs i).f6.length ≤ c6 ∧ k40.C w A6 (rd_T40 xs i).f6.length (rd_T40 xs i).f6 := by
 obtain ⟨ad, c, e, _, hK, hc0⟩ := Kd.C_get h z40 i h0 h1
 have hc : ∀ j u, c[j]? = some u → w.cell? (ad.add (i.toNat * 7 + j)) = some u := hc0
 obtain ⟨A6, c6, rfl, l6, g6⟩ := k40_open hK
 exact ⟨ad, A6, c6, e, hc 0 _ rfl, by rw [← add_field _ _ 1 (by omega)]; exact hc 1 _ rfl, by rw [← add_field _ _ 2 (by omega)]; exact hc 2 _ rfl, by rw [← add_field _ _ 3 (by omega)]; exact hc 3 _ rfl, by rw [← add_field _ _ 4 (by omega)]; exact hc 4 _ rfl, by rw [← add_field _ _ 5 (by omega)]; exact hc 5 _ rfl, by rw [← add_field _ _ 6 (by omega)]; exact hc 6 _ rfl, l6, g6⟩
structure S62 where
 f0 : Int
 f1 : Int
 f2 : Int
 f3 : Int
 f4 : ByteArray
def z62 : S62 := ⟨(0 : Int), (0 : Int), (0 : Int), (0 : Int), (⟨#[]⟩ : ByteArray)⟩
structure S31 where
 f0 : Int
 f1 : Int
 f2 : Int
 f3 : ByteArray
 f4 : (List S31)
def z31 : S31 := ⟨(0 : Int), (0 : Int), (0 : Int), (⟨#[]⟩ : ByteArray), ([] : List S31)⟩
def F31 (d : Kd S31) : Kd S31 := Kd.iso (Kd.pair (Kd.int .i64) (Kd.pair (Kd.int .i64) (Kd.pair (Kd.int .i64) (Kd.pair Kd.string (Kd.slice 31 d))))) (fun x : S31 => (x.f0, x.f1, x.f2, x.f3, x.f4))
theorem mono31 : Kd.Mono F31 := Kd.mono_iso _ (Kd.mono_pair (Kd.mono_const _) (Kd.mono_pair (Kd.mono_const _) (Kd.mono_pair (Kd.mono_const _) (Kd.mono_pair (Kd.mono_const _) (Kd.mono_slice 31 Kd.mono_id)))))
theorem sub31 : Kd.Sub F31 [31] := Kd.sub_iso _ (Kd.sub_pair (Kd.sub_const _ (by decide)) (Kd.sub_pair (Kd.sub_const _ (by decide)) (Kd.sub_pair (Kd.sub_const _ (by decide)) (Kd.sub_pair (Kd.sub_const _ (by decide)) (Kd.sub_slice 31 (by decide) Kd.sub_id)))))
theorem sz31 : ∀ n, (Kd.upto F31 5 [31] n).sz = 5 := Kd.upto_sz (fun _ => rfl)
def k31 : Kd S31 := Kd.fix F31 5 [31] sz31 (Kd.upto_E sub31)
theorem k31_open {w : World} {x : S31} {cs : List Value} (h : k31.K w x cs) : ∃ A4 c4, cs = [.int .i64 x.f0, .int .i64 x.f1, .int .i64 x.f2, .string x.f3, .slice A4 x.f4.length c4] ∧ x.f4.length ≤ c4 ∧ k31.C w A4 x.f4.length x.f4 := by
 obtain ⟨n, h⟩ := h
 cases n with
 | zero => exact h.elim
 | succ n =>
  obtain ⟨_, _, rfl, rfl, ⟨_, _, rfl, rfl, ⟨_, _, rfl, rfl, ⟨_, _, rfl, rfl, ⟨A4, c4, rfl, l4, g4⟩⟩⟩⟩⟩ := h
  exact ⟨A4, c4, rfl, l4, Kd.fix_C g4⟩
theorem k31_mk (w : World) (x : S31) {A4 : Option Addr} {c4 : Nat} (l4 : x.f4.length ≤ c4) (g4 : k31.C w A4 x.f4.length x.f4) : k31.K w x [.int .i64 x.f0, .int .i64 x.f1, .int .i64 x.f2, .string x.f3, .slice A4 x.f4.length c4] := by
 obtain ⟨n4, q4⟩ := Kd.fix_C_back mono31 g4
 have r4 := Kd.upto_C_le mono31 sz31 (show n4 ≤ n4 by omega) q4
 exact ⟨n4 + 1, ⟨[.int .i64 x.f0], [.int .i64 x.f1, .int .i64 x.f2, .string x.f3, .slice A4 x.f4.length c4], rfl, rfl, ⟨[.int .i64 x.f1], [.int .i64 x.f2, .string x.f3, .slice A4 x.f4.length c4], rfl, rfl, ⟨[.int .i64 x.f2], [.string x.f3, .slice A4 x.f4.length c4], rfl, rfl, ⟨[.string x.f3], [.slice A4 x.f4.length c4], rfl, rfl, ⟨A4, c4, rfl, l4, r4⟩⟩⟩⟩⟩⟩
theorem k31_mkF (W : World) (ok : Nat → Prop) (x : S31) {A4 : Option Addr} {c4 : Nat} (l4 : x.f4.length ≤ c4) (g4 : Kd.F k31 W ok A4 x.f4.length x.f4) : Kd.FK k31 W ok x [.int .i64 x.f0, .int .i64 x.f1, .int .i64 x.f2, .string x.f3, .slice A4 x.f4.length c4] := fun W2 hW => k31_mk W2 x l4 (g4 W2 hW)
def rd_T31 (xs : List S31) (i : Int) : S31 := xs.getD i.toNat z31
theorem at_T31 {w : World} {A : Option Addr} {n : Nat} {xs : List S31} (h : Kd.C k31 w A n xs) (i : Int) (h0 : 0 ≤ i) (h1 : i < n) : ∃ ad A4 c4, A = some ad ∧ w.cell? (ad.add (i.toNat * 5)) = some (.int .i64 (rd_T31 xs i).f0) ∧ w.cell? ⟨(ad.add (i.toNat * 5)).block, (ad.add (i.toNat * 5)).off + 1, none⟩ = some (.int .i64 (rd_T31 xs i).f1) ∧ w.cell? ⟨(ad.add (i.toNat * 5)).block, (ad.add (i.toNat * 5)).off + 2, none⟩ = some (.int .i64 (rd_T31 xs i).f2) ∧ w.cell? ⟨(ad.add (i.toNat * 5)).block, (ad.add (i.toNat * 5)).off + 3, none⟩ = some (.string (rd_T31 xs i).f3) ∧ w.cell? ⟨(ad.add (i.toNat * 5)).block, (ad.add (i.toNat * 5)).off + 4, none⟩ = some (.slice A4 (rd_T31 xs i).f4.length c4) ∧ (rd_T31 xs i).f4.length ≤ c4 ∧ k31.C w A4 (rd_T31 xs i).f4.length (rd_T31 xs i).f4 := by
 obtain ⟨ad, c, e, _, hK, hc0⟩ := Kd.C_get h z31 i h0 h1
 have hc : ∀ j u, c[j]? = some u → w.cell? (ad.add (i.toNat * 5 + j)) = some u := hc0
 obtain ⟨A4, c4, rfl, l4, g4⟩ := k31_open hK
 exact ⟨ad, A4, c4, e, hc 0 _ rfl, by rw [← add_field _ _ 1 (by omega)]; exact hc 1 _ rfl, by rw [← add_field _ _ 2 (by omega)]; exact hc 2 _ rfl, by rw [← add_field _ _ 3 (by omega)]; exact hc 3 _ rfl, by rw [← add_field _ _ 4 (by omega)]; exact hc 4 _ rfl, l4, g4⟩
structure S37 where
 f0 : Int
 f1 : Int
 f2 : Int
def z37 : S37 := ⟨(0 : Int), (0 : Int), (0 : Int)⟩
def k37 : Kd S37 := Kd.iso (Kd.pair (Kd.int .i64) (Kd.pair (Kd.int .i64) (Kd.int .i64))) (fun x : S37 => (x.f0, x.f1, x.f2))
theorem k37_open {w : World} {x : S37} {cs : List Value} (h : k37.K w x cs) : cs = [.int .i64 x.f0, .int .i64 x.f1, .int .i64 x.f2] := by
 obtain ⟨_, _, rfl, rfl, ⟨_, _, rfl, rfl, rfl⟩⟩ := h
 exact rfl
theorem k37_mk (w : World) (x : S37)  : k37.K w x [.int .i64 x.f0, .int .i64 x.f1, .int .i64 x.f2] := ⟨[.int .i64 x.f0], [.int .i64 x.f1, .int .i64 x.f2], rfl, rfl, ⟨[.int .i64 x.f1], [.int .i64 x.f2], rfl, rfl, rfl⟩⟩
theorem k37_mkF (W : World) (ok : Nat → Prop) (x : S37) : Kd.FK k37 W ok x [.int .i64 x.f0, .int .i64 x.f1, .int .i64 x.f2] := fun W2 _ => k37_mk W2 x
def rd_T37 (xs : List S37) (i : Int) : S37 := xs.getD i.toNat z37
theorem at_T37 {w : World} {A : Option Addr} {n : Nat} {xs : List S37} (h : Kd.C k37 w A n xs) (i : Int) (h0 : 0 ≤ i) (h1 : i < n) : ∃ ad , A = some ad ∧ w.cell? (ad.add (i.toNat * 3)) = some (.int .i64 (rd_T37 xs i).f0) ∧ w.cell? ⟨(ad.add (i.toNat * 3)).block, (ad.add (i.toNat * 3)).off + 1, none⟩ = some (.int .i64 (rd_T37 xs i).f1) ∧ w.cell? ⟨(ad.add (i.toNat * 3)).block, (ad.add (i.toNat * 3)).off + 2, none⟩ = some (.int .i64 (rd_T37 xs i).f2) := by
 obtain ⟨ad, c, e, _, hK, hc0⟩ := Kd.C_get h z37 i h0 h1
 have hc : ∀ j u, c[j]? = some u → w.cell? (ad.add (i.toNat * 3 + j)) = some u := hc0
 obtain rfl := k37_open hK
 exact ⟨ad, e, hc 0 _ rfl, by rw [← add_field _ _ 1 (by omega)]; exact hc 1 _ rfl, by rw [← add_field _ _ 2 (by omega)]; exact hc 2 _ rfl⟩
def slices_Index_string_string.l0 : Nat → List ByteArray → ByteArray → Int → Int → Option (Int)
 | 0, _, _, _, _ => none
 | k + 1, x0, x1, x7, x8 => if x8 < x7 then (if 0 ≤ x8 then (if x8 < (x0.length : Int) then (if x1.toList = (rdOf ByteArray.empty x0 x8).toList then (some x8) else (slices_Index_string_string.l0 k x0 x1 x7 (wrap64 (x8 + 1)))) else (none)) else (none)) else (some (-1))
def slices_Index_string_string.f (k : Nat) (l0 : List ByteArray) (a1 : ByteArray) : Option (Int) := slices_Index_string_string.l0 k l0 a1 (l0.length : Int) 0
theorem slices_Index_string_string.mono_l : ∀ k, (∀ y0 y1 y2 y3, LeO (slices_Index_string_string.l0 k y0 y1 y2 y3) (slices_Index_string_string.l0 (k + 1) y0 y1 y2 y3))
 | 0 => fun _ _ _ _ r h => by simp [slices_Index_string_string.l0] at h
 | k + 1 => by
  have ih0 := slices_Index_string_string.mono_l k
  ·intro y0 y1 y2 y3
   unfold slices_Index_string_string.l0
   repeat' first
   | (with_reducible exact ih0 _ _ _ _)
   | (with_reducible exact LeO.refl _)
   | (with_reducible exact LeO.none _)
   | (with_reducible refine LeO.ite ?_ ?_)
   | (with_reducible refine LeO.bind ?_ (fun _ => ?_))
   | exact ih0 _ _ _ _
   | exact LeO.none _
   | refine LeO.ite ?_ ?_
   | refine LeO.bind ?_ (fun _ => ?_)
theorem slices_Index_string_string.mono : ∀ a0 a1 k, LeO (slices_Index_string_string.f k a0 a1) (slices_Index_string_string.f (k + 1) a0 a1) := by
 intro a0 a1 k
 have ih0 := slices_Index_string_string.mono_l k
 unfold slices_Index_string_string.f
 repeat' first
   | (with_reducible exact ih0 _ _ _ _)
   | (with_reducible exact LeO.refl _)
   | (with_reducible exact LeO.none _)
   | (with_reducible refine LeO.ite ?_ ?_)
   | (with_reducible refine LeO.bind ?_ (fun _ => ?_))
   | exact ih0 _ _ _ _
   | exact LeO.none _
   | refine LeO.ite ?_ ?_
   | refine LeO.bind ?_ (fun _ => ?_)
theorem slices_Index_string_string.calls (k : Nat) (A0 : Option Addr) (c0 : Nat) (l0 : List ByteArray) (a1 : ByteArray) (r : Int) (w : World) (hr0 : Kd.C Kd.string w A0 l0.length l0) (hc0 : l0.length ≤ c0) (h : slices_Index_string_string.f k l0 a1 = some r) :
  Calls Tryz.prog 95 #[.slice A0 l0.length c0, .string a1] w fun e w' => e = .returned (.int .i64 r) ∧ Drawn0 w w' := by
 have HR0 := ak hr0
 have HC0 := ak hc0
 clear hr0 hc0
 have H : (slices_Index_string_string.l0 k l0 a1 (l0.length : Int) 0) = some r := h
 clear h
 have H' := ak H
 clear H
 go_enter Tryz.func95, Tryz.ntmps95
 go_wp2
 go_loopg [8] k (fun kq v8 w' => ∃ (x8_1 : Int), v8 = .int .i64 x8_1 ∧ Aside0 (slices_Index_string_string.l0 kq l0 a1 (l0.length : Int) x8_1 = some r) ∧ Aside0 (kq ≤ k) ∧ Drawn0 w w')
 case atStart => exact ⟨(0), (by first | rfl | (simp; done) | (simp [*]; done)), H', ⟨Nat.le_refl _⟩, by repeat (first | exact Drawn0.refl _ | apply Drawn0.step)⟩
 case round =>
  clear H'
  try clear p2
  obtain ⟨x8_1, rfl, HA, HK1, ⟨m1, rfl⟩⟩ := hrel
  cases gk with
  | zero => exact absurd HA.out (by simp [slices_Index_string_string.l0])
  | succ k1 =>
   have H := HA.out
   clear HA
   simp only [slices_Index_string_string.l0] at H
   by_cases c3 : x8_1 < (l0.length : Int)
   ·rw [if_pos c3] at H
    have c3b0 : decide (x8_1 < (l0.length : Int)) = true := decide_eq_true c3
    clear c3
    by_cases c4 : 0 ≤ x8_1
    ·rw [if_pos c4] at H
     have c4b0 : decide (0 ≤ x8_1) = true := decide_eq_true c4
     clear c4
     by_cases c5 : x8_1 < (l0.length : Int)
     ·rw [if_pos c5] at H
      have c5b0 : decide (x8_1 < (l0.length : Int)) = true := decide_eq_true c5
      clear c5
      by_cases c6 : a1.toList = (rdOf ByteArray.empty l0 x8_1).toList
      ·rw [if_pos c6] at H
       have c6b0 : (a1.toList == (rdOf ByteArray.empty l0 x8_1).toList) = true := beq_iff_eq.mpr c6
       have c6b1 : (a1.toList != (rdOf ByteArray.empty l0 x8_1).toList) = false := bne_eq_false_iff_eq.mpr c6
       clear c6
       obtain rfl := Option.some.inj H
       have p102 : 0 ≤ (x8_1 : Int) := odt (by first | (with_reducible assumption) | assumption)
       have q102 : x8_1 < (l0.length : Int) := odt (by first | (with_reducible assumption) | assumption)
       obtain ⟨ad102, e102, hx102_0⟩ := Kd.at_string HR0.out x8_1 p102 q102
       cases e102
       replace p102 := eq_true p102
       replace q102 := eq_true q102
       go_wp2
       go_ret
       exact ⟨by first | rfl | (simp; done) | (simp [*]; done), by repeat (first | exact Drawn0.refl _ | apply Drawn0.step)⟩
      ·rw [if_neg c6] at H
       have c6b0 : (a1.toList == (rdOf ByteArray.empty l0 x8_1).toList) = false := beq_eq_false_iff_ne.mpr c6
       have c6b1 : (a1.toList != (rdOf ByteArray.empty l0 x8_1).toList) = true := bne_iff_ne.mpr c6
       have H' := ak H
       clear H
       have p102 : 0 ≤ (x8_1 : Int) := odt (by first | (with_reducible assumption) | assumption)
       have q102 : x8_1 < (l0.length : Int) := odt (by first | (with_reducible assumption) | assumption)
       obtain ⟨ad102, e102, hx102_0⟩ := Kd.at_string HR0.out x8_1 p102 q102
       cases e102
       replace p102 := eq_true p102
       replace q102 := eq_true q102
       go_wp2
       go_roundg k1
       case measure => have := HK1.out; omega
       case rel => exact ⟨(wrap64 (x8_1 + 1)), (by first | rfl | (simp; done) | (simp [*]; done)), H', ⟨by have := HK1.out; omega⟩, by repeat (first | exact Drawn0.refl _ | apply Drawn0.step)⟩
     ·rw [if_neg c5] at H
      exact absurd H (by simp)
    ·rw [if_neg c4] at H
     exact absurd H (by simp)
   ·rw [if_neg c3] at H
    have c3b0 : decide (x8_1 < (l0.length : Int)) = false := decide_eq_false c3
    clear c3
    obtain rfl := Option.some.inj H
    go_wp2
    go_ret
    exact ⟨by first | rfl | (simp; done) | (simp [*]; done), by repeat (first | exact Drawn0.refl _ | apply Drawn0.step)⟩
def slices_Contains_string_string.f (k : Nat) (l0 : List ByteArray) (a1 : ByteArray) : Option (Bool) := (slices_Index_string_string.f k l0 a1).bind fun t103 => (some (decide (t103 ≥ 0)))
theorem slices_Contains_string_string.mono : ∀ a0 a1 k, LeO (slices_Contains_string_string.f k a0 a1) (slices_Contains_string_string.f (k + 1) a0 a1) := by
 intro a0 a1 k
 unfold slices_Contains_string_string.f
 repeat' first
   | (with_reducible exact slices_Index_string_string.mono _ _ _)
   | (with_reducible exact LeO.refl _)
   | (with_reducible exact LeO.none _)
   | (with_reducible refine LeO.ite ?_ ?_)
   | (with_reducible refine LeO.bind ?_ (fun _ => ?_))
   | exact slices_Index_string_string.mono _ _ _
   | exact LeO.none _
   | refine LeO.ite ?_ ?_
   | refine LeO.bind ?_ (fun _ => ?_)
theorem slices_Contains_string_string.calls (k : Nat) (A0 : Option Addr) (c0 : Nat) (l0 : List ByteArray) (a1 : ByteArray) (r : Bool) (w : World) (hr0 : Kd.C Kd.string w A0 l0.length l0) (hc0 : l0.length ≤ c0) (h : slices_Contains_string_string.f k l0 a1 = some r) :
  Calls Tryz.prog 90 #[.slice A0 l0.length c0, .string a1] w fun e w' => e = .returned (.bool r) ∧ Drawn0 w w' := by
 have HR0 := ak hr0
 have HC0 := ak hc0
 clear hr0 hc0
 have H : ((slices_Index_string_string.f k l0 a1).bind fun t103 => (some (decide (t103 ≥ 0)))) = some r := h
 clear h
 replace H := Option.bind_eq_some_iff.mp H
 obtain ⟨t103, A30, H⟩ := H
 replace H : (some (decide (t103 ≥ 0))) = some r := H
 have A3 := ak A30
 clear A30
 obtain rfl := Option.some.inj H
 go_enter Tryz.func90, Tryz.ntmps90
 go_wp2_with (first | ((with_reducible refine gate_callee (f := 95) rfl ?_); refine goesL_ (some 7) rfl rfl Tryz.func95 (by kernel_rfl) rfl #[.slice A0 l0.length c0, .string a1] rfl (by (try simp only [List.map_toArray, List.map_cons, List.map_nil]); first | done | rfl | (simp only [List.length_drop, List.length_take]; rfl)) ?_; (with_reducible refine (slices_Index_string_string.calls k _ _ l0 a1 t103 _ ?side1 ?side2 A3.out).mono ?_); (case side1 => repeat (first | exact HR0.out | (with_reducible refine Kd.C_alloc ?_ _) | (with_reducible refine Kd.C_drewN ?_ _) | (with_reducible refine Kd.C_drew ?_))); (case side2 => exact HC0.out); rintro e w' ⟨rfl, ⟨nd, rfl⟩⟩; refine ⟨_, rfl, ?_⟩))
 go_ret
 exact ⟨by first | rfl | (simp; done) | (simp [*]; done), by repeat (first | exact Drawn0.refl _ | apply Drawn0.step)⟩
def parser_isTrivia.f (a0 : Int) : Option (Bool) := if a0 = 101 then (some true) else (some (a0 == 102))
theorem parser_isTrivia.calls (a0 : Int) (r : Bool) (w : World) (h : parser_isTrivia.f a0 = some r) :
  Calls Tryz.prog 61 #[.int .i64 a0] w fun e w' => e = .returned (.bool r) ∧ Drawn0 w w' := by
 have H : (if a0 = 101 then (some true) else (some (a0 == 102))) = some r := h
 clear h
 by_cases c2 : a0 = 101
 ·rw [if_pos c2] at H
  have c2b0 : (a0 == 101) = true := beq_iff_eq.mpr c2
  have c2b1 : (a0 != 101) = false := bne_eq_false_iff_eq.mpr c2
  clear c2
  obtain rfl := Option.some.inj H
  go_enter Tryz.func61, Tryz.ntmps61
  go_wp2
  go_ret
  exact ⟨by first | rfl | (simp; done) | (simp [*]; done), by repeat (first | exact Drawn0.refl _ | apply Drawn0.step)⟩
 ·rw [if_neg c2] at H
  have c2b0 : (a0 == 101) = false := beq_eq_false_iff_ne.mpr c2
  have c2b1 : (a0 != 101) = true := bne_iff_ne.mpr c2
  obtain rfl := Option.some.inj H
  go_enter Tryz.func61, Tryz.ntmps61
  go_wp2
  go_ret
  exact ⟨by first | rfl | (simp; done) | (simp [*]; done), by repeat (first | exact Drawn0.refl _ | apply Drawn0.step)⟩
end Go.Proofs.YtkijamagbgigmaaGreatDoor.PA
namespace Go.Proofs.YtkijamagbgigmaaGreatDoor.Par
open Go.RowKit Go.Proofs.YtkijamagbgigmaaGreatDoorW.PrintWords Go.Proofs.YtkijamagbgigmaaGreatDoorW.PrintLast
theorem drop_at {T : List Tok} {pos : Nat} (hp : pos < T.length) : T.drop pos = T[pos] :: T.drop (pos + 1) := List.drop_eq_getElem_cons hp
theorem skipS_go {T : List Tok} {pos : Nat} {ks : List Tree} (hp : pos < T.length) (ht : triv (T[pos]).1 = true) : skipS T (pos, ks) = skipS T (pos + 1, ks ++ [leaf (T[pos])]) := by
 unfold skipS triviaT
 rw [drop_at hp]
 simp only [List.takeWhile_cons, ht, if_true, List.length_cons, List.map_cons]
 rw [show pos + ((List.takeWhile (fun t => triv t.1) (T.drop (pos + 1))).length + 1) = pos + 1 + (List.takeWhile (fun t => triv t.1) (T.drop (pos + 1))).length by omega, List.append_assoc]
 rfl
theorem skipS_stop {T : List Tok} {pos : Nat} {ks : List Tree} (h : ∀ hp : pos < T.length, triv (T[pos]).1 = false) : skipS T (pos, ks) = (pos, ks) := by
 unfold skipS triviaT
 by_cases hp : pos < T.length
 ·rw [drop_at hp]
  simp only [List.takeWhile_cons, h hp]
  simp
 ·simp [List.drop_eq_nil_of_le (Nat.le_of_not_lt hp)]
theorem skipS_le {T : List Tok} {pos : Nat} {ks : List Tree} (hp : pos ≤ T.length) : pos ≤ (skipS T (pos, ks)).1 ∧ (skipS T (pos, ks)).1 ≤ T.length ∧ (skipS T (pos, ks)).2.length + pos = ks.length + (skipS T (pos, ks)).1 := by
 have h1 : (triviaT T pos).length ≤ T.length - pos := by
  have := (List.takeWhile_sublist (fun t : Tok => triv t.1) (l := T.drop pos)).length_le
  rw [List.length_drop] at this
  exact this
 refine ⟨by simp [skipS], by simp [skipS]; omega, by simp [skipS]; omega⟩
theorem triv_f (k : Int) : PA.parser_isTrivia.f k = some (triv k) := by
 unfold PA.parser_isTrivia.f triv
 by_cases h : k = 101
 ·rw [if_pos h]
  simp [h]
 ·rw [if_neg h]
  simp [h]
  rfl
theorem isTriv_calls {k : Int} {b : Bool} (h : triv k = b) (w : World) : Calls Tryz.prog 61 #[.int .i64 k] w fun e w' => e = .returned (.bool b) ∧ ∃ n, w' = w.drewN n :=
 (PA.parser_isTrivia.calls k b w (by rw [triv_f, h])).mono (fun _ _ h => ⟨h.1, h.2.out⟩)
def posAt (pb : Nat) (W : World) : Nat := match W.cell? ⟨pb, 1, none⟩ with
 | some (.int _ n) => n.toNat
 | _ => 0
end Go.Proofs.YtkijamagbgigmaaGreatDoor.Par
namespace Go.Proofs.YtkijamagbgigmaaGreatDoor.Par
open Go.RowKit Go.Proofs.YtkijamagbgigmaaGreatDoorW.PrintWords Go.Proofs.YtkijamagbgigmaaGreatDoorW.PrintLast
variable {B : Nat} {T : List Tok} {tv : Value} {pb : Nat} {W : World} {pos : Nat} {stk : List Tree} {F : List Nat}
theorem PS.posAt (h : PS 76 53 B T tv pb W pos stk F) : posAt pb W = pos := by
 obtain ⟨_, h1, _⟩ := h.cells
 simp [Par.posAt, h1]
end Go.Proofs.YtkijamagbgigmaaGreatDoor.Par
namespace Go.Proofs.YtkijamagbgigmaaGreatDoor.Par
open Go.RowKit Go.Proofs.YtkijamagbgigmaaGreatDoorW.PrintWords Go.Proofs.YtkijamagbgigmaaGreatDoorW.PrintLast
theorem skip_calls {B : Nat} {T : List Tok} {tv : Value} {pb : Nat} {W : World} {pos : Nat} {low : List Tree} {kd : Int} {tx : ByteArray} {ks : List Tree} {F : List Nat} (hT : T.length ≤ 100000) (hp : pos ≤ T.length)
  (h : PS 76 53 B T tv pb W pos (low ++ [.mk kd tx ks]) F) (hsm : low.length + ks.length ≤ 100000000) :
  Calls Tryz.prog 33 #[.pointer (some ⟨pb, 0, none⟩)] W fun e W' => e = .returned (.tuple #[]) ∧ ∃ F', PS 76 53 B T tv pb W' (skipS T (pos, ks)).1 (low ++ [.mk kd tx (skipS T (pos, ks)).2]) F' ∧ Fr pb F F' W W' := by
 go_enter Tryz.func33, Tryz.ntmps33
 have H0 := ak h
 clear h
 go_wp2_with fail
 go_loopw [] (fun wr => ∃ p1 k1 F1, PS 76 53 B T tv pb wr p1 (low ++ [.mk kd tx k1]) F1 ∧ Fr pb F F1 W wr ∧ p1 ≤ T.length ∧ skipS T (p1, k1) = skipS T (pos, ks) ∧ k1.length + pos = ks.length + p1) (fun wr => T.length - posAt pb wr)
 case atStart => exact ⟨pos, ks, F, H0.out, Fr.refl _ _ _, hp, rfl, rfl⟩
 case round =>
  obtain ⟨p1, k1, F1, h1, f1, hp1, hs1, hl1⟩ := hrel
  obtain ⟨o0, o1, o3, _⟩ := h1.cells
  have H1 := ak (And.intro h1 (And.intro f1 (And.intro hs1 hl1)))
  have HPo := ak h1.posAt
  clear o3
  by_cases hlt : p1 < T.length
  ·obtain ⟨tb, tq, c, rfl, t1, t2⟩ := h1.tokAt hlt
   have i0 : (0 : Int) ≤ (p1 : Int) := by omega
   have i1 : (p1 : Int) < (T.length : Int) := by omega
   have i1b : decide ((p1 : Int) < (T.length : Int)) = true := decide_eq_true i1
   obtain ⟨tk, htk⟩ : ∃ tk, tk = T[p1] := ⟨_, rfl⟩
   rw [← htk] at t1 t2
   clear h1 f1 hs1 hl1
   have HTK := ak htk
   clear htk
   cases htr : triv tk.1
   ·have HTR := ak htr
    go_wp2_with fail
    go_quiet ((go_at_call 61; refine Calls.quiet_of (isTriv_calls HTR.out _)))
    go_wp2_with fail
    go_end0
    obtain ⟨h1, f1, hs1, hl1⟩ := H1.out
    rw [skipS_stop (fun _ => by rw [← HTK.out]; exact HTR.out)] at hs1
    rw [← hs1]
    exact ⟨rfl, F1, h1.below (pw_below_drewN (Below.refl _ _) _), f1.trans (Fr.of_below (pw_below_drewN (Below.refl _ _) _))⟩
   ·have HTR := ak htr
    go_wp2_with fail
    go_quiet ((go_at_call 61; refine Calls.quiet_of (isTriv_calls HTR.out _)))
    go_wp2_with fail
    refine (addToken_calls hT hlt (H1.out.1.below (pw_below_drewN (Below.refl _ _) _)) (by have := H1.out.2.2.2; omega)).mono ?_
    rintro e W3 ⟨rfl, F3, h3, f3⟩
    have H3 := ak (And.intro h3 f3)
    have HP3 := ak h3.posAt
    clear h3 f3
    go_wp2_with fail
    go_roundw
    case rel =>
     obtain ⟨h1, f1, hs1, hl1⟩ := H1.out
     rw [skipS_go hlt (by rw [← HTK.out]; exact HTR.out)] at hs1
     exact ⟨p1 + 1, _, F3, H3.out.1, (f1.trans (Fr.of_below (pw_below_drewN (Below.refl _ _) _))).trans H3.out.2, hlt, hs1, by rw [List.length_append, List.length_singleton]; omega⟩
    case measure =>
     rw [HP3.out, HPo.out]
     omega
  ·obtain ⟨A, c, rfl, _⟩ := h1.toks
   have i1b : decide ((p1 : Int) < (T.length : Int)) = false := decide_eq_false (by omega)
   clear h1 f1 hs1 hl1
   go_wp2_with fail
   go_quiet (fail)
   go_wp2_with fail
   go_end0
   obtain ⟨h1, f1, hs1, hl1⟩ := H1.out
   rw [skipS_stop (fun h => absurd h hlt)] at hs1
   rw [← hs1]
   exact ⟨rfl, F1, h1.below (pw_below_drewN (Below.refl _ _) _), f1.trans (Fr.of_below (pw_below_drewN (Below.refl _ _) _))⟩
theorem bumpS_eq (T : List Tok) (s : St) : bumpS T s = match T[(skipS T s).1]? with
 | some t => ((skipS T s).1 + 1, (skipS T s).2 ++ [leaf t])
 | none => skipS T s := rfl
theorem bumpS_le {T : List Tok} {s : St} (hp : s.1 ≤ T.length) : s.1 ≤ (bumpS T s).1 ∧ (bumpS T s).1 ≤ T.length ∧ (bumpS T s).2.length + s.1 = s.2.length + (bumpS T s).1 := by
 have h := skipS_le (T := T) (pos := s.1) (ks := s.2) hp
 rw [bumpS_eq]
 split
 ·rename_i t ht
  have := (List.getElem?_eq_some_iff.1 ht).1
  obtain ⟨g1, g2, g3⟩ := h
  change s.1 ≤ (skipS T s).1 at g1
  change (skipS T s).2.length + s.1 = s.2.length + (skipS T s).1 at g3
  refine ⟨by show s.1 ≤ (skipS T s).1 + 1; omega, this, ?_⟩
  show ((skipS T s).2 ++ [leaf t]).length + s.1 = s.2.length + ((skipS T s).1 + 1)
  rw [List.length_append, List.length_singleton]
  omega
 ·exact h
theorem bump_calls {B : Nat} {T : List Tok} {tv : Value} {pb : Nat} {W : World} {pos : Nat} {low : List Tree} {kd : Int} {tx : ByteArray} {ks : List Tree} {F : List Nat} (hT : T.length ≤ 100000) (hp : pos ≤ T.length)
  (h : PS 76 53 B T tv pb W pos (low ++ [.mk kd tx ks]) F) (hsm : low.length + ks.length ≤ 100000000) :
  Calls Tryz.prog 59 #[.pointer (some ⟨pb, 0, none⟩)] W fun e W' => e = .returned (.tuple #[]) ∧ ∃ F', PS 76 53 B T tv pb W' (bumpS T (pos, ks)).1 (low ++ [.mk kd tx (bumpS T (pos, ks)).2]) F' ∧ Fr pb F F' W W' := by
 go_enter Tryz.func59, Tryz.ntmps59
 have H0 := ak h
 clear h
 go_wp2_with fail
 refine (skip_calls hT hp H0.out hsm).mono ?_
 rintro e W1 ⟨rfl, F1, h1, f1⟩
 have hle := skipS_le (T := T) (pos := pos) (ks := ks) hp
 obtain ⟨p1, hp1⟩ : ∃ p1, Hid ((skipS T (pos, ks)).1 = p1) := ⟨_, rfl⟩
 obtain ⟨k1, hk1⟩ : ∃ k1, Hid ((skipS T (pos, ks)).2 = k1) := ⟨_, rfl⟩
 rw [show (skipS T (pos, ks)).1 = p1 from hp1, show (skipS T (pos, ks)).2 = k1 from hk1] at h1 hle
 have hb : bumpS T (pos, ks) = match T[p1]? with
  | some t => (p1 + 1, k1 ++ [leaf t])
  | none => (p1, k1) := by
  rw [bumpS_eq, show skipS T (pos, ks) = (p1, k1) from Prod.ext hp1 hk1]
 have H1 := ak (And.intro h1 (And.intro f1 (And.intro hle hb)))
 obtain ⟨o0, o1, o3, _⟩ := h1.cells
 obtain ⟨A, c, rfl, _⟩ := h1.toks
 clear h1 f1 hle hb o3
 by_cases hlt : p1 < T.length
 ·have i1b : decide ((p1 : Int) < (T.length : Int)) = true := decide_eq_true (by omega)
  go_wp2_with fail
  go_quiet (fail)
  go_wp2_with fail
  refine (addToken_calls hT hlt (H1.out.1.below (pw_below_drewN (Below.refl _ _) _)) (by have := H1.out.2.2.1; omega)).mono ?_
  rintro e W3 ⟨rfl, F3, h3, f3⟩
  have H3 := ak (And.intro h3 f3)
  clear h3 f3
  go_wp2_with fail
  go_end0
  obtain ⟨h1, f1, hle, hb⟩ := H1.out
  rw [List.getElem?_eq_getElem hlt] at hb
  rw [hb]
  exact ⟨rfl, F3, H3.out.1, (f1.trans (Fr.of_below (pw_below_drewN (Below.refl _ _) _))).trans H3.out.2⟩
 ·have i1b : decide ((p1 : Int) < (T.length : Int)) = false := decide_eq_false (by omega)
  go_wp2_with fail
  go_quiet (fail)
  go_wp2_with fail
  go_end0
  obtain ⟨h1, f1, hle, hb⟩ := H1.out
  rw [List.getElem?_eq_none (by omega)] at hb
  rw [hb]
  exact ⟨rfl, F1, h1.below (pw_below_drewN (Below.refl _ _) _), f1.trans (Fr.of_below (pw_below_drewN (Below.refl _ _) _))⟩
theorem peekT_go {T : List Tok} {pos : Nat} (hp : pos < T.length) (ht : triv (T[pos]).1 = true) : peekT T pos = peekT T (pos + 1) := by
 unfold peekT
 rw [drop_at hp, List.find?_cons_of_neg (by simp [ht])]
theorem peekT_at {T : List Tok} {pos : Nat} (hp : pos < T.length) (ht : triv (T[pos]).1 = false) : peekT T pos = T[pos] := by
 unfold peekT
 rw [drop_at hp, List.find?_cons_of_pos (by simp [ht])]
 rfl
theorem peekT_end {T : List Tok} {pos : Nat} (hp : T.length ≤ pos) : peekT T pos = (100, noText) := by
 unfold peekT
 rw [List.drop_eq_nil_of_le hp]
 rfl
theorem PS.tokAtJ {B : Nat} {T : List Tok} {tv : Value} {pb : Nat} {W : World} {pos j : Nat} {stk : List Tree} {F : List Nat} (h : PS 76 53 B T tv pb W pos stk F) (hp : j < T.length) : ∃ tb tq c, tv = .slice (some ⟨tb, tq, none⟩) T.length c ∧ W.cell? ⟨tb, tq + j * 2, none⟩ = some (.int .i64 (T[j]).1) ∧ W.cell? ⟨tb, tq + j * 2 + 1, none⟩ = some (.string (T[j]).2) := by
 obtain ⟨A, c, h1, h2⟩ := h.toks
 obtain ⟨tb, tq, rfl, h3⟩ := h2 (by omega)
 obtain ⟨k1, k2⟩ := h3 j (T[j]) (List.getElem?_eq_getElem hp)
 exact ⟨tb, tq, c, h1, k1, k2⟩
theorem peek_calls {B : Nat} {T : List Tok} {tv : Value} {pb : Nat} {W : World} {pos : Nat} {stk : List Tree} {F : List Nat} (hT : T.length ≤ 100000) (hp : pos ≤ T.length)
  (h : PS 76 53 B T tv pb W pos stk F) :
  Calls Tryz.prog 51 #[.pointer (some ⟨pb, 0, none⟩)] W fun e W' => e = .returned (.agg #[.int .i64 (peekT T pos).1, .string (peekT T pos).2]) ∧ Below W.heap.size W W' := by
 go_enter Tryz.func51, Tryz.ntmps51
 have H0 := ak h
 have hu98 := Tryz.underlying98
 obtain ⟨o0, o1, _, _⟩ := h.cells
 have hlt : pb < W.heap.size := World.block_lt_of_cell? W _ o0
 clear h
 go_wp2_with fail
 have hb0 : (W.alloc (Obj.cells #[Value.int IntKind.i64 0, Value.string { data := #[] }] 98)).heap[W.heap.size]? = some (.cells #[.int .i64 0, .string ⟨#[]⟩] 98 (0, 0)) := heap_alloc_new W _
 have HBl := ak (show Below W.heap.size W (W.alloc (Obj.cells #[Value.int IntKind.i64 0, Value.string { data := #[] }] 98)) from (Below.refl _ _).alloc (Nat.le_refl _) _)
 have HB0 := ak hb0
 clear hb0 o0 o1
 go_loopw [3] (fun i wr => ∃ j : Nat, i = .int .i64 (j : Int) ∧ j ≤ T.length ∧ peekT T j = peekT T pos ∧ Below W.heap.size W wr ∧ wr.heap[W.heap.size]? = some (.cells #[.int .i64 0, .string ⟨#[]⟩] 98 (0, 0))) (fun i _ => T.length - (intOf i).toNat)
 case atStart => exact ⟨pos, rfl, hp, rfl, HBl.out, HB0.out⟩
 case round =>
  obtain ⟨j, rfl, hj, hpk, hbe, hbl⟩ := hrel
  have h1 := H0.out.below hbe
  obtain ⟨o0, o1, _, _⟩ := h1.cells
  have HBR := ak hbe
  have HBL := ak hbl
  have HPK := ak hpk
  have c0 : wr.cell? ⟨W.heap.size, 0, none⟩ = some (.int .i64 0) := (blk_cell hbl 0).trans rfl
  have c1 : wr.cell? ⟨W.heap.size, 1, none⟩ = some (.string ⟨#[]⟩) := (blk_cell hbl 1).trans rfl
  have z0 := blk_frozen hbl 0
  have z1 := blk_frozen hbl 1
  clear hbe hbl hpk
  have hne : pb ≠ W.heap.size := by omega
  by_cases hlt : j < T.length
  ·obtain ⟨tb, tq, c, rfl, t1, t2⟩ := PS.tokAtJ h1 hlt
   have i0 : (0 : Int) ≤ (j : Int) := by omega
   have i1 : (j : Int) < (T.length : Int) := by omega
   have i1b : decide ((j : Int) < (T.length : Int)) = true := decide_eq_true i1
   have i2b : decide ((j : Int) = (T.length : Int)) = false := decide_eq_false (by omega)
   have i3b : ((j : Int) == (T.length : Int)) = false := beq_eq_false_iff_ne.2 (by omega)
   obtain ⟨tk, htk⟩ : ∃ tk, tk = T[j] := ⟨_, rfl⟩
   rw [← htk] at t1 t2
   clear h1
   have HTK := ak htk
   clear htk
   cases htr : triv tk.1
   ·have HTR := ak htr
    go_wp2_with (first | (go_at_call 61; refine (isTriv_calls HTR.out _).mono ?_; rintro e w' ⟨rfl, n, rfl⟩))
    refine bodyPost_ret (results_cell_row rfl _ _ W.heap.size 98 #[.int .i64 tk.1, .string tk.2] (0, 0) _ rfl (by refine blk_put (cs := #[.int .i64 tk.1, .string ⟨#[]⟩]) ?_ 1 _ rfl; refine blk_put (cs := #[.int .i64 0, .string ⟨#[]⟩]) ?_ 0 _ rfl; exact blk_drewN HBL.out _) hu98 rfl (by kernel_rfl)) rfl ?_
    rw [← HPK.out, peekT_at hlt (by rw [← HTK.out]; exact HTR.out), ← HTK.out]
    exact ⟨rfl, below_set (below_set (pw_below_drewN HBR.out _) (Nat.le_refl _)) (Nat.le_refl _)⟩
   ·have HTR := ak htr
    go_wp2_with (first | (go_at_call 61; refine (isTriv_calls HTR.out _).mono ?_; rintro e w' ⟨rfl, n, rfl⟩))
    go_roundw
    case rel => exact ⟨j + 1, by simp, hlt, by rw [← HPK.out, peekT_go hlt (by rw [← HTK.out]; exact HTR.out)], pw_below_drewN HBR.out _, HBL.out⟩
    case measure => simp [intOf]; omega
  ·obtain ⟨A, c, rfl, _⟩ := h1.toks
   obtain rfl : j = T.length := by omega
   have i1b : decide ((T.length : Int) < (T.length : Int)) = false := decide_eq_false (by omega)
   clear h1
   go_wp2_with fail
   refine bodyPost_ret (results_cell_row rfl _ _ W.heap.size 98 #[.int .i64 100, .string ⟨#[]⟩] (0, 0) _ rfl (by refine blk_put (cs := #[.int .i64 100, .string ⟨#[]⟩]) ?_ 1 _ rfl; refine blk_put (cs := #[.int .i64 0, .string ⟨#[]⟩]) ?_ 0 _ rfl; exact HBL.out) hu98 rfl (by kernel_rfl)) rfl ?_
   rw [← HPK.out, peekT_end (Nat.le_refl _)]
   exact ⟨rfl, below_set (below_set HBR.out (Nat.le_refl _)) (Nat.le_refl _)⟩
theorem ByteArray.toList_inj' {a b : ByteArray} (h : a.toList = b.toList) : a = b := by
 rw [Go.ByteArray.toList_eq, Go.ByteArray.toList_eq] at h
 exact ByteArray.ext (Array.ext' h)
theorem index_said (l : List ByteArray) (a : ByteArray) (hl : l.length ≤ 1000) : ∀ k i : Nat, i ≤ l.length → l.length - i < k →
  ∃ r, PA.slices_Index_string_string.l0 k l a (l.length : Int) (i : Int) = some r ∧ (r ≥ 0 ↔ ∃ x ∈ l.drop i, a = x)
 | 0, i, _, h => by omega
 | k + 1, i, hi, h => by
  unfold PA.slices_Index_string_string.l0
  by_cases hlt : i < l.length
  ·rw [if_pos (by omega), if_pos (by omega), if_pos (by omega)]
   have hget : rdOf ByteArray.empty l (i : Int) = l[i] := by
    unfold rdOf
    simp [List.getD_eq_getElem?_getD, List.getElem?_eq_getElem hlt]
   have hd : l.drop i = l[i] :: l.drop (i + 1) := List.drop_eq_getElem_cons hlt
   rw [hget]
   by_cases he : a = l[i]
   ·rw [if_pos (by rw [he])]
    exact ⟨_, rfl, by constructor <;> intro _ <;> first | omega | exact ⟨_, by rw [hd]; exact List.mem_cons_self, he⟩⟩
   ·rw [if_neg (fun h => he (ByteArray.toList_inj' h)), show wrap64 ((i : Int) + 1) = ((i + 1 : Nat) : Int) by rw [IntWalk.wrap64_in _ (by omega)]; rfl]
    obtain ⟨r, h1, h2⟩ := index_said l a hl k (i + 1) hlt (by omega)
    refine ⟨r, h1, h2.trans ?_⟩
    rw [hd]
    constructor
    ·rintro ⟨x, hx, e⟩
     exact ⟨x, List.mem_cons_of_mem _ hx, e⟩
    ·rintro ⟨x, hx, e⟩
     rcases List.mem_cons.1 hx with rfl | hx
     ·exact absurd e he
     ·exact ⟨x, hx, e⟩
  ·rw [if_neg (by omega)]
   refine ⟨_, rfl, ?_⟩
   rw [List.drop_eq_nil_of_le (by omega)]
   simp
theorem contains_calls (l : List ByteArray) (a : ByteArray) (hl : l.length ≤ 1000) (A : Option Addr) (c : Nat) (W : World) (hr : Kd.C Kd.string W A l.length l) (hc : l.length ≤ c) :
  Calls Tryz.prog 90 #[.slice A l.length c, .string a] W fun e W' => e = .returned (.bool (l.any (fun x => decide (a = x)))) ∧ ∃ n, W' = W.drewN n := by
 obtain ⟨r, h1, h2⟩ := index_said l a hl (l.length + 1) 0 (by omega) (by omega)
 rw [List.drop_zero] at h2
 have hf : PA.slices_Contains_string_string.f (l.length + 1) l a = some (l.any (fun x => decide (a = x))) := by
  unfold PA.slices_Contains_string_string.f PA.slices_Index_string_string.f
  rw [show (0 : Int) = ((0 : Nat) : Int) from rfl, h1]
  show some (decide (r ≥ 0)) = _
  congr 1
  rw [Bool.eq_iff_iff, decide_eq_true_iff, h2]
  simp
 exact (PA.slices_Contains_string_string.calls (l.length + 1) A c l a _ W hr hc hf).mono (fun _ _ h => ⟨h.1, h.2.out⟩)
theorem at_calls {B : Nat} {T : List Tok} {tv : Value} {pb : Nat} {W : World} {pos : Nat} {stk : List Tree} {F : List Nat} (hT : T.length ≤ 100000) (hp : pos ≤ T.length)
  (h : PS 76 53 B T tv pb W pos stk F) {l : List ByteArray} {A : Option Addr} {c : Nat} (hl : l.length ≤ 1000) (hr : Kd.C Kd.string W A l.length l) (hc : l.length ≤ c) :
  Calls Tryz.prog 52 #[.pointer (some ⟨pb, 0, none⟩), .slice A l.length c] W fun e W' => e = .returned (.bool (atT T pos l)) ∧ Below W.heap.size W W' := by
 go_enter Tryz.func52, Tryz.ntmps52
 have H0 := ak h
 have hu98 := Tryz.underlying98
 have HR := ak hr
 have HC := ak hc
 clear h hr hc
 go_wp2_with fail
 refine (peek_calls hT hp H0.out).mono ?_
 rintro e W1 ⟨rfl, hb1⟩
 have HR1 := ak (Kd.C_below HR.out hb1)
 have HB1 := ak hb1
 clear hb1
 obtain ⟨kd, hkd⟩ : ∃ kd, Hid ((peekT T pos).1 = kd) := ⟨_, rfl⟩
 obtain ⟨tx, htx⟩ : ∃ tx, Hid ((peekT T pos).2 = tx) := ⟨_, rfl⟩
 have hat : Hid (atT T pos l = ((decide (kd = 104) || decide (kd = 107)) && l.any (fun x => decide (tx = x)))) := by
  show atT T pos l = _
  unfold atT
  rw [show (peekT T pos).1 = kd from hkd, show (peekT T pos).2 = tx from htx]
 rw [show (peekT T pos).1 = kd from hkd, show (peekT T pos).2 = tx from htx]
 have hyes : (kd = 104 ∨ kd = 107) → atT T pos l = l.any (fun x => decide (tx = x)) := by
  intro h
  rw [show atT T pos l = _ from hat]
  rcases h with rfl | rfl <;> simp
 have HAT := ak (And.intro hat hyes)
 clear hat hyes
 have hend : ∀ (k : Int) (w' : World), (∃ n, w' = (W1.alloc (Obj.cells #[Value.int IntKind.i64 k, Value.string tx] 98)).drewN n) → Below W.heap.size W w' := by
  rintro k w' ⟨n, rfl⟩
  exact pw_below_drewN (below_alloc HB1.out _) _
 by_cases k1 : kd = 104
 ·subst k1
  go_wp2_with (first | (go_at_call 90; refine (contains_calls l tx hl A c _ (Kd.C_below HR1.out (below_alloc (Below.refl _ _) _)) HC.out).mono ?_; rintro e w' ⟨rfl, hw⟩; have HWE := ak (hend _ _ hw); clear hw))
  go_ret
  exact ⟨by rw [HAT.out.2 (.inl trivial)]; rfl, HWE.out⟩
 by_cases k2 : kd = 107
 ·subst k2
  go_wp2_with (first | (go_at_call 90; refine (contains_calls l tx hl A c _ (Kd.C_below HR1.out (below_alloc (Below.refl _ _) _)) HC.out).mono ?_; rintro e w' ⟨rfl, hw⟩; have HWE := ak (hend _ _ hw); clear hw))
  go_ret
  exact ⟨by rw [HAT.out.2 (.inr trivial)]; rfl, HWE.out⟩
 have e1 : (kd == 104) = false := beq_eq_false_iff_ne.2 k1
 have e2 : (kd == 107) = false := beq_eq_false_iff_ne.2 k2
 go_wp2_with fail
 go_ret
 refine ⟨?_, hend _ _ ⟨0, rfl⟩⟩
 rw [show atT T pos l = _ from HAT.out.1]
 simp [k1, k2]
theorem field98 (kd : Int) (tx : ByteArray) : ∀ w : World, (Instr.field 98 (.agg #[.int .i64 kd, .string tx]) 0).run Tryz.prog w = .ok (.int .i64 kd) w := fun _ => by kernel_rfl
theorem eof_calls {B : Nat} {T : List Tok} {tv : Value} {pb : Nat} {W : World} {pos : Nat} {stk : List Tree} {F : List Nat} (hT : T.length ≤ 100000) (hp : pos ≤ T.length)
  (h : PS 76 53 B T tv pb W pos stk F) :
  Calls Tryz.prog 31 #[.pointer (some ⟨pb, 0, none⟩)] W fun e W' => e = .returned (.bool (eofT T pos)) ∧ Below W.heap.size W W' := by
 go_enter Tryz.func31, Tryz.ntmps31
 have H0 := ak h
 have hu98 := Tryz.underlying98
 clear h
 go_wp2_with fail
 refine (peek_calls hT hp H0.out).mono ?_
 rintro e W1 ⟨rfl, hb1⟩
 have HB1 := ak hb1
 clear hb1
 obtain ⟨kd, hkd⟩ : ∃ kd, Hid ((peekT T pos).1 = kd) := ⟨_, rfl⟩
 obtain ⟨tx, htx⟩ : ∃ tx, Hid ((peekT T pos).2 = tx) := ⟨_, rfl⟩
 rw [show (peekT T pos).1 = kd from hkd, show (peekT T pos).2 = tx from htx]
 have hfd := field98 kd tx
 go_wp2_with fail
 go_ret
 refine ⟨?_, HB1.out⟩
 have hk : (peekT T pos).1 = kd := hkd
 show _ = Ending.returned (.bool (decide ((peekT T pos).1 = 100)))
 rw [hk]
 rfl
theorem ident_calls {B : Nat} {T : List Tok} {tv : Value} {pb : Nat} {W : World} {pos : Nat} {stk : List Tree} {F : List Nat} (hT : T.length ≤ 100000) (hp : pos ≤ T.length)
  (h : PS 76 53 B T tv pb W pos stk F) :
  Calls Tryz.prog 134 #[.pointer (some ⟨pb, 0, none⟩)] W fun e W' => e = .returned (.bool (idT T pos)) ∧ Below W.heap.size W W' := by
 go_enter Tryz.func134, Tryz.ntmps134
 have H0 := ak h
 have hu98 := Tryz.underlying98
 clear h
 go_wp2_with fail
 refine (peek_calls hT hp H0.out).mono ?_
 rintro e W1 ⟨rfl, hb1⟩
 have HB1 := ak hb1
 clear hb1
 obtain ⟨kd, hkd⟩ : ∃ kd, Hid ((peekT T pos).1 = kd) := ⟨_, rfl⟩
 obtain ⟨tx, htx⟩ : ∃ tx, Hid ((peekT T pos).2 = tx) := ⟨_, rfl⟩
 rw [show (peekT T pos).1 = kd from hkd, show (peekT T pos).2 = tx from htx]
 have hfd := field98 kd tx
 go_wp2_with fail
 go_ret
 refine ⟨?_, HB1.out⟩
 have hk : (peekT T pos).1 = kd := hkd
 show _ = Ending.returned (.bool (decide ((peekT T pos).1 = 103)))
 rw [hk]
 rfl
end Go.Proofs.YtkijamagbgigmaaGreatDoor.Par
namespace Go.Proofs
open Go.Shelf
def Tryz.lays169_ren : Go.Shelf.Ren := ⟨fun | 169 => 114 | n => n, fun | 70 => 136 | 9 => 9 | 0 => 0 | 72 => 139 | 37 => 137 | 127 => 154 | 3 => 3 | 5 => 5 | n => n, fun | n => n⟩
theorem Tryz.lays169 : Go.Proofs.Lays.n169 Tryz.prog Tryz.lays169_ren := {
 mixed := by kernel_rfl
 f169 := Tryz.func114.trans (congrArg some (by kernel_rfl))
 t0 := Tryz.underlying0
 a0 := Tryz.isAgg0
 z0 := Tryz.sizeOf0
 v0 := Tryz.zeroValue0
 t3 := Tryz.underlying3
 a3 := Tryz.isAgg3
 z3 := Tryz.sizeOf3
 v3 := Tryz.zeroValue3
 t9 := Tryz.underlying9
 a9 := Tryz.isAgg9
 z9 := Tryz.sizeOf9
 v9 := Tryz.zeroValue9
 t37 := Tryz.underlying137
 a37 := Tryz.isAgg137
 z37 := Tryz.sizeOf137
 v37 := Tryz.zeroValue137
 t70 := Tryz.underlying136
 a70 := Tryz.isAgg136
 z70 := Tryz.sizeOf136
 v70 := Tryz.zeroValue136
 t72 := Tryz.underlying139
 a72 := Tryz.isAgg139
 z72 := Tryz.sizeOf139
 v72 := Tryz.zeroValue139
 t127 := Tryz.underlying154
 a127 := Tryz.isAgg154
 z127 := Tryz.sizeOf154
 v127 := Tryz.zeroValue154 }
theorem Tryz.Builder_Extra_169 : Builder.Extra Tryz.prog Tryz.lays169_ren := {
 sizeBuilder := by kernel_rfl
 liesBuilder := by kernel_rfl
 t5 := Tryz.underlying5
 a5 := Tryz.isAgg5
 z5 := Tryz.sizeOf5
 v5 := Tryz.zeroValue5
 infoByte := by kernel_rfl
 cellsByte := by kernel_rfl
 sizeByte := by kernel_rfl
 neB5 := by decide }
def Tryz.lays125_ren : Go.Shelf.Ren := ⟨fun | 125 => 28 | 128 => 48 | 129 => 49 | n => n, fun | 46 => 69 | 3 => 3 | 51 => 92 | 53 => 94 | 4 => 4 | 5 => 5 | 9 => 9 | n => n, fun | n => n⟩
theorem Tryz.lays125 : Go.Proofs.Lays.n125 Tryz.prog Tryz.lays125_ren := {
 mixed := by kernel_rfl
 f125 := Tryz.func28.trans (congrArg some (by kernel_rfl))
 f128 := Tryz.func48.trans (congrArg some (by kernel_rfl))
 f129 := Tryz.func49.trans (congrArg some (by kernel_rfl))
 t3 := Tryz.underlying3
 a3 := Tryz.isAgg3
 z3 := Tryz.sizeOf3
 v3 := Tryz.zeroValue3
 t4 := Tryz.underlying4
 a4 := Tryz.isAgg4
 z4 := Tryz.sizeOf4
 v4 := Tryz.zeroValue4
 t5 := Tryz.underlying5
 a5 := Tryz.isAgg5
 z5 := Tryz.sizeOf5
 v5 := Tryz.zeroValue5
 t9 := Tryz.underlying9
 a9 := Tryz.isAgg9
 z9 := Tryz.sizeOf9
 v9 := Tryz.zeroValue9
 t46 := Tryz.underlying69
 a46 := Tryz.isAgg69
 z46 := Tryz.sizeOf69
 v46 := Tryz.zeroValue69
 t51 := Tryz.underlying92
 a51 := Tryz.isAgg92
 z51 := Tryz.sizeOf92
 v51 := Tryz.zeroValue92
 t53 := Tryz.underlying94
 a53 := Tryz.isAgg94
 z53 := Tryz.sizeOf94
 v53 := Tryz.zeroValue94 }
theorem Tryz.bits_Len (x : Int) (w : World) (h0 : 0 ≤ x) (h1 : x ≤ 18446744073709551615) :
  Calls Tryz.prog 28 #[.int .u64 x] w fun e w' => e = .returned (.int .i64 (Lib.bitLen x.toNat)) ∧ w' = w := Any.bits_Len Tryz.lays125 x w h0 h1
def Tryz.lays137_ren : Go.Shelf.Ren := ⟨fun | 137 => 94 | 217 => 118 | 266 => 154 | n => n, fun | 9 => 9 | 5 => 5 | 3 => 3 | n => n, fun | n => n⟩
theorem Tryz.lays137 : Go.Proofs.Lays.n137 Tryz.prog Tryz.lays137_ren := {
 mixed := by kernel_rfl
 f137 := Tryz.func94.trans (congrArg some (by kernel_rfl))
 f217 := Tryz.func118.trans (congrArg some (by kernel_rfl))
 f266 := Tryz.func154.trans (congrArg some (by kernel_rfl))
 t3 := Tryz.underlying3
 a3 := Tryz.isAgg3
 z3 := Tryz.sizeOf3
 v3 := Tryz.zeroValue3
 t5 := Tryz.underlying5
 a5 := Tryz.isAgg5
 z5 := Tryz.sizeOf5
 v5 := Tryz.zeroValue5
 t9 := Tryz.underlying9
 a9 := Tryz.isAgg9
 z9 := Tryz.sizeOf9
 v9 := Tryz.zeroValue9 }
open Go.RowKit in
theorem Tryz.strings_IndexByte (s : ByteArray) (c : Int) (w : World) :
  Calls Tryz.prog 94 #[.string s, .int .u8 c] w fun e w' => e = .returned (.int .i64 (Lib.indexByte s.data.toList c.toNat.toUInt8)) ∧ w' = w := Any.strings_IndexByte Tryz.lays137 s c w
open Go.RowKit in
theorem Tryz.Builder_String_any_k (B b : Nat) (l : List UInt8) (w : World) (h : Lib.IsBuilderF 139 5 B b (Lib.byteCells l) w) (hBw : B ≤ w.heap.size) :
  Calls Tryz.prog 114 #[.pointer (some ⟨b, 0, none⟩)] w fun e w' => e = .returned (.string ⟨l.toArray⟩) ∧ (Lib.IsBuilderF 139 5 B b (Lib.byteCells l) w' ∧ Below B w w' ∧ Lib.OthersKept 5 (some b) w w') := Any.Builder_String_any_k Tryz.lays169 Tryz.Builder_Extra_169 B b l w h hBw
def Tryz.laysC172_ren : Go.Shelf.Ren := ⟨fun | 172 => 112 | 244 => 150 | 245 => 151 | 247 => 172 | 279 => 173 | 280 => 174 | 281 => 175 | 282 => 176 | 287 => 191 | 316 => 192 | 171 => 194 | 205 => 193 | 321 => 206 | 322 => 207 | 243 => 208 | 246 => 219 | 283 => 220 | 284 => 221 | 285 => 222 | 286 => 223 | 129 => 49 | 317 => 224 | 318 => 225 | 319 => 226 | 320 => 227 | 337 => 228 | 338 => 229 | n => n, fun | 9 => 9 | 3 => 3 | 75 => 133 | 76 => 134 | 4 => 4 | 5 => 5 | 167 => 167 | 37 => 137 | 0 => 0 | 85 => 168 | 2 => 2 | 168 => 170 | 53 => 94 | 175 => 187 | 46 => 69 | 210 => 191 | 127 => 154 | 145 => 200 | 143 => 198 | 21 => 21 | 171 => 202 | 173 => 204 | 212 => 207 | 51 => 92 | 20 => 20 | 213 => 208 | 232 => 209 | 233 => 210 | 80 => 141 | n => n, fun | 15 => 3 | 16 => 4 | 17 => 5 | 18 => 6 | 19 => 7 | n => n⟩
theorem Tryz.laysC172 : Go.Proofs.LaysC.n172 Tryz.prog Tryz.laysC172_ren := {
 mixed := by kernel_rfl
 f129 := Tryz.func49.trans (congrArg some (by kernel_rfl))
 f171 := Tryz.func194.trans (congrArg some (by kernel_rfl))
 f172 := Tryz.func112.trans (congrArg some (by kernel_rfl))
 f205 := Tryz.func193.trans (congrArg some (by kernel_rfl))
 f243 := Tryz.func208.trans (congrArg some (by kernel_rfl))
 f244 := Tryz.func150.trans (congrArg some (by kernel_rfl))
 f245 := Tryz.func151.trans (congrArg some (by kernel_rfl))
 f246 := Tryz.func219.trans (congrArg some (by kernel_rfl))
 f247 := Tryz.func172.trans (congrArg some (by kernel_rfl))
 f279 := Tryz.func173.trans (congrArg some (by kernel_rfl))
 f280 := Tryz.func174.trans (congrArg some (by kernel_rfl))
 f281 := Tryz.func175.trans (congrArg some (by kernel_rfl))
 f282 := Tryz.func176.trans (congrArg some (by kernel_rfl))
 f283 := Tryz.func220.trans (congrArg some (by kernel_rfl))
 f284 := Tryz.func221.trans (congrArg some (by kernel_rfl))
 f285 := Tryz.func222.trans (congrArg some (by kernel_rfl))
 f286 := Tryz.func223.trans (congrArg some (by kernel_rfl))
 f287 := Tryz.func191.trans (congrArg some (by kernel_rfl))
 f316 := Tryz.func192.trans (congrArg some (by kernel_rfl))
 f317 := Tryz.func224.trans (congrArg some (by kernel_rfl))
 f318 := Tryz.func225.trans (congrArg some (by kernel_rfl))
 f319 := Tryz.func226.trans (congrArg some (by kernel_rfl))
 f320 := Tryz.func227.trans (congrArg some (by kernel_rfl))
 f321 := Tryz.func206.trans (congrArg some (by kernel_rfl))
 f322 := Tryz.func207.trans (congrArg some (by kernel_rfl))
 f337 := Tryz.func228.trans (congrArg some (by kernel_rfl))
 f338 := Tryz.func229.trans (congrArg some (by kernel_rfl))
 t0 := Tryz.underlying0
 a0 := Tryz.isAgg0
 z0 := Tryz.sizeOf0
 v0 := Tryz.zeroValue0
 t2 := Tryz.underlying2
 a2 := Tryz.isAgg2
 z2 := Tryz.sizeOf2
 v2 := Tryz.zeroValue2
 t3 := Tryz.underlying3
 a3 := Tryz.isAgg3
 z3 := Tryz.sizeOf3
 v3 := Tryz.zeroValue3
 t4 := Tryz.underlying4
 a4 := Tryz.isAgg4
 z4 := Tryz.sizeOf4
 v4 := Tryz.zeroValue4
 t5 := Tryz.underlying5
 a5 := Tryz.isAgg5
 z5 := Tryz.sizeOf5
 v5 := Tryz.zeroValue5
 t9 := Tryz.underlying9
 a9 := Tryz.isAgg9
 z9 := Tryz.sizeOf9
 v9 := Tryz.zeroValue9
 t20 := Tryz.underlying20
 a20 := Tryz.isAgg20
 z20 := Tryz.sizeOf20
 v20 := Tryz.zeroValue20
 t21 := Tryz.underlying21
 a21 := Tryz.isAgg21
 z21 := Tryz.sizeOf21
 v21 := Tryz.zeroValue21
 t37 := Tryz.underlying137
 a37 := Tryz.isAgg137
 z37 := Tryz.sizeOf137
 v37 := Tryz.zeroValue137
 t46 := Tryz.underlying69
 a46 := Tryz.isAgg69
 z46 := Tryz.sizeOf69
 v46 := Tryz.zeroValue69
 t51 := Tryz.underlying92
 a51 := Tryz.isAgg92
 z51 := Tryz.sizeOf92
 v51 := Tryz.zeroValue92
 t53 := Tryz.underlying94
 a53 := Tryz.isAgg94
 z53 := Tryz.sizeOf94
 v53 := Tryz.zeroValue94
 t75 := Tryz.underlying133
 a75 := Tryz.isAgg133
 z75 := Tryz.sizeOf133
 v75 := Tryz.zeroValue133
 t76 := Tryz.underlying134
 a76 := Tryz.isAgg134
 z76 := Tryz.sizeOf134
 v76 := Tryz.zeroValue134
 t85 := Tryz.underlying168
 a85 := Tryz.isAgg168
 z85 := Tryz.sizeOf168
 v85 := Tryz.zeroValue168
 t127 := Tryz.underlying154
 a127 := Tryz.isAgg154
 z127 := Tryz.sizeOf154
 v127 := Tryz.zeroValue154
 t143 := Tryz.underlying198
 a143 := Tryz.isAgg198
 z143 := Tryz.sizeOf198
 v143 := Tryz.zeroValue198
 t145 := Tryz.underlying200
 a145 := Tryz.isAgg200
 z145 := Tryz.sizeOf200
 v145 := Tryz.zeroValue200
 t167 := Tryz.underlying167
 a167 := Tryz.isAgg167
 z167 := Tryz.sizeOf167
 v167 := Tryz.zeroValue167
 t168 := Tryz.underlying170
 a168 := Tryz.isAgg170
 z168 := Tryz.sizeOf170
 v168 := Tryz.zeroValue170
 t171 := Tryz.underlying202
 a171 := Tryz.isAgg202
 z171 := Tryz.sizeOf202
 v171 := Tryz.zeroValue202
 t173 := Tryz.underlying204
 a173 := Tryz.isAgg204
 z173 := Tryz.sizeOf204
 v173 := Tryz.zeroValue204
 t175 := Tryz.underlying187
 a175 := Tryz.isAgg187
 z175 := Tryz.sizeOf187
 v175 := Tryz.zeroValue187
 t210 := Tryz.underlying191
 a210 := Tryz.isAgg191
 z210 := Tryz.sizeOf191
 v210 := Tryz.zeroValue191
 t212 := Tryz.underlying207
 a212 := Tryz.isAgg207
 z212 := Tryz.sizeOf207
 v212 := Tryz.zeroValue207
 t213 := Tryz.underlying208
 a213 := Tryz.isAgg208
 z213 := Tryz.sizeOf208
 t232 := Tryz.underlying209
 a232 := Tryz.isAgg209
 z232 := Tryz.sizeOf209
 v232 := Tryz.zeroValue209
 t233 := Tryz.underlying210
 a233 := Tryz.isAgg210
 z233 := Tryz.sizeOf210
 v233 := Tryz.zeroValue210
 g15 := by kernel_rfl
 g16 := by kernel_rfl
 g17 := by kernel_rfl
 g18 := by kernel_rfl
 g19 := by kernel_rfl
 t80 := Tryz.underlying141
 a80 := Tryz.isAgg141
 z80 := Tryz.sizeOf141
 v80 := Tryz.zeroValue141
 i0 := by kernel_rfl
 i2 := by kernel_rfl
 i3 := by kernel_rfl
 i4 := by kernel_rfl
 i5 := by kernel_rfl
 i9 := by kernel_rfl
 i20 := by kernel_rfl
 i21 := by kernel_rfl
 i37 := by kernel_rfl
 i46 := by kernel_rfl
 i51 := by kernel_rfl
 i53 := by kernel_rfl
 i75 := by kernel_rfl
 i76 := by kernel_rfl
 i80 := by kernel_rfl
 i85 := by kernel_rfl
 i127 := by kernel_rfl
 i143 := by kernel_rfl
 i145 := by kernel_rfl
 i167 := by kernel_rfl
 i168 := by kernel_rfl
 i171 := by kernel_rfl
 i173 := by kernel_rfl
 i175 := by kernel_rfl
 i210 := by kernel_rfl
 i212 := by kernel_rfl
 i232 := by kernel_rfl
 i233 := by kernel_rfl
 m15 := by kernel_rfl
 m16 := by kernel_rfl
 m17 := by kernel_rfl
 m18 := by kernel_rfl
 m19 := by kernel_rfl
 c0 := by kernel_rfl
 c2 := by kernel_rfl
 c3 := by kernel_rfl
 c4 := by kernel_rfl
 c5 := by kernel_rfl
 c9 := by kernel_rfl
 c20 := by kernel_rfl
 c21 := by kernel_rfl
 c37 := by kernel_rfl
 c46 := by kernel_rfl
 c51 := by kernel_rfl
 c53 := by kernel_rfl
 c75 := by kernel_rfl
 c76 := by kernel_rfl
 c80 := by kernel_rfl
 c85 := by kernel_rfl
 c127 := by kernel_rfl
 c143 := by kernel_rfl
 c145 := by kernel_rfl
 c167 := by kernel_rfl
 c168 := by kernel_rfl
 c171 := by kernel_rfl
 c173 := by kernel_rfl
 c175 := by kernel_rfl
 c210 := by kernel_rfl
 c212 := by kernel_rfl
 c213 := by kernel_rfl
 c232 := by kernel_rfl
 c233 := by kernel_rfl }
open Go.RowKit in
theorem Tryz.strconv_Atoi_ok (s : ByteArray) (hmax : s.size ≤ 9223372036854775806) (v : Int) (h : Lib.atoiAll s.data.toList = .ok v) (w : World) :
  Calls Tryz.prog 112 #[.string s] w fun e w' => e = .returned (.tuple #[.int .i64 v, .nilIface]) ∧ (w' = w ∨ ∃ t, w' = Lib.bytesWorld w 5 t) := Any.strconv_Atoi_ok Tryz.laysC172 s hmax v h w
open Go.RowKit in
theorem Tryz.strconv_Atoi_syntax (s : ByteArray) (hlim : s.size ≤ 281474976710656) (h : Lib.atoiAll s.data.toList = Go.Lib.NumEnd.syntax) (ev : Value) (w : World) (hv : w.cell? ⟨3, 0, none⟩ = some ev) (hev : ev = .nilIface ∨ ∃ te pe, ev = .iface te pe) :
  Calls Tryz.prog 112 #[.string s] w fun e w' => ∃ N, e = .returned (.tuple #[.int .i64 (0), .iface 170 (.pointer (some ⟨N, 0, none⟩))]) ∧ w.heap.size ≤ N ∧ w'.heap[N]? = some (.cells #[.string ⟨#[65, 116, 111, 105]⟩, .string s, ev] 191 (0, 0)) ∧ Below w.heap.size w w' := Any.strconv_Atoi_syntax Tryz.laysC172 s hlim h ev w hv hev
open Go.RowKit in
theorem Tryz.strconv_Atoi_range (s : ByteArray) (hlim : s.size ≤ 281474976710656) (h : Lib.atoiAll s.data.toList = .range) (ev : Value) (w : World) (hv : w.cell? ⟨4, 0, none⟩ = some ev) (hev : ev = .nilIface ∨ ∃ te pe, ev = .iface te pe) :
  Calls Tryz.prog 112 #[.string s] w fun e w' => ∃ N, e = .returned (.tuple #[.int .i64 (Lib.atoiSat s.data.toList), .iface 170 (.pointer (some ⟨N, 0, none⟩))]) ∧ w.heap.size ≤ N ∧ w'.heap[N]? = some (.cells #[.string ⟨#[65, 116, 111, 105]⟩, .string s, ev] 191 (0, 0)) ∧ Below w.heap.size w w' := Any.strconv_Atoi_range Tryz.laysC172 s hlim h ev w hv hev
def Tryz.lays144_ren : Go.Shelf.Ren := ⟨fun | 144 => 26 | 143 => 39 | 219 => 77 | 217 => 118 | 225 => 119 | 224 => 120 | 267 => 121 | 266 => 154 | 314 => 155 | n => n, fun | 9 => 9 | 4 => 4 | 3 => 3 | 5 => 5 | 46 => 69 | 146 => 156 | 51 => 92 | n => n, fun | 1 => 0 | n => n⟩
theorem Tryz.lays144 : Go.Proofs.Lays.n144 Tryz.prog Tryz.lays144_ren := {
 mixed := by kernel_rfl
 f143 := Tryz.func39.trans (congrArg some (by kernel_rfl))
 f144 := Tryz.func26.trans (congrArg some (by kernel_rfl))
 f217 := Tryz.func118.trans (congrArg some (by kernel_rfl))
 f219 := Tryz.func77.trans (congrArg some (by kernel_rfl))
 f224 := Tryz.func120.trans (congrArg some (by kernel_rfl))
 f225 := Tryz.func119.trans (congrArg some (by kernel_rfl))
 f266 := Tryz.func154.trans (congrArg some (by kernel_rfl))
 f267 := Tryz.func121.trans (congrArg some (by kernel_rfl))
 f314 := Tryz.func155.trans (congrArg some (by kernel_rfl))
 t3 := Tryz.underlying3
 a3 := Tryz.isAgg3
 z3 := Tryz.sizeOf3
 v3 := Tryz.zeroValue3
 t4 := Tryz.underlying4
 a4 := Tryz.isAgg4
 z4 := Tryz.sizeOf4
 v4 := Tryz.zeroValue4
 t5 := Tryz.underlying5
 a5 := Tryz.isAgg5
 z5 := Tryz.sizeOf5
 v5 := Tryz.zeroValue5
 t9 := Tryz.underlying9
 a9 := Tryz.isAgg9
 z9 := Tryz.sizeOf9
 v9 := Tryz.zeroValue9
 t46 := Tryz.underlying69
 a46 := Tryz.isAgg69
 z46 := Tryz.sizeOf69
 v46 := Tryz.zeroValue69
 t51 := Tryz.underlying92
 a51 := Tryz.isAgg92
 z51 := Tryz.sizeOf92
 v51 := Tryz.zeroValue92
 t146 := Tryz.underlying156
 a146 := Tryz.isAgg156
 z146 := Tryz.sizeOf156
 v146 := Tryz.zeroValue156
 g1 := by kernel_rfl }
open Go.RowKit Go.Lib in
theorem Tryz.strings_Contains_one (s : ByteArray) (c : UInt8) (w : World) :
  Calls Tryz.prog 26 #[.string s, .string ⟨#[c]⟩] w fun e w' => e = .returned (.bool (decide (0 ≤ Lib.indexByte s.data.toList c))) ∧ w' = w := Any.strings_Contains_one Tryz.lays144 s c w
def Tryz.lays99_ren : Go.Shelf.Ren := ⟨fun | 99 => 85 | 206 => 123 | n => n, fun | 9 => 9 | 4 => 4 | 3 => 3 | n => n, fun | n => n⟩
theorem Tryz.lays99 : Go.Proofs.Lays.n99 Tryz.prog Tryz.lays99_ren := {
 mixed := by kernel_rfl
 f99 := Tryz.func85.trans (congrArg some (by kernel_rfl))
 f206 := Tryz.func123.trans (congrArg some (by kernel_rfl))
 t3 := Tryz.underlying3
 a3 := Tryz.isAgg3
 z3 := Tryz.sizeOf3
 v3 := Tryz.zeroValue3
 t4 := Tryz.underlying4
 a4 := Tryz.isAgg4
 z4 := Tryz.sizeOf4
 v4 := Tryz.zeroValue4
 t9 := Tryz.underlying9
 a9 := Tryz.isAgg9
 z9 := Tryz.sizeOf9
 v9 := Tryz.zeroValue9 }
open Go.RowKit Go.Lib in
theorem Tryz.strings_HasPrefix (s p : ByteArray) (w : World) :
  Calls Tryz.prog 85 #[.string s, .string p] w fun e w' => e = .returned (.bool (Lib.hasPrefix s.data.toList p.data.toList)) ∧ w' = w := Any.strings_HasPrefix Tryz.lays99 s p w
def Tryz.lays157_ren : Go.Shelf.Ren := ⟨fun | 157 => 96 | 229 => 125 | 199 => 126 | 261 => 156 | 311 => 178 | 312 => 179 | n => n, fun | 9 => 9 | 31 => 124 | 3 => 3 | 5 => 5 | 4 => 4 | 119 => 146 | 0 => 0 | 40 => 148 | 152 => 158 | 21 => 21 | 154 => 160 | 51 => 92 | 141 => 162 | 196 => 178 | 193 => 175 | 198 => 181 | 49 => 179 | 194 => 176 | 201 => 184 | 226 => 194 | 46 => 69 | 227 => 195 | n => n, fun | 0 => 1 | 6 => 2 | n => n⟩
theorem Tryz.lays157 : Go.Proofs.Lays.n157 Tryz.prog Tryz.lays157_ren := {
 mixed := by kernel_rfl
 f157 := Tryz.func96.trans (congrArg some (by kernel_rfl))
 f199 := Tryz.func126.trans (congrArg some (by kernel_rfl))
 f229 := Tryz.func125.trans (congrArg some (by kernel_rfl))
 f261 := Tryz.func156.trans (congrArg some (by kernel_rfl))
 f311 := Tryz.func178.trans (congrArg some (by kernel_rfl))
 f312 := Tryz.func179.trans (congrArg some (by kernel_rfl))
 t0 := Tryz.underlying0
 a0 := Tryz.isAgg0
 z0 := Tryz.sizeOf0
 v0 := Tryz.zeroValue0
 t3 := Tryz.underlying3
 a3 := Tryz.isAgg3
 z3 := Tryz.sizeOf3
 v3 := Tryz.zeroValue3
 t4 := Tryz.underlying4
 a4 := Tryz.isAgg4
 z4 := Tryz.sizeOf4
 v4 := Tryz.zeroValue4
 t5 := Tryz.underlying5
 a5 := Tryz.isAgg5
 z5 := Tryz.sizeOf5
 v5 := Tryz.zeroValue5
 t9 := Tryz.underlying9
 a9 := Tryz.isAgg9
 z9 := Tryz.sizeOf9
 v9 := Tryz.zeroValue9
 t21 := Tryz.underlying21
 a21 := Tryz.isAgg21
 z21 := Tryz.sizeOf21
 v21 := Tryz.zeroValue21
 t31 := Tryz.underlying124
 a31 := Tryz.isAgg124
 z31 := Tryz.sizeOf124
 v31 := Tryz.zeroValue124
 t40 := Tryz.underlying148
 a40 := Tryz.isAgg148
 z40 := Tryz.sizeOf148
 v40 := Tryz.zeroValue148
 t46 := Tryz.underlying69
 a46 := Tryz.isAgg69
 z46 := Tryz.sizeOf69
 v46 := Tryz.zeroValue69
 t49 := Tryz.underlying179
 a49 := Tryz.isAgg179
 z49 := Tryz.sizeOf179
 v49 := Tryz.zeroValue179
 t51 := Tryz.underlying92
 a51 := Tryz.isAgg92
 z51 := Tryz.sizeOf92
 v51 := Tryz.zeroValue92
 t119 := Tryz.underlying146
 a119 := Tryz.isAgg146
 z119 := Tryz.sizeOf146
 t141 := Tryz.underlying162
 a141 := Tryz.isAgg162
 z141 := Tryz.sizeOf162
 v141 := Tryz.zeroValue162
 t152 := Tryz.underlying158
 a152 := Tryz.isAgg158
 z152 := Tryz.sizeOf158
 v152 := Tryz.zeroValue158
 t154 := Tryz.underlying160
 a154 := Tryz.isAgg160
 z154 := Tryz.sizeOf160
 v154 := Tryz.zeroValue160
 t193 := Tryz.underlying175
 a193 := Tryz.isAgg175
 z193 := Tryz.sizeOf175
 v193 := Tryz.zeroValue175
 t194 := Tryz.underlying176
 a194 := Tryz.isAgg176
 z194 := Tryz.sizeOf176
 v194 := Tryz.zeroValue176
 t196 := Tryz.underlying178
 a196 := Tryz.isAgg178
 z196 := Tryz.sizeOf178
 v196 := Tryz.zeroValue178
 t198 := Tryz.underlying181
 a198 := Tryz.isAgg181
 z198 := Tryz.sizeOf181
 v198 := Tryz.zeroValue181
 t201 := Tryz.underlying184
 a201 := Tryz.isAgg184
 z201 := Tryz.sizeOf184
 v201 := Tryz.zeroValue184
 t226 := Tryz.underlying194
 a226 := Tryz.isAgg194
 z226 := Tryz.sizeOf194
 v226 := Tryz.zeroValue194
 t227 := Tryz.underlying195
 a227 := Tryz.isAgg195
 z227 := Tryz.sizeOf195
 v227 := Tryz.zeroValue195
 g0 := by kernel_rfl
 g6 := by kernel_rfl }
open Go.RowKit Go.Lib in
theorem Tryz.strings_Fields (s : ByteArray) (w : World) (hs : s.size < 4294967281) (hascii : ∀ (j : Nat) b, s.data.toList[j]? = some b → b.toNat < 128) (htab : Lib.TabIs Tryz.prog w "strings.asciiSpace" .u8 Lib.asciiSpaceTab) :
  Calls Tryz.prog 96 #[.string s] w fun e w' =>
   e = .returned (.slice (some ⟨w.heap.size, 0, none⟩) (Lib.fields s.data.toList).length (Lib.fields s.data.toList).length) ∧ w' = w.alloc (.cells ((Lib.fields s.data.toList).map fun l => Value.string ⟨l.toArray⟩).toArray 9) := Any.strings_Fields Tryz.lays157 (by kernel_rfl) (by kernel_rfl) s w hs hascii htab
def Tryz.lays107_ren : Go.Shelf.Ren := ⟨fun | 107 => 149 | 108 => 171 | n => n, fun | 28 => 70 | 3 => 3 | 4 => 4 | 0 => 0 | n => n, fun | n => n⟩
theorem Tryz.lays107 : Go.Proofs.Lays.n107 Tryz.prog Tryz.lays107_ren := {
 mixed := by kernel_rfl
 f107 := Tryz.func149.trans (congrArg some (by kernel_rfl))
 f108 := Tryz.func171.trans (congrArg some (by kernel_rfl))
 t0 := Tryz.underlying0
 a0 := Tryz.isAgg0
 z0 := Tryz.sizeOf0
 v0 := Tryz.zeroValue0
 t3 := Tryz.underlying3
 a3 := Tryz.isAgg3
 z3 := Tryz.sizeOf3
 v3 := Tryz.zeroValue3
 t4 := Tryz.underlying4
 a4 := Tryz.isAgg4
 z4 := Tryz.sizeOf4
 v4 := Tryz.zeroValue4
 t28 := Tryz.underlying70
 a28 := Tryz.isAgg70
 z28 := Tryz.sizeOf70
 v28 := Tryz.zeroValue70 }
open Go.Lib in
theorem Tryz.slices_Contains_int (b off n c : Nat) (zs : List Int) (x : Int) (w : World) (hz : n ≤ zs.length) (hbig : n ≤ 9223372036854775807) (hc : ∀ j, j < zs.length → w.cell? ⟨b, off + j, none⟩ = some (.int .i64 (zs.getD j 0))) :
  Calls Tryz.prog 149 #[.slice (some ⟨b, off, none⟩) n c, .int .i64 x] w fun e w' => e = .returned (.bool ((zs.take n).contains x)) ∧ w' = w := Any.slices_Contains_int Tryz.lays107 b off n c zs x w hz hbig hc
def Tryz.lays109_ren : Go.Shelf.Ren := ⟨fun | 109 => 95 | n => n, fun | 31 => 124 | 9 => 9 | 3 => 3 | 0 => 0 | 4 => 4 | n => n, fun | n => n⟩
theorem Tryz.lays109 : Go.Proofs.Lays.n109 Tryz.prog Tryz.lays109_ren := {
 mixed := by kernel_rfl
 f109 := Tryz.func95.trans (congrArg some (by kernel_rfl))
 t0 := Tryz.underlying0
 a0 := Tryz.isAgg0
 z0 := Tryz.sizeOf0
 v0 := Tryz.zeroValue0
 t3 := Tryz.underlying3
 a3 := Tryz.isAgg3
 z3 := Tryz.sizeOf3
 v3 := Tryz.zeroValue3
 t4 := Tryz.underlying4
 a4 := Tryz.isAgg4
 z4 := Tryz.sizeOf4
 v4 := Tryz.zeroValue4
 t9 := Tryz.underlying9
 a9 := Tryz.isAgg9
 z9 := Tryz.sizeOf9
 v9 := Tryz.zeroValue9
 t31 := Tryz.underlying124
 a31 := Tryz.isAgg124
 z31 := Tryz.sizeOf124
 v31 := Tryz.zeroValue124 }
open Go.Lib in
theorem Tryz.slices_Index_string (b off n c : Nat) (zs : List ByteArray) (x : ByteArray) (w : World) (hz : n ≤ zs.length) (hbig : n ≤ 9223372036854775807) (hc : ∀ j, j < zs.length → w.cell? ⟨b, off + j, none⟩ = some (.string (zs.getD j ByteArray.empty))) :
  Calls Tryz.prog 95 #[.slice (some ⟨b, off, none⟩) n c, .string x] w fun e w' => e = .returned (.int .i64 (Lib.idxOfS (zs.take n) x)) ∧ w' = w := Any.slices_Index_string Tryz.lays109 b off n c zs x w hz hbig hc
end Go.Proofs
namespace Go.Proofs.YtkijamagbgigmaaGreatDoor.Par
open Go.RowKit Go.Proofs.YtkijamagbgigmaaGreatDoorW.PrintWords Go.Proofs.YtkijamagbgigmaaGreatDoorW.PrintLast
theorem C_strs {W : World} {g : Nat} {t : TypeId} {fr : Nat × Nat} (l : List ByteArray) (hl : l.length ≤ 1000) (h : W.heap[g]? = some (.cells (l.map Value.string).toArray t fr)) : Kd.C Kd.string W (some ⟨g, 0, none⟩) l.length l := by
 refine ⟨rfl, by omega, fun _ => ⟨_, rfl, fun j p hp => ⟨[.string p], rfl, rfl, fun i u hu => ?_⟩⟩⟩
 have hj := (List.getElem?_eq_some_iff.1 hp).1
 cases i with
 | zero =>
  simp only [List.getElem?_cons_zero, Option.some.injEq] at hu
  subst hu
  have hz : Kd.string.sz = 1 := rfl
  have : (Addr.add ⟨g, 0, none⟩ (j * Kd.string.sz + 0)) = ⟨g, j, none⟩ := by
   rw [Addr.add_lit, hz]
   congr 1
   omega
  rw [this]
  have h3 : W.cell? ⟨g, j, none⟩ = (l.map Value.string).toArray[j]? := by
   unfold World.cell?
   simp only [h]
   rfl
  rw [h3]
  simp [hp]
 | succ i => simp at hu
def Post (B : Nat) (T : List Tok) (tv : Value) (pb : Nat) (W : World) (low : List Tree) (kd : Int) (tx : ByteArray) (F : List Nat) (v : Value) (s : St) : Ending → World → Prop := fun e W' =>
 e = .returned v ∧ ∃ F', PS 76 53 B T tv pb W' s.1 (low ++ [.mk kd tx s.2]) F' ∧ Fr pb F F' W W'
theorem acceptS_t {T : List Tok} {s : St} {l : List ByteArray} (h : atT T s.1 l = true) : acceptS T s l = bumpS T s := if_pos h
theorem acceptS_f {T : List Tok} {s : St} {l : List ByteArray} (h : atT T s.1 l = false) : acceptS T s l = s := if_neg (by rw [h]; simp)
theorem expectS_t {T : List Tok} {s : St} {t : ByteArray} (h : atT T s.1 [t] = true) : expectS T t s = bumpS T s := if_pos h
theorem expectS_f {T : List Tok} {s : St} {t : ByteArray} (h : atT T s.1 [t] = false) : expectS T t s = missTokS s := if_neg (by rw [h]; simp)
theorem expectIdS_t {T : List Tok} {s : St} (h : idT T s.1 = true) : expectIdS T s = bumpS T s := if_pos h
theorem expectIdS_f {T : List Tok} {s : St} (h : idT T s.1 = false) : expectIdS T s = missTokS s := if_neg (by rw [h]; simp)
end Go.Proofs.YtkijamagbgigmaaGreatDoor.Par
namespace Go.Proofs.YtkijamagbgigmaaGreatDoor.Par
open Go.RowKit Go.Proofs.YtkijamagbgigmaaGreatDoorW.PrintWords Go.Proofs.YtkijamagbgigmaaGreatDoorW.PrintLast
variable {B : Nat} {T : List Tok} {tv : Value} {pb : Nat} {W : World} {pos : Nat} {low : List Tree} {kd : Int} {tx : ByteArray} {ks : List Tree} {F : List Nat}
theorem accept_calls (hT : T.length ≤ 100000) (hp : pos ≤ T.length) (h : PS 76 53 B T tv pb W pos (low ++ [.mk kd tx ks]) F) (hsm : low.length + ks.length ≤ 100000000)
  {l : List ByteArray} {A : Option Addr} {c : Nat} (hl : l.length ≤ 1000) (hr : Kd.C Kd.string W A l.length l) (hc : l.length ≤ c) :
  Calls Tryz.prog 58 #[.pointer (some ⟨pb, 0, none⟩), .slice A l.length c] W (Post B T tv pb W low kd tx F (.bool (atT T pos l)) (acceptS T (pos, ks) l)) := by
 go_enter Tryz.func58, Tryz.ntmps58
 have H0 := ak h
 have HR := ak hr
 have HC := ak hc
 clear h hr hc
 go_wp2_with fail
 refine (at_calls hT hp H0.out hl HR.out HC.out).mono ?_
 rintro e W1 ⟨rfl, hb1⟩
 have H1 := ak (H0.out.below hb1)
 have HB1 := ak (Fr.of_below (pb := pb) (F := F) hb1)
 clear hb1
 cases hat : atT T pos l
 ·have HAT := ak hat
  go_wp2_with fail
  go_ret
  exact ⟨by rw [HAT.out]; rfl, F, by rw [acceptS_f HAT.out]; exact H1.out, HB1.out⟩
 ·have HAT := ak hat
  go_wp2_with fail
  refine (bump_calls hT hp H1.out hsm).mono ?_
  rintro e W2 ⟨rfl, F2, h2, f2⟩
  have H2 := ak (And.intro h2 (HB1.out.trans f2))
  clear h2 f2
  go_wp2_with fail
  go_ret
  exact ⟨by rw [HAT.out]; rfl, F2, by rw [acceptS_t HAT.out]; exact H2.out.1, H2.out.2⟩
theorem missNode_calls (h : PS 76 53 B T tv pb W pos (low ++ [.mk kd tx ks]) F) (hsm : low.length + ks.length ≤ 1000000000) :
  Calls Tryz.prog 144 #[.pointer (some ⟨pb, 0, none⟩)] W (Post B T tv pb W low kd tx F (.tuple #[]) (missNodeS (pos, ks))) := by
 go_enter Tryz.func144, Tryz.ntmps144
 have H0 := ak h
 clear h
 go_wp2_with fail
 refine (add_calls (.mk 46 noText []) H0.out (hv := .slice none 0 0) (Ft := []) (TR_nil _ _ _) (by rw [List.append_nil]; exact H0.out.nd) (by simp) hsm).mono ?_
 rintro e W3 ⟨rfl, F3, h3, f3⟩
 rw [List.append_nil] at f3
 have H3 := ak (And.intro h3 f3)
 clear h3 f3
 go_wp2_with fail
 go_end0
 exact ⟨rfl, F3, H3.out⟩
theorem missTok_calls (h : PS 76 53 B T tv pb W pos (low ++ [.mk kd tx ks]) F) (hsm : low.length + ks.length ≤ 1000000000) :
  Calls Tryz.prog 137 #[.pointer (some ⟨pb, 0, none⟩)] W (Post B T tv pb W low kd tx F (.tuple #[]) (missTokS (pos, ks))) := by
 go_enter Tryz.func137, Tryz.ntmps137
 have H0 := ak h
 clear h
 go_wp2_with fail
 refine (add_calls (.mk 108 noText []) H0.out (hv := .slice none 0 0) (Ft := []) (TR_nil _ _ _) (by rw [List.append_nil]; exact H0.out.nd) (by simp) hsm).mono ?_
 rintro e W3 ⟨rfl, F3, h3, f3⟩
 rw [List.append_nil] at f3
 have H3 := ak (And.intro h3 f3)
 clear h3 f3
 go_wp2_with fail
 go_end0
 exact ⟨rfl, F3, H3.out⟩
theorem absent_calls (h : PS 76 53 B T tv pb W pos (low ++ [.mk kd tx ks]) F) (hsm : low.length + ks.length ≤ 1000000000) :
  Calls Tryz.prog 130 #[.pointer (some ⟨pb, 0, none⟩)] W (Post B T tv pb W low kd tx F (.tuple #[]) (absentS (pos, ks))) := by
 go_enter Tryz.func130, Tryz.ntmps130
 have H0 := ak h
 clear h
 go_wp2_with fail
 refine (add_calls (.mk 0 noText []) H0.out (hv := .slice none 0 0) (Ft := []) (TR_nil _ _ _) (by rw [List.append_nil]; exact H0.out.nd) (by simp) hsm).mono ?_
 rintro e W3 ⟨rfl, F3, h3, f3⟩
 rw [List.append_nil] at f3
 have H3 := ak (And.intro h3 f3)
 clear h3 f3
 go_wp2_with fail
 go_end0
 exact ⟨rfl, F3, H3.out⟩
theorem expect_calls (hT : T.length ≤ 100000) (hp : pos ≤ T.length) (h : PS 76 53 B T tv pb W pos (low ++ [.mk kd tx ks]) F) (hsm : low.length + ks.length ≤ 100000000) (text : ByteArray) :
  Calls Tryz.prog 106 #[.pointer (some ⟨pb, 0, none⟩), .string text] W (Post B T tv pb W low kd tx F (.tuple #[]) (expectS T text (pos, ks))) := by
 go_enter Tryz.func106, Tryz.ntmps106
 have H0 := ak h
 clear h
 go_wp2_with fail
 refine (accept_calls (l := [text]) hT hp (H0.out.below (below_alloc (Below.refl _ _) _)) hsm (by simp) (C_strs [text] (by simp) (blk_new W _)) (Nat.le_refl _)).mono ?_
 rintro e W1 ⟨rfl, F1, h1, f1⟩
 have H1 := ak (And.intro h1 ((Fr.of_below (pb := pb) (F := F) (below_alloc (Below.refl _ _) _)).trans f1))
 clear h1 f1
 cases hat : atT T pos [text]
 ·have HAT := ak hat
  have h1 := H1.out.1
  rw [acceptS_f hat] at h1
  have H1' := ak (And.intro h1 H1.out.2)
  clear h1 H1
  go_wp2_with fail
  refine (missTok_calls H1'.out.1 (by omega)).mono ?_
  rintro e W2 ⟨rfl, F2, h2, f2⟩
  have H2 := ak (And.intro h2 (H1'.out.2.trans f2))
  clear h2 f2
  go_wp2_with fail
  go_end0
  exact ⟨rfl, F2, by rw [expectS_f HAT.out]; exact H2.out.1, H2.out.2⟩
 ·have HAT := ak hat
  have h1 := H1.out.1
  rw [acceptS_t hat] at h1
  have H1' := ak (And.intro h1 H1.out.2)
  clear h1 H1
  go_wp2_with fail
  go_end0
  exact ⟨rfl, F1, by rw [expectS_t HAT.out]; exact H1'.out.1, H1'.out.2⟩
theorem expectId_calls (hT : T.length ≤ 100000) (hp : pos ≤ T.length) (h : PS 76 53 B T tv pb W pos (low ++ [.mk kd tx ks]) F) (hsm : low.length + ks.length ≤ 100000000) :
  Calls Tryz.prog 103 #[.pointer (some ⟨pb, 0, none⟩)] W (Post B T tv pb W low kd tx F (.tuple #[]) (expectIdS T (pos, ks))) := by
 go_enter Tryz.func103, Tryz.ntmps103
 have H0 := ak h
 clear h
 go_wp2_with fail
 refine (ident_calls hT hp H0.out).mono ?_
 rintro e W1 ⟨rfl, hb1⟩
 have H1 := ak (H0.out.below hb1)
 have HB1 := ak (Fr.of_below (pb := pb) (F := F) hb1)
 clear hb1
 cases hat : idT T pos
 ·have HAT := ak hat
  go_wp2_with fail
  refine (missTok_calls H1.out (by omega)).mono ?_
  rintro e W2 ⟨rfl, F2, h2, f2⟩
  have H2 := ak (And.intro h2 (HB1.out.trans f2))
  clear h2 f2
  go_wp2_with fail
  go_end0
  exact ⟨rfl, F2, by rw [expectIdS_f HAT.out]; exact H2.out.1, H2.out.2⟩
 ·have HAT := ak hat
  go_wp2_with fail
  refine (bump_calls hT hp H1.out hsm).mono ?_
  rintro e W2 ⟨rfl, F2, h2, f2⟩
  have H2 := ak (And.intro h2 (HB1.out.trans f2))
  clear h2 f2
  go_wp2_with fail
  go_end0
  exact ⟨rfl, F2, by rw [expectIdS_t HAT.out]; exact H2.out.1, H2.out.2⟩
end Go.Proofs.YtkijamagbgigmaaGreatDoor.Par
namespace Go.Proofs.YtkijamagbgigmaaGreatDoor.Par
open Go.RowKit Go.Proofs.YtkijamagbgigmaaGreatDoorW.PrintWords Go.Proofs.YtkijamagbgigmaaGreatDoorW.PrintLast
def kwText : ByteArray := ⟨#[117, 115, 101, 32, 112, 117, 98, 32, 102, 110, 32, 115, 116, 114, 117, 99, 116, 32, 101, 110, 117, 109, 32, 116, 114, 97, 105, 116, 32, 105, 109, 112, 108, 32, 99, 111, 110, 115, 116, 32, 109, 97, 99, 114, 111]⟩
theorem kwText_fields : (Lib.fields kwText.data.toList).map (fun l => Value.string ⟨l.toArray⟩) = itemKw.map Value.string := by kernel_rfl
theorem kwText_len : (Lib.fields kwText.data.toList).length = 9 := by kernel_rfl
theorem kwText_ascii : ∀ (j : Nat) b, kwText.data.toList[j]? = some b → b.toNat < 128 := by
 have h : kwText.data.toList.all (fun b => decide (b.toNat < 128)) = true := by kernel_rfl
 intro j b hb
 exact odt (List.all_eq_true.1 h b (List.mem_of_getElem? hb))
theorem kwText_size : kwText.size < 4294967281 := by
 have : kwText.size = 45 := by kernel_rfl
 omega
end Go.Proofs.YtkijamagbgigmaaGreatDoor.Par
namespace Go.Proofs.YtkijamagbgigmaaGreatDoor.Par
open Go.RowKit Go.Proofs.YtkijamagbgigmaaGreatDoorW.PrintWords Go.Proofs.YtkijamagbgigmaaGreatDoorW.PrintLast
variable {B : Nat} {T : List Tok} {tv : Value} {pb : Nat} {W : World} {pos : Nat} {stk : List Tree} {low : List Tree} {kd : Int} {tx : ByteArray} {ks : List Tree} {F : List Nat}
theorem kw_calls (W : World) (h : Spc W) :
  Calls Tryz.prog 98 #[] W fun e W' => e = .returned (.slice (some ⟨W.heap.size, 0, none⟩) itemKw.length 9) ∧ Below W.heap.size W W' ∧ W'.heap[W.heap.size]? = some (.cells (itemKw.map Value.string).toArray 9 (0, 0)) := by
 go_enter Tryz.func98, Tryz.ntmps98
 have H := ak h
 clear h
 go_wp2_with fail
 refine (Tryz.strings_Fields kwText W kwText_size kwText_ascii H.out).mono ?_
 rintro e W1 ⟨rfl, rfl⟩
 rw [kwText_fields, kwText_len]
 go_wp2_with fail
 go_ret
 exact ⟨rfl, below_alloc (Below.refl _ _) _, blk_new W _⟩
theorem atItem_calls (hT : T.length ≤ 100000) (hp : pos ≤ T.length) (h : PS 76 53 B T tv pb W pos stk F) :
  Calls Tryz.prog 161 #[.pointer (some ⟨pb, 0, none⟩)] W fun e W' => e = .returned (.bool (atItemT T pos)) ∧ Below W.heap.size W W' := by
 go_enter Tryz.func161, Tryz.ntmps161
 have H0 := ak h
 clear h
 go_wp2_with fail
 refine (kw_calls W H0.out.spc).mono ?_
 rintro e W1 ⟨rfl, hb1, hk1⟩
 have H1 := ak (And.intro (H0.out.below hb1) (And.intro hb1 (C_strs itemKw (by decide) hk1)))
 clear hb1 hk1
 go_wp2_with fail
 refine (at_calls (l := itemKw) hT hp H1.out.1 (by decide) H1.out.2.2 (by decide)).mono ?_
 rintro e W2 ⟨rfl, hb2⟩
 have H2 := ak (And.intro (H1.out.1.below hb2) (below_step H1.out.2.1 hb2))
 clear hb2 H1
 cases hat : atT T pos itemKw
 ·have HAT := ak hat
  go_wp2_with fail
  go_ret
  exact ⟨by unfold atItemT; rw [HAT.out]; rfl, H2.out.2⟩
 ·have HAT := ak hat
  go_wp2_with fail
  refine (at_calls (l := [⟨#[102, 110]⟩]) hT hp (H2.out.1.below (below_alloc (Below.refl _ _) _)) (by simp) (C_strs [⟨#[102, 110]⟩] (by simp) (blk_new W2 _)) (Nat.le_refl _)).mono ?_
  rintro e W3 ⟨rfl, hb3⟩
  have H3 := ak (below_step (below_step H2.out.2 (below_alloc (Below.refl _ _) _)) hb3)
  clear hb3
  cases hfn : atT T pos [⟨#[102, 110]⟩]
  ·have HI := ak (show atItemT T pos = true by unfold atItemT; rw [HAT.out]; exact congrArg (fun b => true && !b) hfn)
   go_wp2_with fail
   go_ret
   exact ⟨by rw [HI.out]; rfl, H3.out⟩
  ·have HI := ak (show atItemT T pos = false by unfold atItemT; rw [HAT.out]; exact congrArg (fun b => true && !b) hfn)
   go_wp2_with fail
   go_ret
   exact ⟨by rw [HI.out]; rfl, H3.out⟩
end Go.Proofs.YtkijamagbgigmaaGreatDoor.Par
namespace Go.Proofs.YtkijamagbgigmaaGreatDoor.Par
open Go.RowKit Go.Proofs.YtkijamagbgigmaaGreatDoorW.PrintWords Go.Proofs.YtkijamagbgigmaaGreatDoorW.PrintLast
theorem TR_one {W : World} {B e g : Nat} {t : Tree} {x y z : Value} {Ft : List Nat} (hg : B ≤ g) (h : W.heap[g]? = some (.cells #[x, y, z] e (0, 0))) (ht : TC W B e t [x, y, z] Ft) : TR W B e [t] (.slice (some ⟨g, 0, none⟩) 1 1) (g :: Ft) := by
 refine ⟨[x, y, z], Ft, ⟨rfl, .inr ⟨g, 1, #[x, y, z], rfl, hg, h, Nat.le_refl _, by decide, rfl, rfl⟩⟩, rfl, ?_⟩
 simp only [TL]
 exact ⟨[x, y, z], [], Ft, [], rfl, by simp, ht, rfl, rfl⟩
theorem TC_leaf {W : World} {B e : Nat} {kd : Int} {tx : ByteArray} : TC W B e (.mk kd tx []) [.int .i64 kd, .string tx, .slice none 0 0] [] := TC_mk.2 ⟨_, rfl, TR_nil W B e⟩
end Go.Proofs.YtkijamagbgigmaaGreatDoor.Par
namespace Go.Proofs.YtkijamagbgigmaaGreatDoor.Par
open Go.RowKit Go.Proofs.YtkijamagbgigmaaGreatDoorW.PrintWords Go.Proofs.YtkijamagbgigmaaGreatDoorW.PrintLast
variable {B : Nat} {T : List Tok} {tv : Value} {pb : Nat} {W : World} {pos : Nat} {stk : List Tree} {low : List Tree} {kd : Int} {tx : ByteArray} {ks : List Tree} {F : List Nat}
theorem look_calls (hT : T.length ≤ 100000) (hp : pos ≤ T.length) (h : PS 76 53 B T tv pb W pos stk F) :
  Calls Tryz.prog 53 #[.pointer (some ⟨pb, 0, none⟩)] W fun e W' => ∃ qb, e = .returned (.pointer (some ⟨qb, 0, none⟩)) ∧ Below W.heap.size W W' ∧ ∃ sq Fq, PS 76 53 W.heap.size T tv qb W' (lookT T pos) sq Fq := by
 go_enter Tryz.func53, Tryz.ntmps53
 have H0 := ak h
 obtain ⟨A, c, rfl, _⟩ := h.toks
 obtain ⟨o0, o1, _, _⟩ := h.cells
 clear h
 go_wp2_with fail
 go_region_held3 (fun w' => w'.cell? ⟨pb, 0, none⟩ = some (.slice A T.length c) ∧ w'.cell? ⟨pb, 1, none⟩ = some (.int .i64 (pos : Int))) (go_keep) (fail)
 obtain ⟨W1, hW1⟩ : ∃ W1, ((W.alloc (Obj.cells #[Value.int IntKind.i64 0, Value.string { data := #[] }, Value.slice none 0 0] 53)).alloc (Obj.cells #[Value.slice A T.length c, Value.int IntKind.i64 ↑pos, Value.slice (some { block := W.heap.size, off := 0 }) 1 1] 76)).drew = W1 := ⟨_, rfl⟩
 have HB1 := ak (show Below W.heap.size W W1 by rw [← hW1]; exact below_drew (below_alloc (below_alloc (Below.refl _ _) _) _))
 have HQ := ak (show PS 76 53 W.heap.size T (.slice A T.length c) (W.heap.size + 1) W1 pos ([] ++ [.mk 0 noText []]) [W.heap.size] by
  have g0 : W1.heap[W.heap.size]? = some (.cells #[.int .i64 0, .string ⟨#[]⟩, .slice none 0 0] 53 (0, 0)) := by
   rw [← hW1]
   exact blk_drew (blk_alloc (blk_new W _) _)
  have g1 : W1.heap[W.heap.size + 1]? = some (.cells #[.slice A T.length c, .int .i64 (pos : Int), .slice (some ⟨W.heap.size, 0, none⟩) 1 1] 76 (0, 0)) := by
   rw [← hW1]
   refine blk_drew ?_
   have := blk_new (W.alloc (Obj.cells #[Value.int IntKind.i64 0, Value.string { data := #[] }, Value.slice none 0 0] 53)) (Obj.cells #[Value.slice A T.length c, Value.int IntKind.i64 ↑pos, Value.slice (some { block := W.heap.size, off := 0 }) 1 1] 76)
   rw [World.size_alloc] at this
   exact this
  obtain ⟨Wt, t1, t2, t3⟩ := H0.out.tok
  have hge := H0.out.ge
  have hlt : pb < W.heap.size := by
   obtain ⟨_, h1, _⟩ := H0.out.obj
   exact (Array.getElem?_eq_some_iff.1 h1).1
  exact ⟨⟨_, g1, TR_one (Nat.le_refl _) g0 TC_leaf⟩, by simp, by simp, by omega, Wt, by omega, t2, t3.trans (HB1.out.mono (by omega))⟩)
 rw [hW1]
 clear hW1 o0 o1
 go_wp2_with fail
 refine (bump_calls hT hp HQ.out (by simp)).mono ?_
 rintro e W2 ⟨rfl, F2, h2, f2⟩
 have H2 := ak (And.intro h2 (show Below W.heap.size W W2 from HB1.out.trans (f2.below (by omega) (by simp) HB1.out.size)))
 clear h2 f2
 go_wp2_with fail
 go_ret
 exact ⟨_, rfl, H2.out.2, _, F2, H2.out.1⟩
end Go.Proofs.YtkijamagbgigmaaGreatDoor.Par
namespace Go.Proofs.YtkijamagbgigmaaGreatDoor.Par
open Go.RowKit
variable {tp te B : Nat} {T : List Tok} {tv : Value} {pb : Nat} {W : World} {pos : Nat} {stk : List Tree} {F : List Nat}
theorem PS.tokBelow (h : PS tp te B T tv pb W pos stk F) {W' : World} {G G' : List Nat} (f : Fr pb G G' W W') (hG : ∀ g ∈ G, B ≤ g) : ∃ Wt : World, Wt.heap.size ≤ B ∧ (TokOk Wt T tv ∧ Spc Wt) ∧ Below Wt.heap.size Wt W' := by
 obtain ⟨Wt, t1, t2, t3⟩ := h.tok
 obtain ⟨sv, h1, _⟩ := h.obj
 have hlt := (Array.getElem?_eq_some_iff.1 h1).1
 have := h.ge
 exact ⟨Wt, t1, t2, t3.trans ((f.below h.ge hG (by omega)).mono t1)⟩
theorem PS.push_mem {W1 : World} {sv v1 : Value} {cs c : List Value} {Fs Ft : List Nat} {t : Tree}
  (h : PS tp te B T tv pb W pos stk (own1 sv ++ Fs)) (hpb : W.heap[pb]? = some (.cells #[tv, .int .i64 (pos : Int), sv] tp (0, 0))) (hcs : TL W B te stk cs Fs)
  (ht : TC W B te t c Ft) (hN : ((own1 sv ++ Fs) ++ Ft).Nodup) (hpt : pb ∉ Ft)
  (hv : W1.ownsRow B te 3 v1 (stk.length + 1) (cs ++ c)) (hat : v1.ownBlock = sv.ownBlock ∨ ∃ b, v1.ownBlock = some b ∧ W.heap.size ≤ b)
  (ho1 : W1.os = W.os) (ho2 : W1.tape = W.tape) (ho3 : W1.output = W.output) (hsz : W.heap.size ≤ W1.heap.size) (hkp : ∀ g, g < W.heap.size → some g ≠ sv.ownBlock → W1.heap[g]? = W.heap[g]?) :
  ∃ F', PS tp te B T tv pb (W1.setCell ⟨pb, 2, none⟩ v1) pos (stk ++ [t]) F' ∧ Fr pb ((own1 sv ++ Fs) ++ Ft) F' W (W1.setCell ⟨pb, 2, none⟩ v1) := by
 have nd := nodup_app.1 hN
 have nF := nodup_app.1 nd.1
 have bF : ∀ g ∈ own1 sv ++ Fs, B ≤ g ∧ g < W.heap.size := h.rowsGe
 have bT : ∀ g ∈ Ft, B ≤ g ∧ g < W.heap.size := fun g hg => ⟨(TC_bound t c Ft ht g hg).1, (TC_bound t c Ft ht g hg).2.1⟩
 have hpbs : pb < W.heap.size := (Array.getElem?_eq_some_iff.1 hpb).1
 have hpF := h.pbF
 have hpsv : some pb ≠ sv.ownBlock := fun e => hpF (List.mem_append_left _ (own1_mem.2 e.symm))
 have hv1 : ∀ g ∈ own1 v1, g ∈ own1 sv ∨ W.heap.size ≤ g := by
  intro g hg
  rcases hat with e | ⟨b, e, hb⟩
  ·left
   rw [own1_mem] at hg ⊢
   rw [← e]
   exact hg
  ·right
   rw [own1_mem, e] at hg
   injection hg with hg
   omega
 have hpv1 : pb ∉ own1 v1 := fun hh => by
  rcases hv1 pb hh with h1 | h1
  ·exact hpF (List.mem_append_left _ h1)
  ·omega
 have hset : ∀ g, g ≠ pb → (W1.setCell ⟨pb, 2, none⟩ v1).heap[g]? = W1.heap[g]? := fun g hg => Below.heap_setCell W1 ⟨pb, 2, none⟩ v1 g hg
 have hkeep : ∀ g, g < W.heap.size → some g ≠ sv.ownBlock → g ≠ pb → (W1.setCell ⟨pb, 2, none⟩ v1).heap[g]? = W.heap[g]? := fun g h1 h2 h3 => (hset g h3).trans (hkp g h1 h2)
 have kS : ∀ g ∈ Fs, (W1.setCell ⟨pb, 2, none⟩ v1).heap[g]? = W.heap[g]? := fun g hg => hkeep g (bF g (List.mem_append_right _ hg)).2 (fun e => nF.2.2 g (own1_mem.2 e.symm) hg) (fun e => hpF (List.mem_append_right _ (e ▸ hg)))
 have kT : ∀ g ∈ Ft, (W1.setCell ⟨pb, 2, none⟩ v1).heap[g]? = W.heap[g]? := fun g hg => hkeep g (bT g hg).2 (fun e => nd.2.2 g (List.mem_append_left _ (own1_mem.2 e.symm)) hg) (fun e => hpt (e ▸ hg))
 have hmem : ∀ g ∈ own1 v1 ++ (Fs ++ Ft), g ∈ (own1 sv ++ Fs) ++ Ft ∨ W.heap.size ≤ g := by
  intro g hg
  rcases List.mem_append.1 hg with hg | hg
  ·rcases hv1 g hg with h1 | h1
   ·exact .inl (List.mem_append_left _ (List.mem_append_left _ h1))
   ·exact .inr h1
  ·rcases List.mem_append.1 hg with hg | hg
   ·exact .inl (List.mem_append_left _ (List.mem_append_right _ hg))
   ·exact .inl (List.mem_append_right _ hg)
 have hfr : Fr pb ((own1 sv ++ Fs) ++ Ft) (own1 v1 ++ (Fs ++ Ft)) W (W1.setCell ⟨pb, 2, none⟩ v1) :=
  ⟨ho1, ho2, ho3, by simpa [World.setCell] using hsz, fun g h1 h2 h3 => hkeep g h1 (fun e => h3 (List.mem_append_left _ (List.mem_append_left _ (own1_mem.2 e.symm)))) h2, hmem⟩
 refine ⟨_, ⟨⟨v1, ?_, ⟨cs ++ c, Fs ++ Ft, ?_, rfl, TL_append stk [t] cs c Fs Ft (TL_kept stk cs Fs hcs kS) (TL_one (TC_kept t c Ft ht kT))⟩⟩, ?_, ?_, h.ge, h.tokBelow hfr ?_⟩, hfr⟩
 ·have hb : W1.heap[pb]? = some (.cells #[tv, .int .i64 (pos : Int), sv] tp (0, 0)) := (hkp pb hpbs hpsv).trans hpb
  simp [World.setCell, Array.getElem?_modify, hb]
 ·rw [List.length_append, List.length_singleton]
  exact own_kept hv (fun g hg => hset g (fun e => hpv1 (e ▸ hg)))
 ·rw [nodup_app, nodup_app]
  refine ⟨own1_nodup _, ⟨nF.2.1, nd.2.1, fun x hx hx2 => nd.2.2 x (List.mem_append_right _ hx) hx2⟩, fun x hx hx2 => ?_⟩
  have hlt : x < W.heap.size := by
   rcases List.mem_append.1 hx2 with hh | hh
   ·exact (bF x (List.mem_append_right _ hh)).2
   ·exact (bT x hh).2
  rcases hv1 x hx with h1 | h1
  ·rcases List.mem_append.1 hx2 with hh | hh
   ·exact nF.2.2 x h1 hh
   ·exact nd.2.2 x (List.mem_append_left _ h1) hh
  ·omega
 ·intro hh
  rcases hmem pb hh with h1 | h1
  ·rcases List.mem_append.1 h1 with h1 | h1
   ·exact hpF h1
   ·exact hpt h1
  ·omega
 ·intro g hg
  rcases List.mem_append.1 hg with hg | hg
  ·exact (bF g hg).1
  ·exact (bT g hg).1
theorem TC_cells {W : World} {B e : Nat} {t : Tree} {c : List Value} {F : List Nat} (h : TC W B e t c F) : ∃ hv, c = [.int .i64 t.kind, .string t.text, hv] ∧ TR W B e t.kids hv F := by
 cases t
 exact TC_mk.1 h
theorem own_init {W : World} {B e n cap g : Nat} {xs ys : List Value} (h : W.ownsRow B e 3 (.slice (some ⟨g, 0, none⟩) (n + 1) cap) (n + 1) (xs ++ ys)) (hx : xs.length = n * 3) : W.ownsRow B e 3 (.slice (some ⟨g, 0, none⟩) n cap) n xs := by
 refine ⟨hx, ?_⟩
 rcases h.2 with ⟨h0, _⟩ | ⟨g', cap', cur, he, h2, h3, h4, h5, h6, h7⟩
 ·cases h0
 ·simp only [Value.slice.injEq, Option.some.injEq, Addr.mk.injEq, and_true] at he
  obtain ⟨rfl, _, rfl⟩ := he
  refine .inr ⟨g, cap, cur, rfl, h2, h3, by omega, h5, h6, ?_⟩
  have e2 : (cur.toList.take ((n + 1) * 3)).take (n * 3) = cur.toList.take (n * 3) := by rw [List.take_take, Nat.min_eq_left (by omega)]
  have e3 : (xs ++ ys).take (n * 3) = xs := by
   rw [List.take_append_of_le_length (by omega)]
   exact List.take_of_length_le (by omega)
  rw [← e2, h7, e3]
theorem PS.pop {t : Tree} (h : PS tp te B T tv pb W pos (stk ++ [t]) F) :
  ∃ sb scap hv F1 Ft, W.heap[pb]? = some (.cells #[tv, .int .i64 (pos : Int), .slice (some ⟨sb, 0, none⟩) (stk.length + 1) scap] tp (0, 0)) ∧ stk.length + 1 ≤ scap ∧ sb ≠ pb ∧
   W.cell? ⟨sb, stk.length * 3, none⟩ = some (.int .i64 t.kind) ∧ W.cell? ⟨sb, stk.length * 3 + 1, none⟩ = some (.string t.text) ∧ W.cell? ⟨sb, stk.length * 3 + 2, none⟩ = some hv ∧ F = F1 ++ Ft ∧
   (∀ W' : World, W'.os = W.os → W'.tape = W.tape → W'.output = W.output → W.heap.size ≤ W'.heap.size → (∀ g, g < W.heap.size → g ≠ pb → W'.heap[g]? = W.heap[g]?) → W'.heap[pb]? = some (.cells #[tv, .int .i64 (pos : Int), .slice (some ⟨sb, 0, none⟩) stk.length scap] tp (0, 0)) →
    PS tp te B T tv pb W' pos stk F1 ∧ TR W' B te t.kids hv Ft ∧ Fr pb F F1 W W') := by
 obtain ⟨sv, h1, cs0, Fs0, h2, h3, h4⟩ := h.obj
 obtain ⟨c1, c2, F1, F2, rfl, rfl, k3, k4⟩ := TL_last h4
 obtain ⟨hv, rfl, k5⟩ := TC_cells k4
 rw [List.length_append, List.length_singleton] at h2
 obtain ⟨sb, scap, rfl, n1, n2, n3, n4, n5, n6⟩ := own_new h2
 have hl1 := TL_len stk c1 F1 k3
 have hcap : stk.length + 1 ≤ scap := by
  rcases h2.2 with ⟨h0, _⟩ | ⟨g', cap', cur, he, q2, q3, q4, _⟩
  ·cases h0
  ·simp only [Value.slice.injEq, Option.some.injEq, Addr.mk.injEq, and_true] at he
   obtain ⟨_, _, rfl⟩ := he
   exact q4
 have hO : own1 (Value.slice (some ⟨sb, 0, none⟩) (stk.length + 1) scap) = [sb] := by simp [own1, Value.ownBlock]
 have hO2 : own1 (Value.slice (some ⟨sb, 0, none⟩) stk.length scap) = [sb] := by simp [own1, Value.ownBlock]
 rw [hO] at h3
 have hbd := h.rowsGe
 have hnd := h.nd
 have hpF := h.pbF
 have hsp : sb ≠ pb := fun e => hpF (by rw [h3, e]; exact List.mem_cons_self)
 refine ⟨sb, scap, hv, [sb] ++ F1, F2, h1, hcap, hsp, n3, n4, n5, by rw [h3, List.append_assoc], fun W' e1 e2 e3 e4 e5 e6 => ?_⟩
 subst h3
 have kk : ∀ g ∈ [sb] ++ (F1 ++ F2), W'.heap[g]? = W.heap[g]? := fun g hg => e5 g (hbd g hg).2 (fun e => hpF (e ▸ hg))
 have hfr : Fr pb ([sb] ++ (F1 ++ F2)) ([sb] ++ F1) W W' := ⟨e1, e2, e3, e4, fun g g1 g2 _ => e5 g g1 g2, fun g hg => .inl (by
  rcases List.mem_append.1 hg with hg | hg
  ·exact List.mem_append_left _ hg
  ·exact List.mem_append_right _ (List.mem_append_left _ hg))⟩
 rw [← List.append_assoc] at hnd
 refine ⟨⟨⟨_, e6, c1, F1, own_kept (own_init h2 hl1) (fun g hg => kk g (by rw [hO2] at hg; exact List.mem_append_left _ hg)), by rw [hO2], TL_kept stk c1 F1 k3 (fun g hg => kk g (List.mem_append_right _ (List.mem_append_left _ hg)))⟩, (nodup_app.1 hnd).1, fun hh => hpF ?_, h.ge, h.tokBelow hfr (fun g hg => (hbd g hg).1)⟩, TR_kept k5 (fun g hg => kk g (List.mem_append_right _ (List.mem_append_right _ hg))), hfr⟩
 rcases List.mem_append.1 hh with hg | hg
 ·exact List.mem_append_left _ hg
 ·exact List.mem_append_right _ (List.mem_append_left _ hg)
end Go.Proofs.YtkijamagbgigmaaGreatDoor.Par
namespace Go.Proofs.YtkijamagbgigmaaGreatDoor.Par
open Go.RowKit Go.Proofs.YtkijamagbgigmaaGreatDoorW.PrintWords Go.Proofs.YtkijamagbgigmaaGreatDoorW.PrintLast
variable {B : Nat} {T : List Tok} {tv : Value} {pb : Nat} {W : World} {pos : Nat} {low : List Tree} {kd : Int} {tx : ByteArray} {ks : List Tree} {F : List Nat}
theorem finish_calls (t : Tree) (h : PS 76 53 B T tv pb W pos ((low ++ [.mk kd tx ks]) ++ [t]) F) (hsm : low.length + ks.length ≤ 1000000000) :
  Calls Tryz.prog 99 #[.pointer (some ⟨pb, 0, none⟩)] W fun e W' => e = .returned (.tuple #[]) ∧ ∃ F', PS 76 53 B T tv pb W' pos (low ++ [.mk kd tx (ks ++ [t])]) F' ∧ Fr pb F F' W W' := by
 obtain ⟨sb, scap, hv, F1, Ft, h1, h2, h3, h4, h5, h6, rfl, h7⟩ := h.pop
 have hND := ak (And.intro h.nd (fun hh => h.pbF (List.mem_append_right F1 hh) : pb ∉ Ft))
 have hu53 := Tryz.underlying53
 obtain ⟨n, hn⟩ : ∃ n, Hid ((low ++ [Tree.mk kd tx ks]).length = n) := ⟨_, rfl⟩
 have hn1 : 1 ≤ n := by
  rw [← show (low ++ [Tree.mk kd tx ks]).length = n from hn, List.length_append, List.length_singleton]
  omega
 have hn2 : n ≤ 1000000001 := by
  rw [← show (low ++ [Tree.mk kd tx ks]).length = n from hn, List.length_append, List.length_singleton]
  omega
 rw [show (low ++ [Tree.mk kd tx ks]).length = n from hn] at h1 h2 h4 h5 h6 h7
 have o2 : W.cell? ⟨pb, 2, none⟩ = some (.slice (some ⟨sb, 0, none⟩) (n + 1) scap) := (blk_cell h1 2).trans rfl
 have o3 := blk_frozen h1 2
 have HP := ak h7
 have H1 := ak h1
 have hpl : pb < W.heap.size := blk_lt h1
 have hA : ∃ A c, hv = .slice A t.kids.length c := by
  obtain ⟨_, _, g, _⟩ := (h7 (W.setCell ⟨pb, 2, none⟩ (.slice (some ⟨sb, 0, none⟩) n scap)) rfl rfl rfl (by simp [World.setCell]) (fun g hg hne => Below.heap_setCell W ⟨pb, 2, none⟩ _ g hne) (blk_put h1 2 _ rfl)).2.1
  exact own_slice g
 obtain ⟨hvA, hvc, rfl⟩ := hA
 have z0 : (0 : Int) ≤ (n : Int) := by omega
 have z1 : (n : Int) < ((n + 1 : Nat) : Int) := by omega
 have z2 : (n : Int) < (n : Int) + 1 := by omega
 have z3 : (n : Int) ≤ (scap : Int) := by omega
 have hl1 : IntKind.i64.wrap ((n : Int) + 1 - 1) = (n : Int) := by rw [IntKind.wrap_i64]; omega
 have hl2 : IntKind.i64.wrap (((n + 1 : Nat) : Int) - 1) = (n : Int) := by rw [IntKind.wrap_i64]; omega
 have hl3 : IntKind.i64.wrap (n : Int) = (n : Int) := by rw [IntKind.wrap_i64]; omega
 clear h h1 h7
 go_enter Tryz.func99, Tryz.ntmps99
 go_wp2_with fail
 obtain ⟨g1, g2, g3⟩ := HP.out ((W.setCell ⟨pb, 2, none⟩ (.slice (some ⟨sb, 0, none⟩) n scap)).alloc (Obj.cells #[Value.int IntKind.i64 t.kind, Value.string t.text, Value.slice hvA t.kids.length hvc] 53)) rfl rfl rfl (by rw [World.size_alloc]; simp [World.setCell])
  (fun g hg hne => by
   rw [heap_alloc_old _ _ (by simpa [World.setCell] using hg)]
   exact Below.heap_setCell W ⟨pb, 2, none⟩ _ g hne) (blk_alloc (blk_put H1.out 2 _ rfl) _)
 have G3 := ak g3
 clear g3
 refine (add_calls t g1 g2 hND.out.1 hND.out.2 hsm).mono ?_
 rintro e W3 ⟨rfl, F3, h3, f3⟩
 have H3 := ak (And.intro h3 f3)
 clear h3 f3 g1 g2
 go_wp2_with fail
 go_end0
 refine ⟨rfl, F3, H3.out.1, ?_⟩
 have f1 := G3.out
 have f2 := H3.out.2
 refine ⟨f2.os.trans f1.os, f2.tape.trans f1.tape, f2.output.trans f1.output, Nat.le_trans f1.size f2.size, fun g k1 k2 k3 => ?_, fun g hg => ?_⟩
 ·rw [f2.kept g (Nat.lt_of_lt_of_le k1 f1.size) k2 k3]
  exact f1.kept g k1 k2 k3
 ·rcases f2.rows g hg with k | k
  ·exact .inl k
  ·exact .inr (Nat.le_trans f1.size k)
theorem node_calls (kind : Int) (fid : Nat) (bound free : Array Value) (s' : St) (h : PS 76 53 B T tv pb W pos (low ++ [.mk kd tx ks]) F) (hsm : low.length + ks.length ≤ 1000000000) (hen : ∀ args w, (callFunc fid args).run Tryz.prog w = .ok (.enter fid args) w)
  (hf : ∀ W1 F1, PS 76 53 B T tv pb W1 pos ((low ++ [.mk kd tx ks]) ++ [.mk kind noText []]) F1 → Fr pb F F1 W W1 →
   Calls Tryz.prog fid (bound ++ free) W1 fun e W' => (∃ v, e = .returned v) ∧ ∃ F', PS 76 53 B T tv pb W' s'.1 ((low ++ [.mk kd tx ks]) ++ [.mk kind noText s'.2]) F' ∧ Fr pb F1 F' W1 W') :
  Calls Tryz.prog 56 #[.pointer (some ⟨pb, 0, none⟩), .int .i64 kind, .func (.func fid) bound free] W (Post B T tv pb W low kd tx F (.tuple #[]) (s'.1, ks ++ [.mk kind noText s'.2])) := by
 obtain ⟨sv, p1, cs, Fs, p2, rfl, p3⟩ := h.obj
 obtain ⟨sA, scap, rfl⟩ := own_slice p2
 obtain ⟨n, hn⟩ : ∃ n, Hid ((low ++ [Tree.mk kd tx ks]).length = n) := ⟨_, rfl⟩
 have hn2 : n ≤ 1000000001 := by
  rw [← show (low ++ [Tree.mk kd tx ks]).length = n from hn, List.length_append, List.length_singleton]
  omega
 rw [show (low ++ [Tree.mk kd tx ks]).length = n from hn] at p1 p2 h hf ⊢
 have HF := ak hf
 have H0 := ak h
 have o2 : W.cell? ⟨pb, 2, none⟩ = some (.slice sA n scap) := (blk_cell p1 2).trans rfl
 have o3 := blk_frozen p1 2
 have hpl : pb < W.heap.size := blk_lt p1
 have HP := ak (And.intro p1 (And.intro p2 p3))
 have HNN := ak (show (low ++ [Tree.mk kd tx ks]).length = n from hn)
 clear h hf p1 p2 p3 hn
 go_enter Tryz.func56, Tryz.ntmps56
 go_wp2_with fail
 have HBA := ak (show Below W.heap.size W W.drew from (Below.refl _ _).drew)
 have HPd := ak (show PS 76 53 B T tv pb W.drew pos (low ++ [.mk kd tx ks]) (own1 (Value.slice sA n scap) ++ Fs) from H0.out.below HBA.out)
 have HOW := ak (show W.drew.ownsRow B 53 3 (.slice sA n scap) n cs from own_kept HP.out.2.1 (fun _ _ => rfl))
 have HTL := ak (show TL W.drew B 53 (low ++ [.mk kd tx ks]) cs Fs from TL_kept _ cs Fs HP.out.2.2 (fun _ _ => rfl))
 have HPB := ak (show W.drew.heap[pb]? = some (.cells #[tv, .int .i64 (pos : Int), .slice sA n scap] 76 (0, 0)) from HP.out.1)
 have hBW : B ≤ W.drew.heap.size := by
  have := H0.out.ge
  show B ≤ W.heap.size
  omega
 have hpsv : some pb ≠ (Value.slice sA n scap).ownBlock := fun e => H0.out.pbF (List.mem_append_left _ (own1_mem.2 e.symm))
 have HNE := ak hpsv
 clear hpsv
 have HO3 := ak o3
 have o2d : W.drew.cell? ⟨pb, 2, none⟩ = some (.slice sA n scap) := o2
 refine wp_region_last_drew (ds := [13]) (S := (fun w' => w'.cell? ⟨pb, 2, none⟩ = some (.slice sA n scap))) (by kernel_rfl) o2 (fun hS => ?_)
 refine wpAnyLast_take (i := 0) (v := .pointer (some ⟨pb, 0, none⟩)) rfl (by kernel_rfl) (by kernel_rfl) (by kernel_rfl) (by kernel_rfl) (by kernel_rfl) (fun _ _ _ h => h) (Or.inl ⟨by rfl, by intro w' z1; go_simp⟩) hS ?_
 simp only [Act.put, sia, List.set]
 refine wpAnyLast_take (i := 1) (v := .pointer (some ⟨pb, 0, none⟩)) rfl (by kernel_rfl) (by kernel_rfl) (by kernel_rfl) (by kernel_rfl) (by kernel_rfl) (fun _ _ _ h => h) (Or.inl ⟨by rfl, by intro w' z1; go_simp⟩) hS ?_
 simp only [Act.put, sia, List.set]
 refine wpAnyLast_take (i := 2) (v := .pointer (some ⟨pb, 2, none⟩)) rfl (by kernel_rfl) (by kernel_rfl) (by kernel_rfl) (by kernel_rfl) (by kernel_rfl) (fun _ _ _ h => h) (Or.inl ⟨by rfl, by intro w' z1; go_simp⟩) hS ?_
 simp only [Act.put, sia, List.set]
 refine wpAnyLast_take (i := 3) (v := .slice sA n scap) rfl (by kernel_rfl) (by kernel_rfl) (by kernel_rfl) (by kernel_rfl) (by kernel_rfl) (fun _ _ _ h => h) (Or.inl ⟨by rfl, by intro w' z1; go_simp⟩) hS ?_
 simp only [Act.put, sia, List.set]
 refine wpAnyLast_take (i := 4) (v := .int .i64 kind) rfl (by kernel_rfl) (by kernel_rfl) (by kernel_rfl) (by kernel_rfl) (by kernel_rfl) (fun _ _ _ h => h) (Or.inl ⟨by rfl, by intro w' z1; go_simp⟩) hS ?_
 simp only [Act.put, sia, List.set]
 refine wpAnyLast_take (i := 5) (v := .agg #[.int .i64 kind, .string ⟨#[]⟩, .slice none 0 0]) rfl (by kernel_rfl) (by kernel_rfl) (by kernel_rfl) (by kernel_rfl) (by kernel_rfl) (fun _ _ _ h => h) (Or.inl ⟨by rfl, by intro w' z1; go_simp⟩) hS ?_
 simp only [Act.put, sia, List.set]
 refine wpAnyLast_take (i := 6) (v := .int .i64 (n : Int)) rfl (by kernel_rfl) (by kernel_rfl) (by kernel_rfl) (by kernel_rfl) (by kernel_rfl) (fun _ _ _ h => h) (Or.inl ⟨by rfl, by intro w' z1; go_simp⟩) hS ?_
 simp only [Act.put, sia, List.set]
 refine wpAnyLast_ready (rs := [7]) (by kernel_rfl) (by simp) (AllReadyL.cons rfl (by simp) (fun K hK => ?_) AllReadyL.nil)
 go_simp
 refine hK.out _ _ (by go_keep) (fun hS => ?_)
 clear hK
 try simp only [Act.put, sia, List.set]
 refine wpAnyLast_ready (rs := [8]) (by kernel_rfl) (by simp) (AllReadyL.cons rfl (by simp) (fun K hK => ?_) AllReadyL.nil)
 refine step_append_cells (w0 := W.drew) (W := W.drew) B (by rfl) (.tmp 9) (.tmp 13) 51 53 (.agg #[.int .i64 0, .string ⟨#[]⟩, .slice none 0 0]) 3 48 (by rfl) Tryz.underlying51 infoT rfl (by decide) (by decide) (.slice sA n scap) n cs [.int .i64 0, .string ⟨#[]⟩, .slice none 0 0] rfl rfl rfl (by intro u hu; simp only [List.mem_cons, List.not_mem_nil, or_false] at hu; rcases hu with rfl | rfl | rfl <;> rfl) HOW.out (Below.refl _ _) hBW (by omega) ?_
 intro v1 w1 hown hb hg hat
 obtain ⟨g1, cap1, rfl, a1, a2, a3, a4, a5, a6⟩ := own_new hown
 have r0 : w1.cell? ⟨pb, 2, none⟩ = some (.slice sA n scap) := (World.cell?_of_block (hg.block pb hpl HNE.out)).trans o2
 have r4 : w1.frozen? ⟨pb, 2, none⟩ = false := (World.frozen?_of_block (hg.block pb hpl HNE.out)).trans HO3.out
 have hgs := new_ne hat HNE.out hpl
 have hgp : pb ≠ g1 := fun e => hgs e.symm
 have a4' : ((w1.setCell ⟨g1, n * 3, none⟩ (.int .i64 kind)).setCell ⟨g1, n * 3 + 1, none⟩ (.string ⟨#[]⟩)).cell? ⟨g1, n * 3 + 2, none⟩ = some (.slice none 0 0) := (by rw [World.cell?_setCell_other _ _ _ _ (by intro e; injection e; omega), World.cell?_setCell_other _ _ _ _ (by intro e; injection e; omega)]; exact a5)
 have HFin := ak (show ∃ F', PS 76 53 B T tv pb ((((w1.setCell ⟨g1, n * 3, none⟩ (.int .i64 kind)).setCell ⟨g1, n * 3 + 1, none⟩ (.string ⟨#[]⟩)).setCell ⟨g1, n * 3 + 2, none⟩ (.slice none 0 0)).setCell ⟨pb, 2, none⟩ (.slice (some ⟨g1, 0, none⟩) (n + 1) cap1)) pos ((low ++ [.mk kd tx ks]) ++ [.mk kind noText []]) F' ∧ Fr pb (own1 (Value.slice sA n scap) ++ Fs) F' W ((((w1.setCell ⟨g1, n * 3, none⟩ (.int .i64 kind)).setCell ⟨g1, n * 3 + 1, none⟩ (.string ⟨#[]⟩)).setCell ⟨g1, n * 3 + 2, none⟩ (.slice none 0 0)).setCell ⟨pb, 2, none⟩ (.slice (some ⟨g1, 0, none⟩) (n + 1) cap1)) by
  obtain ⟨F', f1, f2⟩ := PS.push_mem (t := .mk kind noText []) (W1 := (((w1.setCell ⟨g1, n * 3, none⟩ (.int .i64 kind)).setCell ⟨g1, n * 3 + 1, none⟩ (.string ⟨#[]⟩)).setCell ⟨g1, n * 3 + 2, none⟩ (.slice none 0 0))) (v1 := .slice (some ⟨g1, 0, none⟩) (n + 1) cap1) (c := [.int .i64 kind, .string ⟨#[]⟩, .slice none 0 0]) HPd.out HPB.out HTL.out TC_leaf (by rw [List.append_nil]; exact HPd.out.nd) (by simp) (by rw [HNN.out]; exact own_put3 (x := .int .i64 kind) (y := .string ⟨#[]⟩) (z := .slice none 0 0) hown (by rw [TL_len _ cs Fs HTL.out, HNN.out])) hat hg.os hg.tape hg.output (by have := hg.size; simpa [World.setCell] using this) (fun g h1 h2 => by
   have hgg := new_ne hat h2 h1
   rw [Below.heap_setCell _ _ _ g (Ne.symm hgg), Below.heap_setCell _ _ _ g (Ne.symm hgg), Below.heap_setCell _ _ _ g (Ne.symm hgg)]
   exact hg.block g h1 h2)
  rw [List.append_nil] at f2
  exact ⟨F', f1, (Fr.of_below HBA.out).trans f2⟩)
 clear hown hb hg hat
 have j0 : (0 : Int) ≤ (n : Int) := by omega
 have j1 : (n : Int) < ((n + 1 : Nat) : Int) := by omega
 have j2 : (n : Int) < (n : Int) + 1 := by omega
 refine hK.out _ _ r0 (fun hS => ?_)
 clear hK
 try simp only [Act.put, sia, List.set]
 refine pure_ (i := 9) (v := .pointer (some ⟨g1, n * 3, none⟩)) #[true, true, true, true, true, true, true, true, true, true, false, false, false, false] rfl rfl (by kernel_rfl) (fun _ _ _ h => h) (Or.inl ⟨by rfl, by intro w'; go_simp⟩) rfl ?_
 simp only [Act.put, sia, List.set]
 refine pure_ (i := 11) (v := .pointer (some ⟨pb, 0, none⟩)) #[true, true, true, true, true, true, true, true, true, true, false, true, false, false] rfl rfl (by kernel_rfl) (fun _ _ _ h => h) (Or.inl ⟨by rfl, by intro w'; go_simp⟩) rfl ?_
 simp only [Act.put, sia, List.set]
 refine pure_ (i := 12) (v := .pointer (some ⟨pb, 2, none⟩)) #[true, true, true, true, true, true, true, true, true, true, false, true, true, false] rfl rfl (by kernel_rfl) (fun _ _ _ h => h) (Or.inl ⟨by rfl, by intro w'; go_simp⟩) rfl ?_
 simp only [Act.put, sia, List.set]
 refine wpAnyLast_ready (rs := [10, 13]) (by kernel_rfl) (by simp) (AllReadyL.cons rfl (by simp) (fun K hK => ?_) (AllReadyL.cons_last rfl (by simp) (fun K hK => ?_) AllReadyL.nil))
 ·go_simp
  refine hK.out _ _ (by go_keep) (fun hS => ?_)
  clear hK
  try simp only [Act.put, sia, List.set]
  refine wpAnyLast_ready (rs := [13]) (by kernel_rfl) (by simp) (AllReadyL.cons_last rfl (by simp) (fun K hK => ?_) AllReadyL.nil)
  go_simp
  refine hK.out _ _ ?_
  refine wpAnyLast_done (by kernel_rfl) ?_ _
  clear hK hS
  obtain ⟨F2, h2, f2⟩ := HFin.out
  refine ‹∀ (a : Act) (w : World), (Code.seq _ _).wp _ _ a w → _› _ _ ?_
  generalize (((w1.setCell ⟨g1, n * 3, none⟩ (.int .i64 kind)).setCell ⟨g1, n * 3 + 1, none⟩ (.string ⟨#[]⟩)).setCell ⟨g1, n * 3 + 2, none⟩ (.slice none 0 0)).setCell ⟨pb, 2, none⟩ (.slice (some ⟨g1, 0, none⟩) (n + 1) cap1) = W2 at h2 f2 ⊢
  have H2 := ak (And.intro h2 f2)
  clear h2 f2 r0 r4 a1 a2 a3 a4 a5 a6 a4' hgs hgp o2 o3 o2d HFin
  go_wp2_with fail
  refine (HF.out W2 F2 H2.out.1 H2.out.2).mono ?_
  rintro e W3 ⟨⟨v, rfl⟩, F3, h3, f3⟩
  have H3 := ak (And.intro h3 (H2.out.2.trans f3))
  clear h3 f3 H2
  go_wp2_with fail
  refine (finish_calls (.mk kind noText s'.2) H3.out.1 hsm).mono ?_
  rintro e W4 ⟨rfl, F4, h4, f4⟩
  have H4 := ak (And.intro h4 (H3.out.2.trans f4))
  clear h4 f4 H3
  go_wp2_with fail
  go_end0
  exact ⟨rfl, F4, H4.out⟩
 ·go_simp
  refine hK.out _ _ ?_
  clear hK
  try simp only [Act.put, sia, List.set]
  refine wpAnyLast_ready (rs := [10]) (by kernel_rfl) (by simp) (cons_if rfl (fun K hK => ?_) AllReadyL.nil)
  go_simp
  refine hK.out _ _ (by intro z1; go_keep) ?_
  refine wpAnyLast_done (by kernel_rfl) ?_ _
  clear hK
  rw [setCell_comm3 w1 g1 pb _ _ _ _ _ _ _ _ hgs]
  obtain ⟨F2, h2, f2⟩ := HFin.out
  refine ‹∀ (a : Act) (w : World), (Code.seq _ _).wp _ _ a w → _› _ _ ?_
  generalize (((w1.setCell ⟨g1, n * 3, none⟩ (.int .i64 kind)).setCell ⟨g1, n * 3 + 1, none⟩ (.string ⟨#[]⟩)).setCell ⟨g1, n * 3 + 2, none⟩ (.slice none 0 0)).setCell ⟨pb, 2, none⟩ (.slice (some ⟨g1, 0, none⟩) (n + 1) cap1) = W2 at h2 f2 ⊢
  have H2 := ak (And.intro h2 f2)
  clear h2 f2 r0 r4 a1 a2 a3 a4 a5 a6 a4' hgs hgp o2 o3 o2d HFin
  go_wp2_with fail
  refine (HF.out W2 F2 H2.out.1 H2.out.2).mono ?_
  rintro e W3 ⟨⟨v, rfl⟩, F3, h3, f3⟩
  have H3 := ak (And.intro h3 (H2.out.2.trans f3))
  clear h3 f3 H2
  go_wp2_with fail
  refine (finish_calls (.mk kind noText s'.2) H3.out.1 hsm).mono ?_
  rintro e W4 ⟨rfl, F4, h4, f4⟩
  have H4 := ak (And.intro h4 (H3.out.2.trans f4))
  clear h4 f4 H3
  go_wp2_with fail
  go_end0
  exact ⟨rfl, F4, H4.out⟩
end Go.Proofs.YtkijamagbgigmaaGreatDoor.Par
namespace Go.Proofs.YtkijamagbgigmaaGreatDoor.Par
open Go.RowKit Go.Proofs.YtkijamagbgigmaaGreatDoorW.PrintWords Go.Proofs.YtkijamagbgigmaaGreatDoorW.PrintLast
variable {tp te B : Nat} {T : List Tok} {tv : Value} {pb : Nat} {W : World} {pos : Nat} {low : List Tree} {kd : Int} {tx : ByteArray} {ks : List Tree} {F : List Nat}
theorem own_cap {W : World} {B e n cap g : Nat} {xs : List Value} (h : W.ownsRow B e 3 (.slice (some ⟨g, 0, none⟩) n cap) n xs) : n ≤ cap := by
 rcases h.2 with ⟨h0, _⟩ | ⟨g', cap', cur, he, h2, h3, h4, h5, h6, h7⟩
 ·cases h0
 ·simp only [Value.slice.injEq, Option.some.injEq, Addr.mk.injEq, and_true] at he
  obtain ⟨_, _, rfl⟩ := he
  exact h4
theorem PS.cutTop {t : Tree} (h : PS tp te B T tv pb W pos (low ++ [.mk kd tx (ks ++ [t])]) F) :
  ∃ sb scap kg kcap hv F0 Ft, W.heap[pb]? = some (.cells #[tv, .int .i64 (pos : Int), .slice (some ⟨sb, 0, none⟩) (low.length + 1) scap] tp (0, 0)) ∧ low.length + 1 ≤ scap ∧ ks.length + 1 ≤ kcap ∧
   (sb ≠ pb ∧ kg ≠ pb ∧ kg ≠ sb ∧ sb < W.heap.size ∧ kg < W.heap.size ∧ pb < W.heap.size) ∧ (∀ i, W.frozen? ⟨sb, i, none⟩ = false) ∧
   W.cell? ⟨sb, low.length * 3 + 2, none⟩ = some (.slice (some ⟨kg, 0, none⟩) (ks.length + 1) kcap) ∧
   (W.cell? ⟨kg, ks.length * 3, none⟩ = some (.int .i64 t.kind) ∧ W.cell? ⟨kg, ks.length * 3 + 1, none⟩ = some (.string t.text) ∧ W.cell? ⟨kg, ks.length * 3 + 2, none⟩ = some hv) ∧
   (∃ A c, hv = .slice A t.kids.length c) ∧ F = F0 ++ Ft ∧
   (∀ W' : World, W'.os = W.os → W'.tape = W.tape → W'.output = W.output → W.heap.size ≤ W'.heap.size → (∀ g, g < W.heap.size → g ≠ sb → W'.heap[g]? = W.heap[g]?) →
    W'.heap[sb]? = (W.setCell ⟨sb, low.length * 3 + 2, none⟩ (.slice (some ⟨kg, 0, none⟩) ks.length kcap)).heap[sb]? →
    PS tp te B T tv pb W' pos (low ++ [.mk kd tx ks]) F0 ∧ TR W' B te t.kids hv Ft ∧ Fr pb F F0 W W') := by
 obtain ⟨sb, scap, hd, c1, F1, cs, Fs, p1, p2, p3, p4, p5, rfl⟩ := h.top
 obtain ⟨ca, cb, Fa, Fb, rfl, rfl, k3, k4⟩ := TL_last p5
 obtain ⟨hv, rfl, k5⟩ := TC_cells k4
 rw [List.length_append, List.length_singleton] at p4
 obtain ⟨kg, kcap, rfl, n1, n2, n3, n4, n5, n6⟩ := own_new p4
 obtain ⟨_, _, e1, m1, m2, m3, m4, m5, m6⟩ := own_new p2
 simp only [Value.slice.injEq, Option.some.injEq, Addr.mk.injEq, and_true] at e1
 obtain ⟨rfl, _, rfl⟩ := e1
 have hc1 := TL_len low c1 F1 p3
 have hla := TL_len ks ca Fa k3
 have hO : own1 (Value.slice (some ⟨kg, 0, none⟩) (ks.length + 1) kcap) = [kg] := by simp [own1, Value.ownBlock]
 have hO2 : own1 (Value.slice (some ⟨kg, 0, none⟩) ks.length kcap) = [kg] := by simp [own1, Value.ownBlock]
 have hO3 : own1 (Value.slice (some ⟨sb, 0, none⟩) (low.length + 1) scap) = [sb] := by simp [own1, Value.ownBlock]
 rw [hO] at h
 have hbd := h.rowsGe
 have hnd := h.nd
 have hpF := h.pbF
 have hpl : pb < W.heap.size := blk_lt p1
 have msb : sb ∈ sb :: (F1 ++ ([kg] ++ (Fa ++ Fb))) := List.mem_cons_self
 have mkg : kg ∈ sb :: (F1 ++ ([kg] ++ (Fa ++ Fb))) := List.mem_cons_of_mem _ (List.mem_append_right _ (List.mem_append_left _ (by simp)))
 have nd1 := List.nodup_cons.1 hnd
 have hks : kg ≠ sb := fun e => nd1.1 (by rw [← e]; exact List.mem_append_right _ (List.mem_append_left _ (by simp)))
 refine ⟨sb, scap, kg, kcap, hv, sb :: (F1 ++ ([kg] ++ Fa)), Fb, p1, own_cap p2, own_cap p4, ⟨fun e => hpF (e ▸ msb), fun e => hpF (e ▸ mkg), hks, (hbd sb msb).2, (hbd kg mkg).2, hpl⟩, m6, m5, ⟨n3, n4, n5⟩, (by obtain ⟨_, _, q, _⟩ := k5; exact own_slice q), by rw [hO]; simp, fun W' e1 e2 e3 e4 e5 e6 => ?_⟩
 have hF : sb :: (F1 ++ ([kg] ++ (Fa ++ Fb))) = (sb :: (F1 ++ ([kg] ++ Fa))) ++ Fb := by simp
 rw [hO]
 have hsub : ∀ g ∈ sb :: (F1 ++ ([kg] ++ Fa)), g ∈ sb :: (F1 ++ ([kg] ++ (Fa ++ Fb))) := fun g hg => by rw [hF]; exact List.mem_append_left _ hg
 have hsubT : ∀ g ∈ Fb, g ∈ sb :: (F1 ++ ([kg] ++ (Fa ++ Fb))) := fun g hg => by rw [hF]; exact List.mem_append_right _ hg
 have kk : ∀ g ∈ F1 ++ ([kg] ++ (Fa ++ Fb)), W'.heap[g]? = W.heap[g]? := fun g hg => e5 g (hbd g (List.mem_cons_of_mem _ hg)).2 (fun e => nd1.1 (e ▸ hg))
 have hfr : Fr pb (sb :: (F1 ++ ([kg] ++ (Fa ++ Fb)))) (sb :: (F1 ++ ([kg] ++ Fa))) W W' := ⟨e1, e2, e3, e4, fun g g1 _ g3 => e5 g g1 (fun e => g3 (e ▸ msb)), fun g hg => .inl (hsub g hg)⟩
 have hset := own_set p2 (low.length * 3 + 2) (.slice (some ⟨kg, 0, none⟩) ks.length kcap)
 have hxs : (c1 ++ [Value.int .i64 kd, .string tx, .slice (some ⟨kg, 0, none⟩) (ks.length + 1) kcap]).set (low.length * 3 + 2) (.slice (some ⟨kg, 0, none⟩) ks.length kcap) = c1 ++ [.int .i64 kd, .string tx, .slice (some ⟨kg, 0, none⟩) ks.length kcap] := by
  rw [List.set_append, if_neg (by omega), hc1]
  congr 1
  have : low.length * 3 + 2 - low.length * 3 = 2 := by omega
  rw [this]
  rfl
 rw [hxs] at hset
 have hrow : W'.ownsRow B te 3 (.slice (some ⟨sb, 0, none⟩) (low.length + 1) scap) (low.length + 1) (c1 ++ [.int .i64 kd, .string tx, .slice (some ⟨kg, 0, none⟩) ks.length kcap]) := own_kept hset (fun g hg => by
  have : g = sb := by simpa [hO3] using hg
  subst this
  exact e6)
 have hnode : TR W' B te ks (.slice (some ⟨kg, 0, none⟩) ks.length kcap) ([kg] ++ Fa) := by
  refine ⟨ca, Fa, own_kept (own_init p4 hla) (fun g hg => kk g ?_), by rw [hO2], TL_kept ks ca Fa k3 (fun g hg => kk g (List.mem_append_right _ (List.mem_append_right _ (List.mem_append_left _ hg))))⟩
  rw [hO2] at hg
  exact List.mem_append_right _ (List.mem_append_left _ hg)
 refine ⟨⟨⟨_, (e5 pb hpl (fun e => hpF (e ▸ msb))).trans p1, ?_⟩, ?_, fun hh => hpF (hsub _ hh), h.ge, h.tokBelow hfr (fun g hg => (hbd g hg).1)⟩, TR_kept k5 (fun g hg => kk g (List.mem_append_right _ (List.mem_append_right _ (List.mem_append_right _ hg)))), hfr⟩
 ·refine ⟨c1 ++ [.int .i64 kd, .string tx, .slice (some ⟨kg, 0, none⟩) ks.length kcap], F1 ++ ([kg] ++ Fa), ?_, by rw [hO3]; rfl, TL_append low _ c1 _ F1 _ (TL_kept low c1 F1 p3 (fun g hg => kk g (List.mem_append_left _ hg))) (TL_one (TC_mk.2 ⟨_, rfl, hnode⟩))⟩
  rw [List.length_append, List.length_singleton]
  exact hrow
 ·rw [hF] at hnd
  exact (nodup_app.1 hnd).1
end Go.Proofs.YtkijamagbgigmaaGreatDoor.Par
