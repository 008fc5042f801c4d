/- Arguments that are slices of structs (of ints, bools, strings and slices): what a reading as data says of the cells, kind by kind. Conditions: none beyond the types' own tables. -/
import Derived.Test.YtldhhomeifjbeaaWMore
import Derived.Deep.Slices
import Derived.SizedLaws
import Derived.ChangeSame
namespace Go.Proofs.YtldhhomeifjbeaaW.Opening
open Go.RowKit Go.ChangeShapes Go.WideShapes Go.Deep
open Go.Proofs.YtldhhomeifjbeaaW.PrintWords
set_option linter.unusedVariables false

/-- A type whose readings open to a kind, with what is known of the value. -/
structure Opn (P : Program) (t : TypeId) {α : Type} (d : Kd α) (B : α → Prop) : Prop where
  cells : P.cellsOf t = d.sz
  opn : ∀ {H : Type} {enc : TypeId × Value → H} {W : World} {base : Nat} {spare : Nat → Bool} {held : Bool} {fuel : Nat} {cs : List Value} {x : DataW H × List MemPlace},
    DataW.trod enc P W base spare held fuel t cs = some x → (∀ n ∈ x.1.weights P t, n ≤ reachBytes) → ∃ a, d.K W a cs ∧ B a

section
variable {P : Program} {t e : TypeId}
theorem Opn.int {k : IntKind} (hu : P.underlying t = some (.int k)) (hc : P.cellsOf t = 1) : Opn P t (Kd.int k) (fun n => (Lit.int k n).wf = true) :=
  ⟨hc, fun h _ => by
    obtain ⟨n, rfl, _, hw⟩ := DataW.trod_int hu h
    exact ⟨n, rfl, hw⟩⟩
theorem Opn.bool (hu : P.underlying t = some .bool) (hc : P.cellsOf t = 1) : Opn P t Kd.bool (fun _ => True) :=
  ⟨hc, fun h _ => by
    obtain ⟨n, rfl, _⟩ := DataW.trod_bool hu h
    exact ⟨n, rfl, trivial⟩⟩
theorem Opn.string (hu : P.underlying t = some .string) (hc : P.cellsOf t = 1) : Opn P t Kd.string (fun s => s.size ≤ 140737488351232) :=
  ⟨hc, fun h hw => by
    obtain ⟨s, rfl, hx, _⟩ := DataW.trod_string hu h
    refine ⟨s, rfl, ?_⟩
    have := hw s.data.toList.length (by rw [hx]; simp [DataW.weights])
    rw [Array.length_toList] at this
    exact this⟩

theorem weightsAll_mem {H : Type} {n : Nat} : ∀ {l : List (DataW H)} {x : DataW H}, x ∈ l → n ∈ x.weights P e → n ∈ DataW.weightsAll P e l
  | [], _, h, _ => by simp at h
  | y :: r, x, h, hn => by
    simp only [DataW.weightsAll, List.mem_append]
    rcases List.mem_cons.1 h with rfl | h
    · exact .inl hn
    · exact .inr (weightsAll_mem h hn)

/-- Finite choice over a row. -/
theorem choose_row {α : Type} {R : Nat → α → Prop} : ∀ n : Nat, (∀ i, i < n → ∃ a, R i a) → ∃ l : List α, l.length = n ∧ ∀ i a, l[i]? = some a → R i a
  | 0, _ => ⟨[], rfl, fun i a h => by simp at h⟩
  | n + 1, h => by
    obtain ⟨l, hl, hr⟩ := choose_row n (fun i hi => h i (by omega))
    obtain ⟨a, ha⟩ := h n (by omega)
    refine ⟨l ++ [a], by simp [hl], fun i b hb => ?_⟩
    rcases Nat.lt_or_ge i l.length with hlt | hge
    · rw [List.getElem?_append_left hlt] at hb
      exact hr i b hb
    · rw [List.getElem?_append_right hge] at hb
      have : i - l.length = 0 := by
        rcases Nat.eq_zero_or_pos (i - l.length) with h0 | h0
        · exact h0
        · obtain ⟨m, hm⟩ : ∃ m, i - l.length = m + 1 := ⟨i - l.length - 1, by omega⟩
          rw [hm] at hb
          simp at hb
      rw [this] at hb
      have he : i = n := by omega
      subst he
      simp only [List.getElem?_cons_zero, Option.some.injEq] at hb
      subst hb
      exact ha

theorem open_row {α : Type} {d : Kd α} {B : α → Prop} (o : Opn P e d B) (hu : P.underlying t = some (.slice e)) {H : Type} {enc : TypeId × Value → H} {W : World} {base : Nat} {spare : Nat → Bool} {held : Bool} {fuel : Nat} {cs : List Value} {x : DataW H × List MemPlace}
    (h : DataW.trod enc P W base spare held fuel t cs = some x) (hw : ∀ n ∈ x.1.weights P t, n ≤ reachBytes) :
    ∃ (A : Option Addr) (len cap : Nat) (l : List α), cs = [.slice A len cap] ∧ len ≤ cap ∧ l.length = len ∧ d.C W A len l ∧ len * P.bytesOf e ≤ 140737488351232 ∧ ∀ y ∈ l, B y := by
  rcases open_slice hu h with ⟨rfl, _⟩ | ⟨a, len, cap, m, n, D, Pl, rfl, _, hl, hm, hmm, hx, hi⟩
  · exact ⟨none, 0, 0, [], rfl, Nat.le_refl _, rfl, ⟨rfl, by omega, fun h => by omega⟩, by omega, fun y hy => by simp at hy⟩
  · have hlm : len ≤ m := by rw [hmm]; split <;> omega
    obtain ⟨l, hll, hlr⟩ := choose_row (R := fun i (y : α) => ∃ c : List Value, W.cells? base (a.add (i * P.cellsOf e)) (P.cellsOf e) = some c ∧ d.K W y c ∧ B y) len (fun i hil => by
      obtain ⟨c, hc, ht⟩ := hi i (by omega)
      obtain ⟨y, hy, hb⟩ := o.opn ht (fun q hq => hw q (by
        rw [hx]
        simp only [DataW.weights, hu, List.mem_cons, List.mem_append]
        exact .inr (.inl (weightsAll_mem (List.mem_map.2 ⟨i, List.mem_range.2 hil, rfl⟩) hq))))
      exact ⟨y, c, hc, hy, hb⟩)
    refine ⟨some a, len, cap, l, rfl, hl, hll, ⟨hll, by unfold maxLen at hm; omega, fun hn => ⟨a, rfl, fun j p hj => ?_⟩⟩, ?_, fun y hy => ?_⟩
    · obtain ⟨c, hc, hk, _⟩ := hlr j p hj
      refine ⟨c, d.K_len hk, hk, fun i u hu' => ?_⟩
      obtain ⟨_, hcl, hat⟩ := World.cells?_some hc
      have hil : i < c.length := (List.getElem?_eq_some_iff.1 hu').1
      have := hat i (by omega)
      rw [← o.cells, ← Go.Deep.add_add, this, hu']
    · have := hw ((len + (m - len)) * P.bytesOf e) (by
        rw [hx]
        simp only [DataW.weights, hu, List.mem_cons, List.mem_append, List.length_map, List.length_range]
        exact .inl trivial)
      exact Nat.le_trans (Nat.mul_le_mul_right _ (by omega)) this
    · obtain ⟨i, hi', he⟩ := List.mem_iff_getElem.1 hy
      obtain ⟨c, _, _, hb⟩ := hlr i y (by rw [List.getElem?_eq_getElem hi', he])
      exact hb

theorem Opn.slice {α : Type} {d : Kd α} {B : α → Prop} (o : Opn P e d B) (hu : P.underlying t = some (.slice e)) (hc : P.cellsOf t = 1) : Opn P t (Kd.slice e d) (fun l => l.length * P.bytesOf e ≤ 140737488351232 ∧ ∀ y ∈ l, B y) :=
  ⟨hc, fun h hw => by
    obtain ⟨A, len, cap, l, rfl, hl, rfl, hC, hb, hB⟩ := open_row o hu h hw
    exact ⟨l, ⟨A, cap, rfl, hl, hC⟩, hb, hB⟩⟩

/-- The fields of a struct from offset off on. -/
def OpnF (P : Program) (fs : List Field) (off : Nat) {α : Type} (d : Kd α) (B : α → Prop) : Prop :=
  ∀ {H : Type} {enc : TypeId × Value → H} {W : World} {base : Nat} {spare : Nat → Bool} {held : Bool} {fuel : Nat} {cs : List Value} {xs : List (DataW H × List MemPlace)},
    xs.length = fs.length → (∀ (i : Nat) (f : Field), fs[i]? = some f → DataW.trod enc P W base spare held fuel f.type ((cs.drop f.offset).take (P.cellsOf f.type)) = xs[i]?) →
    (∀ n ∈ DataW.weightsEach P (fs.map (·.type)) (xs.map (·.1)), n ≤ reachBytes) → cs.length = off + d.sz → ∃ a, d.K W a (cs.drop off) ∧ B a
theorem OpnF.one {f : Field} {α : Type} {d : Kd α} {B : α → Prop} (o : Opn P f.type d B) {off : Nat} (hf : f.offset = off) : OpnF P [f] off d B := by
  intro H enc W base spare held fuel cs xs hl hr hw hlen
  match xs, hl with
  | [x], _ =>
    have h := hr 0 f rfl
    rw [hf, List.take_of_length_le (by rw [List.length_drop, o.cells]; omega)] at h
    exact o.opn h (fun n hn => hw n (by simp only [List.map_cons, List.map_nil, DataW.weightsEach, List.append_nil]; exact hn))
theorem OpnF.cons {f : Field} {fs : List Field} {α β : Type} {d : Kd α} {B : α → Prop} {d' : Kd β} {B' : β → Prop} {off off' : Nat} (o : Opn P f.type d B) (hf : f.offset = off) (r : OpnF P fs off' d' B') (ho : off' = off + d.sz) : OpnF P (f :: fs) off (Kd.pair d d') (fun x => B x.1 ∧ B' x.2) := by
  intro H enc W base spare held fuel cs xs hl hr hw hlen
  subst ho
  match xs, hl with
  | x :: xs, hl =>
    have hsz : (Kd.pair d d').sz = d.sz + d'.sz := rfl
    have h := hr 0 f rfl
    rw [hf, o.cells] at h
    simp only [List.map_cons, DataW.weightsEach, List.mem_append] at hw
    obtain ⟨a, hk, hb⟩ := o.opn h (fun n hn => hw n (.inl hn))
    obtain ⟨b, hk', hb'⟩ := r (xs := xs) (cs := cs) (by simpa using hl) (fun i g hg => hr (i + 1) g hg) (fun n hn => hw n (.inr hn)) (by rw [hlen, hsz]; omega)
    refine ⟨(a, b), ⟨_, _, ?_, hk, hk'⟩, hb, hb'⟩
    rw [← List.drop_drop]
    exact (List.take_append_drop _ _).symm
theorem Opn.struct {fs : Array Field} {α β : Type} {d : Kd α} {B : α → Prop} (hu : P.underlying t = some (.struct fs)) {f : β → α} (g : α → β) (hg : ∀ x, f (g x) = x) (r : OpnF P fs.toList 0 d B) (hc : P.cellsOf t = d.sz) : Opn P t (Kd.iso d f) (fun x => B (f x)) :=
  ⟨hc, fun {H enc W base spare held fuel cs x} h hw => by
    obtain ⟨xs, n, _, rfl, hlen, hx, hr⟩ := DataW.trod_struct hu h
    obtain ⟨a, hk, hb⟩ := r (xs := xs) (cs := cs) (by simpa using hx) (fun i q hq => hr i q (by simpa using hq)) (fun q hq => hw q (by
      simp only [DataW.weights, hu]
      exact hq)) (by rw [hlen, hc]; omega)
    refine ⟨g a, ?_, ?_⟩
    · show d.K W (f (g a)) cs
      rw [hg]
      simpa using hk
    · show B (f (g a))
      rw [hg]
      exact hb⟩

/-- An argument that is a slice. -/
theorem open_arg {α : Type} {d : Kd α} {B : α → Prop} (o : Opn P e d B) (hu : P.underlying t = some (.slice e)) {H : Type} {enc : TypeId × Value → H} {W : World} {base : Nat} {spare : Nat → Bool} {held : Bool} {a : Option Addr} {len cap : Nat} {x : DataW H} {ps : List MemPlace}
    {ts : List TypeId} {ds : List (DataW H)} {j : Nat} (hsz : (DataW.weightsEach P ts ds).all (· ≤ reachBytes) = true) (ht : ts[j]? = some t) (hd : ds[j]? = some x)
    (h : DataW.Trod enc P W base spare held t (.slice a len cap) x ps) :
    ∃ l : List α, l.length = len ∧ len ≤ cap ∧ d.C W a len l ∧ len * P.bytesOf e ≤ 140737488351232 ∧ ∀ y ∈ l, B y := by
  obtain ⟨fuel, hf⟩ := h
  obtain ⟨A, n, c, l, hcs, hl, hll, hC, hb, hB⟩ := open_row o hu hf (fun n hn => by
    have := List.all_eq_true.1 hsz n (DataW.weights_mem_each ht hd n hn)
    simpa using this)
  simp only [Value.cells, List.cons.injEq, Value.slice.injEq, and_true] at hcs
  obtain ⟨rfl, rfl, rfl⟩ := hcs
  exact ⟨l, hll, hl, hC, hb, hB⟩
end
end Go.Proofs.YtldhhomeifjbeaaW.Opening
