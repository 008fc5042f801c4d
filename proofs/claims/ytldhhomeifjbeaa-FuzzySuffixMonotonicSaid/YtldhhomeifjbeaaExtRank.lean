/- What fuzzy.Rank computes: plain functions; one sorted list. No walk. · The sort that fuzzy.Rank calls, at the indices of the matching names: what lies in the row behind it. · fuzzy.Rank: what it answers, walked. Conditions: at most 200 names are ranked; more are refused. -/
import Derived.Test.YtldhhomeifjbeaaCmp
import Derived.Test.YtldhhomeifjbeaaPAx2
import Derived.Test.YtldhhomeifjbeaaStableW
import Derived.Deep.RegionHeld3
namespace Go.Proofs.Ytldhhomeifjbeaa.PA
open Go.RowKit Go.Proofs.YtldhhomeifjbeaaW.PrintWords Go.Proofs.YtldhhomeifjbeaaW.PrintLast
set_option linter.unusedVariables false
set_option linter.unusedSimpArgs false

/-! ### comparisons -/
structure Pre {β : Type} (c : β → β → Int) : Prop where
  sw : ∀ x y, c x y < 0 ↔ 0 < c y x
  tr : ∀ x y z, c x y ≤ 0 → c y z ≤ 0 → c x z ≤ 0
section
variable {β : Type} {c c1 c2 : β → β → Int}
theorem Pre.lt_le (h : Pre c) {x y z : β} (h1 : c x y < 0) (h2 : c y z ≤ 0) : c x z < 0 := by
  by_cases hx : c x z < 0
  · exact hx
  · have h3 : c z x ≤ 0 := by
      have := h.sw x z
      omega
    have := h.tr y z x h2 h3
    have := h.sw x y
    omega
theorem Pre.le_lt (h : Pre c) {x y z : β} (h1 : c x y ≤ 0) (h2 : c y z < 0) : c x z < 0 := by
  by_cases hx : c x z < 0
  · exact hx
  · have h3 : c z x ≤ 0 := by
      have := h.sw x z
      omega
    have := h.tr z x y h3 h1
    have := h.sw y z
    omega
theorem Pre.flip (h : Pre c) : Pre (fun x y => c y x) := ⟨fun x y => h.sw y x, fun x y z h1 h2 => h.tr z y x h2 h1⟩
theorem Pre.of {γ : Type} (h : Pre c) (f : γ → β) : Pre (fun x y => c (f x) (f y)) := ⟨fun x y => h.sw _ _, fun x y z => h.tr _ _ _⟩
def andThen (a b : Int) : Int := if a ≠ 0 then a else b
theorem Pre.and (h1 : Pre c1) (h2 : Pre c2) : Pre (fun x y => andThen (c1 x y) (c2 x y)) := by
  refine ⟨fun x y => ?_, fun x y z a1 a2 => ?_⟩
  · have e1 := h1.sw x y
    have e2 := h1.sw y x
    have e3 := h2.sw x y
    unfold andThen
    split <;> split <;> omega
  · have k1 : c1 x y ≤ 0 := by unfold andThen at a1; split at a1 <;> omega
    have k2 : c1 y z ≤ 0 := by unfold andThen at a2; split at a2 <;> omega
    have k3 := h1.tr x y z k1 k2
    by_cases e : c1 x z = 0
    · have l1 : c1 x y = 0 := by
        by_cases n : c1 x y < 0
        · have := h1.lt_le n k2
          omega
        · omega
      have l2 : c1 y z = 0 := by
        by_cases n : c1 y z < 0
        · have := h1.le_lt k1 n
          omega
        · omega
      unfold andThen at *
      rw [if_neg (by omega)] at a1 a2 ⊢
      exact h2.tr x y z a1 a2
    · unfold andThen
      rw [if_pos e]
      exact k3
end
theorem orP_and (x y z : Int) : orP x y z = andThen x (andThen y z) := rfl
theorem pre_int : Pre (fun x y : Int => Lib.compareInt x y) := by
  refine ⟨fun x y => ?_, fun x y z h1 h2 => ?_⟩
  · unfold Lib.compareInt
    repeat' split
    all_goals omega
  · unfold Lib.compareInt at *
    repeat' split at h1
    all_goals (repeat' split at h2)
    all_goals (repeat' split)
    all_goals omega
theorem bytes_sw : ∀ x y : List UInt8, Lib.compareBytes x y < 0 ↔ 0 < Lib.compareBytes y x
  | [], [] => by simp [Lib.compareBytes]
  | [], _ :: _ => by simp [Lib.compareBytes]
  | _ :: _, [] => by simp [Lib.compareBytes]
  | a :: l1, b :: l2 => by
    simp only [Lib.compareBytes]
    have ih := bytes_sw l1 l2
    by_cases h1 : a < b
    · have h2 : ¬ b < a := by
        rw [UInt8.lt_iff_toNat_lt] at h1 ⊢
        omega
      simp [h1, h2]
    · by_cases h2 : b < a
      · simp [h1, h2]
      · simp only [h1, h2, if_false]
        exact ih
theorem bytes_tr : ∀ x y z : List UInt8, Lib.compareBytes x y ≤ 0 → Lib.compareBytes y z ≤ 0 → Lib.compareBytes x z ≤ 0
  | [], _, [], _, _ => by simp [Lib.compareBytes]
  | [], _, _ :: _, _, _ => by simp [Lib.compareBytes]
  | _ :: _, [], _, h, _ => by simp [Lib.compareBytes] at h
  | _ :: _, _ :: _, [], _, h => by simp [Lib.compareBytes] at h
  | a :: l1, b :: l2, c :: l3, h1, h2 => by
    simp only [Lib.compareBytes] at h1 h2 ⊢
    have ih := bytes_tr l1 l2 l3
    simp only [UInt8.lt_iff_toNat_lt] at *
    repeat' split at h1
    all_goals (repeat' split at h2)
    all_goals (repeat' split)
    all_goals first | omega | (exact ih (by omega) (by omega)) | skip
theorem pre_bytes : Pre (fun x y : List UInt8 => Lib.compareBytes x y) := ⟨bytes_sw, bytes_tr⟩
theorem cmp_pre {γ : Type} (sc : γ → Int) (nm : γ → ByteArray) : Pre (fun x y => cmpP (sc x) (sc y) (nm x) (nm y)) :=
  Pre.and (Pre.of pre_int sc).flip (Pre.and (Pre.of pre_int (fun x => ((nm x).size : Int))) (Pre.of pre_bytes (fun x => (nm x).data.toList)))

/-! ### one sorted list -/
def ins {β : Type} (lt : β → β → Bool) (x : β) : List β → List β
  | [] => [x]
  | y :: r => if lt x y = true then x :: y :: r else y :: ins lt x r
def isort {β : Type} (lt : β → β → Bool) : List β → List β
  | [] => []
  | x :: r => ins lt x (isort lt r)
section
variable {β : Type} {lt : β → β → Bool}
theorem ins_mem (x : β) : ∀ (l : List β) (y : β), y ∈ ins lt x l ↔ y = x ∨ y ∈ l
  | [], y => by simp [ins]
  | z :: r, y => by
    simp only [ins]
    split
    · simp
    · simp only [List.mem_cons, ins_mem x r y]
      constructor
      · rintro (h | h | h)
        · exact .inr (.inl h)
        · exact .inl h
        · exact .inr (.inr h)
      · rintro (h | h | h)
        · exact .inr (.inl h)
        · exact .inl h
        · exact .inr (.inr h)
theorem ins_length (x : β) : ∀ l : List β, (ins lt x l).length = l.length + 1
  | [] => rfl
  | z :: r => by
    simp only [ins]
    split
    · rfl
    · simp [ins_length x r]
theorem isort_mem : ∀ (l : List β) (y : β), y ∈ isort lt l ↔ y ∈ l
  | [], y => by simp [isort]
  | x :: r, y => by simp only [isort, ins_mem, isort_mem r y, List.mem_cons]
theorem isort_length : ∀ l : List β, (isort lt l).length = l.length
  | [] => rfl
  | x :: r => by simp only [isort, ins_length, isort_length r, List.length_cons]
theorem ins_sorted (htr : ∀ x y z, lt x y = true → lt y z = true → lt x z = true) (x : β) : ∀ l : List β, l.Pairwise (fun a b => lt a b = true) → (∀ y ∈ l, lt x y = true ∨ lt y x = true) → (ins lt x l).Pairwise (fun a b => lt a b = true)
  | [], _, _ => by simp [ins]
  | y :: r, hp, ht => by
    have hp' := List.pairwise_cons.1 hp
    simp only [ins]
    split
    · rename_i hxy
      refine List.pairwise_cons.2 ⟨fun z hz => ?_, hp⟩
      rcases List.mem_cons.1 hz with rfl | hz
      · exact hxy
      · exact htr _ _ _ hxy (hp'.1 z hz)
    · rename_i hxy
      refine List.pairwise_cons.2 ⟨fun z hz => ?_, ins_sorted htr x r hp'.2 (fun z hz => ht z (List.mem_cons_of_mem _ hz))⟩
      rcases (ins_mem x r z).1 hz with rfl | hz
      · exact (ht y List.mem_cons_self).resolve_left hxy
      · exact hp'.1 z hz
theorem isort_sorted (htr : ∀ x y z, lt x y = true → lt y z = true → lt x z = true) : ∀ l : List β, l.Pairwise (fun a b => lt a b = true ∨ lt b a = true) → (isort lt l).Pairwise (fun a b => lt a b = true)
  | [], _ => by simp [isort]
  | x :: r, h => by
    have h' := List.pairwise_cons.1 h
    exact ins_sorted htr x _ (isort_sorted htr r h'.2) (fun y hy => h'.1 y ((isort_mem r y).1 hy))
theorem sorted_sub (has : ∀ x y, lt x y = true → lt y x = true → False) : ∀ (l2 l1 : List β), l1.Pairwise (fun a b => lt a b = true) → l2.Pairwise (fun a b => lt a b = true) → (∀ x ∈ l1, x ∈ l2) → List.Sublist l1 l2
  | [], l1, _, _, h => by
    cases l1 with
    | nil => exact List.Sublist.refl _
    | cons x r => exact absurd (h x List.mem_cons_self) (by simp)
  | y :: r2, [], _, _, _ => List.nil_sublist _
  | y :: r2, x :: r1, h1, h2, h => by
    have h1' := List.pairwise_cons.1 h1
    have h2' := List.pairwise_cons.1 h2
    by_cases hxy : ∃ _ : x = y, True
    · obtain ⟨rfl, _⟩ := hxy
      refine List.Sublist.cons_cons _ (sorted_sub has r2 r1 h1'.2 h2'.2 (fun z hz => ?_))
      rcases List.mem_cons.1 (h z (List.mem_cons_of_mem _ hz)) with rfl | hz2
      · exact (has _ _ (h1'.1 z hz) (h1'.1 z hz)).elim
      · exact hz2
    · have hxy : x ≠ y := fun e => hxy ⟨e, trivial⟩
      refine List.Sublist.cons _ (sorted_sub has r2 (x :: r1) h1 h2'.2 (fun z hz => ?_))
      have hx2 : x ∈ r2 := (List.mem_cons.1 (h x List.mem_cons_self)).resolve_left hxy
      rcases List.mem_cons.1 hz with rfl | hz1
      · exact hx2
      · rcases List.mem_cons.1 (h z (List.mem_cons_of_mem _ hz1)) with rfl | hz2
        · exact (has _ _ (h2'.1 x hx2) (h1'.1 z hz1)).elim
        · exact hz2
theorem sorted_eq (has : ∀ x y, lt x y = true → lt y x = true → False) {l1 l2 : List β} (h1 : l1.Pairwise (fun a b => lt a b = true)) (h2 : l2.Pairwise (fun a b => lt a b = true)) (h : ∀ x ∈ l1, x ∈ l2) (hl : l1.length = l2.length) : l1 = l2 :=
  (sorted_sub has l2 l1 h1 h2 h).eq_of_length hl
end

/-! ### Rank -/
def scoresL (k : Nat) (p : ByteArray) : List ByteArray → Option (List (Int × Bool))
  | [] => some []
  | n :: r => (fuzzy_Score.f k p n).bind fun t => (scoresL k p r).bind fun s => some ((t.1, t.2.2) :: s)
def okAt (sc : List (Int × Bool)) (i : Nat) : Bool := (sc.getD i (0, false)).2
def scAt (sc : List (Int × Bool)) (i : Nat) : Int := if okAt sc i = true then (sc.getD i (0, false)).1 else 0
def nmAt (names : List ByteArray) (i : Nat) : ByteArray := names.getD i ⟨#[]⟩
def cfAt (names : List ByteArray) (sc : List (Int × Bool)) (x y : Nat) : Int := cmpP (scAt sc x) (scAt sc y) (nmAt names x) (nmAt names y)
def ltAt (names : List ByteArray) (sc : List (Int × Bool)) (x y : Nat) : Bool := decide (cfAt names sc x y < 0) || (decide (cfAt names sc x y = 0) && decide (x < y))
def hits (sc : List (Int × Bool)) (m : Nat) : List Nat := (List.range m).filter (okAt sc)
def rankL (names : List ByteArray) (sc : List (Int × Bool)) : List Int := (isort (ltAt names sc) (hits sc names.length)).map (fun i : Nat => (i : Int))
def fuzzy_Rank.f (k : Nat) (p : ByteArray) (names : List ByteArray) : Option (List Int × Int) := if names.length > 200 then some ([], 2) else (scoresL k p names).bind fun sc => some (rankL names sc, 0)
theorem scoresL_mono (k : Nat) (p : ByteArray) : ∀ l, LeO (scoresL k p l) (scoresL (k + 1) p l)
  | [] => LeO.refl _
  | n :: r => by
    intro s hs
    simp only [scoresL] at hs ⊢
    rw [Option.bind_eq_some_iff] at hs ⊢
    obtain ⟨t, ht, hs⟩ := hs
    rw [Option.bind_eq_some_iff] at hs
    obtain ⟨u, hu, hs⟩ := hs
    exact ⟨t, fuzzy_Score.mono _ _ _ _ ht, by rw [Option.bind_eq_some_iff]; exact ⟨u, scoresL_mono k p r _ hu, hs⟩⟩
theorem fuzzy_Rank.mono : ∀ a0 a1 k, LeO (fuzzy_Rank.f k a0 a1) (fuzzy_Rank.f (k + 1) a0 a1) := by
  intro p l k r h
  unfold fuzzy_Rank.f at h ⊢
  split at h
  · rename_i hl
    rw [if_pos hl]
    exact h
  · rename_i hl
    rw [if_neg hl]
    rw [Option.bind_eq_some_iff] at h ⊢
    obtain ⟨s, hs, h⟩ := h
    exact ⟨s, scoresL_mono k p l _ hs, h⟩
theorem scoresL_length (k : Nat) (p : ByteArray) : ∀ (l : List ByteArray) (s : List (Int × Bool)), scoresL k p l = some s → s.length = l.length
  | [], s, h => by
    simp only [scoresL] at h
    obtain rfl := Option.some.inj h
    rfl
  | n :: r, s, h => by
    simp only [scoresL] at h
    rw [Option.bind_eq_some_iff] at h
    obtain ⟨t, ht, h⟩ := h
    rw [Option.bind_eq_some_iff] at h
    obtain ⟨u, hu, h⟩ := h
    obtain rfl := Option.some.inj h
    simp [scoresL_length k p r u hu]
theorem scoresL_at (k : Nat) (p : ByteArray) : ∀ (l : List ByteArray) (s : List (Int × Bool)), scoresL k p l = some s → ∀ i, i < l.length → ∃ r2, fuzzy_Score.f k p (nmAt l i) = some ((s.getD i (0, false)).1, r2, (s.getD i (0, false)).2)
  | [], s, h, i, hi => by simp at hi
  | n :: r, s, h, i, hi => by
    simp only [scoresL] at h
    rw [Option.bind_eq_some_iff] at h
    obtain ⟨t, ht, h⟩ := h
    rw [Option.bind_eq_some_iff] at h
    obtain ⟨u, hu, h⟩ := h
    obtain rfl := Option.some.inj h
    cases i with
    | zero => exact ⟨t.2.1, ht⟩
    | succ i => exact scoresL_at k p r u hu i (by simpa using hi)
theorem ltAt_iff {names : List ByteArray} {sc : List (Int × Bool)} {x y : Nat} : ltAt names sc x y = true ↔ cfAt names sc x y < 0 ∨ (cfAt names sc x y = 0 ∧ x < y) := by
  unfold ltAt
  rw [Bool.or_eq_true, Bool.and_eq_true, decide_eq_true_eq, decide_eq_true_eq, decide_eq_true_eq]
theorem cfAt_pre (names : List ByteArray) (sc : List (Int × Bool)) : Pre (cfAt names sc) := cmp_pre (scAt sc) (nmAt names)
theorem ltAt_tr (names : List ByteArray) (sc : List (Int × Bool)) (x y z : Nat) (h1 : ltAt names sc x y = true) (h2 : ltAt names sc y z = true) : ltAt names sc x z = true := by
  have P := cfAt_pre names sc
  rw [ltAt_iff] at *
  rcases h1 with h1 | ⟨h1, h1'⟩
  · exact .inl (P.lt_le h1 (by omega))
  · rcases h2 with h2 | ⟨h2, h2'⟩
    · exact .inl (P.le_lt (by omega) h2)
    · have := P.tr x y z (by omega) (by omega)
      by_cases h3 : cfAt names sc x z < 0
      · exact .inl h3
      · exact .inr ⟨by omega, by omega⟩
theorem ltAt_as (names : List ByteArray) (sc : List (Int × Bool)) (x y : Nat) (h1 : ltAt names sc x y = true) (h2 : ltAt names sc y x = true) : False := by
  have P := (cfAt_pre names sc).sw
  have e1 := P x y
  have e2 := P y x
  rw [ltAt_iff] at *
  omega
theorem ltAt_tot (names : List ByteArray) (sc : List (Int × Bool)) (x y : Nat) (h : x ≠ y) : ltAt names sc x y = true ∨ ltAt names sc y x = true := by
  have P := (cfAt_pre names sc).sw
  have e1 := P x y
  have e2 := P y x
  rw [ltAt_iff, ltAt_iff]
  omega
theorem hits_nodup (sc : List (Int × Bool)) (m : Nat) : (hits sc m).Pairwise (· < ·) := List.Pairwise.filter _ List.pairwise_lt_range
theorem rank_sorted (names : List ByteArray) (sc : List (Int × Bool)) : (isort (ltAt names sc) (hits sc names.length)).Pairwise (fun a b => ltAt names sc a b = true) :=
  isort_sorted (ltAt_tr names sc) _ ((hits_nodup sc _).imp (fun h => ltAt_tot names sc _ _ (by omega)))
end Go.Proofs.Ytldhhomeifjbeaa.PA
namespace Go.Proofs.Ytldhhomeifjbeaa.PA
open Go.RowKit Go.Shelf Go.Sort Go.Proofs.YtldhhomeifjbeaaW.PrintWords Go.Proofs.YtldhhomeifjbeaaW.PrintLast
set_option linter.unusedVariables false
set_option linter.unusedSimpArgs false

abbrev Ix (n : Nat) := { i : Nat // i < n }
def encI (n : Nat) (x : Ix n) : Value := .int .i64 (x.1 : Int)
section
variable {n : Nat}
theorem cell_sort {enc : Ix n → Value} [Inhabited (Ix n)] {w : World} {blk m : Nat} {dk : Array (Ix n)} {os : Array Obj} {a : Addr} {v : Value} (h : w.cell? a = some v) (hne : a.block ≠ blk) : (sortWorld enc w blk 0 m dk os).cell? a = some v := by
  unfold sortWorld
  have h1 : (Sort.ahead w m).cell? a = some v := h
  have h2 : (putRow enc (Sort.ahead w m) blk 0 dk).cell? a = some v := (cell?_putRow_other enc _ blk 0 dk a (.inl hne)).trans h1
  rw [cell?_grow _ _ _ (World.block_lt_of_cell? _ _ h2)]
  exact h2
theorem heap_sorted {enc : Ix n → Value} [Inhabited (Ix n)] {w : World} {g m : Nat} {os : Array Obj} {cur : Array Value} {e : TypeId} {fr : Nat × Nat} (d : Array (Ix n)) (hb : w.heap[g]? = some (.cells cur e fr)) :
    (sortWorld enc w g 0 m d os).heap[g]? = some (.cells (putCells enc 0 d cur) e fr) := by
  have hg : g < w.heap.size := (Array.getElem?_eq_some_iff.1 hb).1
  unfold sortWorld
  rw [heap_grow_old _ _ (by simpa using hg)]
  simp [putRow, mapBlock, Sort.ahead, Array.getElem?_modify, hb, onCells]
theorem grownBy_sorted' {enc : Ix n → Value} [Inhabited (Ix n)] {w : World} {g m : Nat} {os : Array Obj} (d : Array (Ix n)) : w.grownBy (sortWorld enc w g 0 m d os) (some g) := by
  unfold sortWorld
  refine ⟨rfl, rfl, rfl, by simp, fun k hk hne => ?_⟩
  rw [heap_grow_old _ _ (by simpa using hk)]
  have : g ≠ k := fun e => hne (by rw [e])
  simp [putRow, mapBlock, Sort.ahead, Array.getElem?_modify, this]
theorem take_put {enc : Ix n → Value} [Inhabited (Ix n)] (cur : Array Value) (d : Array (Ix n)) (h : d.size ≤ cur.size) : (putCells enc 0 d cur).toList.take d.size = d.toList.map enc := by
  apply List.ext_getElem?
  intro j
  by_cases hj : j < d.size
  · rw [List.getElem?_take_of_lt hj, Array.getElem?_toList]
    simp [putCells, hj, show j < cur.size by omega]
  · rw [List.getElem?_take_eq_none (by omega), List.getElem?_eq_none (by simp; omega)]
end
set_option maxHeartbeats 4000000 in
set_option maxRecDepth 100000 in
theorem ins_nil (fv : Value) (w : World) : Calls Try.prog 32 #[.slice none 0 0, .int .i64 0, .int .i64 0, fv] w fun e w' => e = .returned (.tuple #[]) ∧ w' = w := by
  go_enter Try.func32, Try.ntmps32
  go_wp2
  refine wp_loop_rounds 1 ?_
  rw [rounds_succ]
  go_wp2
  go_end0
  exact ⟨rfl, rfl⟩
set_option maxHeartbeats 4000000 in
set_option maxRecDepth 100000 in
theorem stable_nil (fv : Value) (w : World) : Calls Try.prog 25 #[.slice none 0 0, .int .i64 0, fv] w fun e w' => e = .returned (.tuple #[]) ∧ w' = w := by
  go_enter Try.func25, Try.ntmps25
  go_wp2
  refine wp_loop_rounds 1 ?_
  rw [rounds_succ]
  go_wp2_with (go_at_call 32; refine (ins_nil _ _).mono ?_; rintro e w' ⟨rfl, rfl⟩)
  refine wp_loop_rounds 1 ?_
  rw [rounds_succ]
  go_wp2
  go_end0
  exact ⟨rfl, rfl⟩
set_option maxHeartbeats 4000000 in
set_option maxRecDepth 100000 in
/-- An empty row. -/
theorem sortStable_nil (fv : Value) (w : World) : Calls Try.prog 16 #[.slice none 0 0, fv] w fun e w' => e = .returned (.tuple #[]) ∧ w' = w := by
  go_enter Try.func16, Try.ntmps16
  go_wp2_with (go_at_call 25; refine (stable_nil _ _).mono ?_; rintro e w' ⟨rfl, rfl⟩)
  go_end0
  exact ⟨rfl, rfl⟩
/-- The matching names' indices, sorted: the row holds rankL. -/
theorem sortHits_calls (names : List ByteArray) (sc : List (Int × Bool)) (n cap c blk bs bn sB base : Nat) (A : Addr) (cur : Array Value) (w : World)
    (hn : n = names.length) (hn2 : n ≤ 200) (hpos : 0 < n) (hsl : sc.length = n)
    (h1 : w.cell? ⟨bs, 0, none⟩ = some (.slice (some ⟨sB, 0, none⟩) n n)) (h2 : w.cell? ⟨bn, 0, none⟩ = some (.slice (some A) n c))
    (h3 : ∀ i, i < n → w.cell? ⟨sB, i, none⟩ = some (.int .i64 (scAt sc i))) (h4 : ∀ i, i < n → w.cell? (A.add i) = some (.string (nmAt names i)))
    (g1 : bs ≠ blk) (g2 : bn ≠ blk) (g3 : sB ≠ blk) (g4 : A.block ≠ blk) (gb : base ≤ blk)
    (hb : w.heap[blk]? = some (.cells cur 3 (0, 0))) (hlen : (hits sc n).length ≤ cap) (hcap : cap ≤ maxLen) (hcur : cur.size = cap) (htake : cur.toList.take (hits sc n).length = (hits sc n).map (fun i : Nat => Value.int .i64 (i : Int))) (hne : 0 < (hits sc n).length) :
    Calls Try.prog 16 #[.slice (some ⟨blk, 0, none⟩) (hits sc n).length cap, .func (.func 17) #[] #[.pointer (some ⟨bs, 0, none⟩), .pointer (some ⟨bn, 0, none⟩)]] w fun e w' => e = .returned (.tuple #[]) ∧ Kd.R (Kd.int .i64) 3 w' base (fun _ => True) (.slice (some ⟨blk, 0, none⟩) (hits sc n).length cap) (rankL names sc) ∧ w.grownBy w' (some blk) := by
  haveI : Inhabited (Ix n) := ⟨⟨0, hpos⟩⟩
  have hmem : ∀ i ∈ hits sc n, i < n := fun i hi => List.mem_range.1 (List.mem_filter.1 hi).1
  obtain ⟨d, hd⟩ : ∃ d : Array (Ix n), d = ((hits sc n).attach.map (fun x => (⟨x.1, hmem x.1 x.2⟩ : Ix n))).toArray := ⟨_, rfl⟩
  have hds : d.size = (hits sc n).length := by rw [hd]; simp
  have hdl : d.toList.map (fun x => x.1) = hits sc n := by
    rw [hd]
    simp [List.map_map, Function.comp_def]
  have hlt : (hits sc n).length ≤ n := by
    have := List.length_filter_le (okAt sc) (List.range n)
    rw [List.length_range] at this
    exact this
  have hdg : ∀ i, i < d.size → (d[i]!).1 ∈ hits sc n := by
    intro i hi
    rw [← hdl]
    refine List.mem_map.2 ⟨d[i]!, ?_, rfl⟩
    rw [getElem!_pos d i hi]
    exact Array.getElem_mem_toList hi
  have hH : Holds (encI n) w blk 0 d := by
    intro j hj
    refine ⟨?_, blk_frozen hb _⟩
    rw [Nat.zero_add]
    refine (blk_cell hb j).trans ?_
    have hj' : j < (hits sc n).length := by omega
    have e1 : (cur.toList.take (hits sc n).length)[j]? = ((hits sc n).map (fun i : Nat => Value.int .i64 (i : Int)))[j]? := by rw [htake]
    rw [List.getElem?_take_of_lt hj', Array.getElem?_toList] at e1
    rw [e1, List.getElem?_map, ← hdl, List.getElem?_map]
    rw [getElem!_pos d j hj]
    simp [encI, hj]
  have hblk := hp_lt hb
  obtain ⟨R0, hR0⟩ : ∃ R0 : Ix n → Ix n → Prop, R0 = fun x y => ltAt names sc x.1 y.1 = true := ⟨_, rfl⟩
  have E : Env (encI n) (fun x y => cfAt names sc x.1 y.1) R0 17 #[.pointer (some ⟨bs, 0, none⟩), .pointer (some ⟨bn, 0, none⟩)] blk 0 (hits sc n).length d w := by
    refine ⟨enters_of Try.func17 (by kernel_rfl) rfl, ?_, ⟨fun _ => rfl, hH, hblk⟩, hds, by omega, ?_, ?_⟩
    · intro m os dk hdk x y
      exact closure_calls x.1 y.1 bs bn sB n n c A (scAt sc x.1) (scAt sc y.1) (nmAt names x.1) (nmAt names y.1) _ x.2 y.2 x.2 y.2 (cell_sort h1 g1) (cell_sort h2 g2) (cell_sort (h3 _ x.2) g3) (cell_sort (h3 _ y.2) g3)
        (cell_sort (h4 _ x.2) (by unfold Addr.add; split <;> exact g4)) (cell_sort (h4 _ y.2) (by unfold Addr.add; split <;> exact g4))
    · rw [hR0]
      exact fun x y z => ltAt_tr names sc _ _ _
    · rw [hR0]
      intro x y h
      show ltAt names sc x.1 y.1 = true
      rw [ltAt_iff]
      exact .inl (of_decide_eq_true h)
  have hcrs : CrsAll R0 (ltOf (fun x y : Ix n => cfAt names sc x.1 y.1)) d 0 (hits sc n).length := by
    intro i j _ hij hj hl
    rw [hR0]
    show ltAt names sc (d[i]!).1 (d[j]!).1 = true
    have hl' : ¬ cfAt names sc (d[j]!).1 (d[i]!).1 < 0 := of_decide_eq_false hl
    have hsw := (cfAt_pre names sc).sw (d[j]!).1 (d[i]!).1
    have hsw2 := (cfAt_pre names sc).sw (d[i]!).1 (d[j]!).1
    have hord : (d[i]!).1 < (d[j]!).1 := by
      have hp := hits_nodup sc n
      rw [← hdl, List.pairwise_map] at hp
      have := List.pairwise_iff_getElem.1 hp i j (by simp; omega) (by simp; omega) hij
      rw [getElem!_pos d i (by omega), getElem!_pos d j (by omega)]
      simpa using this
    rw [ltAt_iff]
    omega
  refine (sortStable_calls (encI n) _ R0 17 _ blk 0 cap (hits sc n).length d w E d w hds (SW.start hH) hcrs).mono ?_
  rintro e w' ⟨rfl, d', f, s, m, os, rfl⟩
  have hds' : d'.size = (hits sc n).length := f.size.trans hds
  have hlist : d'.toList.map (fun x => x.1) = isort (ltAt names sc) (hits sc n) := by
    refine sorted_eq (ltAt_as names sc) ?_ (by rw [hn]; exact rank_sorted names sc) (fun x hx => ?_) (by rw [isort_length]; simp [hds'])
    · rw [List.pairwise_map, List.pairwise_iff_getElem]
      intro i j hi hj hij
      have hi' : i < d'.size := by simpa using hi
      have hj' : j < d'.size := by simpa using hj
      have := s i j (Nat.zero_le _) hij (by omega)
      rw [hR0, getElem!_pos d' i hi', getElem!_pos d' j hj'] at this
      simpa using this
    · rw [isort_mem]
      obtain ⟨y, hy, rfl⟩ := List.mem_map.1 hx
      obtain ⟨i, hi, rfl⟩ := List.mem_iff_getElem.1 hy
      have hi' : i < d'.size := by simpa using hi
      obtain ⟨q, q1, q2, q3⟩ := f.mem i (Nat.zero_le _) (by omega)
      have := hdg q (by omega)
      rw [← q3, getElem!_pos d' i hi'] at this
      simpa using this
  refine ⟨rfl, ⟨fun _ _ => trivial, d'.toList.map (encI n), ?_, ?_⟩, grownBy_sorted' d'⟩
  · have hl : (rankL names sc).length = (hits sc n).length := by
      unfold rankL
      rw [List.length_map, isort_length, hn]
    refine ⟨?_, .inr ⟨blk, cap, _, by rw [hl], gb, heap_sorted d' hb, by omega, hcap, ?_, ?_⟩⟩
    · rw [List.length_map, hl]
      show d'.toList.length = (hits sc n).length * 1
      simp [hds']
    · show (putCells (encI n) 0 d' cur).size = cap * 1
      simp [putCells, hcur]
    · rw [hl]
      show (putCells (encI n) 0 d' cur).toList.take ((hits sc n).length * 1) = _
      rw [Nat.mul_one, ← hds']
      exact take_put cur d' (by omega)
  · have hr : rankL names sc = d'.toList.map (fun x => ((x.1 : Nat) : Int)) := by
      unfold rankL
      rw [← hn, ← hlist, List.map_map]
      rfl
    rw [hr]
    refine ⟨by rw [List.length_map, List.length_map]; exact (Nat.mul_one _).symm, fun j p hj => ?_⟩
    rw [List.getElem?_map, Option.map_eq_some_iff] at hj
    obtain ⟨x, hx, rfl⟩ := hj
    show ((d'.toList.map (encI n)).drop (j * 1)).take 1 = [.int .i64 ((x.1 : Nat) : Int)]
    obtain ⟨hjl, rfl⟩ := List.getElem?_eq_some_iff.1 hx
    rw [Nat.mul_one, List.drop_eq_getElem_cons (by rw [List.length_map]; exact hjl)]
    simp [encI]
end Go.Proofs.Ytldhhomeifjbeaa.PA
namespace Go.Proofs.Ytldhhomeifjbeaa.PA
open Go.RowKit Go.Shelf Go.Sort Go.Proofs.YtldhhomeifjbeaaW.PrintWords Go.Proofs.YtldhhomeifjbeaaW.PrintLast
set_option linter.unusedVariables false
set_option linter.unusedSimpArgs false

def scRow (sc : List (Int × Bool)) (n i : Nat) : List Int := (List.range n).map (fun j => if j < i then scAt sc j else 0)
theorem scRow_length (sc : List (Int × Bool)) (n i : Nat) : (scRow sc n i).length = n := by simp [scRow]
theorem scRow_get (sc : List (Int × Bool)) (n i j : Nat) (h : j < (scRow sc n i).length) : (scRow sc n i)[j] = if j < i then scAt sc j else 0 := by simp [scRow]
theorem scRow_zero (sc : List (Int × Bool)) (n : Nat) : scRow sc n 0 = List.replicate n 0 := by
  apply List.ext_getElem
  · simp [scRow]
  · intro j h1 h2
    rw [scRow_get]
    simp
theorem scRow_set (sc : List (Int × Bool)) (n i : Nat) : scRow sc n (i + 1) = (scRow sc n i).set i (scAt sc i) := by
  apply List.ext_getElem
  · simp [scRow]
  · intro j h1 h2
    rw [List.getElem_set, scRow_get, scRow_get]
    by_cases e : i = j
    · subst e
      rw [if_pos (by omega), if_pos rfl]
    · rw [if_neg e]
      by_cases hj : j < i
      · rw [if_pos hj, if_pos (by omega)]
      · rw [if_neg hj, if_neg (by omega)]
theorem scRow_skip (sc : List (Int × Bool)) (n i : Nat) (h : okAt sc i = false) : scRow sc n (i + 1) = scRow sc n i := by
  apply List.ext_getElem
  · simp [scRow]
  · intro j h1 h2
    rw [scRow_get, scRow_get]
    by_cases e : j = i
    · subst e
      rw [if_pos (by omega), if_neg (by omega)]
      unfold scAt
      rw [h]
      rfl
    · by_cases hj : j < i
      · rw [if_pos hj, if_pos (by omega)]
      · rw [if_neg hj, if_neg (by omega)]
theorem hits_take (sc : List (Int × Bool)) (i : Nat) (h : okAt sc i = true) : hits sc (i + 1) = hits sc i ++ [i] := by
  unfold hits
  rw [List.range_succ, List.filter_append, List.filter_cons_of_pos h]
  rfl
theorem hits_skip (sc : List (Int × Bool)) (i : Nat) (h : okAt sc i = false) : hits sc (i + 1) = hits sc i := by
  unfold hits
  rw [List.range_succ, List.filter_append, List.filter_cons_of_neg (by rw [h]; simp)]
  simp
theorem hits_len (sc : List (Int × Bool)) (n : Nat) : (hits sc n).length ≤ n := by
  have := List.length_filter_le (okAt sc) (List.range n)
  rw [List.length_range] at this
  exact this
def hitsI (sc : List (Int × Bool)) (n : Nat) : List Int := (hits sc n).map (fun i : Nat => (i : Int))

theorem cell_far' {X : World} {q r : Addr} {u v : Value} (hq : X.cell? q = some u) (h : q.block ≠ r.block) : (X.setCell r v).cell? q = some u := (World.cell?_setCell_far X r q v (Ne.symm h)).trans hq
/-- What is known between two names. -/
structure RK (sc : List (Int × Bool)) (n c0 : Nat) (A0 : Option Addr) (w : World) (i : Nat) (v : Value) (W : World) : Prop where
  c3 : W.cell? ⟨w.heap.size, 0, none⟩ = some (.slice A0 n c0)
  c6 : W.cell? ⟨w.heap.size + 1 + 1, 0, none⟩ = some (.slice (some ⟨w.heap.size + 1, 0, none⟩) n n)
  sB : W.heap[w.heap.size + 1]? = some (.cells (intV (scRow sc n i)) 3 (0, 0))
  own : Kd.R (Kd.int .i64) 3 W (w.heap.size + 1 + 1 + 1) (fun _ => True) v (hitsI sc i)
  bel : Below w.heap.size w W
  big : w.heap.size + 1 + 1 + 1 ≤ W.heap.size
  vnil : hits sc i = [] → v = .slice none 0 0
section
variable {sc : List (Int × Bool)} {n c0 : Nat} {A0 : Option Addr} {w : World} {i : Nat} {v : Value} {W : World}
theorem RK.below (h : RK sc n c0 A0 w i v W) {W' : World} (hb : Below W.heap.size W W') : RK sc n c0 A0 w i v W' :=
  have hc : ∀ q u, W.cell? q = some u → W'.cell? q = some u := fun q u hq => (hb.cell (World.block_lt_of_cell? W q hq)).trans hq
  ⟨hc _ _ h.c3, hc _ _ h.c6, (hb.block _ (hp_lt h.sB)).trans h.sB, Kd.R_below h.own hb, h.bel.trans (hb.mono h.bel.size), Nat.le_trans h.big hb.size, h.vnil⟩
theorem RK.skip (h : RK sc n c0 A0 w i v W) (ho : okAt sc i = false) : RK sc n c0 A0 w (i + 1) v W :=
  ⟨h.c3, h.c6, by rw [scRow_skip sc n i ho]; exact h.sB, by unfold hitsI; rw [hits_skip sc i ho]; exact h.own, h.bel, h.big, fun hh => h.vnil (by rw [hits_skip sc i ho] at hh; exact hh)⟩
theorem RK.start {w2 : World} (hg2 : w2.heap[w.heap.size + 1]? = some (.cells (Array.replicate n (.int .i64 0)) 3 (0, 0))) (hB2 : Below w.heap.size w w2) (hs2 : w2.heap.size = w.heap.size + 1 + 1) (hcn : w2.cell? ⟨w.heap.size, 0, none⟩ = some (.slice A0 n c0)) :
    RK sc n c0 A0 w 0 (.slice none 0 0) (w2.alloc (.cells #[.slice (some ⟨w.heap.size + 1, 0, none⟩) n n] 22)) := by
  have hb : Below w2.heap.size w2 (w2.alloc (.cells #[.slice (some ⟨w.heap.size + 1, 0, none⟩) n n] 22)) := (Below.refl _ _).alloc (Nat.le_refl _) _
  have m6 := heap_alloc_new w2 (.cells #[.slice (some ⟨w.heap.size + 1, 0, none⟩) n n] 22)
  rw [hs2] at m6
  refine ⟨(hb.cell (World.block_lt_of_cell? _ _ hcn)).trans hcn, (blk_cell m6 0).trans rfl, ?_, ?_, hB2.trans (hb.mono hB2.size), ?_, fun _ => rfl⟩
  · rw [hb.block _ (hp_lt hg2), hg2, scRow_zero]
    unfold intV
    simp
  · exact Kd.R_nil _ _ _ _ _
  · rw [World.size_alloc, hs2]
    exact Nat.le_refl _
theorem names_at {l0 : List ByteArray} (hr0 : Kd.C Kd.string w A0 n l0) (hl : n = l0.length) (i : Nat) (hi : i < n) : ∃ ad, A0 = some ad ∧ ∀ j, j < n → w.cell? (ad.add j) = some (.string (nmAt l0 j)) := by
  obtain ⟨ad, h1, h2⟩ := hr0.2.2 (by omega)
  refine ⟨ad, h1, fun j hj => ?_⟩
  obtain ⟨c, c1, c2, c3⟩ := h2 j (l0[j]'(by omega)) (List.getElem?_eq_getElem (by omega))
  have hc : c = [.string (l0[j]'(by omega))] := c2
  have := c3 0 (.string (l0[j]'(by omega))) (by rw [hc]; rfl)
  have hj1 : j * Kd.string.sz + 0 = j := by show j * 1 + 0 = j; omega
  rw [hj1] at this
  rw [this]
  unfold nmAt
  rw [List.getD_eq_getElem?_getD, List.getElem?_eq_getElem (by omega)]
  rfl
/-- Behind the append and the store. -/
theorem RK.put (h : RK sc n c0 A0 w i v W) (ho : okAt sc i = true) (hi : i < n) {v1 : Value} {W1 : World} (hr : Kd.R (Kd.int .i64) 3 W1 (w.heap.size + 1 + 1 + 1) (fun _ => True) v1 (hitsI sc i ++ [(i : Int)])) (hb : Below (w.heap.size + 1 + 1 + 1) W W1) :
    W1.cell? ⟨w.heap.size + 1 + 1, 0, none⟩ = some (.slice (some ⟨w.heap.size + 1, 0, none⟩) n n) ∧ (∃ u, W1.cell? ⟨w.heap.size + 1, i, none⟩ = some u) ∧ W1.frozen? ⟨w.heap.size + 1, i, none⟩ = false ∧ RK sc n c0 A0 w (i + 1) v1 (W1.setCell ⟨w.heap.size + 1, i, none⟩ (.int .i64 (scAt sc i))) := by
  have k3 := (hb.cell (p := ⟨w.heap.size, 0, none⟩) (by dsimp only; omega)).trans h.c3
  have k6 := (hb.cell (p := ⟨w.heap.size + 1 + 1, 0, none⟩) (by dsimp only; omega)).trans h.c6
  have kB := (hb.block (w.heap.size + 1) (by omega)).trans h.sB
  refine ⟨k6, ?_, blk_frozen kB i, ?_⟩
  · refine ⟨.int .i64 ((scRow sc n i)[i]'(by rw [scRow_length]; exact hi)), (blk_cell kB i).trans ?_⟩
    unfold intV
    simp [scRow_length, hi]
  · refine ⟨cell_far' k3 (by dsimp only; omega), cell_far' k6 (by dsimp only; omega), ?_, ?_, ?_, ?_, fun hh => by rw [hits_take sc i ho] at hh; simp at hh⟩
    · have : (W1.setCell ⟨w.heap.size + 1, i, none⟩ (.int .i64 (scAt sc i))).heap[w.heap.size + 1]? = some (.cells ((intV (scRow sc n i)).setIfInBounds i (.int .i64 (scAt sc i))) 3 (0, 0)) := by simp [World.setCell, Array.getElem?_modify, kB]
      rw [this, scRow_set]
      unfold intV
      simp
    · have e : hitsI sc (i + 1) = hitsI sc i ++ [(i : Int)] := by
        unfold hitsI
        rw [hits_take sc i ho, List.map_append]
        rfl
      rw [e]
      refine Kd.R_mono (Kd.R_far (p := ⟨w.heap.size + 1, i, none⟩) (Kd.R_mono (Kd.R_bound hr) (ok' := fun k => k ≠ w.heap.size + 1) (fun k hk => by have := hk.2.1; omega)) (fun _ hk => hk) _) (fun _ _ => trivial)
    · exact (h.bel.trans (hb.mono (by omega))).setCell (p := ⟨w.heap.size + 1, i, none⟩) (by dsimp only; omega) _
    · have := hb.size
      have := h.big
      show _ ≤ (W1.setCell _ _).heap.size
      simp
      omega
end
theorem reps_scalar {w0 : World} {base : Nat} {ok : Nat → Prop} {xs : List Int} {inner : List Value} (h : Reps ((Kd.int .i64).M w0 base ok) 1 xs inner) : inner = xs.map (Value.int .i64) := by
  apply List.ext_getElem?
  intro j
  have hl : inner.length = xs.length := by rw [h.1, Nat.mul_one]
  by_cases hj : j < xs.length
  · have h2 : (inner.drop (j * 1)).take 1 = [Value.int .i64 (xs[j])] := h.2 j xs[j] (List.getElem?_eq_getElem hj)
    rw [Nat.mul_one, List.drop_eq_getElem_cons (by omega)] at h2
    simp only [List.take_succ_cons, List.take_zero, List.cons.injEq, and_true] at h2
    rw [List.getElem?_eq_getElem (by omega), h2, List.getElem?_map, List.getElem?_eq_getElem hj]
    rfl
  · rw [List.getElem?_eq_none (by omega), List.getElem?_eq_none (by rw [List.length_map]; omega)]
theorem RK.row {sc : List (Int × Bool)} {n c0 : Nat} {A0 : Option Addr} {w : World} {i : Nat} {v : Value} {W : World} (h : RK sc n c0 A0 w i v W) (hne : hits sc i ≠ []) : ∃ g cap cur, v = .slice (some ⟨g, 0, none⟩) (hits sc i).length cap ∧ w.heap.size + 1 + 1 + 1 ≤ g ∧ W.heap[g]? = some (.cells cur 3 (0, 0)) ∧ (hits sc i).length ≤ cap ∧ cap ≤ maxLen ∧ cur.size = cap ∧ cur.toList.take (hits sc i).length = (hits sc i).map (fun i : Nat => Value.int .i64 (i : Int)) := by
  obtain ⟨_, inner, ho, hr⟩ := h.own
  have hl : (hitsI sc i).length = (hits sc i).length := by unfold hitsI; rw [List.length_map]
  have hin := reps_scalar hr
  rcases ho.2 with ⟨_, h0⟩ | ⟨g, cap, cur, h1, h2, h3, h4, h5, h6, h7⟩
  · rw [hl] at h0
    exact absurd (List.length_eq_zero_iff.1 h0) hne
  · rw [hl] at h1 h4 h7
    refine ⟨g, cap, cur, h1, h2, h3, h4, h5, by rw [h6]; exact Nat.mul_one _, ?_⟩
    rw [hin] at h7
    have h8 : cur.toList.take ((hits sc i).length * 1) = (hitsI sc i).map (Value.int .i64) := h7
    rw [Nat.mul_one] at h8
    rw [h8]
    unfold hitsI
    rw [List.map_map]
    rfl
set_option maxHeartbeats 16000000 in
set_option maxRecDepth 1000000 in
theorem rank_walk (k : Nat) (a0 : ByteArray) (A0 : Option Addr) (c0 n : Nat) (l0 : List ByteArray) (sc : List (Int × Bool)) (w : World) (hn : n = l0.length) (hr0 : Kd.C Kd.string w A0 n l0) (hc0 : n ≤ c0) (hsmall : n ≤ 200) (hsc : scoresL k a0 l0 = some sc) :
    Calls Try.prog 11 #[.string a0, .slice A0 n c0] w fun e w' => ∃ v, e = .returned (.tuple #[v, .int .i64 0]) ∧ Kd.R (Kd.int .i64) 3 w' w.heap.size (fun _ => True) v (rankL l0 sc) ∧ Below w.heap.size w w' := by
  have HR0 := Aside0.mk hr0
  have HSC := Aside0.mk hsc
  have hns : (n : Int) ≤ 200 := by omega
  have hns' : ¬ (200 : Int) < (n : Int) := by omega
  have HB0 := Aside0.mk (Below.refl w.heap.size w)
  have HN := Aside0.mk hn
  clear hr0 hsc hn
  go_enter Try.func11, Try.ntmps11
  go_wp2_with (refine wpList_make_raw _ rfl _ _ 22 rfl 3 (.int .i64 0) 8 Try.underlying22 info3 rfl n rfl rfl (by omega) (by omega) w.heap.size w (by repeat (first | exact HB0.out | apply below_alloc | apply pw_below_drewN | apply below_drew1)) (by simp; try omega) ?_; intro w2 hg2 hb2 hB2 hs2; rw [World.size_alloc] at hg2 hs2; have hcn : w2.cell? ⟨w.heap.size, 0, none⟩ = some (.slice A0 n c0) := (hb2.cell (p := ⟨w.heap.size, 0, none⟩) (by simp)).trans ((blk_cell (heap_alloc_new w _) 0).trans rfl); have HW := Aside0.mk (And.intro hg2 (And.intro hB2 hs2)); clear hg2 hb2 hB2)
  have HRK := Aside0.mk (RK.start (sc := sc) HW.out.1 HW.out.2.1 HW.out.2.2 hcn)
  clear HW hcn HB0
  generalize w2.alloc (Obj.cells #[Value.slice (some { block := w.heap.size + 1, off := 0 }) n n] 22) = W1 at HRK ⊢
  go_loopw [21, 7] (fun z v wr => ∃ i : Nat, i ≤ n ∧ z = .int .i64 (i : Int) ∧ Aside0 (RK sc n c0 A0 w i v wr)) (fun z _ _ => n - (intOf z).toNat)
  case atStart => exact ⟨0, Nat.zero_le _, rfl, HRK⟩
  case round =>
    clear HRK hs2
    obtain ⟨i, hin, rfl, HK⟩ := hrel
    by_cases hlt : i < n
    · have hlz : (i : Int) < (n : Int) := by omega
      have hlz0 : (0 : Int) ≤ (i : Int) := by omega
      have hwi : IntKind.i64.wrap ((i : Int) + 1) = (i : Int) + 1 := by rw [IntKind.wrap_i64]; omega
      obtain ⟨ad, rfl, hcl⟩ := names_at HR0.out HN.out i hlt
      have hread : wr.cell? (ad.add i) = some (.string (nmAt l0 i)) := (HK.out.bel.cell (World.block_lt_of_cell? w _ (hcl i hlt))).trans (hcl i hlt)
      obtain ⟨r2, hsco⟩ := scoresL_at k a0 l0 sc HSC.out i (by have := HN.out; omega)
      obtain ⟨s, hs⟩ : ∃ s, s = (sc.getD i (0, false)).1 := ⟨_, rfl⟩
      cases hok : okAt sc i with
      | true =>
        have hok' : (sc.getD i (0, false)).2 = true := hok
        rw [hok', ← hs] at hsco
        have hsc' : scAt sc i = s := by
          unfold scAt
          rw [if_pos hok, hs]
        have HS := Aside0.mk (And.intro hsco hsc')
        have HOK := Aside0.mk hok
        clear hok hok' hsco hs hsc' hcl
        go_wp2_with (go_at_call 8; refine (fuzzy_Score.calls k a0 (nmAt l0 i) s r2 true _ HS.out.1).mono ?_; rintro e w5 ⟨v5, rfl, ho5, hb5⟩; have HK5 := Aside0.mk (HK.out.below hb5); clear ho5 hb5)
        have HK6 := Aside0.mk (HK5.out.below (below_drew1 (Below.refl _ _)))
        have hc6 := HK5.out.c6
        have hbig := HK5.out.big
        go_region_held3 (fun w' => w'.cell? ⟨w.heap.size + 1 + 1, 0, none⟩ = some (.slice (some ⟨w.heap.size + 1, 0, none⟩) n n)) (go_keep) ((refine Kd.R_append_step (Kd.int .i64) (w0 := w5.drew) (W := w5.drew) (w.heap.size + 1 + 1 + 1) (by rfl) (.tmp 37) (.tmp 39) 22 3 (.int .i64 0) 8 (by rfl) Try.underlying22 info3 rfl (by decide) (by omega) u7 (hitsI sc i) (i : Int) [.int .i64 (i : Int)] (fun _ => True) (fun _ => False) rfl rfl rfl (fun _ hk => hk.elim) (fun _ _ => trivial) HK6.out.own (Below.refl _ _) hbig (by have hh := hits_len sc i; unfold hitsI; rw [List.length_map]; omega) ?_; intro v1 w1 hr1 hb1 hg1 hat1; obtain ⟨k6, ⟨uu, kc⟩, kf, hkn⟩ := HK6.out.put HOK.out hlt hr1 hb1; have HKN := Aside0.mk hkn; clear hkn hr1 hb1 hg1 hat1))
        go_wp2_with fail
        exact ⟨⟨i + 1, by omega, by rw [Int.natCast_add]; rfl, by have hm := HKN.out; rw [HS.out.2] at hm; exact ⟨hm⟩⟩, by show n - ((i : Int) + 1).toNat < n - (i : Int).toNat; omega⟩
      | false =>
        have hok' : (sc.getD i (0, false)).2 = false := hok
        rw [hok', ← hs] at hsco
        have HS := Aside0.mk hsco
        have HOK := Aside0.mk hok
        clear hok hok' hsco hs hcl
        go_wp2_with (go_at_call 8; refine (fuzzy_Score.calls k a0 (nmAt l0 i) s r2 false _ HS.out).mono ?_; rintro e w5 ⟨v5, rfl, ho5, hb5⟩; have HK5 := Aside0.mk (HK.out.below hb5); clear ho5 hb5)
        exact ⟨⟨i + 1, by omega, by rw [Int.natCast_add]; rfl, ⟨HK5.out.skip HOK.out⟩⟩, by show n - ((i : Int) + 1).toNat < n - (i : Int).toNat; omega⟩
    · have hlz : ¬ (i : Int) < (n : Int) := by omega
      obtain rfl : i = n := by omega
      by_cases hne : hits sc i = []
      · obtain rfl := HK.out.vnil hne
        have HE := Aside0.mk hne
        clear hne
        go_wp2_with (go_at_call 16; refine (sortStable_nil _ _).mono ?_; rintro e w5 ⟨rfl, rfl⟩)
        go_ret2
        refine ⟨_, rfl, ?_, HK.out.bel⟩
        have hr : rankL l0 sc = [] := by
          unfold rankL
          rw [← HN.out, HE.out]
          rfl
        rw [hr]
        exact Kd.R_nil _ _ _ _ _
      · obtain ⟨g, cap, cur, rfl, hg, hgc, hlc, hcap, hcur, htk⟩ := HK.out.row hne
        have hpos : 0 < i := by
          rcases Nat.eq_zero_or_pos i with h0 | h0
          · subst h0
            exact absurd rfl hne
          · exact h0
        have hposl : 0 < (hits sc i).length := List.length_pos_iff.2 hne
        obtain ⟨ad, rfl, hcl⟩ := names_at HR0.out HN.out 0 hpos
        have had : ad.block < w.heap.size := by
          have := World.block_lt_of_cell? w _ (hcl 0 hpos)
          unfold Addr.add at this
          rw [if_pos rfl] at this
          exact this
        have HX := Aside0.mk (sortHits_calls l0 sc i cap c0 g (w.heap.size + 1 + 1) w.heap.size (w.heap.size + 1) w.heap.size ad cur wr HN.out hsmall hpos ((scoresL_length k a0 l0 sc HSC.out).trans HN.out.symm) HK.out.c6 HK.out.c3
          (fun j hj => by
            refine (blk_cell HK.out.sB j).trans ?_
            unfold intV
            rw [List.getElem?_toArray, List.getElem?_map, List.getElem?_eq_getElem (by rw [scRow_length]; exact hj), scRow_get, if_pos hj]
            rfl)
          (fun j hj => (HK.out.bel.cell (World.block_lt_of_cell? w _ (hcl j hj))).trans (hcl j hj)) (by omega) (by omega) (by omega) (by omega) (by omega) hgc hlc hcap hcur htk hposl)
        have HG := Aside0.mk hg
        clear hg hgc hlc hcap hcur htk hpos hposl hcl had hne
        go_wp2_with fail
        refine Calls.mono HX.out ?_
        rintro e w5 ⟨rfl, hR, hgr⟩
        have HRES := Aside0.mk (And.intro hR (HK.out.bel.grown hgr HK.out.bel.size (fun k e => by cases e; have := HG.out; omega)))
        clear hR hgr HX
        go_wp2_with fail
        go_ret2
        exact ⟨_, rfl, HRES.out.1, HRES.out.2⟩
set_option maxHeartbeats 4000000 in
set_option maxRecDepth 1000000 in
/-- More than 200 names. -/
theorem rank_many (a0 : ByteArray) (A0 : Option Addr) (c0 n : Nat) (w : World) (hn : 200 < n) :
    Calls Try.prog 11 #[.string a0, .slice A0 n c0] w fun e w' => e = .returned (.tuple #[.slice none 0 0, .int .i64 2]) ∧ Below w.heap.size w w' := by
  have hns : (200 : Int) < (n : Int) := by omega
  have HB0 := Aside0.mk (Below.refl w.heap.size w)
  go_enter Try.func11, Try.ntmps11
  go_wp2_with fail
  go_ret2
  exact ⟨rfl, by repeat (first | exact HB0.out | apply below_alloc | apply pw_below_drewN | apply below_drew1)⟩
theorem fuzzy_Rank.calls (k : Nat) (a0 : ByteArray) (A0 : Option Addr) (c0 : Nat) (l0 : List ByteArray) (r1 : List Int) (r2 : Int) (w : World) (hr0 : Kd.C Kd.string w A0 l0.length l0) (hc0 : l0.length ≤ c0) (h : fuzzy_Rank.f k a0 l0 = some (r1, r2)) :
    Calls Try.prog 11 #[.string a0, .slice A0 l0.length c0] w fun e w' => ∃ v, e = .returned (.tuple #[v, .int .i64 r2]) ∧ Kd.R (Kd.int .i64) 3 w' w.heap.size (fun _ => True) v r1 ∧ Below w.heap.size w w' := by
  unfold fuzzy_Rank.f at h
  by_cases hl : l0.length > 200
  · rw [if_pos hl] at h
    obtain ⟨rfl, rfl⟩ := Prod.mk.injEq .. ▸ Option.some.inj h
    refine (rank_many a0 A0 c0 l0.length w hl).mono ?_
    rintro e w' ⟨rfl, hb⟩
    exact ⟨_, rfl, Kd.R_nil _ _ _ _ _, hb⟩
  · rw [if_neg hl, Option.bind_eq_some_iff] at h
    obtain ⟨sc, hsc, h⟩ := h
    obtain ⟨rfl, rfl⟩ := Prod.mk.injEq .. ▸ Option.some.inj h
    exact rank_walk k a0 A0 c0 l0.length l0 sc w rfl hr0 hc0 (by omega) hsc
end Go.Proofs.Ytldhhomeifjbeaa.PA
