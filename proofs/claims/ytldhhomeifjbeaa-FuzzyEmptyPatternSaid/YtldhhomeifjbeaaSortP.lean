/- Two sorted parts of a row merged (by turning parts round), and the blocks of a stable sort: plain law. No walk. -/
import Derived.Test.YtldhhomeifjbeaaRot
import Derived.Sort.Statements
namespace Go.Proofs.Ytldhhomeifjbeaa.PA
open Go.RowKit Go.Shelf Go.Sort
set_option linter.unusedVariables false
set_option linter.unusedSimpArgs false
variable {α : Type} [Inhabited α] {R : α → α → Prop} {lt : α → α → Bool} {d d1 d2 d3 : Array α} {a b m s e : Nat}
def Srt (R : α → α → Prop) (d : Array α) (a b : Nat) : Prop := ∀ i j, a ≤ i → i < j → j < b → R d[i]! d[j]!
def Crs (R : α → α → Prop) (lt : α → α → Bool) (d : Array α) (a m b : Nat) : Prop := ∀ i j, a ≤ i → i < m → m ≤ j → j < b → lt d[j]! d[i]! = false → R d[i]! d[j]!
structure From (d d' : Array α) (a b : Nat) : Prop where
  size : d'.size = d.size
  out : ∀ k, k < a ∨ b ≤ k → d'[k]! = d[k]!
  mem : ∀ k, a ≤ k → k < b → ∃ q, a ≤ q ∧ q < b ∧ d'[k]! = d[q]!
theorem From.refl (d : Array α) (a b : Nat) : From d d a b := ⟨rfl, fun _ _ => rfl, fun k h1 h2 => ⟨k, h1, h2, rfl⟩⟩
theorem From.trans (h : From d d1 a b) (g : From d1 d2 a b) : From d d2 a b := by
  refine ⟨g.size.trans h.size, fun k hk => (g.out k hk).trans (h.out k hk), fun k h1 h2 => ?_⟩
  obtain ⟨q, q1, q2, q3⟩ := g.mem k h1 h2
  obtain ⟨r, r1, r2, r3⟩ := h.mem q q1 q2
  exact ⟨r, r1, r2, q3.trans r3⟩
theorem From.widen (h : From d d1 a b) {a' b' : Nat} (ha : a' ≤ a) (hb : b ≤ b') : From d d1 a' b' := by
  refine ⟨h.size, fun k hk => h.out k (by omega), fun k h1 h2 => ?_⟩
  by_cases hk : a ≤ k ∧ k < b
  · obtain ⟨q, q1, q2, q3⟩ := h.mem k hk.1 hk.2
    exact ⟨q, by omega, by omega, q3⟩
  · exact ⟨k, h1, h2, h.out k (by omega)⟩
theorem Srt.eqOn (h : Srt R d a b) (he : ∀ k, a ≤ k → k < b → d1[k]! = d[k]!) : Srt R d1 a b := fun i j h1 h2 h3 => by
  rw [he i h1 (by omega), he j (by omega) h3]
  exact h i j h1 h2 h3
theorem Crs.eqOn (h : Crs R lt d a m b) (he : ∀ k, a ≤ k → k < b → d1[k]! = d[k]!) : Crs R lt d1 a m b := fun i j h1 h2 h3 h4 => by
  rw [he i h1 (by omega), he j (by omega) h4]
  exact h i j h1 h2 h3 h4
theorem Srt.sub (h : Srt R d a b) {a' b' : Nat} (ha : a ≤ a') (hb : b' ≤ b) : Srt R d a' b' := fun i j h1 h2 h3 => h i j (by omega) h2 (by omega)
theorem Srt.one (R : α → α → Prop) (d : Array α) (h : b ≤ a + 1) : Srt R d a b := fun i j h1 h2 h3 => by omega
theorem Srt.join (h1 : Srt R d a m) (h2 : Srt R d m b) (hx : ∀ i j, a ≤ i → i < m → m ≤ j → j < b → R d[i]! d[j]!) : Srt R d a b := fun i j ha hij hb => by
  by_cases hi : i < m
  · by_cases hj : j < m
    · exact h1 i j ha hij hj
    · exact hx i j ha hi (by omega) hb
  · exact h2 i j (by omega) hij hb
theorem Srt.le (h : Srt R d a b) (i j : Nat) (ha : a ≤ i) (hij : i ≤ j) (hb : j < b) : i = j ∨ R d[i]! d[j]! := by
  by_cases he : i = j
  · exact .inl he
  · exact .inr (h i j ha (by omega) hb)
/-- From i to p, then R, then from q to j. -/
theorem chain {β : Type} {R : β → β → Prop} (htr : ∀ x y z : β, R x y → R y z → R x z) {u v w z : β} (h1 : u = v ∨ R u v) (h2 : R v w) (h3 : w = z ∨ R w z) : R u z := by
  rcases h1 with rfl | h1
  · rcases h3 with rfl | h3
    · exact h2
    · exact htr _ _ _ h2 h3
  · rcases h3 with rfl | h3
    · exact htr _ _ _ h1 h2
    · exact htr _ _ _ h1 (htr _ _ _ h2 h3)
theorem Srt.leV (h : Srt R d a b) (i j : Nat) (ha : a ≤ i) (hij : i ≤ j) (hb : j < b) : d[i]! = d[j]! ∨ R d[i]! d[j]! := (h.le i j ha hij hb).imp (fun h => by rw [h]) id
theorem rot_a (hr : Rot d s m e d1) (h1 : s ≤ m) (h2 : m ≤ e) (k : Nat) (h : k < s) : d1[k]! = d[k]! := by
  rw [hr.2]
  congr 1
  unfold rotI
  rw [if_pos h]
theorem rot_b (hr : Rot d s m e d1) (h1 : s ≤ m) (h2 : m ≤ e) (k : Nat) (h : s ≤ k) (h' : k < s + (e - m)) : d1[k]! = d[k + (m - s)]! := by
  rw [hr.2]
  congr 1
  unfold rotI
  rw [if_neg (by omega), if_pos h']
theorem rot_c (hr : Rot d s m e d1) (h1 : s ≤ m) (h2 : m ≤ e) (k : Nat) (h : s + (e - m) ≤ k) (h' : k < e) : d1[k]! = d[k - (e - m)]! := by
  rw [hr.2]
  congr 1
  unfold rotI
  rw [if_neg (by omega), if_neg (by omega), if_pos h']
theorem rot_d (hr : Rot d s m e d1) (h1 : s ≤ m) (h2 : m ≤ e) (k : Nat) (h : e ≤ k) : d1[k]! = d[k]! := by
  rw [hr.2]
  congr 1
  unfold rotI
  rw [if_neg (by omega), if_neg (by omega), if_neg (by omega)]
theorem rot_from (hr : Rot d s m e d1) (h1 : s ≤ m) (h2 : m ≤ e) (ha : a ≤ s) (hb : e ≤ b) : From d d1 a b := by
  refine ⟨hr.1, fun k hk => ?_, fun k k1 k2 => ?_⟩
  · by_cases h : k < s
    · exact rot_a hr h1 h2 k h
    · exact rot_d hr h1 h2 k (by omega)
  · by_cases c1 : k < s
    · exact ⟨k, k1, k2, rot_a hr h1 h2 k c1⟩
    · by_cases c2 : k < s + (e - m)
      · exact ⟨k + (m - s), by omega, by omega, rot_b hr h1 h2 k (by omega) c2⟩
      · by_cases c3 : k < e
        · exact ⟨k - (e - m), by omega, by omega, rot_c hr h1 h2 k (by omega) c3⟩
        · exact ⟨k, k1, k2, rot_d hr h1 h2 k (by omega)⟩
structure Parts (R : α → α → Prop) (d1 : Array α) (a s mid e b : Nat) : Prop where
  p1 : Srt R d1 a s
  p2 : Srt R d1 s mid
  p3 : Srt R d1 mid e
  p4 : Srt R d1 e b
  px : ∀ i j, a ≤ i → i < mid → mid ≤ j → j < b → R d1[i]! d1[j]!
theorem parts (hr : Rot d s m e d1) (h1 : s ≤ m) (h2 : m ≤ e) (htr : ∀ x y z : α, R x y → R y z → R x z) (ha : a ≤ s) (hb : e ≤ b) (l1 : Srt R d a m) (l2 : Srt R d m b)
    (q1 : a < s → e < b → R d[s - 1]! d[e]!) (q2 : s < m → m < e → R d[e - 1]! d[s]!) : Parts R d1 a s (s + (e - m)) e b := by
  refine ⟨fun i j i1 i2 i3 => ?_, fun i j i1 i2 i3 => ?_, fun i j i1 i2 i3 => ?_, fun i j i1 i2 i3 => ?_, fun i j i1 i2 i3 i4 => ?_⟩
  · rw [rot_a hr h1 h2 i (by omega), rot_a hr h1 h2 j i3]
    exact l1 i j i1 i2 (by omega)
  · rw [rot_b hr h1 h2 i (by omega) (by omega), rot_b hr h1 h2 j (by omega) i3]
    exact l2 _ _ (by omega) (by omega) (by omega)
  · rw [rot_c hr h1 h2 i (by omega) (by omega), rot_c hr h1 h2 j (by omega) i3]
    exact l1 _ _ (by omega) (by omega) (by omega)
  · rw [rot_d hr h1 h2 i (by omega), rot_d hr h1 h2 j (by omega)]
    exact l2 _ _ (by omega) (by omega) (by omega)
  · by_cases c1 : i < s
    · rw [rot_a hr h1 h2 i c1]
      by_cases c2 : j < e
      · rw [rot_c hr h1 h2 j i3 c2]
        exact l1 _ _ i1 (by omega) (by omega)
      · rw [rot_d hr h1 h2 j (by omega)]
        exact chain htr (l1.leV i (s - 1) i1 (by omega) (by omega)) (q1 (by omega) (by omega)) (l2.leV e j (by omega) (by omega) i4)
    · rw [rot_b hr h1 h2 i (by omega) i2]
      by_cases c2 : j < e
      · rw [rot_c hr h1 h2 j i3 c2]
        exact chain htr (l2.leV (i + (m - s)) (e - 1) (by omega) (by omega) (by omega)) (q2 (by omega) (by omega)) (l1.leV s (j - (e - m)) (by omega) (by omega) (by omega))
      · rw [rot_d hr h1 h2 j (by omega)]
        exact l2 _ _ (by omega) (by omega) (by omega)
theorem crs_left (hr : Rot d s m e d1) (h1 : s ≤ m) (h2 : m ≤ e) (ha : a ≤ s) (hb : e ≤ b) (hc : Crs R lt d a m b) : Crs R lt d1 a s (s + (e - m)) := fun i j i1 i2 i3 i4 => by
  rw [rot_a hr h1 h2 i (by omega), rot_b hr h1 h2 j (by omega) (by omega)]
  exact hc i _ i1 (by omega) (by omega) (by omega)
theorem crs_right (hr : Rot d s m e d1) (h1 : s ≤ m) (h2 : m ≤ e) (ha : a ≤ s) (hb : e ≤ b) (hc : Crs R lt d a m b) : Crs R lt d1 (s + (e - m)) e b := fun i j i1 i2 i3 i4 => by
  rw [rot_c hr h1 h2 i (by omega) (by omega), rot_d hr h1 h2 j (by omega)]
  exact hc _ j (by omega) (by omega) (by omega) (by omega)
theorem rot_none (h : s = m ∨ e = m) (h1 : s ≤ m) (h2 : m ≤ e) : Rot d s m e d := by
  refine ⟨rfl, fun k => ?_⟩
  congr 1
  unfold rotI
  repeat' split
  all_goals omega
/-- Both halves merged. -/
theorem sym_final {mid : Nat} (ha : a ≤ mid) (hb : mid ≤ b) (h0 : From d d1 a b) (hx : ∀ i j, a ≤ i → i < mid → mid ≤ j → j < b → R d1[i]! d1[j]!) (f2 : From d1 d2 a mid) (s2 : Srt R d2 a mid) (f3 : From d2 d3 mid b) (s3 : Srt R d3 mid b) : From d d3 a b ∧ Srt R d3 a b := by
  refine ⟨(h0.trans (f2.widen (Nat.le_refl _) hb)).trans (f3.widen ha (Nat.le_refl _)), Srt.join (s2.eqOn (fun k k1 k2 => f3.out k (by omega))) s3 (fun i j i1 i2 i3 i4 => ?_)⟩
  rw [f3.out i (by omega)]
  obtain ⟨q, q1, q2, q3⟩ := f2.mem i i1 i2
  obtain ⟨r, r1, r2, r3⟩ := f3.mem j i3 i4
  rw [q3, r3, f2.out r (by omega)]
  exact hx q r q1 q2 r1 r2
/-- One element on the left. -/
theorem one_left (htr : ∀ x y z : α, R x y → R y z → R x z) (hlt : ∀ x y, lt x y = true → R x y) (hm : m = a + 1) {i : Nat} (hmi : m ≤ i) (hib : i ≤ b) (l2 : Srt R d m b) (hc : Crs R lt d a m b)
    (q1 : i = m ∨ lt d[i - 1]! d[a]! = true) (q2 : i = b ∨ lt d[i]! d[a]! = false) (hr : Rot d a m i d1) : From d d1 a b ∧ Srt R d1 a b := by
  have P := parts hr (by omega) hmi htr (Nat.le_refl a) hib (Srt.one R d (by omega)) l2 (fun h => by omega) (fun _ h => hlt _ _ (q1.resolve_left (by omega)))
  refine ⟨rot_from hr (by omega) hmi (Nat.le_refl _) hib, Srt.join P.p2 ?_ P.px⟩
  refine Srt.join P.p3 P.p4 (fun x y x1 x2 x3 x4 => ?_)
  rw [rot_c hr (by omega) hmi x x1 x2, rot_d hr (by omega) hmi y x3, show x - (i - m) = a by omega]
  have hi : i < b := by omega
  exact chain htr (.inl rfl) (hc a i (Nat.le_refl _) (by omega) hmi hi (q2.resolve_left (by omega))) (l2.leV i y (by omega) x3 x4)
/-- One element on the right. -/
theorem one_right (htr : ∀ x y z : α, R x y → R y z → R x z) (hlt : ∀ x y, lt x y = true → R x y) (hm : b = m + 1) {i : Nat} (hai : a ≤ i) (him : i ≤ m) (l1 : Srt R d a m) (hc : Crs R lt d a m b)
    (q1 : i = a ∨ lt d[m]! d[i - 1]! = false) (q2 : i = m ∨ lt d[m]! d[i]! = true) (hr : Rot d i m b d1) : From d d1 a b ∧ Srt R d1 a b := by
  have P := parts hr him (by omega) htr hai (Nat.le_refl b) l1 (Srt.one R d (by omega)) (fun _ h => by omega) (fun h _ => by rw [show b - 1 = m by omega]; exact hlt _ _ (q2.resolve_left (by omega)))
  refine ⟨rot_from hr him (by omega) hai (Nat.le_refl _), Srt.join (m := i + (b - m)) ?_ P.p3 P.px⟩
  refine Srt.join P.p1 P.p2 (fun x y x1 x2 x3 x4 => ?_)
  rw [rot_a hr him (by omega) x x2, rot_b hr him (by omega) y x3 x4, show y + (m - i) = m by omega]
  exact chain htr (l1.leV x (i - 1) x1 (by omega) (by omega)) (hc (i - 1) m (by omega) (by omega) (Nat.le_refl _) (by omega) (q1.resolve_left (by omega))) (.inl rfl)
theorem rot_up {k : Nat} (hr : Rot d a (a + 1) (k + 1) d1) (h1 : a ≤ k) (h2 : k + 1 < d.size) : Rot d a (a + 1) (k + 1 + 1) (swp d1 k (k + 1)) := by
  have hs := hr.1
  refine ⟨by rw [size_swp, hs], fun x => ?_⟩
  by_cases e1 : x = k
  · subst e1
    rw [swp_left _ _ _ (by omega) (by omega), hr.2]
    congr 1
    unfold rotI
    repeat' split
    all_goals omega
  · by_cases e2 : x = k + 1
    · subst e2
      rw [swp_right _ _ _ (by omega), hr.2]
      congr 1
      unfold rotI
      repeat' split
      all_goals omega
    · rw [swp_other _ _ _ _ e1 e2, hr.2]
      congr 1
      unfold rotI
      repeat' split
      all_goals omega
theorem rot_down {k : Nat} (hr : Rot d (k + 1) m (m + 1) d1) (h1 : k + 1 ≤ m) (h2 : m < d.size) : Rot d k m (m + 1) (swp d1 (k + 1) k) := by
  have hs := hr.1
  refine ⟨by rw [size_swp, hs], fun x => ?_⟩
  by_cases e1 : x = k + 1
  · subst e1
    rw [swp_left _ _ _ (by omega) (by omega), hr.2]
    congr 1
    unfold rotI
    repeat' split
    all_goals omega
  · by_cases e2 : x = k
    · subst e2
      rw [swp_right _ _ _ (by omega), hr.2]
      congr 1
      unfold rotI
      repeat' split
      all_goals omega
    · rw [swp_other _ _ _ _ e1 e2, hr.2]
      congr 1
      unfold rotI
      repeat' split
      all_goals omega
end Go.Proofs.Ytldhhomeifjbeaa.PA
