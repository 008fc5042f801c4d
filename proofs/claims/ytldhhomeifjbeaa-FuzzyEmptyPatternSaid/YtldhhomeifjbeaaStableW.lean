/- slices.SortStableFunc at ints: the row is put in order, walked. · slices.stableCmpFunc, slices.SortStableFunc at ints: the row is put in order, walked. -/
import Derived.Test.YtldhhomeifjbeaaSymM
namespace Go.Proofs.Ytldhhomeifjbeaa.PA
open Go.RowKit Go.Shelf Go.Sort Go.Proofs.YtldhhomeifjbeaaW.PrintWords Go.Proofs.YtldhhomeifjbeaaW.PrintLast
set_option linter.unusedVariables false
set_option linter.unusedSimpArgs false
variable {α : Type} [Inhabited α]
section
variable {R : α → α → Prop} {lt : α → α → Bool} {d d' : Array α} {a b N : Nat}
def CrsAll (R : α → α → Prop) (lt : α → α → Bool) (d : Array α) (a b : Nat) : Prop := ∀ i j, a ≤ i → i < j → j < b → lt d[j]! d[i]! = false → R d[i]! d[j]!
theorem CrsAll.sub (h : CrsAll R lt d a b) {a' b' : Nat} (ha : a ≤ a') (hb : b' ≤ b) : CrsAll R lt d a' b' := fun i j h1 h2 h3 => h i j (by omega) h2 (by omega)
theorem CrsAll.crs (h : CrsAll R lt d a b) {a' m b' : Nat} (ha : a ≤ a') (hb : b' ≤ b) : Crs R lt d a' m b' := fun i j h1 h2 h3 h4 => h i j (by omega) (by omega) (by omega)
theorem CrsAll.merged (h : CrsAll R lt d 0 N) (f : From d d' a b) (hs : Srt R d' a b) (hb : b ≤ N) : CrsAll R lt d' 0 N := fun i j h1 h2 h3 h4 => by
  by_cases ci : a ≤ i ∧ i < b
  · by_cases cj : a ≤ j ∧ j < b
    · exact hs i j ci.1 h2 cj.2
    · obtain ⟨q, q1, q2, q3⟩ := f.mem i ci.1 ci.2
      rw [f.out j (by omega), q3] at h4 ⊢
      exact h q j (by omega) (by omega) h3 h4
  · by_cases cj : a ≤ j ∧ j < b
    · obtain ⟨q, q1, q2, q3⟩ := f.mem j cj.1 cj.2
      rw [f.out i (by omega), q3] at h4 ⊢
      exact h i q (by omega) (by omega) (by omega) h4
    · rw [f.out i (by omega), f.out j (by omega)] at h4 ⊢
      exact h i j h1 h2 h3 h4
theorem swp_from (d : Array α) {i j : Nat} (hi : i < d.size) (hj : j < d.size) (hij : i ≠ j) (ai : a ≤ i) (bi : i < b) (aj : a ≤ j) (bj : j < b) : From d (swp d i j) a b := by
  refine ⟨size_swp _ _ _, fun k hk => swp_other _ _ _ _ (by omega) (by omega), fun k k1 k2 => ?_⟩
  by_cases c1 : k = i
  · subst c1
    exact ⟨j, aj, bj, swp_left _ _ _ hi hij⟩
  · by_cases c2 : k = j
    · subst c2
      exact ⟨i, ai, bi, swp_right _ _ _ hj⟩
    · exact ⟨k, k1, k2, swp_other _ _ _ _ c1 c2⟩
theorem insInner_ok (htr : ∀ x y z : α, R x y → R y z → R x z) (hlt : ∀ x y, lt x y = true → R x y) (a i : Nat) : ∀ (j : Nat) (d : Array α), a ≤ j → j ≤ i → i < d.size →
    (∀ x y, a ≤ x → x < y → y ≤ i → x ≠ j → y ≠ j → R d[x]! d[y]!) → (∀ y, j < y → y ≤ i → R d[j]! d[y]!) → (∀ x, a ≤ x → x < j → lt d[j]! d[x]! = false → R d[x]! d[j]!) →
    From d (insInner lt a j d) a (i + 1) ∧ Srt R (insInner lt a j d) a (i + 1)
  | 0, d, h1, h2, h3, p1, p2, p3 => by
    simp only [insInner]
    refine ⟨From.refl _ _ _, fun x y c1 c2 c3 => ?_⟩
    by_cases hx : x = 0
    · subst hx
      exact p2 y (by omega) (by omega)
    · exact p1 x y c1 c2 (by omega) hx (by omega)
  | j + 1, d, h1, h2, h3, p1, p2, p3 => by
    simp only [insInner]
    by_cases hc : (j + 1 > a && lt d[j + 1]! d[j]!) = true
    · rw [if_pos hc]
      rw [Bool.and_eq_true, decide_eq_true_eq] at hc
      have e1 : (swp d (j + 1) j)[j + 1]! = d[j]! := swp_left _ _ _ (by omega) (by omega)
      have e2 : (swp d (j + 1) j)[j]! = d[j + 1]! := swp_right _ _ _ (by omega)
      have e3 : ∀ k, k ≠ j + 1 → k ≠ j → (swp d (j + 1) j)[k]! = d[k]! := fun k => swp_other _ _ _ _
      have ih := insInner_ok htr hlt a i j (swp d (j + 1) j) (by omega) (by omega) (by rw [size_swp]; exact h3) (fun x y c1 c2 c3 c4 c5 => by
          by_cases hy : y = j + 1
          · subst hy
            rw [e1, e3 x (by omega) c4]
            exact p1 x j c1 (by omega) (by omega) (by omega) (by omega)
          · by_cases hx : x = j + 1
            · subst hx
              rw [e1, e3 y hy c5]
              exact p1 j y (by omega) (by omega) c3 (by omega) hy
            · rw [e3 x hx c4, e3 y hy c5]
              exact p1 x y c1 c2 c3 hx hy) (fun y c1 c2 => by
          rw [e2]
          by_cases hy : y = j + 1
          · subst hy
            rw [e1]
            exact hlt _ _ hc.2
          · rw [e3 y hy (by omega)]
            exact p2 y (by omega) c2) (fun x c1 c2 c3 => by
          rw [e2, e3 x (by omega) (by omega)] at c3
          rw [e2, e3 x (by omega) (by omega)]
          exact p3 x c1 (by omega) c3)
      exact ⟨(swp_from d (by omega) (by omega) (by omega) (by omega) (by omega) (by omega) (by omega)).trans ih.1, ih.2⟩
    · rw [if_neg hc]
      refine ⟨From.refl _ _ _, fun x y c1 c2 c3 => ?_⟩
      by_cases hx : x = j + 1
      · subst hx
        exact p2 y c2 (by omega)
      · by_cases hy : y = j + 1
        · subst hy
          have hl : lt d[j + 1]! d[j]! = false := by
            cases h : lt d[j + 1]! d[j]! with
            | false => rfl
            | true => exact absurd (by rw [Bool.and_eq_true, decide_eq_true_eq]; exact ⟨by omega, h⟩) hc
          have hj := p3 j (by omega) (by omega) hl
          by_cases hxj : x = j
          · subst hxj
            exact hj
          · exact htr _ _ _ (p1 x j c1 (by omega) (by omega) hx (by omega)) hj
        · exact p1 x y c1 c2 (by omega) hx hy
theorem insOuter_ok (htr : ∀ x y z : α, R x y → R y z → R x z) (hlt : ∀ x y, lt x y = true → R x y) (a b : Nat) : ∀ (n i : Nat) (d : Array α), b - i ≤ n → a ≤ i → i ≤ b → b ≤ d.size → Srt R d a i → CrsAll R lt d a b →
    From d (insOuter lt a b i d) a b ∧ Srt R (insOuter lt a b i d) a b := by
  intro n
  induction n with
  | zero =>
    intro i d h0 h1 h2 h3 hs hc
    rw [insOuter, if_neg (by omega)]
    obtain rfl : i = b := by omega
    exact ⟨From.refl _ _ _, hs⟩
  | succ n ih =>
    intro i d h0 h1 h2 h3 hs hc
    rw [insOuter]
    by_cases hi : i < b
    · rw [if_pos hi]
      have hin := insInner_ok htr hlt a i i d h1 (Nat.le_refl _) (by omega) (fun x y c1 c2 c3 c4 c5 => hs x y c1 c2 (by omega)) (fun y c1 c2 => by omega) (fun x c1 c2 c3 => hc x i c1 c2 hi c3)
      have hc2 : CrsAll R lt (insInner lt a i d) a b := fun x y c1 c2 c3 c4 => by
        by_cases hy : y < i + 1
        · exact hin.2 x y c1 c2 hy
        · by_cases hx : x < i + 1
          · obtain ⟨q, q1, q2, q3⟩ := hin.1.mem x c1 hx
            rw [hin.1.out y (by omega), q3] at c4 ⊢
            exact hc q y q1 (by omega) c3 c4
          · rw [hin.1.out y (by omega), hin.1.out x (by omega)] at c4 ⊢
            exact hc x y c1 c2 c3 c4
      have := ih (i + 1) _ (by omega) (by omega) (by omega) (by rw [hin.1.size]; exact h3) hin.2 hc2
      exact ⟨(hin.1.widen (Nat.le_refl _) (by omega)).trans this.1, this.2⟩
    · rw [if_neg hi]
      obtain rfl : i = b := by omega
      exact ⟨From.refl _ _ _, hs⟩
theorem insertion_ok (htr : ∀ x y z : α, R x y → R y z → R x z) (hlt : ∀ x y, lt x y = true → R x y) (a b : Nat) (d : Array α) (hab : a ≤ b) (hb : b ≤ d.size) (hc : CrsAll R lt d a b) :
    From d (Sort.insertionSort lt d a b) a b ∧ Srt R (Sort.insertionSort lt d a b) a b := by
  unfold Sort.insertionSort
  by_cases h : a < b
  · exact insOuter_ok htr hlt a b (b - (a + 1)) (a + 1) d (Nat.le_refl _) (by omega) (by omega) hb (Srt.one _ _ (Nat.le_refl _)) hc
  · rw [insOuter, if_neg (by omega)]
    exact ⟨From.refl _ _ _, Srt.one _ _ (by omega)⟩
end
theorem ins_calls (enc : α → Value) (cf : α → α → Int) (R0 : α → α → Prop) (g : Nat) (cb : Array Value) (blk off cap N : Nat) (d0 : Array α) (w0 : World) (E : Env enc cf R0 g cb blk off N d0 w0) (a b : Nat) (d : Array α) (w : World) (hs : d.size = N) (S : SW enc w0 blk off d w) (hab : a ≤ b) (hb : b ≤ N) (hc : CrsAll R0 (ltOf cf) d a b) :
    Calls Try.prog 32 #[.slice (some ⟨blk, off, none⟩) N cap, .int .i64 a, .int .i64 b, .func (.func g) #[] cb] w fun e w' => e = .returned (.tuple #[]) ∧ ∃ d', From d d' a b ∧ Srt R0 d' a b ∧ SW enc w0 blk off d' w' := by
  have h := Any.insertionSortCmpFunc_s lays20 enc cf g cb blk off cap a b d0 d w0 w E.eg (by rw [E.hs0]; exact E.hcmp) E.row (by rw [hs]; exact E.hs0) S hab (by omega) (by have := E.hsz; omega)
  rw [hs] at h
  have ok := insertion_ok E.htr E.hlt a b d hab (by omega) hc
  exact h.mono fun e w' h => ⟨h.1, _, ok.1, ok.2, h.2⟩
theorem sym_all (enc : α → Value) (cf : α → α → Int) (R0 : α → α → Prop) (g : Nat) (cb : Array Value) (blk off cap N : Nat) (d0 : Array α) (w0 : World) (E : Env enc cf R0 g cb blk off N d0 w0) : ∀ n a m b, b - a ≤ n → SymOk enc cf R0 g cb blk off cap N w0 a m b := by
  intro n
  induction n with
  | zero =>
    intro a m b h d w hs S ha hm
    omega
  | succ n ih =>
    intro a m b h
    by_cases h1 : m = a + 1
    · exact sym_left enc cf R0 g cb blk off cap N d0 w0 E a m b h1
    · by_cases h2 : b = m + 1
      · exact sym_right enc cf R0 g cb blk off cap N d0 w0 E a m b h1 h2
      · intro d w hs S ha hm
        exact sym_main enc cf R0 g cb blk off cap N d0 w0 E a m b ((a + b) / 2) h1 h2 rfl (fun s => ih a s _ (by omega)) (fun e => ih _ e b (by omega)) d w hs S ha hm
end Go.Proofs.Ytldhhomeifjbeaa.PA
namespace Go.Proofs.Ytldhhomeifjbeaa.PA
open Go.RowKit Go.Shelf Go.Sort Go.Proofs.YtldhhomeifjbeaaW.PrintWords Go.Proofs.YtldhhomeifjbeaaW.PrintLast
set_option linter.unusedVariables false
set_option linter.unusedSimpArgs false
variable {α : Type} [Inhabited α]
section
variable {R : α → α → Prop} {lt : α → α → Bool} {d d' : Array α} {a b N bs k : Nat}
/-- The row's blocks of bs elements are in order. -/
def Blk (R : α → α → Prop) (d : Array α) (bs N : Nat) : Prop := ∀ q, Srt R d (q * bs) (min ((q + 1) * bs) N)
/-- The first k blocks of bs elements are in order. -/
def Fst (R : α → α → Prop) (d : Array α) (bs k : Nat) : Prop := ∀ q, q < k → Srt R d (q * bs) ((q + 1) * bs)
/-- From block k on the blocks of bs elements are in order. -/
def Lst (R : α → α → Prop) (d : Array α) (bs N k : Nat) : Prop := ∀ q, k ≤ q → Srt R d (q * bs) (min ((q + 1) * bs) N)
theorem mul_le {x y z : Nat} (h : x ≤ y) : x * z ≤ y * z := Nat.mul_le_mul_right z h
theorem Fst.zero : Fst R d bs 0 := fun q h => by omega
theorem Fst.step (h : Fst R d bs k) (ha : a = k * bs) (hb : b = a + bs) (f : From d d' a b) (hs : Srt R d' a b) : Fst R d' bs (k + 1) := fun q hq => by
  by_cases hqk : q = k
  · subst hqk
    rw [Nat.succ_mul, ← ha, ← hb]
    exact hs
  · have : (q + 1) * bs ≤ k * bs := mul_le (by omega)
    exact (h q (by omega)).eqOn (fun x x1 x2 => f.out x (by omega))
theorem Fst.blk (h : Fst R d bs k) (ha : a = k * bs) (hN : N < a + bs) (hs : Srt R d a N) : Blk R d bs N := fun q => by
  by_cases hqk : q < k
  · exact (h q hqk).sub (Nat.le_refl _) (Nat.min_le_left _ _)
  · by_cases hq : q = k
    · subst hq
      rw [← ha]
      exact hs.sub (Nat.le_refl _) (Nat.min_le_right _ _)
    · have h1 : (k + 1) * bs ≤ q * bs := mul_le (by omega)
      rw [Nat.succ_mul, ← ha] at h1
      exact Srt.one _ _ (by have := Nat.min_le_right ((q + 1) * bs) N; omega)
theorem Fst.last (h : Fst R d bs k) (ha : a = k * bs) (f : From d d' a N) : Fst R d' bs k := fun q hq => by
  have : (q + 1) * bs ≤ k * bs := mul_le (by omega)
  exact (h q hq).eqOn (fun x x1 x2 => f.out x (by omega))
theorem Blk.lst (h : Blk R d bs N) (k : Nat) : Lst R d bs N k := fun q _ => h q
theorem Lst.at (h : Lst R d bs N (2 * k)) (ha : a = k * (2 * bs)) : Srt R d a (min (a + bs) N) := by
  have := h (2 * k) (Nat.le_refl _)
  have e : 2 * k * bs = a := by rw [ha, Nat.mul_comm 2 k, Nat.mul_assoc]
  have e1 : (2 * k + 1) * bs = a + bs := by rw [Nat.add_mul, Nat.one_mul, e]
  rwa [e1, e] at this
theorem Lst.at2 (h : Lst R d bs N (2 * k)) (ha : a = k * (2 * bs)) : Srt R d (a + bs) (min (a + 2 * bs) N) := by
  have := h (2 * k + 1) (by omega)
  have e : 2 * k * bs = a := by rw [ha, Nat.mul_comm 2 k, Nat.mul_assoc]
  have e1 : (2 * k + 1) * bs = a + bs := by rw [Nat.add_mul, Nat.one_mul, e]
  have e2 : (2 * k + 1 + 1) * bs = a + 2 * bs := by rw [Nat.add_mul, Nat.one_mul, e1]; omega
  rwa [e2, e1] at this
theorem Lst.step (h : Lst R d bs N (2 * k)) (ha : a = k * (2 * bs)) (hb : b = a + 2 * bs) (f : From d d' a b) : Lst R d' bs N (2 * (k + 1)) := fun q hq => by
  have e : 2 * k * bs = a := by rw [ha, Nat.mul_comm 2 k, Nat.mul_assoc]
  have h1 : (2 * k + 1 + 1) * bs ≤ q * bs := mul_le (by omega)
  have e1 : (2 * k + 1) * bs = a + bs := by rw [Nat.add_mul, Nat.one_mul, e]
  have e2 : (2 * k + 1 + 1) * bs = a + 2 * bs := by rw [Nat.add_mul, Nat.one_mul, e1]; omega
  rw [e2] at h1
  exact (h q (by omega)).eqOn (fun x x1 x2 => f.out x (by omega))
theorem Blk.all (h : Blk R d bs N) (hN : N ≤ bs) : Srt R d 0 N := by
  have := h 0
  rw [Nat.zero_mul, Nat.zero_add, Nat.one_mul, Nat.min_eq_right hN] at this
  exact this
end
set_option maxHeartbeats 16000000 in
set_option maxRecDepth 1000000 in
theorem stable_calls (enc : α → Value) (cf : α → α → Int) (R0 : α → α → Prop) (g : Nat) (cb : Array Value) (blk off cap N : Nat) (d0 : Array α) (w0 : World) (E : Env enc cf R0 g cb blk off N d0 w0) (d : Array α) (w : World) (hs : d.size = N) (S : SW enc w0 blk off d w) (hc : CrsAll R0 (ltOf cf) d 0 N) :
    Calls Try.prog 25 #[.slice (some ⟨blk, off, none⟩) N cap, .int .i64 N, .func (.func g) #[] cb] w fun e w' => e = .returned (.tuple #[]) ∧ ∃ d', From d d' 0 N ∧ Srt R0 d' 0 N ∧ SW enc w0 blk off d' w' := by
  have S0 : Aside (SW enc w0 blk off d w) := S
  have HE : Aside _ := E
  have H0 : Aside (CrsAll R0 (ltOf cf) d 0 N) := hc
  have hsz := E.hsz
  clear S E hc
  go_enter Try.func25, Try.ntmps25
  go_wp2
  go_loopg [7, 8] N (fun g1 va vb wr => ∃ (k a b : Nat) (dk : Array α), va = .int .i64 a ∧ vb = .int .i64 b ∧ Hid (a = k * 20) ∧ Hid (b = a + 20) ∧ a ≤ N ∧ N - a ≤ g1 ∧ Aside (From d dk 0 N ∧ CrsAll R0 (ltOf cf) dk 0 N ∧ Fst R0 dk 20 k) ∧ Aside (SW enc w0 blk off dk wr))
  case atStart => exact ⟨0, 0, 20, d, rfl, rfl, (Nat.zero_mul _).symm, (Nat.zero_add _).symm, Nat.zero_le _, Nat.le_refl _, ⟨From.refl _ _ _, H0.out, Fst.zero⟩, S0⟩
  case round =>
    clear S0 H0
    obtain ⟨k, a, b, dk, rfl, rfl, ka, kb, haN, hg1, H1, S1⟩ := hrel
    by_cases hlt : b ≤ N
    · have hltz : (b : Int) ≤ (N : Int) := by omega
      have r1 : IntKind.i64.wrap ((b : Int) + 20) = ((b + 20 : Nat) : Int) := by rw [IntKind.wrap_i64]; omega
      go_wp2_with fail
      refine (ins_calls enc cf R0 g cb blk off cap N d0 w0 HE.out a b dk _ (by rw [H1.out.1.size, hs]) S1.out (by have := kb.out; omega) hlt (H1.out.2.1.sub (Nat.zero_le _) hlt)).mono ?_
      rintro e1 w1 ⟨rfl, d1, f1, s1, hS⟩
      have HD : Aside (From d d1 0 N ∧ CrsAll R0 (ltOf cf) d1 0 N ∧ Fst R0 d1 20 (k + 1)) := ⟨H1.out.1.trans (f1.widen (Nat.zero_le _) hlt), H1.out.2.1.merged f1 s1 hlt, H1.out.2.2.step ka.out kb.out f1 s1⟩
      have SD : Aside _ := hS
      clear f1 s1 hS S1 H1
      go_wp2_with fail
      go_roundg (N - b)
      case measure => have := kb.out; omega
      case rel => exact ⟨k + 1, b, b + 20, d1, rfl, by first | rfl | go_num, by have := ka.out; have := kb.out; show b = (k + 1) * 20; omega, rfl, hlt, Nat.le_refl _, HD, SD⟩
    · have hltz : ¬ (b : Int) ≤ (N : Int) := by omega
      go_wp2_with fail
      refine (ins_calls enc cf R0 g cb blk off cap N d0 w0 HE.out a N dk _ (by rw [H1.out.1.size, hs]) S1.out haN (Nat.le_refl _) (H1.out.2.1.sub (Nat.zero_le _) (Nat.le_refl _))).mono ?_
      rintro e1 w1 ⟨rfl, d1, f1, s1, hS⟩
      have HD : Aside (From d d1 0 N ∧ CrsAll R0 (ltOf cf) d1 0 N ∧ Blk R0 d1 20 N) := ⟨H1.out.1.trans (f1.widen (Nat.zero_le _) (Nat.le_refl _)), H1.out.2.1.merged f1 s1 (Nat.le_refl _), (H1.out.2.2.last ka.out f1).blk ka.out (by have := kb.out; omega) s1⟩
      have SD : Aside _ := hS
      clear f1 s1 hS S1 H1
      go_wp2_with fail
      go_loopg [6] N (fun g2 vs wr => ∃ (bs : Nat) (dk : Array α), vs = .int .i64 bs ∧ 0 < bs ∧ N - bs ≤ g2 ∧ Aside (From d dk 0 N ∧ CrsAll R0 (ltOf cf) dk 0 N ∧ Blk R0 dk bs N) ∧ Aside (SW enc w0 blk off dk wr))
      case atStart => exact ⟨20, d1, rfl, by omega, by omega, HD, SD⟩
      case round =>
        clear HD SD ka kb hg1 hlt hltz haN
        obtain ⟨bs, d2, rfl, hbs, hg2, H2, S2⟩ := hrel
        by_cases hlt : bs < N
        · have hltz : (bs : Int) < (N : Int) := by omega
          obtain ⟨b2, HB2⟩ : ∃ q, Hid (q = 2 * bs) := ⟨_, rfl⟩
          have r2 : IntKind.i64.wrap (2 * (bs : Int)) = (b2 : Int) := by have := HB2.out; rw [IntKind.wrap_i64]; omega
          go_wp2_with fail
          go_loopg [7, 8] N (fun g3 va vb wr => ∃ (k a b : Nat) (dk : Array α), va = .int .i64 a ∧ vb = .int .i64 b ∧ Hid (a = k * (2 * bs)) ∧ Hid (b = a + 2 * bs) ∧ a ≤ N ∧ N - a ≤ g3 ∧ Aside (From d dk 0 N ∧ CrsAll R0 (ltOf cf) dk 0 N ∧ Fst R0 dk (2 * bs) k ∧ Lst R0 dk bs N (2 * k)) ∧ Aside (SW enc w0 blk off dk wr))
          case atStart => exact ⟨0, 0, b2, d2, rfl, rfl, (Nat.zero_mul _).symm, by have := HB2.out; show b2 = 0 + 2 * bs; omega, Nat.zero_le _, Nat.le_refl _, ⟨H2.out.1, H2.out.2.1, Fst.zero, H2.out.2.2.lst _⟩, S2⟩
          case round =>
            clear H2 S2
            obtain ⟨k, a, b, dk, rfl, rfl, ka, kb, haN, hg3, H3, S3⟩ := hrel
            obtain ⟨m, HM⟩ : ∃ q, Hid (q = a + bs) := ⟨_, rfl⟩
            have r3 : IntKind.i64.wrap ((a : Int) + (bs : Int)) = (m : Int) := by have := HM.out; rw [IntKind.wrap_i64]; omega
            by_cases hb : b ≤ N
            · have hbz : (b : Int) ≤ (N : Int) := by omega
              obtain ⟨bb, HBB⟩ : ∃ q, Hid (q = b + b2) := ⟨_, rfl⟩
              have r4 : IntKind.i64.wrap ((b : Int) + (b2 : Int)) = (bb : Int) := by have := HBB.out; have := HB2.out; rw [IntKind.wrap_i64]; omega
              go_wp2_with fail
              refine (sym_all enc cf R0 g cb blk off cap N d0 w0 HE.out (b - a) a m b (Nat.le_refl _) dk _ (by rw [H3.out.1.size, hs]) S3.out (by have := HM.out; omega) (by have := HM.out; have := kb.out; omega) hb (by have h := H3.out.2.2.2.at ka.out; rw [← HM.out, Nat.min_eq_left (by have := HM.out; have := kb.out; omega)] at h; exact h) (by have h := H3.out.2.2.2.at2 ka.out; rw [← HM.out, ← kb.out, Nat.min_eq_left hb] at h; exact h) (H3.out.2.1.crs (Nat.zero_le _) hb)).mono ?_
              rintro e2 w2 ⟨rfl, d3, f3, s3, hS⟩
              have HD3 : Aside (From d d3 0 N ∧ CrsAll R0 (ltOf cf) d3 0 N ∧ Fst R0 d3 (2 * bs) (k + 1) ∧ Lst R0 d3 bs N (2 * (k + 1))) := ⟨H3.out.1.trans (f3.widen (Nat.zero_le _) hb), H3.out.2.1.merged f3 s3 hb, H3.out.2.2.1.step ka.out kb.out f3 s3, H3.out.2.2.2.step ka.out kb.out f3⟩
              have S4 : Aside _ := hS
              clear f3 s3 hS S3 H3
              go_wp2_with fail
              go_roundg (N - b)
              case measure => have := kb.out; omega
              case rel => exact ⟨k + 1, b, bb, d3, rfl, rfl, by have := ka.out; have := kb.out; show b = (k + 1) * (2 * bs); rw [Nat.succ_mul]; omega, by have := HBB.out; have := HB2.out; show bb = b + 2 * bs; omega, hb, Nat.le_refl _, HD3, S4⟩
            · have hbz : ¬ (b : Int) ≤ (N : Int) := by omega
              have r5 : IntKind.i64.wrap ((bs : Int) * 2) = (b2 : Int) := by have := HB2.out; rw [IntKind.wrap_i64]; omega
              by_cases hm : m < N
              · have hmz : (m : Int) < (N : Int) := by omega
                go_wp2_with fail
                refine (sym_all enc cf R0 g cb blk off cap N d0 w0 HE.out (N - a) a m N (Nat.le_refl _) dk _ (by rw [H3.out.1.size, hs]) S3.out (by have := HM.out; omega) hm (Nat.le_refl _) (by have h := H3.out.2.2.2.at ka.out; rw [← HM.out, Nat.min_eq_left (by omega)] at h; exact h) (by have h := H3.out.2.2.2.at2 ka.out; rw [← HM.out, ← kb.out, Nat.min_eq_right (by omega)] at h; exact h) (H3.out.2.1.crs (Nat.zero_le _) (Nat.le_refl _))).mono ?_
                rintro e2 w2 ⟨rfl, d3, f3, s3, hS⟩
                have HD3 : Aside (From d d3 0 N ∧ CrsAll R0 (ltOf cf) d3 0 N ∧ Blk R0 d3 (2 * bs) N) := ⟨H3.out.1.trans (f3.widen (Nat.zero_le _) (Nat.le_refl _)), H3.out.2.1.merged f3 s3 (Nat.le_refl _), (H3.out.2.2.1.last ka.out f3).blk ka.out (by have := kb.out; omega) s3⟩
                have S4 : Aside _ := hS
                clear f3 s3 hS S3 H3
                go_wp2_with fail
                go_roundg (N - b2)
                case measure => have := HB2.out; omega
                case rel => exact ⟨b2, d3, rfl, by have := HB2.out; omega, Nat.le_refl _, by rw [HB2.out]; exact HD3, S4⟩
              · have hmz : ¬ (m : Int) < (N : Int) := by omega
                have HD3 : Aside (From d dk 0 N ∧ CrsAll R0 (ltOf cf) dk 0 N ∧ Blk R0 dk (2 * bs) N) := ⟨H3.out.1, H3.out.2.1, H3.out.2.2.1.blk ka.out (by have := kb.out; omega) (by have h := H3.out.2.2.2.at ka.out; rw [← HM.out, Nat.min_eq_right (by omega)] at h; exact h)⟩
                clear H3
                go_wp2_with fail
                go_roundg (N - b2)
                case measure => have := HB2.out; omega
                case rel => exact ⟨b2, dk, rfl, by have := HB2.out; omega, Nat.le_refl _, by rw [HB2.out]; exact HD3, S3⟩
        · have hltz : ¬ (bs : Int) < (N : Int) := by omega
          go_wp2_with fail
          go_end0
          exact ⟨rfl, d2, H2.out.1, H2.out.2.2.all (by omega), S2.out⟩
theorem sortStable_calls (enc : α → Value) (cf : α → α → Int) (R0 : α → α → Prop) (g : Nat) (cb : Array Value) (blk off cap N : Nat) (d0 : Array α) (w0 : World) (E : Env enc cf R0 g cb blk off N d0 w0) (d : Array α) (w : World) (hs : d.size = N) (S : SW enc w0 blk off d w) (hc : CrsAll R0 (ltOf cf) d 0 N) :
    Calls Try.prog 16 #[.slice (some ⟨blk, off, none⟩) N cap, .func (.func g) #[] cb] w fun e w' => e = .returned (.tuple #[]) ∧ ∃ d', From d d' 0 N ∧ Srt R0 d' 0 N ∧ SW enc w0 blk off d' w' := by
  have HX : Aside _ := stable_calls enc cf R0 g cb blk off cap N d0 w0 E d w hs S hc
  have hsz := E.hsz
  clear E S hc
  go_enter Try.func16, Try.ntmps16
  go_wp2_with fail
  refine Calls.mono HX.out ?_
  rintro e2 w2 ⟨rfl, d3, f3, s3, hS⟩
  go_wp2_with fail
  go_end0
  exact ⟨rfl, d3, f3, s3, hS⟩
end Go.Proofs.Ytldhhomeifjbeaa.PA
