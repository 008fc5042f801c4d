/- slices.swapRangeCmpFunc and slices.rotateCmpFunc at ints: what they do to the row, walked. Printed by fuzzy/mkSwap.py. · A part of a row turned round: plain law. No walk. · slices.rotateCmpFunc at ints: what it does to the row, walked. -/
import Derived.Test.YtldhhomeifjbeaaIns
import Derived.Sort.Lot0
namespace Go.Proofs.Ytldhhomeifjbeaa.PA
open Go.RowKit Go.Shelf Go.Sort Go.Proofs.YtldhhomeifjbeaaW.PrintWords Go.Proofs.YtldhhomeifjbeaaW.PrintLast
set_option linter.unusedVariables false
set_option linter.unusedSimpArgs false
variable {α : Type} [Inhabited α]
def swapR (d : Array α) (a b : Nat) : Nat → Array α
  | 0 => d
  | n + 1 => swp (swapR d a b n) (a + n) (b + n)
theorem swapR_size (d : Array α) (a b n : Nat) : (swapR d a b n).size = d.size := by
  induction n with
  | zero => rfl
  | succ n ih => simp only [swapR, size_swp, ih]
set_option maxHeartbeats 16000000 in
set_option maxRecDepth 1000000 in
theorem swapRange_calls (enc : α → Value) (fv : Value) (blk off cap N a b n : Nat) (d0 d : Array α) (w0 w : World) (R : Row1 enc w0 blk off d0) (hs0 : d0.size = N) (hs : d.size = N) (S : SW enc w0 blk off d w) (ha : a + n ≤ N) (hb : b + n ≤ N) (hsz : N < 1000000) :
    Calls Try.prog 38 #[.slice (some ⟨blk, off, none⟩) N cap, .int .i64 a, .int .i64 b, .int .i64 n, fv] w fun e w' => e = .returned (.tuple #[]) ∧ SW enc w0 blk off (swapR d a b n) w' := by
  have S0 : Aside (SW enc w0 blk off d w) := S
  have hcl0 := R.hO.cells
  simp only [Value.cells] at hcl0
  have hst := R.hO.store Try.prog
  clear S
  go_enter Try.func38, Try.ntmps38
  go_wp2
  go_loopg [10] n (fun g1 vi wr => ∃ i : Nat, vi = .int .i64 i ∧ i ≤ n ∧ n - i ≤ g1 ∧ Aside (SW enc w0 blk off (swapR d a b i) wr))
  case atStart => exact ⟨0, rfl, Nat.zero_le _, by omega, S0⟩
  case round =>
    clear S0
    obtain ⟨i, rfl, hin, hg1, S1⟩ := hrel
    have hsk := swapR_size d a b i
    by_cases hlt : i < n
    · have hltz : (i : Int) < (n : Int) := by omega
      go_wp2_with fail
      obtain ⟨iN1, hiN1⟩ : ∃ q, q = a + i := ⟨_, rfl⟩
      obtain ⟨jN1, hjN1⟩ : ∃ q, q = b + i := ⟨_, rfl⟩
      have ea1 : ((a : Int) + (i : Int)).toNat = iN1 := by omega
      have pa1 : (0 : Int) ≤ (a : Int) + (i : Int) := by omega
      have ba1 : (a : Int) + (i : Int) < (N : Int) := by omega
      have ra1 : IntKind.i64.wrap ((a : Int) + (i : Int)) = (a : Int) + (i : Int) := by rw [IntKind.wrap_i64]; omega
      have ec1 : ((b : Int) + (i : Int)).toNat = jN1 := by omega
      have pc1 : (0 : Int) ≤ (b : Int) + (i : Int) := by omega
      have bc1 : (b : Int) + (i : Int) < (N : Int) := by omega
      have rc1 : IntKind.i64.wrap ((b : Int) + (i : Int)) = (b : Int) + (i : Int) := by rw [IntKind.wrap_i64]; omega
      obtain ⟨x1, hx1⟩ : ∃ x, x = (swapR d a b i)[a + i]! := ⟨_, rfl⟩
      obtain ⟨y1, hy1⟩ : ∃ x, x = (swapR d a b i)[b + i]! := ⟨_, rfl⟩
      have S1_ : Aside (SW enc w0 blk off (swp (swapR d a b i) (a + i) (b + i)) ((wr.setCell ⟨blk, off + iN1, none⟩ (enc y1)).setCell ⟨blk, off + jN1, none⟩ (enc x1)).drew) := by rw [hiN1, hjN1, hx1, hy1]; exact S1.out.swapped R (a + i) (b + i) (by omega) (by omega)
      have c1a := S1.out.c1 R (by omega) (a + i) (by omega)
      have c1b := S1.out.c1 R (by omega) (b + i) (by omega)
      have f1a := S1.out.f1 R (by omega) (a + i) (by omega)
      have f1b := S1.out.f1 R (by omega) (b + i) (by omega)
      obtain ⟨u1, c1c⟩ := S1.out.c2 R (by omega) (a + i) (b + i) (by omega) (by omega) (enc y1)
      rw [← hjN1, ← hiN1] at c1c
      rw [← hx1, ← hiN1] at c1a
      rw [← hy1, ← hjN1] at c1b
      rw [← hiN1] at f1a
      rw [← hjN1] at f1b
      clear S1 hx1 hy1 hiN1 hjN1
      go_wp2_with fail
      go_big_region
      clear c1a c1b c1c f1a f1b
      generalize ((wr.setCell ⟨blk, off + iN1, none⟩ (enc y1)).setCell ⟨blk, off + jN1, none⟩ (enc x1)).drew = w2 at S1_ ⊢
      clear ea1 ec1 pa1 pc1 ba1 bc1 ra1 rc1
      have hwi : IntKind.i64.wrap ((i : Int) + 1) = (i : Int) + 1 := by rw [IntKind.wrap_i64]; omega
      go_wp2
      go_roundg (n - (i + 1))
      case measure => omega
      case rel => exact ⟨i + 1, by first | rfl | go_num, by omega, Nat.le_refl _, S1_⟩
    · have hltz : ¬ (i : Int) < (n : Int) := by omega
      obtain rfl : i = n := by omega
      go_wp2
      go_end0
      exact ⟨rfl, S1.out⟩
end Go.Proofs.Ytldhhomeifjbeaa.PA
namespace Go.Proofs.Ytldhhomeifjbeaa.PA
open Go.RowKit Go.Shelf Go.Sort Go.Proofs.YtldhhomeifjbeaaW.PrintWords Go.Proofs.YtldhhomeifjbeaaW.PrintLast
set_option linter.unusedVariables false
set_option linter.unusedSimpArgs false
variable {α : Type} [Inhabited α]
def swI (a b n k : Nat) : Nat := if a ≤ k ∧ k < a + n then k + (b - a) else if b ≤ k ∧ k < b + n then k - (b - a) else k
theorem swapR_get (d : Array α) (a b : Nat) : ∀ n, a + n ≤ b → b + n ≤ d.size → ∀ k, (swapR d a b n)[k]! = d[swI a b n k]!
  | 0, _, _, k => by
    unfold swI
    rw [if_neg (by omega), if_neg (by omega)]
    rfl
  | n + 1, h1, h2, k => by
    have ih := swapR_get d a b n (by omega) (by omega)
    simp only [swapR]
    by_cases hka : k = a + n
    · subst hka
      rw [swp_left _ _ _ (by rw [swapR_size]; omega) (by omega), ih]
      congr 1
      unfold swI
      repeat' split
      all_goals omega
    · by_cases hkb : k = b + n
      · subst hkb
        rw [swp_right _ _ _ (by rw [swapR_size]; omega), ih]
        congr 1
        unfold swI
        repeat' split
        all_goals omega
      · rw [swp_other _ _ _ _ (by omega) (by omega), ih]
        congr 1
        unfold swI
        repeat' split
        all_goals omega
def rotI (a m b k : Nat) : Nat := if k < a then k else if k < a + (b - m) then k + (m - a) else if k < b then k - (b - m) else k
def Rot (d : Array α) (a m b : Nat) (d' : Array α) : Prop := d'.size = d.size ∧ ∀ k, d'[k]! = d[rotI a m b k]!
theorem rot_gt (d : Array α) {i j m : Nat} (h : j < i) (h0 : 0 < j) (h1 : i ≤ m) (h2 : m + j ≤ d.size) {d' : Array α} (hr : Rot (swapR d (m - i) m j) (m - (i - j)) m (m + j) d') : Rot d (m - i) m (m + j) d' := by
  refine ⟨by rw [hr.1, swapR_size], fun k => ?_⟩
  rw [hr.2, swapR_get _ _ _ _ (by omega) (by omega)]
  congr 1
  unfold rotI swI
  repeat' split
  all_goals omega
theorem rot_lt (d : Array α) {i j m : Nat} (h : i < j) (h0 : 0 < i) (h1 : i ≤ m) (h2 : m + j ≤ d.size) {d' : Array α} (hr : Rot (swapR d (m - i) (m + j - i) i) (m - i) m (m + (j - i)) d') : Rot d (m - i) m (m + j) d' := by
  refine ⟨by rw [hr.1, swapR_size], fun k => ?_⟩
  rw [hr.2, swapR_get _ _ _ _ (by omega) (by omega)]
  congr 1
  unfold rotI swI
  repeat' split
  all_goals omega
theorem rot_eq (d : Array α) {i m : Nat} (h1 : i ≤ m) (h2 : m + i ≤ d.size) : Rot d (m - i) m (m + i) (swapR d (m - i) m i) := by
  refine ⟨swapR_size _ _ _ _, fun k => ?_⟩
  rw [swapR_get _ _ _ _ (by omega) (by omega)]
  congr 1
  unfold rotI swI
  repeat' split
  all_goals omega
end Go.Proofs.Ytldhhomeifjbeaa.PA
namespace Go.Proofs.Ytldhhomeifjbeaa.PA
open Go.RowKit Go.Shelf Go.Sort Go.Proofs.YtldhhomeifjbeaaW.PrintWords Go.Proofs.YtldhhomeifjbeaaW.PrintLast
set_option linter.unusedVariables false
set_option linter.unusedSimpArgs false
variable {α : Type} [Inhabited α]
set_option maxHeartbeats 16000000 in
set_option maxRecDepth 1000000 in
theorem rotate_calls (enc : α → Value) (fv : Value) (blk off cap N a m b : Nat) (d0 d : Array α) (w0 w : World) (R : Row1 enc w0 blk off d0) (hs0 : d0.size = N) (hs : d.size = N) (S : SW enc w0 blk off d w) (ha : a < m) (hm : m < b) (hb : b ≤ N) (hsz : N < 1000000) :
    Calls Try.prog 37 #[.slice (some ⟨blk, off, none⟩) N cap, .int .i64 a, .int .i64 m, .int .i64 b, fv] w fun e w' => e = .returned (.tuple #[]) ∧ ∃ d', Rot d a m b d' ∧ SW enc w0 blk off d' w' := by
  have S0 : Aside (SW enc w0 blk off d w) := S
  have HR : Aside (Row1 enc w0 blk off d0) := R
  obtain ⟨i0, hi0⟩ : ∃ q, q + a = m := ⟨m - a, by omega⟩
  obtain ⟨j0, hj0⟩ : ∃ q, q + m = b := ⟨b - m, by omega⟩
  have r1 : IntKind.i64.wrap ((m : Int) - (a : Int)) = (i0 : Int) := by rw [IntKind.wrap_i64]; omega
  have r2 : IntKind.i64.wrap ((b : Int) - (m : Int)) = (j0 : Int) := by rw [IntKind.wrap_i64]; omega
  clear S R
  go_enter Try.func37, Try.ntmps37
  go_wp2
  go_loopg [10, 11] (b - a) (fun g1 vi vj wr => ∃ (i j : Nat) (dk : Array α), vi = .int .i64 i ∧ vj = .int .i64 j ∧ 0 < i ∧ 0 < j ∧ i ≤ m - a ∧ j ≤ b - m ∧ i + j ≤ g1 ∧ Aside (dk.size = N) ∧ Aside (SW enc w0 blk off dk wr) ∧ Hid (∀ d', Rot dk (m - i) m (m + j) d' → Rot d a m b d'))
  case atStart => exact ⟨i0, j0, d, rfl, rfl, by omega, by omega, by omega, by omega, by omega, hs, S0, fun d' h => by rw [show m - i0 = a by omega, show m + j0 = b by omega] at h; exact h⟩
  case round =>
    clear S0 r1 r2
    obtain ⟨i, j, dk, rfl, rfl, hi0, hj0, hia, hjb, hg1, hsk, S1, HR1⟩ := hrel
    obtain ⟨mi, HQ⟩ : ∃ q, Hid (q = m - i) := ⟨_, rfl⟩
    have w1 : IntKind.i64.wrap ((m : Int) - (i : Int)) = (mi : Int) := by have := HQ.out; rw [IntKind.wrap_i64]; omega
    by_cases hij : i = j
    · subst hij
      go_wp2_with (go_at_call 38; refine (swapRange_calls enc fv blk off cap N mi m i d0 dk w0 _ HR.out hs0 hsk.out S1.out (by have := HQ.out; omega) (by omega) (by omega)).mono ?_; rintro e w' ⟨rfl, hS⟩)
      go_end0
      rw [HQ.out] at hS
      exact ⟨rfl, _, HR1.out _ (rot_eq dk (by omega) (by rw [hsk.out]; omega)), hS⟩
    · have hijz : ((i : Int) != (j : Int)) = true := bne_iff_ne.mpr (by omega)
      have hijz' : ((i : Int) == (j : Int)) = false := beq_eq_false_iff_ne.mpr (by omega)
      have hijn : ¬ (i : Int) = (j : Int) := by omega
      by_cases hgt : j < i
      · have hgz : (j : Int) < (i : Int) := by omega
        obtain ⟨ij, HQ2⟩ : ∃ q, Hid (q = i - j) := ⟨_, rfl⟩
        have w2 : IntKind.i64.wrap ((i : Int) - (j : Int)) = (ij : Int) := by have := HQ2.out; rw [IntKind.wrap_i64]; omega
        go_wp2_with (go_at_call 38; refine (swapRange_calls enc fv blk off cap N mi m j d0 dk w0 _ HR.out hs0 hsk.out S1.out (by have := HQ.out; omega) (by omega) (by omega)).mono ?_; rintro e w' ⟨rfl, hS⟩)
        go_roundg (i + j - 1)
        case measure => omega
        case rel =>
          rw [HQ.out] at hS
          exact ⟨ij, j, _, rfl, rfl, by have := HQ2.out; omega, by omega, by have := HQ2.out; omega, by omega, by have := HQ2.out; omega, (by rw [swapR_size]; exact hsk.out), hS, fun d' h => HR1.out _ (rot_gt dk hgt hj0 (by omega) (by rw [hsk.out]; omega) (by rw [HQ2.out] at h; exact h))⟩
      · have hgz : ¬ (j : Int) < (i : Int) := by omega
        obtain ⟨ji, HQ2⟩ : ∃ q, Hid (q = j - i) := ⟨_, rfl⟩
        obtain ⟨mj, HQ3⟩ : ∃ q, Hid (q = m + j) := ⟨_, rfl⟩
        obtain ⟨mji, HQ4⟩ : ∃ q, Hid (q = m + j - i) := ⟨_, rfl⟩
        have w2 : IntKind.i64.wrap ((j : Int) - (i : Int)) = (ji : Int) := by have := HQ2.out; rw [IntKind.wrap_i64]; omega
        have w3 : IntKind.i64.wrap ((m : Int) + (j : Int)) = (mj : Int) := by have := HQ3.out; rw [IntKind.wrap_i64]; omega
        have w4 : IntKind.i64.wrap ((mj : Int) - (i : Int)) = (mji : Int) := by have := HQ3.out; have := HQ4.out; rw [IntKind.wrap_i64]; omega
        go_wp2_with (go_at_call 38; refine (swapRange_calls enc fv blk off cap N mi mji i d0 dk w0 _ HR.out hs0 hsk.out S1.out (by have := HQ.out; omega) (by have := HQ4.out; omega) (by omega)).mono ?_; rintro e w' ⟨rfl, hS⟩)
        go_roundg (i + j - 1)
        case measure => omega
        case rel =>
          rw [HQ.out, HQ4.out] at hS
          exact ⟨i, ji, _, rfl, rfl, by omega, by have := HQ2.out; omega, by omega, by have := HQ2.out; omega, by have := HQ2.out; omega, (by rw [swapR_size]; exact hsk.out), hS, fun d' h => HR1.out _ (rot_lt dk (by omega) hi0 (by omega) (by rw [hsk.out]; omega) (by rw [HQ2.out] at h; exact h))⟩
end Go.Proofs.Ytldhhomeifjbeaa.PA
