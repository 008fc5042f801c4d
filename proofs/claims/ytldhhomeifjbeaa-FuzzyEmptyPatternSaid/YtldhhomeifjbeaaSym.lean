/- slices.symMergeCmpFunc at ints: two sorted parts of the row are merged, walked. Printed by fuzzy/mkSym.py. -/
import Derived.Test.YtldhhomeifjbeaaRot
import Derived.Test.YtldhhomeifjbeaaSortP
namespace Go.Proofs.Ytldhhomeifjbeaa.PA
open Go.RowKit Go.Shelf Go.Sort Go.Proofs.YtldhhomeifjbeaaW.PrintWords Go.Proofs.YtldhhomeifjbeaaW.PrintLast
set_option linter.unusedVariables false
set_option linter.unusedSimpArgs false
variable {α : Type} [Inhabited α]
structure Env (enc : α → Value) (cf : α → α → Int) (R : α → α → Prop) (g : Nat) (cb : Array Value) (blk off N : Nat) (d0 : Array α) (w0 : World) : Prop where
  eg : ∀ args w, (callFunc g args).run Try.prog w = .ok (.enter g args) w
  hcmp : CmpLays1 Try.prog g cb enc cf blk off N w0
  row : Row1 enc w0 blk off d0
  hs0 : d0.size = N
  hsz : N < 1000000
  htr : ∀ x y z : α, R x y → R y z → R x z
  hlt : ∀ x y : α, ltOf cf x y = true → R x y
def SymOk (enc : α → Value) (cf : α → α → Int) (R : α → α → Prop) (g : Nat) (cb : Array Value) (blk off cap N : Nat) (w0 : World) (a m b : Nat) : Prop :=
  ∀ (d : Array α) (w : World), d.size = N → SW enc w0 blk off d w → a < m → m < b → b ≤ N → Srt R d a m → Srt R d m b → Crs R (ltOf cf) d a m b →
    Calls Try.prog 33 #[.slice (some ⟨blk, off, none⟩) N cap, .int .i64 a, .int .i64 m, .int .i64 b, .func (.func g) #[] cb] w fun e w' => e = .returned (.tuple #[]) ∧ ∃ d', From d d' a b ∧ Srt R d' a b ∧ SW enc w0 blk off d' w'
set_option maxHeartbeats 16000000 in
set_option maxRecDepth 1000000 in
theorem sym_left (enc : α → Value) (cf : α → α → Int) (R0 : α → α → Prop) (g : Nat) (cb : Array Value) (blk off cap N : Nat) (d0 : Array α) (w0 : World) (E : Env enc cf R0 g cb blk off N d0 w0) (a m b : Nat) (hma : m = a + 1) : SymOk enc cf R0 g cb blk off cap N w0 a m b := by
  intro d w hs S ha hm hb l1 l2 hc
  have S0 : Aside (SW enc w0 blk off d w) := S
  have HE : Aside _ := And.intro l2 (And.intro hc (And.intro E.htr E.hlt))
  have R := E.row
  have eg := E.eg
  have mixed : Try.prog.follows .mixedOrders = true := by kernel_rfl
  have HC : Aside _ := E.hcmp
  have hsz := E.hsz
  have hs0 := E.hs0
  have hcl0 := R.hO.cells
  simp only [Value.cells] at hcl0
  have hst := R.hO.store Try.prog
  have r1 : IntKind.i64.wrap ((m : Int) - (a : Int)) = 1 := by rw [IntKind.wrap_i64]; omega
  have HMA : Hid (m = a + 1) := hma
  clear S E l1 l2 hc hma
  go_enter Try.func33, Try.ntmps33
  go_wp2
  go_loopg [10, 11] (b - m) (fun g1 vi vj wr => ∃ (i j : Nat), vi = .int .i64 i ∧ vj = .int .i64 j ∧ m ≤ i ∧ i ≤ j ∧ j ≤ b ∧ j - i ≤ g1 ∧ Aside (SW enc w0 blk off d wr) ∧ Hid (i = m ∨ ltOf cf d[i - 1]! d[a]! = true) ∧ Hid (j = b ∨ ltOf cf d[j]! d[a]! = false))
  case atStart => exact ⟨m, b, rfl, rfl, Nat.le_refl _, by omega, Nat.le_refl _, Nat.le_refl _, S0, .inl rfl, .inl rfl⟩
  case round =>
    clear S0 r1
    obtain ⟨i, j, rfl, rfl, hmi, hij, hjb, hg1, S1, q1, q2⟩ := hrel
    by_cases hlt : i < j
    · have hltz : (i : Int) < (j : Int) := by omega
      have s1 : IntKind.i64.wrap ((i : Int) + (j : Int)) = (i : Int) + (j : Int) := by rw [IntKind.wrap_i64]; omega
      obtain ⟨h, HH⟩ : ∃ q, Hid (q = (i + j) / 2) := ⟨_, rfl⟩
      have hh : ((i : Int) + (j : Int)) / 2 = (h : Int) := by have := HH.out; omega
      have hih : i ≤ h := by have := HH.out; omega
      have hhj : h < j := by have := HH.out; omega
      have s2 : IntKind.i64.wrap ((h : Int) + 1) = (h : Int) + 1 := by rw [IntKind.wrap_i64]; omega
      go_wp2_with fail
      cases hlv : ltOf cf d[h]! d[a]! with
      | true =>
        obtain ⟨iN1, hiN1⟩ : ∃ q, q = h := ⟨_, rfl⟩
        obtain ⟨jN1, hjN1⟩ : ∃ q, q = a := ⟨_, rfl⟩
        have ea1 : ((h : Int)).toNat = iN1 := by omega
        have pa1 : (0 : Int) ≤ (h : Int) := by omega
        have ba1 : (h : Int) < (N : Int) := by omega
        have ra1 : IntKind.i64.wrap ((h : Int)) = (h : Int) := by rw [IntKind.wrap_i64]; omega
        have ec1 : ((a : Int)).toNat = jN1 := by omega
        have pc1 : (0 : Int) ≤ (a : Int) := by omega
        have bc1 : (a : Int) < (N : Int) := by omega
        have rc1 : IntKind.i64.wrap ((a : Int)) = (a : Int) := by rw [IntKind.wrap_i64]; omega
        obtain ⟨x1, hx1⟩ : ∃ x, x = d[h]! := ⟨_, rfl⟩
        obtain ⟨y1, hy1⟩ : ∃ x, x = d[a]! := ⟨_, rfl⟩
        have l1a := S1.out.cl R (by omega) (h) (by omega)
        have l1b := S1.out.cl R (by omega) (a) (by omega)
        rw [← hx1, ← hiN1] at l1a
        rw [← hy1, ← hjN1] at l1b
        have hc1 := S1.out.cmp HC.out (by omega) x1 y1
        have hv1 : cf x1 y1 < 0 := by rw [hx1, hy1]; exact of_decide_eq_true hlv
        have hd1 : decide (cf x1 y1 < 0) = true := decide_eq_true hv1
        clear hx1 hy1 hiN1 hjN1
        go_wp2_with fail
        go_quiet_grown (first | (go_at_fn g; refine Calls.grown_of (hc1 _ _)))
        have S1_ : Aside (SW enc w0 blk off d (grow (wr.drewN nq) osq)) := S1.out.grown nq osq
        clear l1a l1b hc1 S1
        generalize grow (wr.drewN nq) osq = w2 at S1_ ⊢
        clear nq osq
        clear ea1 ec1 pa1 pc1 ba1 bc1 ra1 rc1 hv1 hd1
        go_wp2
        go_roundg (j - (h + 1))
        case measure => omega
        case rel => exact ⟨h + 1, j, by first | rfl | go_num, rfl, by omega, by omega, hjb, Nat.le_refl _, S1_, .inr hlv, q2⟩
      | false =>
        obtain ⟨iN2, hiN2⟩ : ∃ q, q = h := ⟨_, rfl⟩
        obtain ⟨jN2, hjN2⟩ : ∃ q, q = a := ⟨_, rfl⟩
        have ea2 : ((h : Int)).toNat = iN2 := by omega
        have pa2 : (0 : Int) ≤ (h : Int) := by omega
        have ba2 : (h : Int) < (N : Int) := by omega
        have ra2 : IntKind.i64.wrap ((h : Int)) = (h : Int) := by rw [IntKind.wrap_i64]; omega
        have ec2 : ((a : Int)).toNat = jN2 := by omega
        have pc2 : (0 : Int) ≤ (a : Int) := by omega
        have bc2 : (a : Int) < (N : Int) := by omega
        have rc2 : IntKind.i64.wrap ((a : Int)) = (a : Int) := by rw [IntKind.wrap_i64]; omega
        obtain ⟨x2, hx2⟩ : ∃ x, x = d[h]! := ⟨_, rfl⟩
        obtain ⟨y2, hy2⟩ : ∃ x, x = d[a]! := ⟨_, rfl⟩
        have l2a := S1.out.cl R (by omega) (h) (by omega)
        have l2b := S1.out.cl R (by omega) (a) (by omega)
        rw [← hx2, ← hiN2] at l2a
        rw [← hy2, ← hjN2] at l2b
        have hc2 := S1.out.cmp HC.out (by omega) x2 y2
        have hv2 : ¬ cf x2 y2 < 0 := by rw [hx2, hy2]; exact of_decide_eq_false hlv
        have hd2 : decide (cf x2 y2 < 0) = false := decide_eq_false hv2
        clear hx2 hy2 hiN2 hjN2
        go_wp2_with fail
        go_quiet_grown (first | (go_at_fn g; refine Calls.grown_of (hc2 _ _)))
        have S2_ : Aside (SW enc w0 blk off d (grow (wr.drewN nq) osq)) := S1.out.grown nq osq
        clear l2a l2b hc2 S1
        generalize grow (wr.drewN nq) osq = w2 at S2_ ⊢
        clear nq osq
        clear ea2 ec2 pa2 pc2 ba2 bc2 ra2 rc2 hv2 hd2
        go_wp2
        go_roundg (h - i)
        case measure => omega
        case rel => exact ⟨i, h, rfl, rfl, hmi, hih, by omega, Nat.le_refl _, S2_, q1, .inr hlv⟩
    · have hltz : ¬ (i : Int) < (j : Int) := by omega
      obtain rfl : i = j := by omega
      have s1 : IntKind.i64.wrap ((i : Int) - 1) = (i : Int) - 1 := by rw [IntKind.wrap_i64]; omega
      go_wp2_with fail
      go_loopg [13] (i - a) (fun g1 vk wr2 => ∃ (k : Nat) (dk : Array α), vk = .int .i64 k ∧ a ≤ k ∧ k + 1 ≤ i ∧ i - k ≤ g1 ∧ Aside (dk.size = N) ∧ Aside (SW enc w0 blk off dk wr2) ∧ Hid (Rot d a (a + 1) (k + 1) dk))
      case atStart => exact ⟨a, d, rfl, Nat.le_refl _, by have := HMA.out; omega, Nat.le_refl _, hs, S1, rot_none (.inr rfl) (by omega) (Nat.le_refl _)⟩
      case round =>
        clear S1
        obtain ⟨k, dk, rfl, hak, hki, hg2, hsk, SK, HK⟩ := hrel
        by_cases hkl : k + 1 < i
        · have hkz : (k : Int) < (i : Int) - 1 := by omega
          have hskN := hsk.out
          go_wp2_with fail
          obtain ⟨iN3, hiN3⟩ : ∃ q, q = k := ⟨_, rfl⟩
          obtain ⟨jN3, hjN3⟩ : ∃ q, q = k + 1 := ⟨_, rfl⟩
          have ea3 : ((k : Int)).toNat = iN3 := by omega
          have pa3 : (0 : Int) ≤ (k : Int) := by omega
          have ba3 : (k : Int) < (N : Int) := by omega
          have ra3 : IntKind.i64.wrap ((k : Int)) = (k : Int) := by rw [IntKind.wrap_i64]; omega
          have ec3 : ((k : Int) + 1).toNat = jN3 := by omega
          have pc3 : (0 : Int) ≤ (k : Int) + 1 := by omega
          have bc3 : (k : Int) + 1 < (N : Int) := by omega
          have rc3 : IntKind.i64.wrap ((k : Int) + 1) = (k : Int) + 1 := by rw [IntKind.wrap_i64]; omega
          obtain ⟨x3, hx3⟩ : ∃ x, x = dk[k]! := ⟨_, rfl⟩
          obtain ⟨y3, hy3⟩ : ∃ x, x = dk[k + 1]! := ⟨_, rfl⟩
          have S3_ : Aside (SW enc w0 blk off (swp dk (k) (k + 1)) ((wr.setCell ⟨blk, off + iN3, none⟩ (enc y3)).setCell ⟨blk, off + jN3, none⟩ (enc x3)).drew) := by rw [hiN3, hjN3, hx3, hy3]; exact SK.out.swapped R (k) (k + 1) (by omega) (by omega)
          have c3a := SK.out.c1 R (by omega) (k) (by omega)
          have c3b := SK.out.c1 R (by omega) (k + 1) (by omega)
          have f3a := SK.out.f1 R (by omega) (k) (by omega)
          have f3b := SK.out.f1 R (by omega) (k + 1) (by omega)
          obtain ⟨u3, c3c⟩ := SK.out.c2 R (by omega) (k) (k + 1) (by omega) (by omega) (enc y3)
          rw [← hjN3, ← hiN3] at c3c
          rw [← hx3, ← hiN3] at c3a
          rw [← hy3, ← hjN3] at c3b
          rw [← hiN3] at f3a
          rw [← hjN3] at f3b
          clear SK hx3 hy3 hiN3 hjN3
          go_wp2_with fail
          go_big_region
          clear c3a c3b c3c f3a f3b
          generalize ((wr.setCell ⟨blk, off + iN3, none⟩ (enc y3)).setCell ⟨blk, off + jN3, none⟩ (enc x3)).drew = w3 at S3_ ⊢
          clear ea3 ec3 pa3 pc3 ba3 bc3 ra3 rc3
          have s3 : IntKind.i64.wrap ((k : Int) + 1) = (k : Int) + 1 := by rw [IntKind.wrap_i64]; omega
          go_wp2
          go_roundg (i - (k + 1))
          case measure => omega
          case rel => exact ⟨k + 1, _, by first | rfl | go_num, by omega, by omega, Nat.le_refl _, (by rw [size_swp]; exact hsk.out), S3_, rot_up HK.out hak (by omega)⟩
        · have hkz : ¬ (k : Int) < (i : Int) - 1 := by omega
          go_wp2
          (try simp only [Exit.inBlock, Exit.then])
          refine bodyPost_ret (results_none rfl _ _ _) rfl ?_
          have hk1 : k + 1 = i := by omega
          have hr : Rot d a m i dk := by
            have := HK.out
            rw [hk1, ← HMA.out] at this
            exact this
          have F := one_left HE.out.2.2.1 HE.out.2.2.2 HMA.out hmi hjb HE.out.1 HE.out.2.1 q1.out q2.out hr
          exact ⟨rfl, dk, F.1, F.2, SK.out⟩
set_option maxHeartbeats 16000000 in
set_option maxRecDepth 1000000 in
theorem sym_right (enc : α → Value) (cf : α → α → Int) (R0 : α → α → Prop) (g : Nat) (cb : Array Value) (blk off cap N : Nat) (d0 : Array α) (w0 : World) (E : Env enc cf R0 g cb blk off N d0 w0) (a m b : Nat) (hma : m ≠ a + 1) (hmb : b = m + 1) : SymOk enc cf R0 g cb blk off cap N w0 a m b := by
  intro d w hs S ha hm hb l1 l2 hc
  have S0 : Aside (SW enc w0 blk off d w) := S
  have HE : Aside _ := And.intro l1 (And.intro hc (And.intro E.htr E.hlt))
  have R := E.row
  have eg := E.eg
  have mixed : Try.prog.follows .mixedOrders = true := by kernel_rfl
  have HC : Aside _ := E.hcmp
  have hsz := E.hsz
  have hs0 := E.hs0
  have hcl0 := R.hO.cells
  simp only [Value.cells] at hcl0
  have hst := R.hO.store Try.prog
  obtain ⟨ma, HMM⟩ : ∃ q, Hid (q = m - a) := ⟨_, rfl⟩
  have r1 : IntKind.i64.wrap ((m : Int) - (a : Int)) = (ma : Int) := by have := HMM.out; rw [IntKind.wrap_i64]; omega
  have r1a : ¬ (ma : Int) = 1 := by have := HMM.out; omega
  have r1b : ((ma : Int) == 1) = false := beq_eq_false_iff_ne.mpr r1a
  have r2 : IntKind.i64.wrap ((b : Int) - (m : Int)) = 1 := by rw [IntKind.wrap_i64]; omega
  have HMA : Hid (b = m + 1) := hmb
  clear S E l1 l2 hc hma hmb
  go_enter Try.func33, Try.ntmps33
  go_wp2
  go_loopg [14, 15] (m - a) (fun g1 vi vj wr => ∃ (i j : Nat), vi = .int .i64 i ∧ vj = .int .i64 j ∧ a ≤ i ∧ i ≤ j ∧ j ≤ m ∧ j - i ≤ g1 ∧ Aside (SW enc w0 blk off d wr) ∧ Hid (i = a ∨ ltOf cf d[m]! d[i - 1]! = false) ∧ Hid (j = m ∨ ltOf cf d[m]! d[j]! = true))
  case atStart => exact ⟨a, m, rfl, rfl, Nat.le_refl _, by omega, Nat.le_refl _, Nat.le_refl _, S0, .inl rfl, .inl rfl⟩
  case round =>
    clear S0 r1 r1a r1b r2
    obtain ⟨i, j, rfl, rfl, hmi, hij, hjb, hg1, S1, q1, q2⟩ := hrel
    by_cases hlt : i < j
    · have hltz : (i : Int) < (j : Int) := by omega
      have s1 : IntKind.i64.wrap ((i : Int) + (j : Int)) = (i : Int) + (j : Int) := by rw [IntKind.wrap_i64]; omega
      obtain ⟨h, HH⟩ : ∃ q, Hid (q = (i + j) / 2) := ⟨_, rfl⟩
      have hh : ((i : Int) + (j : Int)) / 2 = (h : Int) := by have := HH.out; omega
      have hih : i ≤ h := by have := HH.out; omega
      have hhj : h < j := by have := HH.out; omega
      have s2 : IntKind.i64.wrap ((h : Int) + 1) = (h : Int) + 1 := by rw [IntKind.wrap_i64]; omega
      go_wp2_with fail
      cases hlv : ltOf cf d[m]! d[h]! with
      | true =>
        obtain ⟨iN4, hiN4⟩ : ∃ q, q = m := ⟨_, rfl⟩
        obtain ⟨jN4, hjN4⟩ : ∃ q, q = h := ⟨_, rfl⟩
        have ea4 : ((m : Int)).toNat = iN4 := by omega
        have pa4 : (0 : Int) ≤ (m : Int) := by omega
        have ba4 : (m : Int) < (N : Int) := by omega
        have ra4 : IntKind.i64.wrap ((m : Int)) = (m : Int) := by rw [IntKind.wrap_i64]; omega
        have ec4 : ((h : Int)).toNat = jN4 := by omega
        have pc4 : (0 : Int) ≤ (h : Int) := by omega
        have bc4 : (h : Int) < (N : Int) := by omega
        have rc4 : IntKind.i64.wrap ((h : Int)) = (h : Int) := by rw [IntKind.wrap_i64]; omega
        obtain ⟨x4, hx4⟩ : ∃ x, x = d[m]! := ⟨_, rfl⟩
        obtain ⟨y4, hy4⟩ : ∃ x, x = d[h]! := ⟨_, rfl⟩
        have l4a := S1.out.cl R (by omega) (m) (by omega)
        have l4b := S1.out.cl R (by omega) (h) (by omega)
        rw [← hx4, ← hiN4] at l4a
        rw [← hy4, ← hjN4] at l4b
        have hc4 := S1.out.cmp HC.out (by omega) x4 y4
        have hv4 : cf x4 y4 < 0 := by rw [hx4, hy4]; exact of_decide_eq_true hlv
        have hd4 : decide (cf x4 y4 < 0) = true := decide_eq_true hv4
        clear hx4 hy4 hiN4 hjN4
        go_wp2_with fail
        go_quiet_grown (first | (go_at_fn g; refine Calls.grown_of (hc4 _ _)))
        have S4_ : Aside (SW enc w0 blk off d (grow (wr.drewN nq) osq)) := S1.out.grown nq osq
        clear l4a l4b hc4 S1
        generalize grow (wr.drewN nq) osq = w2 at S4_ ⊢
        clear nq osq
        clear ea4 ec4 pa4 pc4 ba4 bc4 ra4 rc4 hv4 hd4
        go_wp2
        go_roundg (h - i)
        case measure => omega
        case rel => exact ⟨i, h, rfl, rfl, hmi, hih, by omega, Nat.le_refl _, S4_, q1, .inr hlv⟩
      | false =>
        obtain ⟨iN5, hiN5⟩ : ∃ q, q = m := ⟨_, rfl⟩
        obtain ⟨jN5, hjN5⟩ : ∃ q, q = h := ⟨_, rfl⟩
        have ea5 : ((m : Int)).toNat = iN5 := by omega
        have pa5 : (0 : Int) ≤ (m : Int) := by omega
        have ba5 : (m : Int) < (N : Int) := by omega
        have ra5 : IntKind.i64.wrap ((m : Int)) = (m : Int) := by rw [IntKind.wrap_i64]; omega
        have ec5 : ((h : Int)).toNat = jN5 := by omega
        have pc5 : (0 : Int) ≤ (h : Int) := by omega
        have bc5 : (h : Int) < (N : Int) := by omega
        have rc5 : IntKind.i64.wrap ((h : Int)) = (h : Int) := by rw [IntKind.wrap_i64]; omega
        obtain ⟨x5, hx5⟩ : ∃ x, x = d[m]! := ⟨_, rfl⟩
        obtain ⟨y5, hy5⟩ : ∃ x, x = d[h]! := ⟨_, rfl⟩
        have l5a := S1.out.cl R (by omega) (m) (by omega)
        have l5b := S1.out.cl R (by omega) (h) (by omega)
        rw [← hx5, ← hiN5] at l5a
        rw [← hy5, ← hjN5] at l5b
        have hc5 := S1.out.cmp HC.out (by omega) x5 y5
        have hv5 : ¬ cf x5 y5 < 0 := by rw [hx5, hy5]; exact of_decide_eq_false hlv
        have hd5 : decide (cf x5 y5 < 0) = false := decide_eq_false hv5
        clear hx5 hy5 hiN5 hjN5
        go_wp2_with fail
        go_quiet_grown (first | (go_at_fn g; refine Calls.grown_of (hc5 _ _)))
        have S5_ : Aside (SW enc w0 blk off d (grow (wr.drewN nq) osq)) := S1.out.grown nq osq
        clear l5a l5b hc5 S1
        generalize grow (wr.drewN nq) osq = w2 at S5_ ⊢
        clear nq osq
        clear ea5 ec5 pa5 pc5 ba5 bc5 ra5 rc5 hv5 hd5
        go_wp2
        go_roundg (j - (h + 1))
        case measure => omega
        case rel => exact ⟨h + 1, j, by first | rfl | go_num, rfl, by omega, by omega, hjb, Nat.le_refl _, S5_, .inr hlv, q2⟩
    · have hltz : ¬ (i : Int) < (j : Int) := by omega
      obtain rfl : i = j := by omega
      go_wp2_with fail
      go_loopg [17] (m - i) (fun g1 vk wr2 => ∃ (k : Nat) (dk : Array α), vk = .int .i64 k ∧ i ≤ k ∧ k ≤ m ∧ k - i ≤ g1 ∧ Aside (dk.size = N) ∧ Aside (SW enc w0 blk off dk wr2) ∧ Hid (Rot d k m (m + 1) dk))
      case atStart => exact ⟨m, d, rfl, by omega, Nat.le_refl _, Nat.le_refl _, hs, S1, rot_none (.inl rfl) (Nat.le_refl _) (by omega)⟩
      case round =>
        clear S1
        obtain ⟨k, dk, rfl, hak, hki, hg2, hsk, SK, HK⟩ := hrel
        by_cases hkl : i < k
        · have hkz0 : (i : Int) < (k : Int) := by omega
          obtain ⟨kp, hkp⟩ : ∃ q, q + 1 = k := ⟨k - 1, by omega⟩
          have zkp : (k : Int) = (kp : Int) + 1 := by omega
          have hkz : (i : Int) < (kp : Int) + 1 := by omega
          have hskN := hsk.out
          go_wp2_with fail
          obtain ⟨iN6, hiN6⟩ : ∃ q, q = k := ⟨_, rfl⟩
          obtain ⟨jN6, hjN6⟩ : ∃ q, q = k - 1 := ⟨_, rfl⟩
          have ea6 : ((kp : Int) + 1).toNat = iN6 := by omega
          have pa6 : (0 : Int) ≤ (kp : Int) + 1 := by omega
          have ba6 : (kp : Int) + 1 < (N : Int) := by omega
          have ra6 : IntKind.i64.wrap ((kp : Int) + 1) = (kp : Int) + 1 := by rw [IntKind.wrap_i64]; omega
          have ec6 : ((kp : Int)).toNat = jN6 := by omega
          have pc6 : (0 : Int) ≤ (kp : Int) := by omega
          have bc6 : (kp : Int) < (N : Int) := by omega
          have rc6 : IntKind.i64.wrap ((kp : Int)) = (kp : Int) := by rw [IntKind.wrap_i64]; omega
          obtain ⟨x6, hx6⟩ : ∃ x, x = dk[k]! := ⟨_, rfl⟩
          obtain ⟨y6, hy6⟩ : ∃ x, x = dk[k - 1]! := ⟨_, rfl⟩
          have S6_ : Aside (SW enc w0 blk off (swp dk (k) (k - 1)) ((wr.setCell ⟨blk, off + iN6, none⟩ (enc y6)).setCell ⟨blk, off + jN6, none⟩ (enc x6)).drew) := by rw [hiN6, hjN6, hx6, hy6]; exact SK.out.swapped R (k) (k - 1) (by omega) (by omega)
          have c6a := SK.out.c1 R (by omega) (k) (by omega)
          have c6b := SK.out.c1 R (by omega) (k - 1) (by omega)
          have f6a := SK.out.f1 R (by omega) (k) (by omega)
          have f6b := SK.out.f1 R (by omega) (k - 1) (by omega)
          obtain ⟨u6, c6c⟩ := SK.out.c2 R (by omega) (k) (k - 1) (by omega) (by omega) (enc y6)
          rw [← hjN6, ← hiN6] at c6c
          rw [← hx6, ← hiN6] at c6a
          rw [← hy6, ← hjN6] at c6b
          rw [← hiN6] at f6a
          rw [← hjN6] at f6b
          clear SK hx6 hy6 hiN6 hjN6
          go_wp2_with fail
          go_big_region
          clear c6a c6b c6c f6a f6b
          generalize ((wr.setCell ⟨blk, off + iN6, none⟩ (enc y6)).setCell ⟨blk, off + jN6, none⟩ (enc x6)).drew = w3 at S6_ ⊢
          clear ea6 ec6 pa6 pc6 ba6 bc6 ra6 rc6
          have HKD : Hid (Rot d (k - 1) m (m + 1) (swp dk k (k - 1))) := by
            have hr := HK.out
            obtain rfl : k = kp + 1 := by omega
            show Rot d (kp + 1 - 1) m (m + 1) (swp dk (kp + 1) (kp + 1 - 1))
            rw [Nat.add_sub_cancel]
            exact rot_down hr (by omega) (by omega)
          go_wp2
          go_roundg (k - 1 - i)
          case measure => omega
          case rel => exact ⟨k - 1, _, by first | rfl | go_num | (congr 1; omega), by omega, by omega, Nat.le_refl _, (by rw [size_swp]; exact hsk.out), S6_, HKD⟩
        · have hkz : ¬ (i : Int) < (k : Int) := by omega
          go_wp2
          (try simp only [Exit.inBlock, Exit.then])
          refine bodyPost_ret (results_none rfl _ _ _) rfl ?_
          have hr : Rot d i m b dk := by
            have := HK.out
            rw [show k = i by omega, ← HMA.out] at this
            exact this
          have F := one_right HE.out.2.2.1 HE.out.2.2.2 HMA.out hmi hjb HE.out.1 HE.out.2.1 q1.out q2.out hr
          exact ⟨rfl, dk, F.1, F.2, SK.out⟩
end Go.Proofs.Ytldhhomeifjbeaa.PA
