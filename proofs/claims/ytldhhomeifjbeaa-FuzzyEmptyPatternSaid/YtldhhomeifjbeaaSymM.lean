/- slices.symMergeCmpFunc at ints, the case of two longer parts, walked. Printed by fuzzy/mkSymM.py. -/
import Derived.Test.YtldhhomeifjbeaaSym
namespace Go.Proofs.Ytldhhomeifjbeaa.PA
open Go.RowKit Go.Shelf Go.Sort Go.Proofs.YtldhhomeifjbeaaW.PrintWords Go.Proofs.YtldhhomeifjbeaaW.PrintLast
set_option linter.unusedVariables false
set_option linter.unusedSimpArgs false
variable {α : Type} [Inhabited α]
structure Turned (R : α → α → Prop) (lt : α → α → Bool) (d d1 : Array α) (a s mid e b : Nat) : Prop where
  pt : Parts R d1 a s mid e b
  fr : From d d1 a b
  cl : Crs R lt d1 a s mid
  cr : Crs R lt d1 mid e b
theorem turned {R : α → α → Prop} {lt : α → α → Bool} {d : Array α} {a b m s e st0 r0 mid nn : Nat} (htr : ∀ x y z : α, R x y → R y z → R x z) (hlt : ∀ x y, lt x y = true → R x y) (l1 : Srt R d a m) (l2 : Srt R d m b) (hc : Crs R lt d a m b)
    (hn : nn = mid + m) (he : s + e = nn) (has : a ≤ s) (hsm : s ≤ m) (hme : m ≤ e) (heb : e ≤ b) (g1 : st0 = a ∨ nn - st0 = b) (g2 : r0 = m ∨ nn - r0 = m)
    (q1 : s = st0 ∨ lt d[nn - s]! d[s - 1]! = false) (q2 : s = r0 ∨ lt d[nn - 1 - s]! d[s]! = true) {d1 : Array α} (hr : Rot d s m e d1) : Turned R lt d d1 a s mid e b := by
  have hmid : s + (e - m) = mid := by omega
  have P := parts hr hsm hme htr has heb l1 l2 (fun h1 h2 => by
    have h3 := q1.resolve_left (by omega)
    rw [show nn - s = e by omega] at h3
    exact hc (s - 1) e (by omega) (by omega) hme h2 h3) (fun h1 h2 => by
    have h3 := q2.resolve_left (by omega)
    rw [show nn - 1 - s = e - 1 by omega] at h3
    exact hlt _ _ h3)
  have C1 := crs_left hr hsm hme has heb hc
  have C2 := crs_right hr hsm hme has heb hc
  rw [hmid] at P C1 C2
  exact ⟨P, rot_from hr hsm hme has heb, C1, C2⟩
theorem Turned.left {R : α → α → Prop} {lt : α → α → Bool} {d d1 : Array α} {a s mid e b : Nat} (h : Turned R lt d d1 a s mid e b) (hc : s = a ∨ s = mid) : Srt R d1 a mid := by
  rcases hc with rfl | rfl
  · exact h.pt.p2
  · exact h.pt.p1
theorem Turned.right {R : α → α → Prop} {lt : α → α → Bool} {d d1 d2 : Array α} {a s mid e b : Nat} (h : Turned R lt d d1 a s mid e b) (f2 : From d1 d2 a mid) (hc : e = mid ∨ e = b) : Srt R d2 mid b := by
  rcases hc with rfl | rfl
  · exact h.pt.p4.eqOn (fun k k1 k2 => f2.out k (by omega))
  · exact h.pt.p3.eqOn (fun k k1 k2 => f2.out k (by omega))
set_option maxHeartbeats 64000000 in
set_option maxRecDepth 1000000 in
theorem sym_main (enc : α → Value) (cf : α → α → Int) (R0 : α → α → Prop) (g : Nat) (cb : Array Value) (blk off cap N : Nat) (d0 : Array α) (w0 : World) (E : Env enc cf R0 g cb blk off N d0 w0) (a m b mid : Nat) (hma : m ≠ a + 1) (hmb : b ≠ m + 1) (hmid : mid = (a + b) / 2)
    (IHl : ∀ s, SymOk enc cf R0 g cb blk off cap N w0 a s mid) (IHr : ∀ e, SymOk enc cf R0 g cb blk off cap N w0 mid e b) : SymOk enc cf R0 g cb blk off cap N w0 a m b := by
  intro d w hs S ha hm hb l1 l2 hc
  have S0 : Aside (SW enc w0 blk off d w) := S
  have HE : Aside _ := And.intro l1 (And.intro l2 (And.intro hc (And.intro E.htr E.hlt)))
  have IHL : Aside _ := IHl
  have IHR : Aside _ := IHr
  have R := E.row
  have HRW : Aside _ := E.row
  have eg := E.eg
  have mixed : Try.prog.follows .mixedOrders = true := by kernel_rfl
  have HC : Aside _ := E.hcmp
  have hsz := E.hsz
  have hs0 := E.hs0
  have hcl0 := R.hO.cells
  simp only [Value.cells] at hcl0
  have hst := R.hO.store Try.prog
  obtain ⟨ma, HMM⟩ : ∃ q, Hid (q = m - a) := ⟨_, rfl⟩
  obtain ⟨mb, HMB⟩ : ∃ q, Hid (q = b - m) := ⟨_, rfl⟩
  obtain ⟨nn, HNN⟩ : ∃ q, Hid (q = mid + m) := ⟨_, rfl⟩
  obtain ⟨p, HPP⟩ : ∃ q, Hid (q + 1 = mid + m) := ⟨mid + m - 1, by show _ = _; omega⟩
  have r1 : IntKind.i64.wrap ((m : Int) - (a : Int)) = (ma : Int) := by have := HMM.out; rw [IntKind.wrap_i64]; omega
  have r1a : ¬ (ma : Int) = 1 := by have := HMM.out; omega
  have r1b : ((ma : Int) == 1) = false := beq_eq_false_iff_ne.mpr r1a
  have r2 : IntKind.i64.wrap ((b : Int) - (m : Int)) = (mb : Int) := by have := HMB.out; rw [IntKind.wrap_i64]; omega
  have r2a : ¬ (mb : Int) = 1 := by have := HMB.out; omega
  have r2b : ((mb : Int) == 1) = false := beq_eq_false_iff_ne.mpr r2a
  have r3 : IntKind.i64.wrap ((a : Int) + (b : Int)) = (a : Int) + (b : Int) := by rw [IntKind.wrap_i64]; omega
  have r4 : ((a : Int) + (b : Int)) / 2 = (mid : Int) := by omega
  have r5 : IntKind.i64.wrap ((mid : Int) + (m : Int)) = (nn : Int) := by have := HNN.out; rw [IntKind.wrap_i64]; omega
  have r6 : IntKind.i64.wrap ((nn : Int) - 1) = (p : Int) := by have := HNN.out; have := HPP.out; rw [IntKind.wrap_i64]; omega
  have HMID : Hid (mid = (a + b) / 2) := hmid
  have am : a < mid := by omega
  have bm : mid < b := by omega
  clear S E l1 l2 hc hma hmb hmid IHl IHr
  by_cases hcase : mid < m
  · skip
    have hz : (mid : Int) < (m : Int) := by omega
    obtain ⟨st0, HST⟩ : ∃ q, Hid (q = nn - b) := ⟨_, rfl⟩
    obtain ⟨r0, HR0⟩ : ∃ q, Hid (q = mid) := ⟨_, rfl⟩
    have r7 : IntKind.i64.wrap ((nn : Int) - (b : Int)) = (st0 : Int) := by have := HNN.out; have := HMID.out; have := HST.out; rw [IntKind.wrap_i64]; omega
    have r8 : (mid : Int) = (r0 : Int) := by have := HR0.out; omega
    have HF : Hid (a ≤ st0 ∧ st0 ≤ r0 ∧ r0 ≤ m ∧ nn ≤ b + st0 ∧ m + r0 ≤ nn ∧ (st0 = a ∨ nn - st0 = b) ∧ (r0 = m ∨ nn - r0 = m)) := by have := HNN.out; have := HMID.out; have := HST.out; have := HR0.out; show _ ∧ _; omega
    clear r8
    go_wp2
    go_loopg [20, 21] (r0 - st0) (fun g1 vi vj wr => ∃ (i j : Nat), vi = .int .i64 i ∧ vj = .int .i64 j ∧ st0 ≤ i ∧ i ≤ j ∧ j ≤ r0 ∧ j - i ≤ g1 ∧ Aside (SW enc w0 blk off d wr) ∧ Hid (i = st0 ∨ ltOf cf d[nn - i]! d[i - 1]! = false) ∧ Hid (j = r0 ∨ ltOf cf d[nn - 1 - j]! d[j]! = true))
    case atStart => exact ⟨st0, r0, by first | rfl | (rw [HST.out]), by first | rfl | (rw [HR0.out]), Nat.le_refl _, HF.out.2.1, Nat.le_refl _, Nat.le_refl _, S0, .inl rfl, .inl rfl⟩
    case round =>
      clear S0 r1 r1a r1b r2 r2a r2b r3 r4 r5 r6 r7
      obtain ⟨i, j, rfl, rfl, hmi, hij, hjb, hg1, S1, q1, q2⟩ := hrel
      by_cases hlt : i < j
      · have hltz : (i : Int) < (j : Int) := by omega
        have s1 : IntKind.i64.wrap ((i : Int) + (j : Int)) = (i : Int) + (j : Int) := by have := HF.out; rw [IntKind.wrap_i64]; omega
        obtain ⟨h, HH⟩ : ∃ q, Hid (q = (i + j) / 2) := ⟨_, rfl⟩
        have hh : ((i : Int) + (j : Int)) / 2 = (h : Int) := by have := HH.out; omega
        have hih : i ≤ h := by have := HH.out; omega
        have hhj : h < j := by have := HH.out; omega
        obtain ⟨ph, HPH⟩ : ∃ q, Hid (q + h = p) := ⟨p - h, by have := HF.out; have := HPP.out; have := HNN.out; show _ = _; omega⟩
        have hph : IntKind.i64.wrap ((p : Int) - (h : Int)) = (ph : Int) := by have := HPH.out; have := HPP.out; rw [IntKind.wrap_i64]; omega
        have hphN : ph < N := by have := HF.out; have := HPH.out; have := HPP.out; have := HNN.out; omega
        have hhN : h < N := by have := HF.out; omega
        have eph : nn - 1 - h = ph := by have := HPH.out; have := HPP.out; have := HNN.out; omega
        have EPH : Hid (nn - 1 - h = ph) := eph
        have EPH2 : Hid (nn - (h + 1) = ph) := by have := HPH.out; have := HPP.out; have := HNN.out; show _ = _; omega
        clear eph
        have s2 : IntKind.i64.wrap ((h : Int) + 1) = (h : Int) + 1 := by rw [IntKind.wrap_i64]; omega
        go_wp2_with fail
        cases hlv : ltOf cf d[ph]! d[h]! with
        | true =>
          obtain ⟨iN1, hiN1⟩ : ∃ q, q = ph := ⟨_, rfl⟩
          obtain ⟨jN1, hjN1⟩ : ∃ q, q = h := ⟨_, rfl⟩
          have ea1 : ((ph : Int)).toNat = iN1 := by omega
          have pa1 : (0 : Int) ≤ (ph : Int) := by omega
          have ba1 : (ph : Int) < (N : Int) := by omega
          have ra1 : IntKind.i64.wrap ((ph : Int)) = (ph : Int) := by rw [IntKind.wrap_i64]; omega
          have ec1 : ((h : Int)).toNat = jN1 := by omega
          have pc1 : (0 : Int) ≤ (h : Int) := by omega
          have bc1 : (h : Int) < (N : Int) := by omega
          have rc1 : IntKind.i64.wrap ((h : Int)) = (h : Int) := by rw [IntKind.wrap_i64]; omega
          obtain ⟨x1, hx1⟩ : ∃ x, x = d[ph]! := ⟨_, rfl⟩
          obtain ⟨y1, hy1⟩ : ∃ x, x = d[h]! := ⟨_, rfl⟩
          have l1a := S1.out.cl R (by omega) (ph) (by omega)
          have l1b := S1.out.cl R (by omega) (h) (by omega)
          rw [← hx1, ← hiN1] at l1a
          rw [← hy1, ← hjN1] at l1b
          have hc1 := S1.out.cmp HC.out (by omega) x1 y1
          have hv1 : cf x1 y1 < 0 := by rw [hx1, hy1]; exact of_decide_eq_true hlv
          have hd1 : decide (cf x1 y1 < 0) = true := decide_eq_true hv1
          clear hx1 hy1 hiN1 hjN1
          go_wp2_with fail
          go_quiet_grown (first | (go_at_fn g; refine Calls.grown_of (hc1 _ _)))
          have S1_ : Aside (SW enc w0 blk off d (grow (wr.drewN nq) osq)) := S1.out.grown nq osq
          clear l1a l1b hc1 S1
          generalize grow (wr.drewN nq) osq = w2 at S1_ ⊢
          clear nq osq
          clear ea1 ec1 pa1 pc1 ba1 bc1 ra1 rc1 hv1 hd1
          go_wp2
          go_roundg (h - i)
          case measure => omega
          case rel => exact ⟨i, h, rfl, rfl, hmi, hih, by omega, Nat.le_refl _, S1_, q1, .inr (by rw [EPH.out]; exact hlv)⟩
        | false =>
          obtain ⟨iN2, hiN2⟩ : ∃ q, q = ph := ⟨_, rfl⟩
          obtain ⟨jN2, hjN2⟩ : ∃ q, q = h := ⟨_, rfl⟩
          have ea2 : ((ph : Int)).toNat = iN2 := by omega
          have pa2 : (0 : Int) ≤ (ph : Int) := by omega
          have ba2 : (ph : Int) < (N : Int) := by omega
          have ra2 : IntKind.i64.wrap ((ph : Int)) = (ph : Int) := by rw [IntKind.wrap_i64]; omega
          have ec2 : ((h : Int)).toNat = jN2 := by omega
          have pc2 : (0 : Int) ≤ (h : Int) := by omega
          have bc2 : (h : Int) < (N : Int) := by omega
          have rc2 : IntKind.i64.wrap ((h : Int)) = (h : Int) := by rw [IntKind.wrap_i64]; omega
          obtain ⟨x2, hx2⟩ : ∃ x, x = d[ph]! := ⟨_, rfl⟩
          obtain ⟨y2, hy2⟩ : ∃ x, x = d[h]! := ⟨_, rfl⟩
          have l2a := S1.out.cl R (by omega) (ph) (by omega)
          have l2b := S1.out.cl R (by omega) (h) (by omega)
          rw [← hx2, ← hiN2] at l2a
          rw [← hy2, ← hjN2] at l2b
          have hc2 := S1.out.cmp HC.out (by omega) x2 y2
          have hv2 : ¬ cf x2 y2 < 0 := by rw [hx2, hy2]; exact of_decide_eq_false hlv
          have hd2 : decide (cf x2 y2 < 0) = false := decide_eq_false hv2
          clear hx2 hy2 hiN2 hjN2
          go_wp2_with fail
          go_quiet_grown (first | (go_at_fn g; refine Calls.grown_of (hc2 _ _)))
          have S2_ : Aside (SW enc w0 blk off d (grow (wr.drewN nq) osq)) := S1.out.grown nq osq
          clear l2a l2b hc2 S1
          generalize grow (wr.drewN nq) osq = w2 at S2_ ⊢
          clear nq osq
          clear ea2 ec2 pa2 pc2 ba2 bc2 ra2 rc2 hv2 hd2
          go_wp2
          go_roundg (j - (h + 1))
          case measure => omega
          case rel => exact ⟨h + 1, j, by first | rfl | go_num, rfl, by omega, by omega, hjb, Nat.le_refl _, S2_, .inr (by rw [EPH2.out]; exact hlv), q2⟩
      · have hltz : ¬ (i : Int) < (j : Int) := by omega
        obtain rfl : i = j := by omega
        obtain ⟨e, HEE⟩ : ∃ q, Hid (i + q = nn) := ⟨nn - i, by have := HF.out; show _ = _; omega⟩
        have t1 : IntKind.i64.wrap ((nn : Int) - (i : Int)) = (e : Int) := by have := HEE.out; have := HF.out; rw [IntKind.wrap_i64]; omega
        have k1 : a ≤ i := by have := HF.out; omega
        have k2 : i ≤ m := by have := HF.out; omega
        have k3 : m ≤ e := by have := HF.out; have := HEE.out; omega
        have k4 : e ≤ b := by have := HF.out; have := HEE.out; omega
        have HK : Hid (i + e = mid + m) := by have := HEE.out; have := HNN.out; show _ = _; omega
        have HT : Aside (∀ d1, Rot d i m e d1 → Turned R0 (ltOf cf) d d1 a i mid e b) := fun d1 hr => turned HE.out.2.2.2.1 HE.out.2.2.2.2 HE.out.1 HE.out.2.1 HE.out.2.2.1 HNN.out HEE.out k1 k2 k3 k4 HF.out.2.2.2.2.2.1 HF.out.2.2.2.2.2.2 q1.out q2.out hr
        clear q1 q2 HE
        rcases (show (i < m ∧ m < e) ∨ ¬ i < m ∨ (i < m ∧ ¬ m < e) by omega) with z0 | z0 | z0
        · have z1 : (i : Int) < (m : Int) := by omega
          have z2 : (m : Int) < (e : Int) := by omega
          rcases (show (a < i ∧ i < mid) ∨ ¬ a < i ∨ (a < i ∧ ¬ i < mid) by omega) with y0 | y0 | y0
          · have y1 : (a : Int) < (i : Int) := by omega
            have y2 : (i : Int) < (mid : Int) := by omega
            rcases (show (mid < e ∧ e < b) ∨ ¬ mid < e ∨ (mid < e ∧ ¬ e < b) by omega) with x0 | x0 | x0
            · have x1 : (mid : Int) < (e : Int) := by omega
              have x2 : (e : Int) < (b : Int) := by omega
              first
              | (exfalso; have := HK.out; omega)
              |
                (go_wp2_with fail
                 refine (rotate_calls enc (.func (.func g) #[] cb) blk off cap N i m e d0 d w0 _ HRW.out hs0 hs S1.out z0.1 z0.2 (by omega) hsz).mono ?_
                 rintro e1 w5 ⟨rfl, d1, hr1, hS⟩
                 have HTD : Aside _ := HT.out d1 hr1
                 have hsd1 : Aside (d1.size = N) := hr1.1.trans hs
                 have S5 : Aside _ := hS
                 clear hr1 hS S1
                 go_wp2_with fail
                 refine (IHL.out i d1 _ hsd1.out S5.out y0.1 y0.2 (by omega) HTD.out.pt.p1 HTD.out.pt.p2 HTD.out.cl).mono ?_
                 rintro e2 w6 ⟨rfl, d2, hf2, hs2, hS⟩
                 have HL : Aside _ := And.intro hf2 hs2
                 have hsd2 : Aside (d2.size = N) := hf2.size.trans (hsd1.out)
                 have S6 : Aside _ := hS
                 clear hf2 hs2 hS S5
                 go_wp2_with fail
                 refine (IHR.out e d2 _ hsd2.out S6.out x0.1 x0.2 (by omega) (HTD.out.pt.p3.eqOn (fun k k1 k2 => HL.out.1.out k (by omega))) (HTD.out.pt.p4.eqOn (fun k k1 k2 => HL.out.1.out k (by omega))) (HTD.out.cr.eqOn (fun k k1 k2 => HL.out.1.out k (by omega)))).mono ?_
                 rintro e3 w7 ⟨rfl, d3, hf3, hs3, hS⟩
                 go_wp2
                 go_end0
                 have F := sym_final (by omega) (by omega) HTD.out.fr HTD.out.pt.px HL.out.1 HL.out.2 hf3 hs3
                 exact ⟨rfl, d3, F.1, F.2, hS⟩)
            · have x1 : ¬ (mid : Int) < (e : Int) := by omega
              first
              | (exfalso; have := HK.out; omega)
              |
                (go_wp2_with fail
                 refine (rotate_calls enc (.func (.func g) #[] cb) blk off cap N i m e d0 d w0 _ HRW.out hs0 hs S1.out z0.1 z0.2 (by omega) hsz).mono ?_
                 rintro e1 w5 ⟨rfl, d1, hr1, hS⟩
                 have HTD : Aside _ := HT.out d1 hr1
                 have hsd1 : Aside (d1.size = N) := hr1.1.trans hs
                 have S5 : Aside _ := hS
                 clear hr1 hS S1
                 go_wp2_with fail
                 refine (IHL.out i d1 _ hsd1.out S5.out y0.1 y0.2 (by omega) HTD.out.pt.p1 HTD.out.pt.p2 HTD.out.cl).mono ?_
                 rintro e2 w6 ⟨rfl, d2, hf2, hs2, hS⟩
                 have HL : Aside _ := And.intro hf2 hs2
                 have hsd2 : Aside (d2.size = N) := hf2.size.trans (hsd1.out)
                 have S6 : Aside _ := hS
                 clear hf2 hs2 hS S5
                 go_wp2_with fail
                 go_end0
                 have F := sym_final (by omega) (by omega) HTD.out.fr HTD.out.pt.px HL.out.1 HL.out.2 (From.refl d2 mid b) (HTD.out.right HL.out.1 (by have := HK.out; omega))
                 exact ⟨rfl, d2, F.1, F.2, S6.out⟩)
            · have x1 : (mid : Int) < (e : Int) := by omega
              have x2 : ¬ (e : Int) < (b : Int) := by omega
              first
              | (exfalso; have := HK.out; omega)
              |
                (go_wp2_with fail
                 refine (rotate_calls enc (.func (.func g) #[] cb) blk off cap N i m e d0 d w0 _ HRW.out hs0 hs S1.out z0.1 z0.2 (by omega) hsz).mono ?_
                 rintro e1 w5 ⟨rfl, d1, hr1, hS⟩
                 have HTD : Aside _ := HT.out d1 hr1
                 have hsd1 : Aside (d1.size = N) := hr1.1.trans hs
                 have S5 : Aside _ := hS
                 clear hr1 hS S1
                 go_wp2_with fail
                 refine (IHL.out i d1 _ hsd1.out S5.out y0.1 y0.2 (by omega) HTD.out.pt.p1 HTD.out.pt.p2 HTD.out.cl).mono ?_
                 rintro e2 w6 ⟨rfl, d2, hf2, hs2, hS⟩
                 have HL : Aside _ := And.intro hf2 hs2
                 have hsd2 : Aside (d2.size = N) := hf2.size.trans (hsd1.out)
                 have S6 : Aside _ := hS
                 clear hf2 hs2 hS S5
                 go_wp2_with fail
                 go_end0
                 have F := sym_final (by omega) (by omega) HTD.out.fr HTD.out.pt.px HL.out.1 HL.out.2 (From.refl d2 mid b) (HTD.out.right HL.out.1 (by have := HK.out; omega))
                 exact ⟨rfl, d2, F.1, F.2, S6.out⟩)
          · have y1 : ¬ (a : Int) < (i : Int) := by omega
            rcases (show (mid < e ∧ e < b) ∨ ¬ mid < e ∨ (mid < e ∧ ¬ e < b) by omega) with x0 | x0 | x0
            · have x1 : (mid : Int) < (e : Int) := by omega
              have x2 : (e : Int) < (b : Int) := by omega
              first
              | (exfalso; have := HK.out; omega)
              |
                (go_wp2_with fail
                 refine (rotate_calls enc (.func (.func g) #[] cb) blk off cap N i m e d0 d w0 _ HRW.out hs0 hs S1.out z0.1 z0.2 (by omega) hsz).mono ?_
                 rintro e1 w5 ⟨rfl, d1, hr1, hS⟩
                 have HTD : Aside _ := HT.out d1 hr1
                 have hsd1 : Aside (d1.size = N) := hr1.1.trans hs
                 have S5 : Aside _ := hS
                 clear hr1 hS S1
                 go_wp2_with fail
                 have HL : Aside (From d1 d1 a mid ∧ Srt R0 d1 a mid) := ⟨From.refl _ _ _, HTD.out.left (by have := HK.out; omega)⟩
                 refine (IHR.out e d1 _ hsd1.out S5.out x0.1 x0.2 (by omega) (HTD.out.pt.p3.eqOn (fun k k1 k2 => HL.out.1.out k (by omega))) (HTD.out.pt.p4.eqOn (fun k k1 k2 => HL.out.1.out k (by omega))) (HTD.out.cr.eqOn (fun k k1 k2 => HL.out.1.out k (by omega)))).mono ?_
                 rintro e3 w7 ⟨rfl, d3, hf3, hs3, hS⟩
                 go_wp2
                 go_end0
                 have F := sym_final (by omega) (by omega) HTD.out.fr HTD.out.pt.px HL.out.1 HL.out.2 hf3 hs3
                 exact ⟨rfl, d3, F.1, F.2, hS⟩)
            · have x1 : ¬ (mid : Int) < (e : Int) := by omega
              first
              | (exfalso; have := HK.out; omega)
              |
                (go_wp2_with fail
                 refine (rotate_calls enc (.func (.func g) #[] cb) blk off cap N i m e d0 d w0 _ HRW.out hs0 hs S1.out z0.1 z0.2 (by omega) hsz).mono ?_
                 rintro e1 w5 ⟨rfl, d1, hr1, hS⟩
                 have HTD : Aside _ := HT.out d1 hr1
                 have hsd1 : Aside (d1.size = N) := hr1.1.trans hs
                 have S5 : Aside _ := hS
                 clear hr1 hS S1
                 go_wp2_with fail
                 have HL : Aside (From d1 d1 a mid ∧ Srt R0 d1 a mid) := ⟨From.refl _ _ _, HTD.out.left (by have := HK.out; omega)⟩
                 go_end0
                 have F := sym_final (by omega) (by omega) HTD.out.fr HTD.out.pt.px HL.out.1 HL.out.2 (From.refl d1 mid b) (HTD.out.right HL.out.1 (by have := HK.out; omega))
                 exact ⟨rfl, d1, F.1, F.2, S5.out⟩)
            · have x1 : (mid : Int) < (e : Int) := by omega
              have x2 : ¬ (e : Int) < (b : Int) := by omega
              first
              | (exfalso; have := HK.out; omega)
              |
                (go_wp2_with fail
                 refine (rotate_calls enc (.func (.func g) #[] cb) blk off cap N i m e d0 d w0 _ HRW.out hs0 hs S1.out z0.1 z0.2 (by omega) hsz).mono ?_
                 rintro e1 w5 ⟨rfl, d1, hr1, hS⟩
                 have HTD : Aside _ := HT.out d1 hr1
                 have hsd1 : Aside (d1.size = N) := hr1.1.trans hs
                 have S5 : Aside _ := hS
                 clear hr1 hS S1
                 go_wp2_with fail
                 have HL : Aside (From d1 d1 a mid ∧ Srt R0 d1 a mid) := ⟨From.refl _ _ _, HTD.out.left (by have := HK.out; omega)⟩
                 go_end0
                 have F := sym_final (by omega) (by omega) HTD.out.fr HTD.out.pt.px HL.out.1 HL.out.2 (From.refl d1 mid b) (HTD.out.right HL.out.1 (by have := HK.out; omega))
                 exact ⟨rfl, d1, F.1, F.2, S5.out⟩)
          · have y1 : (a : Int) < (i : Int) := by omega
            have y2 : ¬ (i : Int) < (mid : Int) := by omega
            rcases (show (mid < e ∧ e < b) ∨ ¬ mid < e ∨ (mid < e ∧ ¬ e < b) by omega) with x0 | x0 | x0
            · have x1 : (mid : Int) < (e : Int) := by omega
              have x2 : (e : Int) < (b : Int) := by omega
              first
              | (exfalso; have := HK.out; omega)
              |
                (go_wp2_with fail
                 refine (rotate_calls enc (.func (.func g) #[] cb) blk off cap N i m e d0 d w0 _ HRW.out hs0 hs S1.out z0.1 z0.2 (by omega) hsz).mono ?_
                 rintro e1 w5 ⟨rfl, d1, hr1, hS⟩
                 have HTD : Aside _ := HT.out d1 hr1
                 have hsd1 : Aside (d1.size = N) := hr1.1.trans hs
                 have S5 : Aside _ := hS
                 clear hr1 hS S1
                 go_wp2_with fail
                 have HL : Aside (From d1 d1 a mid ∧ Srt R0 d1 a mid) := ⟨From.refl _ _ _, HTD.out.left (by have := HK.out; omega)⟩
                 refine (IHR.out e d1 _ hsd1.out S5.out x0.1 x0.2 (by omega) (HTD.out.pt.p3.eqOn (fun k k1 k2 => HL.out.1.out k (by omega))) (HTD.out.pt.p4.eqOn (fun k k1 k2 => HL.out.1.out k (by omega))) (HTD.out.cr.eqOn (fun k k1 k2 => HL.out.1.out k (by omega)))).mono ?_
                 rintro e3 w7 ⟨rfl, d3, hf3, hs3, hS⟩
                 go_wp2
                 go_end0
                 have F := sym_final (by omega) (by omega) HTD.out.fr HTD.out.pt.px HL.out.1 HL.out.2 hf3 hs3
                 exact ⟨rfl, d3, F.1, F.2, hS⟩)
            · have x1 : ¬ (mid : Int) < (e : Int) := by omega
              first
              | (exfalso; have := HK.out; omega)
              |
                (go_wp2_with fail
                 refine (rotate_calls enc (.func (.func g) #[] cb) blk off cap N i m e d0 d w0 _ HRW.out hs0 hs S1.out z0.1 z0.2 (by omega) hsz).mono ?_
                 rintro e1 w5 ⟨rfl, d1, hr1, hS⟩
                 have HTD : Aside _ := HT.out d1 hr1
                 have hsd1 : Aside (d1.size = N) := hr1.1.trans hs
                 have S5 : Aside _ := hS
                 clear hr1 hS S1
                 go_wp2_with fail
                 have HL : Aside (From d1 d1 a mid ∧ Srt R0 d1 a mid) := ⟨From.refl _ _ _, HTD.out.left (by have := HK.out; omega)⟩
                 go_end0
                 have F := sym_final (by omega) (by omega) HTD.out.fr HTD.out.pt.px HL.out.1 HL.out.2 (From.refl d1 mid b) (HTD.out.right HL.out.1 (by have := HK.out; omega))
                 exact ⟨rfl, d1, F.1, F.2, S5.out⟩)
            · have x1 : (mid : Int) < (e : Int) := by omega
              have x2 : ¬ (e : Int) < (b : Int) := by omega
              first
              | (exfalso; have := HK.out; omega)
              |
                (go_wp2_with fail
                 refine (rotate_calls enc (.func (.func g) #[] cb) blk off cap N i m e d0 d w0 _ HRW.out hs0 hs S1.out z0.1 z0.2 (by omega) hsz).mono ?_
                 rintro e1 w5 ⟨rfl, d1, hr1, hS⟩
                 have HTD : Aside _ := HT.out d1 hr1
                 have hsd1 : Aside (d1.size = N) := hr1.1.trans hs
                 have S5 : Aside _ := hS
                 clear hr1 hS S1
                 go_wp2_with fail
                 have HL : Aside (From d1 d1 a mid ∧ Srt R0 d1 a mid) := ⟨From.refl _ _ _, HTD.out.left (by have := HK.out; omega)⟩
                 go_end0
                 have F := sym_final (by omega) (by omega) HTD.out.fr HTD.out.pt.px HL.out.1 HL.out.2 (From.refl d1 mid b) (HTD.out.right HL.out.1 (by have := HK.out; omega))
                 exact ⟨rfl, d1, F.1, F.2, S5.out⟩)
        · have z1 : ¬ (i : Int) < (m : Int) := by omega
          have HTD : Aside _ := HT.out d (rot_none (by omega) k2 k3)
          rcases (show (a < i ∧ i < mid) ∨ ¬ a < i ∨ (a < i ∧ ¬ i < mid) by omega) with y0 | y0 | y0
          · have y1 : (a : Int) < (i : Int) := by omega
            have y2 : (i : Int) < (mid : Int) := by omega
            rcases (show (mid < e ∧ e < b) ∨ ¬ mid < e ∨ (mid < e ∧ ¬ e < b) by omega) with x0 | x0 | x0
            · have x1 : (mid : Int) < (e : Int) := by omega
              have x2 : (e : Int) < (b : Int) := by omega
              first
              | (exfalso; have := HK.out; omega)
              |
                (go_wp2_with fail
                 refine (IHL.out i d _ hs S1.out y0.1 y0.2 (by omega) HTD.out.pt.p1 HTD.out.pt.p2 HTD.out.cl).mono ?_
                 rintro e2 w6 ⟨rfl, d2, hf2, hs2, hS⟩
                 have HL : Aside _ := And.intro hf2 hs2
                 have hsd2 : Aside (d2.size = N) := hf2.size.trans (hs)
                 have S6 : Aside _ := hS
                 clear hf2 hs2 hS S1
                 go_wp2_with fail
                 refine (IHR.out e d2 _ hsd2.out S6.out x0.1 x0.2 (by omega) (HTD.out.pt.p3.eqOn (fun k k1 k2 => HL.out.1.out k (by omega))) (HTD.out.pt.p4.eqOn (fun k k1 k2 => HL.out.1.out k (by omega))) (HTD.out.cr.eqOn (fun k k1 k2 => HL.out.1.out k (by omega)))).mono ?_
                 rintro e3 w7 ⟨rfl, d3, hf3, hs3, hS⟩
                 go_wp2
                 go_end0
                 have F := sym_final (by omega) (by omega) HTD.out.fr HTD.out.pt.px HL.out.1 HL.out.2 hf3 hs3
                 exact ⟨rfl, d3, F.1, F.2, hS⟩)
            · have x1 : ¬ (mid : Int) < (e : Int) := by omega
              first
              | (exfalso; have := HK.out; omega)
              |
                (go_wp2_with fail
                 refine (IHL.out i d _ hs S1.out y0.1 y0.2 (by omega) HTD.out.pt.p1 HTD.out.pt.p2 HTD.out.cl).mono ?_
                 rintro e2 w6 ⟨rfl, d2, hf2, hs2, hS⟩
                 have HL : Aside _ := And.intro hf2 hs2
                 have hsd2 : Aside (d2.size = N) := hf2.size.trans (hs)
                 have S6 : Aside _ := hS
                 clear hf2 hs2 hS S1
                 go_wp2_with fail
                 go_end0
                 have F := sym_final (by omega) (by omega) HTD.out.fr HTD.out.pt.px HL.out.1 HL.out.2 (From.refl d2 mid b) (HTD.out.right HL.out.1 (by have := HK.out; omega))
                 exact ⟨rfl, d2, F.1, F.2, S6.out⟩)
            · have x1 : (mid : Int) < (e : Int) := by omega
              have x2 : ¬ (e : Int) < (b : Int) := by omega
              first
              | (exfalso; have := HK.out; omega)
              |
                (go_wp2_with fail
                 refine (IHL.out i d _ hs S1.out y0.1 y0.2 (by omega) HTD.out.pt.p1 HTD.out.pt.p2 HTD.out.cl).mono ?_
                 rintro e2 w6 ⟨rfl, d2, hf2, hs2, hS⟩
                 have HL : Aside _ := And.intro hf2 hs2
                 have hsd2 : Aside (d2.size = N) := hf2.size.trans (hs)
                 have S6 : Aside _ := hS
                 clear hf2 hs2 hS S1
                 go_wp2_with fail
                 go_end0
                 have F := sym_final (by omega) (by omega) HTD.out.fr HTD.out.pt.px HL.out.1 HL.out.2 (From.refl d2 mid b) (HTD.out.right HL.out.1 (by have := HK.out; omega))
                 exact ⟨rfl, d2, F.1, F.2, S6.out⟩)
          · have y1 : ¬ (a : Int) < (i : Int) := by omega
            rcases (show (mid < e ∧ e < b) ∨ ¬ mid < e ∨ (mid < e ∧ ¬ e < b) by omega) with x0 | x0 | x0
            · have x1 : (mid : Int) < (e : Int) := by omega
              have x2 : (e : Int) < (b : Int) := by omega
              first
              | (exfalso; have := HK.out; omega)
              |
                (go_wp2_with fail
                 have HL : Aside (From d d a mid ∧ Srt R0 d a mid) := ⟨From.refl _ _ _, HTD.out.left (by have := HK.out; omega)⟩
                 refine (IHR.out e d _ hs S1.out x0.1 x0.2 (by omega) (HTD.out.pt.p3.eqOn (fun k k1 k2 => HL.out.1.out k (by omega))) (HTD.out.pt.p4.eqOn (fun k k1 k2 => HL.out.1.out k (by omega))) (HTD.out.cr.eqOn (fun k k1 k2 => HL.out.1.out k (by omega)))).mono ?_
                 rintro e3 w7 ⟨rfl, d3, hf3, hs3, hS⟩
                 go_wp2
                 go_end0
                 have F := sym_final (by omega) (by omega) HTD.out.fr HTD.out.pt.px HL.out.1 HL.out.2 hf3 hs3
                 exact ⟨rfl, d3, F.1, F.2, hS⟩)
            · have x1 : ¬ (mid : Int) < (e : Int) := by omega
              first
              | (exfalso; have := HK.out; omega)
              |
                (go_wp2_with fail
                 have HL : Aside (From d d a mid ∧ Srt R0 d a mid) := ⟨From.refl _ _ _, HTD.out.left (by have := HK.out; omega)⟩
                 go_end0
                 have F := sym_final (by omega) (by omega) HTD.out.fr HTD.out.pt.px HL.out.1 HL.out.2 (From.refl d mid b) (HTD.out.right HL.out.1 (by have := HK.out; omega))
                 exact ⟨rfl, d, F.1, F.2, S1.out⟩)
            · have x1 : (mid : Int) < (e : Int) := by omega
              have x2 : ¬ (e : Int) < (b : Int) := by omega
              first
              | (exfalso; have := HK.out; omega)
              |
                (go_wp2_with fail
                 have HL : Aside (From d d a mid ∧ Srt R0 d a mid) := ⟨From.refl _ _ _, HTD.out.left (by have := HK.out; omega)⟩
                 go_end0
                 have F := sym_final (by omega) (by omega) HTD.out.fr HTD.out.pt.px HL.out.1 HL.out.2 (From.refl d mid b) (HTD.out.right HL.out.1 (by have := HK.out; omega))
                 exact ⟨rfl, d, F.1, F.2, S1.out⟩)
          · have y1 : (a : Int) < (i : Int) := by omega
            have y2 : ¬ (i : Int) < (mid : Int) := by omega
            rcases (show (mid < e ∧ e < b) ∨ ¬ mid < e ∨ (mid < e ∧ ¬ e < b) by omega) with x0 | x0 | x0
            · have x1 : (mid : Int) < (e : Int) := by omega
              have x2 : (e : Int) < (b : Int) := by omega
              first
              | (exfalso; have := HK.out; omega)
              |
                (go_wp2_with fail
                 have HL : Aside (From d d a mid ∧ Srt R0 d a mid) := ⟨From.refl _ _ _, HTD.out.left (by have := HK.out; omega)⟩
                 refine (IHR.out e d _ hs S1.out x0.1 x0.2 (by omega) (HTD.out.pt.p3.eqOn (fun k k1 k2 => HL.out.1.out k (by omega))) (HTD.out.pt.p4.eqOn (fun k k1 k2 => HL.out.1.out k (by omega))) (HTD.out.cr.eqOn (fun k k1 k2 => HL.out.1.out k (by omega)))).mono ?_
                 rintro e3 w7 ⟨rfl, d3, hf3, hs3, hS⟩
                 go_wp2
                 go_end0
                 have F := sym_final (by omega) (by omega) HTD.out.fr HTD.out.pt.px HL.out.1 HL.out.2 hf3 hs3
                 exact ⟨rfl, d3, F.1, F.2, hS⟩)
            · have x1 : ¬ (mid : Int) < (e : Int) := by omega
              first
              | (exfalso; have := HK.out; omega)
              |
                (go_wp2_with fail
                 have HL : Aside (From d d a mid ∧ Srt R0 d a mid) := ⟨From.refl _ _ _, HTD.out.left (by have := HK.out; omega)⟩
                 go_end0
                 have F := sym_final (by omega) (by omega) HTD.out.fr HTD.out.pt.px HL.out.1 HL.out.2 (From.refl d mid b) (HTD.out.right HL.out.1 (by have := HK.out; omega))
                 exact ⟨rfl, d, F.1, F.2, S1.out⟩)
            · have x1 : (mid : Int) < (e : Int) := by omega
              have x2 : ¬ (e : Int) < (b : Int) := by omega
              first
              | (exfalso; have := HK.out; omega)
              |
                (go_wp2_with fail
                 have HL : Aside (From d d a mid ∧ Srt R0 d a mid) := ⟨From.refl _ _ _, HTD.out.left (by have := HK.out; omega)⟩
                 go_end0
                 have F := sym_final (by omega) (by omega) HTD.out.fr HTD.out.pt.px HL.out.1 HL.out.2 (From.refl d mid b) (HTD.out.right HL.out.1 (by have := HK.out; omega))
                 exact ⟨rfl, d, F.1, F.2, S1.out⟩)
        · have z1 : (i : Int) < (m : Int) := by omega
          have z2 : ¬ (m : Int) < (e : Int) := by omega
          have HTD : Aside _ := HT.out d (rot_none (by omega) k2 k3)
          rcases (show (a < i ∧ i < mid) ∨ ¬ a < i ∨ (a < i ∧ ¬ i < mid) by omega) with y0 | y0 | y0
          · have y1 : (a : Int) < (i : Int) := by omega
            have y2 : (i : Int) < (mid : Int) := by omega
            rcases (show (mid < e ∧ e < b) ∨ ¬ mid < e ∨ (mid < e ∧ ¬ e < b) by omega) with x0 | x0 | x0
            · have x1 : (mid : Int) < (e : Int) := by omega
              have x2 : (e : Int) < (b : Int) := by omega
              first
              | (exfalso; have := HK.out; omega)
              |
                (go_wp2_with fail
                 refine (IHL.out i d _ hs S1.out y0.1 y0.2 (by omega) HTD.out.pt.p1 HTD.out.pt.p2 HTD.out.cl).mono ?_
                 rintro e2 w6 ⟨rfl, d2, hf2, hs2, hS⟩
                 have HL : Aside _ := And.intro hf2 hs2
                 have hsd2 : Aside (d2.size = N) := hf2.size.trans (hs)
                 have S6 : Aside _ := hS
                 clear hf2 hs2 hS S1
                 go_wp2_with fail
                 refine (IHR.out e d2 _ hsd2.out S6.out x0.1 x0.2 (by omega) (HTD.out.pt.p3.eqOn (fun k k1 k2 => HL.out.1.out k (by omega))) (HTD.out.pt.p4.eqOn (fun k k1 k2 => HL.out.1.out k (by omega))) (HTD.out.cr.eqOn (fun k k1 k2 => HL.out.1.out k (by omega)))).mono ?_
                 rintro e3 w7 ⟨rfl, d3, hf3, hs3, hS⟩
                 go_wp2
                 go_end0
                 have F := sym_final (by omega) (by omega) HTD.out.fr HTD.out.pt.px HL.out.1 HL.out.2 hf3 hs3
                 exact ⟨rfl, d3, F.1, F.2, hS⟩)
            · have x1 : ¬ (mid : Int) < (e : Int) := by omega
              first
              | (exfalso; have := HK.out; omega)
              |
                (go_wp2_with fail
                 refine (IHL.out i d _ hs S1.out y0.1 y0.2 (by omega) HTD.out.pt.p1 HTD.out.pt.p2 HTD.out.cl).mono ?_
                 rintro e2 w6 ⟨rfl, d2, hf2, hs2, hS⟩
                 have HL : Aside _ := And.intro hf2 hs2
                 have hsd2 : Aside (d2.size = N) := hf2.size.trans (hs)
                 have S6 : Aside _ := hS
                 clear hf2 hs2 hS S1
                 go_wp2_with fail
                 go_end0
                 have F := sym_final (by omega) (by omega) HTD.out.fr HTD.out.pt.px HL.out.1 HL.out.2 (From.refl d2 mid b) (HTD.out.right HL.out.1 (by have := HK.out; omega))
                 exact ⟨rfl, d2, F.1, F.2, S6.out⟩)
            · have x1 : (mid : Int) < (e : Int) := by omega
              have x2 : ¬ (e : Int) < (b : Int) := by omega
              first
              | (exfalso; have := HK.out; omega)
              |
                (go_wp2_with fail
                 refine (IHL.out i d _ hs S1.out y0.1 y0.2 (by omega) HTD.out.pt.p1 HTD.out.pt.p2 HTD.out.cl).mono ?_
                 rintro e2 w6 ⟨rfl, d2, hf2, hs2, hS⟩
                 have HL : Aside _ := And.intro hf2 hs2
                 have hsd2 : Aside (d2.size = N) := hf2.size.trans (hs)
                 have S6 : Aside _ := hS
                 clear hf2 hs2 hS S1
                 go_wp2_with fail
                 go_end0
                 have F := sym_final (by omega) (by omega) HTD.out.fr HTD.out.pt.px HL.out.1 HL.out.2 (From.refl d2 mid b) (HTD.out.right HL.out.1 (by have := HK.out; omega))
                 exact ⟨rfl, d2, F.1, F.2, S6.out⟩)
          · have y1 : ¬ (a : Int) < (i : Int) := by omega
            rcases (show (mid < e ∧ e < b) ∨ ¬ mid < e ∨ (mid < e ∧ ¬ e < b) by omega) with x0 | x0 | x0
            · have x1 : (mid : Int) < (e : Int) := by omega
              have x2 : (e : Int) < (b : Int) := by omega
              first
              | (exfalso; have := HK.out; omega)
              |
                (go_wp2_with fail
                 have HL : Aside (From d d a mid ∧ Srt R0 d a mid) := ⟨From.refl _ _ _, HTD.out.left (by have := HK.out; omega)⟩
                 refine (IHR.out e d _ hs S1.out x0.1 x0.2 (by omega) (HTD.out.pt.p3.eqOn (fun k k1 k2 => HL.out.1.out k (by omega))) (HTD.out.pt.p4.eqOn (fun k k1 k2 => HL.out.1.out k (by omega))) (HTD.out.cr.eqOn (fun k k1 k2 => HL.out.1.out k (by omega)))).mono ?_
                 rintro e3 w7 ⟨rfl, d3, hf3, hs3, hS⟩
                 go_wp2
                 go_end0
                 have F := sym_final (by omega) (by omega) HTD.out.fr HTD.out.pt.px HL.out.1 HL.out.2 hf3 hs3
                 exact ⟨rfl, d3, F.1, F.2, hS⟩)
            · have x1 : ¬ (mid : Int) < (e : Int) := by omega
              first
              | (exfalso; have := HK.out; omega)
              |
                (go_wp2_with fail
                 have HL : Aside (From d d a mid ∧ Srt R0 d a mid) := ⟨From.refl _ _ _, HTD.out.left (by have := HK.out; omega)⟩
                 go_end0
                 have F := sym_final (by omega) (by omega) HTD.out.fr HTD.out.pt.px HL.out.1 HL.out.2 (From.refl d mid b) (HTD.out.right HL.out.1 (by have := HK.out; omega))
                 exact ⟨rfl, d, F.1, F.2, S1.out⟩)
            · have x1 : (mid : Int) < (e : Int) := by omega
              have x2 : ¬ (e : Int) < (b : Int) := by omega
              first
              | (exfalso; have := HK.out; omega)
              |
                (go_wp2_with fail
                 have HL : Aside (From d d a mid ∧ Srt R0 d a mid) := ⟨From.refl _ _ _, HTD.out.left (by have := HK.out; omega)⟩
                 go_end0
                 have F := sym_final (by omega) (by omega) HTD.out.fr HTD.out.pt.px HL.out.1 HL.out.2 (From.refl d mid b) (HTD.out.right HL.out.1 (by have := HK.out; omega))
                 exact ⟨rfl, d, F.1, F.2, S1.out⟩)
          · have y1 : (a : Int) < (i : Int) := by omega
            have y2 : ¬ (i : Int) < (mid : Int) := by omega
            rcases (show (mid < e ∧ e < b) ∨ ¬ mid < e ∨ (mid < e ∧ ¬ e < b) by omega) with x0 | x0 | x0
            · have x1 : (mid : Int) < (e : Int) := by omega
              have x2 : (e : Int) < (b : Int) := by omega
              first
              | (exfalso; have := HK.out; omega)
              |
                (go_wp2_with fail
                 have HL : Aside (From d d a mid ∧ Srt R0 d a mid) := ⟨From.refl _ _ _, HTD.out.left (by have := HK.out; omega)⟩
                 refine (IHR.out e d _ hs S1.out x0.1 x0.2 (by omega) (HTD.out.pt.p3.eqOn (fun k k1 k2 => HL.out.1.out k (by omega))) (HTD.out.pt.p4.eqOn (fun k k1 k2 => HL.out.1.out k (by omega))) (HTD.out.cr.eqOn (fun k k1 k2 => HL.out.1.out k (by omega)))).mono ?_
                 rintro e3 w7 ⟨rfl, d3, hf3, hs3, hS⟩
                 go_wp2
                 go_end0
                 have F := sym_final (by omega) (by omega) HTD.out.fr HTD.out.pt.px HL.out.1 HL.out.2 hf3 hs3
                 exact ⟨rfl, d3, F.1, F.2, hS⟩)
            · have x1 : ¬ (mid : Int) < (e : Int) := by omega
              first
              | (exfalso; have := HK.out; omega)
              |
                (go_wp2_with fail
                 have HL : Aside (From d d a mid ∧ Srt R0 d a mid) := ⟨From.refl _ _ _, HTD.out.left (by have := HK.out; omega)⟩
                 go_end0
                 have F := sym_final (by omega) (by omega) HTD.out.fr HTD.out.pt.px HL.out.1 HL.out.2 (From.refl d mid b) (HTD.out.right HL.out.1 (by have := HK.out; omega))
                 exact ⟨rfl, d, F.1, F.2, S1.out⟩)
            · have x1 : (mid : Int) < (e : Int) := by omega
              have x2 : ¬ (e : Int) < (b : Int) := by omega
              first
              | (exfalso; have := HK.out; omega)
              |
                (go_wp2_with fail
                 have HL : Aside (From d d a mid ∧ Srt R0 d a mid) := ⟨From.refl _ _ _, HTD.out.left (by have := HK.out; omega)⟩
                 go_end0
                 have F := sym_final (by omega) (by omega) HTD.out.fr HTD.out.pt.px HL.out.1 HL.out.2 (From.refl d mid b) (HTD.out.right HL.out.1 (by have := HK.out; omega))
                 exact ⟨rfl, d, F.1, F.2, S1.out⟩)
  · skip
    have hz : ¬ (mid : Int) < (m : Int) := by omega
    obtain ⟨st0, HST⟩ : ∃ q, Hid (q = a) := ⟨_, rfl⟩
    obtain ⟨r0, HR0⟩ : ∃ q, Hid (q = m) := ⟨_, rfl⟩
    have HF : Hid (a ≤ st0 ∧ st0 ≤ r0 ∧ r0 ≤ m ∧ nn ≤ b + st0 ∧ m + r0 ≤ nn ∧ (st0 = a ∨ nn - st0 = b) ∧ (r0 = m ∨ nn - r0 = m)) := by have := HNN.out; have := HMID.out; have := HST.out; have := HR0.out; show _ ∧ _; omega
    go_wp2
    go_loopg [20, 21] (r0 - st0) (fun g1 vi vj wr => ∃ (i j : Nat), vi = .int .i64 i ∧ vj = .int .i64 j ∧ st0 ≤ i ∧ i ≤ j ∧ j ≤ r0 ∧ j - i ≤ g1 ∧ Aside (SW enc w0 blk off d wr) ∧ Hid (i = st0 ∨ ltOf cf d[nn - i]! d[i - 1]! = false) ∧ Hid (j = r0 ∨ ltOf cf d[nn - 1 - j]! d[j]! = true))
    case atStart => exact ⟨st0, r0, by first | rfl | (rw [HST.out]), by first | rfl | (rw [HR0.out]), Nat.le_refl _, HF.out.2.1, Nat.le_refl _, Nat.le_refl _, S0, .inl rfl, .inl rfl⟩
    case round =>
      clear S0 r1 r1a r1b r2 r2a r2b r3 r4 r5 r6
      obtain ⟨i, j, rfl, rfl, hmi, hij, hjb, hg1, S1, q1, q2⟩ := hrel
      by_cases hlt : i < j
      · have hltz : (i : Int) < (j : Int) := by omega
        have s1 : IntKind.i64.wrap ((i : Int) + (j : Int)) = (i : Int) + (j : Int) := by have := HF.out; rw [IntKind.wrap_i64]; omega
        obtain ⟨h, HH⟩ : ∃ q, Hid (q = (i + j) / 2) := ⟨_, rfl⟩
        have hh : ((i : Int) + (j : Int)) / 2 = (h : Int) := by have := HH.out; omega
        have hih : i ≤ h := by have := HH.out; omega
        have hhj : h < j := by have := HH.out; omega
        obtain ⟨ph, HPH⟩ : ∃ q, Hid (q + h = p) := ⟨p - h, by have := HF.out; have := HPP.out; have := HNN.out; show _ = _; omega⟩
        have hph : IntKind.i64.wrap ((p : Int) - (h : Int)) = (ph : Int) := by have := HPH.out; have := HPP.out; rw [IntKind.wrap_i64]; omega
        have hphN : ph < N := by have := HF.out; have := HPH.out; have := HPP.out; have := HNN.out; omega
        have hhN : h < N := by have := HF.out; omega
        have eph : nn - 1 - h = ph := by have := HPH.out; have := HPP.out; have := HNN.out; omega
        have EPH : Hid (nn - 1 - h = ph) := eph
        have EPH2 : Hid (nn - (h + 1) = ph) := by have := HPH.out; have := HPP.out; have := HNN.out; show _ = _; omega
        clear eph
        have s2 : IntKind.i64.wrap ((h : Int) + 1) = (h : Int) + 1 := by rw [IntKind.wrap_i64]; omega
        go_wp2_with fail
        cases hlv : ltOf cf d[ph]! d[h]! with
        | true =>
          obtain ⟨iN3, hiN3⟩ : ∃ q, q = ph := ⟨_, rfl⟩
          obtain ⟨jN3, hjN3⟩ : ∃ q, q = h := ⟨_, rfl⟩
          have ea3 : ((ph : Int)).toNat = iN3 := by omega
          have pa3 : (0 : Int) ≤ (ph : Int) := by omega
          have ba3 : (ph : Int) < (N : Int) := by omega
          have ra3 : IntKind.i64.wrap ((ph : Int)) = (ph : Int) := by rw [IntKind.wrap_i64]; omega
          have ec3 : ((h : Int)).toNat = jN3 := by omega
          have pc3 : (0 : Int) ≤ (h : Int) := by omega
          have bc3 : (h : Int) < (N : Int) := by omega
          have rc3 : IntKind.i64.wrap ((h : Int)) = (h : Int) := by rw [IntKind.wrap_i64]; omega
          obtain ⟨x3, hx3⟩ : ∃ x, x = d[ph]! := ⟨_, rfl⟩
          obtain ⟨y3, hy3⟩ : ∃ x, x = d[h]! := ⟨_, rfl⟩
          have l3a := S1.out.cl R (by omega) (ph) (by omega)
          have l3b := S1.out.cl R (by omega) (h) (by omega)
          rw [← hx3, ← hiN3] at l3a
          rw [← hy3, ← hjN3] at l3b
          have hc3 := S1.out.cmp HC.out (by omega) x3 y3
          have hv3 : cf x3 y3 < 0 := by rw [hx3, hy3]; exact of_decide_eq_true hlv
          have hd3 : decide (cf x3 y3 < 0) = true := decide_eq_true hv3
          clear hx3 hy3 hiN3 hjN3
          go_wp2_with fail
          go_quiet_grown (first | (go_at_fn g; refine Calls.grown_of (hc3 _ _)))
          have S3_ : Aside (SW enc w0 blk off d (grow (wr.drewN nq) osq)) := S1.out.grown nq osq
          clear l3a l3b hc3 S1
          generalize grow (wr.drewN nq) osq = w2 at S3_ ⊢
          clear nq osq
          clear ea3 ec3 pa3 pc3 ba3 bc3 ra3 rc3 hv3 hd3
          go_wp2
          go_roundg (h - i)
          case measure => omega
          case rel => exact ⟨i, h, rfl, rfl, hmi, hih, by omega, Nat.le_refl _, S3_, q1, .inr (by rw [EPH.out]; exact hlv)⟩
        | false =>
          obtain ⟨iN4, hiN4⟩ : ∃ q, q = ph := ⟨_, rfl⟩
          obtain ⟨jN4, hjN4⟩ : ∃ q, q = h := ⟨_, rfl⟩
          have ea4 : ((ph : Int)).toNat = iN4 := by omega
          have pa4 : (0 : Int) ≤ (ph : Int) := by omega
          have ba4 : (ph : Int) < (N : Int) := by omega
          have ra4 : IntKind.i64.wrap ((ph : Int)) = (ph : Int) := by rw [IntKind.wrap_i64]; omega
          have ec4 : ((h : Int)).toNat = jN4 := by omega
          have pc4 : (0 : Int) ≤ (h : Int) := by omega
          have bc4 : (h : Int) < (N : Int) := by omega
          have rc4 : IntKind.i64.wrap ((h : Int)) = (h : Int) := by rw [IntKind.wrap_i64]; omega
          obtain ⟨x4, hx4⟩ : ∃ x, x = d[ph]! := ⟨_, rfl⟩
          obtain ⟨y4, hy4⟩ : ∃ x, x = d[h]! := ⟨_, rfl⟩
          have l4a := S1.out.cl R (by omega) (ph) (by omega)
          have l4b := S1.out.cl R (by omega) (h) (by omega)
          rw [← hx4, ← hiN4] at l4a
          rw [← hy4, ← hjN4] at l4b
          have hc4 := S1.out.cmp HC.out (by omega) x4 y4
          have hv4 : ¬ cf x4 y4 < 0 := by rw [hx4, hy4]; exact of_decide_eq_false hlv
          have hd4 : decide (cf x4 y4 < 0) = false := decide_eq_false hv4
          clear hx4 hy4 hiN4 hjN4
          go_wp2_with fail
          go_quiet_grown (first | (go_at_fn g; refine Calls.grown_of (hc4 _ _)))
          have S4_ : Aside (SW enc w0 blk off d (grow (wr.drewN nq) osq)) := S1.out.grown nq osq
          clear l4a l4b hc4 S1
          generalize grow (wr.drewN nq) osq = w2 at S4_ ⊢
          clear nq osq
          clear ea4 ec4 pa4 pc4 ba4 bc4 ra4 rc4 hv4 hd4
          go_wp2
          go_roundg (j - (h + 1))
          case measure => omega
          case rel => exact ⟨h + 1, j, by first | rfl | go_num, rfl, by omega, by omega, hjb, Nat.le_refl _, S4_, .inr (by rw [EPH2.out]; exact hlv), q2⟩
      · have hltz : ¬ (i : Int) < (j : Int) := by omega
        obtain rfl : i = j := by omega
        obtain ⟨e, HEE⟩ : ∃ q, Hid (i + q = nn) := ⟨nn - i, by have := HF.out; show _ = _; omega⟩
        have t1 : IntKind.i64.wrap ((nn : Int) - (i : Int)) = (e : Int) := by have := HEE.out; have := HF.out; rw [IntKind.wrap_i64]; omega
        have k1 : a ≤ i := by have := HF.out; omega
        have k2 : i ≤ m := by have := HF.out; omega
        have k3 : m ≤ e := by have := HF.out; have := HEE.out; omega
        have k4 : e ≤ b := by have := HF.out; have := HEE.out; omega
        have HK : Hid (i + e = mid + m) := by have := HEE.out; have := HNN.out; show _ = _; omega
        have HT : Aside (∀ d1, Rot d i m e d1 → Turned R0 (ltOf cf) d d1 a i mid e b) := fun d1 hr => turned HE.out.2.2.2.1 HE.out.2.2.2.2 HE.out.1 HE.out.2.1 HE.out.2.2.1 HNN.out HEE.out k1 k2 k3 k4 HF.out.2.2.2.2.2.1 HF.out.2.2.2.2.2.2 q1.out q2.out hr
        clear q1 q2 HE
        rcases (show (i < m ∧ m < e) ∨ ¬ i < m ∨ (i < m ∧ ¬ m < e) by omega) with z0 | z0 | z0
        · have z1 : (i : Int) < (m : Int) := by omega
          have z2 : (m : Int) < (e : Int) := by omega
          rcases (show (a < i ∧ i < mid) ∨ ¬ a < i ∨ (a < i ∧ ¬ i < mid) by omega) with y0 | y0 | y0
          · have y1 : (a : Int) < (i : Int) := by omega
            have y2 : (i : Int) < (mid : Int) := by omega
            rcases (show (mid < e ∧ e < b) ∨ ¬ mid < e ∨ (mid < e ∧ ¬ e < b) by omega) with x0 | x0 | x0
            · have x1 : (mid : Int) < (e : Int) := by omega
              have x2 : (e : Int) < (b : Int) := by omega
              first
              | (exfalso; have := HK.out; omega)
              |
                (go_wp2_with fail
                 refine (rotate_calls enc (.func (.func g) #[] cb) blk off cap N i m e d0 d w0 _ HRW.out hs0 hs S1.out z0.1 z0.2 (by omega) hsz).mono ?_
                 rintro e1 w5 ⟨rfl, d1, hr1, hS⟩
                 have HTD : Aside _ := HT.out d1 hr1
                 have hsd1 : Aside (d1.size = N) := hr1.1.trans hs
                 have S5 : Aside _ := hS
                 clear hr1 hS S1
                 go_wp2_with fail
                 refine (IHL.out i d1 _ hsd1.out S5.out y0.1 y0.2 (by omega) HTD.out.pt.p1 HTD.out.pt.p2 HTD.out.cl).mono ?_
                 rintro e2 w6 ⟨rfl, d2, hf2, hs2, hS⟩
                 have HL : Aside _ := And.intro hf2 hs2
                 have hsd2 : Aside (d2.size = N) := hf2.size.trans (hsd1.out)
                 have S6 : Aside _ := hS
                 clear hf2 hs2 hS S5
                 go_wp2_with fail
                 refine (IHR.out e d2 _ hsd2.out S6.out x0.1 x0.2 (by omega) (HTD.out.pt.p3.eqOn (fun k k1 k2 => HL.out.1.out k (by omega))) (HTD.out.pt.p4.eqOn (fun k k1 k2 => HL.out.1.out k (by omega))) (HTD.out.cr.eqOn (fun k k1 k2 => HL.out.1.out k (by omega)))).mono ?_
                 rintro e3 w7 ⟨rfl, d3, hf3, hs3, hS⟩
                 go_wp2
                 go_end0
                 have F := sym_final (by omega) (by omega) HTD.out.fr HTD.out.pt.px HL.out.1 HL.out.2 hf3 hs3
                 exact ⟨rfl, d3, F.1, F.2, hS⟩)
            · have x1 : ¬ (mid : Int) < (e : Int) := by omega
              first
              | (exfalso; have := HK.out; omega)
              |
                (go_wp2_with fail
                 refine (rotate_calls enc (.func (.func g) #[] cb) blk off cap N i m e d0 d w0 _ HRW.out hs0 hs S1.out z0.1 z0.2 (by omega) hsz).mono ?_
                 rintro e1 w5 ⟨rfl, d1, hr1, hS⟩
                 have HTD : Aside _ := HT.out d1 hr1
                 have hsd1 : Aside (d1.size = N) := hr1.1.trans hs
                 have S5 : Aside _ := hS
                 clear hr1 hS S1
                 go_wp2_with fail
                 refine (IHL.out i d1 _ hsd1.out S5.out y0.1 y0.2 (by omega) HTD.out.pt.p1 HTD.out.pt.p2 HTD.out.cl).mono ?_
                 rintro e2 w6 ⟨rfl, d2, hf2, hs2, hS⟩
                 have HL : Aside _ := And.intro hf2 hs2
                 have hsd2 : Aside (d2.size = N) := hf2.size.trans (hsd1.out)
                 have S6 : Aside _ := hS
                 clear hf2 hs2 hS S5
                 go_wp2_with fail
                 go_end0
                 have F := sym_final (by omega) (by omega) HTD.out.fr HTD.out.pt.px HL.out.1 HL.out.2 (From.refl d2 mid b) (HTD.out.right HL.out.1 (by have := HK.out; omega))
                 exact ⟨rfl, d2, F.1, F.2, S6.out⟩)
            · have x1 : (mid : Int) < (e : Int) := by omega
              have x2 : ¬ (e : Int) < (b : Int) := by omega
              first
              | (exfalso; have := HK.out; omega)
              |
                (go_wp2_with fail
                 refine (rotate_calls enc (.func (.func g) #[] cb) blk off cap N i m e d0 d w0 _ HRW.out hs0 hs S1.out z0.1 z0.2 (by omega) hsz).mono ?_
                 rintro e1 w5 ⟨rfl, d1, hr1, hS⟩
                 have HTD : Aside _ := HT.out d1 hr1
                 have hsd1 : Aside (d1.size = N) := hr1.1.trans hs
                 have S5 : Aside _ := hS
                 clear hr1 hS S1
                 go_wp2_with fail
                 refine (IHL.out i d1 _ hsd1.out S5.out y0.1 y0.2 (by omega) HTD.out.pt.p1 HTD.out.pt.p2 HTD.out.cl).mono ?_
                 rintro e2 w6 ⟨rfl, d2, hf2, hs2, hS⟩
                 have HL : Aside _ := And.intro hf2 hs2
                 have hsd2 : Aside (d2.size = N) := hf2.size.trans (hsd1.out)
                 have S6 : Aside _ := hS
                 clear hf2 hs2 hS S5
                 go_wp2_with fail
                 go_end0
                 have F := sym_final (by omega) (by omega) HTD.out.fr HTD.out.pt.px HL.out.1 HL.out.2 (From.refl d2 mid b) (HTD.out.right HL.out.1 (by have := HK.out; omega))
                 exact ⟨rfl, d2, F.1, F.2, S6.out⟩)
          · have y1 : ¬ (a : Int) < (i : Int) := by omega
            rcases (show (mid < e ∧ e < b) ∨ ¬ mid < e ∨ (mid < e ∧ ¬ e < b) by omega) with x0 | x0 | x0
            · have x1 : (mid : Int) < (e : Int) := by omega
              have x2 : (e : Int) < (b : Int) := by omega
              first
              | (exfalso; have := HK.out; omega)
              |
                (go_wp2_with fail
                 refine (rotate_calls enc (.func (.func g) #[] cb) blk off cap N i m e d0 d w0 _ HRW.out hs0 hs S1.out z0.1 z0.2 (by omega) hsz).mono ?_
                 rintro e1 w5 ⟨rfl, d1, hr1, hS⟩
                 have HTD : Aside _ := HT.out d1 hr1
                 have hsd1 : Aside (d1.size = N) := hr1.1.trans hs
                 have S5 : Aside _ := hS
                 clear hr1 hS S1
                 go_wp2_with fail
                 have HL : Aside (From d1 d1 a mid ∧ Srt R0 d1 a mid) := ⟨From.refl _ _ _, HTD.out.left (by have := HK.out; omega)⟩
                 refine (IHR.out e d1 _ hsd1.out S5.out x0.1 x0.2 (by omega) (HTD.out.pt.p3.eqOn (fun k k1 k2 => HL.out.1.out k (by omega))) (HTD.out.pt.p4.eqOn (fun k k1 k2 => HL.out.1.out k (by omega))) (HTD.out.cr.eqOn (fun k k1 k2 => HL.out.1.out k (by omega)))).mono ?_
                 rintro e3 w7 ⟨rfl, d3, hf3, hs3, hS⟩
                 go_wp2
                 go_end0
                 have F := sym_final (by omega) (by omega) HTD.out.fr HTD.out.pt.px HL.out.1 HL.out.2 hf3 hs3
                 exact ⟨rfl, d3, F.1, F.2, hS⟩)
            · have x1 : ¬ (mid : Int) < (e : Int) := by omega
              first
              | (exfalso; have := HK.out; omega)
              |
                (go_wp2_with fail
                 refine (rotate_calls enc (.func (.func g) #[] cb) blk off cap N i m e d0 d w0 _ HRW.out hs0 hs S1.out z0.1 z0.2 (by omega) hsz).mono ?_
                 rintro e1 w5 ⟨rfl, d1, hr1, hS⟩
                 have HTD : Aside _ := HT.out d1 hr1
                 have hsd1 : Aside (d1.size = N) := hr1.1.trans hs
                 have S5 : Aside _ := hS
                 clear hr1 hS S1
                 go_wp2_with fail
                 have HL : Aside (From d1 d1 a mid ∧ Srt R0 d1 a mid) := ⟨From.refl _ _ _, HTD.out.left (by have := HK.out; omega)⟩
                 go_end0
                 have F := sym_final (by omega) (by omega) HTD.out.fr HTD.out.pt.px HL.out.1 HL.out.2 (From.refl d1 mid b) (HTD.out.right HL.out.1 (by have := HK.out; omega))
                 exact ⟨rfl, d1, F.1, F.2, S5.out⟩)
            · have x1 : (mid : Int) < (e : Int) := by omega
              have x2 : ¬ (e : Int) < (b : Int) := by omega
              first
              | (exfalso; have := HK.out; omega)
              |
                (go_wp2_with fail
                 refine (rotate_calls enc (.func (.func g) #[] cb) blk off cap N i m e d0 d w0 _ HRW.out hs0 hs S1.out z0.1 z0.2 (by omega) hsz).mono ?_
                 rintro e1 w5 ⟨rfl, d1, hr1, hS⟩
                 have HTD : Aside _ := HT.out d1 hr1
                 have hsd1 : Aside (d1.size = N) := hr1.1.trans hs
                 have S5 : Aside _ := hS
                 clear hr1 hS S1
                 go_wp2_with fail
                 have HL : Aside (From d1 d1 a mid ∧ Srt R0 d1 a mid) := ⟨From.refl _ _ _, HTD.out.left (by have := HK.out; omega)⟩
                 go_end0
                 have F := sym_final (by omega) (by omega) HTD.out.fr HTD.out.pt.px HL.out.1 HL.out.2 (From.refl d1 mid b) (HTD.out.right HL.out.1 (by have := HK.out; omega))
                 exact ⟨rfl, d1, F.1, F.2, S5.out⟩)
          · have y1 : (a : Int) < (i : Int) := by omega
            have y2 : ¬ (i : Int) < (mid : Int) := by omega
            rcases (show (mid < e ∧ e < b) ∨ ¬ mid < e ∨ (mid < e ∧ ¬ e < b) by omega) with x0 | x0 | x0
            · have x1 : (mid : Int) < (e : Int) := by omega
              have x2 : (e : Int) < (b : Int) := by omega
              first
              | (exfalso; have := HK.out; omega)
              |
                (go_wp2_with fail
                 refine (rotate_calls enc (.func (.func g) #[] cb) blk off cap N i m e d0 d w0 _ HRW.out hs0 hs S1.out z0.1 z0.2 (by omega) hsz).mono ?_
                 rintro e1 w5 ⟨rfl, d1, hr1, hS⟩
                 have HTD : Aside _ := HT.out d1 hr1
                 have hsd1 : Aside (d1.size = N) := hr1.1.trans hs
                 have S5 : Aside _ := hS
                 clear hr1 hS S1
                 go_wp2_with fail
                 have HL : Aside (From d1 d1 a mid ∧ Srt R0 d1 a mid) := ⟨From.refl _ _ _, HTD.out.left (by have := HK.out; omega)⟩
                 refine (IHR.out e d1 _ hsd1.out S5.out x0.1 x0.2 (by omega) (HTD.out.pt.p3.eqOn (fun k k1 k2 => HL.out.1.out k (by omega))) (HTD.out.pt.p4.eqOn (fun k k1 k2 => HL.out.1.out k (by omega))) (HTD.out.cr.eqOn (fun k k1 k2 => HL.out.1.out k (by omega)))).mono ?_
                 rintro e3 w7 ⟨rfl, d3, hf3, hs3, hS⟩
                 go_wp2
                 go_end0
                 have F := sym_final (by omega) (by omega) HTD.out.fr HTD.out.pt.px HL.out.1 HL.out.2 hf3 hs3
                 exact ⟨rfl, d3, F.1, F.2, hS⟩)
            · have x1 : ¬ (mid : Int) < (e : Int) := by omega
              first
              | (exfalso; have := HK.out; omega)
              |
                (go_wp2_with fail
                 refine (rotate_calls enc (.func (.func g) #[] cb) blk off cap N i m e d0 d w0 _ HRW.out hs0 hs S1.out z0.1 z0.2 (by omega) hsz).mono ?_
                 rintro e1 w5 ⟨rfl, d1, hr1, hS⟩
                 have HTD : Aside _ := HT.out d1 hr1
                 have hsd1 : Aside (d1.size = N) := hr1.1.trans hs
                 have S5 : Aside _ := hS
                 clear hr1 hS S1
                 go_wp2_with fail
                 have HL : Aside (From d1 d1 a mid ∧ Srt R0 d1 a mid) := ⟨From.refl _ _ _, HTD.out.left (by have := HK.out; omega)⟩
                 go_end0
                 have F := sym_final (by omega) (by omega) HTD.out.fr HTD.out.pt.px HL.out.1 HL.out.2 (From.refl d1 mid b) (HTD.out.right HL.out.1 (by have := HK.out; omega))
                 exact ⟨rfl, d1, F.1, F.2, S5.out⟩)
            · have x1 : (mid : Int) < (e : Int) := by omega
              have x2 : ¬ (e : Int) < (b : Int) := by omega
              first
              | (exfalso; have := HK.out; omega)
              |
                (go_wp2_with fail
                 refine (rotate_calls enc (.func (.func g) #[] cb) blk off cap N i m e d0 d w0 _ HRW.out hs0 hs S1.out z0.1 z0.2 (by omega) hsz).mono ?_
                 rintro e1 w5 ⟨rfl, d1, hr1, hS⟩
                 have HTD : Aside _ := HT.out d1 hr1
                 have hsd1 : Aside (d1.size = N) := hr1.1.trans hs
                 have S5 : Aside _ := hS
                 clear hr1 hS S1
                 go_wp2_with fail
                 have HL : Aside (From d1 d1 a mid ∧ Srt R0 d1 a mid) := ⟨From.refl _ _ _, HTD.out.left (by have := HK.out; omega)⟩
                 go_end0
                 have F := sym_final (by omega) (by omega) HTD.out.fr HTD.out.pt.px HL.out.1 HL.out.2 (From.refl d1 mid b) (HTD.out.right HL.out.1 (by have := HK.out; omega))
                 exact ⟨rfl, d1, F.1, F.2, S5.out⟩)
        · have z1 : ¬ (i : Int) < (m : Int) := by omega
          have HTD : Aside _ := HT.out d (rot_none (by omega) k2 k3)
          rcases (show (a < i ∧ i < mid) ∨ ¬ a < i ∨ (a < i ∧ ¬ i < mid) by omega) with y0 | y0 | y0
          · have y1 : (a : Int) < (i : Int) := by omega
            have y2 : (i : Int) < (mid : Int) := by omega
            rcases (show (mid < e ∧ e < b) ∨ ¬ mid < e ∨ (mid < e ∧ ¬ e < b) by omega) with x0 | x0 | x0
            · have x1 : (mid : Int) < (e : Int) := by omega
              have x2 : (e : Int) < (b : Int) := by omega
              first
              | (exfalso; have := HK.out; omega)
              |
                (go_wp2_with fail
                 refine (IHL.out i d _ hs S1.out y0.1 y0.2 (by omega) HTD.out.pt.p1 HTD.out.pt.p2 HTD.out.cl).mono ?_
                 rintro e2 w6 ⟨rfl, d2, hf2, hs2, hS⟩
                 have HL : Aside _ := And.intro hf2 hs2
                 have hsd2 : Aside (d2.size = N) := hf2.size.trans (hs)
                 have S6 : Aside _ := hS
                 clear hf2 hs2 hS S1
                 go_wp2_with fail
                 refine (IHR.out e d2 _ hsd2.out S6.out x0.1 x0.2 (by omega) (HTD.out.pt.p3.eqOn (fun k k1 k2 => HL.out.1.out k (by omega))) (HTD.out.pt.p4.eqOn (fun k k1 k2 => HL.out.1.out k (by omega))) (HTD.out.cr.eqOn (fun k k1 k2 => HL.out.1.out k (by omega)))).mono ?_
                 rintro e3 w7 ⟨rfl, d3, hf3, hs3, hS⟩
                 go_wp2
                 go_end0
                 have F := sym_final (by omega) (by omega) HTD.out.fr HTD.out.pt.px HL.out.1 HL.out.2 hf3 hs3
                 exact ⟨rfl, d3, F.1, F.2, hS⟩)
            · have x1 : ¬ (mid : Int) < (e : Int) := by omega
              first
              | (exfalso; have := HK.out; omega)
              |
                (go_wp2_with fail
                 refine (IHL.out i d _ hs S1.out y0.1 y0.2 (by omega) HTD.out.pt.p1 HTD.out.pt.p2 HTD.out.cl).mono ?_
                 rintro e2 w6 ⟨rfl, d2, hf2, hs2, hS⟩
                 have HL : Aside _ := And.intro hf2 hs2
                 have hsd2 : Aside (d2.size = N) := hf2.size.trans (hs)
                 have S6 : Aside _ := hS
                 clear hf2 hs2 hS S1
                 go_wp2_with fail
                 go_end0
                 have F := sym_final (by omega) (by omega) HTD.out.fr HTD.out.pt.px HL.out.1 HL.out.2 (From.refl d2 mid b) (HTD.out.right HL.out.1 (by have := HK.out; omega))
                 exact ⟨rfl, d2, F.1, F.2, S6.out⟩)
            · have x1 : (mid : Int) < (e : Int) := by omega
              have x2 : ¬ (e : Int) < (b : Int) := by omega
              first
              | (exfalso; have := HK.out; omega)
              |
                (go_wp2_with fail
                 refine (IHL.out i d _ hs S1.out y0.1 y0.2 (by omega) HTD.out.pt.p1 HTD.out.pt.p2 HTD.out.cl).mono ?_
                 rintro e2 w6 ⟨rfl, d2, hf2, hs2, hS⟩
                 have HL : Aside _ := And.intro hf2 hs2
                 have hsd2 : Aside (d2.size = N) := hf2.size.trans (hs)
                 have S6 : Aside _ := hS
                 clear hf2 hs2 hS S1
                 go_wp2_with fail
                 go_end0
                 have F := sym_final (by omega) (by omega) HTD.out.fr HTD.out.pt.px HL.out.1 HL.out.2 (From.refl d2 mid b) (HTD.out.right HL.out.1 (by have := HK.out; omega))
                 exact ⟨rfl, d2, F.1, F.2, S6.out⟩)
          · have y1 : ¬ (a : Int) < (i : Int) := by omega
            rcases (show (mid < e ∧ e < b) ∨ ¬ mid < e ∨ (mid < e ∧ ¬ e < b) by omega) with x0 | x0 | x0
            · have x1 : (mid : Int) < (e : Int) := by omega
              have x2 : (e : Int) < (b : Int) := by omega
              first
              | (exfalso; have := HK.out; omega)
              |
                (go_wp2_with fail
                 have HL : Aside (From d d a mid ∧ Srt R0 d a mid) := ⟨From.refl _ _ _, HTD.out.left (by have := HK.out; omega)⟩
                 refine (IHR.out e d _ hs S1.out x0.1 x0.2 (by omega) (HTD.out.pt.p3.eqOn (fun k k1 k2 => HL.out.1.out k (by omega))) (HTD.out.pt.p4.eqOn (fun k k1 k2 => HL.out.1.out k (by omega))) (HTD.out.cr.eqOn (fun k k1 k2 => HL.out.1.out k (by omega)))).mono ?_
                 rintro e3 w7 ⟨rfl, d3, hf3, hs3, hS⟩
                 go_wp2
                 go_end0
                 have F := sym_final (by omega) (by omega) HTD.out.fr HTD.out.pt.px HL.out.1 HL.out.2 hf3 hs3
                 exact ⟨rfl, d3, F.1, F.2, hS⟩)
            · have x1 : ¬ (mid : Int) < (e : Int) := by omega
              first
              | (exfalso; have := HK.out; omega)
              |
                (go_wp2_with fail
                 have HL : Aside (From d d a mid ∧ Srt R0 d a mid) := ⟨From.refl _ _ _, HTD.out.left (by have := HK.out; omega)⟩
                 go_end0
                 have F := sym_final (by omega) (by omega) HTD.out.fr HTD.out.pt.px HL.out.1 HL.out.2 (From.refl d mid b) (HTD.out.right HL.out.1 (by have := HK.out; omega))
                 exact ⟨rfl, d, F.1, F.2, S1.out⟩)
            · have x1 : (mid : Int) < (e : Int) := by omega
              have x2 : ¬ (e : Int) < (b : Int) := by omega
              first
              | (exfalso; have := HK.out; omega)
              |
                (go_wp2_with fail
                 have HL : Aside (From d d a mid ∧ Srt R0 d a mid) := ⟨From.refl _ _ _, HTD.out.left (by have := HK.out; omega)⟩
                 go_end0
                 have F := sym_final (by omega) (by omega) HTD.out.fr HTD.out.pt.px HL.out.1 HL.out.2 (From.refl d mid b) (HTD.out.right HL.out.1 (by have := HK.out; omega))
                 exact ⟨rfl, d, F.1, F.2, S1.out⟩)
          · have y1 : (a : Int) < (i : Int) := by omega
            have y2 : ¬ (i : Int) < (mid : Int) := by omega
            rcases (show (mid < e ∧ e < b) ∨ ¬ mid < e ∨ (mid < e ∧ ¬ e < b) by omega) with x0 | x0 | x0
            · have x1 : (mid : Int) < (e : Int) := by omega
              have x2 : (e : Int) < (b : Int) := by omega
              first
              | (exfalso; have := HK.out; omega)
              |
                (go_wp2_with fail
                 have HL : Aside (From d d a mid ∧ Srt R0 d a mid) := ⟨From.refl _ _ _, HTD.out.left (by have := HK.out; omega)⟩
                 refine (IHR.out e d _ hs S1.out x0.1 x0.2 (by omega) (HTD.out.pt.p3.eqOn (fun k k1 k2 => HL.out.1.out k (by omega))) (HTD.out.pt.p4.eqOn (fun k k1 k2 => HL.out.1.out k (by omega))) (HTD.out.cr.eqOn (fun k k1 k2 => HL.out.1.out k (by omega)))).mono ?_
                 rintro e3 w7 ⟨rfl, d3, hf3, hs3, hS⟩
                 go_wp2
                 go_end0
                 have F := sym_final (by omega) (by omega) HTD.out.fr HTD.out.pt.px HL.out.1 HL.out.2 hf3 hs3
                 exact ⟨rfl, d3, F.1, F.2, hS⟩)
            · have x1 : ¬ (mid : Int) < (e : Int) := by omega
              first
              | (exfalso; have := HK.out; omega)
              |
                (go_wp2_with fail
                 have HL : Aside (From d d a mid ∧ Srt R0 d a mid) := ⟨From.refl _ _ _, HTD.out.left (by have := HK.out; omega)⟩
                 go_end0
                 have F := sym_final (by omega) (by omega) HTD.out.fr HTD.out.pt.px HL.out.1 HL.out.2 (From.refl d mid b) (HTD.out.right HL.out.1 (by have := HK.out; omega))
                 exact ⟨rfl, d, F.1, F.2, S1.out⟩)
            · have x1 : (mid : Int) < (e : Int) := by omega
              have x2 : ¬ (e : Int) < (b : Int) := by omega
              first
              | (exfalso; have := HK.out; omega)
              |
                (go_wp2_with fail
                 have HL : Aside (From d d a mid ∧ Srt R0 d a mid) := ⟨From.refl _ _ _, HTD.out.left (by have := HK.out; omega)⟩
                 go_end0
                 have F := sym_final (by omega) (by omega) HTD.out.fr HTD.out.pt.px HL.out.1 HL.out.2 (From.refl d mid b) (HTD.out.right HL.out.1 (by have := HK.out; omega))
                 exact ⟨rfl, d, F.1, F.2, S1.out⟩)
        · have z1 : (i : Int) < (m : Int) := by omega
          have z2 : ¬ (m : Int) < (e : Int) := by omega
          have HTD : Aside _ := HT.out d (rot_none (by omega) k2 k3)
          rcases (show (a < i ∧ i < mid) ∨ ¬ a < i ∨ (a < i ∧ ¬ i < mid) by omega) with y0 | y0 | y0
          · have y1 : (a : Int) < (i : Int) := by omega
            have y2 : (i : Int) < (mid : Int) := by omega
            rcases (show (mid < e ∧ e < b) ∨ ¬ mid < e ∨ (mid < e ∧ ¬ e < b) by omega) with x0 | x0 | x0
            · have x1 : (mid : Int) < (e : Int) := by omega
              have x2 : (e : Int) < (b : Int) := by omega
              first
              | (exfalso; have := HK.out; omega)
              |
                (go_wp2_with fail
                 refine (IHL.out i d _ hs S1.out y0.1 y0.2 (by omega) HTD.out.pt.p1 HTD.out.pt.p2 HTD.out.cl).mono ?_
                 rintro e2 w6 ⟨rfl, d2, hf2, hs2, hS⟩
                 have HL : Aside _ := And.intro hf2 hs2
                 have hsd2 : Aside (d2.size = N) := hf2.size.trans (hs)
                 have S6 : Aside _ := hS
                 clear hf2 hs2 hS S1
                 go_wp2_with fail
                 refine (IHR.out e d2 _ hsd2.out S6.out x0.1 x0.2 (by omega) (HTD.out.pt.p3.eqOn (fun k k1 k2 => HL.out.1.out k (by omega))) (HTD.out.pt.p4.eqOn (fun k k1 k2 => HL.out.1.out k (by omega))) (HTD.out.cr.eqOn (fun k k1 k2 => HL.out.1.out k (by omega)))).mono ?_
                 rintro e3 w7 ⟨rfl, d3, hf3, hs3, hS⟩
                 go_wp2
                 go_end0
                 have F := sym_final (by omega) (by omega) HTD.out.fr HTD.out.pt.px HL.out.1 HL.out.2 hf3 hs3
                 exact ⟨rfl, d3, F.1, F.2, hS⟩)
            · have x1 : ¬ (mid : Int) < (e : Int) := by omega
              first
              | (exfalso; have := HK.out; omega)
              |
                (go_wp2_with fail
                 refine (IHL.out i d _ hs S1.out y0.1 y0.2 (by omega) HTD.out.pt.p1 HTD.out.pt.p2 HTD.out.cl).mono ?_
                 rintro e2 w6 ⟨rfl, d2, hf2, hs2, hS⟩
                 have HL : Aside _ := And.intro hf2 hs2
                 have hsd2 : Aside (d2.size = N) := hf2.size.trans (hs)
                 have S6 : Aside _ := hS
                 clear hf2 hs2 hS S1
                 go_wp2_with fail
                 go_end0
                 have F := sym_final (by omega) (by omega) HTD.out.fr HTD.out.pt.px HL.out.1 HL.out.2 (From.refl d2 mid b) (HTD.out.right HL.out.1 (by have := HK.out; omega))
                 exact ⟨rfl, d2, F.1, F.2, S6.out⟩)
            · have x1 : (mid : Int) < (e : Int) := by omega
              have x2 : ¬ (e : Int) < (b : Int) := by omega
              first
              | (exfalso; have := HK.out; omega)
              |
                (go_wp2_with fail
                 refine (IHL.out i d _ hs S1.out y0.1 y0.2 (by omega) HTD.out.pt.p1 HTD.out.pt.p2 HTD.out.cl).mono ?_
                 rintro e2 w6 ⟨rfl, d2, hf2, hs2, hS⟩
                 have HL : Aside _ := And.intro hf2 hs2
                 have hsd2 : Aside (d2.size = N) := hf2.size.trans (hs)
                 have S6 : Aside _ := hS
                 clear hf2 hs2 hS S1
                 go_wp2_with fail
                 go_end0
                 have F := sym_final (by omega) (by omega) HTD.out.fr HTD.out.pt.px HL.out.1 HL.out.2 (From.refl d2 mid b) (HTD.out.right HL.out.1 (by have := HK.out; omega))
                 exact ⟨rfl, d2, F.1, F.2, S6.out⟩)
          · have y1 : ¬ (a : Int) < (i : Int) := by omega
            rcases (show (mid < e ∧ e < b) ∨ ¬ mid < e ∨ (mid < e ∧ ¬ e < b) by omega) with x0 | x0 | x0
            · have x1 : (mid : Int) < (e : Int) := by omega
              have x2 : (e : Int) < (b : Int) := by omega
              first
              | (exfalso; have := HK.out; omega)
              |
                (go_wp2_with fail
                 have HL : Aside (From d d a mid ∧ Srt R0 d a mid) := ⟨From.refl _ _ _, HTD.out.left (by have := HK.out; omega)⟩
                 refine (IHR.out e d _ hs S1.out x0.1 x0.2 (by omega) (HTD.out.pt.p3.eqOn (fun k k1 k2 => HL.out.1.out k (by omega))) (HTD.out.pt.p4.eqOn (fun k k1 k2 => HL.out.1.out k (by omega))) (HTD.out.cr.eqOn (fun k k1 k2 => HL.out.1.out k (by omega)))).mono ?_
                 rintro e3 w7 ⟨rfl, d3, hf3, hs3, hS⟩
                 go_wp2
                 go_end0
                 have F := sym_final (by omega) (by omega) HTD.out.fr HTD.out.pt.px HL.out.1 HL.out.2 hf3 hs3
                 exact ⟨rfl, d3, F.1, F.2, hS⟩)
            · have x1 : ¬ (mid : Int) < (e : Int) := by omega
              first
              | (exfalso; have := HK.out; omega)
              |
                (go_wp2_with fail
                 have HL : Aside (From d d a mid ∧ Srt R0 d a mid) := ⟨From.refl _ _ _, HTD.out.left (by have := HK.out; omega)⟩
                 go_end0
                 have F := sym_final (by omega) (by omega) HTD.out.fr HTD.out.pt.px HL.out.1 HL.out.2 (From.refl d mid b) (HTD.out.right HL.out.1 (by have := HK.out; omega))
                 exact ⟨rfl, d, F.1, F.2, S1.out⟩)
            · have x1 : (mid : Int) < (e : Int) := by omega
              have x2 : ¬ (e : Int) < (b : Int) := by omega
              first
              | (exfalso; have := HK.out; omega)
              |
                (go_wp2_with fail
                 have HL : Aside (From d d a mid ∧ Srt R0 d a mid) := ⟨From.refl _ _ _, HTD.out.left (by have := HK.out; omega)⟩
                 go_end0
                 have F := sym_final (by omega) (by omega) HTD.out.fr HTD.out.pt.px HL.out.1 HL.out.2 (From.refl d mid b) (HTD.out.right HL.out.1 (by have := HK.out; omega))
                 exact ⟨rfl, d, F.1, F.2, S1.out⟩)
          · have y1 : (a : Int) < (i : Int) := by omega
            have y2 : ¬ (i : Int) < (mid : Int) := by omega
            rcases (show (mid < e ∧ e < b) ∨ ¬ mid < e ∨ (mid < e ∧ ¬ e < b) by omega) with x0 | x0 | x0
            · have x1 : (mid : Int) < (e : Int) := by omega
              have x2 : (e : Int) < (b : Int) := by omega
              first
              | (exfalso; have := HK.out; omega)
              |
                (go_wp2_with fail
                 have HL : Aside (From d d a mid ∧ Srt R0 d a mid) := ⟨From.refl _ _ _, HTD.out.left (by have := HK.out; omega)⟩
                 refine (IHR.out e d _ hs S1.out x0.1 x0.2 (by omega) (HTD.out.pt.p3.eqOn (fun k k1 k2 => HL.out.1.out k (by omega))) (HTD.out.pt.p4.eqOn (fun k k1 k2 => HL.out.1.out k (by omega))) (HTD.out.cr.eqOn (fun k k1 k2 => HL.out.1.out k (by omega)))).mono ?_
                 rintro e3 w7 ⟨rfl, d3, hf3, hs3, hS⟩
                 go_wp2
                 go_end0
                 have F := sym_final (by omega) (by omega) HTD.out.fr HTD.out.pt.px HL.out.1 HL.out.2 hf3 hs3
                 exact ⟨rfl, d3, F.1, F.2, hS⟩)
            · have x1 : ¬ (mid : Int) < (e : Int) := by omega
              first
              | (exfalso; have := HK.out; omega)
              |
                (go_wp2_with fail
                 have HL : Aside (From d d a mid ∧ Srt R0 d a mid) := ⟨From.refl _ _ _, HTD.out.left (by have := HK.out; omega)⟩
                 go_end0
                 have F := sym_final (by omega) (by omega) HTD.out.fr HTD.out.pt.px HL.out.1 HL.out.2 (From.refl d mid b) (HTD.out.right HL.out.1 (by have := HK.out; omega))
                 exact ⟨rfl, d, F.1, F.2, S1.out⟩)
            · have x1 : (mid : Int) < (e : Int) := by omega
              have x2 : ¬ (e : Int) < (b : Int) := by omega
              first
              | (exfalso; have := HK.out; omega)
              |
                (go_wp2_with fail
                 have HL : Aside (From d d a mid ∧ Srt R0 d a mid) := ⟨From.refl _ _ _, HTD.out.left (by have := HK.out; omega)⟩
                 go_end0
                 have F := sym_final (by omega) (by omega) HTD.out.fr HTD.out.pt.px HL.out.1 HL.out.2 (From.refl d mid b) (HTD.out.right HL.out.1 (by have := HK.out; omega))
                 exact ⟨rfl, d, F.1, F.2, S1.out⟩)
end Go.Proofs.Ytldhhomeifjbeaa.PA
