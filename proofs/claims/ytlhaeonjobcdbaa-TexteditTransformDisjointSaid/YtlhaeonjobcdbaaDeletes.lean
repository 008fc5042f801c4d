/- The method 'deletes' of textedit's merger: what one call does and answers, walked. Conditions: the state's own (the word MP). -/
import Derived.Test.YtlhaeonjobcdbaaMM
namespace Go.Proofs.Ytlhaeonjobcdbaa.PA
open Go.RowKit Go.Proofs.YtlhaeonjobcdbaaW.PrintWords Go.Proofs.YtlhaeonjobcdbaaW.PrintLast
set_option linter.unusedVariables false

/-- The first edit of a row that is read. -/
theorem head_cells {w : World} {A : Option Addr} {e : S43} {es : List S43} (h : Kd.C k43 w A (e :: es).length (e :: es)) : ∃ ad, A = some ad ∧ w.cell? ad = some (.int .i64 e.f0) ∧ w.cell? ⟨ad.block, ad.off + 1, none⟩ = some (.int .i64 e.f1) ∧ w.cell? ⟨ad.block, ad.off + 2, none⟩ = some (.string e.f2) := by
  obtain ⟨ad, e0, h0, h1, h2⟩ := at_T43 h 0 (by omega) (by simp)
  have hz : rd_T43 (e :: es) 0 = e := rfl
  have ha : ad.add ((0 : Int).toNat * 3) = ad := by simp [Addr.add]
  rw [ha, hz] at h0 h1 h2
  exact ⟨ad, e0, h0, h1, h2⟩

set_option maxHeartbeats 8000000 in
set_option maxRecDepth 100000 in
theorem deletes_calls (w0 : World) (g1 g2 : Nat) (e1 : List S43) (o1 : Nat) (M1 : List TB) (e2 : List S43) (o2 : Nat) (M2 : List TB) (i : Int) (w : World) (h : MM w0 g1 g2 e1 o1 M1 e2 o2 M2 w) (hi0 : 0 ≤ i) (hi : i ≤ 2000) (hl : e1.length ≤ 50000) :
    Calls Try.prog 32 #[.pointer (some ⟨g1, 0, none⟩), .int .i64 i] w fun e w' => e = .returned (.bool (delHead i (popE i e1))) ∧ MM w0 g1 g2 (popE i e1) o1 M1 e2 o2 M2 w' := by
  have HM := Aside0.mk h
  clear h
  have huE := Try.underlying43
  have huES := Try.underlying22
  go_enter Try.func32, Try.ntmps32
  go_wp2
  go_loopg [] e1.length (fun kq wx => Aside0 (∃ es, MM w0 g1 g2 es o1 M1 e2 o2 M2 wx ∧ popE i es = popE i e1 ∧ es.length = kq ∧ kq ≤ 50000))
  case atStart => exact ⟨e1, HM.out, rfl, rfl, hl⟩
  case round =>
    obtain ⟨es, ⟨A1, c1, v1, A2, c2, v2, hP⟩, hpop, hlen, hk50⟩ := hrel.out
    have HP := Aside0.mk hP
    have HPOP := Aside0.mk hpop
    obtain ⟨k0, k1, k2⟩ := hP.cell1
    have HLEN := Aside0.mk hlen
    clear hP hpop HM hrel hlen
    cases es with
    | nil =>
      go_wp2
      go_ret
      rw [← HPOP.out]
      exact ⟨rfl, A1, c1, v1, A2, c2, v2, HP.out⟩
    | cons e es =>
      obtain ⟨ad, rfl, x0, x1, x2⟩ := head_cells HP.out.read1
      by_cases hle : e.f1 ≤ i
      · have hd : decide (e.f1 ≤ i) = true := decide_eq_true hle
        have hdr := Kd.C_drop (m := 1) HP.out.r1 (by simp) HP.out.l1
        have hpp : popE i es = popE i e1 := by rw [← HPOP.out]; simp only [popE]; rw [if_pos hle]
        have HPP := Aside0.mk hpp
        have HDR := Aside0.mk hdr
        clear hle hdr hpp HPOP
        obtain ⟨k1', rfl⟩ : ∃ m, gk = m + 1 := ⟨es.length, HLEN.out.symm⟩
        by_cases hc1 : c1 = 1
        · subst hc1
          have hC : Kd.C k43 w0 (some ad) es.length es := HDR.out
          obtain ⟨q1, q2⟩ := HP.out.pop hC (show es.length ≤ 0 by have := HP.out.l1; simp only [List.length_cons] at this; omega)
          have Q2 := Aside0.mk q2
          clear q2 hC
          go_wp2
          go_roundg k1'
          case measure => omega
          case rel => exact ⟨es, ⟨_, _, v1, A2, c2, v2, Q2.out⟩, HPP.out, by simpa using HLEN.out, by omega⟩
        · have hC : Kd.C k43 w0 (some (ad.add 3)) es.length es := by
            have := HDR.out
            rw [if_neg hc1] at this
            exact this
          obtain ⟨q1, q2⟩ := HP.out.pop hC (show es.length ≤ c1 - 1 by have := HP.out.l1; simp only [List.length_cons] at this; omega)
          have Q2 := Aside0.mk q2
          clear q2 hC
          go_wp2
          go_roundg k1'
          case measure => omega
          case rel => exact ⟨es, ⟨_, _, v1, A2, c2, v2, Q2.out⟩, HPP.out, by simpa using HLEN.out, by omega⟩
      · have hd : decide (e.f1 ≤ i) = false := decide_eq_false hle
        have hpp : popE i e1 = e :: es := by rw [← HPOP.out]; simp only [popE]; rw [if_neg hle]
        have HPP := Aside0.mk hpp
        clear hle hpp HPOP
        by_cases h0 : e.f0 ≤ i
        · have hd0 : decide (e.f0 ≤ i) = true := decide_eq_true h0
          have hdh : delHead i (e :: es) = true := hd0
          have HDH := Aside0.mk hdh
          clear h0 hdh
          go_wp2
          go_ret
          rw [HPP.out, HDH.out]
          exact ⟨rfl, _, c1, v1, A2, c2, v2, HP.out⟩
        · have hd0 : decide (e.f0 ≤ i) = false := decide_eq_false h0
          have hdh : delHead i (e :: es) = false := hd0
          have HDH := Aside0.mk hdh
          clear h0 hdh
          go_wp2
          go_ret
          rw [HPP.out, HDH.out]
          exact ⟨rfl, _, c1, v1, A2, c2, v2, HP.out⟩
end Go.Proofs.Ytlhaeonjobcdbaa.PA
