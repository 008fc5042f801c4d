/- What textedit.Apply and DeletesByte answer, and where a kept byte comes to lie: in plain Lean. Conditions: an argument's sizes. -/
import Derived.Test.YtlhaeonjobcdbaaAnchorPure2
import Derived.Test.YtlhaeonjobcdbaaExtApply
import Derived.Test.YtlhaeonjobcdbaaPAx9
namespace Go.Proofs.Ytlhaeonjobcdbaa.PA
open Go.RowKit Go.Proofs.YtlhaeonjobcdbaaW.PrintWords Go.Proofs.YtlhaeonjobcdbaaW.PrintLast
set_option linter.unusedVariables false

/-- Apply -/
def applyS (src : ByteArray) (l : List S43) : ByteArray × Int := if vdS (src.size : Int) l = 0 then (⟨(app id (bs src) 0 l).toArray⟩, 0) else (⟨#[]⟩, vdS (src.size : Int) l)
theorem Apply_ev (src : ByteArray) (l : List S43) (hs : ∀ e ∈ l, e.f2.size ≤ 140737488351232) : Ev (fun k => textedit_Apply.f k src l) (applyS src l) := by
  unfold textedit_Apply.f
  refine Ev.bind (f := fun k t => if t = 0 then (if applyOk src l = true then some ((⟨(app id (bs src) 0 l).toArray⟩ : ByteArray), (0 : Int)) else none) else some ((⟨#[]⟩ : ByteArray), t)) (Validate_ev src l) ?_
  unfold applyS
  by_cases h : vdS (src.size : Int) l = 0
  · have hv := (vdS_zero (by omega) hs).1 h
    simp only [if_pos h]
    rw [if_pos (applyOk_iff.2 ⟨hv.ok, hv.all, hv.src⟩)]
    exact Ev.now _
  · simp only [if_neg h]
    exact Ev.now _
theorem applyS_zero {src : ByteArray} {l : List S43} (hs : ∀ e ∈ l, e.f2.size ≤ 140737488351232) (h : (applyS src l).2 = 0) : Valid (src.size : Int) l ∧ (applyS src l).1 = ⟨(app id (bs src) 0 l).toArray⟩ := by
  unfold applyS at h ⊢
  by_cases hv : vdS (src.size : Int) l = 0
  · rw [if_pos hv]
    exact ⟨(vdS_zero (by omega) hs).1 hv, rfl⟩
  · rw [if_neg hv] at h
    exact absurd h hv

/-- DeletesByte -/
def delS (l : List S43) (off : Int) : Bool := l.any (fun e => decide (e.f0 ≤ off ∧ off < e.f1))
theorem DeletesByte_l0 (off : Int) (l : List S43) (suf : List S43) : ∀ (pre : List S43), l = pre ++ suf → l.length < 4611686018427387904 →
    Ev (fun k => glossatorref4_DeletesByte.l0 k l off (pre.length : Int)) (delS suf off) := by
  induction suf with
  | nil =>
    intro pre hl hlen
    refine ⟨1, fun k hk => ?_⟩
    obtain ⟨k, rfl⟩ : ∃ m, k = m + 1 := ⟨k - 1, by omega⟩
    simp only [glossatorref4_DeletesByte.l0]
    rw [if_neg (by rw [hl]; simp)]
    rfl
  | cons e suf ih =>
    intro pre hl hlen
    have hlt := len_mid pre suf e
    rw [← hl] at hlt
    have hrd : rd_T43 l (pre.length : Int) = e := by rw [hl]; exact rd_mid pre suf e
    obtain ⟨K, hK⟩ := ih (pre ++ [e]) (by rw [hl]; simp) hlen
    dsimp only at hK
    refine ⟨K + 1, fun k hk => ?_⟩
    obtain ⟨k, rfl⟩ : ∃ m, k = m + 1 := ⟨k - 1, by omega⟩
    have := hK k (by omega)
    rw [len_snoc pre suf] at this
    simp only [glossatorref4_DeletesByte.l0]
    rw [if_pos hlt, if_pos (by omega), hrd, w64 (x := (pre.length : Int) + 1) (by omega) (by omega)]
    have hd : delS (e :: suf) off = (decide (e.f0 ≤ off ∧ off < e.f1) || delS suf off) := rfl
    rw [hd]
    by_cases h0 : e.f0 ≤ off
    · rw [if_pos h0]
      by_cases h1 : off < e.f1
      · rw [if_pos h1, decide_eq_true (show e.f0 ≤ off ∧ off < e.f1 from ⟨h0, h1⟩), Bool.true_or]
      · rw [if_neg h1, decide_eq_false (show ¬ (e.f0 ≤ off ∧ off < e.f1) from fun h => h1 h.2), Bool.false_or]
        exact this
    · rw [if_neg h0, decide_eq_false (show ¬ (e.f0 ≤ off ∧ off < e.f1) from fun h => h0 h.1), Bool.false_or]
      exact this
theorem DeletesByte_ev (l : List S43) (off : Int) (hl : l.length < 4611686018427387904) : Ev (fun k => glossatorref4_DeletesByte.f k l off) (delS l off) := by
  have := DeletesByte_l0 off l l [] rfl hl
  simpa [glossatorref4_DeletesByte.f] using this

/-- Where a kept element comes to lie. -/
theorem keep_pos {α : Type} (ins : UInt8 → α) (T : List α) (off : Int) : ∀ (l : List S43) (o sh p : Int), okL (T.length : Int) p l = true → 0 ≤ o → o ≤ p + 1 → o ≤ off → off < (T.length : Int) → delS l off = false →
    o + sh ≤ mapP off true sh l ∧ (app ins T o l)[(mapP off true sh l - (o + sh)).toNat]? = T[off.toNat]? ∧ mapP (off + 1) false sh l = mapP off true sh l + 1
  | [], o, sh, p, _, h0, hp, ho, hL, _ => by
    simp only [mapP, app]
    refine ⟨by omega, ?_, by omega⟩
    rw [List.getElem?_drop, show o.toNat + (off + sh - (o + sh)).toNat = off.toNat from by omega]
  | e :: es, o, sh, p, hok, h0, hp, ho, hL, hd => by
    rw [okL_cons] at hok
    have hd' : (decide (e.f0 ≤ off ∧ off < e.f1) || delS es off) = false := hd
    rw [Bool.or_eq_false_iff] at hd'
    have hde : ¬ (e.f0 ≤ off ∧ off < e.f1) := by simpa using hd'.1
    have pt := passes_iff e off true
    have pf := passes_iff e (off + 1) false
    by_cases hc : e.f1 ≤ off
    · have q1 : passes e off true = true := pt.2 (by rcases Int.lt_or_eq_of_le hc with h | h <;> simp [h])
      have q2 : passes e (off + 1) false = true := pf.2 (.inl (by omega))
      obtain ⟨i1, i2, i3⟩ := keep_pos ins T off es e.f1 (sh + ((e.f2.size : Int) - (e.f1 - e.f0))) e.f1 hok.2.2.2 (by omega) (by omega) hc hL hd'.2
      rw [mapP, if_pos q1, mapP, if_pos q2]
      refine ⟨by omega, ?_, i3⟩
      simp only [app]
      rw [List.getElem?_append_right (by rw [List.length_drop, List.length_take]; omega), List.getElem?_append_right (by rw [List.length_map, bs_length, List.length_drop, List.length_take]; omega)]
      rw [List.length_map, bs_length, List.length_drop, List.length_take]
      rw [← i2]
      congr 1
      omega
    · have hf : off < e.f0 := by omega
      have q1 : ¬ passes e off true = true := fun h => by have := pt.1 h; omega
      have q2 : ¬ passes e (off + 1) false = true := fun h => by have := pf.1 h; simp at this; omega
      rw [mapP, if_neg q1, if_neg (by omega), mapP, if_neg q2, if_neg (by omega)]
      refine ⟨by omega, ?_, by omega⟩
      simp only [app]
      rw [List.getElem?_append_left (by rw [List.length_drop, List.length_take]; omega), List.getElem?_drop, List.getElem?_take_of_lt (by omega), show o.toNat + (off + sh - (o + sh)).toNat = off.toNat from by omega]

theorem bt_of_get {s t : ByteArray} {i j : Int} (h : (bs s)[i.toNat]? = (bs t)[j.toNat]?) : bt s i = bt t j := by
  have hb : ∀ (s : ByteArray) (i : Int), bt s i = (((bs s)[i.toNat]?).map (fun b => (b.toNat : Int))).getD 0 := by
    intro s i
    unfold bt
    by_cases hi : i.toNat < s.size
    · rw [dif_pos hi, List.getElem?_eq_getElem (by rw [bs_length]; exact hi)]
      rfl
    · rw [dif_neg hi, List.getElem?_eq_none (by rw [bs_length]; omega)]
      rfl
  rw [hb, hb, h]
end Go.Proofs.Ytlhaeonjobcdbaa.PA
