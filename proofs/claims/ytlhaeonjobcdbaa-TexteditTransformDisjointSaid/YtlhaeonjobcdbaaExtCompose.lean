/- textedit.Compose: what it answers, walked by the contracts of what it calls. Conditions: none. -/
import Derived.Test.YtlhaeonjobcdbaaCanonical
namespace Go.Proofs.Ytlhaeonjobcdbaa.PA
open Go.RowKit Go.Proofs.YtlhaeonjobcdbaaW.PrintWords Go.Proofs.YtlhaeonjobcdbaaW.PrintLast
set_option linter.unusedVariables false

/-- the text between the two lists -/
def midB (a0 : ByteArray) (l1 : List S43) : ByteArray := ⟨(app id (bs a0) 0 l1).toArray⟩
theorem bs_midB (a0 : ByteArray) (l1 : List S43) : bs (midB a0 l1) = app id (bs a0) 0 l1 := rfl
theorem midB_size (a0 : ByteArray) (l1 : List S43) : (midB a0 l1).size = (app id (bs a0) 0 l1).length := rfl
/-- the traced bytes behind both lists -/
def twice (a0 : ByteArray) (l1 l2 : List S43) : List TB := app insT (app insT (traceP (bs a0)) 0 l1) 0 l2
def composeOk (a0 : ByteArray) (l1 l2 : List S43) : Bool := applyOk a0 l1 && applyOk (midB a0 l1) l2
/-- Compose where both lists can be applied -/
def composeC (a0 : ByteArray) (l1 l2 : List S43) : List S43 := canon (a0.size : Int) 0 [] (twice a0 l1 l2)
def textedit_Compose.f (k : Nat) (a0 : ByteArray) (l1 l2 : List S43) : Option (List S43 × Int) :=
  (textedit_Apply.f k a0 l1).bind fun m => if m.2 = 0 then ((textedit_Validate.f k m.1 l2).bind fun t => if t = 0 then (if composeOk a0 l1 l2 = true ∧ m.1 = midB a0 l1 then some (canOut (composeC a0 l1 l2), canErr (composeC a0 l1 l2)) else none) else some ([], t)) else some ([], m.2)
theorem textedit_Compose.mono : ∀ a0 a1 a2 k, LeO (textedit_Compose.f k a0 a1 a2) (textedit_Compose.f (k + 1) a0 a1 a2) := by
  intro a0 a1 a2 k
  unfold textedit_Compose.f
  refine LeO.bind (textedit_Apply.mono _ _ _) (fun m => LeO.ite (LeO.bind (textedit_Validate.mono _ _ _) (fun _ => LeO.refl _)) (LeO.refl _))

theorem trace_len (a0 : ByteArray) : (traceP (bs a0)).length = a0.size := by rw [traceP_length, bs_length]
/-- The lengths and the order along the way. -/
theorem compose_facts {a0 : ByteArray} {l1 l2 : List S43} (h : composeOk a0 l1 l2 = true) :
    okL ((traceP (bs a0)).length : Int) (-1) l1 = true ∧ ((traceP (bs a0)).length : Int) + total l1 ≤ 2000 ∧ (traceP (bs a0)).length ≤ 2000 ∧
    (app insT (traceP (bs a0)) 0 l1).length = (midB a0 l1).size ∧ okL ((app insT (traceP (bs a0)) 0 l1).length : Int) (-1) l2 = true ∧ ((app insT (traceP (bs a0)) 0 l1).length : Int) + total l2 ≤ 2000 ∧ (app insT (traceP (bs a0)) 0 l1).length ≤ 2000 ∧
    (twice a0 l1 l2).length ≤ 2000 ∧ GoodP (bs a0) (twice a0 l1 l2) := by
  unfold composeOk at h
  rw [Bool.and_eq_true] at h
  obtain ⟨h1, h2, h3⟩ := applyOk_iff.1 h.1
  obtain ⟨h4, h5, h6⟩ := applyOk_iff.1 h.2
  have k1 : okL ((traceP (bs a0)).length : Int) (-1) l1 = true := by rw [trace_len]; exact h1
  have e1 : ((app insT (traceP (bs a0)) 0 l1).length : Int) = (a0.size : Int) - 0 + total l1 := by
    have := app_length insT (traceP (bs a0)) l1 0 (-1) k1 (by omega) (by omega) (by omega)
    rwa [trace_len] at this
  have e2 : (((midB a0 l1).size : Nat) : Int) = (a0.size : Int) - 0 + total l1 := by
    have := app_length id (bs a0) l1 0 (-1) (by rw [bs_length]; exact h1) (by omega) (by omega) (by omega)
    rwa [bs_length] at this
  have e3 : (app insT (traceP (bs a0)) 0 l1).length = (midB a0 l1).size := by omega
  have k2 : okL ((app insT (traceP (bs a0)) 0 l1).length : Int) (-1) l2 = true := by rw [e3]; exact h4
  have e4 := app_length insT (app insT (traceP (bs a0)) 0 l1) l2 0 (-1) k2 (by omega) (by omega) (by omega)
  refine ⟨k1, by rw [trace_len]; exact h2, by rw [trace_len]; omega, e3, k2, by rw [e3]; exact h5, by omega, ?_, app_good (app_good (traceP_good _) k1) k2⟩
  unfold twice
  rw [e3] at e4
  omega

theorem readsT {w : World} {base : Nat} {ok : Nat → Prop} {v : Value} {T : List TB} (h : Kd.R k71 71 w base ok v (T.map encT)) : ∃ A c, v = .slice A T.length c ∧ T.length ≤ c ∧ Kd.C k71 w A T.length (T.map encT) := by
  obtain ⟨A, c, he, hl, hC⟩ := Kd.R_reads h
  rw [List.length_map] at he hl hC
  exact ⟨A, c, he, hl, hC⟩

set_option maxHeartbeats 8000000 in
set_option maxRecDepth 100000 in
theorem textedit_Compose.calls (k : Nat) (a0 : ByteArray) (A1 : Option Addr) (c1 : Nat) (l1 : List S43) (A2 : Option Addr) (c2 : Nat) (l2 : List S43) (r1 : List S43) (r2 : Int) (w : World) (hr1 : Kd.C k43 w A1 l1.length l1) (hc1 : l1.length ≤ c1) (hr2 : Kd.C k43 w A2 l2.length l2) (hc2 : l2.length ≤ c2) (h : textedit_Compose.f k a0 l1 l2 = some (r1, r2)) :
    Calls Try.prog 15 #[.string a0, .slice A1 l1.length c1, .slice A2 l2.length c2] w fun e w' => ∃ v0_ : Value, e = .returned (.tuple #[v0_, .int .i64 r2]) ∧ Kd.R k43 43 w' w.heap.size (fun _ => True) v0_ r1 ∧ Below w.heap.size w w' := by
  have HR1 := Aside0.mk hr1
  have HC1 := Aside0.mk hc1
  have HR2 := Aside0.mk hr2
  have HC2 := Aside0.mk hc2
  clear hr1 hc1 hr2 hc2
  unfold textedit_Compose.f at h
  cases ha : textedit_Apply.f k a0 l1 with
  | none => rw [ha] at h; cases h
  | some m =>
    obtain ⟨mb, me⟩ := m
    rw [ha] at h
    have HA := Aside0.mk ha
    clear ha
    simp only [Option.bind_some] at h
    by_cases he : me = 0
    · subst he
      rw [if_pos rfl] at h
      cases hv : textedit_Validate.f k mb l2 with
      | none => rw [hv] at h; cases h
      | some t =>
        rw [hv] at h
        have HV := Aside0.mk hv
        clear hv
        simp only [Option.bind_some] at h
        by_cases ht : t = 0
        · subst ht
          rw [if_pos rfl] at h
          split at h
          · rename_i hok
            obtain ⟨hok, rfl⟩ := hok
            simp only [Option.some.injEq, Prod.mk.injEq] at h
            obtain ⟨rfl, rfl⟩ := h
            have HF := Aside0.mk (compose_facts hok)
            clear hok
            go_enter Try.func15, Try.ntmps15
            go_wp2_with (go_at_call 12; refine (textedit_Apply.calls k a0 _ _ l1 _ 0 _ HR1.out HC1.out HA.out).mono ?_; rintro e w1 ⟨rfl, hb1⟩; have HB1 := Aside0.mk hb1; clear hb1)
            refine (textedit_Validate.calls k (midB a0 l1) _ _ l2 0 _ (Kd.C_below HR2.out HB1.out) HC2.out HV.out).mono ?_
            rintro e w2 ⟨rfl, hb2⟩
            have HB2 := Aside0.mk (HB1.out.trans (hb2.mono HB1.out.size))
            clear hb2
            go_wp2_with fail
            refine (trace_calls a0 (by have := HF.out.2.2.1; rw [trace_len] at this; exact this) w2).mono ?_
            rintro e w3 ⟨v3, rfl, hv3, hb3⟩
            obtain ⟨A3, c3, rfl, hc3, hC3⟩ := readsT hv3
            have HB3 := Aside0.mk (HB2.out.trans (hb3.mono HB2.out.size))
            have H3 := Aside0.mk (And.intro hc3 hC3)
            clear hb3 hv3 hc3 hC3
            go_wp2_with fail
            refine (applyTraced_calls A3 c3 (traceP (bs a0)) A1 c1 l1 w3 H3.out.2 H3.out.1 (Kd.C_below HR1.out HB3.out) HC1.out HF.out.1 HF.out.2.1 HF.out.2.2.1).mono ?_
            rintro e w4 ⟨v4, rfl, hv4, hb4⟩
            obtain ⟨A4, c4, rfl, hc4, hC4⟩ := readsT hv4
            have HB4 := Aside0.mk (HB3.out.trans (hb4.mono HB3.out.size))
            have H4 := Aside0.mk (And.intro hc4 hC4)
            clear hb4 hv4 hc4 hC4
            go_wp2_with fail
            refine (applyTraced_calls A4 c4 (app insT (traceP (bs a0)) 0 l1) A2 c2 l2 w4 H4.out.2 H4.out.1 (Kd.C_below HR2.out HB4.out) HC2.out HF.out.2.2.2.2.1 HF.out.2.2.2.2.2.1 HF.out.2.2.2.2.2.2.1).mono ?_
            rintro e w5 ⟨v5, rfl, hv5, hb5⟩
            obtain ⟨A5, c5, rfl, hc5, hC5⟩ := readsT hv5
            have HB5 := Aside0.mk (HB4.out.trans (hb5.mono HB4.out.size))
            have H5 := Aside0.mk (And.intro hc5 hC5)
            clear hb5 hv5 hc5 hC5
            go_wp2_with fail
            refine (canonical_calls (a0.size : Int) A5 c5 (twice a0 l1 l2) w5 H5.out.2 H5.out.1 (by omega) (by have := HF.out.2.2.1; rw [trace_len] at this; omega) HF.out.2.2.2.2.2.2.2.1 (by have := Org.of_good HF.out.2.2.2.2.2.2.2.2.zero; rwa [bs_length] at this)).mono ?_
            rintro e w6 ⟨v6, rfl, hv6, hb6⟩
            have HB6 := Aside0.mk (HB5.out.trans (hb6.mono HB5.out.size))
            have H6 := Aside0.mk (Kd.R_lower hv6 HB5.out.size)
            clear hb6 hv6
            go_wp2
            go_ret2
            exact ⟨_, rfl, H6.out, HB6.out⟩
          · cases h
        · rw [if_neg ht] at h
          simp only [Option.some.injEq, Prod.mk.injEq] at h
          obtain ⟨rfl, rfl⟩ := h
          have htb : (t == 0) = false := by simpa using ht
          have htb2 : (t != 0) = true := by simpa using ht
          clear ht
          go_enter Try.func15, Try.ntmps15
          go_wp2_with (go_at_call 12; refine (textedit_Apply.calls k a0 _ _ l1 _ 0 _ HR1.out HC1.out HA.out).mono ?_; rintro e w1 ⟨rfl, hb1⟩; have HB1 := Aside0.mk hb1; clear hb1)
          refine (textedit_Validate.calls k mb _ _ l2 t _ (Kd.C_below HR2.out HB1.out) HC2.out HV.out).mono ?_
          rintro e w2 ⟨rfl, hb2⟩
          have HB2 := Aside0.mk (HB1.out.trans (hb2.mono HB1.out.size))
          clear hb2
          go_wp2
          go_ret2
          exact ⟨_, rfl, Kd.R_nil _ _ _ _ _, HB2.out⟩
    · rw [if_neg he] at h
      simp only [Option.some.injEq, Prod.mk.injEq] at h
      obtain ⟨rfl, rfl⟩ := h
      have htb : (me == 0) = false := by simpa using he
      have htb2 : (me != 0) = true := by simpa using he
      clear he
      go_enter Try.func15, Try.ntmps15
      go_wp2_with (go_at_call 12; refine (textedit_Apply.calls k a0 _ _ l1 _ me _ HR1.out HC1.out HA.out).mono ?_; rintro e w1 ⟨rfl, hb1⟩; have HB1 := Aside0.mk hb1; clear hb1)
      go_ret2
      exact ⟨_, rfl, Kd.R_nil _ _ _ _ _, HB1.out⟩
end Go.Proofs.Ytlhaeonjobcdbaa.PA
