/- AnchorComposeAgrees: for a byte that both lists retain, mapping through a composed list equals mapping through both lists in sequence. Conditions: those of an argument's size alone. -/
import Derived.Test.YtlhaeonjobcdbaaTextPure2
import Derived.Test.YtlhaeonjobcdbaaPAx11
namespace Go.Proofs.Ytlhaeonjobcdbaa.PA
open Go.RowKit Go.Proofs.YtlhaeonjobcdbaaW.PrintWords Go.Proofs.YtlhaeonjobcdbaaW.PrintLast
set_option linter.unusedVariables false

theorem traceP_mem {src : List UInt8} {lo hi : Nat} {x : TB} (h : x ∈ ((traceP src).take hi).drop lo) : (lo : Int) ≤ x.2 ∧ x.2 < (hi : Int) := by
  obtain ⟨j, hj⟩ := List.getElem?_of_mem h
  rw [List.getElem?_drop] at hj
  by_cases hlt : lo + j < hi
  · rw [List.getElem?_take_of_lt hlt, traceP_get] at hj
    cases hs : src[lo + j]? with
    | none => rw [hs] at hj; cases hj
    | some b =>
      rw [hs] at hj
      simp only [Option.map_some, Option.some.injEq] at hj
      subst hj
      exact ⟨by simp only; omega, by simp only; omega⟩
  · rw [List.getElem?_take_eq_none (by omega)] at hj
    cases hj
theorem app_mem_ge (src : List UInt8) : ∀ (es : List S43) (o p : Int), okL (src.length : Int) p es = true → 0 ≤ o → o ≤ p + 1 → ∀ x ∈ app insT (traceP src) o es, x.2 = -1 ∨ o ≤ x.2
  | [], o, p, _, h0, _, x, hx => by
    simp only [app] at hx
    have : x ∈ ((traceP src).take (traceP src).length).drop o.toNat := by rw [List.take_length]; exact hx
    have := traceP_mem this
    right; omega
  | e :: es, o, p, hok, h0, hp, x, hx => by
    rw [okL_cons] at hok
    simp only [app] at hx
    rcases List.mem_append.1 hx with h | h
    · have := traceP_mem h
      right; omega
    · rcases List.mem_append.1 h with h | h
      · obtain ⟨b, _, rfl⟩ := List.mem_map.1 h
        exact .inl rfl
      · rcases app_mem_ge src es e.f1 e.f1 hok.2.2.2 (by omega) (by omega) x h with h | h
        · exact .inl h
        · right; omega
theorem del_lower {L : Int} : ∀ {es : List S43} {p off : Int}, okL L p es = true → delS es off = true → p < off
  | [], _, _, _, h => by cases h
  | e :: es, p, off, hok, h => by
    rw [okL_cons] at hok
    have h' : (decide (e.f0 ≤ off ∧ off < e.f1) || delS es off) = true := h
    rw [Bool.or_eq_true] at h'
    rcases h' with h | h
    · have := of_decide_eq_true h
      omega
    · have := del_lower hok.2.2.2 h
      omega
theorem del_not_mem (src : List UInt8) (off : Int) (ho : 0 ≤ off) : ∀ (es : List S43) (o p : Int), okL (src.length : Int) p es = true → 0 ≤ o → o ≤ p + 1 → delS es off = true → ∀ x ∈ app insT (traceP src) o es, x.2 ≠ off
  | [], o, p, _, _, _, hd, _, _ => by cases hd
  | e :: es, o, p, hok, h0, hp, hd, x, hx => by
    rw [okL_cons] at hok
    simp only [app] at hx
    have h' : (decide (e.f0 ≤ off ∧ off < e.f1) || delS es off) = true := hd
    rw [Bool.or_eq_true] at h'
    rcases List.mem_append.1 hx with h | h
    · have := traceP_mem h
      rcases h' with h | h
      · have := of_decide_eq_true h
        omega
      · have := del_lower hok.2.2.2 h
        omega
    · rcases List.mem_append.1 h with h | h
      · obtain ⟨b, _, rfl⟩ := List.mem_map.1 h
        show (-1 : Int) ≠ off
        omega
      · rcases h' with hh | hh
        · have h1 := of_decide_eq_true hh
          rcases app_mem_ge src es e.f1 e.f1 hok.2.2.2 (by omega) (by omega) x h with h | h <;> omega
        · exact del_not_mem src off ho es e.f1 e.f1 hok.2.2.2 (by omega) (by omega) hh x h
/-- A kept origin stands at one place alone. -/
theorem keep_unique {src : List UInt8} {T : List TB} (h : GoodP src T) {i j : Nat} {x y : TB} (hi : T[i]? = some x) (hj : T[j]? = some y) (he : x.2 = y.2) (hx : x.2 ≠ -1) : i = j := by
  have hp : T.Pairwise (fun a b => a.2 != -1 → b.2 != -1 → a.2 < b.2) := List.pairwise_filter.1 h.inc
  obtain ⟨hil, hie⟩ := List.getElem?_eq_some_iff.1 hi
  obtain ⟨hjl, hje⟩ := List.getElem?_eq_some_iff.1 hj
  have hpw := List.pairwise_iff_getElem.1 hp
  rcases Nat.lt_trichotomy i j with hlt | heq | hgt
  · have := hpw i j hil hjl hlt (by rw [hie]; simpa using hx) (by rw [hje, ← he]; simpa using hx)
    rw [hie, hje] at this
    omega
  · exact heq
  · have := hpw j i hjl hil hgt (by rw [hje, ← he]; simpa using hx) (by rw [hie]; simpa using hx)
    rw [hie, hje] at this
    omega

theorem ca_j0 (l2 C : List S43) (off m : Int) (c : Bool) (h : c = false → ∃ q, Ev (fun k => anchor_Map.f k l2 m true) (q, 0) ∧ Ev (fun k => anchor_Map.f k C off true) (q, 0)) :
    Ev (fun k => glossatorkeep4_AnchorComposeAgrees.j0 k l2 off C m c) true := by
  obtain ⟨K0, h0⟩ := examples_ev
  dsimp only at h0
  cases c with
  | true =>
    refine ⟨K0 + 1, fun k hk => ?_⟩
    obtain ⟨k, rfl⟩ : ∃ m, k = m + 1 := ⟨k - 1, by omega⟩
    simp only [glossatorkeep4_AnchorComposeAgrees.j0]
    rw [h0 k (by omega)]
    rfl
  | false =>
    obtain ⟨q, ⟨K1, h1⟩, ⟨K2, h2⟩⟩ := h rfl
    dsimp only at h1 h2
    refine ⟨K0 + K1 + K2 + 1, fun k hk => ?_⟩
    obtain ⟨k, rfl⟩ : ∃ m, k = m + 1 := ⟨k - 1, by omega⟩
    simp only [glossatorkeep4_AnchorComposeAgrees.j0]
    rw [if_neg (by simp), h1 k (by omega), h2 k (by omega), h0 k (by omega)]
    simp

theorem mapS_ok {l : List S43} {L off : Int} (hok : okL L (-1) l = true) (hlen : l.length ≤ 50) (hs : ∀ e ∈ l, e.f2.size ≤ 140737488351232) (h0 : 0 ≤ off) (h1 : off ≤ 1099511627776) : mapS l off true = (mapP off true 0 l, 0) := by
  have hvs : vS l = 0 := by
    unfold vS
    rw [if_neg (by omega), if_pos (okL_from _ _ _ hok)]
  unfold mapS
  rw [if_pos hvs, if_neg (by omega), mapW_eq off true h0 h1 l (-1) 0 50 (by omega) (okL_from _ _ _ hok) hs hlen (by omega) (by simp) (by simp)]

theorem AnchorComposeAgrees_pure (src : ByteArray) (l1 l2 : List S43) (off : Int) (w0 : src.size ≤ 140737488351232) (hl1 : l1.length * 32 ≤ 140737488351232) (hs1 : ∀ y ∈ l1, (Lit.int .i64 y.f0).wf = true ∧ (Lit.int .i64 y.f1).wf = true ∧ y.f2.size ≤ 140737488351232) (hl2 : l2.length * 32 ≤ 140737488351232) (hs2 : ∀ y ∈ l2, (Lit.int .i64 y.f0).wf = true ∧ (Lit.int .i64 y.f1).wf = true ∧ y.f2.size ≤ 140737488351232) (w3 : (Lit.int .i64 off).wf = true) :
    ∃ k, glossatorkeep4_AnchorComposeAgrees.f k src l1 l2 off = some true := by
  have hz1 : ∀ e ∈ l1, e.f2.size ≤ 140737488351232 := fun e he => (hs1 e he).2.2
  have hz2 : ∀ e ∈ l2, e.f2.size ≤ 140737488351232 := fun e he => (hs2 e he).2.2
  refine Ev.rounds (g := fun k => glossatorkeep4_AnchorComposeAgrees.f k src l1 l2 off) ?_
  unfold glossatorkeep4_AnchorComposeAgrees.f
  obtain ⟨K0, h0⟩ := examples_ev
  obtain ⟨K1, h1⟩ := Compose_ev src l1 l2 hz1 hz2
  obtain ⟨K2, h2⟩ := Map_ev l1 off true (by omega)
  obtain ⟨K3, h3⟩ := DeletesByte_ev l1 off (by omega)
  obtain ⟨K4, h4⟩ := DeletesByte_ev l2 (mapS l1 off true).1 (by omega)
  obtain ⟨K5, h5⟩ := ca_j0 l2 (composeS src l1 l2).1 off (mapS l1 off true).1 true (fun h => by cases h)
  dsimp only at h0 h1 h2 h3 h4 h5
  by_cases hg : (composeS src l1 l2).2 = 0 ∧ (mapS l1 off true).2 = 0 ∧ ¬ off ≥ (src.size : Int) ∧ delS l1 off = false ∧ delS l2 (mapS l1 off true).1 = false
  · obtain ⟨g1, g2, g3, g4, g5⟩ := hg
    have hC := composed_of hz1 hz2 g1
    have hok := hC.ok
    obtain ⟨_, hoff0, _⟩ := mapS_zero g2
    have hsrc := hC.v1.src
    have em := mapS_eq hz1 (by omega) g2
    obtain ⟨r1, r2, _⟩ := keep_pos insT (traceP (bs src)) off l1 0 0 (-1) (by rw [trace_len]; exact hC.v1.ok) (by omega) (by omega) (by omega) (by rw [trace_len]; omega) g4
    have hb : (traceP (bs src))[off.toNat]? = some ((bs src)[off.toNat]'(by rw [bs_length]; omega), off) := by
      rw [traceP_get, List.getElem?_eq_getElem (by rw [bs_length]; omega)]
      simp only [Option.map_some]
      rw [Int.toNat_of_nonneg hoff0]
    rw [hb] at r2
    have hm0 : 0 ≤ mapP off true 0 l1 := by omega
    have hz : ∀ q : Int, (q - (0 + 0)).toNat = q.toNat := fun q => by simp
    rw [hz] at r2
    have hf := compose_facts hok
    have hmlt : mapP off true 0 l1 < ((app insT (traceP (bs src)) 0 l1).length : Int) := by
      have := (List.getElem?_eq_some_iff.1 r2).1
      omega
    rw [em] at g5
    obtain ⟨s1, s2, _⟩ := keep_pos insT (app insT (traceP (bs src)) 0 l1) (mapP off true 0 l1) l2 0 0 (-1) hf.2.2.2.2.1 (by omega) (by omega) hm0 hmlt g5
    rw [hz, r2] at s2
    have hCok := composeC_ok hok
    have hCapp := composeC_app hok
    have hdC : delS (composeC src l1 l2) off = false := by
      cases hd : delS (composeC src l1 l2) off with
      | false => rfl
      | true =>
        have := del_not_mem (bs src) off hoff0 (composeC src l1 l2) 0 (-1) (by rw [bs_length]; exact hCok) (by omega) (by omega) hd _ (by rw [hCapp]; exact List.mem_of_getElem? s2)
        exact absurd rfl this
    obtain ⟨t1, t2, _⟩ := keep_pos insT (traceP (bs src)) off (composeC src l1 l2) 0 0 (-1) (by rw [trace_len]; exact hCok) (by omega) (by omega) (by omega) (by rw [trace_len]; omega) hdC
    rw [hCapp, hz, hb] at t2
    have heq := keep_unique hf.2.2.2.2.2.2.2.2 s2 t2 rfl (by simp only; omega)
    have hq : mapP (mapP off true 0 l1) true 0 l2 = mapP off true 0 (composeC src l1 l2) := by omega
    obtain ⟨K6, h6⟩ := ca_j0 l2 (composeS src l1 l2).1 off (mapS l1 off true).1 false (fun _ => by
      refine ⟨mapP (mapP off true 0 l1) true 0 l2, ?_, ?_⟩
      · have := Map_ev l2 (mapS l1 off true).1 true (by omega)
        rw [em] at this ⊢
        rw [mapS_ok hC.v2.ok hC.v2.len hz2 hm0 (by have := hf.2.2.2.2.2.2.1; omega)] at this
        exact this
      · have := Map_ev (composeS src l1 l2).1 off true (by rw [hC.out]; have := hC.len; omega)
        rw [hC.out, mapS_ok hCok hC.len (composeC_size hok) hoff0 (by omega), ← hq] at this
        rw [hC.out]
        exact this)
    dsimp only at h6
    refine ⟨K0 + K1 + K2 + K3 + K4 + K5 + K6, fun k hk => ?_⟩
    dsimp only
    rw [h0 k (by omega)]
    simp only [Option.bind_some, if_true]
    rw [h1 k (by omega), h2 k (by omega)]
    simp only [Option.bind_some]
    rw [if_pos g1, if_pos g2, if_neg g3, h3 k (by omega), g4]
    simp only [Option.bind_some]
    rw [if_neg (by simp), h4 k (by omega)]
    rw [em, g5, ← em]
    simp only [Option.bind_some]
    exact h6 k (by omega)
  · refine ⟨K0 + K1 + K2 + K3 + K4 + K5, fun k hk => ?_⟩
    dsimp only
    have h5' := h5 k (by omega)
    rw [h0 k (by omega)]
    simp only [Option.bind_some, if_true]
    rw [h1 k (by omega), h2 k (by omega)]
    simp only [Option.bind_some]
    by_cases g1 : (composeS src l1 l2).2 = 0
    · rw [if_pos g1]
      by_cases g2 : (mapS l1 off true).2 = 0
      · rw [if_pos g2]
        by_cases g3 : off ≥ (src.size : Int)
        · rw [if_pos g3]; exact h5'
        · rw [if_neg g3, h3 k (by omega)]
          simp only [Option.bind_some]
          cases g4 : delS l1 off with
          | true => simp only [if_true]; exact h5'
          | false =>
            rw [if_neg (by simp), h4 k (by omega)]
            simp only [Option.bind_some]
            cases g5 : delS l2 (mapS l1 off true).1 with
            | true => exact h5'
            | false => exact absurd ⟨g1, g2, g3, g4, g5⟩ hg
      · rw [if_neg g2]; exact h5'
    · rw [if_neg g1]; exact h5'
end Go.Proofs.Ytlhaeonjobcdbaa.PA
