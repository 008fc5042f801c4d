/- What Transform's merged bytes are: in plain Lean. Conditions: an argument's sizes. -/
import Derived.Test.YtlhaeonjobcdbaaTextPure3
import Derived.Test.YtlhaeonjobcdbaaExtTransform
namespace Go.Proofs.Ytlhaeonjobcdbaa.PA
open Go.RowKit Go.Proofs.YtlhaeonjobcdbaaW.PrintWords Go.Proofs.YtlhaeonjobcdbaaW.PrintLast
set_option linter.unusedVariables false

/-! ### the rounds' own form of Apply -/
/-- what n rounds, and the last one, add to a text, from offset i on -/
def pap (src : List UInt8) : Nat → Nat → List S43 → List UInt8
  | 0, i, es => insText i es
  | n + 1, i, es => insText i es ++ ((if delHead i (popE i es) = true then [] else [src.getD i 0]) ++ pap src n (i + 1) (popE i es))
theorem ins_eq {i : Nat} {e : S43} {es : List S43} (h : e.f0 = (i : Int)) : insText i (e :: es) = bs e.f2 := by simp only [insText]; rw [if_pos h]
theorem ins_ne {i : Nat} {e : S43} {es : List S43} (h : e.f0 ≠ (i : Int)) : insText i (e :: es) = [] := by simp only [insText]; rw [if_neg h]
theorem pop_le {i : Nat} {e : S43} {es : List S43} (h : e.f1 ≤ (i : Int)) : popE i (e :: es) = popE i es := by simp only [popE]; rw [if_pos h]
theorem pop_gt {i : Nat} {e : S43} {es : List S43} (h : (i : Int) < e.f1) : popE i (e :: es) = e :: es := by simp only [popE]; rw [if_neg (by omega)]
theorem pop_ok {L : Int} {i : Nat} : ∀ {es : List S43}, okL L (i : Int) es = true → popE i es = es ∧ delHead i es = false ∧ insText i es = []
  | [], _ => ⟨rfl, rfl, rfl⟩
  | e :: es, h => by
    rw [okL_cons] at h
    exact ⟨pop_gt (by omega), by simp only [delHead]; exact decide_eq_false (by omega), ins_ne (by omega)⟩
theorem app_byte (src : List UInt8) (es : List S43) (i : Nat) (hi : i < src.length) (hok : okL (src.length : Int) (i : Int) es = true) : app id src (i : Int) es = src.getD i 0 :: app id src ((i + 1 : Nat) : Int) es := by
  have := app_step id src es i (src.getD i 0) (by rw [List.getD_eq_getElem?_getD, List.getElem?_eq_getElem hi]; rfl) hok
  rw [this]
  rfl
theorem pap_app (src : List UInt8) : ∀ (n i : Nat), i + n = src.length →
    (∀ (es : List S43), okL (src.length : Int) ((i : Int) - 1) es = true → pap src n i es = app id src (i : Int) es) ∧
    (∀ (e : S43) (es : List S43), okL (src.length : Int) e.f1 es = true → e.f0 < (i : Int) → (i : Int) ≤ e.f1 → e.f1 ≤ (src.length : Int) → pap src n i (e :: es) = app id src e.f1 es)
  | 0, i, h => by
    constructor
    · intro es hok
      cases es with
      | nil => simp only [pap, insText, app]; rw [Int.toNat_natCast, List.drop_eq_nil_of_le (by omega)]
      | cons e es =>
        rw [okL_cons] at hok
        obtain ⟨o1, o2, o3, o4⟩ := hok
        cases es with
        | cons e2 es2 => rw [okL_cons] at o4; omega
        | nil =>
          simp only [pap, app]
          rw [ins_eq (by omega), List.map_id, show e.f0.toNat = src.length by omega, show e.f1.toNat = src.length by omega, Int.toNat_natCast, show i = src.length by omega, List.take_length, List.drop_length]
          simp
    · intro e es hok h0 h1 h2
      cases es with
      | cons e2 es2 => rw [okL_cons] at hok; omega
      | nil =>
        simp only [pap, app]
        rw [ins_ne (by omega), List.drop_eq_nil_of_le (by omega)]
  | n + 1, i, h => by
    obtain ⟨ihA, ihB⟩ := pap_app src n (i + 1) (by omega)
    have hi : i < src.length := by omega
    have hc : ((i + 1 : Nat) : Int) - 1 = (i : Int) := by omega
    have keep : ∀ es, okL (src.length : Int) (i : Int) es = true → (if delHead i es = true then [] else [src.getD i 0]) ++ pap src n (i + 1) es = app id src (i : Int) es := by
      intro es hok
      rw [(pop_ok hok).2.1, if_neg (by simp), ihA es (by rw [hc]; exact hok), app_byte src es i hi hok]
      rfl
    constructor
    · intro es hok
      cases es with
      | nil => exact keep [] rfl
      | cons e es =>
        have hok2 := hok
        rw [okL_cons] at hok
        obtain ⟨o1, o2, o3, o4⟩ := hok
        by_cases h0 : e.f0 = (i : Int)
        · simp only [pap]
          rw [ins_eq h0]
          by_cases h1 : e.f1 = (i : Int)
          · rw [h1] at o4
            rw [pop_le (by omega), (pop_ok o4).1, keep es o4]
            simp only [app]
            rw [h0, h1, Int.toNat_natCast, List.drop_eq_nil_of_le (by rw [List.length_take]; omega), List.map_id]
            rfl
          · rw [pop_gt (by omega), if_pos (by simp only [delHead]; exact decide_eq_true (by omega)), ihB e es o4 (by omega) (by omega) o3]
            simp only [app]
            rw [h0, Int.toNat_natCast, List.drop_eq_nil_of_le (by rw [List.length_take]; omega), List.map_id]
            rfl
        · have hok3 : okL (src.length : Int) (i : Int) (e :: es) = true := by rw [okL_cons]; exact ⟨by omega, o2, o3, o4⟩
          simp only [pap]
          rw [ins_ne h0, (pop_ok hok3).1, keep _ hok3]
          rfl
    · intro e es hok h0 h1 h2
      simp only [pap]
      rw [ins_ne (by omega)]
      by_cases h3 : e.f1 = (i : Int)
      · rw [h3] at hok ⊢
        rw [pop_le (by omega), (pop_ok hok).1, keep es hok]
        rfl
      · rw [pop_gt (by omega), if_pos (by simp only [delHead]; exact decide_eq_true (by omega)), ihB e es hok (by omega) (by omega) h2]
        rfl
theorem pap_zero (src : ByteArray) (es : List S43) (hok : okL (src.size : Int) (-1) es = true) : pap (bs src) src.size 0 es = bs (midB src es) := by
  have := (pap_app (bs src) src.size 0 (by rw [bs_length]; omega)).1 es (by rw [bs_length]; exact hok)
  rw [this]
  rfl

/-! ### the merged bytes -/
theorem roundEnd_fst (src : List UInt8) (i : Nat) (d1 d2 : Bool) (o : Nat) (M : List TB) : (roundEnd src i d1 d2 o M).map Prod.fst = M.map Prod.fst ++ (if (d1 || d2) = true then [] else [src.getD i 0]) := by
  unfold roundEnd
  cases d1 <;> cases d2 <;> simp
theorem map_insT (l : List UInt8) : (l.map insT).map Prod.fst = l := by
  rw [List.map_map]
  exact List.map_id _
/-- Both sides merge the same bytes. -/
theorem tl_same (src : List UInt8) : ∀ (n i : Nat) (el : List S43) (ol : Nat) (Ml : List TB) (er : List S43) (or' : Nat) (Mr : List TB), Ml.map Prod.fst = Mr.map Prod.fst →
    (tl src n i el ol Ml er or' Mr).1.map Prod.fst = (tl src n i el ol Ml er or' Mr).2.map Prod.fst
  | 0, i, el, ol, Ml, er, or', Mr, h => by
    simp only [tl, List.map_append, traceFrom_fst, map_insT, h]
  | n + 1, i, el, ol, Ml, er, or', Mr, h => by
    simp only [tl]
    refine tl_same src n _ _ _ _ _ _ _ ?_
    rw [roundEnd_fst, roundEnd_fst]
    simp only [List.map_append, traceFrom_fst, map_insT, h]
/-- the kept bytes of M stand in order in R, ahead of o -/
structure Inv (R : List UInt8) (o : Nat) (M : List TB) : Prop where
  mem : ∀ x ∈ ret M, 0 ≤ x.2 ∧ x.2 < (o : Int) ∧ R[x.2.toNat]? = some x.1
  inc : (ret M).Pairwise (fun x y => x.2 < y.2)
theorem Inv.goodP {R : List UInt8} {o : Nat} {M : List TB} (h : Inv R o M) : GoodP R M := ⟨h.inc, fun x hx => by
  obtain ⟨h1, h2, h3⟩ := h.mem x hx
  have := (List.getElem?_eq_some_iff.1 h3).1
  exact ⟨h1, by omega, h3⟩⟩
theorem Inv.ins {R : List UInt8} {o : Nat} {M : List TB} (h : Inv R o M) (l : List UInt8) : Inv R o (M ++ l.map insT) := by
  have : ret (M ++ l.map insT) = ret M := by rw [ret_append, ret_ins, List.append_nil]
  exact ⟨by rw [this]; exact h.mem, by rw [this]; exact h.inc⟩
theorem Inv.more {R : List UInt8} {o o' : Nat} {M : List TB} (h : Inv R o M) (hle : o ≤ o') : Inv R o' M :=
  ⟨fun x hx => by obtain ⟨h1, h2, h3⟩ := h.mem x hx; exact ⟨h1, by omega, h3⟩, h.inc⟩
theorem ret_trace : ∀ (l : List UInt8) (i : Nat), ret (traceFrom i l) = traceFrom i l
  | [], _ => rfl
  | b :: r, i => by
    have := ret_trace r (i + 1)
    unfold ret at this ⊢
    simp only [traceFrom]
    rw [List.filter_cons_of_pos (by simp), this]
theorem Inv.trace {R : List UInt8} {o : Nat} {M : List TB} (h : Inv R o M) (t rest : List UInt8) (hr : R.drop o = t ++ rest) : Inv R (o + t.length) (M ++ traceFrom o t) := by
  have hm : ∀ x ∈ traceFrom o t, (o : Int) ≤ x.2 ∧ x.2 < ((o + t.length : Nat) : Int) ∧ R[x.2.toNat]? = some x.1 := by
    intro x hx
    obtain ⟨j, hj⟩ := List.getElem?_of_mem hx
    rw [traceFrom_get] at hj
    cases hs : t[j]? with
    | none => rw [hs] at hj; cases hj
    | some b =>
      rw [hs] at hj
      simp only [Option.map_some, Option.some.injEq] at hj
      subst hj
      have hlt := (List.getElem?_eq_some_iff.1 hs).1
      refine ⟨by first | omega | (simp only; omega), by first | omega | (simp only; omega), ?_⟩
      simp only
      rw [Int.toNat_natCast, ← List.getElem?_drop, hr, List.getElem?_append_left hlt, hs]
  constructor
  · intro x hx
    rw [ret_append, ret_trace] at hx
    rcases List.mem_append.1 hx with hx | hx
    · obtain ⟨h1, h2, h3⟩ := h.mem x hx
      exact ⟨h1, by omega, h3⟩
    · obtain ⟨h1, h2, h3⟩ := hm x hx
      exact ⟨by omega, h2, h3⟩
  · rw [ret_append, ret_trace]
    refine List.pairwise_append.2 ⟨h.inc, traceFrom_inc t o, fun x hx y hy => ?_⟩
    have := (h.mem x hx).2.1
    have := (hm y hy).1
    omega
theorem Inv.round {R : List UInt8} {o : Nat} {M : List TB} (h : Inv R o M) (src : List UInt8) (i : Nat) (d d2 : Bool) (rest : List UInt8) (hr : R.drop o = (if d = true then [] else [src.getD i 0]) ++ rest) :
    (Inv R (o + cnt d) (roundEnd src i d d2 o M) ∧ Inv R (o + cnt d) (roundEnd src i d2 d o M)) ∧ R.drop (o + cnt d) = rest := by
  cases d with
  | true =>
    have h1 : roundEnd src i true d2 o M = M := rfl
    have h2 : roundEnd src i d2 true o M = M := by cases d2 <;> rfl
    rw [h1, h2]
    exact ⟨⟨h, h⟩, hr⟩
  | false =>
    have hb := h.trace [src.getD i 0] rest hr
    have hm := h.more (Nat.le_add_right o 1)
    refine ⟨?_, ?_⟩
    · cases d2 with
      | false => exact ⟨hb, hb⟩
      | true => exact ⟨hm, hm⟩
    · have : R.drop (o + 1) = (R.drop o).drop 1 := by rw [List.drop_drop]
      show R.drop (o + 1) = rest
      rw [this, hr]
      rfl
theorem drop_more {R t rest : List UInt8} {o : Nat} (h : R.drop o = t ++ rest) : R.drop (o + t.length) = rest := by
  rw [← List.drop_drop, h, List.drop_left]
theorem tl_left (src R : List UInt8) : ∀ (n i : Nat) (el : List S43) (ol : Nat) (Ml : List TB) (er : List S43) (or' : Nat) (Mr : List TB), R.drop ol = pap src n i el → Inv R ol Ml → GoodP R (tl src n i el ol Ml er or' Mr).1
  | 0, i, el, ol, Ml, er, or', Mr, hr, h => ((h.trace (insText i el) [] (by rw [hr, List.append_nil]; rfl)).ins (insText i er)).goodP
  | n + 1, i, el, ol, Ml, er, or', Mr, hr, h => by
    simp only [pap] at hr
    have h1 := (h.trace _ _ hr).ins (insText i er)
    have h2 := h1.round src i (delHead i (popE i el)) (delHead i (popE i er)) _ (drop_more hr)
    simp only [tl]
    exact tl_left src R n (i + 1) _ _ _ _ _ _ h2.2 h2.1.1
theorem tl_right (src R : List UInt8) : ∀ (n i : Nat) (el : List S43) (ol : Nat) (Ml : List TB) (er : List S43) (or' : Nat) (Mr : List TB), R.drop or' = pap src n i er → Inv R or' Mr → GoodP R (tl src n i el ol Ml er or' Mr).2
  | 0, i, el, ol, Ml, er, or', Mr, hr, h => ((h.ins (insText i el)).trace (insText i er) [] (by rw [hr, List.append_nil]; rfl)).goodP
  | n + 1, i, el, ol, Ml, er, or', Mr, hr, h => by
    simp only [pap] at hr
    have h1 := (h.ins (insText i el)).trace _ _ hr
    have h2 := h1.round src i (delHead i (popE i er)) (delHead i (popE i el)) _ (drop_more hr)
    simp only [tl]
    exact tl_right src R n (i + 1) _ _ _ _ _ _ h2.2 h2.1.2
theorem merged_left {src : ByteArray} {l1 l2 : List S43} (hok : okL (src.size : Int) (-1) l1 = true) : Good (bs (midB src l1)) 0 (merged src l1 l2).1 :=
  (tl_left (bs src) (bs (midB src l1)) src.size 0 l1 0 [] l2 0 [] (pap_zero src l1 hok).symm ⟨fun x hx => (by cases hx), List.Pairwise.nil⟩).zero
theorem merged_right {src : ByteArray} {l1 l2 : List S43} (hok : okL (src.size : Int) (-1) l2 = true) : Good (bs (midB src l2)) 0 (merged src l1 l2).2 :=
  (tl_right (bs src) (bs (midB src l2)) src.size 0 l1 0 [] l2 0 [] (pap_zero src l2 hok).symm ⟨fun x hx => (by cases hx), List.Pairwise.nil⟩).zero
theorem merged_same (src : ByteArray) (l1 l2 : List S43) : (merged src l1 l2).1.map Prod.fst = (merged src l1 l2).2.map Prod.fst := tl_same _ _ _ _ _ _ _ _ _ rfl
theorem merged_len (src : ByteArray) (l1 l2 : List S43) : (merged src l1 l2).1.length = (merged src l1 l2).2.length := by
  have := congrArg List.length (merged_same src l1 l2)
  rwa [List.length_map, List.length_map] at this

/-! ### Transform -/
def transS (src : ByteArray) (l1 l2 : List S43) : List S43 × List S43 × Int :=
  if vdS (src.size : Int) l1 = 0 then (if vdS (src.size : Int) l2 = 0 then transC src l1 l2 else ([], [], vdS (src.size : Int) l2)) else ([], [], vdS (src.size : Int) l1)
theorem trans_ok {src : ByteArray} {l1 l2 : List S43} (h1 : Valid (src.size : Int) l1) (h2 : Valid (src.size : Int) l2) : transOk src l1 l2 = true := by
  unfold transOk
  simp only [Bool.and_eq_true, Bool.or_eq_true, decide_eq_true_eq]
  refine ⟨⟨⟨⟨applyOk_iff.2 ⟨h1.ok, h1.all, h1.src⟩, applyOk_iff.2 ⟨h2.ok, h2.all, h2.src⟩⟩, h1.len⟩, h2.len⟩, ?_⟩
  by_cases hb : (merged src l1 l2).1.length > 2000
  · exact .inl hb
  · have e1 := Org.of_good (merged_left (l2 := l2) h1.ok)
    have e2 := Org.of_good (merged_right (l1 := l1) h2.ok)
    rw [bs_length] at e1 e2
    exact .inr ⟨⟨by rw [← merged_len]; omega, orgB_iff.2 e1⟩, orgB_iff.2 e2⟩
theorem Transform_ev (src : ByteArray) (l1 l2 : List S43) (hs1 : ∀ e ∈ l1, e.f2.size ≤ 140737488351232) (hs2 : ∀ e ∈ l2, e.f2.size ≤ 140737488351232) : Ev (fun k => textedit_Transform.f k src l1 l2) (transS src l1 l2) := by
  obtain ⟨K1, h1⟩ := Apply_ev src l1 hs1
  obtain ⟨K2, h2⟩ := Apply_ev src l2 hs2
  dsimp only at h1 h2
  refine ⟨K1 + K2, fun k hk => ?_⟩
  dsimp only
  unfold textedit_Transform.f transS
  rw [h1 k (by omega)]
  simp only [Option.bind_some]
  by_cases g1 : vdS (src.size : Int) l1 = 0
  · have hV1 := (vdS_zero (by omega) hs1).1 g1
    rw [applyS_valid hs1 hV1, if_pos rfl, if_pos g1, h2 k (by omega)]
    simp only [Option.bind_some]
    by_cases g2 : vdS (src.size : Int) l2 = 0
    · have hV2 := (vdS_zero (by omega) hs2).1 g2
      rw [applyS_valid hs2 hV2, if_pos rfl, if_pos g2, if_pos ⟨trans_ok hV1 hV2, by first | trivial | rfl, by first | trivial | rfl⟩]
    · have : (applyS src l2).2 = vdS (src.size : Int) l2 := by unfold applyS; rw [if_neg g2]
      rw [this, if_neg g2, if_neg g2]
  · have : (applyS src l1).2 = vdS (src.size : Int) l1 := by unfold applyS; rw [if_neg g1]
    rw [this, if_neg g1, if_neg g1]
/-- What is known of an accepted transformation. -/
structure Transformed (src : ByteArray) (l1 l2 : List S43) : Prop where
  v1 : Valid (src.size : Int) l1
  v2 : Valid (src.size : Int) l2
  out : transS src l1 l2 = (canon ((midB src l2).size : Int) 0 [] (merged src l1 l2).2, canon ((midB src l1).size : Int) 0 [] (merged src l1 l2).1, 0)
  vr : Valid ((midB src l2).size : Int) (canon ((midB src l2).size : Int) 0 [] (merged src l1 l2).2)
  vl : Valid ((midB src l1).size : Int) (canon ((midB src l1).size : Int) 0 [] (merged src l1 l2).1)
  sr : ∀ e ∈ canon ((midB src l2).size : Int) 0 [] (merged src l1 l2).2, e.f2.size ≤ 140737488351232
  sl : ∀ e ∈ canon ((midB src l1).size : Int) 0 [] (merged src l1 l2).1, e.f2.size ≤ 140737488351232
  br : bs (midB (midB src l2) (canon ((midB src l2).size : Int) 0 [] (merged src l1 l2).2)) = (merged src l1 l2).1.map Prod.fst
  bl : bs (midB (midB src l1) (canon ((midB src l1).size : Int) 0 [] (merged src l1 l2).1)) = (merged src l1 l2).1.map Prod.fst
theorem canon_facts {mid : ByteArray} {T : List TB} (hg : Good (bs mid) 0 T) (hm : mid.size ≤ 2000) (hT : T.length ≤ 2000) (hC : (canon (mid.size : Int) 0 [] T).length ≤ 50) :
    Valid (mid.size : Int) (canon (mid.size : Int) 0 [] T) ∧ (∀ e ∈ canon (mid.size : Int) 0 [] T, e.f2.size ≤ 140737488351232) ∧ bs (midB mid (canon (mid.size : Int) 0 [] T)) = T.map Prod.fst := by
  have hok := canon_ok (bs mid) T 0 [] (by omega) (by omega) hg
  have hap := canon_apply (bs mid) T hg
  rw [bs_length] at hok hap
  have hok' : okL (mid.size : Int) (-1) (canon (mid.size : Int) 0 [] T) = true := hok
  have hl := app_length id (bs mid) (canon (mid.size : Int) 0 [] T) 0 (-1) (by rw [bs_length]; exact hok') (by omega) (by omega) (by omega)
  rw [bs_length, hap, List.length_map] at hl
  refine ⟨⟨by omega, hC, hok', by omega⟩, fun e he => ?_, hap⟩
  have := canon_size _ _ _ _ e he
  simp only [List.length_nil] at this
  omega
theorem trans_of {src : ByteArray} {l1 l2 : List S43} (hs1 : ∀ e ∈ l1, e.f2.size ≤ 140737488351232) (hs2 : ∀ e ∈ l2, e.f2.size ≤ 140737488351232) : ((transS src l1 l2).2.2 = 0 → Transformed src l1 l2) ∧ (¬ (transS src l1 l2).2.2 = 0 → (transS src l1 l2).1 = [] ∧ (transS src l1 l2).2.1 = []) := by
  by_cases g1 : vdS (src.size : Int) l1 = 0
  · have hV1 := (vdS_zero (by omega) hs1).1 g1
    by_cases g2 : vdS (src.size : Int) l2 = 0
    · have hV2 := (vdS_zero (by omega) hs2).1 g2
      have e0 : transS src l1 l2 = transC src l1 l2 := by unfold transS; rw [if_pos g1, if_pos g2]
      by_cases b1 : (merged src l1 l2).1.length > 2000
      · have e : transS src l1 l2 = ([], [], 2) := by rw [e0]; unfold transC; rw [if_pos b1]
        rw [e]
        exact ⟨fun h => (by cases h), fun _ => ⟨rfl, rfl⟩⟩
      · by_cases b2 : (canon ((midB src l2).size : Int) 0 [] (merged src l1 l2).2).length > 50
        · have e : transS src l1 l2 = ([], [], 2) := by rw [e0]; unfold transC; rw [if_neg b1, if_pos b2]
          rw [e]
          exact ⟨fun h => (by cases h), fun _ => ⟨rfl, rfl⟩⟩
        · by_cases b3 : (canon ((midB src l1).size : Int) 0 [] (merged src l1 l2).1).length > 50
          · have e : transS src l1 l2 = ([], [], 2) := by rw [e0]; unfold transC; rw [if_neg b1, if_neg b2, if_pos b3]
            rw [e]
            exact ⟨fun h => (by cases h), fun _ => ⟨rfl, rfl⟩⟩
          · have e : transS src l1 l2 = (canon ((midB src l2).size : Int) 0 [] (merged src l1 l2).2, canon ((midB src l1).size : Int) 0 [] (merged src l1 l2).1, 0) := by rw [e0]; unfold transC; rw [if_neg b1, if_neg b2, if_neg b3]
            refine ⟨fun _ => ?_, fun h => by rw [e] at h; exact absurd rfl h⟩
            obtain ⟨x1, x2, x3⟩ := canon_facts (merged_left (l2 := l2) hV1.ok) (midB_le (applyOk_iff.2 ⟨hV1.ok, hV1.all, hV1.src⟩)) (by omega) (by omega)
            obtain ⟨y1, y2, y3⟩ := canon_facts (merged_right (l1 := l1) hV2.ok) (midB_le (applyOk_iff.2 ⟨hV2.ok, hV2.all, hV2.src⟩)) (by rw [← merged_len]; omega) (by omega)
            exact ⟨hV1, hV2, e, y1, x1, y2, x2, by rw [y3, merged_same], x3⟩
    · have e : transS src l1 l2 = ([], [], vdS (src.size : Int) l2) := by unfold transS; rw [if_pos g1, if_neg g2]
      rw [e]
      exact ⟨fun h => absurd h g2, fun _ => ⟨rfl, rfl⟩⟩
  · have e : transS src l1 l2 = ([], [], vdS (src.size : Int) l1) := by unfold transS; rw [if_neg g1]
    rw [e]
    exact ⟨fun h => absurd h g1, fun _ => ⟨rfl, rfl⟩⟩
end Go.Proofs.Ytlhaeonjobcdbaa.PA
