/- The plain theory of lists of edits: applying, tracing, the canonical list, composition. No program in sight but the printed type of an edit. -/
import Derived.Test.YtlhaeonjobcdbaaPAx0
namespace Go.Proofs.Ytlhaeonjobcdbaa.PA
open Go.RowKit Go.Proofs.YtlhaeonjobcdbaaW.PrintWords Go.Proofs.YtlhaeonjobcdbaaW.PrintLast
set_option linter.unusedVariables false

/-- the order of edits behind a previous end, in a text of length L -/
def okL (L : Int) : Int → List S43 → Bool
  | _, [] => true
  | p, e :: es => if e.f0 ≤ p then false else if e.f1 < e.f0 then false else if e.f1 > L then false else okL L e.f1 es
/-- what the edits add to the length -/
def total : List S43 → Int
  | [] => 0
  | e :: es => ((e.f2.size : Int) - (e.f1 - e.f0)) + total es
theorem okL_cons {L p : Int} {e : S43} {es : List S43} : okL L p (e :: es) = true ↔ p < e.f0 ∧ e.f0 ≤ e.f1 ∧ e.f1 ≤ L ∧ okL L e.f1 es = true := by
  unfold okL
  split
  · constructor
    · intro h; cases h
    · intro h; omega
  · split
    · constructor
      · intro h; cases h
      · intro h; omega
    · split
      · constructor
        · intro h; cases h
        · intro h; omega
      · constructor
        · intro h
          refine ⟨by omega, by omega, by omega, ?_⟩
          cases es with
          | nil => rfl
          | cons x xs => exact h
        · intro h
          have := h.2.2.2
          cases es with
          | nil => rfl
          | cons x xs => exact this
theorem okL_mono {L : Int} : ∀ {es : List S43} {p q : Int}, okL L p es = true → q ≤ p → okL L q es = true
  | [], _, _, _, _ => rfl
  | e :: es, p, q, h, hq => by
    rw [okL_cons] at h ⊢
    exact ⟨by omega, h.2⟩

def bs (s : ByteArray) : List UInt8 := s.data.toList
theorem bs_length (s : ByteArray) : (bs s).length = s.size := by
  unfold bs
  rw [Array.length_toList]
  rfl

/-- Applying edits to a list of any kind, where inserted bytes are told by ins. -/
def app {α : Type} (ins : UInt8 → α) (T : List α) : Int → List S43 → List α
  | off, [] => T.drop off.toNat
  | off, e :: es => (T.take e.f0.toNat).drop off.toNat ++ ((bs e.f2).map ins ++ app ins T e.f1 es)

theorem app_map {α β : Type} (f : α → β) (ins : UInt8 → α) (ins' : UInt8 → β) (h : ∀ b, f (ins b) = ins' b) (T : List α) : ∀ (es : List S43) (off : Int), app ins' (T.map f) off es = (app ins T off es).map f
  | [], off => by simp only [app]; rw [List.map_drop]
  | e :: es, off => by
    simp only [app]
    rw [app_map f ins ins' h T es e.f1, List.map_append, List.map_append, List.map_drop, List.map_take, List.map_map]
    congr 3
    exact funext fun b => (h b).symm

theorem app_length {α : Type} (ins : UInt8 → α) (T : List α) : ∀ (es : List S43) (off p : Int), okL (T.length : Int) p es = true → 0 ≤ off → off ≤ p + 1 → off ≤ T.length → ((app ins T off es).length : Int) = (T.length : Int) - off + total es
  | [], off, p, _, h0, hp, hL => by
    simp only [app, total, List.length_drop]
    omega
  | e :: es, off, p, hok, h0, hp, hL => by
    rw [okL_cons] at hok
    have ih := app_length ins T es e.f1 e.f1 hok.2.2.2 (by omega) (by omega) (by omega)
    simp only [app, total, List.length_append, List.length_drop, List.length_take, List.length_map, bs_length]
    omega

/-- One kept element in front of the next edit. -/
theorem app_step {α : Type} (ins : UInt8 → α) (T : List α) (es : List S43) (o : Nat) (x : α) (hx : T[o]? = some x) (hok : okL (T.length : Int) (o : Int) es = true) : app ins T (o : Int) es = x :: app ins T ((o : Int) + 1) es := by
  obtain ⟨hlt, he⟩ := List.getElem?_eq_some_iff.1 hx
  cases es with
  | nil =>
    simp only [app]
    rw [Int.toNat_natCast, show ((o : Int) + 1).toNat = o + 1 from by omega, List.drop_eq_getElem_cons hlt, he]
  | cons e es =>
    rw [okL_cons] at hok
    simp only [app]
    rw [Int.toNat_natCast, show ((o : Int) + 1).toNat = o + 1 from by omega]
    have hl2 : o < (T.take e.f0.toNat).length := by rw [List.length_take]; omega
    rw [List.drop_eq_getElem_cons hl2, List.getElem_take, he]
    rfl

/-! ### traced bytes -/
abbrev TB := UInt8 × Int
def insT (b : UInt8) : TB := (b, -1)
/-- the bytes of a source with their own offsets -/
def traceFrom : Nat → List UInt8 → List TB
  | _, [] => []
  | i, b :: r => (b, (i : Int)) :: traceFrom (i + 1) r
def traceP (src : List UInt8) : List TB := traceFrom 0 src
theorem traceFrom_fst : ∀ (l : List UInt8) (i : Nat), (traceFrom i l).map Prod.fst = l
  | [], _ => rfl
  | b :: r, i => by simp only [traceFrom, List.map_cons, traceFrom_fst r]
theorem traceFrom_length (l : List UInt8) (i : Nat) : (traceFrom i l).length = l.length := by
  rw [← List.length_map (f := Prod.fst), traceFrom_fst]
theorem traceFrom_get : ∀ (l : List UInt8) (i j : Nat), (traceFrom i l)[j]? = (l[j]?).map (fun b => (b, ((i + j : Nat) : Int)))
  | [], _, _ => by simp [traceFrom]
  | b :: r, i, 0 => by simp [traceFrom]
  | b :: r, i, j + 1 => by
    simp only [traceFrom, List.getElem?_cons_succ]
    rw [traceFrom_get r (i + 1) j, show i + 1 + j = i + (j + 1) from by omega]
theorem traceP_length (l : List UInt8) : (traceP l).length = l.length := traceFrom_length l 0
theorem traceP_get (l : List UInt8) (j : Nat) : (traceP l)[j]? = (l[j]?).map (fun b => (b, (j : Int))) := by
  unfold traceP
  rw [traceFrom_get, Nat.zero_add]
theorem traceP_fst (l : List UInt8) : (traceP l).map Prod.fst = l := traceFrom_fst l 0

/-- the canonical edits -/
def flushP (st en : Int) (pend : List UInt8) : List S43 := if st < en ∨ pend ≠ [] then [⟨st, en, ⟨pend.toArray⟩⟩] else []
def canon (L : Int) : Int → List UInt8 → List TB → List S43
  | st, pend, [] => flushP st L pend
  | st, pend, x :: r => if x.2 = -1 then canon L st (pend ++ [x.1]) r else flushP st x.2 pend ++ canon L (x.2 + 1) [] r
/-- traced bytes whose kept ones stand in order in src, from st on -/
def Good (src : List UInt8) : Int → List TB → Prop
  | _, [] => True
  | st, x :: r => if x.2 = -1 then Good src st r else st ≤ x.2 ∧ x.2 < src.length ∧ src[x.2.toNat]? = some x.1 ∧ Good src (x.2 + 1) r
theorem Good_ins {src : List UInt8} {st : Int} {b : UInt8} {r : List TB} : Good src st ((b, -1) :: r) ↔ Good src st r := by
  constructor
  · intro h; unfold Good at h; rw [if_pos rfl] at h; exact h
  · intro h; unfold Good; rw [if_pos rfl]; exact h
theorem Good_keep {src : List UInt8} {st o : Int} {b : UInt8} {r : List TB} (ho : o ≠ -1) : Good src st ((b, o) :: r) ↔ st ≤ o ∧ o < src.length ∧ src[o.toNat]? = some b ∧ Good src (o + 1) r := by
  constructor
  · intro h; unfold Good at h; rw [if_neg ho] at h; exact h
  · intro h; unfold Good; rw [if_neg ho]; exact h

theorem okL_flush {L st en : Int} {pend : List UInt8} {es : List S43} (h0 : st ≤ en) (hL : en ≤ L) (h : okL L en es = true) : okL L (st - 1) (flushP st en pend ++ es) = true := by
  unfold flushP
  split
  · rw [List.cons_append, List.nil_append, okL_cons]
    exact ⟨by simp only; omega, h0, hL, h⟩
  · rename_i hn
    rw [List.nil_append]
    exact okL_mono h (by omega)
theorem canon_ok (src : List UInt8) : ∀ (T : List TB) (st : Int) (pend : List UInt8), 0 ≤ st → st ≤ src.length → Good src st T → okL (src.length : Int) (st - 1) (canon src.length st pend T) = true
  | [], st, pend, h0, hL, _ => by
    simp only [canon]
    have := okL_flush (pend := pend) (es := []) hL (Int.le_refl _) rfl
    rw [List.append_nil] at this
    exact this
  | (b, o) :: r, st, pend, h0, hL, hg => by
    simp only [canon]
    by_cases ho : o = -1
    · subst ho
      rw [if_pos rfl]
      exact canon_ok src r st _ h0 hL (Good_ins.1 hg)
    · rw [if_neg ho]
      obtain ⟨h1, h2, h3, h4⟩ := (Good_keep ho).1 hg
      have ih := canon_ok src r (o + 1) [] (by omega) (by omega) h4
      rw [show o + 1 - 1 = o from by omega] at ih
      exact okL_flush h1 (by omega) ih

theorem app_flush {α : Type} (ins : UInt8 → α) (T : List α) (st en : Int) (pend : List UInt8) (es : List S43) (h0 : 0 ≤ st) (h1 : st ≤ en) : app ins T st (flushP st en pend ++ es) = pend.map ins ++ app ins T en es := by
  unfold flushP
  split
  · rw [List.cons_append, List.nil_append]
    simp only [app]
    rw [show (T.take st.toNat).drop st.toNat = [] from List.drop_eq_nil_of_le (by rw [List.length_take]; omega), List.nil_append]
    rfl
  · rename_i hn
    have hp : pend = [] := Classical.byContradiction fun h => hn (.inr h)
    have he : st = en := by
      have : ¬ st < en := fun h => hn (.inl h)
      omega
    subst hp; subst he
    rfl
/-- The canonical edits give just these traced bytes. -/
theorem canon_app (src : List UInt8) : ∀ (T : List TB) (st : Int) (pend : List UInt8), 0 ≤ st → st ≤ src.length → Good src st T → app insT (traceP src) st (canon src.length st pend T) = pend.map insT ++ T
  | [], st, pend, h0, hL, _ => by
    simp only [canon]
    have := app_flush insT (traceP src) st src.length pend [] h0 hL
    rw [List.append_nil] at this
    rw [this]
    simp only [app]
    rw [List.drop_eq_nil_of_le (by rw [traceP_length]; omega)]
  | (b, o) :: r, st, pend, h0, hL, hg => by
    simp only [canon]
    by_cases ho : o = -1
    · subst ho
      rw [if_pos rfl, canon_app src r st _ h0 hL (Good_ins.1 hg), List.map_append, List.append_assoc]
      rfl
    · rw [if_neg ho]
      obtain ⟨h1, h2, h3, h4⟩ := (Good_keep ho).1 hg
      have ih := canon_app src r (o + 1) [] (by omega) (by omega) h4
      have hok := canon_ok src r (o + 1) [] (by omega) (by omega) h4
      rw [app_flush insT (traceP src) st o pend _ h0 h1]
      obtain ⟨n, rfl⟩ : ∃ n : Nat, o = n := ⟨o.toNat, by omega⟩
      rw [app_step insT (traceP src) _ n (b, (n : Int)) (by rw [traceP_get]; rw [Int.toNat_natCast] at h3; rw [h3]; rfl) (by rw [traceP_length]; rw [show (n : Int) + 1 - 1 = n from by omega] at hok; exact hok)]
      rw [ih]
      rfl
theorem insT_fst : ∀ b, Prod.fst (insT b) = id b := fun _ => rfl
/-- ... and the text that these bytes are. -/
theorem canon_apply (src : List UInt8) (T : List TB) (hg : Good src 0 T) : app id src 0 (canon src.length 0 [] T) = T.map Prod.fst := by
  have h := canon_app src T 0 [] (by omega) (by omega) hg
  have h2 := app_map Prod.fst insT id insT_fst (traceP src) (canon src.length 0 [] T) 0
  rw [traceP_fst, h] at h2
  rw [h2]
  rfl

/-! ### kept bytes -/
def ret (T : List TB) : List TB := T.filter (fun x => x.2 != -1)
theorem ret_append (A B : List TB) : ret (A ++ B) = ret A ++ ret B := by unfold ret; exact List.filter_append ..
theorem ret_ins (l : List UInt8) : ret (l.map insT) = [] := by
  unfold ret
  rw [List.filter_eq_nil_iff]
  intro x hx
  obtain ⟨b, _, rfl⟩ := List.mem_map.1 hx
  simp [insT]
theorem ret_sub {A B : List TB} (h : A.Sublist B) : (ret A).Sublist (ret B) := List.Sublist.filter _ h
structure GoodP (src : List UInt8) (T : List TB) : Prop where
  inc : (ret T).Pairwise (fun x y => x.2 < y.2)
  mem : ∀ x ∈ ret T, 0 ≤ x.2 ∧ x.2 < src.length ∧ src[x.2.toNat]? = some x.1
theorem GoodP.sub {src : List UInt8} {A B : List TB} (h : GoodP src B) (hs : (ret A).Sublist (ret B)) : GoodP src A := ⟨h.inc.sublist hs, fun x hx => h.mem x (hs.subset hx)⟩
theorem GoodP.good {src : List UInt8} : ∀ {T : List TB} {st : Int}, GoodP src T → (∀ x ∈ ret T, st ≤ x.2) → Good src st T
  | [], _, _, _ => trivial
  | (b, o) :: r, st, h, hs => by
    by_cases ho : o = -1
    · subst ho
      exact Good_ins.2 (GoodP.good (h.sub (ret_sub (List.sublist_cons_self _ _))) hs)
    · have he : ret ((b, o) :: r) = (b, o) :: ret r := by
        unfold ret
        rw [List.filter_cons_of_pos (by simpa using ho)]
      have hm := h.mem (b, o) (by rw [he]; exact List.mem_cons_self)
      have hp := h.inc
      rw [he] at hp
      have hp' := List.pairwise_cons.1 hp
      refine (Good_keep ho).2 ⟨hs (b, o) (by rw [he]; exact List.mem_cons_self), hm.2.1, hm.2.2, GoodP.good (h.sub (ret_sub (List.sublist_cons_self _ _))) (fun x hx => ?_)⟩
      have := hp'.1 x hx
      simp only at this
      omega
theorem traceFrom_mem : ∀ (l : List UInt8) (i : Nat) (x : TB), x ∈ traceFrom i l → (i : Int) ≤ x.2
  | [], _, _, h => by simp [traceFrom] at h
  | b :: r, i, x, h => by
    simp only [traceFrom, List.mem_cons] at h
    rcases h with rfl | h
    · exact Int.le_refl _
    · have := traceFrom_mem r (i + 1) x h
      omega
theorem traceFrom_inc : ∀ (l : List UInt8) (i : Nat), (traceFrom i l).Pairwise (fun x y => x.2 < y.2)
  | [], _ => List.Pairwise.nil
  | b :: r, i => by
    simp only [traceFrom]
    exact List.pairwise_cons.2 ⟨fun x hx => by have := traceFrom_mem r (i + 1) x hx; simp only; omega, traceFrom_inc r (i + 1)⟩
theorem traceP_good (src : List UInt8) : GoodP src (traceP src) := by
  refine ⟨(traceFrom_inc src 0).sublist List.filter_sublist, fun x hx => ?_⟩
  have hx' := (List.mem_filter.1 hx).1
  obtain ⟨j, hj⟩ := List.getElem?_of_mem hx'
  rw [traceP_get] at hj
  cases hs : src[j]? with
  | none => rw [hs] at hj; cases hj
  | some b =>
    rw [hs] at hj
    simp only [Option.map_some, Option.some.injEq] at hj
    subst hj
    have := (List.getElem?_eq_some_iff.1 hs).1
    exact ⟨by simp only; omega, by simp only; omega, by simp only [Int.toNat_natCast]; exact hs⟩
theorem app_ret (T : List TB) : ∀ (es : List S43) (off p : Int), okL (T.length : Int) p es = true → 0 ≤ off → off ≤ p + 1 → (ret (app insT T off es)).Sublist (ret (T.drop off.toNat))
  | [], off, p, _, _, _ => List.Sublist.refl _
  | e :: es, off, p, hok, h0, hp => by
    rw [okL_cons] at hok
    have ih := app_ret T es e.f1 e.f1 hok.2.2.2 (by omega) (by omega)
    simp only [app]
    rw [ret_append, ret_append, ret_ins, List.nil_append]
    have h1 : T.drop off.toNat = (T.take e.f0.toNat).drop off.toNat ++ T.drop e.f0.toNat := by
      rw [List.drop_take]
      conv => lhs; rw [← List.take_append_drop (e.f0.toNat - off.toNat) (T.drop off.toNat)]
      rw [List.drop_drop, show off.toNat + (e.f0.toNat - off.toNat) = e.f0.toNat from by omega]
    rw [h1, ret_append]
    refine List.Sublist.append (List.Sublist.refl _) (ih.trans (ret_sub ?_))
    rw [show e.f1.toNat = e.f0.toNat + (e.f1.toNat - e.f0.toNat) from by omega, ← List.drop_drop]
    exact List.drop_sublist _ _
theorem app_good {src : List UInt8} {T : List TB} {es : List S43} (h : GoodP src T) (hok : okL (T.length : Int) (-1) es = true) : GoodP src (app insT T 0 es) :=
  h.sub (by simpa using app_ret T es 0 (-1) hok (by omega) (by omega))
theorem GoodP.zero {src : List UInt8} {T : List TB} (h : GoodP src T) : Good src 0 T := h.good (fun x hx => (h.mem x hx).1)

/-! ### substitution: traced bytes of a text that itself is traced -/
def subst (T : List TB) (x : TB) : TB := if x.2 = -1 then x else (T[x.2.toNat]?).getD x
theorem subst_ins (T : List TB) (b : UInt8) : subst T (insT b) = insT b := by unfold subst insT; rw [if_pos rfl]
theorem subst_trace (T : List TB) : (traceP (T.map Prod.fst)).map (subst T) = T := by
  apply List.ext_getElem?
  intro j
  rw [List.getElem?_map, traceP_get, List.getElem?_map]
  cases h : T[j]? with
  | none => rfl
  | some x =>
    simp only [Option.map_some, subst]
    rw [if_neg (by omega), Int.toNat_natCast, h]
    rfl
/-- Applying to traced bytes is applying to the text's own trace, and then looking up. -/
theorem app_subst (T : List TB) (es : List S43) (off : Int) : app insT T off es = (app insT (traceP (T.map Prod.fst)) off es).map (subst T) := by
  rw [← app_map (subst T) insT insT (subst_ins T), subst_trace]

/-! ### the number of canonical edits -/
theorem canon_run (L : Int) (src : List UInt8) (R : List TB) : ∀ (n a : Nat), a + n ≤ src.length → canon L (a : Int) [] (((traceP src).drop a).take n ++ R) = canon L ((a + n : Nat) : Int) [] R
  | 0, a, _ => by simp
  | n + 1, a, h => by
    have hlt : a < (traceP src).length := by rw [traceP_length]; omega
    rw [List.drop_eq_getElem_cons hlt, List.take_succ_cons, List.cons_append]
    have hx : (traceP src)[a] = (src[a]'(by omega), (a : Int)) := by
      have h1 := traceP_get src a
      rw [List.getElem?_eq_getElem hlt, List.getElem?_eq_getElem (by omega)] at h1
      simpa using h1
    rw [hx]
    simp only [canon]
    rw [if_neg (by omega), show flushP (a : Int) (a : Int) [] = [] from by unfold flushP; rw [if_neg (by simp)], List.nil_append]
    have := canon_run L src R n (a + 1) (by omega)
    rw [show ((a + 1 : Nat) : Int) = (a : Int) + 1 from by omega] at this
    rw [this, show a + 1 + n = a + (n + 1) from by omega]
theorem canon_pend (L : Int) (R : List TB) : ∀ (l : List UInt8) (st : Int) (pend : List UInt8), canon L st pend (l.map insT ++ R) = canon L st (pend ++ l) R
  | [], st, pend => by simp
  | b :: r, st, pend => by
    rw [List.map_cons, List.cons_append]
    simp only [canon, insT]
    rw [if_pos trivial]
    have := canon_pend L R r st (pend ++ [b])
    rw [this, List.append_assoc]
    rfl
theorem flush_le (st en : Int) (pend : List UInt8) : (flushP st en pend).length ≤ 1 := by unfold flushP; split <;> simp
theorem canon_count (src : List UInt8) : ∀ (es : List S43) (o : Nat), o ≤ src.length → okL (src.length : Int) ((o : Int) - 1) es = true → (canon src.length (o : Int) [] (app insT (traceP src) (o : Int) es)).length ≤ es.length
  | [], o, ho, _ => by
    simp only [app, Int.toNat_natCast]
    have := canon_run src.length src [] (src.length - o) o (by omega)
    rw [List.append_nil, List.take_of_length_le (by rw [List.length_drop, traceP_length]; omega)] at this
    rw [this]
    simp only [canon, List.length_nil]
    rw [show flushP ((o + (src.length - o) : Nat) : Int) (src.length : Int) [] = [] from by unfold flushP; rw [if_neg (by simp; omega)]]
    simp
  | e :: es, o, ho, hok => by
    rw [okL_cons] at hok
    obtain ⟨h1, h2, h3, h4⟩ := hok
    simp only [app]
    have hrun := canon_run src.length src ((bs e.f2).map insT ++ app insT (traceP src) e.f1 es) (e.f0.toNat - o) o (by omega)
    rw [← List.drop_take] at hrun
    rw [Int.toNat_natCast, hrun, canon_pend, List.nil_append]
    have hP : ∀ (st : Int) (pend : List UInt8), (canon src.length st pend (app insT (traceP src) e.f1 es)).length ≤ es.length + 1 := by
      intro st pend
      obtain ⟨n, hn⟩ : ∃ n : Nat, e.f1 = n := ⟨e.f1.toNat, by omega⟩
      rw [hn] at h3 h4 ⊢
      by_cases hlt : n < src.length
      · rw [app_step insT (traceP src) es n (src[n], (n : Int)) (by rw [traceP_get, List.getElem?_eq_getElem hlt]; rfl) (by rw [traceP_length]; exact h4)]
        simp only [canon]
        rw [if_neg (by omega), List.length_append]
        have ih := canon_count src es (n + 1) (by omega) (by rw [show ((n + 1 : Nat) : Int) - 1 = n from by omega]; exact h4)
        rw [show ((n + 1 : Nat) : Int) = (n : Int) + 1 from by omega] at ih
        have := flush_le st n pend
        omega
      · cases es with
        | nil =>
          simp only [app, Int.toNat_natCast]
          rw [List.drop_eq_nil_of_le (by rw [traceP_length]; omega)]
          simp only [canon, List.length_nil]
          exact flush_le _ _ _
        | cons x xs =>
          rw [okL_cons] at h4
          omega
    exact hP _ _
end Go.Proofs.Ytlhaeonjobcdbaa.PA
