/- textedit.Transform: what it answers, walked by the contracts of what it calls. Conditions: none. -/
import Derived.Test.YtlhaeonjobcdbaaInsert
import Derived.Test.YtlhaeonjobcdbaaExtCompose
import Derived.Outline
namespace Go.Proofs.Ytlhaeonjobcdbaa.PA
open Go.RowKit Go.Proofs.YtlhaeonjobcdbaaW.PrintWords Go.Proofs.YtlhaeonjobcdbaaW.PrintLast
set_option linter.unusedVariables false

/-- One round's bytes at offset i, for the side whose own text is t1 (behind M1, at o1) and for the other. -/
def roundEnd (src : List UInt8) (i : Nat) (d1 d2 : Bool) (o : Nat) (M : List TB) : List TB := if d1 = false ∧ d2 = false then M ++ [((src.getD i 0), (o : Int))] else M
def cnt (d : Bool) : Nat := if d = false then 1 else 0
/-- The loop: n rounds are left. -/
def tl (src : List UInt8) : Nat → Nat → List S43 → Nat → List TB → List S43 → Nat → List TB → List TB × List TB
  | 0, i, el, ol, Ml, er, or', Mr => ((Ml ++ traceFrom ol (insText i el)) ++ (insText i er).map insT, (Mr ++ (insText i el).map insT) ++ traceFrom or' (insText i er))
  | n + 1, i, el, ol, Ml, er, or', Mr =>
    tl src n (i + 1) (popE i el) (ol + (insText i el).length + cnt (delHead i (popE i el)))
      (roundEnd src i (delHead i (popE i el)) (delHead i (popE i er)) (ol + (insText i el).length) ((Ml ++ traceFrom ol (insText i el)) ++ (insText i er).map insT))
      (popE i er) (or' + (insText i er).length + cnt (delHead i (popE i er)))
      (roundEnd src i (delHead i (popE i el)) (delHead i (popE i er)) (or' + (insText i er).length) ((Mr ++ (insText i el).map insT) ++ traceFrom or' (insText i er)))
def merged (a0 : ByteArray) (l1 l2 : List S43) : List TB × List TB := tl (bs a0) a0.size 0 l1 0 [] l2 0 []
def orgB (L : Int) : Int → List TB → Bool
  | _, [] => true
  | st, x :: r => if x.2 = -1 then orgB L st r else decide (st ≤ x.2) && decide (x.2 < L) && orgB L (x.2 + 1) r
theorem orgB_iff {L : Int} : ∀ {T : List TB} {st : Int}, orgB L st T = true ↔ Org L st T
  | [], st => by simp [orgB, Org]
  | x :: r, st => by
    unfold orgB Org
    split
    · exact orgB_iff
    · rw [Bool.and_eq_true, Bool.and_eq_true, orgB_iff (T := r)]
      simp only [decide_eq_true_eq, and_assoc]
def transOk (a0 : ByteArray) (l1 l2 : List S43) : Bool :=
  applyOk a0 l1 && applyOk a0 l2 && decide (l1.length ≤ 50) && decide (l2.length ≤ 50) && (decide ((merged a0 l1 l2).1.length > 2000) || (decide ((merged a0 l1 l2).2.length ≤ 2000) && orgB ((midB a0 l1).size : Int) 0 (merged a0 l1 l2).1 && orgB ((midB a0 l2).size : Int) 0 (merged a0 l1 l2).2))
/-- what Transform answers where both lists can be applied -/
def transC (a0 : ByteArray) (l1 l2 : List S43) : List S43 × List S43 × Int :=
  if (merged a0 l1 l2).1.length > 2000 then ([], [], 2)
  else if (canon ((midB a0 l2).size : Int) 0 [] (merged a0 l1 l2).2).length > 50 then ([], [], 2)
  else if (canon ((midB a0 l1).size : Int) 0 [] (merged a0 l1 l2).1).length > 50 then ([], [], 2)
  else (canon ((midB a0 l2).size : Int) 0 [] (merged a0 l1 l2).2, canon ((midB a0 l1).size : Int) 0 [] (merged a0 l1 l2).1, 0)
def textedit_Transform.f (k : Nat) (a0 : ByteArray) (l1 l2 : List S43) : Option (List S43 × List S43 × Int) :=
  (textedit_Apply.f k a0 l1).bind fun m => if m.2 = 0 then ((textedit_Apply.f k a0 l2).bind fun m2 => if m2.2 = 0 then (if transOk a0 l1 l2 = true ∧ m.1 = midB a0 l1 ∧ m2.1 = midB a0 l2 then some (transC a0 l1 l2) else none) else some ([], [], m2.2)) else some ([], [], m.2)
theorem textedit_Transform.mono : ∀ a0 a1 a2 k, LeO (textedit_Transform.f k a0 a1 a2) (textedit_Transform.f (k + 1) a0 a1 a2) := by
  intro a0 a1 a2 k
  unfold textedit_Transform.f
  refine LeO.bind (textedit_Apply.mono _ _ _) (fun m => LeO.ite (LeO.bind (textedit_Apply.mono _ _ _) (fun _ => LeO.refl _)) (LeO.refl _))

theorem popE_sub : ∀ (es : List S43) (i : Int), ∀ e ∈ popE i es, e ∈ es
  | [], _, _, h => h
  | x :: xs, i, e, h => by
    simp only [popE] at h
    split at h
    · exact List.mem_cons_of_mem _ (popE_sub xs i e h)
    · exact h
theorem popE_len : ∀ (es : List S43) (i : Int), (popE i es).length ≤ es.length
  | [], _ => Nat.le_refl _
  | x :: xs, i => by
    simp only [popE]
    split
    · have := popE_len xs i
      simp only [List.length_cons]
      omega
    · exact Nat.le_refl _
theorem insText_len (es : List S43) (hs : ∀ e ∈ es, e.f2.size ≤ 3000) (i : Int) : (insText i es).length ≤ 3000 := by
  cases es with
  | nil => simp [insText]
  | cons e es =>
    simp only [insText]
    split
    · rw [bs_length]; exact hs e (by simp)
    · simp
theorem total_each {L : Int} : ∀ {es : List S43} {p : Int}, okL L p es = true → 0 ≤ p + 1 → ∀ e ∈ es, (e.f2.size : Int) ≤ total es + (L - p)
  | [], _, _, _, e, he => by cases he
  | x :: xs, p, hok, hp, e, he => by
    rw [okL_cons] at hok
    have hlow : ∀ (ys : List S43) (q : Int), okL L q ys = true → q ≤ L → q ≤ L + total ys := by
      intro ys
      induction ys with
      | nil => intro q _ hq; simp only [total]; omega
      | cons y ys ih =>
        intro q hq hqL
        rw [okL_cons] at hq
        have := ih y.f1 hq.2.2.2 hq.2.2.1
        simp only [total]
        omega
    simp only [total]
    rcases List.mem_cons.1 he with rfl | he
    · have := hlow xs e.f1 hok.2.2.2 hok.2.2.1
      omega
    · have := total_each hok.2.2.2 (by omega) e he
      omega
theorem applyOk_each {a0 : ByteArray} {l : List S43} (h : applyOk a0 l = true) : ∀ e ∈ l, e.f2.size ≤ 3000 := by
  obtain ⟨h1, h2, h3⟩ := applyOk_iff.1 h
  intro e he
  have := total_each h1 (by omega) e he
  omega
structure TransFacts (a0 : ByteArray) (l1 l2 : List S43) : Prop where
  ok1 : applyOk a0 l1 = true
  ok2 : applyOk a0 l2 = true
  n1 : l1.length ≤ 50
  n2 : l2.length ≤ 50
  s1 : ∀ e ∈ l1, e.f2.size ≤ 3000
  s2 : ∀ e ∈ l2, e.f2.size ≤ 3000
  src : a0.size ≤ 2000
  org : (merged a0 l1 l2).1.length ≤ 2000 → (merged a0 l1 l2).2.length ≤ 2000 ∧ Org ((midB a0 l1).size : Int) 0 (merged a0 l1 l2).1 ∧ Org ((midB a0 l2).size : Int) 0 (merged a0 l1 l2).2
theorem midB_le {a0 : ByteArray} {l : List S43} (h : applyOk a0 l = true) : (midB a0 l).size ≤ 2000 := by
  obtain ⟨h1, h2, h3⟩ := applyOk_iff.1 h
  have := app_length id (bs a0) l 0 (-1) (by rw [bs_length]; exact h1) (by omega) (by omega) (by omega)
  rw [bs_length] at this
  rw [midB_size]
  omega
theorem trans_facts {a0 : ByteArray} {l1 l2 : List S43} (h : transOk a0 l1 l2 = true) : TransFacts a0 l1 l2 := by
  unfold transOk at h
  simp only [Bool.and_eq_true, Bool.or_eq_true, decide_eq_true_eq] at h
  obtain ⟨⟨⟨⟨h1, h2⟩, h3⟩, h4⟩, h5⟩ := h
  refine ⟨h1, h2, h3, h4, applyOk_each h1, applyOk_each h2, by have := (applyOk_iff.1 h1).2.2; omega, fun hle => ?_⟩
  rcases h5 with h5 | ⟨⟨h5, h6⟩, h7⟩
  · omega
  · exact ⟨h5, orgB_iff.1 h6, orgB_iff.1 h7⟩
/-- What is known at a round's head. -/
structure TI (a0 : ByteArray) (l1 l2 : List S43) (w : World) (gl gr : Nat) (j : Nat) (el : List S43) (ol : Nat) (Ml : List TB) (er : List S43) (or' : Nat) (Mr : List TB) (wr : World) : Prop where
  mm : MM w gl gr el ol Ml er or' Mr wr
  eq : tl (bs a0) (a0.size - j) j el ol Ml er or' Mr = merged a0 l1 l2
  sl : ∀ e ∈ el, e.f2.size ≤ 3000
  sr : ∀ e ∈ er, e.f2.size ≤ 3000
  nl : el.length ≤ 50
  nr : er.length ≤ 50
  ol : ol ≤ j * 3001
  or' : or' ≤ j * 3001
  ml : Ml.length ≤ j * 6001
  mr : Mr.length ≤ j * 6001
theorem MM_new (w w2 : World) (A1 A2 : Option Addr) (c1 c2 : Nat) (l1 l2 : List S43) (hb : Below w.heap.size w w2) (h1 : Kd.C k43 w A1 l1.length l1) (h2 : Kd.C k43 w A2 l2.length l2) (hc1 : l1.length ≤ c1) (hc2 : l2.length ≤ c2) :
    MM w w2.heap.size (w2.heap.size + 1) l1 0 [] l2 0 [] ((w2.alloc (.cells #[.slice A1 l1.length c1, .int .i64 0, .slice none 0 0] 67)).alloc (.cells #[.slice A2 l2.length c2, .int .i64 0, .slice none 0 0] 67)) := by
  have b1 : (w2.alloc (.cells #[.slice A1 l1.length c1, .int .i64 0, .slice none 0 0] 67)).heap[w2.heap.size]? = some (.cells #[.slice A1 l1.length c1, .int .i64 0, .slice none 0 0] 67 (0, 0)) := heap_alloc_new w2 _
  have b2 : ((w2.alloc (.cells #[.slice A1 l1.length c1, .int .i64 0, .slice none 0 0] 67)).alloc (.cells #[.slice A2 l2.length c2, .int .i64 0, .slice none 0 0] 67)).heap[w2.heap.size + 1]? = some (.cells #[.slice A2 l2.length c2, .int .i64 0, .slice none 0 0] 67 (0, 0)) := by
    have := heap_alloc_new (w2.alloc (.cells #[.slice A1 l1.length c1, .int .i64 0, .slice none 0 0] 67)) (.cells #[.slice A2 l2.length c2, .int .i64 0, .slice none 0 0] 67)
    rwa [size_alloc1] at this
  exact ⟨A1, c1, _, A2, c2, _, ⟨(hb.alloc hb.size _).alloc (by rw [size_alloc1]; have := hb.size; omega) _, ⟨hb.size, by have := hb.size; omega, by omega⟩, boxKept_alloc b1 _, b2, hc1, hc2, h1, h2, Kd.R_nil _ _ _ _ _, Kd.R_nil _ _ _ _ _⟩⟩
theorem TI_next {a0 : ByteArray} {l1 l2 : List S43} {w : World} {gl gr j : Nat} {el : List S43} {ol : Nat} {Ml : List TB} {er : List S43} {or' : Nat} {Mr : List TB} {wr w' : World} {dl dr : Bool} (h : TI a0 l1 l2 w gl gr j el ol Ml er or' Mr wr) (hj : j < a0.size)
    (htl : (insText j el).length ≤ 3000) (htr : (insText j er).length ≤ 3000) (hdl : delHead j (popE j el) = dl) (hdr : delHead j (popE j er) = dr)
    (hm : MM w gl gr (popE j el) (ol + (insText j el).length + cnt dl) (roundEnd (bs a0) j dl dr (ol + (insText j el).length) ((Ml ++ traceFrom ol (insText j el)) ++ (insText j er).map insT)) (popE j er) (or' + (insText j er).length + cnt dr) (roundEnd (bs a0) j dl dr (or' + (insText j er).length) ((Mr ++ (insText j el).map insT) ++ traceFrom or' (insText j er))) w') :
    ∃ el ol Ml er or' Mr, TI a0 l1 l2 w gl gr (j + 1) el ol Ml er or' Mr w' := by
  subst hdl
  subst hdr
  have hc : ∀ b, cnt b ≤ 1 := by intro b; cases b <;> decide
  have hr : ∀ b c o (M : List TB), (roundEnd (bs a0) j b c o M).length ≤ M.length + 1 := by
    intro b c o M
    unfold roundEnd
    split
    · simp
    · omega
  refine ⟨_, _, _, _, _, _, hm, ?_, fun e he => h.sl e (popE_sub _ _ e he), fun e he => h.sr e (popE_sub _ _ e he), Nat.le_trans (popE_len _ _) h.nl, Nat.le_trans (popE_len _ _) h.nr, ?_, ?_, ?_, ?_⟩
  · have := h.eq
    obtain ⟨n, hn⟩ : ∃ n, a0.size - j = n + 1 := ⟨a0.size - j - 1, by omega⟩
    rw [hn] at this
    rw [show a0.size - (j + 1) = n by omega, ← this]
    rfl
  · have := h.ol; have := hc (delHead j (popE j el)); omega
  · have := h.or'; have := hc (delHead j (popE j er)); omega
  · refine Nat.le_trans (hr _ _ _ _) ?_
    rw [List.length_append, List.length_append, traceFrom_length, List.length_map]
    have := h.ml; omega
  · refine Nat.le_trans (hr _ _ _ _) ?_
    rw [List.length_append, List.length_append, traceFrom_length, List.length_map]
    have := h.mr; omega

set_option maxHeartbeats 16000000 in
set_option maxRecDepth 100000 in
theorem textedit_Transform.calls (k : Nat) (a0 : ByteArray) (A1 : Option Addr) (c1 : Nat) (l1 : List S43) (A2 : Option Addr) (c2 : Nat) (l2 : List S43) (r1 : List S43) (r2 : List S43) (r3 : Int) (w : World) (hr1 : Kd.C k43 w A1 l1.length l1) (hc1 : l1.length ≤ c1) (hr2 : Kd.C k43 w A2 l2.length l2) (hc2 : l2.length ≤ c2) (h : textedit_Transform.f k a0 l1 l2 = some (r1, r2, r3)) :
    Calls Try.prog 19 #[.string a0, .slice A1 l1.length c1, .slice A2 l2.length c2] w fun e w' => ∃ v0_ v1_ : Value, e = .returned (.tuple #[v0_, v1_, .int .i64 r3]) ∧ Kd.R k43 43 w' w.heap.size (fun _ => True) v0_ r1 ∧ Kd.R k43 43 w' w.heap.size (fun _ => True) v1_ r2 ∧ Below w.heap.size w w' := by
  have HR1 := Aside0.mk hr1
  have HC1 := Aside0.mk hc1
  have HR2 := Aside0.mk hr2
  have HC2 := Aside0.mk hc2
  clear hr1 hc1 hr2 hc2
  unfold textedit_Transform.f at h
  cases ha : textedit_Apply.f k a0 l1 with
  | none => rw [ha] at h; cases h
  | some m =>
    obtain ⟨mb, me⟩ := m
    rw [ha] at h
    have HA := Aside0.mk ha
    clear ha
    simp only [Option.bind_some] at h
    by_cases he : me = 0
    · subst he
      rw [if_pos rfl] at h
      cases ha2 : textedit_Apply.f k a0 l2 with
      | none => rw [ha2] at h; cases h
      | some m2 =>
        obtain ⟨mb2, me2⟩ := m2
        rw [ha2] at h
        have HA2 := Aside0.mk ha2
        clear ha2
        simp only [Option.bind_some] at h
        by_cases he2 : me2 = 0
        · subst he2
          rw [if_pos rfl] at h
          split at h
          · rename_i hok
            obtain ⟨hok, rfl, rfl⟩ := hok
            have HF := Aside0.mk (trans_facts hok)
            have HRES := Aside0.mk (Option.some.inj h)
            have hsrc : a0.size ≤ 2000 := HF.out.src
            clear hok h
            go_enter Try.func19, Try.ntmps19
            go_wp2_with fail
            refine (textedit_Apply.calls k a0 _ _ l1 _ 0 _ HR1.out HC1.out HA.out).mono ?_
            rintro e w1 ⟨rfl, hb1⟩
            have HB1 := Aside0.mk hb1
            clear hb1
            go_wp2_with fail
            refine (textedit_Apply.calls k a0 _ _ l2 _ 0 _ (Kd.C_below HR2.out HB1.out) HC2.out HA2.out).mono ?_
            rintro e w2 ⟨rfl, hb2⟩
            have HB2 := Aside0.mk (HB1.out.trans (hb2.mono HB1.out.size))
            clear hb2
            go_wp2
            have HMM := Aside0.mk (MM_new w w2 A1 A2 c1 c2 l1 l2 HB2.out HR1.out HR2.out HC1.out HC2.out)
            have hsz0 : w.heap.size ≤ w2.heap.size := HB2.out.size
            generalize (w2.alloc (.cells #[.slice A1 l1.length c1, .int .i64 0, .slice none 0 0] 67)).alloc (.cells #[.slice A2 l2.length c2, .int .i64 0, .slice none 0 0] 67) = W0 at *
            generalize w2.heap.size + 1 = gr at *
            generalize w2.heap.size = gl at *
            go_loopw [14] (fun i wr => ∃ (j : Nat), j ≤ a0.size ∧ i = .int .i64 j ∧ Aside0 (∃ el ol Ml er or' Mr, TI a0 l1 l2 w gl gr j el ol Ml er or' Mr wr)) (fun i _ => a0.size + 1 - (intOf i).toNat)
            case atStart => exact ⟨0, Nat.zero_le _, rfl, ⟨l1, 0, [], l2, 0, [], ⟨HMM.out, rfl, HF.out.s1, HF.out.s2, HF.out.n1, HF.out.n2, by omega, by omega, by simp, by simp⟩⟩⟩
            case round =>
              obtain ⟨j, hj, rfl, HI⟩ := hrel
              obtain ⟨el, ol, Ml, er, or', Mr, hTI⟩ := HI.out
              have HTI := Aside0.mk hTI
              have htl := insText_len el hTI.sl j
              have htr := insText_len er hTI.sr j
              have HTL := Aside0.mk htl
              have HTR := Aside0.mk htr
              clear HI hTI HMM htl htr
              go_wp2_with fail
              refine (insert_calls w gl gr el ol Ml er or' Mr j wr HTI.out.mm (by omega) (by omega) HTI.out.sl (by have := HTI.out.ol; omega) (by have := HTI.out.ml; omega) (by have := HTI.out.mr; omega)).mono ?_
              rintro e w3 ⟨rfl, hm3⟩
              have HM3 := Aside0.mk hm3
              clear hm3
              go_wp2_with fail
              refine (insert_calls w gr gl er or' (Mr ++ (insText j el).map insT) el (ol + (insText j el).length) (Ml ++ traceFrom ol (insText j el)) j w3 HM3.out.swap (by omega) (by omega) HTI.out.sr (by have := HTI.out.or'; omega) (by rw [List.length_append, List.length_map]; have := HTI.out.mr; have := HTL.out; omega) (by rw [List.length_append, traceFrom_length]; have := HTI.out.ml; have := HTL.out; omega)).mono ?_
              rintro e w4 ⟨rfl, hm4⟩
              have HM4 := Aside0.mk hm4.swap
              clear hm4 HM3
              by_cases hjL : j = a0.size
              · subst hjL
                have hz : a0.size - a0.size = 0 := by omega
                have hfin : (Ml ++ traceFrom ol (insText (a0.size : Int) el) ++ (insText (a0.size : Int) er).map insT, Mr ++ (insText (a0.size : Int) el).map insT ++ traceFrom or' (insText (a0.size : Int) er)) = merged a0 l1 l2 := by
                  have := HTI.out.eq
                  rw [hz] at this
                  exact this
                have hm5 : ∃ B1 d1 u1 B2 d2 u2, MP w gl gr el (ol + (insText (a0.size : Int) el).length) (merged a0 l1 l2).1 er (or' + (insText (a0.size : Int) er).length) (merged a0 l1 l2).2 B1 d1 u1 B2 d2 u2 w4 := by
                  rw [← hfin]
                  exact HM4.out
                obtain ⟨B1, d1, u1, B2, d2, u2, hm5⟩ := hm5
                have HM5 := Aside0.mk hm5
                clear hz hfin hm5 HM4 HTI HTL HTR
                obtain ⟨E1, n1, rfl, hn1, hC1⟩ := readsT HM5.out.m1
                obtain ⟨E2, n2, rfl, hn2, hC2⟩ := readsT HM5.out.m2
                have HK1 := Aside0.mk (And.intro hn1 hC1)
                have HK2 := Aside0.mk (And.intro hn2 hC2)
                have y2 := HM5.out.cell1.2.2
                have x2 := HM5.out.swap.cell1.2.2
                clear hn1 hC1 hn2 hC2
                by_cases hbig : (merged a0 l1 l2).1.length > 2000
                · have hd1 : decide (2000 < (merged a0 l1 l2).1.length) = true := decide_eq_true hbig
                  have hd2 : decide ((2000 : Int) < ((merged a0 l1 l2).1.length : Int)) = true := decide_eq_true (by omega)
                  have hr : (r1, r2, r3) = ([], [], 2) := by rw [← HRES.out]; unfold transC; rw [if_pos hbig]
                  simp only [Prod.mk.injEq] at hr
                  obtain ⟨rfl, rfl, rfl⟩ := hr
                  clear hbig HRES
                  go_wp2
                  go_ret3
                  exact ⟨_, _, rfl, Kd.R_nil _ _ _ _ _, Kd.R_nil _ _ _ _ _, HM5.out.bel⟩
                · have hd1 : decide (2000 < (merged a0 l1 l2).1.length) = false := decide_eq_false hbig
                  have hd2 : decide ((2000 : Int) < ((merged a0 l1 l2).1.length : Int)) = false := decide_eq_false (by omega)
                  have HORG := Aside0.mk (HF.out.org (by omega))
                  have HBIG := Aside0.mk hbig
                  have hlm := midB_le HF.out.ok1
                  have hlm2 := midB_le HF.out.ok2
                  clear hbig
                  go_wp2_with fail
                  refine (canonical_calls ((midB a0 l2).size : Int) E2 n2 (merged a0 l1 l2).2 w4 HK2.out.2 HK2.out.1 (by omega) (by omega) HORG.out.1 HORG.out.2.2).mono ?_
                  rintro e w5 ⟨v5, rfl, hv5, hb5⟩
                  have HM6 := Aside0.mk (HM5.out.move hb5 (HM5.out.bel.trans (hb5.mono HM5.out.bel.size)))
                  have H5 := Aside0.mk hv5
                  have y6 := HM6.out.cell1.2.2
                  have HK6 := Aside0.mk (Kd.C_below HK1.out.2 hb5)
                  clear hb5 hv5 y2 x2
                  by_cases hr50 : (canon ((midB a0 l2).size : Int) 0 [] (merged a0 l1 l2).2).length > 50
                  · have he1 : canErr (canon ((midB a0 l2).size : Int) 0 [] (merged a0 l1 l2).2) = 2 := if_pos hr50
                    have hr : (r1, r2, r3) = ([], [], 2) := by rw [← HRES.out]; unfold transC; rw [if_neg HBIG.out, if_pos hr50]
                    simp only [Prod.mk.injEq] at hr
                    obtain ⟨rfl, rfl, rfl⟩ := hr
                    rw [he1]
                    clear hr50 HRES he1
                    go_wp2
                    go_ret3
                    exact ⟨_, _, rfl, Kd.R_nil _ _ _ _ _, Kd.R_nil _ _ _ _ _, HM6.out.bel⟩
                  · have he1 : canErr (canon ((midB a0 l2).size : Int) 0 [] (merged a0 l1 l2).2) = 0 := if_neg hr50
                    have he2 : canOut (canon ((midB a0 l2).size : Int) 0 [] (merged a0 l1 l2).2) = canon ((midB a0 l2).size : Int) 0 [] (merged a0 l1 l2).2 := if_neg hr50
                    rw [he2] at H5
                    rw [he1]
                    have HR50 := Aside0.mk hr50
                    clear he1 he2 hr50
                    go_wp2_with fail
                    refine (canonical_calls ((midB a0 l1).size : Int) E1 n1 (merged a0 l1 l2).1 w5 HK6.out HK1.out.1 (by omega) (by omega) (by have := HBIG.out; omega) HORG.out.2.1).mono ?_
                    rintro e w6 ⟨v6, rfl, hv6, hb6⟩
                    have HB6 := Aside0.mk (HM6.out.bel.trans (hb6.mono HM6.out.bel.size))
                    have H5' := Aside0.mk (Kd.R_lower (Kd.R_below H5.out hb6) HM5.out.bel.size)
                    have H6 := Aside0.mk (Kd.R_lower hv6 HM6.out.bel.size)
                    clear hb6 hv6 y6 H5
                    by_cases hl50 : (canon ((midB a0 l1).size : Int) 0 [] (merged a0 l1 l2).1).length > 50
                    · have he1 : canErr (canon ((midB a0 l1).size : Int) 0 [] (merged a0 l1 l2).1) = 2 := if_pos hl50
                      have hr : (r1, r2, r3) = ([], [], 2) := by rw [← HRES.out]; unfold transC; rw [if_neg HBIG.out, if_neg HR50.out, if_pos hl50]
                      simp only [Prod.mk.injEq] at hr
                      obtain ⟨rfl, rfl, rfl⟩ := hr
                      rw [he1]
                      clear hl50 HRES he1
                      go_wp2
                      go_ret3
                      exact ⟨_, _, rfl, Kd.R_nil _ _ _ _ _, Kd.R_nil _ _ _ _ _, HB6.out⟩
                    · have he1 : canErr (canon ((midB a0 l1).size : Int) 0 [] (merged a0 l1 l2).1) = 0 := if_neg hl50
                      have he2 : canOut (canon ((midB a0 l1).size : Int) 0 [] (merged a0 l1 l2).1) = canon ((midB a0 l1).size : Int) 0 [] (merged a0 l1 l2).1 := if_neg hl50
                      have hr : (r1, r2, r3) = (canon ((midB a0 l2).size : Int) 0 [] (merged a0 l1 l2).2, canon ((midB a0 l1).size : Int) 0 [] (merged a0 l1 l2).1, 0) := by rw [← HRES.out]; unfold transC; rw [if_neg HBIG.out, if_neg HR50.out, if_neg hl50]
                      simp only [Prod.mk.injEq] at hr
                      obtain ⟨rfl, rfl, rfl⟩ := hr
                      rw [he2] at H6
                      rw [he1]
                      clear hl50 HRES he1 he2
                      go_wp2
                      go_ret3
                      exact ⟨_, _, rfl, H5'.out, H6.out, HB6.out⟩
              · have hjb : ((j : Int) == (a0.size : Int)) = false := beq_eq_false_iff_ne.2 (by omega)
                have hjlt : j < a0.size := by omega
                clear hjL
                go_wp2_with fail
                refine (deletes_calls w gl gr el (ol + (insText j el).length) (Ml ++ traceFrom ol (insText j el) ++ (insText j er).map insT) er (or' + (insText j er).length) (Mr ++ (insText j el).map insT ++ traceFrom or' (insText j er)) j w4 HM4.out (by omega) (by omega) (by have := HTI.out.nl; omega)).mono ?_
                rintro e w5 ⟨rfl, hm5⟩
                have HM5 := Aside0.mk hm5
                clear hm5 HM4
                have hbl : ol + (insText j el).length ≤ 20000000 := by have := HTI.out.ol; have := HTL.out; omega
                have hbr : or' + (insText j er).length ≤ 20000000 := by have := HTI.out.or'; have := HTR.out; omega
                cases hdl : delHead j (popE j el) with
                | false =>
                  have HDL := Aside0.mk hdl
                  clear hdl
                  go_wp2_with fail
                  refine (deletes_calls w gr gl er (or' + (insText j er).length) (Mr ++ (insText j el).map insT ++ traceFrom or' (insText j er)) (popE j el) (ol + (insText j el).length) (Ml ++ traceFrom ol (insText j el) ++ (insText j er).map insT) j w5 HM5.out.swap (by omega) (by omega) (by have := HTI.out.nr; omega)).mono ?_
                  rintro e w6 ⟨rfl, hm6⟩
                  have HM6 := Aside0.mk hm6
                  clear hm6 HM5
                  cases hdr : delHead j (popE j er) with
                  | true =>
                    have HDR := Aside0.mk hdr
                    clear hdr
                    obtain ⟨B1, d1, u1, B2, d2, u2, hP⟩ := HM6.out
                    obtain ⟨z0, z1, z2⟩ := hP.swap.cell1
                    obtain ⟨n1, n2, n3⟩ := hP.swap.count
                    have HN := Aside0.mk (TI_next HTI.out hjlt HTL.out HTR.out HDL.out HDR.out ⟨_, _, _, _, _, _, n2⟩)
                    clear HTI HTL HTR HM6 n2 n3 hP
                    go_wp2
                    go_roundw
                    case rel => exact ⟨j + 1, by omega, by go_num, HN⟩
                    case measure => simp [intOf]; omega
                  | false =>
                    have HDR := Aside0.mk hdr
                    clear hdr
                    obtain ⟨B1, d1, u1, B2, d2, u2, hP⟩ := HM6.out
                    obtain ⟨z0, z1, z2⟩ := hP.swap.cell1
                    obtain ⟨y0, y1, y2⟩ := hP.cell1
                    have hby : (bs a0).getD j 0 = a0[j]'hjlt := by
                      rw [List.getD_eq_getElem?_getD, List.getElem?_eq_getElem (by rw [bs_length]; exact hjlt)]
                      rfl
                    have HBY := Aside0.mk hby
                    have kcl : ((ol + (insText (j : Int) el).length : Nat) : Int) = (ol : Int) + ((insText (j : Int) el).length : Int) := by omega
                    have kcr : ((or' + (insText (j : Int) er).length : Nat) : Int) = (or' : Int) + ((insText (j : Int) er).length : Int) := by omega
                    have kz := (hP.swap.alloc (.cells #[.int .u8 (a0[j]'hjlt).toNat, .int .i64 ((ol : Int) + ((insText (j : Int) el).length : Int))] 71)).cell1.2.2
                    have HP := Aside0.mk hP.swap
                    have HK := Aside0.mk (And.intro kcl kcr)
                    rw [kcl] at z1
                    clear hby hP kcl kcr
                    go_upto_region 16 with fail
                    go_cut [] (fun wc => Aside0 (∃ u1', MP w gl gr (popE j el) (ol + (insText j el).length) ((Ml ++ traceFrom ol (insText j el) ++ (insText j er).map insT) ++ [(a0[j]'hjlt, ((ol : Int) + ((insText (j : Int) el).length : Int)))]) (popE j er) (or' + (insText j er).length) (Mr ++ (insText j el).map insT ++ traceFrom or' (insText j er)) B2 d2 u1' B1 d1 u1 wc))
                    case first =>
                      go_region_law (refine push_step (w0 := w) (W := w6.drew) rfl (.tmp 77) (.tmp 86) rfl u2 u1 (Ml ++ traceFrom ol (insText j el) ++ (insText j er).map insT) (a0[j]'hjlt) ((ol : Int) + ((insText (j : Int) el).length : Int)) rfl (by first | rfl | (simp; done)) (by first | rfl | (simp; done)) HP.out.drew.m1 HP.out.drew.fresh HP.out.drew.bel (by simp only [List.length_append, traceFrom_length, List.length_map]; have := HTI.out.ml; have := HTL.out; have := HTR.out; omega) ?_; intro v1' wA hr hg hat; obtain ⟨Av, nv, cv, hv⟩ := anySlice hr; subst hv; obtain ⟨q1, q2, q3, q4⟩ := HP.out.drew.push (x := (a0[j]'hjlt, ((ol : Int) + ((insText (j : Int) el).length : Int)))) hr hg hat; have Q3 := Aside0.mk q3; clear hr hg hat q3 q4)
                      all_goals
                        go_wp2_with fail
                        go_meet
                        case rel => exact ⟨_, Q3.out⟩
                    case rest =>
                      obtain ⟨u1', hP3⟩ := hcut.out
                      have hP3s := hP3.swap
                      obtain ⟨x0, x1, x2⟩ := hP3s.cell1
                      rw [HK.out.2] at x1
                      have kz := (hP3s.alloc (.cells #[.int .u8 (a0[j]'hjlt).toNat, .int .i64 ((or' : Int) + ((insText (j : Int) er).length : Int))] 71)).cell1.2.2
                      have HP3 := Aside0.mk hP3s
                      clear hP3 hP3s hcut z0 z1 z2 y0 y1 y2 HP
                      go_upto_region 17 with fail
                      go_cut [] (fun wc => Aside0 (∃ u2', MP w gl gr (popE j el) (ol + (insText j el).length) ((Ml ++ traceFrom ol (insText j el) ++ (insText j er).map insT) ++ [(a0[j]'hjlt, ((ol : Int) + ((insText (j : Int) el).length : Int)))]) (popE j er) (or' + (insText j er).length) ((Mr ++ (insText j el).map insT ++ traceFrom or' (insText j er)) ++ [(a0[j]'hjlt, ((or' : Int) + ((insText (j : Int) er).length : Int)))]) B2 d2 u1' B1 d1 u2' wc))
                      case first =>
                        go_region_law (refine push_step (w0 := w) (W := wc.drew) rfl (.tmp 94) (.tmp 103) rfl u1 u1' (Mr ++ (insText j el).map insT ++ traceFrom or' (insText j er)) (a0[j]'hjlt) ((or' : Int) + ((insText (j : Int) er).length : Int)) rfl (by first | rfl | (simp; done)) (by first | rfl | (simp; done)) HP3.out.drew.m1 HP3.out.drew.fresh HP3.out.drew.bel (by simp only [List.length_append, traceFrom_length, List.length_map]; have := HTI.out.mr; have := HTL.out; have := HTR.out; omega) ?_; intro v1' wA hr hg hat; obtain ⟨Av, nv, cv, hv⟩ := anySlice hr; subst hv; obtain ⟨q1, q2, q3, q4⟩ := HP3.out.drew.push (x := (a0[j]'hjlt, ((or' : Int) + ((insText (j : Int) er).length : Int)))) hr hg hat; have Q3 := Aside0.mk q3; clear hr hg hat q3 q4)
                        all_goals
                          go_wp2_with fail
                          go_meet
                          case rel => exact ⟨_, Q3.out.swap⟩
                      case rest =>
                        obtain ⟨u2', hP4⟩ := hcut.out
                        obtain ⟨z0, z1, z2⟩ := hP4.cell1
                        obtain ⟨n1, n2, n3⟩ := hP4.count
                        rw [HK.out.1] at z1 n2
                        obtain ⟨y0, y1, y2⟩ := n2.swap.cell1
                        obtain ⟨m1, m2, m3⟩ := n2.swap.count
                        rw [HK.out.2] at y1 m2
                        have HN := Aside0.mk (TI_next HTI.out hjlt HTL.out HTR.out HDL.out HDR.out (by rw [show roundEnd (bs a0) j false false (ol + (insText (j : Int) el).length) ((Ml ++ traceFrom ol (insText (j : Int) el)) ++ (insText (j : Int) er).map insT) = ((Ml ++ traceFrom ol (insText (j : Int) el)) ++ (insText (j : Int) er).map insT) ++ [((bs a0).getD j 0, ((ol + (insText (j : Int) el).length : Nat) : Int))] from rfl, show roundEnd (bs a0) j false false (or' + (insText (j : Int) er).length) ((Mr ++ (insText (j : Int) el).map insT) ++ traceFrom or' (insText (j : Int) er)) = ((Mr ++ (insText (j : Int) el).map insT) ++ traceFrom or' (insText (j : Int) er)) ++ [((bs a0).getD j 0, ((or' + (insText (j : Int) er).length : Nat) : Int))] from rfl, HBY.out, HK.out.1, HK.out.2]; exact ⟨_, _, _, _, _, _, m2.swap⟩))
                        clear HTI HTL HTR HM6 n2 n3 m2 m3 hP4 hcut HP3 x0 x1 x2 kz
                        go_wp2
                        go_roundw
                        case rel => exact ⟨j + 1, by omega, by go_num, HN⟩
                        case measure => simp [intOf]; omega
                | true =>
                  have HDL := Aside0.mk hdl
                  clear hdl
                  go_wp2_with fail
                  refine (deletes_calls w gr gl er (or' + (insText j er).length) (Mr ++ (insText j el).map insT ++ traceFrom or' (insText j er)) (popE j el) (ol + (insText j el).length) (Ml ++ traceFrom ol (insText j el) ++ (insText j er).map insT) j w5 HM5.out.swap (by omega) (by omega) (by have := HTI.out.nr; omega)).mono ?_
                  rintro e w6 ⟨rfl, hm6⟩
                  have HM6 := Aside0.mk hm6
                  clear hm6 HM5
                  cases hdr : delHead j (popE j er) with
                  | true =>
                    have HDR := Aside0.mk hdr
                    clear hdr
                    have HN := Aside0.mk (TI_next HTI.out hjlt HTL.out HTR.out HDL.out HDR.out HM6.out.swap)
                    clear HTI HTL HTR HM6
                    go_wp2
                    go_roundw
                    case rel => exact ⟨j + 1, by omega, by go_num, HN⟩
                    case measure => simp [intOf]; omega
                  | false =>
                    have HDR := Aside0.mk hdr
                    clear hdr
                    obtain ⟨B1, d1, u1, B2, d2, u2, hP⟩ := HM6.out
                    obtain ⟨z0, z1, z2⟩ := hP.cell1
                    obtain ⟨n1, n2, n3⟩ := hP.count
                    have HN := Aside0.mk (TI_next HTI.out hjlt HTL.out HTR.out HDL.out HDR.out ⟨_, _, _, _, _, _, n2.swap⟩)
                    clear HTI HTL HTR HM6 n2 n3 hP
                    go_wp2
                    go_roundw
                    case rel => exact ⟨j + 1, by omega, by go_num, HN⟩
                    case measure => simp [intOf]; omega
          · cases h
        · rw [if_neg he2] at h
          simp only [Option.some.injEq, Prod.mk.injEq] at h
          obtain ⟨rfl, rfl, rfl⟩ := h
          have htb : (me2 == 0) = false := by simpa using he2
          have htb2 : (me2 != 0) = true := by simpa using he2
          clear he2
          go_enter Try.func19, Try.ntmps19
          go_wp2_with fail
          refine (textedit_Apply.calls k a0 _ _ l1 _ 0 _ HR1.out HC1.out HA.out).mono ?_
          rintro e w1 ⟨rfl, hb1⟩
          have HB1 := Aside0.mk hb1
          clear hb1
          go_wp2_with fail
          refine (textedit_Apply.calls k a0 _ _ l2 _ me2 _ (Kd.C_below HR2.out HB1.out) HC2.out HA2.out).mono ?_
          rintro e w2 ⟨rfl, hb2⟩
          have HB2 := Aside0.mk (HB1.out.trans (hb2.mono HB1.out.size))
          clear hb2
          go_wp2
          go_ret3
          exact ⟨_, _, rfl, Kd.R_nil _ _ _ _ _, Kd.R_nil _ _ _ _ _, HB2.out⟩
    · rw [if_neg he] at h
      simp only [Option.some.injEq, Prod.mk.injEq] at h
      obtain ⟨rfl, rfl, rfl⟩ := h
      have htb : (me == 0) = false := by simpa using he
      have htb2 : (me != 0) = true := by simpa using he
      clear he
      go_enter Try.func19, Try.ntmps19
      go_wp2_with fail
      refine (textedit_Apply.calls k a0 _ _ l1 _ me _ HR1.out HC1.out HA.out).mono ?_
      rintro e w1 ⟨rfl, hb1⟩
      have HB1 := Aside0.mk hb1
      clear hb1
      go_wp2_with fail
      go_ret3
      exact ⟨_, _, rfl, Kd.R_nil _ _ _ _ _, Kd.R_nil _ _ _ _ _, HB1.out⟩
end Go.Proofs.Ytlhaeonjobcdbaa.PA
