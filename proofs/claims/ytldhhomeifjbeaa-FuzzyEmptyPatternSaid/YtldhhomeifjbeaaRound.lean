/- A region that draws its order of evaluation, inside a round of a range over a function: what yields its value in every world that meets S is taken first. No walk. -/
import Derived.Test.YtldhhomeifjbeaaSuffixP
import Derived.OrdersIn
import Derived.OrdersHeld
import Derived.RangeFuncCalls
namespace Go.Proofs.Ytldhhomeifjbeaa.PA
open Go.RowKit
set_option linter.unusedVariables false
set_option linter.unusedSimpArgs false

def calmOp (o : Oper) : Bool := match o.op with | .defer _ => false | _ => true
theorem calmOp_spec {o : Oper} (h : calmOp o = true) : ∀ c, o.op ≠ .defer c := by
  intro c hc
  unfold calmOp at h
  rw [hc] at h
  cases h

section
variable {n : Nat} {P : Program} {ops : Array Oper} {Q : Exit → Act → World → Prop} {md : Region.Mode} {S : World → Prop} {l : Nat}

theorem rd_upon {o : Oper} (hc : calmOp o = true) {a : Act} {w : World} {K : Act → World → Prop} : o.wpIn (Fence.wide.inRound l) n P a w K Q ↔ o.uponIn (Fence.wide.inRound l) n P a K Q ((execOp a.eval o).run P w) := by
  unfold Oper.wpIn
  rw [Oper.semAt_eq _ _ _ (calmOp_spec hc)]
  exact ⟨fun h => h.2, fun h => ⟨fun _ _ => trivial, h⟩⟩
theorem rd_yield {i : Nat} {o : Oper} {v : Value} {a : Act} (hi : ops[i]? = some o) (hc : calmOp o = true) (hy : YieldsIf P ops S o v a) {K : Act → World → Prop} {w : World} (hS : S w) (h : K (a.put o.dst v) w) :
    wpOpIn (Fence.wide.inRound l) n P ops Q i K a w := by
  unfold wpOpIn
  simp only [hi]
  rcases hy with ⟨hw, hv⟩ | ⟨hw, rfl⟩
  · simp only [hw, if_true]
    rw [rd_upon hc, hv w hS]
    exact h
  · simp only [hw, Bool.false_eq_true, if_false]
    exact ⟨fun _ _ => trivial, h⟩
theorem rd_put {j : Nat} {oi oj : Oper} {v : Value} (hj : ops[j]? = some oj) (hcj : calmOp oj = true) (hap : oi.apart ops oj = true)
    (hsi : ∀ cs b, oi.op ≠ .select cs b) (hsj : ∀ cs b, oj.op ≠ .select cs b) (hQ : ∀ c a w, Q (.panic c) (a.put oi.dst v) w → Q (.panic c) a w)
    {K : Act → World → Prop} {a : Act} {w : World} (hy : YieldsIf P ops S oi v a) (h : wpOpIn (Fence.wide.inRound l) n P ops Q j K (a.put oi.dst v) w) :
    wpOpIn (Fence.wide.inRound l) n P ops Q j (fun a' w' => YieldsIf P ops S oi v a' ∧ K (a'.put oi.dst v) w') a w := by
  obtain ⟨h1, h2, h3⟩ := Oper.apart_spec hap
  have keep : ∀ a : Act, YieldsIf P ops S oi v a → ∀ u, YieldsIf P ops S oi v (a.put oj.dst u) := fun a hy u => hy.of_same (execOp_put oi hsi a oj.dst u h3) (wanted_put oi a oj.dst u h3)
  unfold wpOpIn at *
  simp only [hj] at *
  rw [wanted_put oj a oi.dst v h1] at h
  by_cases hw : Region.wanted oj (yielded ops a.tmps) = true
  · simp only [hw, if_true] at h ⊢
    rw [rd_upon hcj] at h ⊢
    rw [execOp_put oj hsj a oi.dst v h1] at h
    generalize (execOp a.eval oj).run P w = r at *
    cases r with
    | ok x w' =>
      cases x with
      | value u =>
        simp only [Oper.uponIn] at h ⊢
        exact ⟨keep a hy u, by rw [← Act.put_comm a v u h2]; exact h⟩
      | skip =>
        simp only [Oper.uponIn] at h ⊢
        exact ⟨keep a hy _, by rw [← Act.put_comm a v undef h2]; exact h⟩
      | defer d =>
        simp only [Oper.uponIn] at h ⊢
        exact ⟨keep { a with defers := d :: a.defers } (hy.of_same rfl rfl) _, by rw [← Act.put_comm _ v undef h2, ← Act.put_defers]; exact h⟩
      | enter f args =>
        simp only [Oper.uponIn] at h ⊢
        refine ⟨h.1, CallsIn.mono h.2 fun e w'' he => ?_⟩
        cases e with
        | returned u => exact ⟨keep a hy u, by rw [← Act.put_comm a v u h2]; exact he⟩
        | panicked c => exact hQ _ _ _ he
        | outgrown => exact he
      | row row args =>
        simp only [Oper.uponIn] at h ⊢
        exact ⟨h.1, RowsIn.mono h.2 fun u w'' he => ⟨keep a hy u, by rw [← Act.put_comm a v u h2]; exact he⟩⟩
      | round l f tmps assign body =>
        simp only [Oper.uponIn] at h ⊢
        refine ⟨h.1, RoundIn.mono h.2 fun e w'' he => ?_⟩
        cases e with
        | returned u => exact ⟨keep a hy u, by rw [← Act.put_comm a v u h2]; exact he⟩
        | panicked c => exact hQ _ _ _ he
        | outgrown => exact he
      | _ => simp only [Oper.uponIn] at h
    | halt x w' =>
      cases x <;> simp only [Oper.uponIn] at h ⊢
      case panic u => exact hQ _ _ _ h
  · simp only [hw] at h ⊢
    exact ⟨fun _ _ => trivial, keep a hy _, by rw [← Act.put_comm a v undef h2]; exact h.2⟩

/-- Whatever order is picked from here on; S holds behind each operation that is carried out. -/
def wpR (l n : Nat) (P : Program) (md : Region.Mode) (ops : Array Oper) (Q : Exit → Act → World → Prop) (S : World → Prop) : Nat → Array Bool → Act → World → Prop
  | 0, listed, a, w => Region.ready md ops listed = [] ∧ Q .normal a w
  | fuel + 1, listed, a, w => (Region.ready md ops listed = [] → Q .normal a w) ∧ ∀ i ∈ Region.ready md ops listed, wpOpIn (Fence.wide.inRound l) n P ops Q i (fun a' w' => S w' ∧ wpR l n P md ops Q S fuel (listed.setIfInBounds i true) a' w') a w
theorem wpR_any : ∀ (fuel : Nat) (listed : Array Bool) (a : Act) (w : World), wpR l n P md ops Q S fuel listed a w → wpAnyIn (Fence.wide.inRound l) n P md ops Q fuel listed a w
  | 0, _, _, _, h => h
  | fuel + 1, _, _, _, h => ⟨h.1, fun i hi => wpOpIn_mono (fun a' w' h' => wpR_any fuel _ a' w' h'.2) (h.2 i hi)⟩
theorem wpR_first {i : Nat} {oi : Oper} {v : Value} (hi : ops[i]? = some oi) (hall : ∀ (j : Nat) (o : Oper), ops[j]? = some o → calmOp o = true) (hsel : ∀ (j : Nat) (o : Oper) cs b, ops[j]? = some o → o.op ≠ .select cs b)
    (hQ : ∀ c a w, Q (.panic c) (a.put oi.dst v) w → Q (.panic c) a w) : ∀ (fuel : Nat) (listed : Array Bool) (a : Act) (w : World),
      (∀ j oj, ops[j]? = some oj → j ≠ i → listed.getD j true = false → (∀ e ∈ oj.after, Region.binds md e = true → e.on ≠ i) → oi.apart ops oj = true) →
      i ∈ Region.ready md ops listed → YieldsIf P ops S oi v a → S w → wpR l n P md ops Q S fuel (listed.setIfInBounds i true) (a.put oi.dst v) w → wpR l n P md ops Q S (fuel + 1) listed a w := by
  intro fuel
  induction fuel with
  | zero =>
    intro listed a w _ hr hy hS H
    refine ⟨fun h => (by rw [h] at hr; cases hr), fun j hj => ?_⟩
    by_cases hji : j = i
    · subst hji
      exact rd_yield hi (hall _ _ hi) hy hS ⟨hS, H⟩
    · have := ready_mono hj hji
      rw [H.1] at this
      cases this
  | succ fuel ih =>
    intro listed a w hfree hr hy hS H
    refine ⟨fun h => (by rw [h] at hr; cases hr), fun j hj => ?_⟩
    by_cases hji : j = i
    · subst hji
      exact rd_yield hi (hall _ _ hi) hy hS ⟨hS, H⟩
    · have h1 := H.2 j (ready_mono hj hji)
      obtain ⟨hjun, oj, hoj, hdep⟩ := mem_ready.1 hj
      have hnot : ∀ e ∈ oj.after, Region.binds md e = true → e.on ≠ i := fun e he hb heq => by
        have h1 := hdep e he hb
        have h0 := (mem_ready.1 hr).1
        rw [heq] at h1
        rcases Nat.lt_or_ge i listed.size with h' | h'
        · simp [h'] at h0 h1
          rw [h0] at h1
          cases h1
        · simp [Array.getElem?_eq_none h'] at h1
      refine wpOpIn_mono (fun a' w' h3 => ⟨h3.2.1, ih (listed.setIfInBounds j true) a' w' ?_ (ready_mono hr (Ne.symm hji)) h3.1 h3.2.1 ?_⟩) (rd_put hoj (hall _ _ hoj) (hfree j oj hoj hji hjun hnot) (fun cs b => hsel i oi cs b hi) (fun cs b => hsel j oj cs b hoj) hQ hy h1)
      · intro k ok hk hki hun hno
        refine hfree k ok hk hki ?_ hno
        by_cases hjk : j = k
        · subst hjk
          exact hjun
        · rwa [getD_set_ne true hjk] at hun
      · rw [Array.setIfInBounds_comm _ _ hji]
        exact h3.2.2
theorem all_calm {ops : Array Oper} (h : ops.toList.all calmOp = true) : ∀ (j : Nat) (o : Oper), ops[j]? = some o → calmOp o = true := by
  intro j o ho
  refine List.all_eq_true.1 h o ?_
  rw [← Array.getElem?_toList] at ho
  exact List.mem_of_getElem? ho
theorem wpR_take {i : Nat} {oi : Oper} {v : Value} {fuel : Nat} {listed : Array Bool} {a : Act} {w : World} (hi : ops[i]? = some oi) (hcalm : ops.toList.all calmOp = true)
    (hs : Region.noSelect ops = true) (hf : Region.free md ops listed i = true) (hr : (Region.ready md ops listed).contains i = true) (hQ : ∀ c a w, Q (.panic c) (a.put oi.dst v) w → Q (.panic c) a w)
    (hw : Region.wanted oi (yielded ops a.tmps) = true) (hy : ∀ w, S w → (execOp a.eval oi).run P w = .ok (.value v) w) (hS : S w)
    (h : wpR l n P md ops Q S fuel (listed.setIfInBounds i true) (a.put oi.dst v) w) : wpR l n P md ops Q S (fuel + 1) listed a w :=
  wpR_first hi (all_calm hcalm) (Region.noSelect_spec hs) hQ fuel listed a w (Region.free_spec hi hf) (by simpa using hr) (.inl ⟨hw, hy⟩) hS h
/-- One operation alone may come up. -/
theorem wpR_one {i : Nat} {o : Oper} {fuel : Nat} {listed : Array Bool} {a : Act} {w : World} (hr : Region.ready md ops listed = [i]) (ho : ops[i]? = some o) (hw : Region.wanted o (yielded ops a.tmps) = true)
    (h : ∀ K : Act → World → Prop, (∀ a w, S w → (S w → wpR l n P md ops Q S fuel (listed.setIfInBounds i true) a w) → K a w) → o.wpIn (Fence.wide.inRound l) n P a w K Q) : wpR l n P md ops Q S (fuel + 1) listed a w := by
  refine ⟨fun h0 => (by rw [hr] at h0; cases h0), fun j hj => ?_⟩
  rw [hr, List.mem_singleton] at hj
  subst hj
  unfold wpOpIn
  simp only [ho, hw, if_true]
  exact h _ (fun a w hS hW => ⟨hS, hW hS⟩)
theorem wpR_done {listed : Array Bool} {a : Act} {w : World} (hr : Region.ready md ops listed = []) (h : Q .normal a w) : ∀ fuel, wpR l n P md ops Q S fuel listed a w
  | 0 => ⟨hr, h⟩
  | _ + 1 => ⟨fun _ => h, by rw [hr]; simp⟩
theorem wpR_region (S : World → Prop) {id : Nat} {a : Act} {w : World} (hm : P.follows .mixedOrders = true) (hS : S w.drew) (h : S w.drew → wpR l n P .any ops Q S ops.size (Array.replicate ops.size false) a w.drew) : (Code.region id ops true).wpIn (Fence.wide.inRound l) n P Q a w :=
  wpIn_region_any hm (wpR_any _ _ _ _ (h hS))
end
end Go.Proofs.Ytldhhomeifjbeaa.PA
