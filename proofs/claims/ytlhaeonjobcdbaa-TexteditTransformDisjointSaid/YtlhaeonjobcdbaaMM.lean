/- The two sides of textedit.Transform: the words that say what the two variables hold, what an append to one of them leaves, and what one round computes. No walk. -/
import Derived.Test.YtlhaeonjobcdbaaCanonical
namespace Go.Proofs.Ytlhaeonjobcdbaa.PA
open Go.RowKit Go.Proofs.YtlhaeonjobcdbaaW.PrintWords Go.Proofs.YtlhaeonjobcdbaaW.PrintLast
set_option linter.unusedVariables false

/-- What a merger's block holds: its edits that are left (read), its offset, its merged bytes (its own row). -/
structure MP (w0 : World) (g1 g2 : Nat) (e1 : List S43) (o1 : Nat) (M1 : List TB) (e2 : List S43) (o2 : Nat) (M2 : List TB) (A1 : Option Addr) (c1 : Nat) (v1 : Value) (A2 : Option Addr) (c2 : Nat) (v2 : Value) (w : World) : Prop where
  bel : Below w0.heap.size w0 w
  ge : w0.heap.size ≤ g1 ∧ w0.heap.size ≤ g2 ∧ g1 ≠ g2
  b1 : w.heap[g1]? = some (.cells #[.slice A1 e1.length c1, .int .i64 o1, v1] 67 (0, 0))
  b2 : w.heap[g2]? = some (.cells #[.slice A2 e2.length c2, .int .i64 o2, v2] 67 (0, 0))
  l1 : e1.length ≤ c1
  l2 : e2.length ≤ c2
  r1 : Kd.C k43 w0 A1 e1.length e1
  r2 : Kd.C k43 w0 A2 e2.length e2
  m1 : Kd.R k71 71 w w0.heap.size (fun k => some k ≠ v2.ownBlock) v1 (M1.map encT)
  m2 : Kd.R k71 71 w w0.heap.size (fun k => some k ≠ v1.ownBlock) v2 (M2.map encT)
def MM (w0 : World) (g1 g2 : Nat) (e1 : List S43) (o1 : Nat) (M1 : List TB) (e2 : List S43) (o2 : Nat) (M2 : List TB) (w : World) : Prop := ∃ A1 c1 v1 A2 c2 v2, MP w0 g1 g2 e1 o1 M1 e2 o2 M2 A1 c1 v1 A2 c2 v2 w
section
variable {w0 w : World} {g1 g2 : Nat} {e1 e2 : List S43} {o1 o2 : Nat} {M1 M2 : List TB} {A1 A2 : Option Addr} {c1 c2 : Nat} {v1 v2 : Value}
theorem MP.swap (h : MP w0 g1 g2 e1 o1 M1 e2 o2 M2 A1 c1 v1 A2 c2 v2 w) : MP w0 g2 g1 e2 o2 M2 e1 o1 M1 A2 c2 v2 A1 c1 v1 w :=
  ⟨h.bel, ⟨h.ge.2.1, h.ge.1, Ne.symm h.ge.2.2⟩, h.b2, h.b1, h.l2, h.l1, h.r2, h.r1, h.m2, h.m1⟩
theorem MM.swap (h : MM w0 g1 g2 e1 o1 M1 e2 o2 M2 w) : MM w0 g2 g1 e2 o2 M2 e1 o1 M1 w := by
  obtain ⟨A1, c1, v1, A2, c2, v2, h⟩ := h
  exact ⟨A2, c2, v2, A1, c1, v1, h.swap⟩
theorem own_lt' {α : Type} {d : Kd α} {q : Nat} {base : Nat} {ok : Nat → Prop} {v : Value} {xs : List α} (h : Kd.R d q w base ok v xs) (k : Nat) (hk : v.ownBlock = some k) : k < w.heap.size := by
  obtain ⟨_, inner, ho, _⟩ := h
  exact own_lt ho k hk
/-- A world that is as before but for new blocks and draws. -/
theorem MP.move {w' : World} (h : MP w0 g1 g2 e1 o1 M1 e2 o2 M2 A1 c1 v1 A2 c2 v2 w) (hb : Below w.heap.size w w') (hB : Below w0.heap.size w0 w') : MP w0 g1 g2 e1 o1 M1 e2 o2 M2 A1 c1 v1 A2 c2 v2 w' :=
  ⟨hB, h.ge, (hb.block g1 (heap_lt h.b1)).trans h.b1, (hb.block g2 (heap_lt h.b2)).trans h.b2, h.l1, h.l2, h.r1, h.r2, Kd.R_below h.m1 hb, Kd.R_below h.m2 hb⟩
theorem MP.alloc (h : MP w0 g1 g2 e1 o1 M1 e2 o2 M2 A1 c1 v1 A2 c2 v2 w) (o : Obj) : MP w0 g1 g2 e1 o1 M1 e2 o2 M2 A1 c1 v1 A2 c2 v2 (w.alloc o) := h.move ((Below.refl _ _).alloc (Nat.le_refl _) o) (h.bel.alloc h.bel.size o)
theorem MP.drew (h : MP w0 g1 g2 e1 o1 M1 e2 o2 M2 A1 c1 v1 A2 c2 v2 w) : MP w0 g1 g2 e1 o1 M1 e2 o2 M2 A1 c1 v1 A2 c2 v2 w.drew := h.move ((Below.refl _ _).drew) (h.bel.drew)
theorem MP.read1 (h : MP w0 g1 g2 e1 o1 M1 e2 o2 M2 A1 c1 v1 A2 c2 v2 w) : Kd.C k43 w A1 e1.length e1 := Kd.C_below h.r1 h.bel
theorem MP.size (h : MP w0 g1 g2 e1 o1 M1 e2 o2 M2 A1 c1 v1 A2 c2 v2 w) : w0.heap.size ≤ w.heap.size := h.bel.size
theorem MP.cell1 (h : MP w0 g1 g2 e1 o1 M1 e2 o2 M2 A1 c1 v1 A2 c2 v2 w) : w.cell? ⟨g1, 0, none⟩ = some (.slice A1 e1.length c1) ∧ w.cell? ⟨g1, 1, none⟩ = some (.int .i64 o1) ∧ w.cell? ⟨g1, 2, none⟩ = some v1 :=
  ⟨(blk_cell h.b1 0).trans rfl, (blk_cell h.b1 1).trans rfl, (blk_cell h.b1 2).trans rfl⟩
theorem MP.fresh (h : MP w0 g1 g2 e1 o1 M1 e2 o2 M2 A1 c1 v1 A2 c2 v2 w) : ∀ k, w.heap.size ≤ k → some k ≠ v2.ownBlock := fun k hk e => by have := own_lt' h.m2 k e.symm; omega
theorem set_field {W : World} {g j : Nat} {cs : Array Value} {t : TypeId} (h : W.heap[g]? = some (.cells cs t (0, 0))) (u : Value) : (W.setCell ⟨g, j, none⟩ u).heap[g]? = some (.cells (cs.setIfInBounds j u) t (0, 0)) := by
  simp [World.setCell, Array.getElem?_modify, h]
/-- An append to the first one's row, and the store of it. -/
theorem MP.push {w1 : World} {v1' : Value} {x : TB} (h : MP w0 g1 g2 e1 o1 M1 e2 o2 M2 A1 c1 v1 A2 c2 v2 w) (hr : Kd.R k71 71 w1 w0.heap.size (fun k => some k ≠ v2.ownBlock) v1' (M1.map encT ++ [encT x])) (hg : w.grownBy w1 v1.ownBlock)
    (hat : v1'.ownBlock = v1.ownBlock ∨ ∃ b, v1'.ownBlock = some b ∧ w.heap.size ≤ b) :
    w1.frozen? ⟨g1, 2, none⟩ = false ∧ w1.cell? ⟨g1, 2, none⟩ = some v1 ∧ MP w0 g1 g2 e1 o1 (M1 ++ [x]) e2 o2 M2 A1 c1 v1' A2 c2 v2 (w1.setCell ⟨g1, 2, none⟩ v1') ∧ (∀ g cs t fr, w.heap[g]? = some (.cells cs t fr) → t ≠ 71 → g ≠ g1 → (w1.setCell ⟨g1, 2, none⟩ v1').heap[g]? = some (.cells cs t fr)) := by
  have k1 := keptK h.m1 h.b1 (by decide) hg
  have k2 := keptK h.m1 h.b2 (by decide) hg
  have hb : Below w0.heap.size w w1 := below_of_grown h.m1 hg h.size
  have hm2 : Kd.R k71 71 w1 w0.heap.size (fun k => some k ≠ v1'.ownBlock) v2 (M2.map encT) := by
    refine Kd.R_mono (Kd.R_grown (Kd.R_bound h.m2) hg (fun k hk => hk.1)) (fun k hk => ?_)
    rcases hat with e | ⟨b, e, hle⟩
    · rw [e]; exact hk.1
    · rw [e]
      intro hkb
      injection hkb with hkb
      have := hk.2.2.1
      omega
  have hb1 : (w1.setCell ⟨g1, 2, none⟩ v1').heap[g1]? = some (.cells #[.slice A1 e1.length c1, .int .i64 o1, v1'] 67 (0, 0)) := set_field k1 v1'
  have hr1 := Kd.R_set hr k1 (by decide) 2 v1'
  have hr2 := Kd.R_set hm2 k1 (by decide) 2 v1'
  refine ⟨blk_frozen k1 2, (blk_cell k1 2).trans rfl, ⟨(h.bel.trans hb).setCell (p := ⟨g1, 2, none⟩) h.ge.1 _, h.ge, hb1, (Below.heap_setCell w1 ⟨g1, 2, none⟩ v1' g2 (Ne.symm h.ge.2.2)).trans k2, h.l1, h.l2, h.r1, h.r2, ?_, hr2⟩, fun g cs t fr hgc ht hne => (Below.heap_setCell w1 ⟨g1, 2, none⟩ v1' g hne).trans (keptK h.m1 hgc (Ne.symm ht) hg)⟩
  have : (M1 ++ [x]).map encT = M1.map encT ++ [encT x] := by rw [List.map_append]; rfl
  rw [this]
  exact hr1
/-- The offset of the first one is counted up. -/
theorem MP.count (h : MP w0 g1 g2 e1 o1 M1 e2 o2 M2 A1 c1 v1 A2 c2 v2 w) : w.frozen? ⟨g1, 1, none⟩ = false ∧ MP w0 g1 g2 e1 (o1 + 1) M1 e2 o2 M2 A1 c1 v1 A2 c2 v2 (w.setCell ⟨g1, 1, none⟩ (.int .i64 ((o1 : Int) + 1))) ∧ (∀ g o, w.heap[g]? = some o → g ≠ g1 → (w.setCell ⟨g1, 1, none⟩ (.int .i64 ((o1 : Int) + 1))).heap[g]? = some o) := by
  have hb1 : (w.setCell ⟨g1, 1, none⟩ (.int .i64 ((o1 : Int) + 1))).heap[g1]? = some (.cells #[.slice A1 e1.length c1, .int .i64 ((o1 : Int) + 1), v1] 67 (0, 0)) := set_field h.b1 _
  refine ⟨blk_frozen h.b1 1, ⟨h.bel.setCell (p := ⟨g1, 1, none⟩) h.ge.1 _, h.ge, hb1, (Below.heap_setCell w ⟨g1, 1, none⟩ _ g2 (Ne.symm h.ge.2.2)).trans h.b2, h.l1, h.l2, h.r1, h.r2, Kd.R_set h.m1 h.b1 (by decide) 1 _, Kd.R_set h.m2 h.b1 (by decide) 1 _⟩, fun g o hgc hne => (Below.heap_setCell w ⟨g1, 1, none⟩ _ g hne).trans hgc⟩
/-- The first edit of the first one is dropped. -/
theorem MP.pop {e : S43} {A' : Option Addr} {c' : Nat} (h : MP w0 g1 g2 (e :: e1) o1 M1 e2 o2 M2 A1 c1 v1 A2 c2 v2 w) (hC : Kd.C k43 w0 A' e1.length e1) (hc : e1.length ≤ c') :
    w.frozen? ⟨g1, 0, none⟩ = false ∧ MP w0 g1 g2 e1 o1 M1 e2 o2 M2 A' c' v1 A2 c2 v2 (w.setCell ⟨g1, 0, none⟩ (.slice A' e1.length c')) := by
  have hb1 : (w.setCell ⟨g1, 0, none⟩ (.slice A' e1.length c')).heap[g1]? = some (.cells #[.slice A' e1.length c', .int .i64 o1, v1] 67 (0, 0)) := set_field h.b1 _
  exact ⟨blk_frozen h.b1 0, ⟨h.bel.setCell (p := ⟨g1, 0, none⟩) h.ge.1 _, h.ge, hb1, (Below.heap_setCell w ⟨g1, 0, none⟩ _ g2 (Ne.symm h.ge.2.2)).trans h.b2, hc, h.l2, hC, h.r2, Kd.R_set h.m1 h.b1 (by decide) 0 _, Kd.R_set h.m2 h.b1 (by decide) 0 _⟩⟩
end

/-! ### what a round computes -/
/-- the text that the edits insert at i -/
def insText (i : Int) : List S43 → List UInt8
  | [] => []
  | e :: _ => if e.f0 = i then bs e.f2 else []
/-- the edits that do not end before i -/
def popE (i : Int) : List S43 → List S43
  | [] => []
  | e :: es => if e.f1 ≤ i then popE i es else e :: es
def delHead (i : Int) : List S43 → Bool
  | [] => false
  | e :: _ => decide (e.f0 ≤ i)
theorem traceFrom_snoc : ∀ (l : List UInt8) (i : Nat) (b : UInt8), traceFrom i (l ++ [b]) = traceFrom i l ++ [(b, ((i + l.length : Nat) : Int))]
  | [], i, b => rfl
  | a :: r, i, b => by
    simp only [List.cons_append, traceFrom, List.length_cons]
    rw [traceFrom_snoc r (i + 1) b, show i + 1 + r.length = i + (r.length + 1) from by omega]
end Go.Proofs.Ytlhaeonjobcdbaa.PA
