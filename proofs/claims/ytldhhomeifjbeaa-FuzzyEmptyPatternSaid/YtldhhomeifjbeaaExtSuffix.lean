/- fuzzy.suffixScores: what it answers, walked. Conditions: both strings of at most 30 bytes. -/
import Derived.Test.YtldhhomeifjbeaaSuffixP
import Derived.Test.YtldhhomeifjbeaaBackward
import Derived.Test.YtldhhomeifjbeaaRound
namespace Go.Proofs.Ytldhhomeifjbeaa.PA
open Go.RowKit Go.Shelf Go.Proofs.YtldhhomeifjbeaaW.PrintWords Go.Proofs.YtldhhomeifjbeaaW.PrintLast
set_option linter.unusedVariables false
set_option linter.unusedSimpArgs false
attribute [local go_sem] Oper.semAt_some

theorem wpListIn_make_raw {F : Fence} {n' : Nat} {P : Program} (w : World) {ops : Array Oper} {rest : List Oper} {o : Oper} {a : Act} {Q : Exit → Act → World → Prop}
    (hg : o.guard = none) (l c : Operand) (t : TypeId) (hop : o.op = Op.makeSlice t l c) (e : TypeId) (z : Value) (bytes : Nat) (h1 : P.underlying t = some (.slice e)) (hinfo : (P.info? e).map (fun i => (i.zero, i.size, i.bytes)) = some (some z, 1, bytes)) (hz : z.cells = #[z])
    (n : Nat) (hl : a.eval l = .int .i64 (n : Int)) (hc : a.eval c = .int .i64 (n : Int)) (b1 : n ≤ 1000) (b2 : bytes ≤ 1000) (B : Nat) (w0 : World) (hb : Below B w0 w) (hBw : B ≤ w.heap.size)
    (hK : ∀ w', w'.heap[w.heap.size]? = some (.cells (Array.replicate n z) e (0, 0)) → Below w.heap.size w w' → Below B w0 w' → w'.heap.size = w.heap.size + 1 → wpListIn F n' P ops Q rest (a.put o.dst (.slice (some ⟨w.heap.size, 0, none⟩) n n)) w') :
    wpListIn F n' P ops Q (o :: rest) a w := by
  refine wpListIn_plain hg fun K hK' => ?_
  obtain ⟨i, hi, hz0, hz1, hz2⟩ := info_parts hinfo
  have hbm : (i.bytes : Int) * (n : Int) ≤ 281474976710656 := by
    rw [hz2]
    have : bytes * n ≤ 1000 * 1000 := Nat.mul_le_mul b2 b1
    have h : ((bytes * n : Nat) : Int) ≤ 281474976710656 := by omega
    rwa [Int.natCast_mul] at h
  have hr := run_make (P := P) w t e i z h1 hi hz0 .i64 .i64 n n (by omega) (by omega) hbm (by omega)
  rw [hz1, Nat.mul_one, Int.toNat_natCast, made_one z hz] at hr
  unfold Oper.wpIn
  refine ⟨?_, ?_⟩
  · simp [Oper.about, hop, resolve, Target.leads, Sem.run_pure]
  · rw [Oper.semAt_plain F _ _ (by rw [hop]; intro c hc'; cases hc')]
    simp [execOp, hop, hl, hc, hr, Result.andThen]
    exact hK' _ _ (hK _ (heap_alloc_new w (.cells (Array.replicate n z) e)) ((Below.refl _ _).alloc (Nat.le_refl _) _) (hb.alloc hBw _) (Array.size_push ..))

theorem size_alloc1 (W : World) (o : Obj) : (W.alloc o).heap.size = W.heap.size + 1 := Array.size_push ..
/-- What is known between two rounds. -/
structure Inv (p n : ByteArray) (w : World) (pre : List (Ixv p.size)) (W : World) : Prop where
  ts : ∃ f cs, TS w.heap.size (w.heap.size + 1 + 1) n.size (runP p n (pre.map (fun x => x.1.1))) f cs W
  c2 : W.cell? ⟨w.heap.size, 0, none⟩ = some (.string p)
  c3 : W.cell? ⟨w.heap.size + 1, 0, none⟩ = some (.string n)
  c5 : W.cell? ⟨w.heap.size + 1 + 1 + 1, 0, none⟩ = some (.slice (some ⟨w.heap.size + 1 + 1, 0, none⟩) p.size p.size)
  bs : W.cell? ⟨w.heap.size + 1 + 1 + 1 + 1, 0, none⟩ = some (.slice (some ⟨w.heap.size + 1 + 1, 0, none⟩) p.size p.size)
  bel : Below w.heap.size w W
theorem inv_own (p n : ByteArray) (w : World) {B : Nat} (hB : w.heap.size ≤ B) : OwnFrom B (Inv p n w) := by
  intro s W W' row h hg hr
  have hk : ∀ (b : Nat) (c : Array Value) (t : TypeId), W.heap[b]? = some (.cells c t (0, 0)) → W'.heap[b]? = some (.cells c t (0, 0)) := by
    intro b c t hb
    rw [hg.5 b (hp_lt hb) (fun e => ?_)]
    · exact hb
    · obtain ⟨_, o, ho, hno⟩ := hr b e.symm
      rw [hb] at ho
      injection ho with ho
      subst ho
      cases hno
  have hc : ∀ q v, W.cell? q = some v → W'.cell? q = some v := fun q v hq => cell_kept hq hg (fun r e => (hr r e).2)
  obtain ⟨f, cs, hts⟩ := h.ts
  exact ⟨⟨f, cs, hts.move hk⟩, hc _ _ h.c2, hc _ _ h.c3, hc _ _ h.c5, hc _ _ h.bs, ownFrom_below (Nat.le_refl _) hB s W W' row h.bel hg hr⟩
structure Start (p n : ByteArray) (w W0 : World) : Prop where
  size : W0.heap.size = w.heap.size + 5
  bs : W0.cell? ⟨w.heap.size + 1 + 1 + 1 + 1, 0, none⟩ = some (.slice (some ⟨w.heap.size + 1 + 1, 0, none⟩) p.size p.size)
  cells : ∀ i, i < p.size → ∃ v, W0.cell? ⟨w.heap.size + 1 + 1, i, none⟩ = some v
  inv : Inv p n w [] W0
theorem start_facts {p n : ByteArray} {w w2 W0 : World} (hg : w2.heap[w.heap.size + 1 + 1]? = some (.cells (Array.replicate p.size (.slice none 0 0)) 22 (0, 0)))
    (hb : Below ((w.alloc (.cells #[.string p] 9)).alloc (.cells #[.string n] 9)).heap.size ((w.alloc (.cells #[.string p] 9)).alloc (.cells #[.string n] 9)) w2) (hB : Below w.heap.size w w2) (hs : w2.heap.size = w.heap.size + 1 + 1 + 1)
    (hW : (w2.alloc (.cells #[.slice (some ⟨w.heap.size + 1 + 1, 0, none⟩) p.size p.size] 37)).alloc (.cells #[.slice (some ⟨w.heap.size + 1 + 1, 0, none⟩) p.size p.size] 37) = W0) : Start p n w W0 := by
  have hsz : ((w.alloc (.cells #[.string p] 9)).alloc (.cells #[.string n] 9)).heap.size = w.heap.size + 1 + 1 := by rw [size_alloc1, size_alloc1]
  have k1 : ((w.alloc (.cells #[.string p] 9)).alloc (.cells #[.string n] 9)).heap[w.heap.size]? = some (.cells #[.string p] 9 (0, 0)) := ((Below.refl _ _).alloc (Nat.le_refl _) _ |>.block _ (by rw [size_alloc1]; omega)).trans (heap_alloc_new w _)
  have k2 : ((w.alloc (.cells #[.string p] 9)).alloc (.cells #[.string n] 9)).heap[w.heap.size + 1]? = some (.cells #[.string n] 9 (0, 0)) := by
    have := heap_alloc_new (w.alloc (.cells #[.string p] 9)) (.cells #[.string n] 9)
    rwa [show (w.alloc (.cells #[.string p] 9)).heap.size = w.heap.size + 1 from Array.size_push ..] at this
  have j1 := (hb.block _ (hp_lt k1)).trans k1
  have j2 := (hb.block _ (hp_lt k2)).trans k2
  have hb0 : Below w2.heap.size w2 W0 := by
    rw [← hW]
    exact ((Below.refl _ _).alloc (Nat.le_refl _) _).alloc (by rw [size_alloc1]; omega) _
  have i1 := (hb0.block _ (hp_lt j1)).trans j1
  have i2 := (hb0.block _ (hp_lt j2)).trans j2
  have ig := (hb0.block _ (hp_lt hg)).trans hg
  have m5 : W0.heap[w.heap.size + 1 + 1 + 1]? = some (.cells #[.slice (some ⟨w.heap.size + 1 + 1, 0, none⟩) p.size p.size] 37 (0, 0)) := by
    have := heap_alloc_new w2 (.cells #[.slice (some ⟨w.heap.size + 1 + 1, 0, none⟩) p.size p.size] 37)
    rw [hs] at this
    rw [← hW]
    exact ((Below.refl _ _).alloc (Nat.le_refl _) _ |>.block _ (hp_lt this)).trans this
  have mb : W0.heap[w.heap.size + 1 + 1 + 1 + 1]? = some (.cells #[.slice (some ⟨w.heap.size + 1 + 1, 0, none⟩) p.size p.size] 37 (0, 0)) := by
    have := heap_alloc_new (w2.alloc (.cells #[.slice (some ⟨w.heap.size + 1 + 1, 0, none⟩) p.size p.size] 37)) (.cells #[.slice (some ⟨w.heap.size + 1 + 1, 0, none⟩) p.size p.size] 37)
    rw [show (w2.alloc (.cells #[.slice (some ⟨w.heap.size + 1 + 1, 0, none⟩) p.size p.size] 37)).heap.size = w2.heap.size + 1 from Array.size_push .., hs] at this
    rw [← hW]
    exact this
  have hsW : W0.heap.size = w.heap.size + 5 := by rw [← hW, size_alloc1, size_alloc1, hs]
  refine ⟨hsW, (blk_cell mb 0).trans rfl, fun i hi => ⟨.slice none 0 0, (blk_cell ig i).trans (by simp [hi])⟩, ⟨⟨_, _, TS.new (by omega) ig⟩, (blk_cell i1 0).trans rfl, (blk_cell i2 0).trans rfl, (blk_cell m5 0).trans rfl, (blk_cell mb 0).trans rfl, hB.trans (hb0.mono hB.size)⟩⟩


theorem put_def {W : World} {D b : Nat} {c : Array Value} {t : TypeId} {x : Option (List Deferred)} {o' : Obj} (hK : W.heap[D]? = some (.deferred x)) (hb : W.heap[b]? = some (.cells c t (0, 0))) : (W.putObj D o').heap[b]? = some (.cells c t (0, 0)) := by
  rw [World.putObj_heap_other]
  · exact hb
  · rintro rfl
    rw [hK] at hb
    cases hb

theorem below_drewN1 (W : World) (d : Nat) : Below W.heap.size W (W.drew.drewN d) := pw_below_drewN (below_drew1 (Below.refl _ _)) d
/-- What is known between two offsets of a round. -/
structure Mid (p n : ByteArray) (w W : World) (T : List (List Int)) (i g : Nat) (cs : List Value) (f : Nat → Nat) (k : Nat) (X : World) : Prop where
  ts : TS w.heap.size (w.heap.size + 1 + 1) n.size (T.set i (rowK p n T i k)) f cs X
  c2 : X.cell? ⟨w.heap.size, 0, none⟩ = some (.string p)
  c3 : X.cell? ⟨w.heap.size + 1, 0, none⟩ = some (.string n)
  c5 : X.cell? ⟨w.heap.size + 1 + 1 + 1, 0, none⟩ = some (.slice (some ⟨w.heap.size + 1 + 1, 0, none⟩) p.size p.size)
  bs : X.cell? ⟨w.heap.size + 1 + 1 + 1 + 1, 0, none⟩ = some (.slice (some ⟨w.heap.size + 1 + 1, 0, none⟩) p.size p.size)
  bel : Below w.heap.size w X
  ko : KeepsOthers W X
theorem cell_far {X : World} {q r : Addr} {u v : Value} (hq : X.cell? q = some u) (h : q.block ≠ r.block) : (X.setCell r v).cell? q = some u := (World.cell?_setCell_far X r q v (Ne.symm h)).trans hq
section
variable {p n : ByteArray} {w W X : World} {T : List (List Int)} {i g : Nat} {cs : List Value} {f : Nat → Nat} {k : Nat}
theorem Mid.below (h : Mid p n w W T i g cs f k X) {X' : World} (hb : Below X.heap.size X X') : Mid p n w W T i g cs f k X' :=
  have hc : ∀ q v, X.cell? q = some v → X'.cell? q = some v := fun q v hq => (hb.cell (World.block_lt_of_cell? X q hq)).trans hq
  ⟨h.ts.below hb, hc _ _ h.c2, hc _ _ h.c3, hc _ _ h.c5, hc _ _ h.bs, h.bel.trans (hb.mono h.bel.size), h.ko.trans (keeps_below hb)⟩
theorem Mid.skip (h : Mid p n w W T i g cs f k X) (hs : cellP p n T i k = -1) : Mid p n w W T i g cs f (k + 1) X := by
  have := h.ts
  rw [← rowK_skip p n T i k hs] at this
  exact ⟨this, h.c2, h.c3, h.c5, h.bs, h.bel, h.ko⟩
/-- The row's block is none of the variables' boxes. -/
theorem Mid.write (h : Mid p n w W T i g cs f k X) (hi : i < T.length) (hcg : cs[i]? = some (.slice (some ⟨g, 0, none⟩) n.size n.size)) (hk : k < n.size) :
    X.frozen? ⟨g, k, none⟩ = false ∧ (∃ v, X.cell? ⟨g, k, none⟩ = some v) ∧ Mid p n w W T i g cs f (k + 1) (X.setCell ⟨g, k, none⟩ (.int .i64 (cellP p n T i k))) := by
  have hts := h.ts
  have hrow := hts.row i (by rw [List.length_set]; exact hi)
  have hg : X.heap[g]? = some (.cells (intV (rowK p n T i k)) 3 (0, 0)) := by
    rcases hrow with ⟨h1, _⟩ | ⟨b, h1, h2, h3, h4, h5⟩
    · rw [hcg] at h1
      cases h1
    · rw [hcg] at h1
      simp only [Option.some.injEq, Value.slice.injEq, Addr.mk.injEq, and_true] at h1
      rw [h1, h5, set_self hi]
  obtain ⟨w1, w2, w3, w4⟩ := hts.write i g k (by rw [List.length_set]; exact hi) hcg (cellP p n T i k) hk
  have far : ∀ (b : Nat) (v : Value), X.cell? ⟨b, 0, none⟩ = some v → (∀ z, v ≠ .int .i64 z) → b ≠ g := by
    rintro b v hb hv rfl
    rw [blk_cell hg 0] at hb
    unfold intV at hb
    rw [List.getElem?_toArray, List.getElem?_map, Option.map_eq_some_iff] at hb
    obtain ⟨z, _, hz⟩ := hb
    exact hv z hz.symm
  have e1 : (T.set i (rowK p n T i k)).getD i [] = rowK p n T i k := set_self hi _
  rw [e1, List.set_set, ← rowK_succ] at w4
  refine ⟨w1, w2, w4, cell_far h.c2 (far _ _ h.c2 (fun z e => by cases e)), cell_far h.c3 (far _ _ h.c3 (fun z e => by cases e)), cell_far h.c5 (far _ _ h.c5 (fun z e => by cases e)), cell_far h.bs (far _ _ h.bs (fun z e => by cases e)), ?_, h.ko.trans (KeepsOthers.setCell _ _ _)⟩
  exact h.bel.setCell (p := ⟨g, k, none⟩) w3 _
theorem Mid.start {fp : Nat → Nat} {csp : List Value} {w3 : World} {pre : List (Ixv p.size)} (hI : Inv p n w pre W) (hT : T = runP p n (pre.map (fun x => x.1.1))) (hts : TS w.heap.size (w.heap.size + 1 + 1) n.size T fp csp W) (hi : i < T.length) (hb : Below W.heap.size W w3) (hg1 : W.heap.size ≤ g) (hg2 : w3.heap[g]? = some (.cells (Array.replicate n.size (.int .i64 (-1))) 3 (0, 0))) :
    Mid p n w W T i g (csp.set i (.slice (some ⟨g, 0, none⟩) n.size n.size)) (fun b => if b = g then i else fp b) 0 (w3.setCell ⟨w.heap.size + 1 + 1, i, none⟩ (.slice (some ⟨g, 0, none⟩) n.size n.size)) := by
  have hc : ∀ q v, W.cell? q = some v → w3.cell? q = some v := fun q v hq => (hb.cell (World.block_lt_of_cell? W q hq)).trans hq
  have hbT := hp_lt hts.tab
  refine ⟨?_, cell_far (hc _ _ hI.c2) (by dsimp only; omega), cell_far (hc _ _ hI.c3) (by dsimp only; omega), cell_far (hc _ _ hI.c5) (by dsimp only; omega), cell_far (hc _ _ hI.bs) (by dsimp only; omega), ?_, (keeps_below hb).trans (KeepsOthers.setCell _ _ _)⟩
  · rw [rowK_zero]
    refine (hts.below hb).put i g hi (List.replicate n.size (-1)) (by simp) (by have := hI.bel.size; omega) ?_ ?_
    · rw [hg2]
      unfold intV
      simp
    · rintro j hj b hcb rfl
      rcases hts.row j hj with ⟨h1, _⟩ | ⟨b', h1, h2, h3, h4, h5⟩
      · rw [hcb] at h1
        cases h1
      · rw [hcb] at h1
        simp only [Option.some.injEq, Value.slice.injEq, Addr.mk.injEq, and_true] at h1
        have := hp_lt h5
        omega
  · exact (hI.bel.trans (hb.mono hI.bel.size)).setCell (p := ⟨w.heap.size + 1 + 1, i, none⟩) (by simp only; omega) _
end

set_option maxHeartbeats 8000000 in
set_option maxRecDepth 100000 in
theorem suffix_walk (p n : ByteArray) (hp : p.size ≤ 30) (hn : n.size ≤ 30) (w : World) :
    Calls Try.prog 14 #[.string p, .string n] w fun e w' => ∃ bT f cs, e = .returned (.slice (some ⟨bT, 0, none⟩) p.size p.size) ∧ TS w.heap.size bT n.size (runP p n (dn p.size p.size)) f cs w' ∧ Below w.heap.size w w' := by
  refine (callsIn_wide (n := 9)).1 ?_
  refine callsIn_of_wp_marks Try.func14 rfl trivial ?_ rfl
  simp only [Try.ntmps14, List.size_toArray, List.length_cons, List.length_nil, Nat.reduceAdd, Nat.reduceSub, Array.replicate_succ, Array.replicate_zero, List.push_toArray, List.append_toArray, List.nil_append, List.cons_append]
  have HB0 := Aside0.mk (Below.refl w.heap.size w)
  have hps : (p.size : Int) ≤ 30 := by omega
  gi_wp2_with (first | (refine wpListIn_make_raw _ rfl _ _ 37 rfl 22 (.slice none 0 0) 24 Try.underlying37 infoR rfl p.size rfl rfl (by omega) (by omega) w.heap.size w (by repeat (first | exact HB0.out | apply below_alloc | apply pw_below_drewN | apply below_drew1)) (by simp; try omega) ?_; intro w2 hg2 hb2 hB2 hs2; simp only [size_alloc1] at hg2 hs2; have HW := Aside0.mk (And.intro hg2 (And.intro hb2 (And.intro hB2 hs2))); clear hg2 hb2 hB2 hs2) | (refine ⟨trivial, ?_⟩; gi_at_call 22; refine (backward_in _ _ trivial rfl _ _ _ _).mono ?_; rintro e w3 ⟨rfl, rfl⟩))
  obtain ⟨W0, hW0⟩ : ∃ W0, (w2.alloc (.cells #[.slice (some ⟨w.heap.size + 1 + 1, 0, none⟩) p.size p.size] 37)).alloc (.cells #[.slice (some ⟨w.heap.size + 1 + 1, 0, none⟩) p.size p.size] 37) = W0 := ⟨_, rfl⟩
  have HS := Aside0.mk (start_facts HW.out.1 HW.out.2.1 HW.out.2.2.1 HW.out.2.2.2 hW0)
  rw [hW0, HW.out.2.2.2]
  clear hW0 HW
  refine wpIn_rangeFunc_ownF rfl (by omega) (gf := 29) (lb := #[.pointer (some ⟨w.heap.size + 1 + 1 + 1 + 1, 0, none⟩)]) rfl trivial (enters_of Try.func29 (by kernel_rfl) rfl)
    (backward_stops Fence.wide 8 trivial rfl (by omega) (w.heap.size + 1 + 1 + 1 + 1) (w.heap.size + 1 + 1) p.size p.size (by omega) W0 (by rw [HS.out.size]; omega) (by rw [HS.out.size]; omega) HS.out.bs HS.out.cells) Bk.trans (fun W l o o' hl _ _ _ => Bk.put W l o' (by rw [HS.out.size] at hl; omega) (by rw [HS.out.size] at hl; omega)) (Below.refl _ _) (fun _ => rfl)
    (Inv p n w) (fun _ _ _ => False) (inv_own p n w (by rw [HS.out.size]; omega)) (fun _ _ _ _ _ hs _ _ => hs) HS.out.inv
    (fun x => { tmps := #[.string p, .string n, .pointer (some ⟨w.heap.size, 0, none⟩), .pointer (some ⟨w.heap.size + 1, 0, none⟩), .slice none 0 0, .pointer (some ⟨w.heap.size + 1 + 1 + 1, 0, none⟩), .int .i64 (x.1.1 : Int), undef, undef, .string p, .int .i64 p.size, .slice (some ⟨w.heap.size + 1 + 1, 0, none⟩) p.size p.size, .slice (some ⟨w.heap.size + 1 + 1, 0, none⟩) p.size p.size, .func (.func 29) #[] #[.pointer (some ⟨w.heap.size + 1 + 1 + 1 + 1, 0, none⟩)], .int .i64 (x.1.1 : Int), x.1.2, undef, undef, undef, undef, undef, undef, undef, undef, undef, undef, undef, undef, undef, undef, undef, undef, undef, undef, undef, undef, undef, undef, undef, undef, undef, undef, undef, undef, undef, undef, undef, undef, undef, undef, undef, undef, undef, undef, undef, undef, undef, undef, undef, undef, undef, undef, undef, undef, undef, undef, undef, undef, undef], defers := [] }) ?assign ?body ?done ?stop
  case assign =>
    intro l x W K hK
    gi_wp2
    exact hK
  case body =>
    rintro l pre ⟨⟨i, v⟩, hi⟩ W hI hlen
    dsimp only at hi ⊢
    obtain ⟨f, cs, hts⟩ := hI.ts
    have hrl := (run_bound p n (pre.map (fun x => x.1.1))).2
    have hc2 := hI.c2
    have hc3 := hI.c3
    have hc5 := hI.c5
    have HI := Aside0.mk hI
    have HTS := Aside0.mk hts
    clear hts hI HS HB0
    gi_wp2_with fail
    refine wpR_region (fun W' => W'.cell? ⟨w.heap.size + 1, 0, none⟩ = some (.string n) ∧ W'.cell? ⟨w.heap.size + 1 + 1 + 1, 0, none⟩ = some (.slice (some ⟨w.heap.size + 1 + 1, 0, none⟩) p.size p.size)) (by kernel_rfl) ⟨hc3, hc5⟩ (fun hS => ?_)
    refine wpR_take (i := 0) (v := .slice (some ⟨w.heap.size + 1 + 1, 0, none⟩) p.size p.size) rfl (by kernel_rfl) (by kernel_rfl) (by kernel_rfl) (by kernel_rfl) (fun _ _ _ h => h) (by rfl) (by rintro w' ⟨h3, h5⟩; go_simp) hS ?_
    simp only [Act.put, List.setIfInBounds_toArray, List.set_cons_zero, List.set_cons_succ]
    refine wpR_take (i := 1) (v := .int .i64 (i : Int)) rfl (by kernel_rfl) (by kernel_rfl) (by kernel_rfl) (by kernel_rfl) (fun _ _ _ h => h) (by rfl) (by rintro w' ⟨h3, h5⟩; go_simp) hS ?_
    simp only [Act.put, List.setIfInBounds_toArray, List.set_cons_zero, List.set_cons_succ]
    refine wpR_take (i := 3) (v := .string n) rfl (by kernel_rfl) (by kernel_rfl) (by kernel_rfl) (by kernel_rfl) (fun _ _ _ h => h) (by rfl) (by rintro w' ⟨h3, h5⟩; go_simp) hS ?_
    simp only [Act.put, List.setIfInBounds_toArray, List.set_cons_zero, List.set_cons_succ]
    refine wpR_take (i := 4) (v := .int .i64 (n.size : Int)) rfl (by kernel_rfl) (by kernel_rfl) (by kernel_rfl) (by kernel_rfl) (fun _ _ _ h => h) (by rfl) (by rintro w' ⟨h3, h5⟩; go_simp) hS ?_
    simp only [Act.put, List.setIfInBounds_toArray, List.set_cons_zero, List.set_cons_succ]
    refine wpR_one (i := 2) (by kernel_rfl) rfl (by rfl) (fun K hK => ?_)
    go_simp
    refine hK _ _ ⟨(World.cell?_alloc_some W ⟨w.heap.size + 1, 0, none⟩ _ (by rw [hc3]; rfl)).trans hc3, (World.cell?_alloc_some W ⟨w.heap.size + 1 + 1 + 1, 0, none⟩ _ (by rw [hc5]; rfl)).trans hc5⟩ (fun hS => ?_)
    clear hK
    try simp only [Act.put, List.setIfInBounds_toArray, List.set_cons_zero, List.set_cons_succ]
    have hcm : (W.alloc (Obj.cells #[Value.int IntKind.i64 (-1)] 3)).drew.cell? ⟨W.heap.size, 0, none⟩ = some (.int .i64 (-1)) := (blk_cell (heap_alloc_new W _) 0).trans rfl
    refine wpR_one (i := 5) (by kernel_rfl) rfl (by rfl) (fun K hK => ?_)
    gi_wp2_with ((refine ⟨trivial, ?_⟩; gi_at_call 23; refine (CallsIn.inRound l (callsIn_wide.2 (repeat_calls n.size hn ⟨W.heap.size, 0, none⟩ _ hcm))).mono ?_; rintro e w3 ⟨g, rfl, hg1, hg2, hg3⟩))
    have hW3 : Below W.heap.size W w3 := ((Below.refl W.heap.size W).alloc (Nat.le_refl _) _).drew.trans (hg3.mono (by show W.heap.size ≤ (W.alloc _).heap.size; rw [size_alloc1]; omega))
    have hts3 := HTS.out.below hW3
    have hlt3 := hW3.size
    have hit : i < cs.length := by rw [HTS.out.len, hrl]; exact hi
    have hci : w3.cell? ⟨w.heap.size + 1 + 1, i, none⟩ = some cs[i] := (hts3.cell i (by rw [hrl]; exact hi)).trans (List.getElem?_eq_getElem hit)
    have hfi : w3.frozen? ⟨w.heap.size + 1 + 1, i, none⟩ = false := blk_frozen hts3.tab i
    have hi1 : (0 : Int) ≤ (i : Int) := by omega
    have hi2 : (i : Int) < (p.size : Int) := by omega
    refine hK _ _ ⟨hW3.cell (p := ⟨w.heap.size + 1, 0, none⟩) (World.block_lt_of_cell? W _ hc3) |>.trans hc3, hW3.cell (p := ⟨w.heap.size + 1 + 1 + 1, 0, none⟩) (World.block_lt_of_cell? W _ hc5) |>.trans hc5⟩ (fun hS => ?_)
    clear hK
    refine wpR_one (i := 6) (by kernel_rfl) rfl (by rfl) (fun K hK => ?_)
    go_simp
    refine hK _ _ hS (fun hS => ?_)
    clear hK
    try simp only [Act.put, List.setIfInBounds_toArray, List.set_cons_zero, List.set_cons_succ]
    refine wpR_one (i := 7) (by kernel_rfl) rfl (by rfl) (fun K hK => ?_)
    go_simp
    have HM := Aside0.mk (Mid.start HI.out rfl HTS.out (by rw [hrl]; exact hi) hW3 (by have h1 : W.heap.size ≤ (W.alloc (Obj.cells #[Value.int IntKind.i64 (-1)] 3)).heap.size := by { rw [size_alloc1]; omega }; exact Nat.le_trans h1 hg1) hg2)
    refine hK _ _ ⟨HM.out.c3, HM.out.c5⟩ (fun hS => ?_)
    refine wpR_done (by kernel_rfl) ?_ _
    try simp only [Act.put, List.setIfInBounds_toArray, List.set_cons_zero, List.set_cons_succ]
    have HG := Aside0.mk (show (cs.set i (Value.slice (some ⟨g, 0, none⟩) n.size n.size))[i]? = some (.slice (some ⟨g, 0, none⟩) n.size n.size) by rw [List.getElem?_set_self hit])
    clear hK K hS hci hfi hts3 hW3 hcm hg1 hg2 hg3 hc2 hc3 hc5 HTS hlt3
    generalize hX : w3.setCell ⟨w.heap.size + 1 + 1, i, none⟩ (.slice (some ⟨g, 0, none⟩) n.size n.size) = X at HM ⊢
    have hc3 := HM.out.c3
    gi_wp2_with fail
    gi_loopw [25] (fun z wr => ∃ k : Nat, k ≤ n.size ∧ z = .int .i64 (k : Int) ∧ Aside0 (Mid p n w W (runP p n (List.map (fun x => x.val.fst) pre)) i g (cs.set i (Value.slice (some ⟨g, 0, none⟩) n.size n.size)) (fun b => if b = g then i else f b) k wr)) (fun z _ => n.size - (intOf z).toNat)
    case atStart => exact ⟨0, Nat.zero_le _, rfl, HM⟩
    case round =>
      obtain ⟨k, hk, rfl, HK⟩ := hrel
      clear HM hc3
      by_cases hlt : k < n.size
      · have hki : (k : Int) < (n.size : Int) := by omega
        have hki0 : (0 : Int) ≤ (k : Int) := by omega
        have hc2 := HK.out.c2
        have hc3 := HK.out.c3
        have hc5 := HK.out.c5
        gi_wp2_with fail
        have hx1 : ((p[i]'hi).toNat : Int) = bt p (i : Int) := bt_at p (i : Int) hi
        have hx2 : ((n[k]'hlt).toNat : Int) = bt n (k : Int) := bt_at n (k : Int) hlt
        have hi1' : (0 : Int) ≤ (i : Int) := by omega
        have hi2' : (i : Int) < (p.size : Int) := by omega
        refine wpR_region (fun W' => W'.cell? ⟨w.heap.size, 0, none⟩ = some (.string p) ∧ W'.cell? ⟨w.heap.size + 1, 0, none⟩ = some (.string n)) (by kernel_rfl) ⟨hc2, hc3⟩ (fun hS => ?_)
        refine wpR_take (i := 0) (v := .string p) rfl (by kernel_rfl) (by kernel_rfl) (by kernel_rfl) (by kernel_rfl) (fun _ _ _ h => h) (by rfl) (by rintro w' ⟨h2, h3⟩; go_simp) hS ?_
        simp only [Act.put, List.setIfInBounds_toArray, List.set_cons_zero, List.set_cons_succ]
        refine wpR_take (i := 1) (v := .int .i64 (i : Int)) rfl (by kernel_rfl) (by kernel_rfl) (by kernel_rfl) (by kernel_rfl) (fun _ _ _ h => h) (by rfl) (by rintro w' ⟨h2, h3⟩; go_simp) hS ?_
        simp only [Act.put, List.setIfInBounds_toArray, List.set_cons_zero, List.set_cons_succ]
        refine wpR_take (i := 2) (v := .int .u8 (bt p (i : Int))) rfl (by kernel_rfl) (by kernel_rfl) (by kernel_rfl) (by kernel_rfl) (fun _ _ _ h => h) (by rfl) (by rintro w' ⟨h2, h3⟩; go_simp) hS ?_
        simp only [Act.put, List.setIfInBounds_toArray, List.set_cons_zero, List.set_cons_succ]
        refine wpR_take (i := 3) (v := .string n) rfl (by kernel_rfl) (by kernel_rfl) (by kernel_rfl) (by kernel_rfl) (fun _ _ _ h => h) (by rfl) (by rintro w' ⟨h2, h3⟩; go_simp) hS ?_
        simp only [Act.put, List.setIfInBounds_toArray, List.set_cons_zero, List.set_cons_succ]
        refine wpR_take (i := 4) (v := .int .i64 (k : Int)) rfl (by kernel_rfl) (by kernel_rfl) (by kernel_rfl) (by kernel_rfl) (fun _ _ _ h => h) (by rfl) (by rintro w' ⟨h2, h3⟩; go_simp) hS ?_
        simp only [Act.put, List.setIfInBounds_toArray, List.set_cons_zero, List.set_cons_succ]
        refine wpR_take (i := 5) (v := .int .u8 (bt n (k : Int))) rfl (by kernel_rfl) (by kernel_rfl) (by kernel_rfl) (by kernel_rfl) (fun _ _ _ h => h) (by rfl) (by rintro w' ⟨h2, h3⟩; go_simp) hS ?_
        simp only [Act.put, List.setIfInBounds_toArray, List.set_cons_zero, List.set_cons_succ]
        refine wpR_one (i := 6) (by kernel_rfl) rfl (by rfl) (fun K hK => ?_)
        gi_wp2_with ((refine ⟨trivial, ?_⟩; gi_at_call 13; refine (CallsIn.inRound l (callsIn_wide.2 (PFuzzyScoreOptimal.fuzzy_EqualFold.calls (bt p (i : Int)) (bt n (k : Int)) _ _ (fold_eq _ _)))).mono ?_; rintro e w4 ⟨rfl, hd4⟩))
        have hb4 : Below wr.heap.size wr w4 := by
          obtain ⟨⟨d, rfl⟩⟩ := hd4
          exact below_drewN1 wr d
        have HK4 := Aside0.mk (HK.out.below hb4)
        refine hK _ _ ⟨HK4.out.c2, HK4.out.c3⟩ (fun hS => ?_)
        clear hK
        refine wpR_one (i := 7) (by kernel_rfl) rfl (by rfl) (fun K hK => ?_)
        go_simp
        refine hK _ _ hS (fun hS => ?_)
        refine wpR_done (by kernel_rfl) ?_ _
        try simp only [Act.put, List.setIfInBounds_toArray, List.set_cons_zero, List.set_cons_succ]
        clear hK K hS hc2 hc3 hc5 hb4 hd4 HK
        have hc2 := HK4.out.c2
        have hc3 := HK4.out.c3
        have hc5 := HK4.out.c5
        by_cases hfold : foldB (bt p (i : Int)) (bt n (k : Int)) = true
        · rw [hfold]
          have hcell : cellP p n (runP p n (List.map (fun x => x.val.fst) pre)) i k = if (if i + 1 < p.size then (bestP ((runP p n (List.map (fun x => x.val.fst) pre)).getD (i + 1) []) (k : Int)).1 else 0) = -1 then -1 else ptP (bt p (i : Int)) n (k : Int) + (if i + 1 < p.size then (bestP ((runP p n (List.map (fun x => x.val.fst) pre)).getD (i + 1) []) (k : Int)).1 else 0) := by
            unfold cellP
            rw [if_pos hfold]
          have HCELL := Aside0.mk hcell
          clear hcell
          have hpt := pt_range (bt p (i : Int)) n (k : Int)
          have hcr : w4.cell? ⟨w.heap.size + 1 + 1, i, none⟩ = some (.slice (some ⟨g, 0, none⟩) n.size n.size) := (HK4.out.ts.cell i (by rw [List.length_set, hrl]; exact hi)).trans HG.out
          have hwi : IntKind.i64.wrap ((i : Int) + 1) = (i : Int) + 1 := by rw [IntKind.wrap_i64]; omega
          have hwk : IntKind.i64.wrap ((k : Int) + 1) = (k : Int) + 1 := by rw [IntKind.wrap_i64]; omega
          by_cases hip : i + 1 < p.size
          · have hip1 : (i : Int) + 1 < (p.size : Int) := by omega
            have hip0 : (0 : Int) ≤ (i : Int) + 1 := by omega
            obtain ⟨row, hrow⟩ : ∃ row, row = (runP p n (List.map (fun x => x.val.fst) pre)).getD (i + 1) [] := ⟨_, rfl⟩
            obtain ⟨r, hr⟩ : ∃ r, r = bestP row (k : Int) := ⟨_, rfl⟩
            have hrd := HK4.out.ts.reads (fun j => HK4.out.ts.lens (by omega) j) (i + 1) (by rw [List.length_set, hrl]; exact hip)
            rw [set_other (by omega), ← hrow] at hrd
            obtain ⟨A, hA, hC⟩ := hrd
            have hcA : w4.cell? ⟨w.heap.size + 1 + 1, i + 1, none⟩ = some (.slice A row.length row.length) := (HK4.out.ts.cell (i + 1) (by rw [List.length_set, hrl]; exact hip)).trans hA
            have hrx : ∀ x ∈ row, -1 ≤ x ∧ x ≤ 270 := by
              intro x hx
              rw [hrow] at hx
              have := (run_bound p n (List.map (fun x => x.val.fst) pre)).1.row (i + 1) x hx
              rw [List.length_map] at this
              omega
            have hrl2 : row.length ≤ 1000 := by
              have := HK4.out.ts.lens (by omega) (i + 1)
              rw [set_other (by omega), ← hrow] at this
              exact this
            have hbest := best_eq row (k : Int) (by omega) (by omega) (by omega) (fun x hx => ⟨(hrx x hx).1, by have := (hrx x hx).2; omega⟩) (2 * row.length + 1) (Nat.le_refl _)
            rw [← hr] at hbest
            have hbr := bestP_range (B := 270) (by omega) hrx (k : Int)
            rw [← hr] at hbr
            have HX := Aside0.mk (And.intro hC (And.intro hbest (And.intro hrow hr)))
            clear hC hbest hrow hr hA hrx
            by_cases hr1 : r.1 = -1
            · have hb1 : (r.1 != -1) = false := bne_eq_false_iff_eq.mpr hr1
              have hb0 : (r.1 == -1) = true := beq_iff_eq.mpr hr1
              gi_wp2_with ((refine ⟨trivial, ?_⟩; gi_at_call 15; refine (CallsIn.inRound l (callsIn_wide.2 (PFuzzyScoreOptimal.fuzzy_best.calls (2 * row.length + 1) A row.length row (k : Int) r.1 r.2 _ HX.out.1 (Nat.le_refl _) HX.out.2.1))).mono ?_; rintro e w5 ⟨rfl, hd5⟩))
              have hb5 : Below w4.heap.size w4 w5 := by
                obtain ⟨⟨d, rfl⟩⟩ := hd5
                exact pw_below_drewN (Below.refl _ _) d
              have HK5 := Aside0.mk (HK4.out.below hb5)
              have hcl : cellP p n (runP p n (List.map (fun x => x.val.fst) pre)) i k = -1 := by
                rw [HCELL.out, if_pos hip, ← HX.out.2.2.1, ← HX.out.2.2.2, if_pos hr1]
              refine ⟨⟨k + 1, by omega, by rw [Int.natCast_add]; rfl, ⟨HK5.out.skip hcl⟩⟩, ?_⟩
              show n.size - ((k : Int) + 1).toNat < n.size - ((k : Int)).toNat
              omega
            · have hb1 : (r.1 != -1) = true := bne_iff_ne.mpr hr1
              have hb0 : (r.1 == -1) = false := beq_eq_false_iff_ne.mpr hr1
              gi_wp2_with ((refine ⟨trivial, ?_⟩; gi_at_call 15; refine (CallsIn.inRound l (callsIn_wide.2 (PFuzzyScoreOptimal.fuzzy_best.calls (2 * row.length + 1) A row.length row (k : Int) r.1 r.2 _ HX.out.1 (Nat.le_refl _) HX.out.2.1))).mono ?_; rintro e w5 ⟨rfl, hd5⟩))
              have hb5 : Below w4.heap.size w4 w5 := by
                obtain ⟨⟨d, rfl⟩⟩ := hd5
                exact pw_below_drewN (Below.refl _ _) d
              have HK5 := Aside0.mk (HK4.out.below hb5)
              have hc2 := HK5.out.c2
              have hc3 := HK5.out.c3
              have hc5 := HK5.out.c5
              have hcr : w5.cell? ⟨w.heap.size + 1 + 1, i, none⟩ = some (.slice (some ⟨g, 0, none⟩) n.size n.size) := (HK5.out.ts.cell i (by rw [List.length_set, hrl]; exact hi)).trans HG.out
              have hcl : cellP p n (runP p n (List.map (fun x => x.val.fst) pre)) i k = ptP (bt p (i : Int)) n (k : Int) + r.1 := by
                rw [HCELL.out, if_pos hip, ← HX.out.2.2.1, ← HX.out.2.2.2, if_neg hr1]
              have hwr : IntKind.i64.wrap (ptP (bt p (i : Int)) n (k : Int) + r.1) = ptP (bt p (i : Int)) n (k : Int) + r.1 := by rw [IntKind.wrap_i64]; omega
              refine wpR_region (fun W' => W'.cell? ⟨w.heap.size, 0, none⟩ = some (.string p) ∧ W'.cell? ⟨w.heap.size + 1, 0, none⟩ = some (.string n) ∧ W'.cell? ⟨w.heap.size + 1 + 1 + 1, 0, none⟩ = some (.slice (some ⟨w.heap.size + 1 + 1, 0, none⟩) p.size p.size) ∧ W'.cell? ⟨w.heap.size + 1 + 1, i, none⟩ = some (.slice (some ⟨g, 0, none⟩) n.size n.size)) (by kernel_rfl) ⟨hc2, hc3, hc5, hcr⟩ (fun hS => ?_)
              refine wpR_take (i := 0) (v := .slice (some ⟨w.heap.size + 1 + 1, 0, none⟩) p.size p.size) rfl (by kernel_rfl) (by kernel_rfl) (by kernel_rfl) (by kernel_rfl) (fun _ _ _ h => h) (by rfl) (by rintro w' ⟨h2, h3, h5, hr⟩; go_simp) hS ?_
              simp only [Act.put, List.setIfInBounds_toArray, List.set_cons_zero, List.set_cons_succ]
              refine wpR_take (i := 1) (v := .int .i64 (i : Int)) rfl (by kernel_rfl) (by kernel_rfl) (by kernel_rfl) (by kernel_rfl) (fun _ _ _ h => h) (by rfl) (by rintro w' ⟨h2, h3, h5, hr⟩; go_simp) hS ?_
              simp only [Act.put, List.setIfInBounds_toArray, List.set_cons_zero, List.set_cons_succ]
              refine wpR_take (i := 2) (v := .pointer (some ⟨w.heap.size + 1 + 1, i, none⟩)) rfl (by kernel_rfl) (by kernel_rfl) (by kernel_rfl) (by kernel_rfl) (fun _ _ _ h => h) (by rfl) (by rintro w' ⟨h2, h3, h5, hr⟩; go_simp) hS ?_
              simp only [Act.put, List.setIfInBounds_toArray, List.set_cons_zero, List.set_cons_succ]
              refine wpR_take (i := 3) (v := .slice (some ⟨g, 0, none⟩) n.size n.size) rfl (by kernel_rfl) (by kernel_rfl) (by kernel_rfl) (by kernel_rfl) (fun _ _ _ h => h) (by rfl) (by rintro w' ⟨h2, h3, h5, hr⟩; go_simp) hS ?_
              simp only [Act.put, List.setIfInBounds_toArray, List.set_cons_zero, List.set_cons_succ]
              refine wpR_take (i := 4) (v := .int .i64 (k : Int)) rfl (by kernel_rfl) (by kernel_rfl) (by kernel_rfl) (by kernel_rfl) (fun _ _ _ h => h) (by rfl) (by rintro w' ⟨h2, h3, h5, hr⟩; go_simp) hS ?_
              simp only [Act.put, List.setIfInBounds_toArray, List.set_cons_zero, List.set_cons_succ]
              refine wpR_take (i := 5) (v := .string p) rfl (by kernel_rfl) (by kernel_rfl) (by kernel_rfl) (by kernel_rfl) (fun _ _ _ h => h) (by rfl) (by rintro w' ⟨h2, h3, h5, hr⟩; go_simp) hS ?_
              simp only [Act.put, List.setIfInBounds_toArray, List.set_cons_zero, List.set_cons_succ]
              refine wpR_take (i := 6) (v := .int .i64 (i : Int)) rfl (by kernel_rfl) (by kernel_rfl) (by kernel_rfl) (by kernel_rfl) (fun _ _ _ h => h) (by rfl) (by rintro w' ⟨h2, h3, h5, hr⟩; go_simp) hS ?_
              simp only [Act.put, List.setIfInBounds_toArray, List.set_cons_zero, List.set_cons_succ]
              refine wpR_take (i := 7) (v := .int .u8 (bt p (i : Int))) rfl (by kernel_rfl) (by kernel_rfl) (by kernel_rfl) (by kernel_rfl) (fun _ _ _ h => h) (by rfl) (by rintro w' ⟨h2, h3, h5, hr⟩; go_simp) hS ?_
              simp only [Act.put, List.setIfInBounds_toArray, List.set_cons_zero, List.set_cons_succ]
              refine wpR_take (i := 8) (v := .string n) rfl (by kernel_rfl) (by kernel_rfl) (by kernel_rfl) (by kernel_rfl) (fun _ _ _ h => h) (by rfl) (by rintro w' ⟨h2, h3, h5, hr⟩; go_simp) hS ?_
              simp only [Act.put, List.setIfInBounds_toArray, List.set_cons_zero, List.set_cons_succ]
              refine wpR_take (i := 9) (v := .int .i64 (k : Int)) rfl (by kernel_rfl) (by kernel_rfl) (by kernel_rfl) (by kernel_rfl) (fun _ _ _ h => h) (by rfl) (by rintro w' ⟨h2, h3, h5, hr⟩; go_simp) hS ?_
              simp only [Act.put, List.setIfInBounds_toArray, List.set_cons_zero, List.set_cons_succ]
              refine wpR_take (i := 11) (v := .int .i64 (r.1)) rfl (by kernel_rfl) (by kernel_rfl) (by kernel_rfl) (by kernel_rfl) (fun _ _ _ h => h) (by rfl) (by rintro w' ⟨h2, h3, h5, hr⟩; go_simp) hS ?_
              simp only [Act.put, List.setIfInBounds_toArray, List.set_cons_zero, List.set_cons_succ]
              refine wpR_one (i := 10) (by kernel_rfl) rfl (by rfl) (fun K hK => ?_)
              gi_wp2_with ((refine ⟨trivial, ?_⟩; gi_at_call 24; refine (CallsIn.inRound l (callsIn_wide.2 (PFuzzyScoreOptimal.fuzzy_points.calls (bt p (i : Int)) n (k : Int) _ _ (pt_eq (bt p (i : Int)) n (k : Int) (by omega) (by omega) (by omega))))).mono ?_; rintro e w6 ⟨rfl, hd6⟩))
              have hb6 : Below w5.heap.size w5 w6 := by
                obtain ⟨⟨d, rfl⟩⟩ := hd6
                exact below_drewN1 w5 d
              have HK6 := Aside0.mk (HK5.out.below hb6)
              obtain ⟨hfz, ⟨vz, hvz⟩, hmw⟩ := HK6.out.write (by rw [hrl]; exact hi) HG.out hlt
              have HMW := Aside0.mk hmw
              clear hmw
              have hcr6 : w6.cell? ⟨w.heap.size + 1 + 1, i, none⟩ = some (.slice (some ⟨g, 0, none⟩) n.size n.size) := (HK6.out.ts.cell i (by rw [List.length_set, hrl]; exact hi)).trans HG.out
              refine hK _ _ ⟨HK6.out.c2, HK6.out.c3, HK6.out.c5, hcr6⟩ (fun hS => ?_)
              clear hK
              try simp only [Act.put, List.setIfInBounds_toArray, List.set_cons_zero, List.set_cons_succ]
              refine wpR_one (i := 12) (by kernel_rfl) rfl (by rfl) (fun K hK => ?_)
              go_simp
              refine hK _ _ hS (fun hS => ?_)
              clear hK
              try simp only [Act.put, List.setIfInBounds_toArray, List.set_cons_zero, List.set_cons_succ]
              refine wpR_one (i := 13) (by kernel_rfl) rfl (by rfl) (fun K hK => ?_)
              go_simp
              refine hK _ _ hS (fun hS => ?_)
              clear hK
              try simp only [Act.put, List.setIfInBounds_toArray, List.set_cons_zero, List.set_cons_succ]
              refine wpR_one (i := 14) (by kernel_rfl) rfl (by rfl) (fun K hK => ?_)
              go_simp
              rw [← hcl]
              have hcrw : (w6.setCell ⟨g, k, none⟩ (.int .i64 (cellP p n (runP p n (List.map (fun x => x.val.fst) pre)) i k))).cell? ⟨w.heap.size + 1 + 1, i, none⟩ = some (.slice (some ⟨g, 0, none⟩) n.size n.size) := (HMW.out.ts.cell i (by rw [List.length_set, hrl]; exact hi)).trans HG.out
              refine hK _ _ ⟨HMW.out.c2, HMW.out.c3, HMW.out.c5, hcrw⟩ (fun hS => ?_)
              refine wpR_done (by kernel_rfl) ?_ _
              try simp only [Act.put, List.setIfInBounds_toArray, List.set_cons_zero, List.set_cons_succ]
              clear hK K
              gi_wp2_with fail
              refine ⟨⟨k + 1, by omega, by rw [Int.natCast_add]; rfl, by have hm := HMW.out; rw [hcl] at hm; exact ⟨hm⟩⟩, ?_⟩
              show n.size - ((k : Int) + 1).toNat < n.size - ((k : Int)).toNat
              omega
          · have hip1 : ¬ ((i : Int) + 1 < (p.size : Int)) := by omega
            have hc2 := HK4.out.c2
            have hcl : cellP p n (runP p n (List.map (fun x => x.val.fst) pre)) i k = ptP (bt p (i : Int)) n (k : Int) := by
              rw [HCELL.out, if_neg hip, if_neg (by decide), Int.add_zero]
            have hwr : IntKind.i64.wrap (ptP (bt p (i : Int)) n (k : Int)) = ptP (bt p (i : Int)) n (k : Int) := by rw [IntKind.wrap_i64]; omega
            gi_wp2_with fail
            refine wpR_region (fun W' => W'.cell? ⟨w.heap.size, 0, none⟩ = some (.string p) ∧ W'.cell? ⟨w.heap.size + 1, 0, none⟩ = some (.string n) ∧ W'.cell? ⟨w.heap.size + 1 + 1 + 1, 0, none⟩ = some (.slice (some ⟨w.heap.size + 1 + 1, 0, none⟩) p.size p.size) ∧ W'.cell? ⟨w.heap.size + 1 + 1, i, none⟩ = some (.slice (some ⟨g, 0, none⟩) n.size n.size)) (by kernel_rfl) ⟨hc2, hc3, hc5, hcr⟩ (fun hS => ?_)
            refine wpR_take (i := 0) (v := .slice (some ⟨w.heap.size + 1 + 1, 0, none⟩) p.size p.size) rfl (by kernel_rfl) (by kernel_rfl) (by kernel_rfl) (by kernel_rfl) (fun _ _ _ h => h) (by rfl) (by rintro w' ⟨h2, h3, h5, hr⟩; go_simp) hS ?_
            simp only [Act.put, List.setIfInBounds_toArray, List.set_cons_zero, List.set_cons_succ]
            refine wpR_take (i := 1) (v := .int .i64 (i : Int)) rfl (by kernel_rfl) (by kernel_rfl) (by kernel_rfl) (by kernel_rfl) (fun _ _ _ h => h) (by rfl) (by rintro w' ⟨h2, h3, h5, hr⟩; go_simp) hS ?_
            simp only [Act.put, List.setIfInBounds_toArray, List.set_cons_zero, List.set_cons_succ]
            refine wpR_take (i := 2) (v := .pointer (some ⟨w.heap.size + 1 + 1, i, none⟩)) rfl (by kernel_rfl) (by kernel_rfl) (by kernel_rfl) (by kernel_rfl) (fun _ _ _ h => h) (by rfl) (by rintro w' ⟨h2, h3, h5, hr⟩; go_simp) hS ?_
            simp only [Act.put, List.setIfInBounds_toArray, List.set_cons_zero, List.set_cons_succ]
            refine wpR_take (i := 3) (v := .slice (some ⟨g, 0, none⟩) n.size n.size) rfl (by kernel_rfl) (by kernel_rfl) (by kernel_rfl) (by kernel_rfl) (fun _ _ _ h => h) (by rfl) (by rintro w' ⟨h2, h3, h5, hr⟩; go_simp) hS ?_
            simp only [Act.put, List.setIfInBounds_toArray, List.set_cons_zero, List.set_cons_succ]
            refine wpR_take (i := 4) (v := .int .i64 (k : Int)) rfl (by kernel_rfl) (by kernel_rfl) (by kernel_rfl) (by kernel_rfl) (fun _ _ _ h => h) (by rfl) (by rintro w' ⟨h2, h3, h5, hr⟩; go_simp) hS ?_
            simp only [Act.put, List.setIfInBounds_toArray, List.set_cons_zero, List.set_cons_succ]
            refine wpR_take (i := 5) (v := .string p) rfl (by kernel_rfl) (by kernel_rfl) (by kernel_rfl) (by kernel_rfl) (fun _ _ _ h => h) (by rfl) (by rintro w' ⟨h2, h3, h5, hr⟩; go_simp) hS ?_
            simp only [Act.put, List.setIfInBounds_toArray, List.set_cons_zero, List.set_cons_succ]
            refine wpR_take (i := 6) (v := .int .i64 (i : Int)) rfl (by kernel_rfl) (by kernel_rfl) (by kernel_rfl) (by kernel_rfl) (fun _ _ _ h => h) (by rfl) (by rintro w' ⟨h2, h3, h5, hr⟩; go_simp) hS ?_
            simp only [Act.put, List.setIfInBounds_toArray, List.set_cons_zero, List.set_cons_succ]
            refine wpR_take (i := 7) (v := .int .u8 (bt p (i : Int))) rfl (by kernel_rfl) (by kernel_rfl) (by kernel_rfl) (by kernel_rfl) (fun _ _ _ h => h) (by rfl) (by rintro w' ⟨h2, h3, h5, hr⟩; go_simp) hS ?_
            simp only [Act.put, List.setIfInBounds_toArray, List.set_cons_zero, List.set_cons_succ]
            refine wpR_take (i := 8) (v := .string n) rfl (by kernel_rfl) (by kernel_rfl) (by kernel_rfl) (by kernel_rfl) (fun _ _ _ h => h) (by rfl) (by rintro w' ⟨h2, h3, h5, hr⟩; go_simp) hS ?_
            simp only [Act.put, List.setIfInBounds_toArray, List.set_cons_zero, List.set_cons_succ]
            refine wpR_take (i := 9) (v := .int .i64 (k : Int)) rfl (by kernel_rfl) (by kernel_rfl) (by kernel_rfl) (by kernel_rfl) (fun _ _ _ h => h) (by rfl) (by rintro w' ⟨h2, h3, h5, hr⟩; go_simp) hS ?_
            simp only [Act.put, List.setIfInBounds_toArray, List.set_cons_zero, List.set_cons_succ]
            refine wpR_take (i := 11) (v := .int .i64 (0)) rfl (by kernel_rfl) (by kernel_rfl) (by kernel_rfl) (by kernel_rfl) (fun _ _ _ h => h) (by rfl) (by rintro w' ⟨h2, h3, h5, hr⟩; go_simp) hS ?_
            simp only [Act.put, List.setIfInBounds_toArray, List.set_cons_zero, List.set_cons_succ]
            refine wpR_one (i := 10) (by kernel_rfl) rfl (by rfl) (fun K hK => ?_)
            gi_wp2_with ((refine ⟨trivial, ?_⟩; gi_at_call 24; refine (CallsIn.inRound l (callsIn_wide.2 (PFuzzyScoreOptimal.fuzzy_points.calls (bt p (i : Int)) n (k : Int) _ _ (pt_eq (bt p (i : Int)) n (k : Int) (by omega) (by omega) (by omega))))).mono ?_; rintro e w6 ⟨rfl, hd6⟩))
            have hb6 : Below w4.heap.size w4 w6 := by
              obtain ⟨⟨d, rfl⟩⟩ := hd6
              exact below_drewN1 w4 d
            have HK6 := Aside0.mk (HK4.out.below hb6)
            obtain ⟨hfz, ⟨vz, hvz⟩, hmw⟩ := HK6.out.write (by rw [hrl]; exact hi) HG.out hlt
            have HMW := Aside0.mk hmw
            clear hmw
            have hcr6 : w6.cell? ⟨w.heap.size + 1 + 1, i, none⟩ = some (.slice (some ⟨g, 0, none⟩) n.size n.size) := (HK6.out.ts.cell i (by rw [List.length_set, hrl]; exact hi)).trans HG.out
            refine hK _ _ ⟨HK6.out.c2, HK6.out.c3, HK6.out.c5, hcr6⟩ (fun hS => ?_)
            clear hK
            try simp only [Act.put, List.setIfInBounds_toArray, List.set_cons_zero, List.set_cons_succ]
            refine wpR_one (i := 12) (by kernel_rfl) rfl (by rfl) (fun K hK => ?_)
            go_simp
            refine hK _ _ hS (fun hS => ?_)
            clear hK
            try simp only [Act.put, List.setIfInBounds_toArray, List.set_cons_zero, List.set_cons_succ]
            refine wpR_one (i := 13) (by kernel_rfl) rfl (by rfl) (fun K hK => ?_)
            go_simp
            refine hK _ _ hS (fun hS => ?_)
            clear hK
            try simp only [Act.put, List.setIfInBounds_toArray, List.set_cons_zero, List.set_cons_succ]
            refine wpR_one (i := 14) (by kernel_rfl) rfl (by rfl) (fun K hK => ?_)
            go_simp
            rw [← hcl]
            have hcrw : (w6.setCell ⟨g, k, none⟩ (.int .i64 (cellP p n (runP p n (List.map (fun x => x.val.fst) pre)) i k))).cell? ⟨w.heap.size + 1 + 1, i, none⟩ = some (.slice (some ⟨g, 0, none⟩) n.size n.size) := (HMW.out.ts.cell i (by rw [List.length_set, hrl]; exact hi)).trans HG.out
            refine hK _ _ ⟨HMW.out.c2, HMW.out.c3, HMW.out.c5, hcrw⟩ (fun hS => ?_)
            refine wpR_done (by kernel_rfl) ?_ _
            try simp only [Act.put, List.setIfInBounds_toArray, List.set_cons_zero, List.set_cons_succ]
            clear hK K
            gi_wp2_with fail
            refine ⟨⟨k + 1, by omega, by rw [Int.natCast_add]; rfl, by have hm := HMW.out; rw [hcl] at hm; exact ⟨hm⟩⟩, ?_⟩
            show n.size - ((k : Int) + 1).toNat < n.size - ((k : Int)).toNat
            omega
        · rw [Bool.not_eq_true] at hfold
          rw [hfold]
          have hwk : IntKind.i64.wrap ((k : Int) + 1) = (k : Int) + 1 := by rw [IntKind.wrap_i64]; omega
          have hcl : cellP p n (runP p n (List.map (fun x => x.val.fst) pre)) i k = -1 := by
            unfold cellP
            rw [hfold, if_neg (by simp)]
          gi_wp2_with fail
          refine ⟨⟨k + 1, by omega, by rw [Int.natCast_add]; rfl, ⟨HK4.out.skip hcl⟩⟩, ?_⟩
          show n.size - ((k : Int) + 1).toNat < n.size - ((k : Int)).toNat
          omega
      · obtain rfl : k = n.size := by omega
        gi_wp2_with fail
        have hts := HK.out.ts
        rw [rowK_full, ← run_snoc] at hts
        have hcx := HK.out.ts
        refine ⟨HK.out.ko, ⟨fun _ => HK.out.bs, fun _ q hq => ⟨_, (hcx.cell q (by rw [List.length_set, hrl]; exact hq)).trans (List.getElem?_eq_getElem (by rw [hcx.len, List.length_set, hrl]; exact hq))⟩⟩, ⟨⟨_, _, by rw [List.map_append]; exact hts⟩, HK.out.c2, HK.out.c3, HK.out.c5, HK.out.bs, HK.out.bel⟩⟩
  case done =>
    rintro D ys W hD hys hI hK
    obtain ⟨f, cs, hts⟩ := hI.ts
    rw [hys] at hts
    have hc5 := hI.c5
    have HF := Aside0.mk (And.intro hts hI.bel)
    have hsW := HS.out.size
    clear hts HS HB0
    gi_wp2
    refine ⟨by simp, .inl ⟨_, _, rfl, run_takeDeferred hK, ?_⟩⟩
    refine ⟨_, results_tmp rfl _ _ _, _, f, cs, rfl, (HF.out.1.move (fun b c t hb => put_def hK hb)), HF.out.2.trans (belowK_b (w := w) (Nat.le_refl _) W D _ _ (by omega) hK rfl rfl)⟩
  case stop =>
    rintro D c pre W _ _ h _
    exact h.elim

/-- The table, as the printed walks want it. -/
theorem TS.toS {base bT n : Nat} {T : List (List Int)} {f : Nat → Nat} {cs : List Value} {W : World} (h : TS base bT n T f cs W) (hT : T.length ≤ 1000) (hn : n ≤ 1000) :
    Kd.S (Kd.slice 3 (Kd.int .i64)) 22 W base (fun _ => True) (.slice (some ⟨bT, 0, none⟩) T.length T.length) T := by
  refine ⟨f, fun _ _ => trivial, cs, ⟨by show cs.length = T.zipIdx.length * 1; rw [List.length_zipIdx, Nat.mul_one]; exact h.len, .inr ⟨bT, T.length, cs.toArray, by rw [List.length_zipIdx], h.ge, h.tab, by rw [List.length_zipIdx]; exact Nat.le_refl _, by unfold maxLen; omega, ?_, ?_⟩⟩, ?_⟩
  · show cs.length = T.length * 1
    rw [Nat.mul_one]
    exact h.len
  · rw [List.length_zipIdx]
    show cs.take (T.length * 1) = cs
    rw [Nat.mul_one, ← h.len, List.take_length]
  · refine ⟨by rw [List.length_zipIdx]; show cs.length = T.length * 1; rw [Nat.mul_one]; exact h.len, ?_⟩
    rintro j ⟨x, q⟩ hj
    rw [List.getElem?_zipIdx, Option.map_eq_some_iff] at hj
    obtain ⟨x', hx, hxq⟩ := hj
    simp only [Nat.zero_add, Prod.mk.injEq] at hxq
    obtain ⟨rfl, rfl⟩ := hxq
    have hjT : j < T.length := (List.getElem?_eq_some_iff.1 hx).1
    have hxg : T.getD j [] = x' := by rw [List.getD_eq_getElem?_getD, hx]; rfl
    have hrow := h.row j hjT
    rw [hxg] at hrow
    have hone : ∀ c, cs[j]? = some c → (cs.drop (j * (Kd.tag f (Kd.slice 3 (Kd.int .i64))).sz)).take (Kd.tag f (Kd.slice 3 (Kd.int .i64))).sz = [c] := by
      intro c hc
      show (cs.drop (j * 1)).take 1 = [c]
      obtain ⟨hlt, rfl⟩ := List.getElem?_eq_some_iff.1 hc
      rw [Nat.mul_one, List.drop_eq_getElem_cons hlt]
      rfl
    rcases hrow with ⟨h1, rfl⟩ | ⟨b, h1, h2, h3, h4, h5⟩
    · rw [hone _ h1]
      exact ⟨_, rfl, Kd.R_nil _ _ _ _ _⟩
    · rw [hone _ h1]
      have hbT : b ≠ bT := by
        rintro rfl
        have := h.tab
        rw [this] at h5
        injection h5 with h5
        injection h5 with _ ht _
        exact absurd ht (by decide)
      refine ⟨_, rfl, ?_, x'.map (Value.int .i64), ⟨by rw [List.length_map]; exact (Nat.mul_one _).symm, .inr ⟨b, n, _, by rw [h4], h2, h5, by show x'.length ≤ n; omega, by unfold maxLen; omega, ?_, ?_⟩⟩, ?_⟩
      · intro k hk
        have : b = k := by simpa [Value.ownBlock] using hk
        subst this
        exact ⟨⟨trivial, by simpa [Value.ownBlock] using hbT⟩, h3⟩
      · unfold intV
        show (x'.map (Value.int .i64)).length = n * 1
        rw [List.length_map, Nat.mul_one]
        exact h4
      · unfold intV
        show (x'.map (Value.int .i64)).take (x'.length * 1) = x'.map (Value.int .i64)
        rw [Nat.mul_one]
        exact List.take_of_length_le (by rw [List.length_map]; exact Nat.le_refl _)
      · refine ⟨by rw [List.length_map]; exact (Nat.mul_one _).symm, fun m y hy => ?_⟩
        show (((x'.map (Value.int .i64)).drop (m * 1)).take 1) = [.int .i64 y]
        obtain ⟨hlt, rfl⟩ := List.getElem?_eq_some_iff.1 hy
        rw [Nat.mul_one, List.drop_eq_getElem_cons (by rw [List.length_map]; exact hlt)]
        simp
def fuzzy_suffixScores.f (k : Nat) (p n : ByteArray) : Option (List (List Int)) := if p.size ≤ 30 ∧ n.size ≤ 30 then some (runP p n (dn p.size p.size)) else none
theorem fuzzy_suffixScores.mono : ∀ a0 a1 k, LeO (fuzzy_suffixScores.f k a0 a1) (fuzzy_suffixScores.f (k + 1) a0 a1) := fun _ _ _ => LeO.refl _
theorem fuzzy_suffixScores.calls (k : Nat) (a0 a1 : ByteArray) (r : List (List Int)) (w : World) (h : fuzzy_suffixScores.f k a0 a1 = some r) :
    Calls Try.prog 14 #[.string a0, .string a1] w fun e w' => ∃ v, e = .returned v ∧ Kd.S (Kd.slice 3 (Kd.int .i64)) 22 w' w.heap.size (fun _ => True) v r ∧ Below w.heap.size w w' := by
  unfold fuzzy_suffixScores.f at h
  by_cases hs : a0.size ≤ 30 ∧ a1.size ≤ 30
  · rw [if_pos hs] at h
    obtain rfl := Option.some.inj h
    refine (suffix_walk a0 a1 hs.1 hs.2 w).mono ?_
    rintro e w' ⟨bT, f, cs, rfl, hts, hb⟩
    have hl := (run_bound a0 a1 (dn a0.size a0.size)).2
    have := hts.toS (by omega) (by omega)
    rw [hl] at this
    exact ⟨_, rfl, this, hb⟩
  · rw [if_neg hs] at h
    cases h
end Go.Proofs.Ytldhhomeifjbeaa.PA
