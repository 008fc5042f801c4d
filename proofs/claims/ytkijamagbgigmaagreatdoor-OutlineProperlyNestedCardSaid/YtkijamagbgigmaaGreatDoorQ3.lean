/- Packed texts, part 3: contracts and plain lemmas towards outlineProperlyNested_holds. -/
import Derived.Test.YtkijamagbgigmaaGreatDoorQ2
import Derived.Deep.LoopGhost
import Derived.Maps.AppendAt
import Derived.StillTailTactics
import Derived.Deep.RegionHeld3
set_option maxHeartbeats 8000000
set_option maxRecDepth 1000000
set_option linter.unusedVariables false
set_option linter.unusedSimpArgs false
namespace Go.Proofs.YtkijamagbgigmaaGreatDoor.Par
open Go.RowKit Go.Proofs.YtkijamagbgigmaaGreatDoorW.PrintWords Go.Proofs.YtkijamagbgigmaaGreatDoorW.PrintLast
theorem step_append_at {P : Program} {ops : Array Oper} {o : Oper} {a : Act} {Q : Exit → Act → World → Prop} {K : Act → World → Prop} {W : World} (base gz : Nat) (hw : Region.wanted o (yielded ops a.tmps) = true) (s x : Operand) (t e : TypeId) (z : Value) (size bytes : Nat)
  (ho : o.op = .call { callee := .builtin .append, args := #[s, x], argTypes := #[t, t] })
  (ht : P.underlying t = some (.slice e)) (hinfo : (P.info? e).map (fun i => (i.zero, i.size, i.bytes)) = some (some z, size, bytes)) (hz : z.cells.size = size) (hs0 : 0 < size) (hb0 : 0 < bytes)
  (v : Value) (n : Nat) (xs ys : List Value) (hs : a.eval s = v) (hx : a.eval x = .slice (some ⟨gz, 0, none⟩) 1 1) (hys : ys.length = size) (h1 : ∀ u ∈ ys, u.oneCell' = true)
  (HO : W.ownsRow base e size v n xs) (hgz : W.heap[gz]? = some (.cells ys.toArray e (0, 0))) (hbase : base ≤ W.heap.size) (hl : (n + 1) * bytes ≤ 140737488355328)
  (h : ∀ v1 w1, w1.ownsRow base e size v1 (n + 1) (xs ++ ys) → W.grownBy w1 v.ownBlock → (v1.ownBlock = v.ownBlock ∨ ∃ b, v1.ownBlock = some b ∧ W.heap.size ≤ b) → K (a.put o.dst v1) w1) :
  if Region.wanted o (yielded ops a.tmps) = true then Oper.wp P o a W K Q else K (a.put o.dst undef) W := by
 obtain ⟨i0, hi, hzz⟩ := Option.map_eq_some_iff.1 hinfo
 simp only [Prod.mk.injEq] at hzz
 obtain ⟨hz0, hz1, hz2⟩ := hzz
 have hlen : n + 1 ≤ 140737488355328 := Nat.le_trans (Nat.le_mul_of_pos_right _ hb0) hl
 rw [if_pos hw]
 obtain ⟨v1, w1, hr, hown, hg, _, hat⟩ := run_append_own_at (P := P) W base t o.type e i0 z size bytes ht hi hz0 hz1 hz2 hz hs0 v n xs HO ⟨gz, 0, none⟩ 1 1 ys (by rw [hys]; simp)
  (by simpa using World.news_of_block (cs := ys.toArray) (t := e) (fr := (0, 0)) hgz) h1 (by simp only [maxLen]; omega) hl hbase
 unfold Oper.wp execOp
 simp only [ho, resolve, invoke, builtin, Sem.run_bind, Sem.run_pure, Result.andThen_ok, List.map_toArray, List.map_cons, List.map_nil, hs, hx, hr]
 refine h v1 w1 hown hg ?_
 rcases hat with hat | hat
 ·exact .inl hat
 ·exact .inr ⟨_, hat, Nat.le_refl _⟩
end Go.Proofs.YtkijamagbgigmaaGreatDoor.Par
namespace Go.Proofs.YtkijamagbgigmaaGreatDoor.Par
open Go.RowKit Go.Proofs.YtkijamagbgigmaaGreatDoorW.PrintWords Go.Proofs.YtkijamagbgigmaaGreatDoorW.PrintLast
variable {B : Nat} {T : List Tok} {tv : Value} {pb : Nat} {W : World} {pos : Nat} {low : List Tree} {kd : Int} {tx : ByteArray} {ks : List Tree} {F : List Nat}
theorem wrap_calls (kind : Int) (fid : Nat) (bound free : Array Value) (s' : St) (t : Tree) (h : PS 76 53 B T tv pb W pos (low ++ [.mk kd tx (ks ++ [t])]) F) (hsm : low.length + ks.length ≤ 1000000000) (hen : ∀ args w, (callFunc fid args).run Tryz.prog w = .ok (.enter fid args) w)
  (hf : ∀ W1 F1, PS 76 53 B T tv pb W1 pos ((low ++ [.mk kd tx ks]) ++ [.mk kind noText [t]]) F1 → Fr pb F F1 W W1 →
   Calls Tryz.prog fid (bound ++ free) W1 fun e W' => (∃ v, e = .returned v) ∧ ∃ F', PS 76 53 B T tv pb W' s'.1 ((low ++ [.mk kd tx ks]) ++ [.mk kind noText s'.2]) F' ∧ Fr pb F1 F' W1 W') :
  Calls Tryz.prog 169 #[.pointer (some ⟨pb, 0, none⟩), .int .i64 kind, .func (.func fid) bound free] W (Post B T tv pb W low kd tx F (.tuple #[]) (s'.1, ks ++ [.mk kind noText s'.2])) := by
 obtain ⟨sb, scap, kg, kcap, hv, F0, Ft, p1, hc1, hc2, ⟨n1, n2, n3, l1, l2, l3⟩, hfz, c0, ⟨c1, c2, c3⟩, ⟨hvA, hvc, rfl⟩, hF, hcut⟩ := h.cutTop
 have HF := ak hf
 have H0 := ak h
 have HC := ak (And.intro hF (And.intro hcut p1))
 have o2 : W.cell? ⟨pb, 2, none⟩ = some (.slice (some ⟨sb, 0, none⟩) (low.length + 1) scap) := (blk_cell p1 2).trans rfl
 have o3 := blk_frozen p1 2
 have hfz0 := hfz (low.length * 3 + 2)
 have hl1 : IntKind.i64.wrap (((low.length : Nat) : Int) + 1 - 1) = ((low.length : Nat) : Int) := by rw [IntKind.wrap_i64]; omega
 have hl2 : IntKind.i64.wrap (((low.length + 1 : Nat) : Int) - 1) = ((low.length : Nat) : Int) := by rw [IntKind.wrap_i64]; omega
 have hl3 : IntKind.i64.wrap ((low.length : Nat) : Int) = ((low.length : Nat) : Int) := by rw [IntKind.wrap_i64]; omega
 have hk1 : IntKind.i64.wrap (((ks.length : Nat) : Int) + 1 - 1) = ((ks.length : Nat) : Int) := by rw [IntKind.wrap_i64]; omega
 have hk2 : IntKind.i64.wrap (((ks.length + 1 : Nat) : Int) - 1) = ((ks.length : Nat) : Int) := by rw [IntKind.wrap_i64]; omega
 have hk3 : IntKind.i64.wrap ((ks.length : Nat) : Int) = ((ks.length : Nat) : Int) := by rw [IntKind.wrap_i64]; omega
 have i0 : (0 : Int) ≤ ((low.length : Nat) : Int) := by omega
 have i1 : ((low.length : Nat) : Int) < ((low.length + 1 : Nat) : Int) := by omega
 have i2 : ((low.length : Nat) : Int) < ((low.length : Nat) : Int) + 1 := by omega
 have j0 : (0 : Int) ≤ ((ks.length : Nat) : Int) := by omega
 have j1 : ((ks.length : Nat) : Int) < ((ks.length + 1 : Nat) : Int) := by omega
 have j2 : ((ks.length : Nat) : Int) < ((ks.length : Nat) : Int) + 1 := by omega
 have j3 : ((ks.length : Nat) : Int) ≤ (kcap : Int) := by omega
 clear h hf hF hcut p1 hfz
 go_enter Tryz.func169, Tryz.ntmps169
 go_wp2_with fail
 go_region_held3 (fun w' => w'.cell? ⟨pb, 2, none⟩ = some (.slice (some ⟨sb, 0, none⟩) (low.length + 1) scap)) (go_keep) (fail)
 go_wp2_with fail
 obtain ⟨W1, hW1⟩ : ∃ W1, ((W.setCell ⟨sb, low.length * 3 + 2, none⟩ (.slice (some ⟨kg, 0, none⟩) ks.length kcap)).alloc (Obj.cells #[Value.int IntKind.i64 t.kind, Value.string t.text, Value.slice hvA t.kids.length hvc] 53)).drew = W1 := ⟨_, rfl⟩
 have hsz1 : W1.heap.size = W.heap.size + 1 := by
  rw [← hW1]
  show ((W.setCell _ _).alloc _).heap.size = _
  rw [World.size_alloc]
  simp [World.setCell]
 have hbx : W1.heap[W.heap.size]? = some (.cells #[.int .i64 t.kind, .string t.text, .slice hvA t.kids.length hvc] 53 (0, 0)) := by
  rw [← hW1]
  have := heap_alloc_new (W.setCell ⟨sb, low.length * 3 + 2, none⟩ (.slice (some ⟨kg, 0, none⟩) ks.length kcap)) (Obj.cells #[Value.int IntKind.i64 t.kind, Value.string t.text, Value.slice hvA t.kids.length hvc] 53)
  rw [show (W.setCell ⟨sb, low.length * 3 + 2, none⟩ (.slice (some ⟨kg, 0, none⟩) ks.length kcap)).heap.size = W.heap.size by simp [World.setCell]] at this
  exact this
 have hold : ∀ g, g < W.heap.size → W1.heap[g]? = (W.setCell ⟨sb, low.length * 3 + 2, none⟩ (.slice (some ⟨kg, 0, none⟩) ks.length kcap)).heap[g]? := by
  intro g hg
  rw [← hW1]
  exact heap_alloc_old _ _ (by simpa [World.setCell] using hg)
 obtain ⟨hF, hcut, p1⟩ := HC.out
 obtain ⟨g1', g2', g3'⟩ := hcut W1 (by rw [← hW1]; rfl) (by rw [← hW1]; rfl) (by rw [← hW1]; rfl) (by omega) (fun g hg hne => (hold g hg).trans (Below.heap_setCell W ⟨sb, low.length * 3 + 2, none⟩ _ g hne)) (hold sb l1)
 have hF0 : ∀ g ∈ F0 ++ Ft, B ≤ g ∧ g < W.heap.size := fun g hg => by
  have := H0.out.rowsGe g (by rw [hF]; exact hg)
  exact this
 have hnd : (F0 ++ Ft).Nodup := hF ▸ H0.out.nd
 have hpF : pb ∉ F0 ++ Ft := hF ▸ H0.out.pbF
 have HG := ak (And.intro g1' (And.intro g2' (And.intro g3' (And.intro hF0 (And.intro hnd (And.intro hpF hF))))))
 have hB0 : B ≤ W.heap.size := by have := H0.out.ge; omega
 have p1' : W1.heap[pb]? = some (.cells #[tv, .int .i64 (pos : Int), .slice (some ⟨sb, 0, none⟩) (low.length + 1) scap] 76 (0, 0)) := ((hold pb l3).trans (Below.heap_setCell W ⟨sb, low.length * 3 + 2, none⟩ _ pb (fun e => n1 e.symm))).trans p1
 have o2' : W1.cell? ⟨pb, 2, none⟩ = some (.slice (some ⟨sb, 0, none⟩) (low.length + 1) scap) := (blk_cell p1' 2).trans rfl
 have q0 : W1.cell? ⟨W.heap.size, 0, none⟩ = some (.int .i64 t.kind) := (blk_cell hbx 0).trans rfl
 have q1 : W1.cell? ⟨W.heap.size, 1, none⟩ = some (.string t.text) := (blk_cell hbx 1).trans rfl
 have q2 : W1.cell? ⟨W.heap.size, 2, none⟩ = some (.slice hvA t.kids.length hvc) := (blk_cell hbx 2).trans rfl
 have HP1 := ak (And.intro p1' (And.intro hbx hsz1))
 rw [hW1]
 clear hW1 hold hF hcut p1 g1' g2' g3' hF0 hnd hpF p1' hbx c0 c1 c2 c3 o2 o3 hfz0
 refine wp_region_last_drew (ds := [15]) (S := (fun w' => w'.cell? ⟨pb, 2, none⟩ = some (.slice (some ⟨sb, 0, none⟩) (low.length + 1) scap) ∧ w'.cell? ⟨W.heap.size, 0, none⟩ = some (.int .i64 t.kind) ∧ w'.cell? ⟨W.heap.size, 1, none⟩ = some (.string t.text) ∧ w'.cell? ⟨W.heap.size, 2, none⟩ = some (.slice hvA t.kids.length hvc))) (by kernel_rfl) ⟨o2', q0, q1, q2⟩ (fun hS => ?_)
 refine wpAnyLast_take (i := 0) (v := .pointer (some ⟨pb, 0, none⟩)) rfl (by kernel_rfl) (by kernel_rfl) (by kernel_rfl) (by kernel_rfl) (by kernel_rfl) (fun _ _ _ h => h) (Or.inl ⟨by rfl, by rintro w' ⟨z1, z2, z3, z4⟩; go_simp⟩) hS ?_
 simp only [Act.put, sia, List.set]
 refine wpAnyLast_take (i := 1) (v := .pointer (some ⟨pb, 0, none⟩)) rfl (by kernel_rfl) (by kernel_rfl) (by kernel_rfl) (by kernel_rfl) (by kernel_rfl) (fun _ _ _ h => h) (Or.inl ⟨by rfl, by rintro w' ⟨z1, z2, z3, z4⟩; go_simp⟩) hS ?_
 simp only [Act.put, sia, List.set]
 refine wpAnyLast_take (i := 2) (v := .pointer (some ⟨pb, 2, none⟩)) rfl (by kernel_rfl) (by kernel_rfl) (by kernel_rfl) (by kernel_rfl) (by kernel_rfl) (fun _ _ _ h => h) (Or.inl ⟨by rfl, by rintro w' ⟨z1, z2, z3, z4⟩; go_simp⟩) hS ?_
 simp only [Act.put, sia, List.set]
 refine wpAnyLast_take (i := 3) (v := .slice (some ⟨sb, 0, none⟩) (low.length + 1) scap) rfl (by kernel_rfl) (by kernel_rfl) (by kernel_rfl) (by kernel_rfl) (by kernel_rfl) (fun _ _ _ h => h) (Or.inl ⟨by rfl, by rintro w' ⟨z1, z2, z3, z4⟩; go_simp⟩) hS ?_
 simp only [Act.put, sia, List.set]
 refine wpAnyLast_take (i := 4) (v := .int .i64 kind) rfl (by kernel_rfl) (by kernel_rfl) (by kernel_rfl) (by kernel_rfl) (by kernel_rfl) (fun _ _ _ h => h) (Or.inl ⟨by rfl, by rintro w' ⟨z1, z2, z3, z4⟩; go_simp⟩) hS ?_
 simp only [Act.put, sia, List.set]
 refine wpAnyLast_take (i := 5) (v := .agg #[.int .i64 t.kind, .string t.text, .slice hvA t.kids.length hvc]) rfl (by kernel_rfl) (by kernel_rfl) (by kernel_rfl) (by kernel_rfl) (by kernel_rfl) (fun _ _ _ h => h) (Or.inl ⟨by rfl, by rintro w' ⟨z1, z2, z3, z4⟩; go_simp⟩) hS ?_
 simp only [Act.put, sia, List.set]
 refine wpAnyLast_take (i := 8) (v := .int .i64 ((low.length : Int) + 1)) rfl (by kernel_rfl) (by kernel_rfl) (by kernel_rfl) (by kernel_rfl) (by kernel_rfl) (fun _ _ _ h => h) (Or.inl ⟨by rfl, by rintro w' ⟨z1, z2, z3, z4⟩; go_simp⟩) hS ?_
 simp only [Act.put, sia, List.set]
 refine wpAnyLast_ready (rs := [6, 9]) (by kernel_rfl) (by simp) (AllReadyL.cons rfl (by simp) (fun K hK => ?_) (AllReadyL.cons rfl (by simp) (fun K hK => ?_) AllReadyL.nil))
 ·go_simp
  refine hK.out _ _ (by go_keep) (fun hS => ?_)
  clear hK
  try simp only [Act.put, sia, List.set]
  refine wpAnyLast_take (i := 7) (v := .agg #[.int .i64 kind, .string ⟨#[]⟩, .slice (some ⟨W1.heap.size, 0, none⟩) 1 1]) rfl (by kernel_rfl) (by kernel_rfl) (by kernel_rfl) (by kernel_rfl) (by kernel_rfl) (fun _ _ _ h => h) (Or.inl ⟨by rfl, by rintro w' ⟨z1, z2, z3, z4⟩; go_simp⟩) hS ?_
  simp only [Act.put, sia, List.set]
  refine wpAnyLast_ready (rs := [9]) (by kernel_rfl) (by simp) (AllReadyL.cons rfl (by simp) (fun K hK => ?_) AllReadyL.nil)
  go_simp
  refine hK.out _ _ (by go_keep) (fun hS => ?_)
  clear hK
  try simp only [Act.put, sia, List.set]
  obtain ⟨W2, hW2⟩ : ∃ W2, ((W1.alloc (Obj.cells #[.int .i64 t.kind, .string t.text, .slice hvA t.kids.length hvc] 53)).alloc (Obj.cells #[.int .i64 0, .string ⟨#[]⟩, .slice none 0 0] 53)).drew = W2 := ⟨_, rfl⟩
  have hb2 : Below W1.heap.size W1 W2 := by rw [← hW2]; exact below_drew (below_alloc (below_alloc (Below.refl _ _) _) _)
  have ga : W2.heap[W.heap.size + 1]? = some (.cells #[.int .i64 t.kind, .string t.text, .slice hvA t.kids.length hvc] 53 (0, 0)) := by rw [← hW2]; rw [← hsz1]; exact blk_alloc (blk_new W1 _) _
  have gz : W2.heap[W.heap.size + 1 + 1]? = some (.cells #[.int .i64 0, .string ⟨#[]⟩, .slice none 0 0] 53 (0, 0)) := by rw [← hW2]; have := blk_new (W1.alloc (Obj.cells #[.int .i64 t.kind, .string t.text, .slice hvA t.kids.length hvc] 53)) (Obj.cells #[.int .i64 0, .string ⟨#[]⟩, .slice none 0 0] 53); rw [World.size_alloc, hsz1] at this; exact this
  rw [hW2] at hS ⊢
  clear hW2
  obtain ⟨G1, G2, G3, hF0, hnd, hpF, hF⟩ := HG.out
  obtain ⟨p1', hbx, _⟩ := HP1.out
  have hs2 : W1.heap.size ≤ W2.heap.size := hb2.size
  have HP2 := G1.below hb2
  have p2 : W2.heap[pb]? = some (.cells #[tv, .int .i64 (pos : Int), .slice (some ⟨sb, 0, none⟩) (low.length + 1) scap] 76 (0, 0)) := (hb2.block pb (by omega)).trans p1'
  have hT2 := TR_kept G2 (fun g hg => hb2.block g (by have := (hF0 g (List.mem_append_right _ hg)).2; omega))
  have hgaB : B ≤ W.heap.size + 1 := by omega
  have hgaN : W.heap.size ≤ W.heap.size + 1 := by omega
  have htc : TC W2 B 53 t [.int .i64 t.kind, .string t.text, .slice hvA t.kids.length hvc] Ft := by
   cases t
   rw [TC_mk]
   exact ⟨_, rfl, hT2⟩
  have HTC := ak (show TC W2 B 53 (.mk kind noText [t]) [.int .i64 kind, .string ⟨#[]⟩, .slice (some ⟨(W.heap.size + 1), 0, none⟩) 1 1] ((W.heap.size + 1) :: Ft) from TC_mk.2 ⟨_, rfl, TR_one hgaB ga htc⟩)
  obtain ⟨sv, h1, cs, Fs, h2, hFs, h4⟩ := HP2.obj
  have hsv : sv = .slice (some ⟨sb, 0, none⟩) (low.length + 1) scap := by
   rw [p2] at h1
   simpa using h1.symm
  subst hsv
  rw [List.length_append, List.length_singleton] at h2
  have hN2 : (F0 ++ ((W.heap.size + 1) :: Ft)).Nodup := by
   rw [nodup_app] at hnd ⊢
   refine ⟨hnd.1, List.nodup_cons.2 ⟨fun hh => ?_, hnd.2.1⟩, fun x hx hx2 => ?_⟩
   ·have := (hF0 (W.heap.size + 1) (List.mem_append_right _ hh)).2
    omega
   ·rcases List.mem_cons.1 hx2 with hx2 | hx2
    ·have := (hF0 x (List.mem_append_left _ hx)).2
     omega
    ·exact hnd.2.2 x hx hx2
  have hp2 : pb ∉ (W.heap.size + 1) :: Ft := fun hh => by
   rcases List.mem_cons.1 hh with hh | hh
   ·omega
   ·exact hpF (List.mem_append_right _ hh)
  have hBW : B ≤ W2.heap.size := by omega
  have hpsv : some pb ≠ (Value.slice (some ⟨sb, 0, none⟩) (low.length + 1) scap).ownBlock := fun e => hpF (List.mem_append_left _ (by rw [hFs]; exact List.mem_append_left _ (own1_mem.2 e.symm)))
  have hbsv : some W.heap.size ≠ (Value.slice (some ⟨sb, 0, none⟩) (low.length + 1) scap).ownBlock := fun e => by
   simp only [Value.ownBlock, Option.some.injEq] at e
   omega
  have hpl2 : pb < W2.heap.size := by omega
  have hbl2 : W.heap.size < W2.heap.size := by omega
  have HH := ak (And.intro HP2 (And.intro h4 (And.intro hFs (And.intro hN2 (And.intro hp2 (And.intro h2 (And.intro hs2 (And.intro hb2 (And.intro p2 hgaN)))))))))
  have b2 : W2.heap[W.heap.size]? = some (.cells #[.int .i64 t.kind, .string t.text, .slice hvA t.kids.length hvc] 53 (0, 0)) := (hb2.block _ (by omega)).trans hbx
  have HB2 := ak b2
  have HZ := ak gz
  have HNN := ak (And.intro hpsv hbsv)
  have o3d := blk_frozen p2 2
  have HO3 := ak o3d
  clear G1 G2 G3 hF0 hnd hpF hF p1' hbx hT2 htc h1 h4 hFs hN2 hp2 h2 hb2 p2 ga gz HP2 hpsv hbsv b2 hgaN o3d hgaB
  refine wpAnyLast_ready (rs := [10]) (by kernel_rfl) (by simp) (AllReadyL.cons rfl (by simp) (fun K hK => ?_) AllReadyL.nil)
  refine step_append_at (W := W2) B (W.heap.size + 1 + 1) (by rfl) (.tmp 45) (.tmp 51) 51 53 (.agg #[.int .i64 0, .string ⟨#[]⟩, .slice none 0 0]) 3 48 (by rfl) Tryz.underlying51 infoT rfl (by decide) (by decide) (.slice (some ⟨sb, 0, none⟩) (low.length + 1) scap) (low.length + 1) cs [.int .i64 0, .string ⟨#[]⟩, .slice none 0 0] rfl rfl rfl (by intro u hu; simp only [List.mem_cons, List.not_mem_nil, or_false] at hu; rcases hu with rfl | rfl | rfl <;> rfl) HH.out.2.2.2.2.2.1 HZ.out hBW (by omega) ?_
  intro v1 w1 hown hg hat
  obtain ⟨g1, cap1, rfl, a1, a2, a3, a4, a5, a6⟩ := own_new hown
  have r0 : w1.cell? ⟨pb, 2, none⟩ = some (.slice (some ⟨sb, 0, none⟩) (low.length + 1) scap) := (blk_cell ((hg.block pb hpl2 HNN.out.1).trans HH.out.2.2.2.2.2.2.2.2.1) 2).trans rfl
  have r4 : w1.frozen? ⟨pb, 2, none⟩ = false := (World.frozen?_of_block (hg.block pb hpl2 HNN.out.1)).trans HO3.out
  have rbk := (hg.block W.heap.size hbl2 HNN.out.2).trans HB2.out
  have r1 : w1.cell? ⟨W.heap.size, 0, none⟩ = some (.int .i64 t.kind) := (blk_cell rbk 0).trans rfl
  have r2 : w1.cell? ⟨W.heap.size, 1, none⟩ = some (.string t.text) := (blk_cell rbk 1).trans rfl
  have r3 : w1.cell? ⟨W.heap.size, 2, none⟩ = some (.slice hvA t.kids.length hvc) := (blk_cell rbk 2).trans rfl
  clear rbk
  have hgs := new_ne hat HNN.out.1 hpl2
  have hgp : pb ≠ g1 := fun e => hgs e.symm
  have hgb := new_ne hat HNN.out.2 hbl2
  have hgb' : W.heap.size ≠ g1 := fun e => hgb e.symm
  have a4' : ((w1.setCell ⟨g1, (low.length + 1) * 3, none⟩ (.int .i64 kind)).setCell ⟨g1, (low.length + 1) * 3 + 1, none⟩ (.string ⟨#[]⟩)).cell? ⟨g1, (low.length + 1) * 3 + 2, none⟩ = some (.slice none 0 0) := (by rw [World.cell?_setCell_other _ _ _ _ (by intro e; injection e; omega), World.cell?_setCell_other _ _ _ _ (by intro e; injection e; omega)]; exact a5)
  have HFin := ak (show ∃ F', PS 76 53 B T tv pb ((((w1.setCell ⟨g1, (low.length + 1) * 3, none⟩ (.int .i64 kind)).setCell ⟨g1, (low.length + 1) * 3 + 1, none⟩ (.string ⟨#[]⟩)).setCell ⟨g1, (low.length + 1) * 3 + 2, none⟩ (.slice (some ⟨(W.heap.size + 1), 0, none⟩) 1 1)).setCell ⟨pb, 2, none⟩ (.slice (some ⟨g1, 0, none⟩) (low.length + 1 + 1) cap1)) pos ((low ++ [.mk kd tx ks]) ++ [.mk kind noText [t]]) F' ∧ Fr pb F F' W ((((w1.setCell ⟨g1, (low.length + 1) * 3, none⟩ (.int .i64 kind)).setCell ⟨g1, (low.length + 1) * 3 + 1, none⟩ (.string ⟨#[]⟩)).setCell ⟨g1, (low.length + 1) * 3 + 2, none⟩ (.slice (some ⟨(W.heap.size + 1), 0, none⟩) 1 1)).setCell ⟨pb, 2, none⟩ (.slice (some ⟨g1, 0, none⟩) (low.length + 1 + 1) cap1)) by
   obtain ⟨HP2, h4, hFs, hN2, hp2, h2, hs2, hb2, p2, hgaN⟩ := HH.out
   obtain ⟨G1, G2, G3, hF0, hnd, hpF, hF⟩ := HG.out
   rw [hFs] at HP2 hN2
   have hlen : (low ++ [Tree.mk kd tx ks]).length = low.length + 1 := by rw [List.length_append, List.length_singleton]
   obtain ⟨F', f1, f2⟩ := PS.push_mem (t := .mk kind noText [t]) (W1 := (((w1.setCell ⟨g1, (low.length + 1) * 3, none⟩ (.int .i64 kind)).setCell ⟨g1, (low.length + 1) * 3 + 1, none⟩ (.string ⟨#[]⟩)).setCell ⟨g1, (low.length + 1) * 3 + 2, none⟩ (.slice (some ⟨(W.heap.size + 1), 0, none⟩) 1 1))) (v1 := .slice (some ⟨g1, 0, none⟩) (low.length + 1 + 1) cap1) (c := [.int .i64 kind, .string ⟨#[]⟩, .slice (some ⟨(W.heap.size + 1), 0, none⟩) 1 1]) HP2 p2 h4 HTC.out hN2 hp2 (by rw [hlen]; exact own_put3 (x := .int .i64 kind) (y := .string ⟨#[]⟩) (z := .slice (some ⟨(W.heap.size + 1), 0, none⟩) 1 1) hown (by rw [TL_len _ cs Fs h4, hlen])) hat hg.os hg.tape hg.output (by have := hg.size; simpa [World.setCell] using this) (fun g h1 h2 => by
    have hgg := new_ne hat h2 h1
    rw [Below.heap_setCell _ _ _ g (Ne.symm hgg), Below.heap_setCell _ _ _ g (Ne.symm hgg), Below.heap_setCell _ _ _ g (Ne.symm hgg)]
    exact hg.block g h1 h2)
   refine ⟨F', f1, ⟨f2.os.trans (hb2.os.trans G3.os), f2.tape.trans (hb2.tape.trans G3.tape), f2.output.trans (hb2.output.trans G3.output), Nat.le_trans G3.size (Nat.le_trans hs2 f2.size), fun g k1 k2 k3 => ?_, fun g hg => ?_⟩⟩
   ·have hs3 := G3.size
    rw [f2.kept g (by omega) k2 (fun hh => ?_), hb2.block g (by omega), G3.kept g k1 k2 k3]
    rw [← hFs] at hh
    rcases List.mem_append.1 hh with hh | hh
    ·exact k3 (by rw [hF]; exact List.mem_append_left _ hh)
    ·rcases List.mem_cons.1 hh with hh | hh
     ·omega
     ·exact k3 (by rw [hF]; exact List.mem_append_right _ hh)
   ·have hs3 := G3.size
    rcases f2.rows g hg with hh | hh
    ·rw [← hFs] at hh
     rcases List.mem_append.1 hh with hh | hh
     ·exact .inl (by rw [hF]; exact List.mem_append_left _ hh)
     ·rcases List.mem_cons.1 hh with hh | hh
      ·exact .inr (by rw [hh]; exact hgaN)
      ·exact .inl (by rw [hF]; exact List.mem_append_right _ hh)
    ·exact .inr (by omega))
  clear hown hg hat
  have jj0 : (0 : Int) ≤ (low.length : Int) + 1 := by omega
  have jj1 : (low.length : Int) + 1 < ((low.length + 1 + 1 : Nat) : Int) := by omega
  have jj2 : (low.length : Int) + 1 < (low.length : Int) + 1 + 1 := by omega
  have jt : ((low.length : Int) + 1).toNat = low.length + 1 := by omega
  refine hK.out _ _ ⟨r0, r1, r2, r3⟩ (fun hS => ?_)
  clear hK
  try simp only [Act.put, sia, List.set]
  refine pure_ (i := 11) (v := .pointer (some ⟨g1, (low.length + 1) * 3, none⟩)) #[true, true, true, true, true, true, true, true, true, true, true, true, false, false, false, false] rfl rfl (by kernel_rfl) (fun _ _ _ h => h) (Or.inl ⟨by rfl, by intro w'; go_simp⟩) rfl ?_
  simp only [Act.put, sia, List.set]
  refine pure_ (i := 13) (v := .pointer (some ⟨pb, 0, none⟩)) #[true, true, true, true, true, true, true, true, true, true, true, true, false, true, false, false] rfl rfl (by kernel_rfl) (fun _ _ _ h => h) (Or.inl ⟨by rfl, by intro w'; go_simp⟩) rfl ?_
  simp only [Act.put, sia, List.set]
  refine pure_ (i := 14) (v := .pointer (some ⟨pb, 2, none⟩)) #[true, true, true, true, true, true, true, true, true, true, true, true, false, true, true, false] rfl rfl (by kernel_rfl) (fun _ _ _ h => h) (Or.inl ⟨by rfl, by intro w'; go_simp⟩) rfl ?_
  simp only [Act.put, sia, List.set]
  refine wpAnyLast_ready (rs := [12, 15]) (by kernel_rfl) (by simp) (AllReadyL.cons rfl (by simp) (fun K hK => ?_) (AllReadyL.cons_last rfl (by simp) (fun K hK => ?_) AllReadyL.nil))
  ·go_simp
   refine hK.out _ _ (by go_keep) (fun hS => ?_)
   clear hK
   try simp only [Act.put, sia, List.set]
   refine wpAnyLast_ready (rs := [15]) (by kernel_rfl) (by simp) (AllReadyL.cons_last rfl (by simp) (fun K hK => ?_) AllReadyL.nil)
   go_simp
   refine hK.out _ _ ?_
   refine wpAnyLast_done (by kernel_rfl) ?_ _
   clear hK hS
   obtain ⟨F2, h2, f2⟩ := HFin.out
   refine ‹∀ (a : Act) (w : World), (Code.seq _ _).wp _ _ a w → _› _ _ ?_
   generalize (((w1.setCell ⟨g1, (low.length + 1) * 3, none⟩ (.int .i64 kind)).setCell ⟨g1, (low.length + 1) * 3 + 1, none⟩ (.string ⟨#[]⟩)).setCell ⟨g1, (low.length + 1) * 3 + 2, none⟩ (.slice (some ⟨(W.heap.size + 1), 0, none⟩) 1 1)).setCell ⟨pb, 2, none⟩ (.slice (some ⟨g1, 0, none⟩) (low.length + 1 + 1) cap1) = W3 at h2 f2 ⊢
   have H2 := ak (And.intro h2 f2)
   clear h2 f2 r0 r1 r2 r3 r4 a1 a2 a3 a4 a5 a6 a4' hgs hgp hgb hgb' HFin
   go_wp2_with fail
   refine (HF.out W3 F2 H2.out.1 H2.out.2).mono ?_
   rintro e W4 ⟨⟨v, rfl⟩, F3, h3, f3⟩
   have H3 := ak (And.intro h3 (H2.out.2.trans f3))
   clear h3 f3 H2
   go_wp2_with fail
   refine (finish_calls (.mk kind noText s'.2) H3.out.1 hsm).mono ?_
   rintro e W5 ⟨rfl, F4, h4, f4⟩
   have H4 := ak (And.intro h4 (H3.out.2.trans f4))
   clear h4 f4 H3
   go_wp2_with fail
   go_end0
   exact ⟨rfl, F4, H4.out⟩
  ·go_simp
   refine hK.out _ _ ?_
   clear hK
   try simp only [Act.put, sia, List.set]
   refine wpAnyLast_ready (rs := [12]) (by kernel_rfl) (by simp) (cons_if rfl (fun K hK => ?_) AllReadyL.nil)
   go_simp
   refine hK.out _ _ (by rintro ⟨z1, z2, z3, z4⟩; go_keep) ?_
   refine wpAnyLast_done (by kernel_rfl) ?_ _
   clear hK
   rw [setCell_comm3 w1 g1 pb _ _ _ _ _ _ _ _ hgs]
   obtain ⟨F2, h2, f2⟩ := HFin.out
   refine ‹∀ (a : Act) (w : World), (Code.seq _ _).wp _ _ a w → _› _ _ ?_
   generalize (((w1.setCell ⟨g1, (low.length + 1) * 3, none⟩ (.int .i64 kind)).setCell ⟨g1, (low.length + 1) * 3 + 1, none⟩ (.string ⟨#[]⟩)).setCell ⟨g1, (low.length + 1) * 3 + 2, none⟩ (.slice (some ⟨(W.heap.size + 1), 0, none⟩) 1 1)).setCell ⟨pb, 2, none⟩ (.slice (some ⟨g1, 0, none⟩) (low.length + 1 + 1) cap1) = W3 at h2 f2 ⊢
   have H2 := ak (And.intro h2 f2)
   clear h2 f2 r0 r1 r2 r3 r4 a1 a2 a3 a4 a5 a6 a4' hgs hgp hgb hgb' HFin
   go_wp2_with fail
   refine (HF.out W3 F2 H2.out.1 H2.out.2).mono ?_
   rintro e W4 ⟨⟨v, rfl⟩, F3, h3, f3⟩
   have H3 := ak (And.intro h3 (H2.out.2.trans f3))
   clear h3 f3 H2
   go_wp2_with fail
   refine (finish_calls (.mk kind noText s'.2) H3.out.1 hsm).mono ?_
   rintro e W5 ⟨rfl, F4, h4, f4⟩
   have H4 := ak (And.intro h4 (H3.out.2.trans f4))
   clear h4 f4 H3
   go_wp2_with fail
   go_end0
   exact ⟨rfl, F4, H4.out⟩
 ·go_simp
  refine hK.out _ _ (by go_keep) (fun hS => ?_)
  clear hK
  try simp only [Act.put, sia, List.set]
  refine wpAnyLast_ready (rs := [6]) (by kernel_rfl) (by simp) (AllReadyL.cons rfl (by simp) (fun K hK => ?_) AllReadyL.nil)
  go_simp
  refine hK.out _ _ (by go_keep) (fun hS => ?_)
  clear hK
  try simp only [Act.put, sia, List.set]
  refine wpAnyLast_take (i := 7) (v := .agg #[.int .i64 kind, .string ⟨#[]⟩, .slice (some ⟨W1.heap.size + 1, 0, none⟩) 1 1]) rfl (by kernel_rfl) (by kernel_rfl) (by kernel_rfl) (by kernel_rfl) (by kernel_rfl) (fun _ _ _ h => h) (Or.inl ⟨by rfl, by rintro w' ⟨z1, z2, z3, z4⟩; go_simp⟩) hS ?_
  simp only [Act.put, sia, List.set]
  obtain ⟨W2, hW2⟩ : ∃ W2, ((W1.alloc (Obj.cells #[.int .i64 0, .string ⟨#[]⟩, .slice none 0 0] 53)).alloc (Obj.cells #[.int .i64 t.kind, .string t.text, .slice hvA t.kids.length hvc] 53)).drew = W2 := ⟨_, rfl⟩
  have hb2 : Below W1.heap.size W1 W2 := by rw [← hW2]; exact below_drew (below_alloc (below_alloc (Below.refl _ _) _) _)
  have ga : W2.heap[W.heap.size + 1 + 1]? = some (.cells #[.int .i64 t.kind, .string t.text, .slice hvA t.kids.length hvc] 53 (0, 0)) := by rw [← hW2]; have := blk_new (W1.alloc (Obj.cells #[.int .i64 0, .string ⟨#[]⟩, .slice none 0 0] 53)) (Obj.cells #[.int .i64 t.kind, .string t.text, .slice hvA t.kids.length hvc] 53); rw [World.size_alloc, hsz1] at this; exact this
  have gz : W2.heap[W.heap.size + 1]? = some (.cells #[.int .i64 0, .string ⟨#[]⟩, .slice none 0 0] 53 (0, 0)) := by rw [← hW2]; rw [← hsz1]; exact blk_alloc (blk_new W1 _) _
  rw [hW2] at hS ⊢
  clear hW2
  obtain ⟨G1, G2, G3, hF0, hnd, hpF, hF⟩ := HG.out
  obtain ⟨p1', hbx, _⟩ := HP1.out
  have hs2 : W1.heap.size ≤ W2.heap.size := hb2.size
  have HP2 := G1.below hb2
  have p2 : W2.heap[pb]? = some (.cells #[tv, .int .i64 (pos : Int), .slice (some ⟨sb, 0, none⟩) (low.length + 1) scap] 76 (0, 0)) := (hb2.block pb (by omega)).trans p1'
  have hT2 := TR_kept G2 (fun g hg => hb2.block g (by have := (hF0 g (List.mem_append_right _ hg)).2; omega))
  have hgaB : B ≤ W.heap.size + 1 + 1 := by omega
  have hgaN : W.heap.size ≤ W.heap.size + 1 + 1 := by omega
  have htc : TC W2 B 53 t [.int .i64 t.kind, .string t.text, .slice hvA t.kids.length hvc] Ft := by
   cases t
   rw [TC_mk]
   exact ⟨_, rfl, hT2⟩
  have HTC := ak (show TC W2 B 53 (.mk kind noText [t]) [.int .i64 kind, .string ⟨#[]⟩, .slice (some ⟨(W.heap.size + 1 + 1), 0, none⟩) 1 1] ((W.heap.size + 1 + 1) :: Ft) from TC_mk.2 ⟨_, rfl, TR_one hgaB ga htc⟩)
  obtain ⟨sv, h1, cs, Fs, h2, hFs, h4⟩ := HP2.obj
  have hsv : sv = .slice (some ⟨sb, 0, none⟩) (low.length + 1) scap := by
   rw [p2] at h1
   simpa using h1.symm
  subst hsv
  rw [List.length_append, List.length_singleton] at h2
  have hN2 : (F0 ++ ((W.heap.size + 1 + 1) :: Ft)).Nodup := by
   rw [nodup_app] at hnd ⊢
   refine ⟨hnd.1, List.nodup_cons.2 ⟨fun hh => ?_, hnd.2.1⟩, fun x hx hx2 => ?_⟩
   ·have := (hF0 (W.heap.size + 1 + 1) (List.mem_append_right _ hh)).2
    omega
   ·rcases List.mem_cons.1 hx2 with hx2 | hx2
    ·have := (hF0 x (List.mem_append_left _ hx)).2
     omega
    ·exact hnd.2.2 x hx hx2
  have hp2 : pb ∉ (W.heap.size + 1 + 1) :: Ft := fun hh => by
   rcases List.mem_cons.1 hh with hh | hh
   ·omega
   ·exact hpF (List.mem_append_right _ hh)
  have hBW : B ≤ W2.heap.size := by omega
  have hpsv : some pb ≠ (Value.slice (some ⟨sb, 0, none⟩) (low.length + 1) scap).ownBlock := fun e => hpF (List.mem_append_left _ (by rw [hFs]; exact List.mem_append_left _ (own1_mem.2 e.symm)))
  have hbsv : some W.heap.size ≠ (Value.slice (some ⟨sb, 0, none⟩) (low.length + 1) scap).ownBlock := fun e => by
   simp only [Value.ownBlock, Option.some.injEq] at e
   omega
  have hpl2 : pb < W2.heap.size := by omega
  have hbl2 : W.heap.size < W2.heap.size := by omega
  have HH := ak (And.intro HP2 (And.intro h4 (And.intro hFs (And.intro hN2 (And.intro hp2 (And.intro h2 (And.intro hs2 (And.intro hb2 (And.intro p2 hgaN)))))))))
  have b2 : W2.heap[W.heap.size]? = some (.cells #[.int .i64 t.kind, .string t.text, .slice hvA t.kids.length hvc] 53 (0, 0)) := (hb2.block _ (by omega)).trans hbx
  have HB2 := ak b2
  have HZ := ak gz
  have HNN := ak (And.intro hpsv hbsv)
  have o3d := blk_frozen p2 2
  have HO3 := ak o3d
  clear G1 G2 G3 hF0 hnd hpF hF p1' hbx hT2 htc h1 h4 hFs hN2 hp2 h2 hb2 p2 ga gz HP2 hpsv hbsv b2 hgaN o3d hgaB
  refine wpAnyLast_ready (rs := [10]) (by kernel_rfl) (by simp) (AllReadyL.cons rfl (by simp) (fun K hK => ?_) AllReadyL.nil)
  refine step_append_at (W := W2) B (W.heap.size + 1) (by rfl) (.tmp 45) (.tmp 51) 51 53 (.agg #[.int .i64 0, .string ⟨#[]⟩, .slice none 0 0]) 3 48 (by rfl) Tryz.underlying51 infoT rfl (by decide) (by decide) (.slice (some ⟨sb, 0, none⟩) (low.length + 1) scap) (low.length + 1) cs [.int .i64 0, .string ⟨#[]⟩, .slice none 0 0] rfl rfl rfl (by intro u hu; simp only [List.mem_cons, List.not_mem_nil, or_false] at hu; rcases hu with rfl | rfl | rfl <;> rfl) HH.out.2.2.2.2.2.1 HZ.out hBW (by omega) ?_
  intro v1 w1 hown hg hat
  obtain ⟨g1, cap1, rfl, a1, a2, a3, a4, a5, a6⟩ := own_new hown
  have r0 : w1.cell? ⟨pb, 2, none⟩ = some (.slice (some ⟨sb, 0, none⟩) (low.length + 1) scap) := (blk_cell ((hg.block pb hpl2 HNN.out.1).trans HH.out.2.2.2.2.2.2.2.2.1) 2).trans rfl
  have r4 : w1.frozen? ⟨pb, 2, none⟩ = false := (World.frozen?_of_block (hg.block pb hpl2 HNN.out.1)).trans HO3.out
  have rbk := (hg.block W.heap.size hbl2 HNN.out.2).trans HB2.out
  have r1 : w1.cell? ⟨W.heap.size, 0, none⟩ = some (.int .i64 t.kind) := (blk_cell rbk 0).trans rfl
  have r2 : w1.cell? ⟨W.heap.size, 1, none⟩ = some (.string t.text) := (blk_cell rbk 1).trans rfl
  have r3 : w1.cell? ⟨W.heap.size, 2, none⟩ = some (.slice hvA t.kids.length hvc) := (blk_cell rbk 2).trans rfl
  clear rbk
  have hgs := new_ne hat HNN.out.1 hpl2
  have hgp : pb ≠ g1 := fun e => hgs e.symm
  have hgb := new_ne hat HNN.out.2 hbl2
  have hgb' : W.heap.size ≠ g1 := fun e => hgb e.symm
  have a4' : ((w1.setCell ⟨g1, (low.length + 1) * 3, none⟩ (.int .i64 kind)).setCell ⟨g1, (low.length + 1) * 3 + 1, none⟩ (.string ⟨#[]⟩)).cell? ⟨g1, (low.length + 1) * 3 + 2, none⟩ = some (.slice none 0 0) := (by rw [World.cell?_setCell_other _ _ _ _ (by intro e; injection e; omega), World.cell?_setCell_other _ _ _ _ (by intro e; injection e; omega)]; exact a5)
  have HFin := ak (show ∃ F', PS 76 53 B T tv pb ((((w1.setCell ⟨g1, (low.length + 1) * 3, none⟩ (.int .i64 kind)).setCell ⟨g1, (low.length + 1) * 3 + 1, none⟩ (.string ⟨#[]⟩)).setCell ⟨g1, (low.length + 1) * 3 + 2, none⟩ (.slice (some ⟨(W.heap.size + 1 + 1), 0, none⟩) 1 1)).setCell ⟨pb, 2, none⟩ (.slice (some ⟨g1, 0, none⟩) (low.length + 1 + 1) cap1)) pos ((low ++ [.mk kd tx ks]) ++ [.mk kind noText [t]]) F' ∧ Fr pb F F' W ((((w1.setCell ⟨g1, (low.length + 1) * 3, none⟩ (.int .i64 kind)).setCell ⟨g1, (low.length + 1) * 3 + 1, none⟩ (.string ⟨#[]⟩)).setCell ⟨g1, (low.length + 1) * 3 + 2, none⟩ (.slice (some ⟨(W.heap.size + 1 + 1), 0, none⟩) 1 1)).setCell ⟨pb, 2, none⟩ (.slice (some ⟨g1, 0, none⟩) (low.length + 1 + 1) cap1)) by
   obtain ⟨HP2, h4, hFs, hN2, hp2, h2, hs2, hb2, p2, hgaN⟩ := HH.out
   obtain ⟨G1, G2, G3, hF0, hnd, hpF, hF⟩ := HG.out
   rw [hFs] at HP2 hN2
   have hlen : (low ++ [Tree.mk kd tx ks]).length = low.length + 1 := by rw [List.length_append, List.length_singleton]
   obtain ⟨F', f1, f2⟩ := PS.push_mem (t := .mk kind noText [t]) (W1 := (((w1.setCell ⟨g1, (low.length + 1) * 3, none⟩ (.int .i64 kind)).setCell ⟨g1, (low.length + 1) * 3 + 1, none⟩ (.string ⟨#[]⟩)).setCell ⟨g1, (low.length + 1) * 3 + 2, none⟩ (.slice (some ⟨(W.heap.size + 1 + 1), 0, none⟩) 1 1))) (v1 := .slice (some ⟨g1, 0, none⟩) (low.length + 1 + 1) cap1) (c := [.int .i64 kind, .string ⟨#[]⟩, .slice (some ⟨(W.heap.size + 1 + 1), 0, none⟩) 1 1]) HP2 p2 h4 HTC.out hN2 hp2 (by rw [hlen]; exact own_put3 (x := .int .i64 kind) (y := .string ⟨#[]⟩) (z := .slice (some ⟨(W.heap.size + 1 + 1), 0, none⟩) 1 1) hown (by rw [TL_len _ cs Fs h4, hlen])) hat hg.os hg.tape hg.output (by have := hg.size; simpa [World.setCell] using this) (fun g h1 h2 => by
    have hgg := new_ne hat h2 h1
    rw [Below.heap_setCell _ _ _ g (Ne.symm hgg), Below.heap_setCell _ _ _ g (Ne.symm hgg), Below.heap_setCell _ _ _ g (Ne.symm hgg)]
    exact hg.block g h1 h2)
   refine ⟨F', f1, ⟨f2.os.trans (hb2.os.trans G3.os), f2.tape.trans (hb2.tape.trans G3.tape), f2.output.trans (hb2.output.trans G3.output), Nat.le_trans G3.size (Nat.le_trans hs2 f2.size), fun g k1 k2 k3 => ?_, fun g hg => ?_⟩⟩
   ·have hs3 := G3.size
    rw [f2.kept g (by omega) k2 (fun hh => ?_), hb2.block g (by omega), G3.kept g k1 k2 k3]
    rw [← hFs] at hh
    rcases List.mem_append.1 hh with hh | hh
    ·exact k3 (by rw [hF]; exact List.mem_append_left _ hh)
    ·rcases List.mem_cons.1 hh with hh | hh
     ·omega
     ·exact k3 (by rw [hF]; exact List.mem_append_right _ hh)
   ·have hs3 := G3.size
    rcases f2.rows g hg with hh | hh
    ·rw [← hFs] at hh
     rcases List.mem_append.1 hh with hh | hh
     ·exact .inl (by rw [hF]; exact List.mem_append_left _ hh)
     ·rcases List.mem_cons.1 hh with hh | hh
      ·exact .inr (by rw [hh]; exact hgaN)
      ·exact .inl (by rw [hF]; exact List.mem_append_right _ hh)
    ·exact .inr (by omega))
  clear hown hg hat
  have jj0 : (0 : Int) ≤ (low.length : Int) + 1 := by omega
  have jj1 : (low.length : Int) + 1 < ((low.length + 1 + 1 : Nat) : Int) := by omega
  have jj2 : (low.length : Int) + 1 < (low.length : Int) + 1 + 1 := by omega
  have jt : ((low.length : Int) + 1).toNat = low.length + 1 := by omega
  refine hK.out _ _ ⟨r0, r1, r2, r3⟩ (fun hS => ?_)
  clear hK
  try simp only [Act.put, sia, List.set]
  refine pure_ (i := 11) (v := .pointer (some ⟨g1, (low.length + 1) * 3, none⟩)) #[true, true, true, true, true, true, true, true, true, true, true, true, false, false, false, false] rfl rfl (by kernel_rfl) (fun _ _ _ h => h) (Or.inl ⟨by rfl, by intro w'; go_simp⟩) rfl ?_
  simp only [Act.put, sia, List.set]
  refine pure_ (i := 13) (v := .pointer (some ⟨pb, 0, none⟩)) #[true, true, true, true, true, true, true, true, true, true, true, true, false, true, false, false] rfl rfl (by kernel_rfl) (fun _ _ _ h => h) (Or.inl ⟨by rfl, by intro w'; go_simp⟩) rfl ?_
  simp only [Act.put, sia, List.set]
  refine pure_ (i := 14) (v := .pointer (some ⟨pb, 2, none⟩)) #[true, true, true, true, true, true, true, true, true, true, true, true, false, true, true, false] rfl rfl (by kernel_rfl) (fun _ _ _ h => h) (Or.inl ⟨by rfl, by intro w'; go_simp⟩) rfl ?_
  simp only [Act.put, sia, List.set]
  refine wpAnyLast_ready (rs := [12, 15]) (by kernel_rfl) (by simp) (AllReadyL.cons rfl (by simp) (fun K hK => ?_) (AllReadyL.cons_last rfl (by simp) (fun K hK => ?_) AllReadyL.nil))
  ·go_simp
   refine hK.out _ _ (by go_keep) (fun hS => ?_)
   clear hK
   try simp only [Act.put, sia, List.set]
   refine wpAnyLast_ready (rs := [15]) (by kernel_rfl) (by simp) (AllReadyL.cons_last rfl (by simp) (fun K hK => ?_) AllReadyL.nil)
   go_simp
   refine hK.out _ _ ?_
   refine wpAnyLast_done (by kernel_rfl) ?_ _
   clear hK hS
   obtain ⟨F2, h2, f2⟩ := HFin.out
   refine ‹∀ (a : Act) (w : World), (Code.seq _ _).wp _ _ a w → _› _ _ ?_
   generalize (((w1.setCell ⟨g1, (low.length + 1) * 3, none⟩ (.int .i64 kind)).setCell ⟨g1, (low.length + 1) * 3 + 1, none⟩ (.string ⟨#[]⟩)).setCell ⟨g1, (low.length + 1) * 3 + 2, none⟩ (.slice (some ⟨(W.heap.size + 1 + 1), 0, none⟩) 1 1)).setCell ⟨pb, 2, none⟩ (.slice (some ⟨g1, 0, none⟩) (low.length + 1 + 1) cap1) = W3 at h2 f2 ⊢
   have H2 := ak (And.intro h2 f2)
   clear h2 f2 r0 r1 r2 r3 r4 a1 a2 a3 a4 a5 a6 a4' hgs hgp hgb hgb' HFin
   go_wp2_with fail
   refine (HF.out W3 F2 H2.out.1 H2.out.2).mono ?_
   rintro e W4 ⟨⟨v, rfl⟩, F3, h3, f3⟩
   have H3 := ak (And.intro h3 (H2.out.2.trans f3))
   clear h3 f3 H2
   go_wp2_with fail
   refine (finish_calls (.mk kind noText s'.2) H3.out.1 hsm).mono ?_
   rintro e W5 ⟨rfl, F4, h4, f4⟩
   have H4 := ak (And.intro h4 (H3.out.2.trans f4))
   clear h4 f4 H3
   go_wp2_with fail
   go_end0
   exact ⟨rfl, F4, H4.out⟩
  ·go_simp
   refine hK.out _ _ ?_
   clear hK
   try simp only [Act.put, sia, List.set]
   refine wpAnyLast_ready (rs := [12]) (by kernel_rfl) (by simp) (cons_if rfl (fun K hK => ?_) AllReadyL.nil)
   go_simp
   refine hK.out _ _ (by rintro ⟨z1, z2, z3, z4⟩; go_keep) ?_
   refine wpAnyLast_done (by kernel_rfl) ?_ _
   clear hK
   rw [setCell_comm3 w1 g1 pb _ _ _ _ _ _ _ _ hgs]
   obtain ⟨F2, h2, f2⟩ := HFin.out
   refine ‹∀ (a : Act) (w : World), (Code.seq _ _).wp _ _ a w → _› _ _ ?_
   generalize (((w1.setCell ⟨g1, (low.length + 1) * 3, none⟩ (.int .i64 kind)).setCell ⟨g1, (low.length + 1) * 3 + 1, none⟩ (.string ⟨#[]⟩)).setCell ⟨g1, (low.length + 1) * 3 + 2, none⟩ (.slice (some ⟨(W.heap.size + 1 + 1), 0, none⟩) 1 1)).setCell ⟨pb, 2, none⟩ (.slice (some ⟨g1, 0, none⟩) (low.length + 1 + 1) cap1) = W3 at h2 f2 ⊢
   have H2 := ak (And.intro h2 f2)
   clear h2 f2 r0 r1 r2 r3 r4 a1 a2 a3 a4 a5 a6 a4' hgs hgp hgb hgb' HFin
   go_wp2_with fail
   refine (HF.out W3 F2 H2.out.1 H2.out.2).mono ?_
   rintro e W4 ⟨⟨v, rfl⟩, F3, h3, f3⟩
   have H3 := ak (And.intro h3 (H2.out.2.trans f3))
   clear h3 f3 H2
   go_wp2_with fail
   refine (finish_calls (.mk kind noText s'.2) H3.out.1 hsm).mono ?_
   rintro e W5 ⟨rfl, F4, h4, f4⟩
   have H4 := ak (And.intro h4 (H3.out.2.trans f4))
   clear h4 f4 H3
   go_wp2_with fail
   go_end0
   exact ⟨rfl, F4, H4.out⟩
end Go.Proofs.YtkijamagbgigmaaGreatDoor.Par
namespace Go.Proofs.YtkijamagbgigmaaGreatDoor.Par
open Go.RowKit Go.Proofs.YtkijamagbgigmaaGreatDoorW.PrintWords Go.Proofs.YtkijamagbgigmaaGreatDoorW.PrintLast
structure Now (B : Nat) (T : List Tok) (tv : Value) (pb : Nat) (m : Nat) (low : List Tree) (kd : Int) (tx : ByteArray) (W0 : World) (F0 : List Nat) (W : World) (s : St) : Prop where
 st : ∃ F, PS 76 53 B T tv pb W s.1 (low ++ [.mk kd tx s.2]) F ∧ Fr pb F0 F W0 W
 pos : s.1 ≤ T.length
 len : T.length ≤ 100000
 low : low.length ≤ 10000000
 kids : s.2.length ≤ s.1 + m
structure Apart (pb : Nat) (W0 : World) (F0 : List Nat) (b : Nat) : Prop where
 lt : b < W0.heap.size
 ne : b ≠ pb
 nin : b ∉ F0
abbrev NowP (B : Nat) (T : List Tok) (tv : Value) (pb : Nat) (m : Nat) (low : List Tree) (kd : Int) (tx : ByteArray) (W0 : World) (F0 : List Nat) (v : Value) (s : St) : Ending → World → Prop := fun e W' => e = .returned v ∧ Now B T tv pb m low kd tx W0 F0 W' s
end Go.Proofs.YtkijamagbgigmaaGreatDoor.Par
namespace Go.Proofs.YtkijamagbgigmaaGreatDoor.Par
open Go.RowKit Go.Proofs.YtkijamagbgigmaaGreatDoorW.PrintWords Go.Proofs.YtkijamagbgigmaaGreatDoorW.PrintLast
variable {B : Nat} {T : List Tok} {tv : Value} {pb : Nat} {m : Nat} {low : List Tree} {kd : Int} {tx : ByteArray} {W0 : World} {F0 : List Nat} {W : World} {s : St}
theorem Now.below (N : Now B T tv pb m low kd tx W0 F0 W s) {W' : World} (h : Below W.heap.size W W') : Now B T tv pb m low kd tx W0 F0 W' s := by
 obtain ⟨F, h1, h2⟩ := N.st
 exact ⟨⟨F, h1.below h, h2.trans (Fr.of_below h)⟩, N.pos, N.len, N.low, N.kids⟩
theorem Now.size (N : Now B T tv pb m low kd tx W0 F0 W s) : W0.heap.size ≤ W.heap.size := by
 obtain ⟨F, h1, h2⟩ := N.st
 exact h2.size
theorem Now.keep (N : Now B T tv pb m low kd tx W0 F0 W s) {b : Nat} (a : Apart pb W0 F0 b) : W.heap[b]? = W0.heap[b]? := by
 obtain ⟨F, h1, h2⟩ := N.st
 exact h2.kept b a.lt a.ne a.nin
theorem Now.apart (N : Now B T tv pb m low kd tx W0 F0 W s) {b : Nat} {F : List Nat} (h : Fr pb F0 F W0 W) (a : Apart pb W0 F0 b) : Apart pb W F b := by
 refine ⟨Nat.lt_of_lt_of_le a.lt h.size, a.ne, fun hh => ?_⟩
 rcases h.rows b hh with h1 | h1
 ·exact a.nin h1
 ·have := a.lt
  omega
theorem Now.enter (N : Now B T tv pb m low kd tx W0 F0 W s) {W1 : World} (h : Below W.heap.size W W1) : ∃ F, Now B T tv pb m low kd tx W1 F W1 s ∧ (∀ b, W.heap.size ≤ b → b < W1.heap.size → Apart pb W1 F b) ∧ (∀ b, Apart pb W0 F0 b → Apart pb W1 F b) ∧
  ∀ W' m' low' kd' tx' s', Now B T tv pb m' low' kd' tx' W1 F W' s' → Now B T tv pb m' low' kd' tx' W0 F0 W' s' := by
 obtain ⟨F, h1, h2⟩ := N.st
 have hpl : pb < W.heap.size := by
  obtain ⟨_, g, _⟩ := h1.obj
  exact blk_lt g
 refine ⟨F, ⟨⟨F, h1.below h, Fr.refl _ _ _⟩, N.pos, N.len, N.low, N.kids⟩, fun b h3 h4 => ⟨h4, by omega, fun hh => ?_⟩, fun b a => ?_, fun W' m' low' kd' tx' s' N' => ?_⟩
 ·have := (h1.rowsGe b hh).2
  omega
 ·have := N.apart h2 a
  exact ⟨Nat.lt_of_lt_of_le this.lt h.size, this.ne, this.nin⟩
 ·obtain ⟨F', k1, k2⟩ := N'.st
  exact ⟨⟨F', k1, (h2.trans (Fr.of_below h)).trans k2⟩, N'.pos, N'.len, N'.low, N'.kids⟩
theorem Now.enter2 (N : Now B T tv pb m low kd tx W0 F0 W s) {W1 : World} (h : Below W.heap.size W W1) : ∃ F, Now B T tv pb m low kd tx W1 F W1 s ∧ (∀ b, W.heap.size ≤ b → b < W1.heap.size → Apart pb W1 F b) ∧ (∀ b, Apart pb W0 F0 b → Apart pb W1 F b ∧ W1.heap[b]? = W0.heap[b]?) ∧
  ∀ W' m' low' kd' tx' s', Now B T tv pb m' low' kd' tx' W1 F W' s' → Now B T tv pb m' low' kd' tx' W0 F0 W' s' := by
 obtain ⟨F, h1, h2, h3, h4⟩ := N.enter h
 refine ⟨F, h1, h2, fun b a => ⟨h3 b a, ?_⟩, h4⟩
 have := N.size
 have hl := a.lt
 rw [h.block b (by omega)]
 exact N.keep a
theorem Now.weak (N : Now B T tv pb m low kd tx W0 F0 W s) {m' : Nat} (h : s.2.length ≤ s.1 + m') : Now B T tv pb m' low kd tx W0 F0 W s := ⟨N.st, N.pos, N.len, N.low, h⟩
theorem fit_iff {s : St} : fit T s = true ↔ s.1 ≤ T.length ∧ s.2.length ≤ 10000000 := by simp [fit]
theorem run_some {k : Nat} {x : NT} {q : Bool × St} (h : run T k x s = some q) : ∃ j, k = j + 1 ∧ fit T s = true ∧ step T (run T j) x s = some q ∧ fit T q.2 = true := by
 cases k with
 | zero => cases h
 | succ j =>
  unfold run at h
  by_cases h1 : fit T s = true
  ·rw [if_pos h1] at h
   obtain ⟨a, h2, h3⟩ := Option.bind_eq_some_iff.1 h
   by_cases h4 : fit T a.2 = true
   ·rw [if_pos h4] at h3
    cases h3
    exact ⟨j, rfl, h1, h2, h4⟩
   ·rw [if_neg h4] at h3
    cases h3
  ·rw [if_neg h1] at h
   cases h
theorem run_fit {k : Nat} {x : NT} {q : Bool × St} (h : run T k x s = some q) : fit T q.2 = true := by
 obtain ⟨_, _, _, _, h⟩ := run_some h
 exact h
theorem Now.fit (N : Now B T tv pb m low kd tx W0 F0 W s) (h : fit T s = true) : Now B T tv pb 10000000 low kd tx W0 F0 W s := N.weak (by have := (fit_iff.1 h).2; omega)
theorem sq_st {f : St → St} {fs : List (St → Ans)} {q : Bool × St} (h : sqL (st f :: fs) s = some q) : sqL fs (f s) = some q := h
theorem sq_cons {f : St → Ans} {fs : List (St → Ans)} {q : Bool × St} (h : sqL (f :: fs) s = some q) : ∃ p, f s = some p ∧ sqL fs p.2 = some q := by
 obtain ⟨a, h1, h2⟩ := Option.bind_eq_some_iff.1 h
 exact ⟨a, h1, h2⟩
theorem sq_nil {q : Bool × St} (h : sqL [] s = some q) : q = (false, s) := by
 cases h
 rfl
theorem some_in {p q : Bool × St} (h : some p = some q) : q = p := by
 cases h
 rfl
theorem bind_in {x : Ans} {f : Bool × St → Ans} {q : Bool × St} (h : x.bind f = some q) : ∃ p, x = some p ∧ f p = some q := by
 obtain ⟨a, h1, h2⟩ := Option.bind_eq_some_iff.1 h
 exact ⟨a, h1, h2⟩
theorem node_in {kind : Int} {f : St → Ans} {q : Bool × St} (h : nodeM kind f s = some q) : ∃ p, f (s.1, []) = some p ∧ q = (false, (p.2.1, s.2 ++ [.mk kind noText p.2.2])) := by
 obtain ⟨a, h1, h2⟩ := bind_in h
 exact ⟨a, h1, some_in h2⟩
theorem wrap_in {kind : Int} {f : St → Ans} {q : Bool × St} (h : wrapM kind f s = some q) : ∃ ks t p, s = (s.1, ks ++ [t]) ∧ f (s.1, [t]) = some p ∧ q = (false, (p.2.1, ks ++ [.mk kind noText p.2.2])) := by
 unfold wrapM at h
 cases hg : s.2.getLast? with
 | none =>
  rw [hg] at h
  cases h
 | some t =>
  rw [hg] at h
  obtain ⟨a, h1, h2⟩ := bind_in h
  have hd : s.2 = s.2.dropLast ++ [t] := by
   have hne : s.2 ≠ [] := by
    rintro e
    rw [e] at hg
    cases hg
   have h3 := List.dropLast_concat_getLast hne
   rw [List.getLast?_eq_some_getLast hne] at hg
   cases hg
   exact h3.symm
  exact ⟨s.2.dropLast, t, a, Prod.ext rfl hd, h1, some_in h2⟩
theorem if_t {b : Bool} {x y : Ans} {q : Bool × St} (hb : b = true) (h : (if b = true then x else y) = some q) : x = some q := by rwa [if_pos hb] at h
theorem if_f {b : Bool} {x y : Ans} {q : Bool × St} (hb : b = false) (h : (if b = true then x else y) = some q) : y = some q := by rwa [if_neg (by rw [hb]; simp)] at h
theorem if_y {p : Prop} [Decidable p] {x y : Ans} {q : Bool × St} (hb : p) (h : (if p then x else y) = some q) : x = some q := by rwa [if_pos hb] at h
theorem if_n {p : Prop} [Decidable p] {x y : Ans} {q : Bool × St} (hb : ¬ p) (h : (if p then x else y) = some q) : y = some q := by rwa [if_neg hb] at h
theorem Now.post (N : Now B T tv pb m low kd tx W0 F0 W s) {v : Value} {s' : St} (hpos : s'.1 ≤ T.length) {m' : Nat} (hk : s'.2.length ≤ s'.1 + m') {f : FuncId} {args : Array Value}
  (h : ∀ F, PS 76 53 B T tv pb W s.1 (low ++ [.mk kd tx s.2]) F → Calls Tryz.prog f args W (Post B T tv pb W low kd tx F v s')) :
  Calls Tryz.prog f args W (NowP B T tv pb m' low kd tx W0 F0 v s') := by
 obtain ⟨F, h1, h2⟩ := N.st
 refine (h F h1).mono ?_
 rintro e W' ⟨rfl, F', k1, k2⟩
 exact ⟨rfl, ⟨F', k1, h2.trans k2⟩, hpos, N.len, N.low, hk⟩
theorem bump_now (N : Now B T tv pb m low kd tx W0 F0 W s) (hm : m ≤ 20000000) : Calls Tryz.prog 59 #[.pointer (some ⟨pb, 0, none⟩)] W (NowP B T tv pb m low kd tx W0 F0 (.tuple #[]) (bumpS T s)) := by
 obtain ⟨h1, h2, h3⟩ := bumpS_le (T := T) N.pos
 refine N.post h2 (by have := N.kids; omega) (fun F h => (bump_calls N.len N.pos h (by have := N.low; have := N.kids; have := N.pos; have := N.len; omega)).mono ?_)
 rintro e W' ⟨rfl, h⟩
 exact ⟨rfl, h⟩
theorem accept_now (N : Now B T tv pb m low kd tx W0 F0 W s) (hm : m ≤ 20000000) {l : List ByteArray} {A : Option Addr} {c : Nat} (hl : l.length ≤ 1000) (hr : Kd.C Kd.string W A l.length l) (hc : l.length ≤ c) :
  Calls Tryz.prog 58 #[.pointer (some ⟨pb, 0, none⟩), .slice A l.length c] W (NowP B T tv pb m low kd tx W0 F0 (.bool (atT T s.1 l)) (acceptS T s l)) := by
 obtain ⟨h1, h2, h3⟩ := bumpS_le (T := T) N.pos
 have hle : (acceptS T s l).1 ≤ T.length ∧ (acceptS T s l).2.length ≤ (acceptS T s l).1 + m := by
  have := N.kids
  have := N.pos
  unfold acceptS
  split <;> constructor <;> omega
 exact N.post hle.1 hle.2 (fun F h => accept_calls N.len N.pos h (by have := N.low; have := N.kids; have := N.pos; have := N.len; omega) hl hr hc)
theorem miss_le (N : Now B T tv pb m low kd tx W0 F0 W s) (t : Tree) : (addS s t).1 ≤ T.length ∧ (addS s t).2.length ≤ (addS s t).1 + (m + 1) := by
 have := N.kids
 have := N.pos
 simp [addS]
 omega
theorem missNode_now (N : Now B T tv pb m low kd tx W0 F0 W s) (hm : m ≤ 20000000) : Calls Tryz.prog 144 #[.pointer (some ⟨pb, 0, none⟩)] W (NowP B T tv pb (m + 1) low kd tx W0 F0 (.tuple #[]) (missNodeS s)) :=
 N.post (miss_le N _).1 (miss_le N _).2 (fun F h => missNode_calls h (by have := N.low; have := N.kids; have := N.pos; have := N.len; omega))
theorem missTok_now (N : Now B T tv pb m low kd tx W0 F0 W s) (hm : m ≤ 20000000) : Calls Tryz.prog 137 #[.pointer (some ⟨pb, 0, none⟩)] W (NowP B T tv pb (m + 1) low kd tx W0 F0 (.tuple #[]) (missTokS s)) :=
 N.post (miss_le N _).1 (miss_le N _).2 (fun F h => missTok_calls h (by have := N.low; have := N.kids; have := N.pos; have := N.len; omega))
theorem absent_now (N : Now B T tv pb m low kd tx W0 F0 W s) (hm : m ≤ 20000000) : Calls Tryz.prog 130 #[.pointer (some ⟨pb, 0, none⟩)] W (NowP B T tv pb (m + 1) low kd tx W0 F0 (.tuple #[]) (absentS s)) :=
 N.post (miss_le N _).1 (miss_le N _).2 (fun F h => absent_calls h (by have := N.low; have := N.kids; have := N.pos; have := N.len; omega))
theorem expect_now (N : Now B T tv pb m low kd tx W0 F0 W s) (hm : m ≤ 20000000) (text : ByteArray) : Calls Tryz.prog 106 #[.pointer (some ⟨pb, 0, none⟩), .string text] W (NowP B T tv pb (m + 1) low kd tx W0 F0 (.tuple #[]) (expectS T text s)) := by
 obtain ⟨h1, h2, h3⟩ := bumpS_le (T := T) N.pos
 have h4 := miss_le N (.mk 108 noText [])
 have hle : (expectS T text s).1 ≤ T.length ∧ (expectS T text s).2.length ≤ (expectS T text s).1 + (m + 1) := by
  have := N.kids
  unfold expectS
  split
  ·constructor <;> omega
  ·exact h4
 exact N.post hle.1 hle.2 (fun F h => expect_calls N.len N.pos h (by have := N.low; have := N.kids; have := N.pos; have := N.len; omega) text)
theorem expectId_now (N : Now B T tv pb m low kd tx W0 F0 W s) (hm : m ≤ 20000000) : Calls Tryz.prog 103 #[.pointer (some ⟨pb, 0, none⟩)] W (NowP B T tv pb (m + 1) low kd tx W0 F0 (.tuple #[]) (expectIdS T s)) := by
 obtain ⟨h1, h2, h3⟩ := bumpS_le (T := T) N.pos
 have h4 := miss_le N (.mk 108 noText [])
 have hle : (expectIdS T s).1 ≤ T.length ∧ (expectIdS T s).2.length ≤ (expectIdS T s).1 + (m + 1) := by
  have := N.kids
  unfold expectIdS
  split
  ·constructor <;> omega
  ·exact h4
 exact N.post hle.1 hle.2 (fun F h => expectId_calls N.len N.pos h (by have := N.low; have := N.kids; have := N.pos; have := N.len; omega))
theorem Now.ask (N : Now B T tv pb m low kd tx W0 F0 W s) {v : Value} {f : FuncId} {args : Array Value}
  (h : ∀ F, PS 76 53 B T tv pb W s.1 (low ++ [.mk kd tx s.2]) F → Calls Tryz.prog f args W (fun e W' => e = .returned v ∧ Below W.heap.size W W')) :
  Calls Tryz.prog f args W (NowP B T tv pb m low kd tx W0 F0 v s) := by
 obtain ⟨F, h1, h2⟩ := N.st
 refine (h F h1).mono ?_
 rintro e W' ⟨rfl, hb⟩
 exact ⟨rfl, N.below hb⟩
theorem at_now (N : Now B T tv pb m low kd tx W0 F0 W s) {l : List ByteArray} {A : Option Addr} {c : Nat} (hl : l.length ≤ 1000) (hr : Kd.C Kd.string W A l.length l) (hc : l.length ≤ c) :
  Calls Tryz.prog 52 #[.pointer (some ⟨pb, 0, none⟩), .slice A l.length c] W (NowP B T tv pb m low kd tx W0 F0 (.bool (atT T s.1 l)) s) :=
 N.ask (fun F h => at_calls N.len N.pos h hl hr hc)
theorem at_lit (N : Now B T tv pb m low kd tx W0 F0 W s) (l : List ByteArray) (hl : l.length ≤ 1000) :
  Calls Tryz.prog 52 #[.pointer (some ⟨pb, 0, none⟩), .slice (some ⟨W.heap.size, 0, none⟩) l.length l.length] (W.alloc (.cells (l.map Value.string).toArray 9)) (NowP B T tv pb m low kd tx W0 F0 (.bool (atT T s.1 l)) s) :=
 at_now (N.below (below_alloc (Below.refl _ _) _)) hl (C_strs l hl (blk_new W _)) (Nat.le_refl _)
theorem accept_lit (N : Now B T tv pb m low kd tx W0 F0 W s) (hm : m ≤ 20000000) (l : List ByteArray) (hl : l.length ≤ 1000) :
  Calls Tryz.prog 58 #[.pointer (some ⟨pb, 0, none⟩), .slice (some ⟨W.heap.size, 0, none⟩) l.length l.length] (W.alloc (.cells (l.map Value.string).toArray 9)) (NowP B T tv pb m low kd tx W0 F0 (.bool (atT T s.1 l)) (acceptS T s l)) :=
 accept_now (N.below (below_alloc (Below.refl _ _) _)) hm hl (C_strs l hl (blk_new W _)) (Nat.le_refl _)
theorem eof_now (N : Now B T tv pb m low kd tx W0 F0 W s) : Calls Tryz.prog 31 #[.pointer (some ⟨pb, 0, none⟩)] W (NowP B T tv pb m low kd tx W0 F0 (.bool (eofT T s.1)) s) := N.ask (fun F h => eof_calls N.len N.pos h)
theorem ident_now (N : Now B T tv pb m low kd tx W0 F0 W s) : Calls Tryz.prog 134 #[.pointer (some ⟨pb, 0, none⟩)] W (NowP B T tv pb m low kd tx W0 F0 (.bool (idT T s.1)) s) := N.ask (fun F h => ident_calls N.len N.pos h)
theorem atItem_now (N : Now B T tv pb m low kd tx W0 F0 W s) : Calls Tryz.prog 161 #[.pointer (some ⟨pb, 0, none⟩)] W (NowP B T tv pb m low kd tx W0 F0 (.bool (atItemT T s.1)) s) := N.ask (fun F h => atItem_calls N.len N.pos h)
theorem peek_now (N : Now B T tv pb m low kd tx W0 F0 W s) : Calls Tryz.prog 51 #[.pointer (some ⟨pb, 0, none⟩)] W (NowP B T tv pb m low kd tx W0 F0 (.agg #[.int .i64 (peekT T s.1).1, .string (peekT T s.1).2]) s) := N.ask (fun F h => peek_calls N.len N.pos h)
theorem kw_now (N : Now B T tv pb m low kd tx W0 F0 W s) : Calls Tryz.prog 98 #[] W fun e W' => e = .returned (.slice (some ⟨W.heap.size, 0, none⟩) itemKw.length 9) ∧ Now B T tv pb m low kd tx W0 F0 W' s ∧ Kd.C Kd.string W' (some ⟨W.heap.size, 0, none⟩) itemKw.length itemKw := by
 obtain ⟨F, h1, h2⟩ := N.st
 refine (kw_calls W h1.spc).mono ?_
 rintro e W' ⟨rfl, hb, hk⟩
 exact ⟨rfl, N.below hb, C_strs itemKw (by decide) hk⟩
def Look (T : List Tok) (tv : Value) (qb : Nat) (W : World) (n : Nat) : Prop := n ≤ T.length ∧ ∃ Bq sq Fq, PS 76 53 Bq T tv qb W n sq Fq
theorem Look.below {qb n : Nat} (h : Look T tv qb W n) {W' : World} (hb : Below W.heap.size W W') : Look T tv qb W' n := by
 obtain ⟨h0, Bq, sq, Fq, h1⟩ := h
 exact ⟨h0, Bq, sq, Fq, h1.below hb⟩
theorem lookT_le {n : Nat} (h : n ≤ T.length) : lookT T n ≤ T.length := (bumpS_le (T := T) (s := (n, [])) h).2.1
theorem look_now (N : Now B T tv pb m low kd tx W0 F0 W s) : Calls Tryz.prog 53 #[.pointer (some ⟨pb, 0, none⟩)] W fun e W' => ∃ qb, e = .returned (.pointer (some ⟨qb, 0, none⟩)) ∧ Now B T tv pb m low kd tx W0 F0 W' s ∧ Look T tv qb W' (lookT T s.1) := by
 obtain ⟨F, h1, h2⟩ := N.st
 refine (look_calls N.len N.pos h1).mono ?_
 rintro e W' ⟨qb, rfl, hb, sq, Fq, hq⟩
 exact ⟨qb, rfl, N.below hb, lookT_le N.pos, _, sq, Fq, hq⟩
theorem look_look {qb n : Nat} (N : Now B T tv pb m low kd tx W0 F0 W s) (L : Look T tv qb W n) : Calls Tryz.prog 53 #[.pointer (some ⟨qb, 0, none⟩)] W fun e W' => ∃ rb, e = .returned (.pointer (some ⟨rb, 0, none⟩)) ∧ Now B T tv pb m low kd tx W0 F0 W' s ∧ Look T tv rb W' (lookT T n) := by
 obtain ⟨h0, Bq, sq, Fq, h1⟩ := L
 refine (look_calls N.len h0 h1).mono ?_
 rintro e W' ⟨rb, rfl, hb, sq, Fq, hq⟩
 exact ⟨rb, rfl, N.below hb, lookT_le h0, _, sq, Fq, hq⟩
theorem at_look {qb n : Nat} (N : Now B T tv pb m low kd tx W0 F0 W s) (L : Look T tv qb W n) (l : List ByteArray) (hl : l.length ≤ 1000) :
  Calls Tryz.prog 52 #[.pointer (some ⟨qb, 0, none⟩), .slice (some ⟨W.heap.size, 0, none⟩) l.length l.length] (W.alloc (.cells (l.map Value.string).toArray 9)) (NowP B T tv pb m low kd tx W0 F0 (.bool (atT T n l)) s) := by
 obtain ⟨h0, Bq, sq, Fq, h1⟩ := L
 refine (at_calls N.len h0 (h1.below (below_alloc (Below.refl _ _) _)) hl (C_strs l hl (blk_new W _)) (Nat.le_refl _)).mono ?_
 rintro e W' ⟨rfl, hb⟩
 exact ⟨rfl, (N.below (below_alloc (Below.refl _ _) _)).below hb⟩
theorem ident_look {qb n : Nat} (N : Now B T tv pb m low kd tx W0 F0 W s) (L : Look T tv qb W n) : Calls Tryz.prog 134 #[.pointer (some ⟨qb, 0, none⟩)] W fun e W' => e = .returned (.bool (idT T n)) ∧ Now B T tv pb m low kd tx W0 F0 W' s ∧ Look T tv qb W' n := by
 obtain ⟨h0, Bq, sq, Fq, h1⟩ := L
 refine (ident_calls N.len h0 h1).mono ?_
 rintro e W' ⟨rfl, hb⟩
 exact ⟨rfl, N.below hb, h0, Bq, sq, Fq, h1.below hb⟩
theorem peek_look {qb n : Nat} (N : Now B T tv pb m low kd tx W0 F0 W s) (L : Look T tv qb W n) : Calls Tryz.prog 51 #[.pointer (some ⟨qb, 0, none⟩)] W (NowP B T tv pb m low kd tx W0 F0 (.agg #[.int .i64 (peekT T n).1, .string (peekT T n).2]) s) := by
 obtain ⟨h0, Bq, sq, Fq, h1⟩ := L
 refine (peek_calls N.len h0 h1).mono ?_
 rintro e W' ⟨rfl, hb⟩
 exact ⟨rfl, N.below hb⟩
abbrev Old (pb : Nat) (W0 : World) (F0 : List Nat) (W1 : World) (F1 : List Nat) : Prop := ∀ b, Apart pb W0 F0 b → Apart pb W1 F1 b ∧ W1.heap[b]? = W0.heap[b]?
theorem node_now (N : Now B T tv pb m low kd tx W0 F0 W s) (hm : m ≤ 30000000) (hlow : low.length < 10000000) (kind : Int) (fid : Nat) (bound free : Array Value) (s' : St) (hen : ∀ args w, (callFunc fid args).run Tryz.prog w = .ok (.enter fid args) w) (hp : s'.1 ≤ T.length)
  (hf : ∀ W1 F1, Now B T tv pb 0 (low ++ [.mk kd tx s.2]) kind noText W1 F1 W1 (s.1, []) → Old pb W0 F0 W1 F1 → Calls Tryz.prog fid (bound ++ free) W1 fun e W' => (∃ v, e = .returned v) ∧ ∃ m', Now B T tv pb m' (low ++ [.mk kd tx s.2]) kind noText W1 F1 W' s') :
  Calls Tryz.prog 56 #[.pointer (some ⟨pb, 0, none⟩), .int .i64 kind, .func (.func fid) bound free] W (NowP B T tv pb (m + 100001) low kd tx W0 F0 (.tuple #[]) (s'.1, s.2 ++ [.mk kind noText s'.2])) := by
 obtain ⟨F, h1, h2⟩ := N.st
 have hsm : low.length + s.2.length ≤ 1000000000 := by have := N.low; have := N.kids; have := N.pos; have := N.len; omega
 have hl2 : (low ++ [Tree.mk kd tx s.2]).length ≤ 10000000 := by rw [List.length_append, List.length_singleton]; omega
 refine (node_calls kind fid bound free s' h1 hsm hen (fun W1 F1 g1 g2 => (hf W1 F1 ⟨⟨F1, g1, Fr.refl _ _ _⟩, N.pos, N.len, hl2, by simp⟩ (fun b a => ⟨?_, ?_⟩)).mono ?_)).mono ?_
 ·have a2 := N.apart h2 a
  refine ⟨Nat.lt_of_lt_of_le a2.lt g2.size, a2.ne, fun hh => ?_⟩
  rcases g2.rows b hh with h | h
  ·exact a2.nin h
  ·have := a2.lt
   omega
 ·have a2 := N.apart h2 a
  rw [g2.kept b a2.lt a2.ne a2.nin]
  exact N.keep a
 ·rintro e W' ⟨hv, m', M⟩
  obtain ⟨F', k1, k2⟩ := M.st
  exact ⟨hv, F', k1, k2⟩
 ·rintro e W' ⟨rfl, F', k1, k2⟩
  exact ⟨rfl, ⟨F', k1, h2.trans k2⟩, hp, N.len, N.low, by have := N.kids; have := N.pos; have := N.len; simp; omega⟩
theorem wrap_now {ks : List Tree} {t : Tree} (N : Now B T tv pb m low kd tx W0 F0 W s) (hs : s = (s.1, ks ++ [t])) (hm : m ≤ 30000000) (hlow : low.length < 10000000) (kind : Int) (fid : Nat) (bound free : Array Value) (s' : St) (hen : ∀ args w, (callFunc fid args).run Tryz.prog w = .ok (.enter fid args) w) (hp : s'.1 ≤ T.length)
  (hf : ∀ W1 F1, Now B T tv pb 1 (low ++ [.mk kd tx ks]) kind noText W1 F1 W1 (s.1, [t]) → Old pb W0 F0 W1 F1 → Calls Tryz.prog fid (bound ++ free) W1 fun e W' => (∃ v, e = .returned v) ∧ ∃ m', Now B T tv pb m' (low ++ [.mk kd tx ks]) kind noText W1 F1 W' s') :
  Calls Tryz.prog 169 #[.pointer (some ⟨pb, 0, none⟩), .int .i64 kind, .func (.func fid) bound free] W (NowP B T tv pb (m + 100001) low kd tx W0 F0 (.tuple #[]) (s'.1, ks ++ [.mk kind noText s'.2])) := by
 obtain ⟨F, h1, h2⟩ := N.st
 have hk := N.kids
 have hpo := N.pos
 have hle := N.len
 have e2 : s.2 = ks ++ [t] := congrArg Prod.snd hs
 rw [e2] at h1 hk
 simp only [List.length_append, List.length_singleton] at hk
 have hsm : low.length + ks.length ≤ 1000000000 := by have := N.low; omega
 have hl2 : (low ++ [Tree.mk kd tx ks]).length ≤ 10000000 := by rw [List.length_append, List.length_singleton]; omega
 refine (wrap_calls kind fid bound free s' t h1 hsm hen (fun W1 F1 g1 g2 => (hf W1 F1 ⟨⟨F1, g1, Fr.refl _ _ _⟩, hpo, hle, hl2, by simp⟩ (fun b a => ⟨?_, ?_⟩)).mono ?_)).mono ?_
 ·have a2 := N.apart h2 a
  refine ⟨Nat.lt_of_lt_of_le a2.lt g2.size, a2.ne, fun hh => ?_⟩
  rcases g2.rows b hh with h | h
  ·exact a2.nin h
  ·have := a2.lt
   omega
 ·have a2 := N.apart h2 a
  rw [g2.kept b a2.lt a2.ne a2.nin]
  exact N.keep a
 ·rintro e W' ⟨hv, m', M⟩
  obtain ⟨F', k1, k2⟩ := M.st
  exact ⟨hv, F', k1, k2⟩
 ·rintro e W' ⟨rfl, F', k1, k2⟩
  exact ⟨rfl, ⟨F', k1, h2.trans k2⟩, hp, hle, N.low, by simp; omega⟩
end Go.Proofs.YtkijamagbgigmaaGreatDoor.Par
namespace Go.Proofs.YtkijamagbgigmaaGreatDoor.Par
open Go.RowKit Go.Proofs.YtkijamagbgigmaaGreatDoorW.PrintWords Go.Proofs.YtkijamagbgigmaaGreatDoorW.PrintLast
def Does (B : Nat) (T : List Tok) (tv : Value) (pb : Nat) (k : Nat) (x : NT) (fid : Nat) (args : Array Value) (low : List Tree) (kd : Int) (tx : ByteArray) (W0 : World) (F0 : List Nat) : Prop :=
 ∀ i, i < k → ∀ m W s q, m ≤ 30000000 → Now B T tv pb m low kd tx W0 F0 W s → run T i x s = some q → Calls Tryz.prog fid args W fun e W' => (∃ v, e = .returned v) ∧ ∃ m', Now B T tv pb m' low kd tx W0 F0 W' q.2
def Meth (B : Nat) (T : List Tok) (tv : Value) (pb : Nat) (k : Nat) (x : NT) (fid : Nat) (args : Array Value) (res : Bool → Value) : Prop :=
 ∀ m low kd tx W0 F0 W s q, m ≤ 30000000 → low.length + k ≤ 10000000 → Now B T tv pb m low kd tx W0 F0 W s → run T k x s = some q → Calls Tryz.prog fid args W (NowP B T tv pb 10000000 low kd tx W0 F0 (res q.1) q.2)
structure Box (pb : Nat) (W0 : World) (F0 : List Nat) (b : Nat) (v : Value) : Prop where
 apart : Apart pb W0 F0 b
 cell : ∃ t, W0.heap[b]? = some (.cells #[v] t (0, 0))
end Go.Proofs.YtkijamagbgigmaaGreatDoor.Par
namespace Go.Proofs.YtkijamagbgigmaaGreatDoor.Par
open Go.RowKit Go.Proofs.YtkijamagbgigmaaGreatDoorW.PrintWords Go.Proofs.YtkijamagbgigmaaGreatDoorW.PrintLast
variable {B : Nat} {T : List Tok} {tv : Value} {pb : Nat} {m : Nat} {low : List Tree} {kd : Int} {tx : ByteArray} {W0 : World} {F0 : List Nat} {W : World} {s : St}
theorem Now.box (N : Now B T tv pb m low kd tx W0 F0 W s) {b : Nat} {v : Value} (h : Box pb W0 F0 b v) : W.cell? ⟨b, 0, none⟩ = some v := by
 obtain ⟨t, h1⟩ := h.cell
 exact (blk_cell ((N.keep h.apart).trans h1) 0).trans rfl
theorem Box.old {b : Nat} {v : Value} {W1 : World} {F1 : List Nat} (h : Box pb W0 F0 b v) (o : Old pb W0 F0 W1 F1) : Box pb W1 F1 b v := by
 obtain ⟨t, h1⟩ := h.cell
 obtain ⟨h2, h3⟩ := o b h.apart
 exact ⟨h2, t, h3.trans h1⟩
theorem Meth.does {k j : Nat} {x : NT} {fid : Nat} {args : Array Value} {res : Bool → Value} (h : ∀ i, i < k → Meth B T tv pb i x fid args res) (hl : low.length + k ≤ 10000000) (hj : j ≤ k) : Does B T tv pb j x fid args low kd tx W0 F0 := by
 intro i hi m W s q hm N hr
 refine (h i (by omega) m low kd tx W0 F0 W s q hm (by omega) N hr).mono ?_
 rintro e W' ⟨rfl, N'⟩
 exact ⟨⟨_, rfl⟩, _, N'⟩
theorem bump_does (k : Nat) : Does B T tv pb k .bump 59 #[.pointer (some ⟨pb, 0, none⟩)] low kd tx W0 F0 := by
 intro i hi m W s q hm N hr
 obtain ⟨j, rfl, h1, h2, h3⟩ := run_some hr
 refine (bump_now (N.fit h1) (by omega)).mono ?_
 rintro e W' ⟨rfl, N'⟩
 obtain rfl := some_in h2
 exact ⟨⟨_, rfl⟩, _, N'⟩
theorem expectId_does (k : Nat) : Does B T tv pb k .expectId 103 #[.pointer (some ⟨pb, 0, none⟩)] low kd tx W0 F0 := by
 intro i hi m W s q hm N hr
 obtain ⟨j, rfl, h1, h2, h3⟩ := run_some hr
 refine (expectId_now (N.fit h1) (by omega)).mono ?_
 rintro e W' ⟨rfl, N'⟩
 obtain rfl := some_in h2
 exact ⟨⟨_, rfl⟩, _, N'⟩
theorem enBump : ∀ args w, (callFunc 59 args).run Tryz.prog w = .ok (.enter 59 args) w := enters_of Tryz.func59 (by kernel_rfl) rfl
theorem unexp_now (N : Now B T tv pb m low kd tx W0 F0 W s) (hm : m ≤ 20000000) (hlow : low.length < 10000000) : Calls Tryz.prog 162 #[.pointer (some ⟨pb, 0, none⟩)] W (NowP B T tv pb (m + 100001) low kd tx W0 F0 (.tuple #[]) (unexpS T s)) := by
 have H0 := ak N
 clear N
 go_enter Tryz.func162, Tryz.ntmps162
 go_wp2_with fail
 refine (node_now H0.out (by omega) hlow 46 59 #[.pointer (some ⟨pb, 0, none⟩)] #[] (bumpS T (s.1, [])) enBump (bumpS_le (T := T) (s := (s.1, [])) H0.out.pos).2.1 (fun W1 F1 N1 _ => (bump_now N1 (by omega)).mono ?_)).mono ?_
 ·rintro e W' ⟨rfl, N'⟩
  exact ⟨⟨_, rfl⟩, _, N'⟩
 rintro e W' ⟨rfl, N'⟩
 have H1 := ak N'
 clear N'
 go_wp2_with fail
 go_end0
 exact ⟨rfl, H1.out⟩
theorem opt_now {k : Nat} {x : NT} {text : ByteArray} {q : Bool × St} (fid : Nat) (bound free : Array Value) (hen : ∀ args w, (callFunc fid args).run Tryz.prog w = .ok (.enter fid args) w)
  (hd : Does B T tv pb k x fid (bound ++ free) low kd tx W0 F0) (N : Now B T tv pb m low kd tx W0 F0 W s) (hr : run T k (.opt text x) s = some q) :
  Calls Tryz.prog 129 #[.pointer (some ⟨pb, 0, none⟩), .string text, .func (.func fid) bound free] W (NowP B T tv pb 10000000 low kd tx W0 F0 (.tuple #[]) q.2) := by
 obtain ⟨j, rfl, h1, h2, h3⟩ := run_some hr
 have H0 := ak (N.fit h1)
 have HD := ak hd
 have E0 := ak (And.intro h2 h3)
 clear N hd h1 h2 h3 hr
 go_enter Tryz.func129, Tryz.ntmps129
 go_wp2_with fail
 refine (accept_lit H0.out (by omega) [text] (by simp)).mono ?_
 rintro e W1 ⟨rfl, N1⟩
 cases hat : atT T s.1 [text]
 ·rw [acceptS_f hat] at N1
  have H1 := ak N1
  have E1 := ak (And.intro (some_in (if_f hat E0.out.1)) E0.out.2)
  clear N1 E0
  go_wp2_with fail
  refine (absent_now H1.out (by omega)).mono ?_
  rintro e W2 ⟨rfl, N2⟩
  have H2 := ak N2
  clear N2
  go_wp2_with fail
  go_end0
  obtain ⟨rfl, h3⟩ := E1.out
  exact ⟨rfl, H2.out.fit h3⟩
 ·rw [acceptS_t hat] at N1
  have H1 := ak N1
  have E1 := ak (And.intro (if_t hat E0.out.1) E0.out.2)
  clear N1 E0
  go_wp2_with fail
  refine (HD.out j (by omega) _ _ _ _ (by omega) H1.out E1.out.1).mono ?_
  rintro e W2 ⟨⟨v, rfl⟩, m', N2⟩
  have H2 := ak (N2.fit E1.out.2)
  clear N2
  go_wp2_with fail
  go_end0
  exact ⟨rfl, H2.out⟩
theorem Now.cells (N : Now B T tv pb m low kd tx W0 F0 W s) : W.cell? ⟨pb, 1, none⟩ = some (.int .i64 (s.1 : Int)) := by
 obtain ⟨F, h1, h2⟩ := N.st
 exact h1.cells.2.1
theorem and3 {a b c : Bool} {x y : Ans} {q : Bool × St} (h : (if (!a && !b && !c) = true then x else y) = some q) : (a = true ∧ y = some q) ∨ (a = false ∧ b = true ∧ y = some q) ∨ (a = false ∧ b = false ∧ c = true ∧ y = some q) ∨ (a = false ∧ b = false ∧ c = false ∧ x = some q) := by
 cases a <;> cases b <;> cases c <;> simp_all
theorem list_now {k : Nat} {x : NT} {closing : ByteArray} {q : Bool × St} (fid : Nat) (bound free : Array Value) (hen : ∀ args w, (callFunc fid args).run Tryz.prog w = .ok (.enter fid args) w) (hlow : low.length < 10000000)
  (hd : Does B T tv pb k x fid (bound ++ free) low kd tx W0 F0) (N : Now B T tv pb m low kd tx W0 F0 W s) (hr : run T k (.list closing x) s = some q) :
  Calls Tryz.prog 132 #[.pointer (some ⟨pb, 0, none⟩), .string closing, .func (.func fid) bound free] W (NowP B T tv pb 10000000 low kd tx W0 F0 (.tuple #[]) q.2) := by
 obtain ⟨j, rfl, h1, h2, h3⟩ := run_some hr
 obtain ⟨p, hp, h4⟩ := sq_cons h2
 have H0 := ak (N.fit h1)
 have HD := ak hd
 have E0 := ak hp
 have E9 := ak (And.intro (sq_nil (sq_st h4)) h3)
 clear N hd h1 h2 h3 hr hp h4
 go_enter Tryz.func132, Tryz.ntmps132
 go_wp2_with fail
 go_loopg [] j (fun g wr => ∃ s1, Now B T tv pb 10000000 low kd tx W0 F0 wr s1 ∧ run T g (.listLoop closing x) s1 = some p ∧ g ≤ j)
 case atStart => exact ⟨s, H0.out, E0.out, Nat.le_refl _⟩
 case round =>
  obtain ⟨s1, N1, hr1, hg⟩ := hrel
  obtain ⟨i, rfl, f1, f2, f3⟩ := run_some hr1
  have H1 := ak N1
  have E1 := ak (And.intro (and3 f2) f3)
  have hi := ak hg
  clear N1 hr1 hg f1 f2 f3
  go_wp2_with fail
  refine (at_lit H1.out [closing] (by simp)).mono ?_
  rintro e W2 ⟨rfl, N2⟩
  have H2 := ak N2
  clear N2 H1
  cases hat : atT T s1.1 [closing]
  ·go_wp2_with fail
   refine (eof_now H2.out).mono ?_
   rintro e W3 ⟨rfl, N3⟩
   have H3 := ak N3
   clear N3 H2
   cases heof : eofT T s1.1
   ·go_wp2_with fail
    refine (atItem_now H3.out).mono ?_
    rintro e W4 ⟨rfl, N4⟩
    have H4 := ak N4
    have c4 := N4.cells
    clear N4 H3
    cases hit : atItemT T s1.1
    ·obtain ⟨E2, f3⟩ := E1.out
     have E3 : Aside0 (∃ r, run T i x s1 = some r ∧ run T i (.listLoop closing x) (if r.2.1 = s1.1 then unexpS T r.2 else if atT T r.2.1 [closing] = true then r.2 else expectS T (⟨#[44]⟩ : ByteArray) r.2) = some p) := by
      rcases E2 with ⟨h, _⟩ | ⟨_, h, _⟩ | ⟨_, _, h, _⟩ | ⟨_, _, _, h⟩
      ·rw [hat] at h; cases h
      ·rw [heof] at h; cases h
      ·rw [hit] at h; cases h
      ·exact ⟨bind_in h⟩
     clear E2 f3 E1 hat heof hit
     obtain ⟨r, e1, e2⟩ := E3.out
     have E4 := ak (And.intro e1 e2)
     clear e1 e2 E3
     obtain ⟨n1, hn1⟩ : ∃ n1, Hid (s1.1 = n1) := ⟨_, rfl⟩
     rw [show s1.1 = n1 from hn1] at c4
     go_wp2_with fail
     refine (HD.out i (by have := hi.out; omega) _ _ _ _ (by omega) H4.out E4.out.1).mono ?_
     rintro e W5 ⟨⟨v, rfl⟩, m', N5'⟩
     have N5 := N5'.fit (run_fit E4.out.1)
     have H5 := ak N5
     have c5 := N5.cells
     obtain ⟨n2, hn2⟩ : ∃ n2, Hid (r.2.1 = n2) := ⟨_, rfl⟩
     rw [show r.2.1 = n2 from hn2] at c5
     clear N5 N5' H4 c4
     by_cases heq : n2 = n1
     ·have hb : ((n2 : Int) == (n1 : Int)) = true := by rw [heq]; simp
      have E5 := ak (show run T i (.listLoop closing x) (unexpS T r.2) = some p by have := E4.out.2; rwa [if_pos (by rw [show r.2.1 = n2 from hn2, show s1.1 = n1 from hn1]; exact heq)] at this)
      have HQ := ak heq
      clear heq
      go_wp2_with fail
      refine (unexp_now H5.out (by omega) hlow).mono ?_
      rintro e W6 ⟨rfl, N6⟩
      have H6 := ak N6
      clear N6
      go_wp2_with fail
      go_roundg i
      case rel =>
       obtain ⟨_, h, g1, _, _⟩ := run_some E5.out
       exact ⟨_, H6.out.fit g1, E5.out, by have := hi.out; omega⟩
      case measure => omega
     ·have hb : ((n2 : Int) == (n1 : Int)) = false := beq_eq_false_iff_ne.2 (by omega)
      have E5 := ak (show run T i (.listLoop closing x) (if atT T r.2.1 [closing] = true then r.2 else expectS T (⟨#[44]⟩ : ByteArray) r.2) = some p by have := E4.out.2; rwa [if_neg (by rw [show r.2.1 = n2 from hn2, show s1.1 = n1 from hn1]; exact heq)] at this)
      clear heq
      go_wp2_with fail
      refine (at_lit H5.out [closing] (by simp)).mono ?_
      rintro e W6 ⟨rfl, N6⟩
      have H6 := ak N6
      clear N6 H5
      cases hat2 : atT T r.2.1 [closing]
      ·have E6 := ak (show run T i (.listLoop closing x) (expectS T (⟨#[44]⟩ : ByteArray) r.2) = some p by have := E5.out; rwa [if_neg (by rw [hat2]; simp)] at this)
       clear hat2
       go_wp2_with fail
       refine (expect_now H6.out (by omega) _).mono ?_
       rintro e W7 ⟨rfl, N7⟩
       have H7 := ak N7
       clear N7
       go_wp2_with fail
       go_roundg i
       case rel =>
        obtain ⟨_, h, g1, _, _⟩ := run_some E6.out
        exact ⟨_, H7.out.fit g1, E6.out, by have := hi.out; omega⟩
       case measure => omega
      ·have E6 := ak (show run T i (.listLoop closing x) r.2 = some p by have := E5.out; rwa [if_pos hat2] at this)
       clear hat2
       go_wp2_with fail
       go_roundg i
       case rel => exact ⟨_, H6.out, E6.out, by have := hi.out; omega⟩
       case measure => omega
    ·have E2 : Aside0 (p = (false, s1)) := by
      rcases E1.out.1 with ⟨h, g⟩ | ⟨_, h, g⟩ | ⟨_, _, h, g⟩ | ⟨_, _, h, _⟩
      ·exact ⟨some_in g⟩
      ·exact ⟨some_in g⟩
      ·exact ⟨some_in g⟩
      ·rw [hit] at h; cases h
     clear E1 hat heof hit c4
     go_wp2_with fail
     refine (expect_now H4.out (by omega) _).mono ?_
     rintro e W7 ⟨rfl, N7⟩
     have H7 := ak N7
     clear N7
     go_wp2_with fail
     go_end0
     obtain ⟨hq, hf⟩ := E9.out
     rw [E2.out] at hq
     subst hq
     exact ⟨rfl, H7.out.fit hf⟩
   ·have E2 : Aside0 (p = (false, s1)) := by
     rcases E1.out.1 with ⟨h, g⟩ | ⟨_, h, g⟩ | ⟨_, _, h, g⟩ | ⟨_, h, _, _⟩
     ·exact ⟨some_in g⟩
     ·exact ⟨some_in g⟩
     ·exact ⟨some_in g⟩
     ·rw [heof] at h; cases h
    clear E1 hat heof
    go_wp2_with fail
    refine (expect_now H3.out (by omega) _).mono ?_
    rintro e W7 ⟨rfl, N7⟩
    have H7 := ak N7
    clear N7
    go_wp2_with fail
    go_end0
    obtain ⟨hq, hf⟩ := E9.out
    rw [E2.out] at hq
    subst hq
    exact ⟨rfl, H7.out.fit hf⟩
  ·have E2 : Aside0 (p = (false, s1)) := by
    rcases E1.out.1 with ⟨h, g⟩ | ⟨_, h, g⟩ | ⟨_, _, h, g⟩ | ⟨h, _, _, _⟩
    ·exact ⟨some_in g⟩
    ·exact ⟨some_in g⟩
    ·exact ⟨some_in g⟩
    ·rw [hat] at h; cases h
   clear E1 hat
   go_wp2_with fail
   refine (expect_now H2.out (by omega) _).mono ?_
   rintro e W7 ⟨rfl, N7⟩
   have H7 := ak N7
   clear N7
   go_wp2_with fail
   go_end0
   obtain ⟨hq, hf⟩ := E9.out
   rw [E2.out] at hq
   subst hq
   exact ⟨rfl, H7.out.fit hf⟩
end Go.Proofs.YtkijamagbgigmaaGreatDoor.Par
namespace Go.Proofs.YtkijamagbgigmaaGreatDoor.PA
open Go.RowKit Go.Proofs.YtkijamagbgigmaaGreatDoorW.PrintWords Go.Proofs.YtkijamagbgigmaaGreatDoorW.PrintLast
def lexer_isLetter.f (a0 : Int) : Option (Bool) := if a0 ≥ 97 then (if a0 ≤ 122 then (some true) else (if a0 ≥ 65 then (if a0 ≤ 90 then (some true) else (some (a0 == 95))) else (some (a0 == 95)))) else (if a0 ≥ 65 then (if a0 ≤ 90 then (some true) else (some (a0 == 95))) else (some (a0 == 95)))
theorem lexer_isLetter.calls (a0 : Int) (r : Bool) (w : World) (h : lexer_isLetter.f a0 = some r) :
  Calls Tryz.prog 87 #[.int .u8 a0] w fun e w' => e = .returned (.bool r) ∧ Drawn0 w w' := by
 have H : (if a0 ≥ 97 then (if a0 ≤ 122 then (some true) else (if a0 ≥ 65 then (if a0 ≤ 90 then (some true) else (some (a0 == 95))) else (some (a0 == 95)))) else (if a0 ≥ 65 then (if a0 ≤ 90 then (some true) else (some (a0 == 95))) else (some (a0 == 95)))) = some r := h
 clear h
 by_cases c2 : a0 ≥ 97
 ·rw [if_pos c2] at H
  have c2b0 : decide (97 ≤ a0) = true := decide_eq_true c2
  clear c2
  by_cases c3 : a0 ≤ 122
  ·rw [if_pos c3] at H
   have c3b0 : decide (a0 ≤ 122) = true := decide_eq_true c3
   clear c3
   obtain rfl := Option.some.inj H
   go_enter Tryz.func87, Tryz.ntmps87
   go_wp2
   go_ret
   exact ⟨by first | rfl | (simp; done) | (simp [*]; done), by repeat (first | exact Drawn0.refl _ | apply Drawn0.step)⟩
  ·rw [if_neg c3] at H
   have c3b0 : decide (a0 ≤ 122) = false := decide_eq_false c3
   clear c3
   by_cases c4 : a0 ≥ 65
   ·rw [if_pos c4] at H
    have c4b0 : decide (65 ≤ a0) = true := decide_eq_true c4
    clear c4
    by_cases c5 : a0 ≤ 90
    ·rw [if_pos c5] at H
     have c5b0 : decide (a0 ≤ 90) = true := decide_eq_true c5
     clear c5
     obtain rfl := Option.some.inj H
     go_enter Tryz.func87, Tryz.ntmps87
     go_wp2
     go_ret
     exact ⟨by first | rfl | (simp; done) | (simp [*]; done), by repeat (first | exact Drawn0.refl _ | apply Drawn0.step)⟩
    ·rw [if_neg c5] at H
     have c5b0 : decide (a0 ≤ 90) = false := decide_eq_false c5
     clear c5
     obtain rfl := Option.some.inj H
     go_enter Tryz.func87, Tryz.ntmps87
     go_wp2
     go_ret
     exact ⟨by first | rfl | (simp; done) | (simp [*]; done), by repeat (first | exact Drawn0.refl _ | apply Drawn0.step)⟩
   ·rw [if_neg c4] at H
    have c4b0 : decide (65 ≤ a0) = false := decide_eq_false c4
    clear c4
    obtain rfl := Option.some.inj H
    go_enter Tryz.func87, Tryz.ntmps87
    go_wp2
    go_ret
    exact ⟨by first | rfl | (simp; done) | (simp [*]; done), by repeat (first | exact Drawn0.refl _ | apply Drawn0.step)⟩
 ·rw [if_neg c2] at H
  have c2b0 : decide (97 ≤ a0) = false := decide_eq_false c2
  clear c2
  by_cases c6 : a0 ≥ 65
  ·rw [if_pos c6] at H
   have c6b0 : decide (65 ≤ a0) = true := decide_eq_true c6
   clear c6
   by_cases c7 : a0 ≤ 90
   ·rw [if_pos c7] at H
    have c7b0 : decide (a0 ≤ 90) = true := decide_eq_true c7
    clear c7
    obtain rfl := Option.some.inj H
    go_enter Tryz.func87, Tryz.ntmps87
    go_wp2
    go_ret
    exact ⟨by first | rfl | (simp; done) | (simp [*]; done), by repeat (first | exact Drawn0.refl _ | apply Drawn0.step)⟩
   ·rw [if_neg c7] at H
    have c7b0 : decide (a0 ≤ 90) = false := decide_eq_false c7
    clear c7
    obtain rfl := Option.some.inj H
    go_enter Tryz.func87, Tryz.ntmps87
    go_wp2
    go_ret
    exact ⟨by first | rfl | (simp; done) | (simp [*]; done), by repeat (first | exact Drawn0.refl _ | apply Drawn0.step)⟩
  ·rw [if_neg c6] at H
   have c6b0 : decide (65 ≤ a0) = false := decide_eq_false c6
   clear c6
   obtain rfl := Option.some.inj H
   go_enter Tryz.func87, Tryz.ntmps87
   go_wp2
   go_ret
   exact ⟨by first | rfl | (simp; done) | (simp [*]; done), by repeat (first | exact Drawn0.refl _ | apply Drawn0.step)⟩
def lexer_isDigit.f (a0 : Int) : Option (Bool) := if a0 ≥ 48 then (some (decide (a0 ≤ 57))) else (some false)
theorem lexer_isDigit.calls (a0 : Int) (r : Bool) (w : World) (h : lexer_isDigit.f a0 = some r) :
  Calls Tryz.prog 89 #[.int .u8 a0] w fun e w' => e = .returned (.bool r) ∧ Drawn0 w w' := by
 have H : (if a0 ≥ 48 then (some (decide (a0 ≤ 57))) else (some false)) = some r := h
 clear h
 by_cases c2 : a0 ≥ 48
 ·rw [if_pos c2] at H
  have c2b0 : decide (48 ≤ a0) = true := decide_eq_true c2
  clear c2
  obtain rfl := Option.some.inj H
  go_enter Tryz.func89, Tryz.ntmps89
  go_wp2
  go_ret
  exact ⟨by first | rfl | (simp; done) | (simp [*]; done), by repeat (first | exact Drawn0.refl _ | apply Drawn0.step)⟩
 ·rw [if_neg c2] at H
  have c2b0 : decide (48 ≤ a0) = false := decide_eq_false c2
  clear c2
  obtain rfl := Option.some.inj H
  go_enter Tryz.func89, Tryz.ntmps89
  go_wp2
  go_ret
  exact ⟨by first | rfl | (simp; done) | (simp [*]; done), by repeat (first | exact Drawn0.refl _ | apply Drawn0.step)⟩
end Go.Proofs.YtkijamagbgigmaaGreatDoor.PA
namespace Go.Proofs.YtkijamagbgigmaaGreatDoor.Lex
open Go.RowKit Go.Proofs.YtkijamagbgigmaaGreatDoorW.PrintWords Go.Proofs.YtkijamagbgigmaaGreatDoorW.PrintLast
theorem drawn_trans {a b c : World} (h : Drawn0 a b) (k : Drawn0 b c) : Drawn0 a c := by
 obtain ⟨⟨n, rfl⟩⟩ := k
 exact h.step n
def spaceB (b : UInt8) : Bool := decide (0 ≤ Lib.indexByte [32, 9, 10, 13] b)
def letterB (b : UInt8) : Bool := (decide (97 ≤ b.toNat) && decide (b.toNat ≤ 122)) || ((decide (65 ≤ b.toNat) && decide (b.toNat ≤ 90)) || decide (b.toNat = 95))
def digitB (b : UInt8) : Bool := decide (48 ≤ b.toNat) && decide (b.toNat ≤ 57)
def wordB (b : UInt8) : Bool := letterB b || digitB b
def notNlB (b : UInt8) : Bool := !decide (b.toNat = 10)
def Pred (fid : Nat) (p : UInt8 → Bool) : Prop := ∀ (b : UInt8) (w : World), Calls Tryz.prog fid #[.int .u8 (b.toNat : Int)] w fun e w' => e = .returned (.bool (p b)) ∧ Drawn0 w w'
theorem letter_f (b : UInt8) : PA.lexer_isLetter.f (b.toNat : Int) = some (letterB b) := by
 unfold PA.lexer_isLetter.f letterB
 by_cases h1 : 97 ≤ b.toNat <;> by_cases h2 : b.toNat ≤ 122 <;> by_cases h3 : 65 ≤ b.toNat <;> by_cases h4 : b.toNat ≤ 90 <;> by_cases h5 : b.toNat = 95 <;>
  (simp [show ((b.toNat : Int) ≥ 97) ↔ 97 ≤ b.toNat by omega, show ((b.toNat : Int) ≤ 122) ↔ b.toNat ≤ 122 by omega, show ((b.toNat : Int) ≥ 65) ↔ 65 ≤ b.toNat by omega, show ((b.toNat : Int) ≤ 90) ↔ b.toNat ≤ 90 by omega, show (97 ≤ (b.toNat : Int)) ↔ 97 ≤ b.toNat by omega, show (65 ≤ (b.toNat : Int)) ↔ 65 ≤ b.toNat by omega, h1, h2, h3, h4, h5] <;> omega)
theorem digit_f (b : UInt8) : PA.lexer_isDigit.f (b.toNat : Int) = some (digitB b) := by
 unfold PA.lexer_isDigit.f digitB
 by_cases h1 : 48 ≤ b.toNat <;> by_cases h2 : b.toNat ≤ 57 <;>
  (simp [show ((b.toNat : Int) ≥ 48) ↔ 48 ≤ b.toNat by omega, show (48 ≤ (b.toNat : Int)) ↔ 48 ≤ b.toNat by omega, show ((b.toNat : Int) ≤ 57) ↔ b.toNat ≤ 57 by omega, h1, h2] <;> omega)
theorem isLetter_pred : Pred 87 letterB := fun b w => PA.lexer_isLetter.calls _ _ w (letter_f b)
theorem isDigit_pred : Pred 89 digitB := fun b w => PA.lexer_isDigit.calls _ _ w (digit_f b)
theorem isSpace_pred : Pred 83 spaceB := by
 intro b w
 go_enter Tryz.func83, Tryz.ntmps83
 go_wp2_with fail
 refine (Tryz.strings_IndexByte _ _ _).mono ?_
 rintro e w1 ⟨rfl, rfl⟩
 go_wp2_with fail
 go_ret
 exact ⟨by simp [spaceB], by repeat (first | exact Drawn0.refl _ | apply Drawn0.step)⟩
theorem notNl_pred : Pred 86 notNlB := by
 intro b w
 go_enter Tryz.func86, Tryz.ntmps86
 go_wp2_with fail
 go_ret
 exact ⟨by by_cases h : b.toNat = 10 <;> simp [notNlB, h] <;> omega, by repeat (first | exact Drawn0.refl _ | apply Drawn0.step)⟩
theorem notNl2_pred : Pred 124 notNlB := by
 intro b w
 go_enter Tryz.func124, Tryz.ntmps124
 go_wp2_with fail
 go_ret
 exact ⟨by by_cases h : b.toNat = 10 <;> simp [notNlB, h] <;> omega, by repeat (first | exact Drawn0.refl _ | apply Drawn0.step)⟩
theorem word_pred : Pred 88 wordB := by
 intro b w
 go_enter Tryz.func88, Tryz.ntmps88
 go_wp2_with fail
 refine (isLetter_pred b _).mono ?_
 rintro e w1 ⟨rfl, d1⟩
 cases h : letterB b
 ·go_wp2_with fail
  refine (isDigit_pred b _).mono ?_
  rintro e w2 ⟨rfl, d2⟩
  go_wp2_with fail
  go_ret
  exact ⟨by simp [wordB, h], drawn_trans d1 d2⟩
 ·go_wp2_with fail
  go_ret
  exact ⟨by simp [wordB, h], d1⟩
def scanN (p : UInt8 → Bool) (s : List UInt8) (i : Nat) : Nat := i + ((s.drop i).takeWhile p).length
theorem scanN_go {p : UInt8 → Bool} {s : List UInt8} {i : Nat} (hi : i < s.length) (h : p s[i] = true) : scanN p s (i + 1) = scanN p s i := by
 unfold scanN
 rw [List.drop_eq_getElem_cons hi, List.takeWhile_cons, h]
 simp; omega
theorem scanN_stop {p : UInt8 → Bool} {s : List UInt8} {i : Nat} (hi : i < s.length) (h : p s[i] = false) : scanN p s i = i := by
 unfold scanN
 rw [List.drop_eq_getElem_cons hi, List.takeWhile_cons, h]
 simp
theorem scanN_end {p : UInt8 → Bool} {s : List UInt8} {i : Nat} (hi : s.length ≤ i) : scanN p s i = i := by
 unfold scanN
 rw [List.drop_eq_nil_of_le hi]
 simp
theorem scan_calls {s : ByteArray} {i : Nat} {fid : Nat} {p : UInt8 → Bool} (hp : Pred fid p) (hen : ∀ args w, (callFunc fid args).run Tryz.prog w = .ok (.enter fid args) w) (hi : i ≤ s.size) (hs : s.size ≤ 100000) (w : World) :
  Calls Tryz.prog 84 #[.string s, .int .i64 (i : Int), .func (.func fid) #[] #[]] w fun e w' => e = .returned (.int .i64 (scanN p s.data.toList i : Nat)) ∧ Drawn0 w w' := by
 have HP := ak hp
 clear hp
 go_enter Tryz.func84, Tryz.ntmps84
 go_wp2_with fail
 go_loopw [1] (fun z wr => ∃ j : Nat, j ≤ s.size ∧ z = .int .i64 (j : Int) ∧ scanN p s.data.toList j = scanN p s.data.toList i ∧ Drawn0 w wr) (fun z wr => s.size - (intOf z).toNat)
 case atStart => exact ⟨i, hi, rfl, rfl, by repeat (first | exact Drawn0.refl _ | apply Drawn0.step)⟩
 case round =>
  obtain ⟨j, hj, rfl, hsc, hdr⟩ := hrel
  have HR := ak (And.intro hsc hdr)
  clear hsc hdr
  by_cases hlt : j < s.size
  ·have i1 : (j : Int) < (s.size : Int) := by omega
   have i1b : decide ((j : Int) < (s.size : Int)) = true := decide_eq_true i1
   have i0 : (0 : Int) ≤ (j : Int) := by omega
   have hw : IntKind.i64.wrap ((j : Int) + 1) = (j : Int) + 1 := by rw [IntKind.wrap_i64]; omega
   have hlt2 : j < s.data.toList.length := by simpa using hlt
   go_wp2_with fail
   refine (HP.out s[j] _).mono ?_
   rintro e w1 ⟨rfl, d1⟩
   have D1 := ak d1
   clear d1
   cases hb : p s[j]
   ·go_wp2_with fail
    go_ret
    have e1 := scanN_stop (p := p) hlt2 hb
    exact ⟨by rw [← HR.out.1, e1]; rfl, drawn_trans HR.out.2 D1.out⟩
   ·have e1 := scanN_go (p := p) hlt2 hb
    go_wp2_with fail
    exact ⟨⟨j + 1, by omega, by simp, e1.trans HR.out.1, drawn_trans HR.out.2 D1.out⟩, by simp only [intOf]; omega⟩
  ·have i1 : ¬ (j : Int) < (s.size : Int) := by omega
   have i1b : decide ((j : Int) < (s.size : Int)) = false := decide_eq_false i1
   go_wp2_with fail
   go_ret
   have e1 := scanN_end (p := p) (s := s.data.toList) (i := j) (by simpa using hlt)
   exact ⟨by rw [← HR.out.1, e1]; rfl, HR.out.2⟩
def strGo (s : List UInt8) : Nat → Nat → Option Nat
 | 0, _ => none
 | f + 1, i => match s[i]? with
  | none => none
  | some b => if b.toNat = 10 then none else if b.toNat = 34 then some (i + 1) else
   if b.toNat = 92 then match s[i + 1]? with
    | none => strGo s f (i + 1)
    | some c => if c.toNat = 10 then strGo s f (i + 1) else strGo s f (i + 2)
   else strGo s f (i + 1)
def scanStr (s : List UInt8) : Nat × Int := match strGo s (s.length + 1) 1 with
 | some n => (n, 106)
 | none => (scanN notNlB s 1, 108)
theorem enNl2 : ∀ args w, (callFunc 124 args).run Tryz.prog w = .ok (.enter 124 args) w := enters_of Tryz.func124 (by kernel_rfl) rfl
theorem strGo_le {s : List UInt8} {f i n : Nat} (h : strGo s f i = some n) : i < n ∧ n ≤ s.length := by
 induction f generalizing i with
 | zero => simp [strGo] at h
 | succ f ih =>
  unfold strGo at h
  cases hb : s[i]? with
  | none => simp [hb] at h
  | some b =>
   have hi : i < s.length := (List.getElem?_eq_some_iff.mp hb).1
   simp only [hb] at h
   split at h
   ·simp at h
   ·split at h
    ·simp at h; omega
    ·split at h
     ·split at h
      ·have := ih h; omega
      ·split at h
       ·have := ih h; omega
       ·have := ih h; omega
     ·have := ih h; omega
theorem strGo_end {s : List UInt8} {f i : Nat} (h : s.length ≤ i) : strGo s f i = none := by
 cases f with
 | zero => rfl
 | succ f => unfold strGo; rw [List.getElem?_eq_none h]
theorem strGo_nl {s : List UInt8} {f i : Nat} (h : i < s.length) (hb : s[i].toNat = 10) : strGo s f i = none := by
 cases f with
 | zero => rfl
 | succ f => unfold strGo; rw [List.getElem?_eq_getElem h]; simp [hb]
theorem strGo_quote {s : List UInt8} {f i : Nat} (h : i < s.length) (hf : 0 < f) (hb : s[i].toNat = 34) : strGo s f i = some (i + 1) := by
 obtain ⟨g, rfl⟩ : ∃ g, f = g + 1 := ⟨f - 1, by omega⟩
 unfold strGo; rw [List.getElem?_eq_getElem h]; simp [hb]
theorem strGo_esc {s : List UInt8} {f i : Nat} (h : i + 1 < s.length) (hf : 0 < f) (hb : s[i].toNat = 92) (hc : ¬ s[i + 1].toNat = 10) : strGo s f i = strGo s (f - 1) (i + 2) := by
 obtain ⟨g, rfl⟩ : ∃ g, f = g + 1 := ⟨f - 1, by omega⟩
 rw [strGo, List.getElem?_eq_getElem (show i < s.length by omega), List.getElem?_eq_getElem h]; simp [hb, hc]
theorem strGo_step {s : List UInt8} {f i : Nat} (h : i < s.length) (hf : 0 < f) (h1 : ¬ s[i].toNat = 10) (h2 : ¬ s[i].toNat = 34) (h3 : s[i].toNat = 92 → ∀ hl : i + 1 < s.length, s[i + 1].toNat = 10) : strGo s f i = strGo s (f - 1) (i + 1) := by
 obtain ⟨g, rfl⟩ : ∃ g, f = g + 1 := ⟨f - 1, by omega⟩
 rw [strGo, List.getElem?_eq_getElem h]
 by_cases h4 : s[i].toNat = 92
 ·by_cases hl : i + 1 < s.length
  ·rw [List.getElem?_eq_getElem hl]; simp [h4, h3 h4 hl]
  ·rw [List.getElem?_eq_none (Nat.le_of_not_lt hl)]; simp [h4]
 ·simp [h1, h2, h4]
theorem scanString_calls {s : ByteArray} (hi : 1 ≤ s.size) (hs : s.size ≤ 100000) (w : World) :
  Calls Tryz.prog 92 #[.string s] w fun e w' => e = .returned (.tuple #[.int .i64 ((scanStr s.data.toList).1 : Int), .int .i64 (scanStr s.data.toList).2]) ∧ Drawn0 w w' := by
 go_enter Tryz.func92, Tryz.ntmps92
 go_wp2_with fail
 go_loopw [4] (fun z wr => ∃ j f : Nat, 1 ≤ j ∧ j ≤ s.size ∧ z = .int .i64 (j : Int) ∧ s.size < f + j ∧ strGo s.data.toList f j = strGo s.data.toList (s.data.toList.length + 1) 1 ∧ Drawn0 w wr) (fun z wr => s.size - (intOf z).toNat)
 case atStart => exact ⟨1, s.data.toList.length + 1, by omega, hi, rfl, by simp; omega, rfl, by repeat (first | exact Drawn0.refl _ | apply Drawn0.step)⟩
 case round =>
  obtain ⟨j, f, hj1, hj, rfl, hf, hsc, hdr⟩ := hrel
  have HR := ak (And.intro hsc hdr)
  have HF := ak hf
  clear hsc hdr hf
  by_cases hlt : j < s.size
  ·have i1 : (j : Int) < (s.size : Int) := by omega
   have i1b : decide ((j : Int) < (s.size : Int)) = true := decide_eq_true i1
   have i0 : (0 : Int) ≤ (j : Int) := by omega
   have i01 : (0 : Int) ≤ (j : Int) + 1 := by omega
   have hw : IntKind.i64.wrap ((j : Int) + 1) = (j : Int) + 1 := by rw [IntKind.wrap_i64]; omega
   have hlt2 : j < s.data.toList.length := by simpa using hlt
   by_cases h10 : s[j].toNat = 10
   ·have c10 : ((s[j].toNat : Int) != 10) = false := by simp [h10]
    have e1 := strGo_nl (f := f) hlt2 h10
    have S0 := ak (show scanStr s.data.toList = (scanN notNlB s.data.toList 1, 108) by rw [scanStr, ← HR.out.1, e1])
    clear e1
    go_wp2_with fail
    refine (scan_calls notNl2_pred enNl2 hi hs _).mono ?_
    rintro e w1 ⟨rfl, d1⟩
    have D1 := ak d1
    clear d1
    go_wp2_with fail
    go_ret2
    exact ⟨by rw [S0.out]; rfl, drawn_trans HR.out.2 D1.out⟩
   ·have c10 : ((s[j].toNat : Int) != 10) = true := by simp [h10]; omega
    by_cases h34 : s[j].toNat = 34
    ·have c34 : ((s[j].toNat : Int) == 34) = true := by simp [h34]
     have e1 := strGo_quote (f := f) hlt2 (by have := HF.out; omega) h34
     have S0 := ak (show scanStr s.data.toList = (j + 1, 106) by rw [scanStr, ← HR.out.1, e1])
     clear e1
     go_wp2_with fail
     go_ret2
     exact ⟨by rw [S0.out]; simp, HR.out.2⟩
    ·have c34 : ((s[j].toNat : Int) == 34) = false := by simp [h34]; omega
     by_cases h92 : s[j].toNat = 92
     ·have c92 : (s[j].toNat : Int) = 92 := by omega
      by_cases hl : j + 1 < s.size
      ·have cl : (j : Int) + 1 < (s.size : Int) := by omega
       have hl2 : j + 1 < s.data.toList.length := by simpa using hl
       have hw2 : IntKind.i64.wrap ((j : Int) + 1 + 1) = (j : Int) + 1 + 1 := by rw [IntKind.wrap_i64]; omega
       by_cases h11 : s[j + 1].toNat = 10
       ·have c11 : ((s[j + 1].toNat : Int) != 10) = false := by simp [h11]
        have S0 := ak (strGo_step (f := f) hlt2 (by have := HF.out; omega) h10 h34 (fun _ _ => h11))
        go_wp2_with fail
        exact ⟨⟨j + 1, f - 1, by omega, by omega, by simp, by have := HF.out; omega, S0.out.symm.trans HR.out.1, HR.out.2⟩, by simp only [intOf]; omega⟩
       ·have c11 : ((s[j + 1].toNat : Int) != 10) = true := by simp [h11]; omega
        have S0 := ak (strGo_esc (f := f) hl2 (by have := HF.out; omega) h92 h11)
        go_wp2_with fail
        exact ⟨⟨j + 2, f - 1, by omega, by omega, by simp; omega, by have := HF.out; omega, S0.out.symm.trans HR.out.1, HR.out.2⟩, by simp only [intOf]; omega⟩
      ·have cl : ¬ (j : Int) + 1 < (s.size : Int) := by omega
       have S0 := ak (strGo_step (f := f) hlt2 (by have := HF.out; omega) h10 h34 (fun _ hh => absurd (by simpa using hh) hl))
       go_wp2_with fail
       exact ⟨⟨j + 1, f - 1, by omega, by omega, by simp, by have := HF.out; omega, S0.out.symm.trans HR.out.1, HR.out.2⟩, by simp only [intOf]; omega⟩
     ·have c92 : ¬ (s[j].toNat : Int) = 92 := by omega
      have S0 := ak (strGo_step (f := f) hlt2 (by have := HF.out; omega) h10 h34 (fun hh _ => absurd hh h92))
      go_wp2_with fail
      exact ⟨⟨j + 1, f - 1, by omega, by omega, by simp, by have := HF.out; omega, S0.out.symm.trans HR.out.1, HR.out.2⟩, by simp only [intOf]; omega⟩
  ·have i1 : ¬ (j : Int) < (s.size : Int) := by omega
   have i1b : decide ((j : Int) < (s.size : Int)) = false := decide_eq_false i1
   have e1 := strGo_end (s := s.data.toList) (f := f) (i := j) (by simpa using hlt)
   have S0 := ak (show scanStr s.data.toList = (scanN notNlB s.data.toList 1, 108) by rw [scanStr, ← HR.out.1, e1])
   clear e1
   go_wp2_with fail
   refine (scan_calls notNl2_pred enNl2 hi hs _).mono ?_
   rintro e w1 ⟨rfl, d1⟩
   have D1 := ak d1
   clear d1
   go_wp2_with fail
   go_ret2
   exact ⟨by rw [S0.out]; rfl, drawn_trans HR.out.2 D1.out⟩
end Go.Proofs.YtkijamagbgigmaaGreatDoor.Lex
namespace Go.Proofs.YtkijamagbgigmaaGreatDoor.Lex
open Go.RowKit Go.Proofs.YtkijamagbgigmaaGreatDoor.Par Go.Proofs.YtkijamagbgigmaaGreatDoorW.PrintWords Go.Proofs.YtkijamagbgigmaaGreatDoorW.PrintLast
def kwdText : ByteArray := ⟨([117, 115, 101, 32, 112, 117, 98, 32, 97, 115, 32, 102, 110, 32, 115, 116, 114, 117, 99, 116, 32, 101, 110, 117, 109, 32, 116, 114, 97, 105, 116, 32, 105, 109, 112, 108, 32, 102, 111, 114, 32, 99, 111, 110, 115, 116, 32, 109, 97, 99, 114, 111, 32].append [108, 101, 116, 32, 109, 117, 116, 32, 119, 104, 105, 108, 101, 32, 114, 101, 116, 117, 114, 110, 32, 109, 97, 116, 99, 104, 32, 105, 102, 32, 101, 108, 115, 101, 32, 110, 101, 119, 32, 116, 114, 117, 101, 32, 102, 97, 108, 115, 101, 32, 116, 121, 112, 101]).toArray⟩
def kwds : List ByteArray := (Lib.fields kwdText.data.toList).map fun l => ⟨l.toArray⟩
def twoText : ByteArray := ⟨#[58, 58, 32, 61, 62, 32, 45, 62, 32, 61, 61, 32, 38, 38, 32, 124, 124]⟩
def twos : List ByteArray := (Lib.fields twoText.data.toList).map fun l => ⟨l.toArray⟩
theorem ascii_of {t : ByteArray} (h : t.data.toList.all (fun b => decide (b.toNat < 128)) = true) : ∀ (j : Nat) b, t.data.toList[j]? = some b → b.toNat < 128 := by
 intro j b hb
 exact odt (List.all_eq_true.1 h b (List.mem_of_getElem? hb))
theorem size_of {t : ByteArray} (n : Nat) (h : t.size = n) (hn : n < 1000) : t.size < 4294967281 := by omega
theorem kwd_calls (W : World) (h : Spc W) :
  Calls Tryz.prog 91 #[] W fun e W' => e = .returned (.slice (some ⟨W.heap.size, 0, none⟩) kwds.length kwds.length) ∧ Below W.heap.size W W' ∧ W'.heap[W.heap.size]? = some (.cells (kwds.map Value.string).toArray 9 (0, 0)) := by
 go_enter Tryz.func91, Tryz.ntmps91
 have H := ak h
 clear h
 go_wp2_with fail
 refine (Tryz.strings_Fields kwdText W (size_of 107 (by kernel_rfl) (by omega)) (ascii_of (by kernel_rfl)) H.out).mono ?_
 rintro e W1 ⟨rfl, rfl⟩
 rw [show (Lib.fields kwdText.data.toList).map (fun l => Value.string ⟨l.toArray⟩) = kwds.map Value.string by unfold kwds; rw [List.map_map]; rfl, show (Lib.fields kwdText.data.toList).length = kwds.length by unfold kwds; rw [List.length_map]]
 go_wp2_with fail
 go_ret
 exact ⟨rfl, below_alloc (Below.refl _ _) _, blk_new W _⟩
theorem two_calls (W : World) (h : Spc W) :
  Calls Tryz.prog 93 #[] W fun e W' => e = .returned (.slice (some ⟨W.heap.size, 0, none⟩) twos.length twos.length) ∧ Below W.heap.size W W' ∧ W'.heap[W.heap.size]? = some (.cells (twos.map Value.string).toArray 9 (0, 0)) := by
 go_enter Tryz.func93, Tryz.ntmps93
 have H := ak h
 clear h
 go_wp2_with fail
 refine (Tryz.strings_Fields twoText W (size_of 17 (by kernel_rfl) (by omega)) (ascii_of (by kernel_rfl)) H.out).mono ?_
 rintro e W1 ⟨rfl, rfl⟩
 rw [show (Lib.fields twoText.data.toList).map (fun l => Value.string ⟨l.toArray⟩) = twos.map Value.string by unfold twos; rw [List.map_map]; rfl, show (Lib.fields twoText.data.toList).length = twos.length by unfold twos; rw [List.length_map]]
 go_wp2_with fail
 go_ret
 exact ⟨rfl, below_alloc (Below.refl _ _) _, blk_new W _⟩
def textOf (l : List UInt8) (n : Nat) : ByteArray := ⟨(l.take n).toArray⟩
def puncts : List UInt8 := [40, 41, 123, 125, 91, 93, 60, 62, 44, 59, 58, 46, 61, 43, 45, 42, 47, 33, 38, 124]
def first (l : List UInt8) : Nat × Int :=
 if spaceB (l.headD 0) = true then (scanN spaceB l 0, 101)
 else if Lib.hasPrefix l [47, 47] = true then (scanN notNlB l 0, 102)
 else if letterB (l.headD 0) = true then (scanN wordB l 0, if kwds.any (fun x => decide (textOf l (scanN wordB l 0) = x)) = true then 104 else 103)
 else if digitB (l.headD 0) = true then (scanN digitB l 0, 105)
 else if (l.headD 0).toNat = 34 then scanStr l
 else if 1 < l.length ∧ twos.any (fun x => decide (textOf l 2 = x)) = true then (2, 107)
 else if 0 ≤ Lib.indexByte puncts (l.headD 0) then (1, 107) else (1, 108)
theorem enSpace : ∀ args w, (callFunc 83 args).run Tryz.prog w = .ok (.enter 83 args) w := enters_of Tryz.func83 (by kernel_rfl) rfl
theorem enNl : ∀ args w, (callFunc 86 args).run Tryz.prog w = .ok (.enter 86 args) w := enters_of Tryz.func86 (by kernel_rfl) rfl
theorem enWord : ∀ args w, (callFunc 88 args).run Tryz.prog w = .ok (.enter 88 args) w := enters_of Tryz.func88 (by kernel_rfl) rfl
theorem enDigit : ∀ args w, (callFunc 89 args).run Tryz.prog w = .ok (.enter 89 args) w := enters_of Tryz.func89 (by kernel_rfl) rfl
theorem head_at {s : ByteArray} (h : 0 < s.size) : s.data.toList.headD 0 = s[0] := by
 have h2 : 0 < s.data.toList.length := by simpa using h
 rw [List.headD_eq_head?_getD, List.head?_eq_getElem?, List.getElem?_eq_getElem h2]
 rfl
theorem extract_text (s : ByteArray) (n : Nat) : s.extract 0 n = textOf s.data.toList n := by
 apply ByteArray.ext
 apply Array.ext'
 simp [textOf, ByteArray.data_extract, List.extract]
theorem scanN_le {p : UInt8 → Bool} {s : List UInt8} {i : Nat} (hi : i ≤ s.length) : scanN p s i ≤ s.length := by
 have h1 := (List.takeWhile_sublist p (l := s.drop i)).length_le
 rw [List.length_drop] at h1
 unfold scanN; omega
theorem first_calls {s : ByteArray} (hi : 1 ≤ s.size) (hs : s.size ≤ 100000) (w : World) (h : Spc w) :
    Calls Tryz.prog 50 #[.string s] w fun e w' => e = .returned (.tuple #[.int .i64 ((first s.data.toList).1 : Int), .int .i64 (first s.data.toList).2]) ∧ Below w.heap.size w w' := by
  have H := ak h
  have HH := head_at hi
  have i0 : (0 : Int) < (s.size : Int) := by omega
  obtain ⟨c, hc⟩ : ∃ c, s[0] = c := ⟨_, rfl⟩
  obtain ⟨a, ha⟩ : ∃ a, first s.data.toList = a := ⟨_, rfl⟩
  rw [ha]
  have HA := ak ha
  have HC := ak (HH.trans hc)
  clear h HH ha
  go_enter Tryz.func50, Tryz.ntmps50
  go_wp2_with fail
  refine (isSpace_pred c _).mono ?_
  rintro e w1 ⟨rfl, d1⟩
  have D1 := ak (d1.below)
  clear d1
  cases hsp : spaceB c
  · have F1 := ak (show first s.data.toList = _ by unfold first; rw [HC.out, hsp, if_neg (by decide)])
    go_wp2_with fail
    refine (Tryz.strings_HasPrefix s ⟨#[47, 47]⟩ _).mono ?_
    rintro e w2 ⟨rfl, rfl⟩
    obtain ⟨b, hb⟩ : ∃ b, Lib.hasPrefix s.data.toList (⟨#[47, 47]⟩ : ByteArray).data.toList = b := ⟨_, rfl⟩
    rw [hb]
    cases b
    · have F2 := ak (F1.out.trans (by rw [show Lib.hasPrefix s.data.toList [47, 47] = false from hb, if_neg (by decide)]))
      clear F1
      go_wp2_with fail
      refine (isLetter_pred c _).mono ?_
      rintro e w3 ⟨rfl, d3⟩
      have D3 := ak (below_step D1.out d3.below)
      clear d3 D1
      cases hlt : letterB c
      · have F3 := ak (F2.out.trans (by rw [hlt, if_neg (by decide)]))
        clear F2
        go_wp2_with fail
        refine (isDigit_pred c _).mono ?_
        rintro e w4 ⟨rfl, d4⟩
        have D4 := ak (below_step D3.out d4.below)
        clear d4 D3
        cases hdg : digitB c
        · have F4 := ak (F3.out.trans (by rw [hdg, if_neg (by decide)]))
          clear F3
          by_cases h34 : c.toNat = 34
          · have c34 : ((c.toNat : Int) == 34) = true := by simp [h34]
            have F5 := ak (F4.out.trans (by rw [if_pos h34]))
            clear F4
            go_wp2_with fail
            refine (scanString_calls hi hs _).mono ?_
            rintro e w5 ⟨rfl, d5⟩
            have D5 := ak (below_step D4.out d5.below)
            clear d5 D4
            go_wp2_with fail
            go_ret2
            obtain rfl := F5.out.symm.trans HA.out
            exact ⟨rfl, D5.out⟩
          · have c34 : ((c.toNat : Int) == 34) = false := by simp [h34]; omega
            have F5 := ak (F4.out.trans (by rw [if_neg h34]))
            clear F4
            by_cases h2 : 1 < s.size
            · have i2 : (1 : Int) < (s.size : Int) := by omega
              go_wp2_with fail
              refine start_ (ds := []) (S := (fun _ => True)) #[false, false, false, false, false, false, false, false, false, false] (by kernel_rfl) rfl rfl trivial (fun hS => ?_)
              refine take_ (i := 0) (N := some 43) (v := .string s) #[true, false, false, false, false, false, false, false, false, false] rfl rfl (by kernel_rfl) (fun _ _ _ h => h) (Or.inl ⟨by kernel_rfl, by intro w' z1; go_simp⟩) hS rfl ?_
              simp only [Act.put, sia, List.set]
              refine take_ (i := 1) (N := some 44) (v := .int .i64 (s.size : Int)) #[true, true, false, false, false, false, false, false, false, false] rfl rfl (by kernel_rfl) (fun _ _ _ h => h) (Or.inl ⟨by kernel_rfl, by intro w' z1; go_simp⟩) hS rfl ?_
              simp only [Act.put, sia, List.set]
              refine take_ (i := 2) (N := some 45) (v := .bool true) #[true, true, true, false, false, false, false, false, false, false] rfl rfl (by kernel_rfl) (fun _ _ _ h => h) (Or.inl ⟨by kernel_rfl, by intro w' z1; go_simp⟩) hS rfl ?_
              simp only [Act.put, sia, List.set]
              refine take_ (i := 3) (N := some 46) (v := .bool true) #[true, true, true, true, false, false, false, false, false, false] rfl rfl (by kernel_rfl) (fun _ _ _ h => h) (Or.inl ⟨by kernel_rfl, by intro w' z1; go_simp⟩) hS rfl ?_
              simp only [Act.put, sia, List.set]
              refine take_ (i := 5) (N := some 48) (v := .string s) #[true, true, true, true, false, true, false, false, false, false] rfl rfl (by kernel_rfl) (fun _ _ _ h => h) (Or.inl ⟨by kernel_rfl, by intro w' z1; go_simp⟩) hS rfl ?_
              simp only [Act.put, sia, List.set]
              refine take_ (i := 6) (N := some 49) (v := .string (s.extract 0 2)) #[true, true, true, true, false, true, true, false, false, false] rfl rfl (by kernel_rfl) (fun _ _ _ h => h) (Or.inl ⟨by kernel_rfl, by intro w' z1; go_simp; exact fun hh => absurd hh (by omega)⟩) hS rfl ?_
              simp only [Act.put, sia, List.set]
              refine one_ (i := 4) (N := some 47) #[true, true, true, true, true, true, true, false, false, false] rfl rfl (by kernel_rfl) (by simp) (fun K hK => ?_)
              go_simp
              refine (two_calls _ ((H.out.below D4.out).below (below_drew (Below.refl _ _)))).mono ?_
              rintro e w5 ⟨rfl, hb5, hk5⟩
              have D5 := ak (below_step (below_step D4.out (below_drew (Below.refl _ _))) hb5)
              have C5 := ak (C_strs twos (by decide) hk5)
              have cS : True := trivial
              clear hb5 hk5 D4
              refine hK.out _ _ cS (fun hS => ?_)
              clear hK
              try simp only [Act.put, sia, List.set]
              refine one_ (i := 7) (N := some 50) #[true, true, true, true, true, true, true, true, false, false] rfl rfl (by kernel_rfl) (by simp) (fun K hK => ?_)
              go_simp
              refine (contains_calls twos (s.extract 0 2) (by decide) _ _ _ C5.out (Nat.le_refl _)).mono ?_
              rintro e w6 ⟨rfl, m6, rfl⟩
              have cS : True := trivial
              obtain ⟨b, hkb⟩ : ∃ b, twos.any (fun x => decide (s.extract 0 2 = x)) = b := ⟨_, rfl⟩
              rw [hkb]
              refine hK.out _ _ cS (fun hS => ?_)
              clear hK
              try simp only [Act.put, sia, List.set]
              refine take_ (i := 8) (N := some 51) (v := .bool b) #[true, true, true, true, true, true, true, true, true, false] rfl rfl (by kernel_rfl) (fun _ _ _ h => h) (Or.inl ⟨by kernel_rfl, by intro w' z1; go_simp⟩) hS rfl ?_
              simp only [Act.put, sia, List.set]
              refine take_ (i := 9) (N := some 42) (v := .bool b) #[true, true, true, true, true, true, true, true, true, true] rfl rfl (by kernel_rfl) (fun _ _ _ h => h) (Or.inl ⟨by kernel_rfl, by intro w' z1; go_simp⟩) hS rfl ?_
              simp only [Act.put, sia, List.set]
              refine wpAnyLast_done (by kernel_rfl) ?_ _
              have D6 := ak (below_step D5.out (below_drewN w5 m6))
              cases b
              · have FF := ak (F5.out.trans (by rw [← extract_text, hkb, if_neg (by simp)]))
                go_wp2_with fail
                refine (Tryz.strings_IndexByte ⟨#[40, 41, 123, 125, 91, 93, 60, 62, 44, 59, 58, 46, 61, 43, 45, 42, 47, 33, 38, 124]⟩ _ _).mono ?_
                rintro e w7 ⟨rfl, rfl⟩
                obtain ⟨ix, hix⟩ : ∃ ix, Lib.indexByte (⟨#[40, 41, 123, 125, 91, 93, 60, 62, 44, 59, 58, 46, 61, 43, 45, 42, 47, 33, 38, 124]⟩ : ByteArray).data.toList ((c.toNat : Int).toNat.toUInt8) = ix := ⟨_, rfl⟩
                have HX := ak (show Lib.indexByte puncts c = ix by rw [← hix]; simp [puncts])
                rw [hix]
                clear hix
                by_cases h0 : 0 ≤ ix
                · have h0b : decide (0 ≤ ix) = true := decide_eq_true h0
                  have F9 := ak (FF.out.trans (by rw [HX.out, if_pos h0]))
                  go_wp2_with fail
                  go_ret2
                  obtain rfl := F9.out.symm.trans HA.out
                  exact ⟨rfl, D6.out⟩
                · have h0b : decide (0 ≤ ix) = false := decide_eq_false h0
                  have F9 := ak (FF.out.trans (by rw [HX.out, if_neg h0]))
                  go_wp2_with fail
                  go_ret2
                  obtain rfl := F9.out.symm.trans HA.out
                  exact ⟨rfl, D6.out⟩
              · have FF := ak (F5.out.trans (by rw [← extract_text, hkb, if_pos ⟨by simpa using h2, rfl⟩]))
                go_wp2_with fail
                go_ret2
                obtain rfl := FF.out.symm.trans HA.out
                exact ⟨rfl, D6.out⟩
            · have i2 : ¬ (1 : Int) < (s.size : Int) := by omega
              have F6 := ak (F5.out.trans (by rw [if_neg (by intro hh; exact h2 (by simpa using hh.1))]))
              clear F5
              go_wp2_with fail
              refine start_ (ds := []) (S := (fun _ => True)) #[false, false, false, false, false, false, false, false, false, false] (by kernel_rfl) rfl rfl trivial (fun hS => ?_)
              refine take_ (i := 0) (N := some 43) (v := .string s) #[true, false, false, false, false, false, false, false, false, false] rfl rfl (by kernel_rfl) (fun _ _ _ h => h) (Or.inl ⟨by kernel_rfl, by intro w' z1; go_simp⟩) hS rfl ?_
              simp only [Act.put, sia, List.set]
              refine take_ (i := 1) (N := some 44) (v := .int .i64 (s.size : Int)) #[true, true, false, false, false, false, false, false, false, false] rfl rfl (by kernel_rfl) (fun _ _ _ h => h) (Or.inl ⟨by kernel_rfl, by intro w' z1; go_simp⟩) hS rfl ?_
              simp only [Act.put, sia, List.set]
              refine take_ (i := 2) (N := some 45) (v := .bool false) #[true, true, true, false, false, false, false, false, false, false] rfl rfl (by kernel_rfl) (fun _ _ _ h => h) (Or.inl ⟨by kernel_rfl, by intro w' z1; go_simp⟩) hS rfl ?_
              simp only [Act.put, sia, List.set]
              refine take_ (i := 3) (N := some 46) (v := .bool false) #[true, true, true, true, false, false, false, false, false, false] rfl rfl (by kernel_rfl) (fun _ _ _ h => h) (Or.inl ⟨by kernel_rfl, by intro w' z1; go_simp⟩) hS rfl ?_
              simp only [Act.put, sia, List.set]
              refine take_ (i := 4) (N := some 47) (v := undef) #[true, true, true, true, true, false, false, false, false, false] rfl rfl (by kernel_rfl) (fun _ _ _ h => h) (Or.inr ⟨by kernel_rfl, rfl⟩) hS rfl ?_
              simp only [Act.put, sia, List.set]
              refine take_ (i := 5) (N := some 48) (v := undef) #[true, true, true, true, true, true, false, false, false, false] rfl rfl (by kernel_rfl) (fun _ _ _ h => h) (Or.inr ⟨by kernel_rfl, rfl⟩) hS rfl ?_
              simp only [Act.put, sia, List.set]
              refine take_ (i := 6) (N := some 49) (v := undef) #[true, true, true, true, true, true, true, false, false, false] rfl rfl (by kernel_rfl) (fun _ _ _ h => h) (Or.inr ⟨by kernel_rfl, rfl⟩) hS rfl ?_
              simp only [Act.put, sia, List.set]
              refine take_ (i := 7) (N := some 50) (v := undef) #[true, true, true, true, true, true, true, true, false, false] rfl rfl (by kernel_rfl) (fun _ _ _ h => h) (Or.inr ⟨by kernel_rfl, rfl⟩) hS rfl ?_
              simp only [Act.put, sia, List.set]
              refine take_ (i := 8) (N := some 51) (v := .bool false) #[true, true, true, true, true, true, true, true, true, false] rfl rfl (by kernel_rfl) (fun _ _ _ h => h) (Or.inl ⟨by kernel_rfl, by intro w' z1; go_simp⟩) hS rfl ?_
              simp only [Act.put, sia, List.set]
              refine take_ (i := 9) (N := some 42) (v := .bool false) #[true, true, true, true, true, true, true, true, true, true] rfl rfl (by kernel_rfl) (fun _ _ _ h => h) (Or.inl ⟨by kernel_rfl, by intro w' z1; go_simp⟩) hS rfl ?_
              simp only [Act.put, sia, List.set]
              refine wpAnyLast_done (by kernel_rfl) ?_ _
              have FF := F6
              go_wp2_with fail
              refine (Tryz.strings_IndexByte ⟨#[40, 41, 123, 125, 91, 93, 60, 62, 44, 59, 58, 46, 61, 43, 45, 42, 47, 33, 38, 124]⟩ _ _).mono ?_
              rintro e w7 ⟨rfl, rfl⟩
              obtain ⟨ix, hix⟩ : ∃ ix, Lib.indexByte (⟨#[40, 41, 123, 125, 91, 93, 60, 62, 44, 59, 58, 46, 61, 43, 45, 42, 47, 33, 38, 124]⟩ : ByteArray).data.toList ((c.toNat : Int).toNat.toUInt8) = ix := ⟨_, rfl⟩
              have HX := ak (show Lib.indexByte puncts c = ix by rw [← hix]; simp [puncts])
              rw [hix]
              clear hix
              by_cases h0 : 0 ≤ ix
              · have h0b : decide (0 ≤ ix) = true := decide_eq_true h0
                have F9 := ak (FF.out.trans (by rw [HX.out, if_pos h0]))
                go_wp2_with fail
                go_ret2
                obtain rfl := F9.out.symm.trans HA.out
                exact ⟨rfl, below_step D4.out (below_drew (Below.refl _ _))⟩
              · have h0b : decide (0 ≤ ix) = false := decide_eq_false h0
                have F9 := ak (FF.out.trans (by rw [HX.out, if_neg h0]))
                go_wp2_with fail
                go_ret2
                obtain rfl := F9.out.symm.trans HA.out
                exact ⟨rfl, below_step D4.out (below_drew (Below.refl _ _))⟩
        · have F1 := ak (F3.out.trans (by rw [hdg, if_pos rfl]))
          go_wp2_with fail
          refine (scan_calls (i := 0) isDigit_pred enDigit (by omega) hs _).mono ?_
          rintro e w5 ⟨rfl, d⟩
          have D9 := ak d.below
          clear d
          go_wp2_with fail
          go_ret2
          obtain rfl := F1.out.symm.trans HA.out
          exact ⟨rfl, below_step D4.out D9.out⟩
      · have F3 := ak (F2.out.trans (by rw [hlt, if_pos rfl]))
        clear F2
        go_wp2_with fail
        refine (scan_calls (i := 0) word_pred enWord (by omega) hs _).mono ?_
        rintro e w4 ⟨rfl, d4⟩
        have D4 := ak (below_step D3.out d4.below)
        clear d4 D3
        have hn := scanN_le (p := wordB) (s := s.data.toList) (i := 0) (by omega)
        obtain ⟨n, hn2⟩ : ∃ n, scanN wordB s.data.toList 0 = n := ⟨_, rfl⟩
        have HN := ak hn2
        rw [hn2] at hn ⊢
        clear hn2
        have n0 : (0 : Int) ≤ (n : Int) := by omega
        have n1 : (n : Int) ≤ (s.size : Int) := by have : s.data.toList.length = s.size := by simp
                                                   omega
        go_wp2_with fail
        refine start_ (ds := []) (S := (fun _ => True)) #[false, false, false, false, false] (by kernel_rfl) rfl rfl trivial (fun hS => ?_)
        refine take_ (i := 1) (N := some 24) (v := .string s) #[false, true, false, false, false] rfl rfl (by kernel_rfl) (fun _ _ _ h => h) (Or.inl ⟨by kernel_rfl, by intro w' z1; go_simp⟩) hS rfl ?_
        simp only [Act.put, sia, List.set]
        refine take_ (i := 2) (N := some 25) (v := .int .i64 (n : Int)) #[false, true, true, false, false] rfl rfl (by kernel_rfl) (fun _ _ _ h => h) (Or.inl ⟨by kernel_rfl, by intro w' z1; go_simp⟩) hS rfl ?_
        simp only [Act.put, sia, List.set]
        refine take_ (i := 3) (N := some 26) (v := .string (s.extract 0 n)) #[false, true, true, true, false] rfl rfl (by kernel_rfl) (fun _ _ _ h => h) (Or.inl ⟨by kernel_rfl, by intro w' z1; go_simp⟩) hS rfl ?_
        simp only [Act.put, sia, List.set]
        refine one_ (i := 0) (N := some 23) #[true, true, true, true, false] rfl rfl (by kernel_rfl) (by simp) (fun K hK => ?_)
        go_simp
        refine (kwd_calls _ ((H.out.below D4.out).below (below_drew (Below.refl _ _)))).mono ?_
        rintro e w5 ⟨rfl, hb5, hk5⟩
        have D5 := ak (below_step (below_step D4.out (below_drew (Below.refl _ _))) hb5)
        have C5 := ak (C_strs kwds (by decide) hk5)
        have cS : True := trivial
        clear hb5 hk5 D4
        refine hK.out _ _ cS (fun hS => ?_)
        clear hK
        try simp only [Act.put, sia, List.set]
        refine one_ (i := 4) (N := some 27) #[true, true, true, true, true] rfl rfl (by kernel_rfl) (by simp) (fun K hK => ?_)
        go_simp
        refine (contains_calls kwds (s.extract 0 n) (by decide) _ _ _ C5.out (Nat.le_refl _)).mono ?_
        rintro e w6 ⟨rfl, m6, rfl⟩
        have cS : True := trivial
        refine hK.out _ _ cS (fun hS => ?_)
        clear hK
        try simp only [Act.put, sia, List.set]
        refine wpAnyLast_done (by kernel_rfl) ?_ _
        obtain ⟨b, hkb⟩ : ∃ b, kwds.any (fun x => decide (s.extract 0 n = x)) = b := ⟨_, rfl⟩
        rw [hkb]
        have F8 := ak (show first s.data.toList = (n, if b = true then 104 else 103) by rw [F3.out, HN.out, ← extract_text, hkb])
        clear F3 hkb
        cases b
        · go_wp2_with fail
          go_ret2
          obtain rfl := F8.out.symm.trans HA.out
          exact ⟨rfl, below_step D5.out (below_drewN _ _)⟩
        · go_wp2_with fail
          go_ret2
          obtain rfl := F8.out.symm.trans HA.out
          exact ⟨rfl, below_step D5.out (below_drewN _ _)⟩
    · have F2 := ak (F1.out.trans (by rw [show Lib.hasPrefix s.data.toList [47, 47] = true from hb, if_pos rfl]))
      clear F1
      have F1 := F2
      go_wp2_with fail
      refine (scan_calls (i := 0) notNl_pred enNl (by omega) hs _).mono ?_
      rintro e w3 ⟨rfl, d⟩
      have D9 := ak d.below
      clear d
      go_wp2_with fail
      go_ret2
      obtain rfl := F1.out.symm.trans HA.out
      exact ⟨rfl, below_step D1.out D9.out⟩
  · have F1 := ak (show first s.data.toList = _ by unfold first; rw [HC.out, hsp, if_pos rfl])
    go_wp2_with fail
    refine (scan_calls (i := 0) isSpace_pred enSpace (by omega) hs _).mono ?_
    rintro e w2 ⟨rfl, d⟩
    have D9 := ak d.below
    clear d
    go_wp2_with fail
    go_ret2
    obtain rfl := F1.out.symm.trans HA.out
    exact ⟨rfl, below_step D1.out D9.out⟩
end Go.Proofs.YtkijamagbgigmaaGreatDoor.Lex
namespace Go.Proofs.YtkijamagbgigmaaGreatDoor.Lex
open Go.RowKit Go.Proofs.YtkijamagbgigmaaGreatDoor.Par
theorem scanN_ge {p : UInt8 → Bool} {s : List UInt8} {i : Nat} : i ≤ scanN p s i := by unfold scanN; omega
theorem scanN_pos {p : UInt8 → Bool} {b : UInt8} {l : List UInt8} (h : p b = true) : 1 ≤ scanN p (b :: l) 0 := by
 unfold scanN
 rw [List.drop_zero, List.takeWhile_cons, h]
 simp
theorem prefix_head {b : UInt8} {l : List UInt8} (h : Lib.hasPrefix (b :: l) [47, 47] = true) : b = 47 := by
 unfold Lib.hasPrefix at h
 simp [List.isPrefixOf] at h
 exact h.1.symm
theorem scanStr_in {l : List UInt8} (h : l ≠ []) : 1 ≤ (scanStr l).1 ∧ (scanStr l).1 ≤ l.length := by
 have hl : 1 ≤ l.length := by cases l with
  | nil => exact absurd rfl h
  | cons a t => simp
 unfold scanStr
 cases hs : strGo l (l.length + 1) 1 with
 | none => exact ⟨scanN_ge, scanN_le hl⟩
 | some n =>
  have := strGo_le hs
  exact ⟨by show 1 ≤ n; omega, by show n ≤ l.length; omega⟩
theorem first_in {l : List UInt8} (h : l ≠ []) : 1 ≤ (first l).1 ∧ (first l).1 ≤ l.length := by
 cases l with
 | nil => exact absurd rfl h
 | cons b t =>
  have hd : (b :: t).headD 0 = b := rfl
  unfold first
  rw [hd]
  by_cases h1 : spaceB b = true
  ·rw [if_pos h1]; exact ⟨scanN_pos h1, scanN_le (by omega)⟩
  rw [if_neg h1]
  by_cases h2 : Lib.hasPrefix (b :: t) [47, 47] = true
  ·rw [if_pos h2]
   have := prefix_head h2
   subst this
   exact ⟨scanN_pos (by decide), scanN_le (by omega)⟩
  rw [if_neg h2]
  by_cases h3 : letterB b = true
  ·rw [if_pos h3]; exact ⟨scanN_pos (by unfold wordB; rw [h3]; rfl), scanN_le (by omega)⟩
  rw [if_neg h3]
  by_cases h4 : digitB b = true
  ·rw [if_pos h4]; exact ⟨scanN_pos h4, scanN_le (by omega)⟩
  rw [if_neg h4]
  by_cases h5 : b.toNat = 34
  ·rw [if_pos h5]; exact scanStr_in h
  rw [if_neg h5]
  by_cases h6 : 1 < (b :: t).length ∧ twos.any (fun x => decide (textOf (b :: t) 2 = x)) = true
  ·rw [if_pos h6]; exact ⟨by show 1 ≤ 2; omega, by show 2 ≤ _; omega⟩
  rw [if_neg h6]
  by_cases h7 : 0 ≤ Lib.indexByte puncts b
  ·rw [if_pos h7]; exact ⟨by show 1 ≤ 1; omega, by show 1 ≤ _; simp⟩
  ·rw [if_neg h7]; exact ⟨by show 1 ≤ 1; omega, by show 1 ≤ _; simp⟩
def toks : Nat → List UInt8 → List Tok
 | 0, _ => []
 | f + 1, l => if l = [] then [] else ((first l).2, textOf l (first l).1) :: toks f (l.drop (first l).1)
def tokens (l : List UInt8) : List Tok := toks l.length l
theorem toks_fuel : ∀ (f g : Nat) (l : List UInt8), l.length ≤ f → l.length ≤ g → toks f l = toks g l
 | 0, 0, l, _, _ => rfl
 | 0, g + 1, l, h, _ => by
  have : l = [] := List.eq_nil_of_length_eq_zero (by omega)
  subst this
  simp [toks]
 | f + 1, 0, l, _, h => by
  have : l = [] := List.eq_nil_of_length_eq_zero (by omega)
  subst this
  simp [toks]
 | f + 1, g + 1, l, h1, h2 => by
  unfold toks
  by_cases hl : l = []
  ·simp [hl]
  ·rw [if_neg hl, if_neg hl]
   have := first_in hl
   rw [toks_fuel f g _ (by rw [List.length_drop]; omega) (by rw [List.length_drop]; omega)]
theorem tokens_nil : tokens [] = [] := rfl
theorem tokens_cons {l : List UInt8} (h : l ≠ []) : tokens l = ((first l).2, textOf l (first l).1) :: tokens (l.drop (first l).1) := by
 have h1 := first_in h
 have h2 : l.length = (l.length - 1) + 1 := by omega
 unfold tokens
 conv => lhs; rw [h2]; unfold toks
 rw [if_neg h, toks_fuel (l.length - 1) _ _ (by rw [List.length_drop]; omega) (Nat.le_refl _)]
theorem tokens_len : ∀ (n : Nat) (l : List UInt8), l.length ≤ n → (tokens l).length ≤ l.length
 | 0, l, h => by
  have : l = [] := List.eq_nil_of_length_eq_zero (by omega)
  subst this
  simp [tokens_nil]
 | n + 1, l, h => by
  by_cases hl : l = []
  ·subst hl; simp [tokens_nil]
  ·have h1 := first_in hl
   have h2 := tokens_len n (l.drop (first l).1) (by rw [List.length_drop]; omega)
   rw [List.length_drop] at h2
   rw [tokens_cons hl, List.length_cons]
   omega
end Go.Proofs.YtkijamagbgigmaaGreatDoor.Lex
namespace Go.Proofs.YtkijamagbgigmaaGreatDoor.Lex
open Go.RowKit Go.Proofs.YtkijamagbgigmaaGreatDoor.Par Go.Proofs.YtkijamagbgigmaaGreatDoorW.PrintWords Go.Proofs.YtkijamagbgigmaaGreatDoorW.PrintLast
def tokCells (T : List Tok) : List Value := T.flatMap fun t => [.int .i64 t.1, .string t.2]
theorem tokCells_append (T U : List Tok) : tokCells (T ++ U) = tokCells T ++ tokCells U := by simp [tokCells]
theorem tokCells_at : ∀ (T : List Tok) (i : Nat) (t : Tok), T[i]? = some t → (tokCells T)[i * 2]? = some (.int .i64 t.1) ∧ (tokCells T)[i * 2 + 1]? = some (.string t.2)
 | [], i, t, h => by simp at h
 | u :: T, 0, t, h => by
  simp at h
  subst h
  exact ⟨rfl, rfl⟩
 | u :: T, i + 1, t, h => by
  have := tokCells_at T i t (by simpa using h)
  rw [show (i + 1) * 2 = i * 2 + 2 by omega]
  exact this
theorem tokOk_of {W : World} {B e : Nat} {T : List Tok} {v : Value} (h : W.ownsRow B e 2 v T.length (tokCells T)) : TokOk W T v := by
 obtain ⟨A, c, rfl⟩ := Par.own_slice h
 refine ⟨A, c, rfl, fun hT => ?_⟩
 rcases h.2 with ⟨_, h0⟩ | ⟨g, cap, cur, h1, _⟩
 ·omega
 ·cases h1
  refine ⟨g, 0, rfl, fun i t ht => ?_⟩
  obtain ⟨a1, a2⟩ := tokCells_at T i t ht
  have c1 := h.cells (g := g) rfl _ _ a1
  have c2 := h.cells (g := g) rfl _ _ a2
  simp only [Addr.add_lit, Nat.zero_add] at c1 c2 ⊢
  exact ⟨c1, c2⟩
theorem extract_drop (r : ByteArray) (n : Nat) : (r.extract n r.size).data.toList = r.data.toList.drop n := by
 rw [ByteArray.data_extract, Array.toList_extract]
 show (r.data.toList.drop n).take (r.size - n) = _
 rw [List.take_of_length_le]
 rw [List.length_drop]
 have : r.data.toList.length = r.size := by simp
 omega
theorem infoTok : (Tryz.prog.info? 98).map (fun i => (i.zero, i.size, i.bytes)) = some (some (.agg #[.int .i64 0, .string ⟨#[]⟩]), 2, 24) := by kernel_rfl
theorem tokenize_calls {s : ByteArray} (hs : s.size ≤ 2000) (w : World) (h : Spc w) :
  Calls Tryz.prog 30 #[.string s] w fun e w' => ∃ v, e = .returned (.tuple #[v, .int .i64 0]) ∧ TokOk w' (tokens s.data.toList) v ∧ Below w.heap.size w w' := by
 have H := ak h
 have h0 : ¬ (2000 : Int) < (s.size : Int) := by omega
 have h0b : decide ((2000 : Int) < (s.size : Int)) = false := decide_eq_false h0
 clear h
 go_enter Tryz.func30, Tryz.ntmps30
 go_wp2_with fail
 go_loopw [0, 4] (fun z v wr => ∃ (r : ByteArray) (T1 : List Tok), z = .string r ∧ Aside0 (wr.ownsRow w.heap.size 98 2 v T1.length (tokCells T1) ∧ Below w.heap.size w wr ∧ T1 ++ tokens r.data.toList = tokens s.data.toList) ∧ r.size + T1.length ≤ s.size) (fun z v wr => (match z with | .string r => r.size | _ => 0))
 case atStart => exact ⟨s, [], rfl, ⟨⟨rfl, Or.inl ⟨rfl, rfl⟩⟩, by repeat (first | exact Below.refl _ _ | apply below_drew), rfl⟩, by simp⟩
 case round =>
  obtain ⟨r, T1, rfl, HO, hsz⟩ := hrel
  by_cases hlt : 0 < r.size
  ·have i1 : (0 : Int) < (r.size : Int) := by omega
   have i1b : decide ((0 : Int) < (r.size : Int)) = true := decide_eq_true i1
   go_wp2_with fail
   refine (first_calls (s := r) hlt (by omega) _ (H.out.below HO.out.2.1)).mono ?_
   rintro e w1 ⟨rfl, hb1⟩
   have HB1 := ak hb1
   clear hb1
   obtain ⟨n, k, hnk⟩ : ∃ n k, first r.data.toList = (n, k) := ⟨_, _, rfl⟩
   have hne : r.data.toList ≠ [] := by
    intro e
    have h5 : r.data.toList.length = r.size := by simp
    rw [e, List.length_nil] at h5
    omega
   have hfi := first_in hne
   have htk := tokens_cons hne
   rw [hnk] at hfi htk ⊢
   have HT := ak (And.intro hfi htk)
   have hn1 : 1 ≤ n := hfi.1
   have hn2 : n ≤ r.size := by simpa using hfi.2
   clear hfi htk hne hnk
   have n0 : (0 : Int) ≤ (n : Int) := by omega
   have n1 : (n : Int) ≤ (r.size : Int) := by omega
   obtain ⟨vA, vc, rfl⟩ := Par.own_slice HO.out.1
   obtain ⟨iT, hiT, hzT⟩ := Option.map_eq_some_iff.1 infoTok
   simp only [Prod.mk.injEq] at hzT
   have hO1 := Par.own_kept (W' := w1) HO.out.1 (fun g hg => HB1.out.block g (Par.own_bound HO.out.1 g hg).2.1)
   have hO2 := ak (Par.own_kept (W' := w1.alloc (Obj.cells #[Value.int IntKind.i64 k, Value.string (r.extract 0 n)] 98)) hO1 (fun g hg => (below_alloc (Below.refl w1.heap.size w1) _).block g (Par.own_bound hO1 g hg).2.1))
   have hNw := ak (World.news_of_block (blk_new w1 (Obj.cells #[Value.int IntKind.i64 k, Value.string (r.extract 0 n)] 98)))
   have hB2 := ak (show Below w.heap.size w (w1.alloc (Obj.cells #[Value.int IntKind.i64 k, Value.string (r.extract 0 n)] 98)) from below_alloc (below_step HO.out.2.1 HB1.out) _)
   have hl2 : T1.length ≤ 2000 := by omega
   clear hO1
   go_wp2_with ((at_builtin; refine wpList_append_own_at _ rfl (.tmp 18) (.tmp 24) 71 rfl w.heap.size 98 iT (.agg #[.int .i64 0, .string ⟨#[]⟩]) 2 24 Tryz.underlying71 hiT hzT.1 hzT.2.1 hzT.2.2 rfl (by decide) _ T1.length (tokCells T1) rfl hO2.out _ 1 1 [.int .i64 k, .string (r.extract 0 n)] rfl rfl hNw.out (by intro u hu; simp only [List.mem_cons, List.not_mem_nil, or_false] at hu; rcases hu with rfl | rfl <;> rfl) (by simp only [maxLen]; omega) (by omega) hB2.out.size ?_; intro v2 w2 hown2 hgr2 hnil2 hat2; have HW2 := ak (And.intro hown2 hgr2); clear hown2 hgr2 hnil2 hat2))
   have h1 := HW2.out.1
   have h2 := HT.out.2
   have hb := hB2.out.grown HW2.out.2 hB2.out.size (fun j hj => (Par.own_bound hO2.out j (own1_mem.2 hj)).1)
   have hx : (r.extract n r.size).data.toList = r.data.toList.drop n := extract_drop r n
   have hz : (r.extract n r.size).size = r.size - n := by simp [ByteArray.size_extract]
   refine ⟨⟨r.extract n r.size, T1 ++ [(k, textOf r.data.toList n)], rfl, ⟨?_, hb, ?_⟩, ?_⟩, ?_⟩
   ·rw [List.length_append, tokCells_append, ← extract_text]
    exact h1
   ·rw [hx, List.append_assoc, ← HO.out.2.2, h2]
    rfl
   ·rw [hz, List.length_append, List.length_singleton]
    omega
   ·show (r.extract n r.size).size < r.size
    rw [hz]
    omega
  ·have i1 : ¬ (0 : Int) < (r.size : Int) := by omega
   have i1b : decide ((0 : Int) < (r.size : Int)) = false := decide_eq_false i1
   go_wp2_with fail
   go_ret2
   have h5 : r.data.toList.length = r.size := by simp
   have hr0 : r.data.toList = [] := List.eq_nil_of_length_eq_zero (by omega)
   have h3 := HO.out.2.2
   rw [hr0, tokens_nil, List.append_nil] at h3
   subst h3
   exact ⟨_, rfl, tokOk_of HO.out.1, HO.out.2.1⟩
end Go.Proofs.YtkijamagbgigmaaGreatDoor.Lex
namespace Go.Proofs.YtkijamagbgigmaaGreatDoor.Par
open Go.RowKit Go.Proofs.YtkijamagbgigmaaGreatDoorW.PrintWords Go.Proofs.YtkijamagbgigmaaGreatDoorW.PrintLast
abbrev U : Bool → Value := fun _ => .tuple #[]
structure IH (B : Nat) (T : List Tok) (tv : Value) (pb : Nat) (k : Nat) : Prop where
 block : Meth B T tv pb k .block 131 #[.pointer (some ⟨pb, 0, none⟩)] (fun _ => .tuple #[])
 statement : Meth B T tv pb k .statement 160 #[.pointer (some ⟨pb, 0, none⟩)] (fun b => .bool b)
 letS : Meth B T tv pb k .letS 181 #[.pointer (some ⟨pb, 0, none⟩)] (fun _ => .tuple #[])
 returnS : Meth B T tv pb k .returnS 183 #[.pointer (some ⟨pb, 0, none⟩)] (fun _ => .tuple #[])
 expr : Meth B T tv pb k .expr 108 #[.pointer (some ⟨pb, 0, none⟩)] (fun _ => .tuple #[])
 binary : ∀ l : Nat, l ≤ 5 → Meth B T tv pb k (.binary l) 145 #[.pointer (some ⟨pb, 0, none⟩), .int .i64 (l : Int)] (fun _ => .tuple #[])
 unary : Meth B T tv pb k .unary 167 #[.pointer (some ⟨pb, 0, none⟩)] (fun _ => .tuple #[])
 arguments : Meth B T tv pb k .arguments 197 #[.pointer (some ⟨pb, 0, none⟩)] (fun _ => .tuple #[])
 postf : Meth B T tv pb k .postf 190 #[.pointer (some ⟨pb, 0, none⟩)] (fun _ => .tuple #[])
 primary : Meth B T tv pb k .primary 184 #[.pointer (some ⟨pb, 0, none⟩)] (fun _ => .tuple #[])
 ifExpr : Meth B T tv pb k .ifExpr 199 #[.pointer (some ⟨pb, 0, none⟩)] (fun _ => .tuple #[])
 matchS : Meth B T tv pb k .matchS 200 #[.pointer (some ⟨pb, 0, none⟩)] (fun _ => .tuple #[])
 structS : Meth B T tv pb k .structS 201 #[.pointer (some ⟨pb, 0, none⟩)] (fun _ => .tuple #[])
 lambda : Meth B T tv pb k .lambda 202 #[.pointer (some ⟨pb, 0, none⟩)] (fun _ => .tuple #[])
 pattern : Meth B T tv pb k .pattern 195 #[.pointer (some ⟨pb, 0, none⟩)] (fun _ => .tuple #[])
 item : Meth B T tv pb k .item 32 #[.pointer (some ⟨pb, 0, none⟩)] (fun _ => .tuple #[])
 skipToItem : Meth B T tv pb k .skipToItem 55 #[.pointer (some ⟨pb, 0, none⟩)] (fun _ => .tuple #[])
 itemBody : ∀ kind : Int, 2 ≤ kind → kind ≤ 9 → Meth B T tv pb k (.itemBody kind) 60 #[.pointer (some ⟨pb, 0, none⟩), .int .i64 kind] (fun _ => .tuple #[])
 useS : Meth B T tv pb k .useS 100 #[.pointer (some ⟨pb, 0, none⟩)] (fun _ => .tuple #[])
 typeParams : Meth B T tv pb k .typeParams 128 #[.pointer (some ⟨pb, 0, none⟩)] (fun _ => .tuple #[])
 typeParam : Meth B T tv pb k .typeParam 158 #[.pointer (some ⟨pb, 0, none⟩)] (fun _ => .tuple #[])
 params : ∀ closing, Meth B T tv pb k (.params closing) 109 #[.pointer (some ⟨pb, 0, none⟩), .string closing] (fun _ => .tuple #[])
 function : ∀ needs, Meth B T tv pb k (.function needs) 101 #[.pointer (some ⟨pb, 0, none⟩), .bool needs] (fun _ => .tuple #[])
 dataType : ∀ kind : Int, kind = 4 ∨ kind = 5 → Meth B T tv pb k (.dataType kind) 102 #[.pointer (some ⟨pb, 0, none⟩), .int .i64 kind] (fun _ => .tuple #[])
 members : Meth B T tv pb k .members 104 #[.pointer (some ⟨pb, 0, none⟩)] (fun _ => .tuple #[])
 implS : Meth B T tv pb k .implS 105 #[.pointer (some ⟨pb, 0, none⟩)] (fun _ => .tuple #[])
 path : ∀ ty, Meth B T tv pb k (.path ty) 143 #[.pointer (some ⟨pb, 0, none⟩), .bool ty] (fun _ => .tuple #[])
 typeExpr : Meth B T tv pb k .typeExpr 107 #[.pointer (some ⟨pb, 0, none⟩)] (fun _ => .tuple #[])
theorem Does.mono {B : Nat} {T : List Tok} {tv : Value} {pb : Nat} {k k' : Nat} {x : NT} {fid : Nat} {args : Array Value} {low : List Tree} {kd : Int} {tx : ByteArray} {W0 : World} {F0 : List Nat} (h : Does B T tv pb k x fid args low kd tx W0 F0) (hk : k' ≤ k) : Does B T tv pb k' x fid args low kd tx W0 F0 := fun i hi => h i (by omega)
structure Box2 (pb : Nat) (W0 : World) (F0 : List Nat) (b : Nat) (v w : Value) : Prop where
 apart : Apart pb W0 F0 b
 cell : ∃ t, W0.heap[b]? = some (.cells #[v, w] t (0, 0))
theorem Now.box2 {B : Nat} {T : List Tok} {tv : Value} {pb : Nat} {m : Nat} {low : List Tree} {kd : Int} {tx : ByteArray} {W0 : World} {F0 : List Nat} {W : World} {s : St} (N : Now B T tv pb m low kd tx W0 F0 W s) {b : Nat} {v w : Value} (h : Box2 pb W0 F0 b v w) : W.cell? ⟨b, 0, none⟩ = some v ∧ W.cell? ⟨b, 1, none⟩ = some w := by
 obtain ⟨t, h1⟩ := h.cell
 exact ⟨(blk_cell ((N.keep h.apart).trans h1) 0).trans rfl, (blk_cell ((N.keep h.apart).trans h1) 1).trans rfl⟩
theorem Box2.old {pb : Nat} {W0 : World} {F0 : List Nat} {b : Nat} {v w : Value} {W1 : World} {F1 : List Nat} (h : Box2 pb W0 F0 b v w) (o : Old pb W0 F0 W1 F1) : Box2 pb W1 F1 b v w := by
 obtain ⟨t, h1⟩ := h.cell
 obtain ⟨h2, h3⟩ := o b h.apart
 exact ⟨h2, t, h3.trans h1⟩
def patT (T : List Tok) (n : Nat) : Bool := idT T n || decide ((peekT T n).1 = 105) || atT T n [(⟨#[116, 114, 117, 101]⟩ : ByteArray), (⟨#[102, 97, 108, 115, 101]⟩ : ByteArray), (⟨#[109, 117, 116]⟩ : ByteArray)]
theorem pat_cases {B : Nat} {T : List Tok} {tv : Value} {pb : Nat} {m : Nat} {low : List Tree} {kd : Int} {tx : ByteArray} {W0 : World} {F0 : List Nat} {W : World} {s : St} (N : Now B T tv pb m low kd tx W0 F0 W s) : patT T s.1 = true ∨ patT T s.1 = false := by cases patT T s.1 <;> simp
theorem fix_ff {b : Bool} {x y : Ans} {q : Bool × St} (h : (if (True ∧ b = true) then x else y) = some q) : (if b = true then x else y) = some q := by simpa using h
theorem fix_tt {b : Bool} {x y : Ans} {q : Bool × St} (h : (if (True ∧ b = true) then x else y) = some q) : (if b = true then x else y) = some q := by simpa using h
theorem sq_drop {s : St} {T : List Tok} {l : List ByteArray} {q : Bool × St} {x : St → Ans} (h : sqL [fun s => if (false = true ∧ atT T s.1 l = true) then x s else some (false, s)] s = some q) : sqL [] s = some q := by simpa [sqL] using h
theorem at_cases {B : Nat} {T : List Tok} {tv : Value} {pb : Nat} {m : Nat} {low : List Tree} {kd : Int} {tx : ByteArray} {W0 : World} {F0 : List Nat} {W : World} {s : St} (N : Now B T tv pb m low kd tx W0 F0 W s) (l : List ByteArray) : atT T s.1 l = true ∨ atT T s.1 l = false := by cases atT T s.1 l <;> simp
theorem id_cases {B : Nat} {T : List Tok} {tv : Value} {pb : Nat} {m : Nat} {low : List Tree} {kd : Int} {tx : ByteArray} {W0 : World} {F0 : List Nat} {W : World} {s : St} (N : Now B T tv pb m low kd tx W0 F0 W s) : idT T s.1 = true ∨ idT T s.1 = false := by cases idT T s.1 <;> simp
end Go.Proofs.YtkijamagbgigmaaGreatDoor.Par
namespace Go.Proofs.YtkijamagbgigmaaGreatDoor.Par
open Go.RowKit
theorem en_arguments : ∀ args w, (callFunc 197 args).run Tryz.prog w = .ok (.enter 197 args) w := enters_of Tryz.func197 (by kernel_rfl) rfl
theorem en_binary_1 : ∀ args w, (callFunc 170 args).run Tryz.prog w = .ok (.enter 170 args) w := enters_of Tryz.func170 (by kernel_rfl) rfl
theorem en_block_1 : ∀ args w, (callFunc 159 args).run Tryz.prog w = .ok (.enter 159 args) w := enters_of Tryz.func159 (by kernel_rfl) rfl
theorem en_bump : ∀ args w, (callFunc 59 args).run Tryz.prog w = .ok (.enter 59 args) w := enters_of Tryz.func59 (by kernel_rfl) rfl
theorem en_dataType_1 : ∀ args w, (callFunc 133 args).run Tryz.prog w = .ok (.enter 133 args) w := enters_of Tryz.func133 (by kernel_rfl) rfl
theorem en_dataType_1_1 : ∀ args w, (callFunc 135 args).run Tryz.prog w = .ok (.enter 135 args) w := enters_of Tryz.func135 (by kernel_rfl) rfl
theorem en_dataType_1_2 : ∀ args w, (callFunc 136 args).run Tryz.prog w = .ok (.enter 136 args) w := enters_of Tryz.func136 (by kernel_rfl) rfl
theorem en_expectIdent : ∀ args w, (callFunc 103 args).run Tryz.prog w = .ok (.enter 103 args) w := enters_of Tryz.func103 (by kernel_rfl) rfl
theorem en_expr : ∀ args w, (callFunc 108 args).run Tryz.prog w = .ok (.enter 108 args) w := enters_of Tryz.func108 (by kernel_rfl) rfl
theorem en_ifExpr_1 : ∀ args w, (callFunc 211 args).run Tryz.prog w = .ok (.enter 211 args) w := enters_of Tryz.func211 (by kernel_rfl) rfl
theorem en_ifExpr_1_1 : ∀ args w, (callFunc 212 args).run Tryz.prog w = .ok (.enter 212 args) w := enters_of Tryz.func212 (by kernel_rfl) rfl
theorem en_item_1 : ∀ args w, (callFunc 57 args).run Tryz.prog w = .ok (.enter 57 args) w := enters_of Tryz.func57 (by kernel_rfl) rfl
theorem en_lambda : ∀ args w, (callFunc 202 args).run Tryz.prog w = .ok (.enter 202 args) w := enters_of Tryz.func202 (by kernel_rfl) rfl
theorem en_lambda_1 : ∀ args w, (callFunc 218 args).run Tryz.prog w = .ok (.enter 218 args) w := enters_of Tryz.func218 (by kernel_rfl) rfl
theorem en_let : ∀ args w, (callFunc 181 args).run Tryz.prog w = .ok (.enter 181 args) w := enters_of Tryz.func181 (by kernel_rfl) rfl
theorem en_match : ∀ args w, (callFunc 200 args).run Tryz.prog w = .ok (.enter 200 args) w := enters_of Tryz.func200 (by kernel_rfl) rfl
theorem en_match_1 : ∀ args w, (callFunc 213 args).run Tryz.prog w = .ok (.enter 213 args) w := enters_of Tryz.func213 (by kernel_rfl) rfl
theorem en_match_1_1 : ∀ args w, (callFunc 215 args).run Tryz.prog w = .ok (.enter 215 args) w := enters_of Tryz.func215 (by kernel_rfl) rfl
theorem en_members_1 : ∀ args w, (callFunc 138 args).run Tryz.prog w = .ok (.enter 138 args) w := enters_of Tryz.func138 (by kernel_rfl) rfl
theorem en_members_2 : ∀ args w, (callFunc 139 args).run Tryz.prog w = .ok (.enter 139 args) w := enters_of Tryz.func139 (by kernel_rfl) rfl
theorem en_params_1 : ∀ args w, (callFunc 146 args).run Tryz.prog w = .ok (.enter 146 args) w := enters_of Tryz.func146 (by kernel_rfl) rfl
theorem en_params_1_1 : ∀ args w, (callFunc 147 args).run Tryz.prog w = .ok (.enter 147 args) w := enters_of Tryz.func147 (by kernel_rfl) rfl
theorem en_params_1_1_1 : ∀ args w, (callFunc 148 args).run Tryz.prog w = .ok (.enter 148 args) w := enters_of Tryz.func148 (by kernel_rfl) rfl
theorem en_path_1 : ∀ args w, (callFunc 165 args).run Tryz.prog w = .ok (.enter 165 args) w := enters_of Tryz.func165 (by kernel_rfl) rfl
theorem en_path_1_1 : ∀ args w, (callFunc 166 args).run Tryz.prog w = .ok (.enter 166 args) w := enters_of Tryz.func166 (by kernel_rfl) rfl
theorem en_pattern : ∀ args w, (callFunc 195 args).run Tryz.prog w = .ok (.enter 195 args) w := enters_of Tryz.func195 (by kernel_rfl) rfl
theorem en_pattern_1 : ∀ args w, (callFunc 209 args).run Tryz.prog w = .ok (.enter 209 args) w := enters_of Tryz.func209 (by kernel_rfl) rfl
theorem en_pattern_2 : ∀ args w, (callFunc 210 args).run Tryz.prog w = .ok (.enter 210 args) w := enters_of Tryz.func210 (by kernel_rfl) rfl
theorem en_postfix_1 : ∀ args w, (callFunc 204 args).run Tryz.prog w = .ok (.enter 204 args) w := enters_of Tryz.func204 (by kernel_rfl) rfl
theorem en_postfix_2 : ∀ args w, (callFunc 205 args).run Tryz.prog w = .ok (.enter 205 args) w := enters_of Tryz.func205 (by kernel_rfl) rfl
theorem en_primary_1 : ∀ args w, (callFunc 196 args).run Tryz.prog w = .ok (.enter 196 args) w := enters_of Tryz.func196 (by kernel_rfl) rfl
theorem en_primary_2 : ∀ args w, (callFunc 198 args).run Tryz.prog w = .ok (.enter 198 args) w := enters_of Tryz.func198 (by kernel_rfl) rfl
theorem en_returnStmt : ∀ args w, (callFunc 183 args).run Tryz.prog w = .ok (.enter 183 args) w := enters_of Tryz.func183 (by kernel_rfl) rfl
theorem en_skipToItem_1 : ∀ args w, (callFunc 97 args).run Tryz.prog w = .ok (.enter 97 args) w := enters_of Tryz.func97 (by kernel_rfl) rfl
theorem en_statement_1 : ∀ args w, (callFunc 182 args).run Tryz.prog w = .ok (.enter 182 args) w := enters_of Tryz.func182 (by kernel_rfl) rfl
theorem en_statement_2 : ∀ args w, (callFunc 185 args).run Tryz.prog w = .ok (.enter 185 args) w := enters_of Tryz.func185 (by kernel_rfl) rfl
theorem en_statement_3 : ∀ args w, (callFunc 186 args).run Tryz.prog w = .ok (.enter 186 args) w := enters_of Tryz.func186 (by kernel_rfl) rfl
theorem en_structLit : ∀ args w, (callFunc 201 args).run Tryz.prog w = .ok (.enter 201 args) w := enters_of Tryz.func201 (by kernel_rfl) rfl
theorem en_structLit_1 : ∀ args w, (callFunc 216 args).run Tryz.prog w = .ok (.enter 216 args) w := enters_of Tryz.func216 (by kernel_rfl) rfl
theorem en_structLit_1_1 : ∀ args w, (callFunc 217 args).run Tryz.prog w = .ok (.enter 217 args) w := enters_of Tryz.func217 (by kernel_rfl) rfl
theorem en_typeExpr : ∀ args w, (callFunc 107 args).run Tryz.prog w = .ok (.enter 107 args) w := enters_of Tryz.func107 (by kernel_rfl) rfl
theorem en_typeExpr_1 : ∀ args w, (callFunc 141 args).run Tryz.prog w = .ok (.enter 141 args) w := enters_of Tryz.func141 (by kernel_rfl) rfl
theorem en_typeExpr_2 : ∀ args w, (callFunc 142 args).run Tryz.prog w = .ok (.enter 142 args) w := enters_of Tryz.func142 (by kernel_rfl) rfl
theorem en_typeParam : ∀ args w, (callFunc 158 args).run Tryz.prog w = .ok (.enter 158 args) w := enters_of Tryz.func158 (by kernel_rfl) rfl
theorem en_typeParam_1 : ∀ args w, (callFunc 180 args).run Tryz.prog w = .ok (.enter 180 args) w := enters_of Tryz.func180 (by kernel_rfl) rfl
theorem en_typeParams_1 : ∀ args w, (callFunc 157 args).run Tryz.prog w = .ok (.enter 157 args) w := enters_of Tryz.func157 (by kernel_rfl) rfl
theorem en_unary_1 : ∀ args w, (callFunc 188 args).run Tryz.prog w = .ok (.enter 188 args) w := enters_of Tryz.func188 (by kernel_rfl) rfl
theorem en_unary_2 : ∀ args w, (callFunc 189 args).run Tryz.prog w = .ok (.enter 189 args) w := enters_of Tryz.func189 (by kernel_rfl) rfl
theorem en_use_1 : ∀ args w, (callFunc 127 args).run Tryz.prog w = .ok (.enter 127 args) w := enters_of Tryz.func127 (by kernel_rfl) rfl
end Go.Proofs.YtkijamagbgigmaaGreatDoor.Par
namespace Go.Proofs.YtkijamagbgigmaaGreatDoor.Par
open Go.RowKit Go.Proofs.YtkijamagbgigmaaGreatDoorW.PrintWords Go.Proofs.YtkijamagbgigmaaGreatDoorW.PrintLast
variable {B : Nat} {T : List Tok} {tv : Value} {pb : Nat} {low : List Tree} {kd : Int} {tx : ByteArray} {W0 : World} {F0 : List Nat}
theorem arguments_go  {k : Nat}  (ih : ∀ i, i < k → IH B T tv pb i) : Meth B T tv pb k .arguments 197 #[.pointer (some ⟨pb, 0, none⟩)] (fun _ => .tuple #[]) := by
 intro m low kd tx W0 F0 W s q hm hlow N hr
 obtain ⟨j, rfl, h1, h2, h3⟩ := run_some hr
 have H0 := ak (N.fit h1)
 have E0 := ak h2
 have G := ak h3
 have HL := ak hlow
 have RUN := ak hr
 clear N h1 h2 h3 hr hlow
 go_enter Tryz.func197, Tryz.ntmps197
 go_wp2_with fail
 have E1 := ak (sq_st E0.out)
 clear E0
 refine (bump_now H0.out (by omega)).mono ?_
 rintro e W2 ⟨rfl, N2⟩
 have H2 := ak N2
 clear N2 H0
 go_wp2_with fail
 obtain ⟨p3, e3, d3⟩ := sq_cons E1.out
 have R3 := ak e3
 have E4 := ak (d3)
 clear E1 e3 d3
 refine (list_now 108 #[.pointer (some ⟨pb, 0, none⟩)] #[] en_expr (by have := HL.out; omega) (Meth.does (k := j) (fun i hi => (ih i (by omega)).expr) (by have := HL.out; omega) (Nat.le_refl _)) H2.out R3.out).mono ?_
 rintro e W5 ⟨rfl, N5⟩
 have H5 := ak N5
 clear N5 H2
 go_wp2_with fail
 go_end0
 obtain hq := sq_nil E4.out
 have hf := G.out
 rw [hq] at hf ⊢
 exact ⟨rfl, (H5.out.fit hf)⟩
theorem binRhs0_do  {k : Nat} {bxp : Nat} {bxl : Nat}  (ih : ∀ i, i < k → IH B T tv pb i) (hb_bxp : Box pb W0 F0 bxp (.pointer (some ⟨pb, 0, none⟩))) (hb_bxl : Box pb W0 F0 bxl (.int .i64 0)) (hlow : low.length + k ≤ 10000000) : Does B T tv pb (k + 1) (.binRhs 0) 170 #[.pointer (some ⟨bxp, 0, none⟩), .pointer (some ⟨bxl, 0, none⟩)] low kd tx W0 F0 := by
 intro i hi m W s q hm N hr
 obtain ⟨j, rfl, h1, h2, h3⟩ := run_some hr
 have H0 := ak (N.fit h1)
 have E0 := ak h2
 have G := ak h3
 have HL := ak (show low.length + (j + 1) ≤ 10000000 by omega)
 have B_bxp := ak hb_bxp
 have c0_bxp := N.box hb_bxp
 have B_bxl := ak hb_bxl
 have c0_bxl := N.box hb_bxl
 clear N h1 h2 h3 hr hlow hb_bxp hb_bxl
 go_enter Tryz.func170, Tryz.ntmps170
 go_wp2_with fail
 have E1 := ak (sq_st E0.out)
 clear E0
 refine (bump_now H0.out (by omega)).mono ?_
 rintro e W2 ⟨rfl, N2⟩
 have H2 := ak N2
 have c2_bxp := N2.box B_bxp.out
 have c2_bxl := N2.box B_bxl.out
 clear N2 H0 c0_bxp c0_bxl
 go_wp2_with fail
 obtain ⟨p3, e3, d3⟩ := sq_cons E1.out
 have R3 := ak e3
 have E4 := ak (d3)
 clear E1 e3 d3
 refine ((ih j (by omega)).binary 1 (by omega) _ _ _ _ _ _ _ _ _ (by omega) (by have := HL.out; omega) H2.out R3.out).mono ?_
 rintro e W5 ⟨rfl, N5⟩
 have H5 := ak N5
 have c5_bxp := N5.box B_bxp.out
 have c5_bxl := N5.box B_bxl.out
 clear N5 H2 c2_bxp c2_bxl
 go_wp2_with fail
 go_end0
 obtain hq := sq_nil E4.out
 have hf := G.out
 rw [hq] at hf ⊢
 exact ⟨⟨_, rfl⟩, _, (H5.out.fit hf)⟩
theorem eof_cases {m : Nat} {W : World} {s : St} (N : Now B T tv pb m low kd tx W0 F0 W s) : eofT T s.1 = true ∨ eofT T s.1 = false := by cases eofT T s.1 <;> simp
theorem and2 {a b : Bool} {x y : Ans} {q : Bool × St} (h : (if (!a && !b) = true then x else y) = some q) : (a = true ∧ y = some q) ∨ (a = false ∧ b = true ∧ y = some q) ∨ (a = false ∧ b = false ∧ x = some q) := by
 cases a <;> cases b <;> simp_all
theorem skipB_do {k : Nat} {bxp : Nat} (ih : ∀ i, i < k → IH B T tv pb i) (hb_bxp : Box pb W0 F0 bxp (.pointer (some ⟨pb, 0, none⟩))) (hlow : low.length + k ≤ 10000000) : Does B T tv pb (k + 1) .skipB 97 #[.pointer (some ⟨bxp, 0, none⟩)] low kd tx W0 F0 := by
 intro i hi m W s q hm N hr
 obtain ⟨j, rfl, h1, h2, h3⟩ := run_some hr
 have H0 := ak (N.fit h1)
 obtain ⟨p, e1, e2⟩ := sq_cons (sq_st h2)
 have E0 := ak e1
 have E9 := ak (And.intro (sq_nil e2) h3)
 have B_bxp := ak hb_bxp
 have c0_bxp := N.box hb_bxp
 clear N h1 h2 h3 hr hlow hb_bxp e1 e2
 go_enter Tryz.func97, Tryz.ntmps97
 go_wp2_with fail
 refine (bump_now H0.out (by omega)).mono ?_
 rintro e W1 ⟨rfl, N1⟩
 have H1 := ak N1
 clear N1 H0 c0_bxp
 go_wp2_with fail
 go_loopg [] j (fun g wr => ∃ s1, Now B T tv pb 10000000 low kd tx W0 F0 wr s1 ∧ run T g .skipLoop s1 = some p ∧ g ≤ j)
 case atStart =>
  obtain ⟨_, _, g1, _, _⟩ := run_some E0.out
  exact ⟨_, H1.out.fit g1, E0.out, Nat.le_refl _⟩
 case round =>
  obtain ⟨s1, N2, hr1, hg⟩ := hrel
  obtain ⟨i, rfl, f1, f2, f3⟩ := run_some hr1
  have H2 := ak N2
  have E1 := ak (and2 f2)
  have hi2 := ak hg
  have c2_bxp := N2.box B_bxp.out
  clear N2 hr1 hg f1 f2 f3
  rcases eof_cases H2.out with hat | hat
  ·have E2 : Aside0 (p = (false, s1)) := by
    rcases E1.out with ⟨h, g⟩ | ⟨_, h, g⟩ | ⟨h, _, _⟩
    ·exact ⟨some_in g⟩
    ·exact ⟨some_in g⟩
    ·rw [hat] at h; cases h
   have HAT := ak hat
   clear hat
   go_wp2_with fail
   refine wp_region_last_drew (ds := []) (S := (fun w' => w'.cell? ⟨bxp, 0, none⟩ = some (.pointer (some ⟨pb, 0, none⟩)))) (by kernel_rfl) c2_bxp (fun hS => ?_)
   refine wpAnyLast_take (i := 0) (v := .pointer (some ⟨pb, 0, none⟩)) rfl (by kernel_rfl) (by kernel_rfl) (by kernel_rfl) (by kernel_rfl) (by kernel_rfl) (fun _ _ _ h => h) (Or.inl ⟨by rfl, by intro w' z1; go_simp⟩) hS ?_
   simp only [Act.put, sia, List.set]
   refine wpAnyLast_ready (rs := [1]) (by kernel_rfl) (by simp) (AllReadyL.cons rfl (by simp) (fun K hK => ?_) AllReadyL.nil)
   go_simp
   refine (eof_now (H2.out.below (below_drew (Below.refl _ _)))).mono ?_
   rintro e W3 ⟨rfl, N3⟩
   rw [HAT.out]
   have H3 := ak N3
   have cS := N3.box B_bxp.out
   clear N3
   refine hK.out _ _ cS (fun hS => ?_)
   clear hK
   try simp only [Act.put, sia, List.set]
   refine wpAnyLast_take (i := 2) (v := .bool false) rfl (by kernel_rfl) (by kernel_rfl) (by kernel_rfl) (by kernel_rfl) (by kernel_rfl) (fun _ _ _ h => h) (Or.inl ⟨by rfl, by intro w' z1; go_simp⟩) hS ?_
   simp only [Act.put, sia, List.set]
   refine wpAnyLast_take (i := 3) (v := .bool false) rfl (by kernel_rfl) (by kernel_rfl) (by kernel_rfl) (by kernel_rfl) (by kernel_rfl) (fun _ _ _ h => h) (Or.inl ⟨by rfl, by intro w' z1; go_simp⟩) hS ?_
   simp only [Act.put, sia, List.set]
   refine wpAnyLast_take (i := 4) (v := undef) rfl (by kernel_rfl) (by kernel_rfl) (by kernel_rfl) (by kernel_rfl) (by kernel_rfl) (fun _ _ _ h => h) (Or.inr ⟨by rfl, rfl⟩) hS ?_
   simp only [Act.put, sia, List.set]
   refine wpAnyLast_take (i := 5) (v := undef) rfl (by kernel_rfl) (by kernel_rfl) (by kernel_rfl) (by kernel_rfl) (by kernel_rfl) (fun _ _ _ h => h) (Or.inr ⟨by rfl, rfl⟩) hS ?_
   simp only [Act.put, sia, List.set]
   refine wpAnyLast_take (i := 6) (v := undef) rfl (by kernel_rfl) (by kernel_rfl) (by kernel_rfl) (by kernel_rfl) (by kernel_rfl) (fun _ _ _ h => h) (Or.inr ⟨by rfl, rfl⟩) hS ?_
   simp only [Act.put, sia, List.set]
   refine wpAnyLast_take (i := 7) (v := undef) rfl (by kernel_rfl) (by kernel_rfl) (by kernel_rfl) (by kernel_rfl) (by kernel_rfl) (fun _ _ _ h => h) (Or.inr ⟨by rfl, rfl⟩) hS ?_
   simp only [Act.put, sia, List.set]
   refine wpAnyLast_take (i := 8) (v := .bool false) rfl (by kernel_rfl) (by kernel_rfl) (by kernel_rfl) (by kernel_rfl) (by kernel_rfl) (fun _ _ _ h => h) (Or.inl ⟨by rfl, by intro w' z1; go_simp⟩) hS ?_
   simp only [Act.put, sia, List.set]
   refine wpAnyLast_done (by kernel_rfl) ?_ _
   show _
   go_wp2_with fail
   go_end0
   obtain ⟨hq, hf⟩ := E9.out
   rw [E2.out] at hq
   subst hq
   exact ⟨⟨_, rfl⟩, _, H3.out⟩
  ·have HAT := ak hat
   clear hat
   rcases at_cases H2.out itemKw with hkw | hkw
   ·have E2 : Aside0 (p = (false, s1)) := by
     rcases E1.out with ⟨h, g⟩ | ⟨_, h, g⟩ | ⟨_, h, _⟩
     ·exact ⟨some_in g⟩
     ·exact ⟨some_in g⟩
     ·rw [hkw] at h; cases h
    have HKW := ak hkw
    clear hkw
    go_wp2_with fail
    refine wp_region_last_drew (ds := []) (S := (fun w' => w'.cell? ⟨bxp, 0, none⟩ = some (.pointer (some ⟨pb, 0, none⟩)))) (by kernel_rfl) c2_bxp (fun hS => ?_)
    refine wpAnyLast_take (i := 0) (v := .pointer (some ⟨pb, 0, none⟩)) rfl (by kernel_rfl) (by kernel_rfl) (by kernel_rfl) (by kernel_rfl) (by kernel_rfl) (fun _ _ _ h => h) (Or.inl ⟨by rfl, by intro w' z1; go_simp⟩) hS ?_
    simp only [Act.put, sia, List.set]
    refine wpAnyLast_ready (rs := [1]) (by kernel_rfl) (by simp) (AllReadyL.cons rfl (by simp) (fun K hK => ?_) AllReadyL.nil)
    go_simp
    refine (eof_now (H2.out.below (below_drew (Below.refl _ _)))).mono ?_
    rintro e W3 ⟨rfl, N3⟩
    rw [HAT.out]
    have H3 := ak N3
    have cS := N3.box B_bxp.out
    clear N3
    refine hK.out _ _ cS (fun hS => ?_)
    clear hK
    try simp only [Act.put, sia, List.set]
    refine wpAnyLast_take (i := 2) (v := .bool true) rfl (by kernel_rfl) (by kernel_rfl) (by kernel_rfl) (by kernel_rfl) (by kernel_rfl) (fun _ _ _ h => h) (Or.inl ⟨by rfl, by intro w' z1; go_simp⟩) hS ?_
    simp only [Act.put, sia, List.set]
    refine wpAnyLast_take (i := 3) (v := .bool true) rfl (by kernel_rfl) (by kernel_rfl) (by kernel_rfl) (by kernel_rfl) (by kernel_rfl) (fun _ _ _ h => h) (Or.inl ⟨by rfl, by intro w' z1; go_simp⟩) hS ?_
    simp only [Act.put, sia, List.set]
    refine wpAnyLast_take (i := 4) (v := .pointer (some ⟨pb, 0, none⟩)) rfl (by kernel_rfl) (by kernel_rfl) (by kernel_rfl) (by kernel_rfl) (by kernel_rfl) (fun _ _ _ h => h) (Or.inl ⟨by rfl, by intro w' z1; go_simp⟩) hS ?_
    simp only [Act.put, sia, List.set]
    refine wpAnyLast_ready (rs := [5]) (by kernel_rfl) (by simp) (AllReadyL.cons rfl (by simp) (fun K hK => ?_) AllReadyL.nil)
    go_simp
    refine (kw_now H3.out).mono ?_
    rintro e W4 ⟨rfl, N4, K4⟩
    have H4 := ak (And.intro N4 K4)
    have cS := N4.box B_bxp.out
    clear N4 K4
    refine hK.out _ _ cS (fun hS => ?_)
    clear hK
    try simp only [Act.put, sia, List.set]
    refine wpAnyLast_ready (rs := [6]) (by kernel_rfl) (by simp) (AllReadyL.cons rfl (by simp) (fun K hK => ?_) AllReadyL.nil)
    go_simp
    refine (at_now H4.out.1 (by decide) H4.out.2 (by decide)).mono ?_
    rintro e W5 ⟨rfl, N5⟩
    rw [HKW.out]
    have H5 := ak N5
    have cS := N5.box B_bxp.out
    clear N5
    refine hK.out _ _ cS (fun hS => ?_)
    clear hK
    try simp only [Act.put, sia, List.set]
    refine wpAnyLast_take (i := 7) (v := .bool false) rfl (by kernel_rfl) (by kernel_rfl) (by kernel_rfl) (by kernel_rfl) (by kernel_rfl) (fun _ _ _ h => h) (Or.inl ⟨by rfl, by intro w' z1; go_simp⟩) hS ?_
    simp only [Act.put, sia, List.set]
    refine wpAnyLast_take (i := 8) (v := .bool false) rfl (by kernel_rfl) (by kernel_rfl) (by kernel_rfl) (by kernel_rfl) (by kernel_rfl) (fun _ _ _ h => h) (Or.inl ⟨by rfl, by intro w' z1; go_simp⟩) hS ?_
    simp only [Act.put, sia, List.set]
    refine wpAnyLast_done (by kernel_rfl) ?_ _
    show _
    go_wp2_with fail
    go_end0
    obtain ⟨hq, hf⟩ := E9.out
    rw [E2.out] at hq
    subst hq
    exact ⟨⟨_, rfl⟩, _, H5.out⟩
   ·have E2 : Aside0 (run T i .skipLoop (bumpS T s1) = some p) := by
     rcases E1.out with ⟨h, g⟩ | ⟨_, h, g⟩ | ⟨_, _, g⟩
     ·rw [HAT.out] at h; cases h
     ·rw [hkw] at h; cases h
     ·exact ⟨g⟩
    have HKW := ak hkw
    clear hkw
    go_wp2_with fail
    refine wp_region_last_drew (ds := []) (S := (fun w' => w'.cell? ⟨bxp, 0, none⟩ = some (.pointer (some ⟨pb, 0, none⟩)))) (by kernel_rfl) c2_bxp (fun hS => ?_)
    refine wpAnyLast_take (i := 0) (v := .pointer (some ⟨pb, 0, none⟩)) rfl (by kernel_rfl) (by kernel_rfl) (by kernel_rfl) (by kernel_rfl) (by kernel_rfl) (fun _ _ _ h => h) (Or.inl ⟨by rfl, by intro w' z1; go_simp⟩) hS ?_
    simp only [Act.put, sia, List.set]
    refine wpAnyLast_ready (rs := [1]) (by kernel_rfl) (by simp) (AllReadyL.cons rfl (by simp) (fun K hK => ?_) AllReadyL.nil)
    go_simp
    refine (eof_now (H2.out.below (below_drew (Below.refl _ _)))).mono ?_
    rintro e W3 ⟨rfl, N3⟩
    rw [HAT.out]
    have H3 := ak N3
    have cS := N3.box B_bxp.out
    clear N3
    refine hK.out _ _ cS (fun hS => ?_)
    clear hK
    try simp only [Act.put, sia, List.set]
    refine wpAnyLast_take (i := 2) (v := .bool true) rfl (by kernel_rfl) (by kernel_rfl) (by kernel_rfl) (by kernel_rfl) (by kernel_rfl) (fun _ _ _ h => h) (Or.inl ⟨by rfl, by intro w' z1; go_simp⟩) hS ?_
    simp only [Act.put, sia, List.set]
    refine wpAnyLast_take (i := 3) (v := .bool true) rfl (by kernel_rfl) (by kernel_rfl) (by kernel_rfl) (by kernel_rfl) (by kernel_rfl) (fun _ _ _ h => h) (Or.inl ⟨by rfl, by intro w' z1; go_simp⟩) hS ?_
    simp only [Act.put, sia, List.set]
    refine wpAnyLast_take (i := 4) (v := .pointer (some ⟨pb, 0, none⟩)) rfl (by kernel_rfl) (by kernel_rfl) (by kernel_rfl) (by kernel_rfl) (by kernel_rfl) (fun _ _ _ h => h) (Or.inl ⟨by rfl, by intro w' z1; go_simp⟩) hS ?_
    simp only [Act.put, sia, List.set]
    refine wpAnyLast_ready (rs := [5]) (by kernel_rfl) (by simp) (AllReadyL.cons rfl (by simp) (fun K hK => ?_) AllReadyL.nil)
    go_simp
    refine (kw_now H3.out).mono ?_
    rintro e W4 ⟨rfl, N4, K4⟩
    have H4 := ak (And.intro N4 K4)
    have cS := N4.box B_bxp.out
    clear N4 K4
    refine hK.out _ _ cS (fun hS => ?_)
    clear hK
    try simp only [Act.put, sia, List.set]
    refine wpAnyLast_ready (rs := [6]) (by kernel_rfl) (by simp) (AllReadyL.cons rfl (by simp) (fun K hK => ?_) AllReadyL.nil)
    go_simp
    refine (at_now H4.out.1 (by decide) H4.out.2 (by decide)).mono ?_
    rintro e W5 ⟨rfl, N5⟩
    rw [HKW.out]
    have H5 := ak N5
    have cS := N5.box B_bxp.out
    clear N5
    refine hK.out _ _ cS (fun hS => ?_)
    clear hK
    try simp only [Act.put, sia, List.set]
    refine wpAnyLast_take (i := 7) (v := .bool true) rfl (by kernel_rfl) (by kernel_rfl) (by kernel_rfl) (by kernel_rfl) (by kernel_rfl) (fun _ _ _ h => h) (Or.inl ⟨by rfl, by intro w' z1; go_simp⟩) hS ?_
    simp only [Act.put, sia, List.set]
    refine wpAnyLast_take (i := 8) (v := .bool true) rfl (by kernel_rfl) (by kernel_rfl) (by kernel_rfl) (by kernel_rfl) (by kernel_rfl) (fun _ _ _ h => h) (Or.inl ⟨by rfl, by intro w' z1; go_simp⟩) hS ?_
    simp only [Act.put, sia, List.set]
    refine wpAnyLast_done (by kernel_rfl) ?_ _
    show _
    go_wp2_with fail
    refine (bump_now H5.out (by omega)).mono ?_
    rintro e W6 ⟨rfl, N6⟩
    have H6 := ak N6
    clear N6
    go_wp2_with fail
    go_roundg i
    case rel =>
     obtain ⟨_, _, g1, _, _⟩ := run_some E2.out
     exact ⟨_, H6.out.fit g1, E2.out, by have := hi2.out; omega⟩
    case measure => omega
end Go.Proofs.YtkijamagbgigmaaGreatDoor.Par
