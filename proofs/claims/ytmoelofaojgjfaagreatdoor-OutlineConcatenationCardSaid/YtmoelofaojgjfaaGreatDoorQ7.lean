/- Packed texts, part 7: contracts and plain lemmas towards outlineConcatenation_holds. -/
import Derived.Test.YtmoelofaojgjfaaGreatDoorQ6
import Derived.StillTailTactics
import Derived.Deep.RegionHeld3
set_option maxHeartbeats 8000000
set_option maxRecDepth 1000000
set_option linter.unusedVariables false
set_option linter.unusedSimpArgs false
namespace Go.Proofs.YtmoelofaojgjfaaGreatDoor.Par
open Go.RowKit Go.Proofs.YtmoelofaojgjfaaGreatDoorW.PrintWords Go.Proofs.YtmoelofaojgjfaaGreatDoorW.PrintLast
theorem FrX.wk {pb gb : Nat} {F F' : List Nat} {W W' : World} (h : Fr pb F F' W W') : Fr pb (gb :: F) F' W W' :=
 ⟨h.os, h.tape, h.output, h.size, fun g h1 h2 h3 => h.kept g h1 h2 (fun hh => h3 (List.mem_cons_of_mem _ hh)), fun g hg => (h.rows g hg).imp (List.mem_cons_of_mem _) id⟩
theorem FrX.trans {pb gb : Nat} {F F1 F2 : List Nat} {W W1 W2 : World} (h : Fr pb (gb :: F) F1 W W1) (k : Fr pb (gb :: F1) F2 W1 W2) : Fr pb (gb :: F) F2 W W2 := by
 refine ⟨k.os.trans h.os, k.tape.trans h.tape, k.output.trans h.output, Nat.le_trans h.size k.size, fun g h1 h2 h3 => ?_, fun g hg => ?_⟩
 ·have hn : g ∉ gb :: F1 := fun hg => by
   rcases List.mem_cons.1 hg with hg | hg
   ·exact h3 (by rw [hg]; exact List.mem_cons_self)
   ·rcases h.rows g hg with h4 | h4
    ·exact h3 h4
    ·omega
  rw [k.kept g (Nat.lt_of_lt_of_le h1 h.size) h2 hn, h.kept g h1 h2 h3]
 ·rcases k.rows g hg with h4 | h4
  ·rcases List.mem_cons.1 h4 with h5 | h5
   ·exact .inl (by rw [h5]; exact List.mem_cons_self)
   ·exact h.rows g h5
  ·exact .inr (Nat.le_trans h.size h4)
theorem FrX.after {pb gb : Nat} {F F' : List Nat} {W W' : World} {v : Value} (h : Fr pb F F' W W') (hl : gb < W.heap.size) (hp : gb ≠ pb) (hF : gb ∉ F) (hv : ∃ t, W.heap[gb]? = some (.cells #[v] t (0, 0))) : gb ∉ F' ∧ ∃ t, W'.heap[gb]? = some (.cells #[v] t (0, 0)) := by
 refine ⟨fun hh => ?_, ?_⟩
 ·rcases h.rows gb hh with k | k
  ·exact hF k
  ·omega
 ·obtain ⟨t, ht⟩ := hv
  exact ⟨t, (h.kept gb hl hp hF).trans ht⟩
end Go.Proofs.YtmoelofaojgjfaaGreatDoor.Par
namespace Go.Proofs.YtmoelofaojgjfaaGreatDoor.Par
open Go.RowKit Go.Proofs.YtmoelofaojgjfaaGreatDoorW.PrintWords Go.Proofs.YtmoelofaojgjfaaGreatDoorW.PrintLast
variable {B : Nat} {T : List Tok} {tv : Value} {pb : Nat} {W : World} {pos : Nat} {low : List Tree} {kd : Int} {tx : ByteArray} {ks : List Tree} {F : List Nat}
theorem zpb (kind : Int) (fid : Nat) (bound free : Array Value) (s' : St) (h : PS 186 128 B T tv pb W pos (low ++ [.mk kd tx ks]) F) (hsm : low.length + ks.length ≤ 1000000000) (gb : Nat) (gv : Value) (hgl : gb < W.heap.size) (hgp' : gb ≠ pb) (hgF : gb ∉ F) (hen : ∀ args w, (callFunc fid args).run Tryz.prog w = .ok (.enter fid args) w)
  (hf : ∀ W1 F1, PS 186 128 B T tv pb W1 pos ((low ++ [.mk kd tx ks]) ++ [.mk kind zj []]) F1 → Fr pb F F1 W W1 →
   Calls Tryz.prog fid (bound ++ free) W1 fun e W' => (∃ v, e = .returned v) ∧ ∃ F', PS 186 128 B T tv pb W' s'.1 ((low ++ [.mk kd tx ks]) ++ [.mk kind zj s'.2]) F' ∧ Fr pb (gb :: F1) F' W1 W' ∧ gb ∉ F' ∧ ∃ t, W'.heap[gb]? = some (.cells #[gv] t (0, 0))) :
  Calls Tryz.prog 146 #[.pointer (some ⟨pb, 0, none⟩), .int .i64 kind, .func (.func fid) bound free] W (fun e W' => e = .returned (.tuple #[]) ∧ ∃ F', PS 186 128 B T tv pb W' s'.1 (low ++ [.mk kd tx (ks ++ [.mk kind zj s'.2])]) F' ∧ Fr pb (gb :: F) F' W W' ∧ gb ∉ F' ∧ ∃ t, W'.heap[gb]? = some (.cells #[gv] t (0, 0))) := by
 obtain ⟨sv, p1, cs, Fs, p2, rfl, p3⟩ := h.obj
 obtain ⟨sA, scap, rfl⟩ := za3 p2
 obtain ⟨n, hn⟩ : ∃ n, Hid ((low ++ [Tree.mk kd tx ks]).length = n) := ⟨_, rfl⟩
 have hn2 : n ≤ 1000000001 := by
  rw [← show (low ++ [Tree.mk kd tx ks]).length = n from hn, List.length_append, List.length_singleton]
  omega
 rw [show (low ++ [Tree.mk kd tx ks]).length = n from hn] at p1 p2 h hf ⊢
 have HF := ak hf
 have H0 := ak h
 have o2 : W.cell? ⟨pb, 2, none⟩ = some (.slice sA n scap) := (zf p1 2).trans rfl
 have o3 := zl p1 2
 have hpl : pb < W.heap.size := za8 p1
 have HP := ak (And.intro p1 (And.intro p2 p3))
 have HNN := ak (show (low ++ [Tree.mk kd tx ks]).length = n from hn)
 clear h hf p1 p2 p3 hn
 go_enter Tryz.func146, Tryz.ntmps146
 go_wp2_with fail
 have HBA := ak (show Below W.heap.size W W.drew from (Below.refl _ _).drew)
 have HPd := ak (show PS 186 128 B T tv pb W.drew pos (low ++ [.mk kd tx ks]) (own1 (Value.slice sA n scap) ++ Fs) from H0.out.below HBA.out)
 have HOW := ak (show W.drew.ownsRow B 128 3 (.slice sA n scap) n cs from za7 HP.out.2.1 (fun _ _ => rfl))
 have HTL := ak (show TL W.drew B 128 (low ++ [.mk kd tx ks]) cs Fs from zc1 _ cs Fs HP.out.2.2 (fun _ _ => rfl))
 have HPB := ak (show W.drew.heap[pb]? = some (.cells #[tv, .int .i64 (pos : Int), .slice sA n scap] 186 (0, 0)) from HP.out.1)
 have hBW : B ≤ W.drew.heap.size := by
  have := H0.out.ge
  show B ≤ W.heap.size
  omega
 have hpsv : some pb ≠ (Value.slice sA n scap).ownBlock := fun e => H0.out.pbF (List.mem_append_left _ (zas.2 e.symm))
 have HNE := ak hpsv
 clear hpsv
 have HO3 := ak o3
 have o2d : W.drew.cell? ⟨pb, 2, none⟩ = some (.slice sA n scap) := o2
 refine zbj (ds := [13]) (S := (fun w' => w'.cell? ⟨pb, 2, none⟩ = some (.slice sA n scap))) (by kernel_rfl) o2 (fun hS => ?_)
 refine zm (i := 0) (v := .pointer (some ⟨pb, 0, none⟩)) rfl (by kernel_rfl) (by kernel_rfl) (by kernel_rfl) (by kernel_rfl) (by kernel_rfl) (fun _ _ _ h => h) (Or.inl ⟨by rfl, by intro w' z1; go_simp⟩) hS ?_
 simp only [Act.put, sia, List.set]
 refine zm (i := 1) (v := .pointer (some ⟨pb, 0, none⟩)) rfl (by kernel_rfl) (by kernel_rfl) (by kernel_rfl) (by kernel_rfl) (by kernel_rfl) (fun _ _ _ h => h) (Or.inl ⟨by rfl, by intro w' z1; go_simp⟩) hS ?_
 simp only [Act.put, sia, List.set]
 refine zm (i := 2) (v := .pointer (some ⟨pb, 2, none⟩)) rfl (by kernel_rfl) (by kernel_rfl) (by kernel_rfl) (by kernel_rfl) (by kernel_rfl) (fun _ _ _ h => h) (Or.inl ⟨by rfl, by intro w' z1; go_simp⟩) hS ?_
 simp only [Act.put, sia, List.set]
 refine zm (i := 3) (v := .slice sA n scap) rfl (by kernel_rfl) (by kernel_rfl) (by kernel_rfl) (by kernel_rfl) (by kernel_rfl) (fun _ _ _ h => h) (Or.inl ⟨by rfl, by intro w' z1; go_simp⟩) hS ?_
 simp only [Act.put, sia, List.set]
 refine zm (i := 4) (v := .int .i64 kind) rfl (by kernel_rfl) (by kernel_rfl) (by kernel_rfl) (by kernel_rfl) (by kernel_rfl) (fun _ _ _ h => h) (Or.inl ⟨by rfl, by intro w' z1; go_simp⟩) hS ?_
 simp only [Act.put, sia, List.set]
 refine zm (i := 5) (v := .agg #[.int .i64 kind, .string ⟨#[]⟩, .slice none 0 0]) rfl (by kernel_rfl) (by kernel_rfl) (by kernel_rfl) (by kernel_rfl) (by kernel_rfl) (fun _ _ _ h => h) (Or.inl ⟨by rfl, by intro w' z1; go_simp⟩) hS ?_
 simp only [Act.put, sia, List.set]
 refine zm (i := 6) (v := .int .i64 (n : Int)) rfl (by kernel_rfl) (by kernel_rfl) (by kernel_rfl) (by kernel_rfl) (by kernel_rfl) (fun _ _ _ h => h) (Or.inl ⟨by rfl, by intro w' z1; go_simp⟩) hS ?_
 simp only [Act.put, sia, List.set]
 refine zp (rs := [7]) (by kernel_rfl) (by simp) (zo.cons rfl (by simp) (fun K hK => ?_) zo.nil)
 go_simp
 refine hK.out _ _ (by go_keep) (fun hS => ?_)
 clear hK
 try simp only [Act.put, sia, List.set]
 refine zp (rs := [8]) (by kernel_rfl) (by simp) (zo.cons rfl (by simp) (fun K hK => ?_) zo.nil)
 refine zc3 (w0 := W.drew) (W := W.drew) B (by rfl) (.tmp 9) (.tmp 13) 126 128 (.agg #[.int .i64 0, .string ⟨#[]⟩, .slice none 0 0]) 3 48 (by rfl) Tryz.underlying126 zsa rfl (by decide) (by decide) (.slice sA n scap) n cs [.int .i64 0, .string ⟨#[]⟩, .slice none 0 0] rfl rfl rfl (by intro u hu; simp only [List.mem_cons, List.not_mem_nil, or_false] at hu; rcases hu with rfl | rfl | rfl <;> rfl) HOW.out (Below.refl _ _) hBW (by omega) ?_
 intro v1 w1 hown hb hg hat
 obtain ⟨g1, cap1, rfl, a1, a2, a3, a4, a5, a6⟩ := zdz hown
 have r0 : w1.cell? ⟨pb, 2, none⟩ = some (.slice sA n scap) := (World.cell?_of_block (hg.block pb hpl HNE.out)).trans o2
 have r4 : w1.frozen? ⟨pb, 2, none⟩ = false := (World.frozen?_of_block (hg.block pb hpl HNE.out)).trans HO3.out
 have hgs := zd8 hat HNE.out hpl
 have hgp : pb ≠ g1 := fun e => hgs e.symm
 have a4' : ((w1.setCell ⟨g1, n * 3, none⟩ (.int .i64 kind)).setCell ⟨g1, n * 3 + 1, none⟩ (.string ⟨#[]⟩)).cell? ⟨g1, n * 3 + 2, none⟩ = some (.slice none 0 0) := (by rw [World.cell?_setCell_other _ _ _ _ (by intro e; injection e; omega), World.cell?_setCell_other _ _ _ _ (by intro e; injection e; omega)]; exact a5)
 have HFin := ak (show ∃ F', PS 186 128 B T tv pb ((((w1.setCell ⟨g1, n * 3, none⟩ (.int .i64 kind)).setCell ⟨g1, n * 3 + 1, none⟩ (.string ⟨#[]⟩)).setCell ⟨g1, n * 3 + 2, none⟩ (.slice none 0 0)).setCell ⟨pb, 2, none⟩ (.slice (some ⟨g1, 0, none⟩) (n + 1) cap1)) pos ((low ++ [.mk kd tx ks]) ++ [.mk kind zj []]) F' ∧ Fr pb (own1 (Value.slice sA n scap) ++ Fs) F' W ((((w1.setCell ⟨g1, n * 3, none⟩ (.int .i64 kind)).setCell ⟨g1, n * 3 + 1, none⟩ (.string ⟨#[]⟩)).setCell ⟨g1, n * 3 + 2, none⟩ (.slice none 0 0)).setCell ⟨pb, 2, none⟩ (.slice (some ⟨g1, 0, none⟩) (n + 1) cap1)) by
  obtain ⟨F', f1, f2⟩ := PS.push_mem (t := .mk kind zj []) (W1 := (((w1.setCell ⟨g1, n * 3, none⟩ (.int .i64 kind)).setCell ⟨g1, n * 3 + 1, none⟩ (.string ⟨#[]⟩)).setCell ⟨g1, n * 3 + 2, none⟩ (.slice none 0 0))) (v1 := .slice (some ⟨g1, 0, none⟩) (n + 1) cap1) (c := [.int .i64 kind, .string ⟨#[]⟩, .slice none 0 0]) HPd.out HPB.out HTL.out zmc (by rw [List.append_nil]; exact HPd.out.nd) (by simp) (by rw [HNN.out]; exact zg1 (x := .int .i64 kind) (y := .string ⟨#[]⟩) (z := .slice none 0 0) hown (by rw [zf3 _ cs Fs HTL.out, HNN.out])) hat hg.os hg.tape hg.output (by have := hg.size; simpa [World.setCell] using this) (fun g h1 h2 => by
   have hgg := zd8 hat h2 h1
   rw [Below.heap_setCell _ _ _ g (Ne.symm hgg), Below.heap_setCell _ _ _ g (Ne.symm hgg), Below.heap_setCell _ _ _ g (Ne.symm hgg)]
   exact hg.block g h1 h2)
  rw [List.append_nil] at f2
  exact ⟨F', f1, (Fr.of_below HBA.out).trans f2⟩)
 clear hown hb hg hat
 have j0 : (0 : Int) ≤ (n : Int) := by omega
 have j1 : (n : Int) < ((n + 1 : Nat) : Int) := by omega
 have j2 : (n : Int) < (n : Int) + 1 := by omega
 refine hK.out _ _ r0 (fun hS => ?_)
 clear hK
 try simp only [Act.put, sia, List.set]
 refine zft (i := 9) (v := .pointer (some ⟨g1, n * 3, none⟩)) #[true, true, true, true, true, true, true, true, true, true, false, false, false, false] rfl rfl (by kernel_rfl) (fun _ _ _ h => h) (Or.inl ⟨by rfl, by intro w'; go_simp⟩) rfl ?_
 simp only [Act.put, sia, List.set]
 refine zft (i := 11) (v := .pointer (some ⟨pb, 0, none⟩)) #[true, true, true, true, true, true, true, true, true, true, false, true, false, false] rfl rfl (by kernel_rfl) (fun _ _ _ h => h) (Or.inl ⟨by rfl, by intro w'; go_simp⟩) rfl ?_
 simp only [Act.put, sia, List.set]
 refine zft (i := 12) (v := .pointer (some ⟨pb, 2, none⟩)) #[true, true, true, true, true, true, true, true, true, true, false, true, true, false] rfl rfl (by kernel_rfl) (fun _ _ _ h => h) (Or.inl ⟨by rfl, by intro w'; go_simp⟩) rfl ?_
 simp only [Act.put, sia, List.set]
 refine zp (rs := [10, 13]) (by kernel_rfl) (by simp) (zo.cons rfl (by simp) (fun K hK => ?_) (zo.cons_last rfl (by simp) (fun K hK => ?_) zo.nil))
 ·go_simp
  refine hK.out _ _ (by go_keep) (fun hS => ?_)
  clear hK
  try simp only [Act.put, sia, List.set]
  refine zp (rs := [13]) (by kernel_rfl) (by simp) (zo.cons_last rfl (by simp) (fun K hK => ?_) zo.nil)
  go_simp
  refine hK.out _ _ ?_
  refine zq (by kernel_rfl) ?_ _
  clear hK hS
  obtain ⟨F2, h2, f2⟩ := HFin.out
  refine ‹∀ (a : Act) (w : World), (Code.seq _ _).wp _ _ a w → _› _ _ ?_
  generalize (((w1.setCell ⟨g1, n * 3, none⟩ (.int .i64 kind)).setCell ⟨g1, n * 3 + 1, none⟩ (.string ⟨#[]⟩)).setCell ⟨g1, n * 3 + 2, none⟩ (.slice none 0 0)).setCell ⟨pb, 2, none⟩ (.slice (some ⟨g1, 0, none⟩) (n + 1) cap1) = W2 at h2 f2 ⊢
  have H2 := ak (And.intro h2 f2)
  clear h2 f2 r0 r4 a1 a2 a3 a4 a5 a6 a4' hgs hgp o2 o3 o2d HFin
  go_wp2_with fail
  refine (HF.out W2 F2 H2.out.1 H2.out.2).mono ?_
  rintro e W3 ⟨⟨v, rfl⟩, F3, h3, f3, g3, v3⟩
  have H3 := ak (And.intro h3 (And.intro (FrX.trans (FrX.wk H2.out.2) f3) (And.intro g3 v3)))
  clear h3 f3 g3 v3 H2
  go_wp2_with fail
  refine (zck (.mk kind zj s'.2) H3.out.1 hsm).mono ?_
  rintro e W4 ⟨rfl, F4, h4, f4⟩
  have H4 := ak (And.intro h4 (And.intro (FrX.trans H3.out.2.1 (FrX.wk f4)) (FrX.after f4 (Nat.lt_of_lt_of_le hgl H3.out.2.1.size) hgp' H3.out.2.2.1 H3.out.2.2.2)))
  clear h4 f4 H3
  go_wp2_with fail
  go_end0
  exact ⟨rfl, F4, H4.out⟩
 ·go_simp
  refine hK.out _ _ ?_
  clear hK
  try simp only [Act.put, sia, List.set]
  refine zp (rs := [10]) (by kernel_rfl) (by simp) (zhu rfl (fun K hK => ?_) zo.nil)
  go_simp
  refine hK.out _ _ (by intro z1; go_keep) ?_
  refine zq (by kernel_rfl) ?_ _
  clear hK
  rw [zdk w1 g1 pb _ _ _ _ _ _ _ _ hgs]
  obtain ⟨F2, h2, f2⟩ := HFin.out
  refine ‹∀ (a : Act) (w : World), (Code.seq _ _).wp _ _ a w → _› _ _ ?_
  generalize (((w1.setCell ⟨g1, n * 3, none⟩ (.int .i64 kind)).setCell ⟨g1, n * 3 + 1, none⟩ (.string ⟨#[]⟩)).setCell ⟨g1, n * 3 + 2, none⟩ (.slice none 0 0)).setCell ⟨pb, 2, none⟩ (.slice (some ⟨g1, 0, none⟩) (n + 1) cap1) = W2 at h2 f2 ⊢
  have H2 := ak (And.intro h2 f2)
  clear h2 f2 r0 r4 a1 a2 a3 a4 a5 a6 a4' hgs hgp o2 o3 o2d HFin
  go_wp2_with fail
  refine (HF.out W2 F2 H2.out.1 H2.out.2).mono ?_
  rintro e W3 ⟨⟨v, rfl⟩, F3, h3, f3, g3, v3⟩
  have H3 := ak (And.intro h3 (And.intro (FrX.trans (FrX.wk H2.out.2) f3) (And.intro g3 v3)))
  clear h3 f3 g3 v3 H2
  go_wp2_with fail
  refine (zck (.mk kind zj s'.2) H3.out.1 hsm).mono ?_
  rintro e W4 ⟨rfl, F4, h4, f4⟩
  have H4 := ak (And.intro h4 (And.intro (FrX.trans H3.out.2.1 (FrX.wk f4)) (FrX.after f4 (Nat.lt_of_lt_of_le hgl H3.out.2.1.size) hgp' H3.out.2.2.1 H3.out.2.2.2)))
  clear h4 f4 H3
  go_wp2_with fail
  go_end0
  exact ⟨rfl, F4, H4.out⟩
end Go.Proofs.YtmoelofaojgjfaaGreatDoor.Par
namespace Go.Proofs.YtmoelofaojgjfaaGreatDoor.Par
open Go.RowKit Go.Proofs.YtmoelofaojgjfaaGreatDoorW.PrintWords Go.Proofs.YtmoelofaojgjfaaGreatDoorW.PrintLast
structure NowG (B : Nat) (T : List Tok) (tv : Value) (pb : Nat) (gb : Nat) (v : Value) (m : Nat) (low : List Tree) (kd : Int) (tx : ByteArray) (W0 : World) (F0 : List Nat) (W : World) (s : St) : Prop where
 st : ∃ F, PS 186 128 B T tv pb W s.1 (low ++ [.mk kd tx s.2]) F ∧ Fr pb (gb :: F0) F W0 W ∧ gb ∉ F
 gv : ∃ t, W.heap[gb]? = some (.cells #[v] t (0, 0))
 gp : gb ≠ pb
 pos : s.1 ≤ T.length
 len : T.length ≤ 100000
 low : low.length ≤ 10000000
 kids : s.2.length ≤ s.1 + m
end Go.Proofs.YtmoelofaojgjfaaGreatDoor.Par
namespace Go.Proofs.YtmoelofaojgjfaaGreatDoor.Par
open Go.RowKit Go.Proofs.YtmoelofaojgjfaaGreatDoorW.PrintWords Go.Proofs.YtmoelofaojgjfaaGreatDoorW.PrintLast
variable {B : Nat} {T : List Tok} {tv : Value} {pb : Nat} {gb : Nat} {v : Value} {m : Nat} {low : List Tree} {kd : Int} {tx : ByteArray} {W0 : World} {F0 : List Nat} {W : World} {s : St}
theorem Now.toG (N : Now B T tv pb m low kd tx W0 F0 W s) (h : Box pb W0 F0 gb v) : NowG B T tv pb gb v m low kd tx W0 F0 W s := by
 obtain ⟨F, h1, h2⟩ := N.st
 obtain ⟨t, ht⟩ := h.cell
 exact ⟨⟨F, h1, FrX.wk h2, (N.apart h2 h.apart).nin⟩, ⟨t, (N.keep h.apart).trans ht⟩, h.apart.ne, N.pos, N.len, N.low, N.kids⟩
theorem NowG.use (N : NowG B T tv pb gb v m low kd tx W0 F0 W s) : ∃ F, Now B T tv pb m low kd tx W F W s ∧ Box pb W F gb v ∧ (∀ b, b ≠ gb → zer pb W0 F0 b → zer pb W F b ∧ W.heap[b]? = W0.heap[b]?) ∧
  ∀ W' m' s', Now B T tv pb m' low kd tx W F W' s' → NowG B T tv pb gb v m' low kd tx W0 F0 W' s' := by
 obtain ⟨F, h1, h2, h3⟩ := N.st
 obtain ⟨t, ht⟩ := N.gv
 refine ⟨F, ⟨⟨F, h1, Fr.refl _ _ _⟩, N.pos, N.len, N.low, N.kids⟩, ⟨⟨za8 ht, N.gp, h3⟩, t, ht⟩, fun b hb a => ?_, fun W' m' s' N' => ?_⟩
 ·have hn : b ∉ gb :: F0 := fun hh => by
   rcases List.mem_cons.1 hh with e | e
   ·exact hb e
   ·exact a.nin e
  refine ⟨⟨Nat.lt_of_lt_of_le a.lt h2.size, a.ne, fun hh => ?_⟩, h2.kept b a.lt a.ne hn⟩
  rcases h2.rows b hh with k | k
  ·exact hn k
  ·have := a.lt
   omega
 ·obtain ⟨F', k1, k2⟩ := N'.st
  obtain ⟨q1, q2⟩ := FrX.after k2 (za8 ht) N.gp h3 ⟨t, ht⟩
  exact ⟨⟨F', k1, FrX.trans h2 (FrX.wk k2), q1⟩, q2, N.gp, N'.pos, N'.len, N'.low, N'.kids⟩
theorem NowG.set (N : NowG B T tv pb gb v m low kd tx W0 F0 W s) (hB : B ≤ gb) (v' : Value) : NowG B T tv pb gb v' m low kd tx W0 F0 (W.setCell ⟨gb, 0, none⟩ v') s := by
 obtain ⟨F, h1, h2, h3⟩ := N.st
 obtain ⟨t, ht⟩ := N.gv
 have hk : ∀ g, g ≠ gb → (W.setCell ⟨gb, 0, none⟩ v').heap[g]? = W.heap[g]? := fun g hg => Below.heap_setCell _ ⟨gb, 0, none⟩ v' g hg
 have hsz : (W.setCell ⟨gb, 0, none⟩ v').heap.size = W.heap.size := by simp [World.setCell]
 refine ⟨⟨F, ?_, ⟨h2.os, h2.tape, h2.output, by rw [hsz]; exact h2.size, fun g k1 k2 k3 => (hk g (fun e => k3 (by rw [e]; exact List.mem_cons_self))).trans (h2.kept g k1 k2 k3), h2.rows⟩, h3⟩, ⟨t, zfm ht 0 v' rfl⟩, N.gp, N.pos, N.len, N.low, N.kids⟩
 obtain ⟨sv, g1, g2⟩ := h1.obj
 have htk := h1.tokBelow (W' := (W.setCell ⟨gb, 0, none⟩ v')) (G := [gb]) (G' := []) ⟨rfl, rfl, rfl, by rw [hsz]; exact Nat.le_refl _, fun g k1 k2 k3 => hk g (by simpa using k3), fun g hg => by cases hg⟩
 exact ⟨⟨sv, (hk pb (fun e => N.gp e.symm)).trans g1, zeb g2 (fun g hg => hk g (fun e => h3 (e ▸ hg)))⟩, h1.nd, h1.pbF, h1.ge, htk (fun g hg => by simp at hg; omega)⟩
theorem NowG.back {WB : World} {FB : List Nat} (N : NowG B T tv pb gb v m low kd tx WB FB W s) (hfr : Fr pb F0 FB W0 WB) (hg : W0.heap.size ≤ gb) : Now B T tv pb m low kd tx W0 F0 W s := by
 obtain ⟨F, h1, h2, h3⟩ := N.st
 refine ⟨⟨F, h1, ⟨h2.os.trans hfr.os, h2.tape.trans hfr.tape, h2.output.trans hfr.output, Nat.le_trans hfr.size h2.size, fun g k1 k2 k3 => ?_, fun g hg' => ?_⟩⟩, N.pos, N.len, N.low, N.kids⟩
 ·rw [h2.kept g (Nat.lt_of_lt_of_le k1 hfr.size) k2 (fun hh => ?_), hfr.kept g k1 k2 k3]
  rcases List.mem_cons.1 hh with e | e
  ·omega
  ·rcases hfr.rows g e with e2 | e2
   ·exact k3 e2
   ·omega
 ·rcases h2.rows g hg' with e | e
  ·rcases List.mem_cons.1 e with e | e
   ·exact .inr (by omega)
   ·exact hfr.rows g e
  ·exact .inr (Nat.le_trans hfr.size e)
theorem zuc (N : Now B T tv pb m low kd tx W0 F0 W s) (hm : m ≤ 30000000) (hlow : low.length < 10000000) (a : zer pb W0 F0 gb) (kind : Int) (fid : Nat) (bound free : Array Value) (s' : St) (hen : ∀ args w, (callFunc fid args).run Tryz.prog w = .ok (.enter fid args) w) (hp : s'.1 ≤ T.length)
  (hf : ∀ W1 F1, Now B T tv pb 0 (low ++ [.mk kd tx s.2]) kind zj W1 F1 W1 (s.1, []) → Old pb W0 F0 W1 F1 → Calls Tryz.prog fid (bound ++ free) W1 fun e W' => (∃ v, e = .returned v) ∧ ∃ m', NowG B T tv pb gb v m' (low ++ [.mk kd tx s.2]) kind zj W1 F1 W' s') :
  Calls Tryz.prog 146 #[.pointer (some ⟨pb, 0, none⟩), .int .i64 kind, .func (.func fid) bound free] W fun e W' => e = .returned (.tuple #[]) ∧ NowG B T tv pb gb v (m + 100001) low kd tx W0 F0 W' (s'.1, s.2 ++ [.mk kind zj s'.2]) := by
 obtain ⟨F, h1, h2⟩ := N.st
 have a2 := N.apart h2 a
 have hsm : low.length + s.2.length ≤ 1000000000 := by have := N.low; have := N.kids; have := N.pos; have := N.len; omega
 have hl2 : (low ++ [Tree.mk kd tx s.2]).length ≤ 10000000 := by rw [List.length_append, List.length_singleton]; omega
 refine (zpb kind fid bound free s' h1 hsm gb v a2.lt a2.ne a2.nin hen (fun W1 F1 g1 g2 => (hf W1 F1 ⟨⟨F1, g1, Fr.refl _ _ _⟩, N.pos, N.len, hl2, by simp⟩ (fun b a => ⟨?_, ?_⟩)).mono ?_)).mono ?_
 ·have a2 := N.apart h2 a
  refine ⟨Nat.lt_of_lt_of_le a2.lt g2.size, a2.ne, fun hh => ?_⟩
  rcases g2.rows b hh with h | h
  ·exact a2.nin h
  ·have := a2.lt
   omega
 ·have a2 := N.apart h2 a
  rw [g2.kept b a2.lt a2.ne a2.nin]
  exact N.keep a
 ·rintro e W' ⟨hv, m', M⟩
  obtain ⟨F', k1, k2, k3⟩ := M.st
  exact ⟨hv, F', k1, k2, k3, M.gv⟩
 ·rintro e W' ⟨rfl, F', k1, k2, k3, k4⟩
  exact ⟨rfl, ⟨F', k1, FrX.trans (FrX.wk h2) k2, k3⟩, k4, a.ne, hp, N.len, N.low, by have := N.kids; have := N.pos; have := N.len; simp; omega⟩
theorem zw3 {kind : Int} {f : St → Ans} {q : Bool × St} (h : zud kind f s = some q) : ∃ p, f (s.1, []) = some p ∧ q = (p.1, (p.2.1, s.2 ++ [.mk kind zj p.2.2])) := by
 obtain ⟨a, h1, h2⟩ := zcp h
 exact ⟨a, h1, zab h2⟩
end Go.Proofs.YtmoelofaojgjfaaGreatDoor.Par
namespace Go.Proofs.YtmoelofaojgjfaaGreatDoor.Par
open Go.RowKit Go.Proofs.YtmoelofaojgjfaaGreatDoorW.PrintWords Go.Proofs.YtmoelofaojgjfaaGreatDoorW.PrintLast
variable {B : Nat} {T : List Tok} {tv : Value} {pb : Nat} {low : List Tree} {kd : Int} {tx : ByteArray} {W0 : World} {F0 : List Nat}
theorem NowG.p {gb : Nat} {v : Value} {m : Nat} {W : World} {s : St} {F : List Nat} {bxp : Nat} {x : Value} (hb : Box pb W0 F0 bxp x) (hne : bxp ≠ gb) (o : ∀ b, b ≠ gb → zer pb W0 F0 b → zer pb W F b ∧ W.heap[b]? = W0.heap[b]?) : Box pb W F bxp x := by
 obtain ⟨t, ht⟩ := hb.cell
 obtain ⟨h1, h2⟩ := o bxp hne hb.apart
 exact ⟨h1, t, h2.trans ht⟩
theorem zos {k : Nat} {bxp gb : Nat} (ih : ∀ i, i < k → IH B T tv pb i) (hb_bxp : Box pb W0 F0 bxp (.pointer (some ⟨pb, 0, none⟩))) (hb_g : Box pb W0 F0 gb (.bool false)) (hne : bxp ≠ gb) (hBg : B ≤ gb) (hlow : low.length + k ≤ 10000000) :
  ∀ i, i < k + 1 → ∀ m W s q, m ≤ 30000000 → Now B T tv pb m low kd tx W0 F0 W s → run T i .usePathB s = some q → Calls Tryz.prog 271 #[.pointer (some ⟨bxp, 0, none⟩), .pointer (some ⟨gb, 0, none⟩)] W fun e W' => (∃ v, e = .returned v) ∧ ∃ m', NowG B T tv pb gb (.bool q.1) m' low kd tx W0 F0 W' q.2 := by
 intro i hi m W s q hm N hr
 obtain ⟨j, rfl, h1, h2, h3⟩ := zad hr
 obtain ⟨p0, e0, d0⟩ := zcp h2
 obtain ⟨p, e1, hp0⟩ := zai e0
 subst hp0
 have R1 := ak e1
 have E0 := ak d0
 have G := ak h3
 have H0 := ak (N.fit h1)
 have HL := ak (show low.length + (j + 1) ≤ 10000000 by omega)
 have B_bxp := ak hb_bxp
 have B_g := ak hb_g
 have HNE := ak (And.intro hne hBg)
 have c0_bxp := N.box hb_bxp
 have c0_g := N.box hb_g
 clear N h1 h2 h3 hr hlow hb_bxp hb_g e0 e1 d0 hBg
 go_enter Tryz.func271, Tryz.ntmps271
 go_wp2_with fail
 refine (zd3 H0.out (by omega) (by have := HL.out; omega) 18 225 #[.pointer (some ⟨pb, 0, none⟩)] #[] p.2 zge (zcf.1 (zce R1.out)).1 (fun W1 F1 NN old => zg9 (j + 1) j (by omega) _ _ _ _ (by omega) NN R1.out)).mono ?_
 rintro e W1 ⟨rfl, N1⟩
 have H1 := ak N1
 clear N1 H0 c0_bxp c0_g
 go_wp2_with fail
 go_loopg [] j (fun g wr => ∃ b s1, NowG B T tv pb gb (.bool b) 10000000 low kd tx W0 F0 wr s1 ∧ ((b = true ∧ q = (true, s1)) ∨ (b = false ∧ run T g .useLoop s1 = some q ∧ g ≤ j)))
 case atStart =>
  obtain ⟨_, _, g1, _, _⟩ := zad E0.out
  exact ⟨false, _, (H1.out.fit g1).toG B_g.out, .inr ⟨rfl, E0.out, Nat.le_refl _⟩⟩
 case round =>
  obtain ⟨b, s1, NG, hor⟩ := hrel
  obtain ⟨F2, N2, bg2, o2, bk2⟩ := NG.use
  have H2 := ak N2
  have b2p := ak (NowG.p (m := 0) (s := s1) (v := .bool b) B_bxp.out hne o2)
  have b2g := ak bg2
  have BK2 := ak bk2
  have O2 := ak o2
  have c2_bxp := N2.box b2p.out
  have c2_g := N2.box b2g.out
  clear NG N2 bg2 o2 bk2
  rcases hor with ⟨rfl, hq⟩ | ⟨rfl, hr1, hg⟩
  ·have HQ := ak hq
   clear hq
   rcases zac H2.out [(⟨#[58, 58]⟩ : ByteArray)] with hat | hat
   ·go_wp2_with fail
    refine (zbk H2.out [(⟨#[58, 58]⟩ : ByteArray)] (by simp)).mono ?_
    rintro e W3 ⟨rfl, N3⟩
    rw [hat]
    have H3 := ak N3
    have c3_bxp := N3.box b2p.out
    have c3_g := N3.box b2g.out
    clear N3 hat c2_bxp c2_g
    go_wp2_with fail
    go_end0
    rw [HQ.out]
    exact ⟨⟨_, rfl⟩, _, BK2.out _ _ _ H3.out⟩
   ·go_wp2_with fail
    refine (zbk H2.out [(⟨#[58, 58]⟩ : ByteArray)] (by simp)).mono ?_
    rintro e W3 ⟨rfl, N3⟩
    rw [hat]
    have H3 := ak N3
    have c3_bxp := N3.box b2p.out
    have c3_g := N3.box b2g.out
    clear N3 hat c2_bxp c2_g
    go_wp2_with fail
    go_end0
    rw [HQ.out]
    exact ⟨⟨_, rfl⟩, _, BK2.out _ _ _ H3.out⟩
  ·obtain ⟨i2, rfl, f1, f2, f3⟩ := zad hr1
   have E1 := ak f2
   have hi2 := ak hg
   clear hr1 hg f1 f2 f3
   rcases zac H2.out [(⟨#[58, 58]⟩ : ByteArray)] with hat | hat
   ·go_wp2_with fail
    refine (zbk H2.out [(⟨#[58, 58]⟩ : ByteArray)] (by simp)).mono ?_
    rintro e W3 ⟨rfl, N3⟩
    rw [hat]
    have H3 := ak N3
    have c3_bxp := N3.box b2p.out
    have c3_g := N3.box b2g.out
    have E2 := ak (if_t hat E1.out)
    clear N3 hat c2_bxp c2_g E1
    go_wp2_with fail
    refine (zew H3.out).mono ?_
    rintro e W4 ⟨qb, rfl, N4, L4⟩
    have H4 := ak (And.intro N4 L4)
    have c4_bxp := N4.box b2p.out
    have c4_g := N4.box b2g.out
    clear N4 L4 c3_bxp c3_g
    rcases zgk H4.out.2 [(⟨#[42]⟩ : ByteArray)] with hst | hst
    ·go_wp2_with fail
     refine (zds H4.out.1 H4.out.2 [(⟨#[42]⟩ : ByteArray)] (by simp)).mono ?_
     rintro e W5 ⟨rfl, N5⟩
     rw [hst]
     have NG5 := BK2.out _ _ _ N5
     have H5 := ak NG5
     have E3 := ak (zab (if_t hst E2.out))
     have c5_bxp := N5.box b2p.out
     have c5_g := N5.box b2g.out
     obtain ⟨ty, hc5⟩ := NG5.gv
     have z5 := zl hc5 0
     clear N5 NG5 hc5 hst E2 c4_bxp c4_g
     go_wp2_with fail
     go_roundg i2
     case rel => exact ⟨true, s1, H5.out.set HNE.out.2 _, .inl ⟨rfl, E3.out⟩⟩
     case measure => omega
    ·go_wp2_with fail
     refine (zds H4.out.1 H4.out.2 [(⟨#[42]⟩ : ByteArray)] (by simp)).mono ?_
     rintro e W5 ⟨rfl, N5⟩
     rw [hst]
     have NG5 := BK2.out _ _ _ N5
     have H5 := ak NG5
     have E3 := ak (if_f hst E2.out)
     have c5_bxp := N5.box b2p.out
     have c5_g := N5.box b2g.out
     obtain ⟨ty, hc5⟩ := NG5.gv
     have z5 := zl hc5 0
     clear N5 NG5 hc5 hst E2 c4_bxp c4_g
     go_wp2_with fail
     have NG6 := H5.out.set HNE.out.2 (.bool false)
     obtain ⟨W6, hW6⟩ : ∃ W6, W5.setCell ⟨gb, 0, none⟩ (.bool false) = W6 := ⟨_, rfl⟩
     rw [hW6] at NG6 ⊢
     obtain ⟨F6, N6, bg6, o6, bk6⟩ := NG6.use
     have H6 := ak N6
     have b6p := ak (NowG.p (m := 0) (s := s1) (v := .bool false) B_bxp.out hne o6)
     have BK6 := ak bk6
     have c6_bxp := N6.box b6p.out
     clear hW6 NG6 N6 bg6 o6 bk6 c5_bxp c5_g z5
     refine (zat H6.out (by omega)).mono ?_
     rintro e W7 ⟨rfl, N7⟩
     have H7 := ak N7
     have c7_bxp := N7.box b6p.out
     clear N7 c6_bxp
     obtain ⟨p8, e8, d8⟩ := zcp E3.out
     obtain ⟨p9, e9, hp9⟩ := zai e8
     subst hp9
     have R9 := ak e9
     have E9 := ak d8
     clear e8 e9 d8 E3
     go_wp2_with fail
     refine (zd3 H7.out (by omega) (by have := HL.out; omega) 18 225 #[.pointer (some ⟨pb, 0, none⟩)] #[] p9.2 zge (zcf.1 (zce R9.out)).1 (fun W1 F1 NN old => zg9 (i2 + 1) i2 (by omega) _ _ _ _ (by omega) NN R9.out)).mono ?_
     rintro e W8 ⟨rfl, N8⟩
     have H8 := ak N8
     clear N8 c7_bxp
     go_wp2_with fail
     go_roundg i2
     case rel =>
      obtain ⟨_, _, g1, _, _⟩ := zad E9.out
      exact ⟨false, _, BK6.out _ _ _ (H8.out.fit g1), .inr ⟨rfl, E9.out, by have := hi2.out; omega⟩⟩
     case measure => omega
   ·go_wp2_with fail
    refine (zbk H2.out [(⟨#[58, 58]⟩ : ByteArray)] (by simp)).mono ?_
    rintro e W3 ⟨rfl, N3⟩
    rw [hat]
    have H3 := ak N3
    have c3_bxp := N3.box b2p.out
    have c3_g := N3.box b2g.out
    have E2 := ak (zab (if_f hat E1.out))
    clear N3 hat c2_bxp c2_g E1
    go_wp2_with fail
    go_end0
    rw [E2.out]
    exact ⟨⟨_, rfl⟩, _, BK2.out _ _ _ H3.out⟩
theorem zyt  {k : Nat}  (ih : ∀ i, i < k → IH B T tv pb i) : Meth B T tv pb k .useS 222 #[.pointer (some ⟨pb, 0, none⟩)] (fun _ => .tuple #[]) := by
 intro m low kd tx W0 F0 W s q hm hlow N hr
 obtain ⟨j, rfl, H0, E, G, HL, RUN⟩ := zah N hr hlow
 clear N hr hlow
 go_enter Tryz.func222, Tryz.ntmps222
 go_wp2_with fail
 obtain ⟨WB, hWB⟩ : ∃ WB, ((W.alloc (.cells #[.pointer (some ⟨pb, 0, none⟩)] 184)).alloc (.cells #[.bool false] 4)) = WB := ⟨_, rfl⟩
 have hbl : Below W.heap.size W WB := by rw [← hWB]; exact (zh (zh (Below.refl _ _) _) _)
 have hx_bxp : WB.heap[W.heap.size]? = some (.cells #[.pointer (some ⟨pb, 0, none⟩)] 184 (0, 0)) := by
  rw [← hWB]
  exact za5 (zaj W _) _
 have hx_bxg : WB.heap[W.heap.size + 1]? = some (.cells #[.bool false] 4 (0, 0)) := by
  rw [← hWB]
  have hn := zaj (W.alloc (.cells #[.pointer (some ⟨pb, 0, none⟩)] 184)) (.cells #[.bool false] 4)
  simp only [World.size_alloc] at hn
  exact hn
 obtain ⟨FB, NB, hnew, holdb, frb, hback⟩ := H0.out.enter3 hbl
 have FRB := ak frb
 have NBLE := ak H0.out.baseLe
 have NSZ := ak H0.out.size
 have BK := ak hback
 have hb_bxp : Box pb WB FB (W.heap.size) (.pointer (some ⟨pb, 0, none⟩)) := ⟨hnew _ (by omega) (za8 hx_bxp), _, hx_bxp⟩
 have B_bxp := ak hb_bxp
 have hb_bxg : Box pb WB FB (W.heap.size + 1) (.bool false) := ⟨hnew _ (by omega) (za8 hx_bxg), _, hx_bxg⟩
 have B_bxg := ak hb_bxg
 have HN := ak NB
 have c0_bxp := NB.box hb_bxp
 have c0_bxg := NB.box hb_bxg
 rw [hWB]
 have hsz : W.heap.size + 1 + 1 = WB.heap.size := by rw [← hWB]; simp only [World.size_alloc]
 try rw [hsz]
 clear hsz hWB hbl hnew holdb hback NB H0 hb_bxp hb_bxg hx_bxp hx_bxg
 obtain ⟨p1, e1, e2⟩ := zcp E.out
 obtain ⟨p2, e3, hp1⟩ := zw3 e1
 subst hp1
 have R1 := ak e3
 have E1 := ak (zab e2)
 clear e1 e2 e3 E
 refine (zuc HN.out (by omega) (by have := HL.out; omega) B_bxg.out.apart 17 271 #[] #[.pointer (some ⟨W.heap.size, 0, none⟩), .pointer (some ⟨W.heap.size + 1, 0, none⟩)] p2.2 zxt (zcf.1 (zce R1.out)).1 (fun W1 F1 NN old => zos (k := j) (fun i hi => ih i (by omega)) (B_bxp.out.old old) (B_bxg.out.old old) (by omega) (by have := NBLE.out; omega) (by rw [List.length_append, List.length_singleton]; have := HL.out; omega) j (by omega) _ _ _ _ (by omega) NN R1.out)).mono ?_
 rintro e W1 ⟨rfl, NG1⟩
 obtain ⟨F2, N2, bg2, o2, bk2⟩ := NG1.use
 have B2p := ak (NowG.p (m := 0) (s := p2.2) (v := .bool p2.1) B_bxp.out (by omega) o2)
 have B2g := ak bg2
 have BK2 := ak bk2
 have H1 := ak N2
 have c1_bxp := N2.box B2p.out
 have c1_bxg := N2.box B2g.out
 clear NG1 N2 bg2 o2 bk2 HN c0_bxp c0_bxg
 obtain ⟨gv, sx⟩ := p2
 cases gv
 ·go_wp2_with fail
  rcases zac H1.out [(⟨#[97, 115]⟩ : ByteArray)] with b2 | b2
  ·refine (zbm H1.out (by omega) [(⟨#[97, 115]⟩ : ByteArray)] (by simp)).mono ?_
   rintro e W3 ⟨rfl, N3⟩
   rw [zby b2] at N3
   rw [b2]
   have HAT := ak b2
   have H3 := ak N3
   have c3_bxp := N3.box B2p.out
   have c3_bxg := N3.box B2g.out
   clear b2 N3 H1 c1_bxp c1_bxg
   go_wp2_with fail
   refine (zbl H3.out (by omega)).mono ?_
   rintro e W4 ⟨rfl, N⟩
   have H := ak N
   have c_bxp := N.box B2p.out
   have c_bxg := N.box B2g.out
   clear c3_bxp c3_bxg N H3
   go_wp2_with fail
   refine (zag H.out (by omega) _).mono ?_
   rintro e W5 ⟨rfl, N5⟩
   have H5 := ak N5
   clear N5
   go_wp2_with fail
   go_end0
   have hq := E1.out
   have hf := G.out
   rw [if_neg (by simp), if_pos HAT.out] at hq
   rw [hq] at hf ⊢
   exact ⟨rfl, NowG.back (BK2.out _ _ _ (H5.out.fit hf)) FRB.out (by have := NSZ.out; omega)⟩
  ·refine (zbm H1.out (by omega) [(⟨#[97, 115]⟩ : ByteArray)] (by simp)).mono ?_
   rintro e W6 ⟨rfl, N6⟩
   rw [zbz b2] at N6
   rw [b2]
   have HAT := ak b2
   have H6 := ak N6
   have c6_bxp := N6.box B2p.out
   have c6_bxg := N6.box B2g.out
   clear b2 N6 H1 c1_bxp c1_bxg
   go_wp2_with fail
   refine (zag H6.out (by omega) _).mono ?_
   rintro e W7 ⟨rfl, N7⟩
   have H7 := ak N7
   clear N7
   go_wp2_with fail
   go_end0
   have hq := E1.out
   have hf := G.out
   rw [if_neg (by simp), if_neg (by rw [HAT.out]; simp)] at hq
   rw [hq] at hf ⊢
   exact ⟨rfl, NowG.back (BK2.out _ _ _ (H7.out.fit hf)) FRB.out (by have := NSZ.out; omega)⟩
 ·go_wp2_with fail
  refine (zat H1.out (by omega)).mono ?_
  rintro e W8 ⟨rfl, N⟩
  have H := ak N
  have c_bxp := N.box B2p.out
  have c_bxg := N.box B2g.out
  clear c1_bxp c1_bxg N H1
  go_wp2_with fail
  refine (zat H.out (by omega)).mono ?_
  rintro e W9 ⟨rfl, N⟩
  replace H := ak N
  replace c_bxp := N.box B2p.out
  replace c_bxg := N.box B2g.out
  clear N
  go_wp2_with fail
  refine (zag H.out (by omega) _).mono ?_
  rintro e W10 ⟨rfl, N10⟩
  have H10 := ak N10
  clear N10
  go_wp2_with fail
  go_end0
  have hq := E1.out
  have hf := G.out
  rw [if_pos trivial] at hq
  rw [hq] at hf ⊢
  exact ⟨rfl, NowG.back (BK2.out _ _ _ (H10.out.fit hf)) FRB.out (by have := NSZ.out; omega)⟩
end Go.Proofs.YtmoelofaojgjfaaGreatDoor.Par
namespace Go.Proofs.YtmoelofaojgjfaaGreatDoor.Par
open Go.RowKit
theorem z1g {B : Nat} {T : List Tok} {tv : Value} {pb : Nat} (k : Nat) : IH B T tv pb k := by
 induction k using Nat.strongRecOn with
 | _ k ih =>
 exact {
  block := zx1 ih
  statement := zmo ih
  letS := zze ih
  returnS := zri ih
  expr := zzs ih
  unary := zwc ih
  arguments := zoj ih
  postf := zwq ih
  primary := zrl ih
  ifExpr := zu3 ih
  matchS := zun ih
  structS := zra ih
  lambda := zus ih
  pattern := zro ih
  item := zzi ih
  skipToItem := zld ih
  useS := zyt ih
  typeParams := zk6 ih
  typeParam := zmj ih
  members := zr0 ih
  typeExpr := zow ih
  implS := zxn ih
  binary := fun l hl => by
   have : l = 0 ∨ l = 1 ∨ l = 2 ∨ l = 3 ∨ l = 4 ∨ l = 5 := by omega
   rcases this with rfl | rfl | rfl | rfl | rfl | rfl
   ·exact zsu ih
   ·exact zst ih
   ·exact zss ih
   ·exact zsr ih
   ·exact zsq ih
   ·exact zsp ih
  itemBody := fun kind h1 h2 => by
   have : kind = 2 ∨ kind = 3 ∨ kind = 4 ∨ kind = 5 ∨ kind = 6 ∨ kind = 7 ∨ kind = 8 ∨ kind = 9 := by omega
   rcases this with rfl | rfl | rfl | rfl | rfl | rfl | rfl | rfl
   ·exact znh ih
   ·exact zng ih
   ·exact znf ih
   ·exact zne ih
   ·exact znd ih
   ·exact znc ih
   ·exact znb ih
   ·exact zna ih
  params := fun closing => zt1 closing ih
  function := fun needs => by
   cases needs
   ·exact znm ih
   ·exact znl ih
  dataType := fun kind h => by
   rcases h with rfl | rfl
   ·exact zn7 ih
   ·exact zn6 ih
  path := fun ty => by
   cases ty
   ·exact zwu ih
   ·exact zwt ih }
end Go.Proofs.YtmoelofaojgjfaaGreatDoor.Par
namespace Go.Proofs.YtmoelofaojgjfaaGreatDoor.Par
open Go.RowKit Go.Proofs.YtmoelofaojgjfaaGreatDoorW.PrintWords Go.Proofs.YtmoelofaojgjfaaGreatDoorW.PrintLast
theorem z1o {W : World} {T : List Tok} {tv : Value} (hT : zma W T tv) (hS : Spc W) {W' : World} {cap : Nat}
  (h1 : W'.heap[W.heap.size]? = some (.cells #[.int .i64 1, .string ⟨#[]⟩, .slice none 0 0] 128 (0, 0)))
  (h2 : W'.heap[W.heap.size + 1]? = some (.cells #[tv, .int .i64 0, .slice (some ⟨W.heap.size, 0, none⟩) 1 1] 186 (0, 0))) (hb : Below W.heap.size W W') :
  PS 186 128 W.heap.size T tv (W.heap.size + 1) W' 0 [.mk 1 zj []] [W.heap.size] := by
 refine ⟨⟨_, h2, ?_⟩, by simp, by simp, by omega, W, Nat.le_refl _, ⟨hT, hS⟩, hb⟩
 refine ⟨[.int .i64 1, .string ⟨#[]⟩, .slice none 0 0], [], ⟨rfl, Or.inr ⟨_, 1, _, rfl, Nat.le_refl _, h1, Nat.le_refl _, by simp [maxLen], rfl, rfl⟩⟩, by simp [own1, Value.ownBlock], ?_⟩
 refine ⟨_, [], [], [], (List.append_nil _).symm, rfl, ?_, rfl, rfl⟩
 exact ⟨_, [], [], rfl, ⟨rfl, Or.inl ⟨rfl, rfl⟩⟩, by simp [own1, Value.ownBlock], rfl, rfl⟩
theorem zi3 {W : World} {B B' e size n : Nat} {h : Value} {xs : List Value} (ho : W.ownsRow B e size h n xs) (hB : B' ≤ B) : W.ownsRow B' e size h n xs := by
 refine ⟨ho.1, ?_⟩
 rcases ho.2 with h1 | ⟨g, cap, cur, rfl, h2, h3⟩
 ·exact .inl h1
 ·exact .inr ⟨g, cap, cur, rfl, Nat.le_trans hB h2, h3⟩
mutual
theorem z1j {W : World} {B B' e : Nat} (hB : B' ≤ B) : ∀ (t : Tree) (c : List Value) (F : List Nat), TC W B e t c F → TC W B' e t c F
 | .mk k t ks, c, F, h => by
  simp only [TC] at h ⊢
  obtain ⟨hd, cs, Fs, h1, h2, h3, h4⟩ := h
  exact ⟨hd, cs, Fs, h1, zi3 h2 hB, h3, zv4 hB ks cs Fs h4⟩
theorem zv4 {W : World} {B B' e : Nat} (hB : B' ≤ B) : ∀ (ts : List Tree) (cs : List Value) (F : List Nat), TL W B e ts cs F → TL W B' e ts cs F
 | [], cs, F, h => by
  simp only [TL] at h ⊢
  exact h
 | t :: ts, cs, F, h => by
  simp only [TL] at h ⊢
  obtain ⟨c, cs', F1, F2, h1, h2, h3, h4⟩ := h
  exact ⟨c, cs', F1, F2, h1, h2, z1j hB t c F1 h3, zv4 hB ts cs' F2 h4⟩
end
theorem z1h {W : World} {B B' e : Nat} {ts : List Tree} {h : Value} {F : List Nat} (hr : TR W B e ts h F) (hB : B' ≤ B) : TR W B' e ts h F := by
 obtain ⟨cs, Fs, h1, h2, h3⟩ := hr
 exact ⟨cs, Fs, zi3 h1 hB, h2, zv4 hB ts cs Fs h3⟩
theorem zpa {s : ByteArray} (hs : s.size ≤ 2000) (w : World) (h : Spc w) {k : Nat} (hk : k ≤ 1000000) {p : Bool × St} (hr : run (Lex.zbd s.data.toList) k .items (0, []) = some p) :
  Calls Tryz.prog 57 #[.string s] w fun e w' => ∃ v F, e = .returned (.tuple #[.agg #[.int .i64 1, .string ⟨#[]⟩, v], .int .i64 0]) ∧ TR w' w.heap.size 128 (zbc (Lex.zbd s.data.toList) p.2).2 v F ∧ F.Nodup ∧ Below w.heap.size w w' := by
 have H := ak h
 clear h
 go_enter Tryz.func57, Tryz.ntmps57
 go_wp2_with fail
 refine (Lex.zjv hs _ (H.out.below (zh (Below.refl _ _) _))).mono ?_
 rintro e W2 ⟨tv, rfl, hT, hb2⟩
 obtain ⟨tA, tc, htv, hT2⟩ := id hT
 subst htv
 have H2 := ak (And.intro hT hb2)
 clear hT2
 have hres : W2.heap[w.heap.size]? = some (.cells #[.int .i64 0, .string ⟨#[]⟩, .slice none 0 0] 128 (0, 0)) := (hb2.block _ (by simp [World.size_alloc])).trans (zaj w _)
 have HRES := ak hres
 clear hT hb2 hres
 go_wp2_with fail
 obtain ⟨W3, hW3⟩ : ∃ W3, (W2.alloc (Obj.cells #[Value.int IntKind.i64 1, Value.string { data := #[] }, Value.slice none 0 0] 128)).alloc (Obj.cells #[Value.slice tA (Lex.zbd s.data.toList).length tc, Value.int IntKind.i64 0, Value.slice (some { block := W2.heap.size, off := 0 }) 1 1] 186) = W3 := ⟨_, rfl⟩
 have hb3 : Below W2.heap.size W2 W3 := by rw [← hW3]; exact zh (zh (Below.refl _ _) _) _
 have hsz3 : W3.heap.size = W2.heap.size + 1 + 1 := by rw [← hW3]; simp [World.size_alloc]
 have hPS := z1o H2.out.1 ((H.out.below (zh (Below.refl _ _) _)).below H2.out.2) (W' := W3) (cap := 1) (by rw [← hW3]; exact za5 (zaj W2 _) _) (by rw [← hW3]; have hb := zaj (W2.alloc (Obj.cells #[Value.int IntKind.i64 1, Value.string { data := #[] }, Value.slice none 0 0] 128)) (Obj.cells #[Value.slice tA (Lex.zbd s.data.toList).length tc, Value.int IntKind.i64 0, Value.slice (some { block := W2.heap.size, off := 0 }) 1 1] 186); simp only [World.size_alloc] at hb; exact hb) hb3
 have hTl : (Lex.zbd s.data.toList).length ≤ 2000 := by
  have h1 := Lex.zdc _ s.data.toList (Nat.le_refl _)
  have h2 : s.data.toList.length = s.size := by simp
  omega
 have N0 : Now W2.heap.size (Lex.zbd s.data.toList) (.slice tA (Lex.zbd s.data.toList).length tc) (W2.heap.size + 1) 10000000 [] 1 zj W3 [W2.heap.size] W3 (0, []) := ⟨⟨_, hPS, Fr.refl _ _ _⟩, Nat.zero_le _, by omega, by simp, by simp⟩
 have H0 := ak N0
 have HR := ak hr
 have HB3 := ak (And.intro hb3 hsz3)
 rw [hW3]
 clear hPS N0 hr hb3 hsz3 hW3
 go_loopg [] k (fun g wr => ∃ s1, Now W2.heap.size (Lex.zbd s.data.toList) (.slice tA (Lex.zbd s.data.toList).length tc) (W2.heap.size + 1) 10000000 [] 1 zj W3 [W2.heap.size] wr s1 ∧ run (Lex.zbd s.data.toList) g .items s1 = some p ∧ g ≤ k)
 case atStart => exact ⟨(0, []), H0.out, HR.out, Nat.le_refl _⟩
 case round =>
  obtain ⟨s1, N1, hr1, hg⟩ := hrel
  obtain ⟨i, rfl, f1, f2, f3⟩ := zad hr1
  have H1 := ak (N1.fit f1)
  have F2 := ak f2
  have F3 := ak f3
  clear N1 hr1 f1 f2 f3
  have E1 := ak (show (if eofT (Lex.zbd s.data.toList) s1.1 = true then some (false, s1) else (run (Lex.zbd s.data.toList) i .item s1).bind fun q => run (Lex.zbd s.data.toList) i .items q.2) = some p from F2.out)
  go_wp2_with fail
  refine (zfy H1.out).mono ?_
  rintro e W4 ⟨rfl, N4⟩
  have H4 := ak N4
  clear N4
  cases heof : eofT (Lex.zbd s.data.toList) s1.1
  ·have E2 := ak (show ((run (Lex.zbd s.data.toList) i .item s1).bind fun q => run (Lex.zbd s.data.toList) i .items q.2) = some p by have h := E1.out; rw [heof, if_neg (by decide)] at h; exact h)
   obtain ⟨q, hq1, hq2⟩ := Option.bind_eq_some_iff.1 E2.out
   have Q1 := ak hq1
   have Q2 := ak hq2
   clear hq1 hq2
   go_wp2_with fail
   refine ((z1g i).item _ _ _ _ _ _ _ _ _ (by omega) (by simp; omega) H4.out Q1.out).mono ?_
   rintro e W5 ⟨rfl, N5⟩
   have H5 := ak N5
   clear N5
   go_wp2_with fail
   go_roundg i
   case rel => exact ⟨q.2, H5.out, Q2.out, by omega⟩
   case measure => omega
  ·have E2 := ak (show some (false, s1) = some p by have h := E1.out; rw [heof, if_pos rfl] at h; exact h)
   obtain rfl := Option.some.inj E2.out
   go_wp2_with fail
   obtain ⟨F4, h4, fr4⟩ := H4.out.st
   refine (zkc H4.out.len H4.out.pos h4 (by have h1 := H4.out.kids; have h2 := H4.out.pos; have h3 := H4.out.len; simp only [List.length_nil]; omega)).mono ?_
   rintro e W5 ⟨rfl, F5, h5, fr5⟩
   obtain ⟨sb, scap, hd, c1, F6, cs, Fs, p1, p2, p3, p4, p5, rfl⟩ := h5.top
   have o2 : W5.cell? ⟨W2.heap.size + 1, 2, none⟩ = some (.slice (some ⟨sb, 0, none⟩) 1 scap) := (zf p1 2).trans rfl
   obtain ⟨g, cap, e1, n1, n2, r0, r1, r2, n6⟩ := zdz p2
   simp only [Value.slice.injEq, Option.some.injEq, Addr.mk.injEq, and_true] at e1
   obtain ⟨rfl, _, rfl⟩ := e1
   simp only [List.length_nil, Nat.zero_mul, Nat.zero_add] at r0 r1 r2
   obtain ⟨hA, hcap, rfl⟩ := Par.za3 p4
   have hw2 : w.heap.size < W2.heap.size := (Array.getElem?_eq_some_iff.1 HRES.out).1
   have hr5 : W5.heap[w.heap.size]? = some (.cells #[.int .i64 0, .string ⟨#[]⟩, .slice none 0 0] 128 (0, 0)) := by
    have s3 := HB3.out.2
    have s4 := fr4.size
    refine ((fr5.kept _ (by omega) (by omega) (fun hh => ?_)).trans (fr4.kept _ (by omega) (by omega) (by simp; omega))).trans ((HB3.out.1.block _ hw2).trans HRES.out)
    rcases fr4.rows _ hh with h1 | h1
    ·simp at h1; omega
    ·omega
   have y0 : W5.cell? ⟨w.heap.size, 0, none⟩ = some (.int .i64 0) := (zf hr5 0).trans rfl
   have y1 : W5.cell? ⟨w.heap.size, 1, none⟩ = some (.string ⟨#[]⟩) := (zf hr5 1).trans rfl
   have y2 : W5.cell? ⟨w.heap.size, 2, none⟩ = some (.slice none 0 0) := (zf hr5 2).trans rfl
   have z0 := zl hr5 0
   have z1 := zl hr5 1
   have z2 := zl hr5 2
   have HR5 := ak hr5
   clear hr5
   have HP := ak (And.intro h5 (And.intro fr4 (And.intro fr5 (And.intro p2 (And.intro p3 (And.intro p4 p5))))))
   clear h5 fr4 fr5 p2 p3 p4 p5 n6 h4 p1
   go_wp2_with fail
   obtain ⟨W6, hW6⟩ : ∃ W6, ((W5.setCell { block := w.heap.size, off := 0 } (Value.int IntKind.i64 1)).setCell { block := w.heap.size, off := 1 } (Value.string zj)).setCell { block := w.heap.size, off := 2 } (Value.slice hA (zbc (Lex.zbd s.data.toList) (s1.fst, s1.snd)).snd.length hcap) = W6 := ⟨_, rfl⟩
   have hb6 : W6.heap[w.heap.size]? = some (.cells #[.int .i64 1, .string zj, .slice hA (zbc (Lex.zbd s.data.toList) (s1.fst, s1.snd)).snd.length hcap] 128 (0, 0)) := by
    rw [← hW6]
    simp [World.setCell, Array.getElem?_modify, HR5.out]
   have hk6 : ∀ g, g ≠ w.heap.size → W6.heap[g]? = W5.heap[g]? := by
    intro g hg
    rw [← hW6]
    exact (Below.heap_setCell _ ⟨w.heap.size, 2, none⟩ _ g hg).trans ((Below.heap_setCell _ ⟨w.heap.size, 1, none⟩ _ g hg).trans (Below.heap_setCell _ ⟨w.heap.size, 0, none⟩ _ g hg))
   have hbw6 : Below w.heap.size W5 W6 := by
    rw [← hW6]
    exact Below.setCell (Below.setCell (Below.setCell (Below.refl w.heap.size W5) (show w.heap.size ≤ (⟨w.heap.size, 0, none⟩ : Addr).block from Nat.le_refl _) _) (show w.heap.size ≤ (⟨w.heap.size, 1, none⟩ : Addr).block from Nat.le_refl _) _) (show w.heap.size ≤ (⟨w.heap.size, 2, none⟩ : Addr).block from Nat.le_refl _) _
   have x0 : W6.cell? ⟨w.heap.size, 0, none⟩ = some (.int .i64 1) := (zf hb6 0).trans rfl
   have x1 : W6.cell? ⟨w.heap.size, 1, none⟩ = some (.string zj) := (zf hb6 1).trans rfl
   have x2 : W6.cell? ⟨w.heap.size, 2, none⟩ = some (.slice hA (zbc (Lex.zbd s.data.toList) (s1.fst, s1.snd)).snd.length hcap) := (zf hb6 2).trans rfl
   rw [hW6]
   refine bodyPost_ret (v := .tuple #[.agg #[.int .i64 1, .string zj, .slice hA (zbc (Lex.zbd s.data.toList) (s1.fst, s1.snd)).snd.length hcap], .int .i64 0]) (by simp [results, Tryz.results57, go_sem, x0, x1, x2]) rfl ?_
   obtain ⟨h5, fr4, fr5, p2, p3, p4, p5⟩ := HP.out
   have hF := h5.nd
   have hge := h5.rowsGe
   have nd2 := (List.nodup_cons.1 hF).2
   have nd3 := (zbn.1 nd2).2.1
   have hne : ∀ g ∈ own1 (Value.slice hA (zbc (Lex.zbd s.data.toList) (s1.fst, s1.snd)).snd.length hcap) ++ Fs, g ≠ w.heap.size := by
    intro g hg e
    have := (hge g (List.mem_cons_of_mem _ (List.mem_append_right _ hg))).1
    omega
   have hTR : TR W5 W2.heap.size 128 (zbc (Lex.zbd s.data.toList) s1).2 (Value.slice hA (zbc (Lex.zbd s.data.toList) (s1.fst, s1.snd)).snd.length hcap) (own1 (Value.slice hA (zbc (Lex.zbd s.data.toList) (s1.fst, s1.snd)).snd.length hcap) ++ Fs) := ⟨cs, Fs, p4, rfl, p5⟩
   have hb4 : Below w.heap.size W3 W4 := fr4.below (by omega) (by simp; omega) (by have := HB3.out.2; omega)
   have hb5 : Below w.heap.size W4 W5 := by
    refine fr5.below (by omega) (fun g hg => ?_) (by have := fr4.size; have := HB3.out.2; omega)
    rcases fr4.rows g hg with h1 | h1
    ·simp at h1; omega
    ·have := HB3.out.2
     omega
   have hb0 : Below w.heap.size w W2 := (zh (Below.refl _ _) _).trans (H2.out.2.mono (by simp [World.size_alloc]))
   have hb3 : Below w.heap.size W2 W3 := HB3.out.1.mono (by omega)
   refine ⟨_, rfl, _, z1h (zeb hTR (fun g hg => hk6 g (hne g hg))) (Nat.le_of_lt hw2), nd3, ((((hb0.trans hb3).trans hb4).trans hb5).trans hbw6)⟩
end Go.Proofs.YtmoelofaojgjfaaGreatDoor.Par
namespace Go.Proofs.YtmoelofaojgjfaaGreatDoor.Par
def nk : List Tree → List Int
 | [] => []
 | t :: ts => if t.kind < 100 then t.kind :: nk ts else nk ts
def zb6 (ns : List Tree) : Bool := ns.any (fun t => decide (t.kind = 103))
theorem zr (a b : List Tree) : nk (a ++ b) = nk a ++ nk b := by
 induction a with
 | nil => rfl
 | cons t ts ih => simp only [List.cons_append, nk]; split <;> simp [ih]
theorem zaa (a b : List Tree) : zb6 (a ++ b) = (zb6 a || zb6 b) := by simp [zb6]
mutual
def zfs : Tree → List Tok
 | .mk k t ks => if k < 100 then zd5 ks else if t.size = 0 then [] else [(k, t)]
def zd5 : List Tree → List Tok
 | [] => []
 | t :: ts => zfs t ++ zd5 ts
end
theorem zet (a b : List Tree) : zd5 (a ++ b) = zd5 a ++ zd5 b := by
 induction a with
 | nil => simp [zd5]
 | cons t ts ih => simp [zd5, ih]
mutual
def cntT : Tree → Nat
 | .mk _ _ ks => 1 + cntL ks
def cntL : List Tree → Nat
 | [] => 0
 | t :: ts => cntT t + cntL ts
end
theorem zfj (a b : List Tree) : cntL (a ++ b) = cntL a + cntL b := by
 induction a with
 | nil => simp [cntL]
 | cons t ts ih => simp only [List.cons_append, cntL, ih]; omega
theorem zin (t : Tree) : 1 ≤ cntT t := by
 cases t
 simp [cntT]
theorem zpe (a : List Tree) : a.length ≤ cntL a := by
 induction a with
 | nil => simp
 | cons t ts ih => simp only [List.length_cons, cntL]; have := zin t; omega
def isE (k : Int) : Bool := ([17, 21, 27, 28, 29, 30, 31, 32, 33, 35, 37, 38, 39, 40, 41, 42, 46, 60] : List Int).contains k
def isTy (k : Int) : Bool := ([17, 19, 20, 46] : List Int).contains k
def isP (k : Int) : Bool := ([27, 28, 43, 44, 45, 46] : List Int).contains k
def isSt (k : Int) : Bool := ([22, 23, 24, 25, 26, 46] : List Int).contains k
def isIt (k : Int) : Bool := ([2, 3, 4, 5, 6, 7, 8, 9, 46] : List Int).contains k
def fnK : List Int → Bool
 | [a, b, c, d] => decide (a = 10) && decide (b = 12) && (isTy c || decide (c = 0)) && (decide (d = 21) || decide (d = 0))
 | _ => false
def zsb : List Int → Bool
 | a :: b :: c :: r => decide (a = 10) && (isTy b || decide (b = 0)) && isTy c && r.all (fun k => decide (k = 3) || decide (k = 16))
 | _ => false
def zxy (kind : Int) : List Int → Bool
 | a :: r => decide (a = 10) && r.all (fun k => decide (k = (if kind = 4 then 14 else 15)) || decide (k = 46))
 | _ => false
def blkK (ks : List Int) : Bool := ks.dropLast.all isSt && (match ks.getLast? with
 | some k => isE k || decide (k = 0)
 | none => false)
def oneK (p : Int → Bool) : List Int → Bool
 | [a] => p a
 | _ => false
def optK (p : Int → Bool) : List Int → Bool
 | [] => true
 | [a] => p a
 | _ => false
def twoK (p q : Int → Bool) : List Int → Bool
 | [a, b] => p a && q b
 | _ => false
def zb7 (p q r : Int → Bool) : List Int → Bool
 | [a, b, c] => p a && q b && r c
 | _ => false
def zcd (p q : Int → Bool) : List Int → Bool
 | a :: r => p a && r.all q
 | _ => false
def eqK (a : Int) (k : Int) : Bool := decide (k = a)
def orK (p : Int → Bool) (a : Int) (k : Int) : Bool := p k || decide (k = a)
def tysK (ks : List Int) : Bool := !ks.isEmpty && ks.dropLast.all isTy && (match ks.getLast? with
 | some k => isTy k || decide (k = 0)
 | none => false)
def loc (k : Int) (ks : List Int) (id : Bool) : Bool :=
 if k = 0 then ks.isEmpty else if k = 2 then oneK (eqK 17) ks else if k = 3 then fnK ks else if k = 4 then zxy 4 ks else if k = 5 then zxy 5 ks
 else if k = 6 then ks.all (fun k => decide (k = 3) || decide (k = 16)) else if k = 7 then zsb ks else if k = 8 then twoK isTy isE ks else if k = 9 then twoK (eqK 12) isE ks
 else if k = 10 then ks.all (orK (eqK 11) 46) else if k = 11 then ks.all (eqK 17) && id else if k = 12 then ks.all (orK (eqK 13) 46) else if k = 13 then oneK (orK isTy 0) ks && id
 else if k = 14 then oneK isTy ks && id else if k = 15 then ks.all isTy && id else if k = 16 then oneK (orK isTy 0) ks else if k = 17 then !ks.isEmpty && ks.all (eqK 18)
 else if k = 18 then ks.all isTy else if k = 19 then oneK isTy ks else if k = 20 then tysK ks else if k = 21 then blkK ks else if k = 22 then zb7 isP (orK isTy 0) isE ks
 else if k = 23 then twoK isE isE ks else if k = 24 then twoK isE (eqK 21) ks else if k = 25 then oneK (orK isE 0) ks else if k = 26 then oneK isE ks
 else if k = 27 then ks.isEmpty else if k = 28 then ks.isEmpty else if k = 29 then ks.isEmpty else if k = 30 then zcd isE isE ks else if k = 31 then zcd isE isE ks
 else if k = 32 then oneK isE ks else if k = 33 then zcd (eqK 17) (orK (eqK 34) 46) ks else if k = 34 then oneK isE ks && id else if k = 35 then zcd isE (orK (eqK 36) 46) ks
 else if k = 36 then twoK isP isE ks else if k = 37 then zb7 isE (eqK 21) (fun k => decide (k = 21) || decide (k = 37) || decide (k = 0)) ks else if k = 38 then twoK (eqK 12) isE ks
 else if k = 39 then twoK isE isE ks else if k = 40 then oneK isE ks else if k = 41 then oneK isE ks else if k = 42 then zcd (eqK 17) isE ks else if k = 43 then ks.isEmpty
 else if k = 44 then ks.isEmpty else if k = 45 then zcd (eqK 17) isP ks else if k = 46 then ks.isEmpty else if k = 60 then oneK isE ks else false
mutual
def good : Tree → Prop
 | .mk k t ks => (if k < 100 then (loc k (nk ks) (zb6 ks) = true ∧ t = zj) else (ks = [] ∧ 101 ≤ k ∧ k ≤ 108 ∧ (t.size = 0 → k = 108))) ∧ zfp ks
def zfp : List Tree → Prop
 | [] => True
 | t :: ts => good t ∧ zfp ts
end
theorem zfx {a b : List Tree} (h : zfp a) (k : zfp b) : zfp (a ++ b) := by
 induction a with
 | nil => exact k
 | cons t ts ih => exact ⟨h.1, ih h.2⟩
theorem zf4 {a b : List Tree} (h : zfp (a ++ b)) : zfp a := by
 induction a with
 | nil => trivial
 | cons t ts ih => exact ⟨h.1, ih h.2⟩
theorem zjc {a b : List Tree} (h : zfp (a ++ b)) : zfp b := by
 induction a with
 | nil => exact h
 | cons t ts ih => exact ih h.2
def zaf (T : List Tok) : Prop := ∀ t ∈ T, 101 ≤ t.1 ∧ t.1 ≤ 108 ∧ t.2.size ≠ 0
end Go.Proofs.YtmoelofaojgjfaaGreatDoor.Par
namespace Go.Proofs.YtmoelofaojgjfaaGreatDoor.Par
variable {T : List Tok}
structure Adv (T : List Tok) (s s' : St) (z g : Int) (ns : List Tree) : Prop where
 le : s.1 ≤ s'.1
 len : s'.1 ≤ T.length
 row : s'.2 = s.2 ++ ns
 ok : zfp ns
 toks : zd5 ns = (T.drop s.1).take (s'.1 - s.1)
 few : (s'.1 = s.1 ∧ (cntL ns : Int) ≤ z) ∨ (s.1 < s'.1 ∧ (cntL ns : Int) + g ≤ 30 * ((s'.1 : Int) - (s.1 : Int)))
theorem Adv.refl {s : St} (h : s.1 ≤ T.length) : Adv T s s 0 100 [] := ⟨Nat.le_refl _, h, (List.append_nil _).symm, trivial, by simp [zd5], .inl ⟨rfl, by simp [cntL]⟩⟩
theorem zd2 {α : Type} (l : List α) {a b c : Nat} (h1 : a ≤ b) (h2 : b ≤ c) : (l.drop a).take (b - a) ++ (l.drop b).take (c - b) = (l.drop a).take (c - a) := by
 have h : (l.drop b) = (l.drop a).drop (b - a) := by rw [List.drop_drop]; congr 1; omega
 rw [h, show c - a = (b - a) + (c - b) by omega, List.take_add]
theorem Adv.trans {s s1 s2 : St} {z1 g1 z2 g2 : Int} {a b : List Tree} (h : Adv T s s1 z1 g1 a) (k : Adv T s1 s2 z2 g2 b) : Adv T s s2 (z1 + z2) (min (min (g1 - z2) (g2 - z1)) (g1 + g2)) (a ++ b) := by
 refine ⟨Nat.le_trans h.le k.le, k.len, by rw [k.row, h.row, List.append_assoc], zfx h.ok k.ok, ?_, ?_⟩
 ·rw [zet, h.toks, k.toks, zd2 _ h.le k.le]
 ·have h1 := h.few
  have h2 := k.few
  rw [zfj]
  rcases h1 with ⟨a1, a2⟩ | ⟨a1, a2⟩ <;> rcases h2 with ⟨b1, b2⟩ | ⟨b1, b2⟩
  ·exact .inl ⟨by omega, by omega⟩
  ·exact .inr ⟨by omega, by omega⟩
  ·exact .inr ⟨by omega, by omega⟩
  ·exact .inr ⟨by omega, by omega⟩
theorem Adv.more {s s1 : St} {z g z' g' : Int} {a : List Tree} (h : Adv T s s1 z g a) (hz : z ≤ z') (hg : g' ≤ g) : Adv T s s1 z' g' a := ⟨h.le, h.len, h.row, h.ok, h.toks, by
 rcases h.few with ⟨a1, a2⟩ | ⟨a1, a2⟩
 ·exact .inl ⟨a1, by omega⟩
 ·exact .inr ⟨a1, by omega⟩⟩
theorem Adv.fwd {s s1 : St} {z g : Int} {a : List Tree} (h : Adv T s s1 z g a) (hf : s.1 < s1.1) : Adv T s s1 (-100) g a := ⟨h.le, h.len, h.row, h.ok, h.toks, by
 rcases h.few with ⟨a1, a2⟩ | ⟨a1, a2⟩
 ·omega
 ·exact .inr ⟨a1, a2⟩⟩
theorem Adv.lenLe {s s1 : St} {z g : Int} {a : List Tree} (h : Adv T s s1 z g a) (hz : z ≤ 15) (hg : -100 ≤ g) : a.length ≤ 30 * (s1.1 - s.1) + 100 := by
 have h1 := zpe a
 rcases h.few with ⟨a1, a2⟩ | ⟨a1, a2⟩ <;> omega
theorem Adv.node {p : Nat} {ks : List Tree} {s' : St} {z g : Int} {ns : List Tree} (kind : Int) (h : Adv T (p, []) s' z g ns) (hk : kind < 100) (hl : loc kind (nk ns) (zb6 ns) = true) :
  Adv T (p, ks) (s'.1, ks ++ [.mk kind zj s'.2]) (z + 1) (g - 1) [.mk kind zj ns] := by
 have hr : s'.2 = ns := by simpa using h.row
 refine ⟨h.le, h.len, by rw [hr], ⟨⟨by rw [if_pos hk]; exact ⟨hl, rfl⟩, h.ok⟩, trivial⟩, ?_, ?_⟩
 ·simp only [zd5, zfs, if_pos hk, List.append_nil]
  exact h.toks
 ·have h1 := h.few
  simp only [cntL, cntT]
  rcases h1 with ⟨a1, a2⟩ | ⟨a1, a2⟩
  ·exact .inl ⟨a1, by omega⟩
  ·exact .inr ⟨a1, by show _ ≤ 30 * ((s'.1 : Int) - ((p, ks) : St).1); have e : (((p, ks) : St).1 : Int) = (p : Int) := rfl; rw [e]; have e2 : (((p, ([] : List Tree)) : St).1 : Int) = (p : Int) := rfl; rw [e2] at a2; omega⟩
theorem Adv.one {s : St} (t : Tree) (h : s.1 ≤ T.length) (hg : good t) (ht : zfs t = []) (hc : cntT t = 1) : Adv T s (s.1, s.2 ++ [t]) 1 100 [t] := ⟨Nat.le_refl _, h, rfl, ⟨hg, trivial⟩, by simp [zd5, ht], .inl ⟨rfl, by simp [cntL, hc]⟩⟩
theorem zgt {k : Int} : triv k = true ↔ k = 101 ∨ k = 102 := by simp [triv]
theorem zm2 {l : List Tok} (h : ∀ t ∈ l, 101 ≤ t.1 ∧ t.1 ≤ 108 ∧ t.2.size ≠ 0) : zd5 (l.map leaf) = l ∧ zfp (l.map leaf) ∧ nk (l.map leaf) = [] ∧ cntL (l.map leaf) = l.length := by
 induction l with
 | nil => exact ⟨by simp [zd5], trivial, rfl, rfl⟩
 | cons t l ih =>
  obtain ⟨h1, h2, h3⟩ := h t List.mem_cons_self
  obtain ⟨i1, i2, i3, i4⟩ := ih (fun x hx => h x (List.mem_cons_of_mem _ hx))
  refine ⟨?_, ⟨?_, i2⟩, ?_, ?_⟩
  ·simp only [List.map_cons, zd5, leaf, zfs, if_neg (show ¬ t.1 < 100 by omega), if_neg h3, i1]
   rfl
  ·refine ⟨?_, trivial⟩
   rw [if_neg (by omega)]
   exact ⟨rfl, h1, h2, fun h => absurd h h3⟩
  ·simp only [List.map_cons, nk, leaf, Tree.kind, if_neg (show ¬ t.1 < 100 by omega), i3]
  ·simp only [List.map_cons, cntL, leaf, cntT, i4, List.length_cons]
   omega
theorem zsc {l : List Tok} (h : ∀ t ∈ l, triv t.1 = true) : zb6 (l.map leaf) = false := by
 unfold zb6
 rw [List.any_eq_false]
 intro x hx
 obtain ⟨t, ht, rfl⟩ := List.mem_map.1 hx
 have := zgt.1 (h t ht)
 rcases this with h1 | h1 <;> (show ¬ decide (t.1 = 103) = true; rw [h1]; decide)
theorem zyy {α : Type} (p : α → Bool) (l : List α) : l.takeWhile p = l.take (l.takeWhile p).length := by
 induction l with
 | nil => rfl
 | cons a l ih =>
  rw [List.takeWhile_cons]
  split
  ·rw [List.length_cons, List.take_succ_cons, ← ih]
  ·rfl
theorem z0h (T : List Tok) (p : Nat) (hp : p ≤ T.length) : p + (za9 T p).length ≤ T.length := by
 have h : (za9 T p).length ≤ (T.drop p).length := (List.takeWhile_sublist _).length_le
 rw [List.length_drop] at h
 omega
theorem zqz (hT : zaf T) {s : St} (h : s.1 ≤ T.length) : ∃ ns, Adv T s (zbc T s) 0 29 ns ∧ nk ns = [] ∧ zb6 ns = false ∧ s.1 + ns.length = (zbc T s).1 := by
 have hm : ∀ t ∈ za9 T s.1, t ∈ T := fun t ht => List.mem_of_mem_drop (List.Sublist.mem ht (List.takeWhile_sublist _))
 obtain ⟨h1, h2, h3, h4⟩ := zm2 (l := za9 T s.1) (fun t ht => hT t (hm t ht))
 refine ⟨(za9 T s.1).map leaf, ⟨by simp [zbc], z0h T s.1 h, rfl, h2, ?_, ?_⟩, h3, zsc (fun t ht => ?_), by simp [zbc]⟩
 ·rw [h1]
  show za9 T s.1 = List.take (s.1 + (za9 T s.1).length - s.1) _
  rw [Nat.add_sub_cancel_left]
  exact zyy _ _
 ·rw [h4]
  have e : ((zbc T s).1 : Int) = (s.1 : Int) + ((za9 T s.1).length : Int) := by simp [zbc]
  have e2 : (zbc T s).1 = s.1 + (za9 T s.1).length := rfl
  by_cases h0 : (za9 T s.1).length = 0
  ·exact .inl ⟨by omega, by omega⟩
  ·exact .inr ⟨by omega, by omega⟩
 ·have := List.all_takeWhile (l := T.drop s.1) (p := fun t : Tok => triv t.1)
  rw [List.all_eq_true] at this
  exact this t ht
theorem zmq (s : St) : match T[(zbc T s).1]? with
  | some t => zal T s.1 = t ∧ triv t.1 = false
  | none => zal T s.1 = (100, zj) := by
 have h1 : ∀ l : List Tok, match (l.drop (l.takeWhile (fun t => triv t.1)).length)[0]? with
   | some t => l.find? (fun t => !triv t.1) = some t ∧ triv t.1 = false
   | none => l.find? (fun t => !triv t.1) = none := by
  intro l
  induction l with
  | nil => rfl
  | cons a l ih =>
   rw [List.takeWhile_cons]
   cases ha : triv a.1 with
   | true =>
    rw [if_pos rfl, List.length_cons, List.drop_succ_cons, List.find?_cons, ha]
    exact ih
   | false =>
    rw [if_neg (by simp), List.length_nil, List.drop_zero, List.find?_cons, ha]
    exact ⟨rfl, ha⟩
 have h2 := h1 (T.drop s.1)
 have h3 : ((T.drop s.1).drop ((T.drop s.1).takeWhile (fun t => triv t.1)).length)[0]? = T[(zbc T s).1]? := by
  rw [List.drop_drop, List.getElem?_drop]
  rfl
 rw [h3] at h2
 unfold zal
 split <;> rename_i h <;> rw [h] at h2
 ·obtain ⟨h4, h5⟩ := h2
  rw [h4]
  exact ⟨rfl, h5⟩
 ·have h2' : List.find? (fun t : Tok => !triv t.1) (List.drop s.1 T) = none := h2
  rw [h2']
  rfl
theorem zcw (hT : zaf T) {s : St} (h : s.1 ≤ T.length) : ∃ ns, Adv T s (zz T s) 0 29 ns ∧ nk ns = [] ∧ zb6 ns = idT T s.1 ∧ (eofT T s.1 = false → s.1 < (zz T s).1) ∧ s.1 + ns.length = (zz T s).1 := by
 obtain ⟨ns, h1, h2, h3, h9⟩ := zqz hT h
 have hp := zmq (T := T) s
 unfold zz
 cases hg : T[(zbc T s).1]? with
 | none =>
  rw [hg] at hp
  refine ⟨ns, h1, h2, ?_, ?_, h9⟩
  ·rw [h3]
   unfold idT
   rw [hp]
   decide
  ·unfold eofT
   rw [hp]
   simp
 | some t =>
  rw [hg] at hp
  have hlt := (List.getElem?_eq_some_iff.1 hg).1
  have ht := (List.getElem?_eq_some_iff.1 hg).2
  have htm : t ∈ T := ht ▸ List.getElem_mem hlt
  obtain ⟨k1, k2, k3⟩ := hT t htm
  have hl := zm2 (l := [t]) (fun x hx => by rw [List.mem_singleton.1 hx]; exact ⟨k1, k2, k3⟩)
  have hA : Adv T (zbc T s) ((zbc T s).1 + 1, (zbc T s).2 ++ [leaf t]) (-100) 29 [leaf t] := by
   refine ⟨by simp, hlt, rfl, hl.2.1, ?_, .inr ⟨by simp, ?_⟩⟩
   rotate_left
   ·have := hl.2.2.2
    simp only [List.map_cons, List.map_nil, List.length_cons, List.length_nil] at this
    rw [this]
    show (((0 + 1 : Nat) : Int)) + 29 ≤ 30 * (((((zbc T s).1 + 1 : Nat)) : Int) - (((zbc T s).1 : Nat) : Int))
    omega
   have := hl.1
   rw [List.map_cons, List.map_nil] at this
   rw [this]
   show [t] = List.take ((zbc T s).1 + 1 - (zbc T s).1) _
   rw [Nat.add_sub_cancel_left, List.drop_eq_getElem_cons hlt, ht]
   rfl
  refine ⟨ns ++ [leaf t], (h1.trans hA).more (by decide) (by decide), ?_, ?_, ?_, by rw [List.length_append, List.length_singleton]; show _ = (zbc T s).1 + 1; omega⟩
  ·rw [zr, h2]
   exact hl.2.2.1
  ·rw [zaa, h3]
   unfold idT
   rw [hp.1]
   simp [zb6, leaf, Tree.kind]
   rfl
  ·intro _
   have := h1.le
   show s.1 < (zbc T s).1 + 1
   omega
theorem znk : good (.mk 108 zj []) := ⟨by decide, trivial⟩
theorem znj : good (.mk 0 zj []) := ⟨by decide, trivial⟩
theorem zxp : good (.mk 46 zj []) := ⟨by decide, trivial⟩
theorem zgq {s : St} (h : s.1 ≤ T.length) : Adv T s (zev s) 1 100 [.mk 108 zj []] := Adv.one _ h znk (by decide) rfl
theorem zf0 {s : St} (h : s.1 ≤ T.length) : Adv T s (ze5 s) 1 100 [.mk 46 zj []] := Adv.one _ h zxp (by decide) rfl
theorem zf8 {s : St} (h : s.1 ≤ T.length) : Adv T s (ze0 s) 1 100 [.mk 0 zj []] := Adv.one _ h znj (by decide) rfl
theorem za1 {n : Nat} {l : List ByteArray} (h : atT T n l = true) : eofT T n = false := by
 unfold atT at h
 unfold eofT
 simp only [Bool.and_eq_true, Bool.or_eq_true, decide_eq_true_eq] at h
 rw [decide_eq_false_iff_not]
 omega
theorem zej {n : Nat} (h : idT T n = true) : eofT T n = false := by
 unfold idT at h
 unfold eofT
 simp only [decide_eq_true_eq] at h
 rw [decide_eq_false_iff_not]
 omega
theorem zgh {n : Nat} {k : Int} (h : (zal T n).1 = k) (hk : k ≠ 100) : eofT T n = false := by
 unfold eofT
 rw [decide_eq_false_iff_not]
 omega
theorem zak (hT : zaf T) {s : St} (h : s.1 ≤ T.length) (he : eofT T s.1 = false) : ∃ ns, Adv T s (zz T s) (-100) 29 ns ∧ nk ns = [] ∧ zb6 ns = idT T s.1 ∧ s.1 < (zz T s).1 ∧ s.1 + ns.length = (zz T s).1 := by
 obtain ⟨ns, h1, h2, h3, h4, h5⟩ := zcw hT h
 exact ⟨ns, h1.fwd (h4 he), h2, h3, h4 he, h5⟩
theorem zaq (hT : zaf T) (x : ByteArray) {s : St} (h : s.1 ≤ T.length) : ∃ ns, Adv T s (zx T x s) 1 29 ns ∧ nk ns = [] ∧ (atT T s.1 [x] = true → s.1 < (zx T x s).1) := by
 unfold zx
 split
 ·rename_i ha
  obtain ⟨ns, h1, h2, h3, h4, h5⟩ := zcw hT h
  exact ⟨ns, h1.more (by decide) (by decide), h2, fun ha => h4 (za1 ha)⟩
 ·rename_i ha
  exact ⟨_, (zgq h).more (by decide) (by decide), rfl, fun h => absurd h ha⟩
theorem zbx (hT : zaf T) {s : St} (h : s.1 ≤ T.length) : ∃ ns, Adv T s (zao T s) 1 29 ns ∧ nk ns = [] ∧ (idT T s.1 = true → zb6 ns = true) := by
 unfold zao
 split
 ·rename_i ha
  obtain ⟨ns, h1, h2, h3, h4, h5⟩ := zcw hT h
  exact ⟨ns, h1.more (by decide) (by decide), h2, fun ha => by rw [h3, ha]⟩
 ·rename_i ha
  exact ⟨_, (zgq h).more (by decide) (by decide), rfl, fun h => absurd h ha⟩
theorem zky (hT : zaf T) (l : List ByteArray) {s : St} (h : s.1 ≤ T.length) : ∃ ns, Adv T s (zbq T s l) 0 29 ns ∧ nk ns = [] := by
 unfold zbq
 split
 ·obtain ⟨ns, h1, h2, h3, h4, h5⟩ := zcw hT h
  exact ⟨ns, h1, h2⟩
 ·exact ⟨[], (Adv.refl h).more (by decide) (by decide), rfl⟩
theorem zol (hT : zaf T) {s : St} (h : s.1 ≤ T.length) : Adv T s (zes T s) 1 28 [.mk 46 zj (zz T (s.1, [])).2] ∧ (eofT T s.1 = false → s.1 < (zes T s).1) := by
 obtain ⟨ns, h1, h2, h3, h4, h5⟩ := zcw hT (s := (s.1, [])) h
 have hr : (zz T (s.1, [])).2 = ns := by simpa using h1.row
 have := Adv.node (ks := s.2) 46 h1 (by decide) (by rw [h2]; rfl)
 refine ⟨?_, h4⟩
 rw [hr] at this ⊢
 show Adv T (s.1, s.2) ((zz T (s.1, [])).1, s.2 ++ [Tree.mk 46 zj (zz T (s.1, [])).2]) 1 28 _
 rw [hr]
 exact this
end Go.Proofs.YtmoelofaojgjfaaGreatDoor.Par
namespace Go.Proofs.YtmoelofaojgjfaaGreatDoor.Par
def zp6 (k : Int) : Bool := decide (k = 21) || decide (k = 37)
def zj6 : NT → Int → Bool
 | .expr => isE
 | .armE => eqK 36
 | .initE => eqK 34
 | .typeParam => eqK 11
 | .paramE => eqK 13
 | .dataE kind => eqK (if kind = 4 then 14 else 15)
 | .typeExpr => isTy
 | .pattern => isP
 | .elseB => zp6
 | _ => fun _ => false
def zh4 : NT → Bool
 | .expr => true
 | .armE => true
 | .initE => true
 | .typeParam => true
 | .paramE => true
 | .dataE kind => decide (kind = 4) || decide (kind = 5)
 | .typeExpr => true
 | .pattern => true
 | _ => false
def z0v : NT → Bool
 | .typeExpr => true
 | .elseB => true
 | _ => false
def ziz (a : Bool) (ks : List Int) : Bool := if a = true then ks.dropLast.all isSt && (match ks.getLast? with
 | some k => isE k
 | none => false) else ks.all isSt
def memK (k : Int) : Bool := decide (k = 3) || decide (k = 16)
def K : NT → Bool → List Int → Bool → Bool
 | .block, _, ks, _ => oneK (eqK 21) ks
 | .blockB, _, ks, _ => blkK ks
 | .stmts, a, ks, _ => ziz a ks
 | .statement, a, ks, _ => if a = true then oneK isE ks else oneK isSt ks
 | .letS, _, ks, _ => zb7 isP (orK isTy 0) isE ks
 | .whileB, _, ks, _ => twoK isE (eqK 21) ks
 | .returnS, _, ks, _ => oneK (orK isE 0) ks
 | .assignB, _, ks, _ => oneK isE ks
 | .exprStmtB _, _, ks, _ => ks.isEmpty
 | .expr, _, ks, _ => oneK isE ks
 | .binary _, _, ks, _ => oneK isE ks
 | .binLoop _, _, ks, _ => true
 | .binRhs _, _, ks, _ => oneK isE ks
 | .unary, _, ks, _ => oneK isE ks
 | .unaryB, _, ks, _ => oneK isE ks
 | .borrowB, _, ks, _ => oneK isE ks
 | .arguments, _, ks, _ => ks.all isE
 | .postf, _, ks, _ => true
 | .mcallB, _, ks, _ => ks.all isE
 | .fieldB, _, ks, _ => ks.isEmpty
 | .primary, _, ks, _ => oneK isE ks
 | .macroB, _, ks, _ => ks.all isE
 | .parenB, _, ks, _ => oneK isE ks
 | .ifExpr, _, ks, _ => oneK (eqK 37) ks
 | .ifB, _, ks, _ => zb7 isE (eqK 21) (fun k => decide (k = 21) || decide (k = 37) || decide (k = 0)) ks
 | .elseB, _, ks, _ => oneK zp6 ks
 | .matchS, _, ks, _ => zcd isE (orK (eqK 36) 46) ks
 | .armE, _, ks, _ => optK (eqK 36) ks
 | .armB, _, ks, _ => twoK isP isE ks
 | .structS, _, ks, _ => zcd (eqK 17) (orK (eqK 34) 46) ks
 | .initE, _, ks, _ => optK (eqK 34) ks
 | .initB, _, ks, id => oneK isE ks && id
 | .lambda, _, ks, _ => twoK (eqK 12) isE ks
 | .emptyB, _, ks, _ => ks.isEmpty
 | .pattern, _, ks, _ => oneK isP ks
 | .mutB, _, ks, _ => ks.isEmpty
 | .variantB, _, ks, _ => zcd (eqK 17) isP ks
 | .list _ e, _, ks, _ => ks.all (orK (zj6 e) 46)
 | .listLoop _ e, _, ks, _ => ks.all (orK (zj6 e) 46)
 | .item, _, ks, _ => oneK isIt ks
 | .itemB kind, _, ks, id => loc kind ks id
 | .skipToItem, _, ks, _ => oneK (eqK 46) ks
 | .skipB, _, ks, _ => ks.isEmpty
 | .skipLoop, _, ks, _ => ks.isEmpty
 | .itemBody kind, _, ks, id => loc kind ks id
 | .useS, _, ks, _ => oneK (eqK 17) ks
 | .usePathB, _, ks, _ => !ks.isEmpty && ks.all (eqK 18)
 | .useLoop, _, ks, _ => ks.all (eqK 18)
 | .typeParams, _, ks, _ => oneK (eqK 10) ks
 | .typeParamsB, _, ks, _ => ks.all (orK (eqK 11) 46)
 | .typeParam, _, ks, _ => optK (eqK 11) ks
 | .typeParamB, _, ks, id => ks.all (eqK 17) && id
 | .boundLoop, _, ks, _ => ks.all (eqK 17)
 | .params _, _, ks, _ => oneK (eqK 12) ks
 | .paramsB _, _, ks, _ => ks.all (orK (eqK 13) 46)
 | .paramE, _, ks, _ => optK (eqK 13) ks
 | .paramB, _, ks, id => oneK (orK isTy 0) ks && id
 | .function _, _, ks, _ => fnK ks
 | .dataType kind, _, ks, _ => zxy kind ks
 | .dataE kind, _, ks, _ => optK (eqK (if kind = 4 then 14 else 15)) ks
 | .fieldDeclB, _, ks, id => oneK isTy ks && id
 | .variantDeclB, _, ks, id => ks.all isTy && id
 | .members, _, ks, _ => ks.all memK
 | .membersLoop, _, ks, _ => ks.all memK
 | .methodB, _, ks, _ => fnK ks
 | .assocB, _, ks, _ => oneK (orK isTy 0) ks
 | .implS, _, ks, _ => zsb ks
 | .path _, _, ks, _ => oneK (eqK 17) ks
 | .pathB _, _, ks, _ => !ks.isEmpty && ks.all (eqK 18)
 | .pathLoop _ first, _, ks, _ => (!first || !ks.isEmpty) && ks.all (eqK 18)
 | .segB _, _, ks, _ => ks.all isTy
 | .typeExpr, _, ks, _ => oneK isTy ks
 | .refB, _, ks, _ => oneK isTy ks
 | .funcTypeB, _, ks, _ => tysK ks
 | .bump, _, ks, _ => ks.isEmpty
 | .expectId, _, ks, _ => ks.isEmpty
 | .opt _ e, _, ks, _ => oneK (orK (zj6 e) 0) ks
 | .items, _, ks, _ => ks.all isIt
def Zc (T : List Tok) (x : NT) (p : Nat) : Int := match x with
 | .block => if atT T p [(⟨#[123]⟩ : ByteArray)] = true then 1 else 4
 | .blockB => if atT T p [(⟨#[123]⟩ : ByteArray)] = true then 0 else 3
 | .pathLoop _ first => if first = true then 2 else 0
 | .stmts => 0
 | .statement => 0
 | .letS => 0
 | .whileB => 0
 | .returnS => 0
 | .assignB => 0
 | .exprStmtB _ => 1
 | .expr => 4
 | .binary _ => 4
 | .binLoop _ => 0
 | .binRhs _ => 0
 | .unary => 4
 | .unaryB => 0
 | .borrowB => 0
 | .arguments => 0
 | .postf => 0
 | .mcallB => 0
 | .fieldB => 0
 | .primary => 4
 | .macroB => 0
 | .parenB => 0
 | .ifExpr => 0
 | .ifB => 0
 | .elseB => 4
 | .matchS => 0
 | .armE => 10
 | .armB => 9
 | .structS => 0
 | .initE => 1
 | .initB => 0
 | .lambda => 0
 | .emptyB => 0
 | .pattern => 4
 | .mutB => 0
 | .variantB => 3
 | .list _ _ => 1
 | .listLoop _ _ => 0
 | .item => 0
 | .itemB _ => 0
 | .skipToItem => 1
 | .skipB => 0
 | .skipLoop => 0
 | .itemBody _ => 11
 | .useS => 5
 | .usePathB => 2
 | .useLoop => 0
 | .typeParams => 1
 | .typeParamsB => 0
 | .typeParam => 1
 | .typeParamB => 0
 | .boundLoop => 0
 | .params _ => 2
 | .paramsB _ => 1
 | .paramE => 1
 | .paramB => 0
 | .function _ => 10
 | .dataType _ => 4
 | .dataE _ => 1
 | .fieldDeclB => 0
 | .variantDeclB => 0
 | .members => 2
 | .membersLoop => 0
 | .methodB => 0
 | .assocB => 0
 | .implS => 7
 | .path _ => 3
 | .pathB _ => 2
 | .segB _ => 1
 | .typeExpr => 3
 | .refB => 0
 | .funcTypeB => 0
 | .bump => 0
 | .expectId => 1
 | .opt _ _ => 1
 | .items => 0
def Gc (T : List Tok) (x : NT) (p : Nat) : Int := match x with
 | .block => if atT T p [(⟨#[123]⟩ : ByteArray)] = true then 26 else 13
 | .blockB => if atT T p [(⟨#[123]⟩ : ByteArray)] = true then 27 else 14
 | .pathLoop _ first => if first = true then 24 else 26
 | .stmts => 17
 | .statement => 17
 | .letS => 18
 | .whileB => 20
 | .returnS => 23
 | .assignB => 24
 | .exprStmtB _ => 29
 | .expr => 19
 | .binary _ => 19
 | .binLoop _ => 25
 | .binRhs _ => 25
 | .unary => 19
 | .unaryB => 25
 | .borrowB => 25
 | .arguments => 28
 | .postf => 25
 | .mcallB => 28
 | .fieldB => 28
 | .primary => 19
 | .macroB => 28
 | .parenB => 24
 | .ifExpr => 19
 | .ifB => 20
 | .elseB => 13
 | .matchS => 23
 | .armE => 13
 | .armB => 14
 | .structS => 24
 | .initE => 23
 | .initB => 24
 | .lambda => 23
 | .emptyB => 29
 | .pattern => 22
 | .mutB => 28
 | .variantB => 23
 | .list _ _ => 11
 | .listLoop _ _ => 12
 | .item => 17
 | .itemB _ => 18
 | .skipToItem => 28
 | .skipB => 29
 | .skipLoop => 29
 | .itemBody _ => 2
 | .useS => 22
 | .usePathB => 25
 | .useLoop => 27
 | .typeParams => 27
 | .typeParamsB => 28
 | .typeParam => 25
 | .typeParamB => 26
 | .boundLoop => 26
 | .params _ => 10
 | .paramsB _ => 11
 | .paramE => 27
 | .paramB => 28
 | .function _ => 2
 | .dataType _ => 8
 | .dataE _ => 24
 | .fieldDeclB => 25
 | .variantDeclB => 28
 | .members => 16
 | .membersLoop => 18
 | .methodB => 19
 | .assocB => 26
 | .implS => 11
 | .path _ => 23
 | .pathB _ => 24
 | .segB _ => 27
 | .typeExpr => 23
 | .refB => 26
 | .funcTypeB => 26
 | .bump => 29
 | .expectId => 29
 | .opt _ _ => 25
 | .items => 17
theorem z12 (T : List Tok) (x : NT) (p : Nat) : Zc T x p ≤ 11 := by
 cases x <;> simp only [Zc] <;> (try split) <;> decide
theorem z16 (T : List Tok) (x : NT) (p : Nat) : 0 ≤ Gc T x p := by
 cases x <;> simp only [Gc] <;> (try split) <;> decide
theorem zx2 (T : List Tok) (p : Nat) : Zc T .block p ≤ 4 := by
 simp only [Zc]
 split <;> decide
theorem zx3 (T : List Tok) (p : Nat) : 13 ≤ Gc T .block p := by
 simp only [Gc]
 split <;> decide
def zi1 : NT → Bool
 | .expr => true
 | .binary _ => true
 | .unary => true
 | .primary => true
 | .block => true
 | .statement => true
 | .ifExpr => true
 | .elseB => true
 | .armE => true
 | .initE => true
 | .typeParam => true
 | .paramE => true
 | .dataE _ => true
 | .typeExpr => true
 | .pattern => true
 | .item => true
 | .skipToItem => true
 | .typeParams => true
 | .params _ => true
 | .path _ => true
 | _ => false
def rank : NT → Nat
 | .block => 23
 | .blockB => 22
 | .stmts => 21
 | .statement => 20
 | .expr => 18
 | .binary l => 17 - l
 | .binLoop _ => 10
 | .unary => 11
 | .postf => 10
 | .primary => 10
 | .ifExpr => 1
 | .elseB => 24
 | .armB => 19
 | .armE => 20
 | .list _ _ => 26
 | .listLoop _ _ => 25
 | .pattern => 6
 | .variantB => 5
 | .typeExpr => 5
 | .path _ => 4
 | .pathB _ => 3
 | .pathLoop _ first => if first = true then 2 else 1
 | .typeParam => 1
 | .paramE => 1
 | .initE => 1
 | .dataE _ => 1
 | .skipToItem => 2
 | .skipB => 1
 | .paramsB _ => 27
 | .params _ => 28
 | .typeParams => 1
 | .function _ => 30
 | .dataType _ => 30
 | .members => 2
 | .membersLoop => 1
 | .implS => 30
 | .useS => 3
 | .usePathB => 2
 | .useLoop => 1
 | .itemBody _ => 31
 | .item => 32
 | .items => 33
 | _ => 0
def zan (T : List Tok) (x : NT) (p : Nat) : Nat := match x with
 | .block => if atT T p [(⟨#[123]⟩ : ByteArray)] = true then 1 else 23
 | .blockB => if atT T p [(⟨#[123]⟩ : ByteArray)] = true then 0 else 22
 | x => rank x
theorem zqg (T : List Tok) (x : NT) (p : Nat) : zan T x p ≤ 33 := by
 cases x <;> simp [zan, rank] <;> (try split) <;> omega
def ze4 : NT → Bool
 | .letS => true
 | .whileB => true
 | .returnS => true
 | .assignB => true
 | .binRhs _ => true
 | .unaryB => true
 | .borrowB => true
 | .arguments => true
 | .mcallB => true
 | .fieldB => true
 | .macroB => true
 | .parenB => true
 | .ifExpr => true
 | .ifB => true
 | .matchS => true
 | .structS => true
 | .lambda => true
 | .initB => true
 | .mutB => true
 | .typeParamB => true
 | .paramB => true
 | .fieldDeclB => true
 | .variantDeclB => true
 | .methodB => true
 | .assocB => true
 | .refB => true
 | .funcTypeB => true
 | .item => true
 | .itemB _ => true
 | .skipToItem => true
 | .skipB => true
 | .statement => true
 | .bump => true
 | _ => false
def zw5 : NT → Bool
 | .initB => true
 | .typeParamB => true
 | .paramB => true
 | .fieldDeclB => true
 | .variantDeclB => true
 | _ => false
def Tail (s : St) : Prop := ∃ pre t, s.2 = pre ++ [t] ∧ good t ∧ isE t.kind = true
def zw4 (T : List Tok) : NT → St → Prop
 | .binary l, _ => l ≤ 5
 | .binRhs l, _ => l ≤ 4
 | .binLoop l, s => l ≤ 4 ∧ Tail s
 | .postf, s => Tail s
 | .mcallB, s => atT T (zb1 T (zb1 T s.1)) [(⟨#[40]⟩ : ByteArray)] = true
 | .macroB, s => atT T (zb1 T s.1) [(⟨#[40]⟩ : ByteArray)] = true
 | .list _ e, _ => zh4 e = true
 | .listLoop _ e, _ => zh4 e = true
 | .opt _ e, _ => z0v e = true
 | .itemB k, _ => 2 ≤ k ∧ k ≤ 9
 | .itemBody k, _ => 2 ≤ k ∧ k ≤ 9
 | .dataType k, _ => k = 4 ∨ k = 5
 | .dataE k, _ => k = 4 ∨ k = 5
 | _, _ => True
structure Need (T : List Tok) (x : NT) (s : St) : Prop where
 c : ze4 x = true → eofT T s.1 = false
 i : zw5 x = true → idT T s.1 = true
 x : zw4 T x s
def Cnt (p p' : Nat) (t t' : Tree) (z g : Int) : Prop := (p' = p ∧ (cntT t' : Int) ≤ cntT t + z) ∨ (p < p' ∧ (cntT t' : Int) + g ≤ cntT t + 30 * ((p' : Int) - (p : Int)))
structure Rep (T : List Tok) (s s' : St) (pre : List Tree) (t t' : Tree) : Prop where
 le : s.1 ≤ s'.1
 len : s'.1 ≤ T.length
 was : s.2 = pre ++ [t]
 now : s'.2 = pre ++ [t']
 ok : good t'
 kind : isE t'.kind = true
 toks : zfs t' = zfs t ++ (T.drop s.1).take (s'.1 - s.1)
 few : Cnt s.1 s'.1 t t' 0 24
def repl : NT → Bool
 | .postf => true
 | .binLoop _ => true
 | _ => false
structure zaz (T : List Tok) (x : NT) (s : St) (q : Bool × St) : Prop where
 add : repl x = false → ∃ ns, Adv T s q.2 (Zc T x s.1) (Gc T x s.1) ns ∧ K x q.1 (nk ns) (zb6 ns) = true ∧ (zi1 x = true → ns.length ≤ 1)
 rep : repl x = true → ∃ pre t t', Rep T s q.2 pre t t'
 fwd : ze4 x = true → s.1 < q.2.1
def mu (T : List Tok) (x : NT) (s : St) : Nat := 100 * (T.length - s.1) + zan T x s.1
def room (T : List Tok) (x : NT) (s : St) : Prop := s.2.length + 2000 * (T.length - s.1) + 20 * zan T x s.1 ≤ 5000000
def Can (T : List Tok) (r : NT → St → Ans) (m : Nat) : Prop := ∀ y s', Need T y s' → s'.1 ≤ T.length → mu T y s' < m → room T y s' → ∃ q, r y s' = some q ∧ zaz T y s' q
end Go.Proofs.YtmoelofaojgjfaaGreatDoor.Par
namespace Go.Proofs.YtmoelofaojgjfaaGreatDoor.Par
variable {T : List Tok} {r : NT → St → Ans} {x : NT} {s : St}
theorem call (H : Can T r (mu T x s)) (hr : room T x s) (y : NT) {s' : St} {z g : Int} {ns : List Tree} (A : Adv T s s' z g ns) (hz : z ≤ 15) (hg : -100 ≤ g) (hk : s.1 < s'.1 ∨ zan T y s'.1 < zan T x s.1) (hy : Need T y s') : ∃ q, r y s' = some q ∧ zaz T y s' q := by
 have h1 := zqg T y s'.1
 have h2 := A.le
 have h3 := A.len
 have h4 := zpe ns
 have h6 := A.few
 have h5 : s'.2.length = s.2.length + ns.length := by rw [A.row, List.length_append]
 refine H y s' hy A.len ?_ ?_
 ·unfold mu
  omega
 ·unfold room at hr ⊢
  rcases h6 with ⟨a1, a2⟩ | ⟨a1, a2⟩ <;> omega
theorem body (hT : T.length ≤ 2000) (H : Can T r (mu T x s)) (y : NT) {p : Nat} {ks : List Tree} (hks : ks.length ≤ 1) (h1 : s.1 ≤ p) (h2 : p ≤ T.length) (hk : s.1 < p ∨ zan T y p < zan T x s.1) (hy : Need T y (p, ks)) : ∃ q, r y (p, ks) = some q ∧ zaz T y (p, ks) q := by
 have h3 := zqg T y p
 refine H y (p, ks) hy h2 ?_ ?_
 ·unfold mu
  show 100 * (T.length - p) + zan T y p < _
  omega
 ·unfold room
  show ks.length + 2000 * (T.length - p) + 20 * zan T y p ≤ 5000000
  omega
theorem zgj (hT : T.length ≤ 2000) (H : Can T r (mu T x s)) (kind : Int) (y : NT) {s' : St} (h1 : s.1 ≤ s'.1) (h2 : s'.1 ≤ T.length) (hk : s.1 < s'.1 ∨ zan T y s'.1 < zan T x s.1) (hy : ∀ ks, Need T y (s'.1, ks)) (hre : repl y = false) (hkk : kind < 100)
  (hK : ∀ a ks id, K y a ks id = true → loc kind ks id = true) : ∃ q t, zbt kind (r y) s' = some (false, q) ∧ Adv T s' q (Zc T y s'.1 + 1) (Gc T y s'.1 - 1) [t] ∧ nk [t] = [kind] ∧ (ze4 y = true → s'.1 < q.1) := by
 obtain ⟨q, e, g⟩ := body hT H y (ks := []) (by simp) h1 h2 hk (hy [])
 obtain ⟨ns, a, k, _⟩ := g.add hre
 have hr : q.2.2 = ns := by simpa using a.row
 refine ⟨(q.2.1, s'.2 ++ [.mk kind zj q.2.2]), .mk kind zj ns, ?_, a.node kind hkk (hK _ _ _ k), ?_, g.fwd⟩
 ·unfold zbt
  rw [e]
  rfl
 ·simp [nk, Tree.kind, hkk]
theorem zs7 (hT : T.length ≤ 2000) (H : Can T r (mu T x s)) (kind : Int) (y : NT) {s' : St} {pre : List Tree} {t : Tree} (hs : s'.2 = pre ++ [t]) (hg : good t) (ht : t.kind < 100) (h1 : s.1 ≤ s'.1) (h2 : s'.1 ≤ T.length) (hk : s.1 < s'.1 ∨ zan T y s'.1 < zan T x s.1) (hy : ∀ ks, Need T y (s'.1, ks)) (hre : repl y = false) (hkk : kind < 100)
  (hK : ∀ a ks id, K y a ks id = true → loc kind (t.kind :: ks) id = true) : ∃ q t', ze9 kind (r y) s' = some (false, q) ∧ s'.1 ≤ q.1 ∧ q.1 ≤ T.length ∧ q.2 = pre ++ [t'] ∧ good t' ∧ t'.kind = kind ∧ zfs t' = zfs t ++ (T.drop s'.1).take (q.1 - s'.1) ∧ Cnt s'.1 q.1 t t' (Zc T y s'.1 + 1) (Gc T y s'.1 - 1) ∧ (ze4 y = true → s'.1 < q.1) := by
 obtain ⟨q, e, g⟩ := body hT H y (ks := [t]) (by simp) h1 h2 hk (hy [t])
 obtain ⟨ns, a, k, _⟩ := g.add hre
 have hr : q.2.2 = t :: ns := a.row
 have hgl : s'.2.getLast? = some t := by rw [hs]; simp
 have hdl : s'.2.dropLast = pre := by rw [hs]; simp
 refine ⟨(q.2.1, pre ++ [.mk kind zj q.2.2]), .mk kind zj q.2.2, ?_, a.le, a.len, rfl, ?_, rfl, ?_, ?_, g.fwd⟩
 ·unfold ze9
  rw [hgl]
  simp only [e, Option.bind_some, hdl]
 ·rw [hr]
  refine ⟨?_, hg, a.ok⟩
  rw [if_pos hkk]
  refine ⟨?_, rfl⟩
  have h3 : nk (t :: ns) = t.kind :: nk ns := by simp [nk, ht]
  have h4 : zb6 (t :: ns) = zb6 ns := by
   simp only [zb6, List.any_cons]
   rw [decide_eq_false (by omega)]
   rfl
  rw [h3, h4]
  exact hK _ _ _ k
 ·rw [hr]
  simp only [zfs, if_pos hkk, zd5]
  rw [a.toks]
 ·have h5 := a.few
  unfold Cnt
  rw [hr]
  simp only [cntT, cntL]
  have e1 : ((s'.1, [t]) : St).1 = s'.1 := rfl
  rw [e1] at h5
  rcases h5 with ⟨a1, a2⟩ | ⟨a1, a2⟩
  ·exact .inl ⟨a1, by omega⟩
  ·exact .inr ⟨a1, by omega⟩
theorem Adv.rep {s0 s s' : St} {z g z2 g2 : Int} {ns : List Tree} {t t' : Tree} (A : Adv T s0 s z g (ns ++ [t])) (h1 : s.1 ≤ s'.1) (h2 : s'.1 ≤ T.length) {pre : List Tree} (hw : s.2 = pre ++ [t]) (h3 : s'.2 = pre ++ [t']) (h4 : good t') (h5 : zfs t' = zfs t ++ (T.drop s.1).take (s'.1 - s.1)) (h6 : Cnt s.1 s'.1 t t' z2 g2) : Adv T s0 s' (z + z2) (min (min (g - z2) (g2 - z)) (g + g2)) (ns ++ [t']) := by
 have hp : pre = s0.2 ++ ns := by
  have := A.row
  rw [hw, ← List.append_assoc] at this
  exact List.append_inj_left' this rfl
 have h8 := A.le
 refine ⟨Nat.le_trans A.le h1, h2, by rw [h3, hp, List.append_assoc], zfx (zf4 A.ok) ⟨h4, trivial⟩, ?_, ?_⟩
 ·have h7 := A.toks
  rw [zet] at h7 ⊢
  simp only [zd5, List.append_nil] at h7 ⊢
  rw [h5, ← List.append_assoc, h7, zd2 _ A.le h1]
 ·have h9 := A.few
  rw [zfj] at h9 ⊢
  simp only [cntL] at h9 ⊢
  unfold Cnt at h6
  rcases h9 with ⟨a1, a2⟩ | ⟨a1, a2⟩ <;> rcases h6 with ⟨b1, b2⟩ | ⟨b1, b2⟩
  ·exact .inl ⟨by omega, by omega⟩
  ·exact .inr ⟨by omega, by omega⟩
  ·exact .inr ⟨by omega, by omega⟩
  ·exact .inr ⟨by omega, by omega⟩
theorem zap (y : NT) (s' : St) (h1 : ze4 y = false) (h2 : zw5 y = false) (h3 : zw4 T y s') : Need T y s' := ⟨fun h => (by rw [h1] at h; cases h), fun h => (by rw [h2] at h; cases h), h3⟩
theorem zb8 (y : NT) (s' : St) (h1 : eofT T s'.1 = false) (h2 : zw5 y = false) (h3 : zw4 T y s') : Need T y s' := ⟨fun _ => h1, fun h => (by rw [h2] at h; cases h), h3⟩
theorem zv {p : Int → Bool} {ks : List Int} (h : oneK p ks = true) : ∃ k, ks = [k] ∧ p k = true := by
 match ks, h with
 | [k], h => exact ⟨k, rfl, h⟩
theorem zqv {ks : List Int} (h : ks.isEmpty = true) : ks = [] := List.isEmpty_iff.1 h
theorem zok {p q : Int → Bool} {ks : List Int} (h : ks.all p = true) (hpq : ∀ k, p k = true → q k = true) : ks.all q = true := by
 rw [List.all_eq_true] at h ⊢
 exact fun k hk => hpq k (h k hk)
theorem z0w {k : Int} (h : orK isE 46 k = true) : isE k = true := by
 unfold orK at h
 rcases Bool.or_eq_true_iff.1 h with h | h
 ·exact h
 ·rw [decide_eq_true_iff] at h; subst h; decide
theorem zpk {k : Int} (h : orK isTy 46 k = true) : isTy k = true := by
 unfold orK at h
 rcases Bool.or_eq_true_iff.1 h with h | h
 ·exact h
 ·rw [decide_eq_true_iff] at h; subst h; decide
theorem z0u {k : Int} (h : orK isP 46 k = true) : isP k = true := by
 unfold orK at h
 rcases Bool.or_eq_true_iff.1 h with h | h
 ·exact h
 ·rw [decide_eq_true_iff] at h; subst h; decide
theorem zko {k : Int} (h : isE k = true) : k < 100 := by
 unfold isE at h
 simp only [List.contains_eq_mem, decide_eq_true_eq, List.mem_cons, List.not_mem_nil, or_false] at h
 omega
end Go.Proofs.YtmoelofaojgjfaaGreatDoor.Par
namespace Go.Proofs.YtmoelofaojgjfaaGreatDoor.Par
theorem zhw (T : List Tok) (s : St) : (zz T s).1 = zb1 T s.1 := by
 unfold zb1 zz
 have h : (zbc T s).1 = (zbc T (s.1, [])).1 := rfl
 rw [h]
 split <;> rfl
theorem zte {ks : List Int} {c : Int} (h : ks.all isTy = true) (hc : orK (zj6 .typeExpr) 0 c = true) : tysK (ks ++ [c]) = true := by
 unfold tysK
 rw [List.dropLast_concat, h, List.getLast?_concat]
 have h2 : (isTy c || decide (c = 0)) = true := hc
 simpa using h2
end Go.Proofs.YtmoelofaojgjfaaGreatDoor.Par
namespace Go.Proofs.YtmoelofaojgjfaaGreatDoor.Par
variable {T : List Tok} {r : NT → St → Ans} {s : St}
theorem zzd (hT : T.length ≤ 2000) (hG : zaf T) (H : Can T r (mu T .letS s)) (hn : Need T .letS s) (hs : s.1 ≤ T.length) (hr : room T .letS s) : ∃ q, step T r .letS s = some q ∧ zaz T .letS s q := by
 obtain ⟨n1, a1, k1, i1, z1, l1⟩ := zak hG hs (hn.c rfl)
 have A1 := a1
 obtain ⟨q2, e2, g2⟩ := call H hr (.pattern) A1 (odt rfl) (odt rfl) (.inl z1) (zap _ _ rfl rfl trivial)
 obtain ⟨n2, a2, k2, w2⟩ := g2.add rfl
 obtain ⟨c2, k2, p2⟩ := zv k2
 have A2 := A1.trans a2
 have f2 : s.1 < (q2.2).1 := Nat.lt_of_lt_of_le z1 a2.le
 obtain ⟨q3, e3, g3⟩ := call H hr (.opt (⟨#[58]⟩ : ByteArray) .typeExpr) A2 (odt rfl) (odt rfl) (.inl f2) (zap _ _ rfl rfl rfl)
 obtain ⟨n3, a3, k3, w3⟩ := g3.add rfl
 obtain ⟨c3, k3, p3⟩ := zv k3
 have p3 : orK isTy 0 c3 = true := p3
 have A3 := A2.trans a3
 have f3 : s.1 < (q3.2).1 := Nat.lt_of_lt_of_le f2 a3.le
 obtain ⟨n4, a4, k4, z4⟩ := zaq hG (⟨#[61]⟩ : ByteArray) A3.len
 have A4 := A3.trans a4
 have f4 : s.1 < (zx T (⟨#[61]⟩ : ByteArray) (q3.2)).1 := Nat.lt_of_lt_of_le f3 a4.le
 obtain ⟨q5, e5, g5⟩ := call H hr (.expr) A4 (odt rfl) (odt rfl) (.inl f4) (zap _ _ rfl rfl trivial)
 obtain ⟨n5, a5, k5, w5⟩ := g5.add rfl
 obtain ⟨c5, k5, p5⟩ := zv k5
 have A5 := A4.trans a5
 have f5 : s.1 < (q5.2).1 := Nat.lt_of_lt_of_le f4 a5.le
 obtain ⟨n6, a6, k6, z6⟩ := zaq hG (⟨#[59]⟩ : ByteArray) A5.len
 have A6 := A5.trans a6
 have f6 : s.1 < (zx T (⟨#[59]⟩ : ByteArray) (q5.2)).1 := Nat.lt_of_lt_of_le f5 a6.le
 refine ⟨(false, zx T (⟨#[59]⟩ : ByteArray) (q5.2)), by simp only [step, sqL, st, Option.bind_some, e2, e3, e5], ⟨fun _ => ⟨_, A6.more (odt rfl) (odt rfl), ?_, ?_⟩, fun h => (by cases h), fun h => ?_⟩⟩
 ·show K .letS _ _ _ = true
  simp only [zr, k1, k2, p2, k3, p3, k4, k5, p5, k6, List.nil_append, List.append_nil, List.cons_append, K, zb7, twoK, oneK, zcd, fnK, optK, zaa, zb6, Bool.and_true, Bool.true_and, Bool.true_or, Bool.or_true]
 ·exact fun h => (by cases h)
 ·exact f6
theorem zs9 (hT : T.length ≤ 2000) (hG : zaf T) (H : Can T r (mu T .whileB s)) (hn : Need T .whileB s) (hs : s.1 ≤ T.length) (hr : room T .whileB s) : ∃ q, step T r .whileB s = some q ∧ zaz T .whileB s q := by
 obtain ⟨n1, a1, k1, i1, z1, l1⟩ := zak hG hs (hn.c rfl)
 have A1 := a1
 obtain ⟨q2, e2, g2⟩ := call H hr (.expr) A1 (odt rfl) (odt rfl) (.inl z1) (zap _ _ rfl rfl trivial)
 obtain ⟨n2, a2, k2, w2⟩ := g2.add rfl
 obtain ⟨c2, k2, p2⟩ := zv k2
 have A2 := A1.trans a2
 have f2 : s.1 < (q2.2).1 := Nat.lt_of_lt_of_le z1 a2.le
 obtain ⟨q3, e3, g3⟩ := call H hr (.block) A2 (odt rfl) (odt rfl) (.inl f2) (zap _ _ rfl rfl trivial)
 obtain ⟨n3, a3, k3, w3⟩ := g3.add rfl
 have a3 := a3.more (zx2 _ _) (zx3 _ _)
 obtain ⟨c3, k3, p3⟩ := zv k3
 have A3 := A2.trans a3
 have f3 : s.1 < (q3.2).1 := Nat.lt_of_lt_of_le f2 a3.le
 refine ⟨(false, q3.2), by simp only [step, sqL, st, Option.bind_some, e2, e3], ⟨fun _ => ⟨_, A3.more (odt rfl) (odt rfl), ?_, ?_⟩, fun h => (by cases h), fun h => ?_⟩⟩
 ·show K .whileB _ _ _ = true
  simp only [zr, k1, k2, p2, k3, p3, List.nil_append, List.append_nil, List.cons_append, K, zb7, twoK, oneK, zcd, fnK, optK, zaa, zb6, Bool.and_true, Bool.true_and, Bool.true_or, Bool.or_true]
 ·exact fun h => (by cases h)
 ·exact f3
theorem zs4 (hT : T.length ≤ 2000) (hG : zaf T) (H : Can T r (mu T .assignB s)) (hn : Need T .assignB s) (hs : s.1 ≤ T.length) (hr : room T .assignB s) : ∃ q, step T r .assignB s = some q ∧ zaz T .assignB s q := by
 obtain ⟨n1, a1, k1, i1, z1, l1⟩ := zak hG hs (hn.c rfl)
 have A1 := a1
 obtain ⟨q2, e2, g2⟩ := call H hr (.expr) A1 (odt rfl) (odt rfl) (.inl z1) (zap _ _ rfl rfl trivial)
 obtain ⟨n2, a2, k2, w2⟩ := g2.add rfl
 obtain ⟨c2, k2, p2⟩ := zv k2
 have A2 := A1.trans a2
 have f2 : s.1 < (q2.2).1 := Nat.lt_of_lt_of_le z1 a2.le
 obtain ⟨n3, a3, k3, z3⟩ := zaq hG (⟨#[59]⟩ : ByteArray) A2.len
 have A3 := A2.trans a3
 have f3 : s.1 < (zx T (⟨#[59]⟩ : ByteArray) (q2.2)).1 := Nat.lt_of_lt_of_le f2 a3.le
 refine ⟨(false, zx T (⟨#[59]⟩ : ByteArray) (q2.2)), by simp only [step, sqL, st, Option.bind_some, e2], ⟨fun _ => ⟨_, A3.more (odt rfl) (odt rfl), ?_, ?_⟩, fun h => (by cases h), fun h => ?_⟩⟩
 ·show K .assignB _ _ _ = true
  simp only [zr, k1, k2, p2, k3, List.nil_append, List.append_nil, List.cons_append, K, zb7, twoK, oneK, zcd, fnK, optK, zaa, zb6, Bool.and_true, Bool.true_and, Bool.true_or, Bool.or_true]
 ·exact fun h => (by cases h)
 ·exact f3
theorem zvx {l : Nat} (hT : T.length ≤ 2000) (hG : zaf T) (H : Can T r (mu T (.binRhs l) s)) (hn : Need T (.binRhs l) s) (hs : s.1 ≤ T.length) (hr : room T (.binRhs l) s) : ∃ q, step T r (.binRhs l) s = some q ∧ zaz T (.binRhs l) s q := by
 obtain ⟨n1, a1, k1, i1, z1, l1⟩ := zak hG hs (hn.c rfl)
 have A1 := a1
 obtain ⟨q2, e2, g2⟩ := call H hr (.binary (l + 1)) A1 (odt rfl) (odt rfl) (.inl z1) (zap _ _ rfl rfl (show l + 1 ≤ 5 by have : l ≤ 4 := hn.x; omega))
 obtain ⟨n2, a2, k2, w2⟩ := g2.add rfl
 obtain ⟨c2, k2, p2⟩ := zv k2
 have A2 := A1.trans a2
 have f2 : s.1 < (q2.2).1 := Nat.lt_of_lt_of_le z1 a2.le
 refine ⟨(false, q2.2), by simp only [step, sqL, st, Option.bind_some, e2], ⟨fun _ => ⟨_, A2.more (odt rfl) (odt rfl), ?_, ?_⟩, fun h => (by cases h), fun h => ?_⟩⟩
 ·show K (.binRhs l) _ _ _ = true
  simp only [zr, k1, k2, p2, List.nil_append, List.append_nil, List.cons_append, K, zb7, twoK, oneK, zcd, fnK, optK, zaa, zb6, Bool.and_true, Bool.true_and, Bool.true_or, Bool.or_true]
 ·exact fun h => (by cases h)
 ·exact f2
theorem ztc (hT : T.length ≤ 2000) (hG : zaf T) (H : Can T r (mu T .unaryB s)) (hn : Need T .unaryB s) (hs : s.1 ≤ T.length) (hr : room T .unaryB s) : ∃ q, step T r .unaryB s = some q ∧ zaz T .unaryB s q := by
 obtain ⟨n1, a1, k1, i1, z1, l1⟩ := zak hG hs (hn.c rfl)
 have A1 := a1
 obtain ⟨q2, e2, g2⟩ := call H hr (.unary) A1 (odt rfl) (odt rfl) (.inl z1) (zap _ _ rfl rfl trivial)
 obtain ⟨n2, a2, k2, w2⟩ := g2.add rfl
 obtain ⟨c2, k2, p2⟩ := zv k2
 have A2 := A1.trans a2
 have f2 : s.1 < (q2.2).1 := Nat.lt_of_lt_of_le z1 a2.le
 refine ⟨(false, q2.2), by simp only [step, sqL, st, Option.bind_some, e2], ⟨fun _ => ⟨_, A2.more (odt rfl) (odt rfl), ?_, ?_⟩, fun h => (by cases h), fun h => ?_⟩⟩
 ·show K .unaryB _ _ _ = true
  simp only [zr, k1, k2, p2, List.nil_append, List.append_nil, List.cons_append, K, zb7, twoK, oneK, zcd, fnK, optK, zaa, zb6, Bool.and_true, Bool.true_and, Bool.true_or, Bool.or_true]
 ·exact fun h => (by cases h)
 ·exact f2
theorem zsn (hT : T.length ≤ 2000) (hG : zaf T) (H : Can T r (mu T .borrowB s)) (hn : Need T .borrowB s) (hs : s.1 ≤ T.length) (hr : room T .borrowB s) : ∃ q, step T r .borrowB s = some q ∧ zaz T .borrowB s q := by
 obtain ⟨n1, a1, k1, i1, z1, l1⟩ := zak hG hs (hn.c rfl)
 have A1 := a1
 obtain ⟨n2, a2, k2⟩ := zky hG [(⟨#[109, 117, 116]⟩ : ByteArray)] A1.len
 have A2 := A1.trans a2
 have f2 : s.1 < (zbq T (zz T s) [(⟨#[109, 117, 116]⟩ : ByteArray)]).1 := Nat.lt_of_lt_of_le z1 a2.le
 obtain ⟨q3, e3, g3⟩ := call H hr (.unary) A2 (odt rfl) (odt rfl) (.inl f2) (zap _ _ rfl rfl trivial)
 obtain ⟨n3, a3, k3, w3⟩ := g3.add rfl
 obtain ⟨c3, k3, p3⟩ := zv k3
 have A3 := A2.trans a3
 have f3 : s.1 < (q3.2).1 := Nat.lt_of_lt_of_le f2 a3.le
 refine ⟨(false, q3.2), by simp only [step, sqL, st, Option.bind_some, e3], ⟨fun _ => ⟨_, A3.more (odt rfl) (odt rfl), ?_, ?_⟩, fun h => (by cases h), fun h => ?_⟩⟩
 ·show K .borrowB _ _ _ = true
  simp only [zr, k1, k2, k3, p3, List.nil_append, List.append_nil, List.cons_append, K, zb7, twoK, oneK, zcd, fnK, optK, zaa, zb6, Bool.and_true, Bool.true_and, Bool.true_or, Bool.or_true]
 ·exact fun h => (by cases h)
 ·exact f3
theorem zoi (hT : T.length ≤ 2000) (hG : zaf T) (H : Can T r (mu T .arguments s)) (hn : Need T .arguments s) (hs : s.1 ≤ T.length) (hr : room T .arguments s) : ∃ q, step T r .arguments s = some q ∧ zaz T .arguments s q := by
 obtain ⟨n1, a1, k1, i1, z1, l1⟩ := zak hG hs (hn.c rfl)
 have A1 := a1
 obtain ⟨q2, e2, g2⟩ := call H hr (.list (⟨#[41]⟩ : ByteArray) .expr) A1 (odt rfl) (odt rfl) (.inl z1) (zap _ _ rfl rfl rfl)
 obtain ⟨n2, a2, k2, w2⟩ := g2.add rfl
 have k2 := zok k2 (fun _ h => z0w h)
 have A2 := A1.trans a2
 have f2 : s.1 < (q2.2).1 := Nat.lt_of_lt_of_le z1 a2.le
 refine ⟨(false, q2.2), by simp only [step, sqL, st, Option.bind_some, e2], ⟨fun _ => ⟨_, A2.more (odt rfl) (odt rfl), ?_, ?_⟩, fun h => (by cases h), fun h => ?_⟩⟩
 ·show K .arguments _ _ _ = true
  simp only [zr, k1, k2, List.nil_append, List.append_nil, List.cons_append, K, zb7, twoK, oneK, zcd, fnK, optK, zaa, zb6, Bool.and_true, Bool.true_and, Bool.true_or, Bool.or_true]
 ·exact fun h => (by cases h)
 ·exact f2
theorem zuk (hT : T.length ≤ 2000) (hG : zaf T) (H : Can T r (mu T .mcallB s)) (hn : Need T .mcallB s) (hs : s.1 ≤ T.length) (hr : room T .mcallB s) : ∃ q, step T r .mcallB s = some q ∧ zaz T .mcallB s q := by
 obtain ⟨n1, a1, k1, i1, z1, l1⟩ := zak hG hs (hn.c rfl)
 have A1 := a1
 obtain ⟨n2, a2, k2, i2, z2, l2⟩ := zcw hG A1.len
 have A2 := A1.trans a2
 have f2 : s.1 < (zz T (zz T s)).1 := Nat.lt_of_lt_of_le z1 a2.le
 obtain ⟨q3, e3, g3⟩ := call H hr (.arguments) A2 (odt rfl) (odt rfl) (.inl f2) (zb8 _ _ (by rw [zhw, zhw]; exact za1 hn.x) rfl trivial)
 obtain ⟨n3, a3, k3, w3⟩ := g3.add rfl
 have A3 := A2.trans a3
 have f3 : s.1 < (q3.2).1 := Nat.lt_of_lt_of_le f2 a3.le
 refine ⟨(false, q3.2), by simp only [step, sqL, st, Option.bind_some, e3], ⟨fun _ => ⟨_, A3.more (odt rfl) (odt rfl), ?_, ?_⟩, fun h => (by cases h), fun h => ?_⟩⟩
 ·show K .mcallB _ _ _ = true
  simp only [zr, k1, k2, k3, List.nil_append, List.append_nil, List.cons_append, K, zb7, twoK, oneK, zcd, fnK, optK, zaa, zb6, Bool.and_true, Bool.true_and, Bool.true_or, Bool.or_true]; exact k3
 ·exact fun h => (by cases h)
 ·exact f3
theorem zu9 (hT : T.length ≤ 2000) (hG : zaf T) (H : Can T r (mu T .fieldB s)) (hn : Need T .fieldB s) (hs : s.1 ≤ T.length) (hr : room T .fieldB s) : ∃ q, step T r .fieldB s = some q ∧ zaz T .fieldB s q := by
 obtain ⟨n1, a1, k1, i1, z1, l1⟩ := zak hG hs (hn.c rfl)
 have A1 := a1
 obtain ⟨n2, a2, k2, z2⟩ := zbx hG A1.len
 have A2 := A1.trans a2
 have f2 : s.1 < (zao T (zz T s)).1 := Nat.lt_of_lt_of_le z1 a2.le
 refine ⟨(false, zao T (zz T s)), by simp only [step, sqL, st, Option.bind_some], ⟨fun _ => ⟨_, A2.more (odt rfl) (odt rfl), ?_, ?_⟩, fun h => (by cases h), fun h => ?_⟩⟩
 ·show K .fieldB _ _ _ = true
  simp only [zr, k1, k2, List.nil_append, List.append_nil, List.cons_append, K, zb7, twoK, oneK, zcd, fnK, optK, zaa, zb6, Bool.and_true, Bool.true_and, Bool.true_or, Bool.or_true]; rfl
 ·exact fun h => (by cases h)
 ·exact f2
theorem zuo (hT : T.length ≤ 2000) (hG : zaf T) (H : Can T r (mu T .macroB s)) (hn : Need T .macroB s) (hs : s.1 ≤ T.length) (hr : room T .macroB s) : ∃ q, step T r .macroB s = some q ∧ zaz T .macroB s q := by
 obtain ⟨n1, a1, k1, i1, z1, l1⟩ := zak hG hs (hn.c rfl)
 have A1 := a1
 obtain ⟨q2, e2, g2⟩ := call H hr (.arguments) A1 (odt rfl) (odt rfl) (.inl z1) (zb8 _ _ (by rw [zhw]; exact za1 hn.x) rfl trivial)
 obtain ⟨n2, a2, k2, w2⟩ := g2.add rfl
 have A2 := A1.trans a2
 have f2 : s.1 < (q2.2).1 := Nat.lt_of_lt_of_le z1 a2.le
 refine ⟨(false, q2.2), by simp only [step, sqL, st, Option.bind_some, e2], ⟨fun _ => ⟨_, A2.more (odt rfl) (odt rfl), ?_, ?_⟩, fun h => (by cases h), fun h => ?_⟩⟩
 ·show K .macroB _ _ _ = true
  simp only [zr, k1, k2, List.nil_append, List.append_nil, List.cons_append, K, zb7, twoK, oneK, zcd, fnK, optK, zaa, zb6, Bool.and_true, Bool.true_and, Bool.true_or, Bool.or_true]; exact k2
 ·exact fun h => (by cases h)
 ·exact f2
theorem zty (hT : T.length ≤ 2000) (hG : zaf T) (H : Can T r (mu T .parenB s)) (hn : Need T .parenB s) (hs : s.1 ≤ T.length) (hr : room T .parenB s) : ∃ q, step T r .parenB s = some q ∧ zaz T .parenB s q := by
 obtain ⟨n1, a1, k1, i1, z1, l1⟩ := zak hG hs (hn.c rfl)
 have A1 := a1
 obtain ⟨q2, e2, g2⟩ := call H hr (.expr) A1 (odt rfl) (odt rfl) (.inl z1) (zap _ _ rfl rfl trivial)
 obtain ⟨n2, a2, k2, w2⟩ := g2.add rfl
 obtain ⟨c2, k2, p2⟩ := zv k2
 have A2 := A1.trans a2
 have f2 : s.1 < (q2.2).1 := Nat.lt_of_lt_of_le z1 a2.le
 obtain ⟨n3, a3, k3, z3⟩ := zaq hG (⟨#[41]⟩ : ByteArray) A2.len
 have A3 := A2.trans a3
 have f3 : s.1 < (zx T (⟨#[41]⟩ : ByteArray) (q2.2)).1 := Nat.lt_of_lt_of_le f2 a3.le
 refine ⟨(false, zx T (⟨#[41]⟩ : ByteArray) (q2.2)), by simp only [step, sqL, st, Option.bind_some, e2], ⟨fun _ => ⟨_, A3.more (odt rfl) (odt rfl), ?_, ?_⟩, fun h => (by cases h), fun h => ?_⟩⟩
 ·show K .parenB _ _ _ = true
  simp only [zr, k1, k2, p2, k3, List.nil_append, List.append_nil, List.cons_append, K, zb7, twoK, oneK, zcd, fnK, optK, zaa, zb6, Bool.and_true, Bool.true_and, Bool.true_or, Bool.or_true]
 ·exact fun h => (by cases h)
 ·exact f3
theorem z0z (hT : T.length ≤ 2000) (hG : zaf T) (H : Can T r (mu T .ifB s)) (hn : Need T .ifB s) (hs : s.1 ≤ T.length) (hr : room T .ifB s) : ∃ q, step T r .ifB s = some q ∧ zaz T .ifB s q := by
 obtain ⟨n1, a1, k1, i1, z1, l1⟩ := zak hG hs (hn.c rfl)
 have A1 := a1
 obtain ⟨q2, e2, g2⟩ := call H hr (.expr) A1 (odt rfl) (odt rfl) (.inl z1) (zap _ _ rfl rfl trivial)
 obtain ⟨n2, a2, k2, w2⟩ := g2.add rfl
 obtain ⟨c2, k2, p2⟩ := zv k2
 have A2 := A1.trans a2
 have f2 : s.1 < (q2.2).1 := Nat.lt_of_lt_of_le z1 a2.le
 obtain ⟨q3, e3, g3⟩ := call H hr (.block) A2 (odt rfl) (odt rfl) (.inl f2) (zap _ _ rfl rfl trivial)
 obtain ⟨n3, a3, k3, w3⟩ := g3.add rfl
 have a3 := a3.more (zx2 _ _) (zx3 _ _)
 obtain ⟨c3, k3, p3⟩ := zv k3
 have A3 := A2.trans a3
 have f3 : s.1 < (q3.2).1 := Nat.lt_of_lt_of_le f2 a3.le
 obtain ⟨q4, e4, g4⟩ := call H hr (.opt (⟨#[101, 108, 115, 101]⟩ : ByteArray) .elseB) A3 (odt rfl) (odt rfl) (.inl f3) (zap _ _ rfl rfl rfl)
 obtain ⟨n4, a4, k4, w4⟩ := g4.add rfl
 obtain ⟨c4, k4, p4⟩ := zv k4
 have p4 : orK zp6 0 c4 = true := p4
 have A4 := A3.trans a4
 have f4 : s.1 < (q4.2).1 := Nat.lt_of_lt_of_le f3 a4.le
 refine ⟨(false, q4.2), by simp only [step, sqL, st, Option.bind_some, e2, e3, e4], ⟨fun _ => ⟨_, A4.more (odt rfl) (odt rfl), ?_, ?_⟩, fun h => (by cases h), fun h => ?_⟩⟩
 ·show K .ifB _ _ _ = true
  simp only [zr, k1, k2, p2, k3, p3, k4, p4, List.nil_append, List.append_nil, List.cons_append, K, zb7, twoK, oneK, zcd, fnK, optK, zaa, zb6, Bool.and_true, Bool.true_and, Bool.true_or, Bool.or_true]
  exact p4
 ·exact fun h => (by cases h)
 ·exact f4
theorem zum (hT : T.length ≤ 2000) (hG : zaf T) (H : Can T r (mu T .matchS s)) (hn : Need T .matchS s) (hs : s.1 ≤ T.length) (hr : room T .matchS s) : ∃ q, step T r .matchS s = some q ∧ zaz T .matchS s q := by
 obtain ⟨n1, a1, k1, i1, z1, l1⟩ := zak hG hs (hn.c rfl)
 have A1 := a1
 obtain ⟨q2, e2, g2⟩ := call H hr (.expr) A1 (odt rfl) (odt rfl) (.inl z1) (zap _ _ rfl rfl trivial)
 obtain ⟨n2, a2, k2, w2⟩ := g2.add rfl
 obtain ⟨c2, k2, p2⟩ := zv k2
 have A2 := A1.trans a2
 have f2 : s.1 < (q2.2).1 := Nat.lt_of_lt_of_le z1 a2.le
 obtain ⟨n3, a3, k3, z3⟩ := zaq hG (⟨#[123]⟩ : ByteArray) A2.len
 have A3 := A2.trans a3
 have f3 : s.1 < (zx T (⟨#[123]⟩ : ByteArray) (q2.2)).1 := Nat.lt_of_lt_of_le f2 a3.le
 obtain ⟨q4, e4, g4⟩ := call H hr (.list (⟨#[125]⟩ : ByteArray) .armE) A3 (odt rfl) (odt rfl) (.inl f3) (zap _ _ rfl rfl rfl)
 obtain ⟨n4, a4, k4, w4⟩ := g4.add rfl
 have A4 := A3.trans a4
 have f4 : s.1 < (q4.2).1 := Nat.lt_of_lt_of_le f3 a4.le
 refine ⟨(false, q4.2), by simp only [step, sqL, st, Option.bind_some, e2, e4], ⟨fun _ => ⟨_, A4.more (odt rfl) (odt rfl), ?_, ?_⟩, fun h => (by cases h), fun h => ?_⟩⟩
 ·show K .matchS _ _ _ = true
  simp only [zr, k1, k2, p2, k3, k4, List.nil_append, List.append_nil, List.cons_append, K, zb7, twoK, oneK, zcd, fnK, optK, zaa, zb6, Bool.and_true, Bool.true_and, Bool.true_or, Bool.or_true]; exact k4
 ·exact fun h => (by cases h)
 ·exact f4
theorem zz7 (hT : T.length ≤ 2000) (hG : zaf T) (H : Can T r (mu T .armB s)) (hn : Need T .armB s) (hs : s.1 ≤ T.length) (hr : room T .armB s) : ∃ q, step T r .armB s = some q ∧ zaz T .armB s q := by
 obtain ⟨q1, e1, g1⟩ := call H hr (.pattern) (Adv.refl hs) (odt rfl) (odt rfl) (.inr (by simp [zan, rank])) (zap _ _ rfl rfl trivial)
 obtain ⟨n1, a1, k1, w1⟩ := g1.add rfl
 obtain ⟨c1, k1, p1⟩ := zv k1
 have A1 := a1
 obtain ⟨n2, a2, k2, z2⟩ := zaq hG (⟨#[61, 62]⟩ : ByteArray) A1.len
 have A2 := A1.trans a2
 obtain ⟨q3, e3, g3⟩ := call H hr (.expr) A2 (odt rfl) (odt rfl) (.inr (by simp [zan, rank])) (zap _ _ rfl rfl trivial)
 obtain ⟨n3, a3, k3, w3⟩ := g3.add rfl
 obtain ⟨c3, k3, p3⟩ := zv k3
 have A3 := A2.trans a3
 refine ⟨(false, q3.2), by simp only [step, sqL, st, Option.bind_some, e1, e3], ⟨fun _ => ⟨_, A3.more (odt rfl) (odt rfl), ?_, ?_⟩, fun h => (by cases h), fun h => ?_⟩⟩
 ·show K .armB _ _ _ = true
  simp only [zr, k1, p1, k2, k3, p3, List.nil_append, List.append_nil, List.cons_append, K, zb7, twoK, oneK, zcd, fnK, optK, zaa, zb6, Bool.and_true, Bool.true_and, Bool.true_or, Bool.or_true]
 ·exact fun h => (by cases h)
 ·cases h
theorem zq9 (hT : T.length ≤ 2000) (hG : zaf T) (H : Can T r (mu T .structS s)) (hn : Need T .structS s) (hs : s.1 ≤ T.length) (hr : room T .structS s) : ∃ q, step T r .structS s = some q ∧ zaz T .structS s q := by
 obtain ⟨n1, a1, k1, i1, z1, l1⟩ := zak hG hs (hn.c rfl)
 have A1 := a1
 obtain ⟨q2, e2, g2⟩ := call H hr (.path false) A1 (odt rfl) (odt rfl) (.inl z1) (zap _ _ rfl rfl trivial)
 obtain ⟨n2, a2, k2, w2⟩ := g2.add rfl
 obtain ⟨c2, k2, p2⟩ := zv k2
 have A2 := A1.trans a2
 have f2 : s.1 < (q2.2).1 := Nat.lt_of_lt_of_le z1 a2.le
 obtain ⟨n3, a3, k3, z3⟩ := zaq hG (⟨#[123]⟩ : ByteArray) A2.len
 have A3 := A2.trans a3
 have f3 : s.1 < (zx T (⟨#[123]⟩ : ByteArray) (q2.2)).1 := Nat.lt_of_lt_of_le f2 a3.le
 obtain ⟨q4, e4, g4⟩ := call H hr (.list (⟨#[125]⟩ : ByteArray) .initE) A3 (odt rfl) (odt rfl) (.inl f3) (zap _ _ rfl rfl rfl)
 obtain ⟨n4, a4, k4, w4⟩ := g4.add rfl
 have A4 := A3.trans a4
 have f4 : s.1 < (q4.2).1 := Nat.lt_of_lt_of_le f3 a4.le
 refine ⟨(false, q4.2), by simp only [step, sqL, st, Option.bind_some, e2, e4], ⟨fun _ => ⟨_, A4.more (odt rfl) (odt rfl), ?_, ?_⟩, fun h => (by cases h), fun h => ?_⟩⟩
 ·show K .structS _ _ _ = true
  simp only [zr, k1, k2, p2, k3, k4, List.nil_append, List.append_nil, List.cons_append, K, zb7, twoK, oneK, zcd, fnK, optK, zaa, zb6, Bool.and_true, Bool.true_and, Bool.true_or, Bool.or_true]; exact k4
 ·exact fun h => (by cases h)
 ·exact f4
theorem zxj (hT : T.length ≤ 2000) (hG : zaf T) (H : Can T r (mu T .initB s)) (hn : Need T .initB s) (hs : s.1 ≤ T.length) (hr : room T .initB s) : ∃ q, step T r .initB s = some q ∧ zaz T .initB s q := by
 obtain ⟨n1, a1, k1, i1, z1, l1⟩ := zak hG hs (hn.c rfl)
 have A1 := a1
 obtain ⟨n2, a2, k2, z2⟩ := zaq hG (⟨#[58]⟩ : ByteArray) A1.len
 have A2 := A1.trans a2
 have f2 : s.1 < (zx T (⟨#[58]⟩ : ByteArray) (zz T s)).1 := Nat.lt_of_lt_of_le z1 a2.le
 obtain ⟨q3, e3, g3⟩ := call H hr (.expr) A2 (odt rfl) (odt rfl) (.inl f2) (zap _ _ rfl rfl trivial)
 obtain ⟨n3, a3, k3, w3⟩ := g3.add rfl
 obtain ⟨c3, k3, p3⟩ := zv k3
 have A3 := A2.trans a3
 have f3 : s.1 < (q3.2).1 := Nat.lt_of_lt_of_le f2 a3.le
 refine ⟨(false, q3.2), by simp only [step, sqL, st, Option.bind_some, e3], ⟨fun _ => ⟨_, A3.more (odt rfl) (odt rfl), ?_, ?_⟩, fun h => (by cases h), fun h => ?_⟩⟩
 ·show K .initB _ _ _ = true
  rw [zaa, zaa, i1, hn.i rfl]
  simp only [zr, k1, k2, k3, p3, List.nil_append, List.append_nil, List.cons_append, K, zb7, twoK, oneK, zcd, fnK, optK, zaa, zb6, Bool.and_true, Bool.true_and, Bool.true_or, Bool.or_true]
 ·exact fun h => (by cases h)
 ·exact f3
theorem zzb (hT : T.length ≤ 2000) (hG : zaf T) (H : Can T r (mu T .mutB s)) (hn : Need T .mutB s) (hs : s.1 ≤ T.length) (hr : room T .mutB s) : ∃ q, step T r .mutB s = some q ∧ zaz T .mutB s q := by
 obtain ⟨n1, a1, k1, i1, z1, l1⟩ := zak hG hs (hn.c rfl)
 have A1 := a1
 obtain ⟨n2, a2, k2, z2⟩ := zbx hG A1.len
 have A2 := A1.trans a2
 have f2 : s.1 < (zao T (zz T s)).1 := Nat.lt_of_lt_of_le z1 a2.le
 refine ⟨(false, zao T (zz T s)), by simp only [step, sqL, st, Option.bind_some], ⟨fun _ => ⟨_, A2.more (odt rfl) (odt rfl), ?_, ?_⟩, fun h => (by cases h), fun h => ?_⟩⟩
 ·show K .mutB _ _ _ = true
  simp only [zr, k1, k2, List.nil_append, List.append_nil, List.cons_append, K, zb7, twoK, oneK, zcd, fnK, optK, zaa, zb6, Bool.and_true, Bool.true_and, Bool.true_or, Bool.or_true]; rfl
 ·exact fun h => (by cases h)
 ·exact f2
theorem zt4 (hT : T.length ≤ 2000) (hG : zaf T) (H : Can T r (mu T .paramB s)) (hn : Need T .paramB s) (hs : s.1 ≤ T.length) (hr : room T .paramB s) : ∃ q, step T r .paramB s = some q ∧ zaz T .paramB s q := by
 obtain ⟨n1, a1, k1, i1, z1, l1⟩ := zak hG hs (hn.c rfl)
 have A1 := a1
 obtain ⟨q2, e2, g2⟩ := call H hr (.opt (⟨#[58]⟩ : ByteArray) .typeExpr) A1 (odt rfl) (odt rfl) (.inl z1) (zap _ _ rfl rfl rfl)
 obtain ⟨n2, a2, k2, w2⟩ := g2.add rfl
 obtain ⟨c2, k2, p2⟩ := zv k2
 have p2 : orK isTy 0 c2 = true := p2
 have A2 := A1.trans a2
 have f2 : s.1 < (q2.2).1 := Nat.lt_of_lt_of_le z1 a2.le
 refine ⟨(false, q2.2), by simp only [step, sqL, st, Option.bind_some, e2], ⟨fun _ => ⟨_, A2.more (odt rfl) (odt rfl), ?_, ?_⟩, fun h => (by cases h), fun h => ?_⟩⟩
 ·show K .paramB _ _ _ = true
  rw [zaa, i1, hn.i rfl]
  simp only [zr, k1, k2, p2, List.nil_append, List.append_nil, List.cons_append, K, zb7, twoK, oneK, zcd, fnK, optK, zaa, zb6, Bool.and_true, Bool.true_and, Bool.true_or, Bool.or_true]
 ·exact fun h => (by cases h)
 ·exact f2
theorem zlx (hT : T.length ≤ 2000) (hG : zaf T) (H : Can T r (mu T .fieldDeclB s)) (hn : Need T .fieldDeclB s) (hs : s.1 ≤ T.length) (hr : room T .fieldDeclB s) : ∃ q, step T r .fieldDeclB s = some q ∧ zaz T .fieldDeclB s q := by
 obtain ⟨n1, a1, k1, i1, z1, l1⟩ := zak hG hs (hn.c rfl)
 have A1 := a1
 obtain ⟨n2, a2, k2, z2⟩ := zaq hG (⟨#[58]⟩ : ByteArray) A1.len
 have A2 := A1.trans a2
 have f2 : s.1 < (zx T (⟨#[58]⟩ : ByteArray) (zz T s)).1 := Nat.lt_of_lt_of_le z1 a2.le
 obtain ⟨q3, e3, g3⟩ := call H hr (.typeExpr) A2 (odt rfl) (odt rfl) (.inl f2) (zap _ _ rfl rfl trivial)
 obtain ⟨n3, a3, k3, w3⟩ := g3.add rfl
 obtain ⟨c3, k3, p3⟩ := zv k3
 have A3 := A2.trans a3
 have f3 : s.1 < (q3.2).1 := Nat.lt_of_lt_of_le f2 a3.le
 refine ⟨(false, q3.2), by simp only [step, sqL, st, Option.bind_some, e3], ⟨fun _ => ⟨_, A3.more (odt rfl) (odt rfl), ?_, ?_⟩, fun h => (by cases h), fun h => ?_⟩⟩
 ·show K .fieldDeclB _ _ _ = true
  rw [zaa, zaa, i1, hn.i rfl]
  simp only [zr, k1, k2, k3, p3, List.nil_append, List.append_nil, List.cons_append, K, zb7, twoK, oneK, zcd, fnK, optK, zaa, zb6, Bool.and_true, Bool.true_and, Bool.true_or, Bool.or_true]
 ·exact fun h => (by cases h)
 ·exact f3
theorem zrx (hT : T.length ≤ 2000) (hG : zaf T) (H : Can T r (mu T .methodB s)) (hn : Need T .methodB s) (hs : s.1 ≤ T.length) (hr : room T .methodB s) : ∃ q, step T r .methodB s = some q ∧ zaz T .methodB s q := by
 obtain ⟨n1, a1, k1, i1, z1, l1⟩ := zak hG hs (hn.c rfl)
 have A1 := a1
 obtain ⟨q2, e2, g2⟩ := call H hr (.function false) A1 (odt rfl) (odt rfl) (.inl z1) (zap _ _ rfl rfl trivial)
 obtain ⟨n2, a2, k2, w2⟩ := g2.add rfl
 have A2 := A1.trans a2
 have f2 : s.1 < (q2.2).1 := Nat.lt_of_lt_of_le z1 a2.le
 refine ⟨(false, q2.2), by simp only [step, sqL, st, Option.bind_some, e2], ⟨fun _ => ⟨_, A2.more (odt rfl) (odt rfl), ?_, ?_⟩, fun h => (by cases h), fun h => ?_⟩⟩
 ·show K .methodB _ _ _ = true
  simp only [zr, k1, k2, List.nil_append, List.append_nil, List.cons_append, K, zb7, twoK, oneK, zcd, fnK, optK, zaa, zb6, Bool.and_true, Bool.true_and, Bool.true_or, Bool.or_true]; exact k2
 ·exact fun h => (by cases h)
 ·exact f2
theorem zv0 (hT : T.length ≤ 2000) (hG : zaf T) (H : Can T r (mu T .assocB s)) (hn : Need T .assocB s) (hs : s.1 ≤ T.length) (hr : room T .assocB s) : ∃ q, step T r .assocB s = some q ∧ zaz T .assocB s q := by
 obtain ⟨n1, a1, k1, i1, z1, l1⟩ := zak hG hs (hn.c rfl)
 have A1 := a1
 obtain ⟨n2, a2, k2, z2⟩ := zbx hG A1.len
 have A2 := A1.trans a2
 have f2 : s.1 < (zao T (zz T s)).1 := Nat.lt_of_lt_of_le z1 a2.le
 obtain ⟨q3, e3, g3⟩ := call H hr (.opt (⟨#[61]⟩ : ByteArray) .typeExpr) A2 (odt rfl) (odt rfl) (.inl f2) (zap _ _ rfl rfl rfl)
 obtain ⟨n3, a3, k3, w3⟩ := g3.add rfl
 obtain ⟨c3, k3, p3⟩ := zv k3
 have p3 : orK isTy 0 c3 = true := p3
 have A3 := A2.trans a3
 have f3 : s.1 < (q3.2).1 := Nat.lt_of_lt_of_le f2 a3.le
 obtain ⟨n4, a4, k4, z4⟩ := zaq hG (⟨#[59]⟩ : ByteArray) A3.len
 have A4 := A3.trans a4
 have f4 : s.1 < (zx T (⟨#[59]⟩ : ByteArray) (q3.2)).1 := Nat.lt_of_lt_of_le f3 a4.le
 refine ⟨(false, zx T (⟨#[59]⟩ : ByteArray) (q3.2)), by simp only [step, sqL, st, Option.bind_some, e3], ⟨fun _ => ⟨_, A4.more (odt rfl) (odt rfl), ?_, ?_⟩, fun h => (by cases h), fun h => ?_⟩⟩
 ·show K .assocB _ _ _ = true
  simp only [zr, k1, k2, k3, p3, k4, List.nil_append, List.append_nil, List.cons_append, K, zb7, twoK, oneK, zcd, fnK, optK, zaa, zb6, Bool.and_true, Bool.true_and, Bool.true_or, Bool.or_true]
 ·exact fun h => (by cases h)
 ·exact f4
theorem zy5 (hT : T.length ≤ 2000) (hG : zaf T) (H : Can T r (mu T .refB s)) (hn : Need T .refB s) (hs : s.1 ≤ T.length) (hr : room T .refB s) : ∃ q, step T r .refB s = some q ∧ zaz T .refB s q := by
 obtain ⟨n1, a1, k1, i1, z1, l1⟩ := zak hG hs (hn.c rfl)
 have A1 := a1
 obtain ⟨n2, a2, k2⟩ := zky hG [(⟨#[109, 117, 116]⟩ : ByteArray)] A1.len
 have A2 := A1.trans a2
 have f2 : s.1 < (zbq T (zz T s) [(⟨#[109, 117, 116]⟩ : ByteArray)]).1 := Nat.lt_of_lt_of_le z1 a2.le
 obtain ⟨q3, e3, g3⟩ := call H hr (.typeExpr) A2 (odt rfl) (odt rfl) (.inl f2) (zap _ _ rfl rfl trivial)
 obtain ⟨n3, a3, k3, w3⟩ := g3.add rfl
 obtain ⟨c3, k3, p3⟩ := zv k3
 have A3 := A2.trans a3
 have f3 : s.1 < (q3.2).1 := Nat.lt_of_lt_of_le f2 a3.le
 refine ⟨(false, q3.2), by simp only [step, sqL, st, Option.bind_some, e3], ⟨fun _ => ⟨_, A3.more (odt rfl) (odt rfl), ?_, ?_⟩, fun h => (by cases h), fun h => ?_⟩⟩
 ·show K .refB _ _ _ = true
  simp only [zr, k1, k2, k3, p3, List.nil_append, List.append_nil, List.cons_append, K, zb7, twoK, oneK, zcd, fnK, optK, zaa, zb6, Bool.and_true, Bool.true_and, Bool.true_or, Bool.or_true]
 ·exact fun h => (by cases h)
 ·exact f3
theorem znn (hT : T.length ≤ 2000) (hG : zaf T) (H : Can T r (mu T .funcTypeB s)) (hn : Need T .funcTypeB s) (hs : s.1 ≤ T.length) (hr : room T .funcTypeB s) : ∃ q, step T r .funcTypeB s = some q ∧ zaz T .funcTypeB s q := by
 obtain ⟨n1, a1, k1, i1, z1, l1⟩ := zak hG hs (hn.c rfl)
 have A1 := a1
 obtain ⟨n2, a2, k2, z2⟩ := zaq hG (⟨#[40]⟩ : ByteArray) A1.len
 have A2 := A1.trans a2
 have f2 : s.1 < (zx T (⟨#[40]⟩ : ByteArray) (zz T s)).1 := Nat.lt_of_lt_of_le z1 a2.le
 obtain ⟨q3, e3, g3⟩ := call H hr (.list (⟨#[41]⟩ : ByteArray) .typeExpr) A2 (odt rfl) (odt rfl) (.inl f2) (zap _ _ rfl rfl rfl)
 obtain ⟨n3, a3, k3, w3⟩ := g3.add rfl
 have k3 := zok k3 (fun _ h => zpk h)
 have A3 := A2.trans a3
 have f3 : s.1 < (q3.2).1 := Nat.lt_of_lt_of_le f2 a3.le
 obtain ⟨q4, e4, g4⟩ := call H hr (.opt (⟨#[45, 62]⟩ : ByteArray) .typeExpr) A3 (odt rfl) (odt rfl) (.inl f3) (zap _ _ rfl rfl rfl)
 obtain ⟨n4, a4, k4, w4⟩ := g4.add rfl
 obtain ⟨c4, k4, p4⟩ := zv k4
 have p4 : orK isTy 0 c4 = true := p4
 have A4 := A3.trans a4
 have f4 : s.1 < (q4.2).1 := Nat.lt_of_lt_of_le f3 a4.le
 refine ⟨(false, q4.2), by simp only [step, sqL, st, Option.bind_some, e3, e4], ⟨fun _ => ⟨_, A4.more (odt rfl) (odt rfl), ?_, ?_⟩, fun h => (by cases h), fun h => ?_⟩⟩
 ·show K .funcTypeB _ _ _ = true
  simp only [zr, k1, k2, k3, k4, p4, List.nil_append, List.append_nil, List.cons_append, K, zb7, twoK, oneK, zcd, fnK, optK, zaa, zb6, Bool.and_true, Bool.true_and, Bool.true_or, Bool.or_true]
  exact zte k3 p4
 ·exact fun h => (by cases h)
 ·exact f4
theorem zpz {kind : Int} (hT : T.length ≤ 2000) (hG : zaf T) (H : Can T r (mu T (.dataType kind) s)) (hn : Need T (.dataType kind) s) (hs : s.1 ≤ T.length) (hr : room T (.dataType kind) s) : ∃ q, step T r (.dataType kind) s = some q ∧ zaz T (.dataType kind) s q := by
 obtain ⟨n1, a1, k1, z1⟩ := zbx hG hs
 have A1 := a1
 obtain ⟨q2, e2, g2⟩ := call H hr (.typeParams) A1 (odt rfl) (odt rfl) (.inr (by simp [zan, rank])) (zap _ _ rfl rfl trivial)
 obtain ⟨n2, a2, k2, w2⟩ := g2.add rfl
 obtain ⟨c2, k2, p2⟩ := zv k2
 have A2 := A1.trans a2
 obtain ⟨n3, a3, k3, z3⟩ := zaq hG (⟨#[123]⟩ : ByteArray) A2.len
 have A3 := A2.trans a3
 obtain ⟨q4, e4, g4⟩ := call H hr (.list (⟨#[125]⟩ : ByteArray) (.dataE kind)) A3 (odt rfl) (odt rfl) (.inr (by simp [zan, rank])) (zap _ _ rfl rfl (show zh4 (.dataE kind) = true by unfold zh4; rcases hn.x with h | h <;> subst h <;> rfl))
 obtain ⟨n4, a4, k4, w4⟩ := g4.add rfl
 have A4 := A3.trans a4
 refine ⟨(false, q4.2), by simp only [step, sqL, st, Option.bind_some, e2, e4], ⟨fun _ => ⟨_, A4.more (odt rfl) (odt rfl), ?_, ?_⟩, fun h => (by cases h), fun h => ?_⟩⟩
 ·show K (.dataType kind) _ _ _ = true
  simp only [zr, k1, k2, p2, k3, k4, List.nil_append, List.append_nil, List.cons_append, K, zb7, twoK, oneK, zcd, fnK, optK, zaa, zb6, Bool.and_true, Bool.true_and, Bool.true_or, Bool.or_true]
  unfold zxy
  rw [Bool.and_eq_true]
  exact ⟨p2, k4⟩
 ·exact fun h => (by cases h)
 ·cases h
theorem zrz (hT : T.length ≤ 2000) (hG : zaf T) (H : Can T r (mu T .members s)) (hn : Need T .members s) (hs : s.1 ≤ T.length) (hr : room T .members s) : ∃ q, step T r .members s = some q ∧ zaz T .members s q := by
 obtain ⟨n1, a1, k1, z1⟩ := zaq hG (⟨#[123]⟩ : ByteArray) hs
 have A1 := a1
 obtain ⟨q2, e2, g2⟩ := call H hr (.membersLoop) A1 (odt rfl) (odt rfl) (.inr (by simp [zan, rank])) (zap _ _ rfl rfl trivial)
 obtain ⟨n2, a2, k2, w2⟩ := g2.add rfl
 have A2 := A1.trans a2
 obtain ⟨n3, a3, k3, z3⟩ := zaq hG (⟨#[125]⟩ : ByteArray) A2.len
 have A3 := A2.trans a3
 refine ⟨(false, zx T (⟨#[125]⟩ : ByteArray) (q2.2)), by simp only [step, sqL, st, Option.bind_some, e2], ⟨fun _ => ⟨_, A3.more (odt rfl) (odt rfl), ?_, ?_⟩, fun h => (by cases h), fun h => ?_⟩⟩
 ·show K .members _ _ _ = true
  simp only [zr, k1, k2, k3, List.nil_append, List.append_nil, List.cons_append, K, zb7, twoK, oneK, zcd, fnK, optK, zaa, zb6, Bool.and_true, Bool.true_and, Bool.true_or, Bool.or_true]; exact k2
 ·exact fun h => (by cases h)
 ·cases h
theorem zy {x : NT} {q : Bool × St} {z g : Int} {ns : List Tree} (hre : repl x = false) (A : Adv T s q.2 z g ns) (hz : z ≤ Zc T x s.1) (hg : Gc T x s.1 ≤ g) (k : K x q.1 (nk ns) (zb6 ns) = true) (sg : zi1 x = true → ns.length ≤ 1) (fw : ze4 x = true → s.1 < q.2.1) : zaz T x s q :=
 ⟨fun _ => ⟨ns, A.more hz hg, k, sg⟩, fun h => (by rw [hre] at h; cases h), fw⟩
theorem zc0 (T : List Tok) (x : NT) (p : Nat) : -100 ≤ Zc T x p := by cases x <;> simp only [Zc] <;> (try split) <;> decide
theorem zaz.as {x y : NT} {q : Bool × St} (g : zaz T y s q) (h1 : repl y = false) (h2 : repl x = false) (hz : Zc T y s.1 ≤ Zc T x s.1 ∨ ze4 y = true) (hg : Gc T x s.1 ≤ Gc T y s.1) (hK : ∀ a ks id, K y a ks id = true → K x a ks id = true) (hs : zi1 x = true → zi1 y = true) (fw : ze4 x = true → s.1 < q.2.1) : zaz T x s q := by
 obtain ⟨ns, a, k, w⟩ := g.add h1
 rcases hz with hz | hz
 ·exact zy h2 a hz hg (hK _ _ _ k) (fun h => w (hs h)) fw
 ·exact zy h2 (a.fwd (g.fwd hz)) (zc0 _ _ _) hg (hK _ _ _ k) (fun h => w (hs h)) fw
theorem zy9 (hT : T.length ≤ 2000) {x : NT} (H : Can T r (mu T x s)) (hs : s.1 ≤ T.length) (kind : Int) (y : NT) (he : step T r x s = zbt kind (r y) s) (hk : zan T y s.1 < zan T x s.1) (hy : ∀ ks, Need T y (s.1, ks)) (hre : repl y = false) (hkk : kind < 100)
  (hK : ∀ a ks id, K y a ks id = true → loc kind ks id = true) (hx : repl x = false) (hz : Zc T y s.1 + 1 ≤ Zc T x s.1) (hg : Gc T x s.1 ≤ Gc T y s.1 - 1) (hKx : ∀ id, K x false [kind] id = true) (hf : ze4 x = true → ze4 y = true) : ∃ q, step T r x s = some q ∧ zaz T x s q := by
 obtain ⟨q, t, e, a, k, z⟩ := zgj hT H kind y (Nat.le_refl _) hs (.inr hk) hy hre hkk hK
 exact ⟨(false, q), he.trans e, zy hx a hz hg (by rw [k]; exact hKx _) (fun _ => by simp) (fun h => z (hf h))⟩
theorem zhk (kind : Int) (h : ∀ id, loc kind [] id = true) : ∀ (a : Bool) (ks : List Int) (id : Bool), ks.isEmpty = true → loc kind ks id = true := by
 intro a ks id hk
 rw [zqv hk]
 exact h id
theorem adv0 {x : NT} (hre : repl x = false) (hs : s.1 ≤ T.length) (a : Bool) (k : K x a [] false = true) (fw : ze4 x = false) (hz : 0 ≤ Zc T x s.1) (hg : Gc T x s.1 ≤ 100) : zaz T x s (a, s) :=
 zy hre (Adv.refl hs) hz hg k (fun _ => Nat.zero_le _) (fun h => by rw [fw] at h; cases h)
theorem zx0 (hT : T.length ≤ 2000) (H : Can T r (mu T .block s)) (hs : s.1 ≤ T.length) : ∃ q, step T r .block s = some q ∧ zaz T .block s q :=
 zy9 hT H hs 21 .blockB rfl (by simp only [zan]; split <;> omega) (fun _ => zap _ _ rfl rfl trivial) rfl (by decide) (fun _ _ _ h => h) rfl (by simp only [Zc]; split <;> decide) (by simp only [Gc]; split <;> decide) (fun _ => rfl) (fun h => (by cases h))
theorem zvs (hG : zaf T) (H : Can T r (mu T .blockB s)) (hs : s.1 ≤ T.length) (hr : room T .blockB s) : ∃ q, step T r .blockB s = some q ∧ zaz T .blockB s q := by
 obtain ⟨n1, a1, k1, z1⟩ := zaq hG (⟨#[123]⟩ : ByteArray) hs
 have a1 : Adv T s (zx T (⟨#[123]⟩ : ByteArray) s) (if atT T s.1 [(⟨#[123]⟩ : ByteArray)] = true then -100 else 1) 29 n1 := by
  split
  ·rename_i ha
   exact a1.fwd (z1 ha)
  ·exact a1
 obtain ⟨q2, e2, g2⟩ := call H hr .stmts a1 (by split <;> decide) (by decide) (by
  cases ha : atT T s.1 [(⟨#[123]⟩ : ByteArray)] with
  | true => exact .inl (z1 ha)
  | false => exact .inr (by simp only [zan, ha]; decide)) (zap _ _ rfl rfl trivial)
 obtain ⟨n2, a2, k2, _⟩ := g2.add rfl
 have A2 := a1.trans a2
 have hstep : step T r .blockB s = some (false, zx T (⟨#[125]⟩ : ByteArray) (if q2.1 = true then q2.2 else ze0 q2.2)) := by simp only [step, e2, Option.bind_some]
 cases hq : q2.1 with
 | true =>
  rw [hq, if_pos rfl] at hstep
  rw [hq] at k2
  obtain ⟨n3, a3, k3, _⟩ := zaq hG (⟨#[125]⟩ : ByteArray) A2.len
  refine ⟨_, hstep, zy rfl (A2.trans a3) (by cases ha : atT T s.1 [(⟨#[123]⟩ : ByteArray)] <;> simp only [Zc, Gc, ha, if_true, if_false, reduceIte, Bool.false_eq_true] <;> decide) (by cases ha : atT T s.1 [(⟨#[123]⟩ : ByteArray)] <;> simp only [Zc, Gc, ha, if_true, if_false, reduceIte, Bool.false_eq_true] <;> decide) ?_ (fun h => (by cases h)) (fun h => (by cases h))⟩
  simp only [zr, k1, k3, List.nil_append, List.append_nil]
  change ziz true (nk n2) = true at k2
  unfold ziz at k2
  rw [if_pos rfl, Bool.and_eq_true] at k2
  show blkK (nk n2) = true
  unfold blkK
  rw [Bool.and_eq_true]
  refine ⟨k2.1, ?_⟩
  have h2 := k2.2
  cases hl : (nk n2).getLast? with
  | none => rw [hl] at h2; cases h2
  | some k => rw [hl] at h2; simp only [Bool.or_eq_true]; exact .inl h2
 | false =>
  rw [hq, if_neg (by decide)] at hstep
  rw [hq] at k2
  have a4 := zf8 A2.len
  have A4 := A2.trans a4
  obtain ⟨n3, a3, k3, _⟩ := zaq hG (⟨#[125]⟩ : ByteArray) A4.len
  refine ⟨_, hstep, zy rfl (A4.trans a3) (by cases ha : atT T s.1 [(⟨#[123]⟩ : ByteArray)] <;> simp only [Zc, Gc, ha, if_true, if_false, reduceIte, Bool.false_eq_true] <;> decide) (by cases ha : atT T s.1 [(⟨#[123]⟩ : ByteArray)] <;> simp only [Zc, Gc, ha, if_true, if_false, reduceIte, Bool.false_eq_true] <;> decide) ?_ (fun h => (by cases h)) (fun h => (by cases h))⟩
  simp only [zr, k1, k3, List.nil_append, List.append_nil]
  show blkK (nk n2 ++ [0]) = true
  have h2 : (nk n2).all isSt = true := k2
  unfold blkK
  rw [List.dropLast_concat, h2, List.getLast?_concat]
  rfl
theorem zwg (H : Can T r (mu T .stmts s)) (hs : s.1 ≤ T.length) (hr : room T .stmts s) : ∃ q, step T r .stmts s = some q ∧ zaz T .stmts s q := by
 simp only [step]
 split
 ·rename_i hc
  simp only [Bool.and_eq_true, Bool.not_eq_true'] at hc
  obtain ⟨q1, e1, g1⟩ := call H hr .statement (Adv.refl hs) (odt rfl) (odt rfl) (.inr (by simp [zan, rank])) (zb8 _ _ hc.1.2 rfl trivial)
  obtain ⟨n1, a1, k1, w1⟩ := g1.add rfl
  have f1 : s.1 < q1.2.1 := g1.fwd rfl
  have A1 := a1.fwd f1
  rw [e1, Option.bind_some]
  cases hq : q1.1 with
  | true =>
   rw [if_pos rfl]
   rw [hq] at k1
   obtain ⟨c, kc, pc⟩ := zv (show oneK isE (nk n1) = true from k1)
   refine ⟨_, rfl, zy rfl A1 (odt rfl) (odt rfl) ?_ (fun h => (by cases h)) (fun h => (by cases h))⟩
   rw [kc]
   simp [K, ziz, pc]
  | false =>
   rw [if_neg (by decide)]
   rw [hq] at k1
   obtain ⟨c, kc, pc⟩ := zv (show oneK isSt (nk n1) = true from k1)
   obtain ⟨q2, e2, g2⟩ := call H hr .stmts A1 (odt rfl) (odt rfl) (.inl f1) (zap _ _ rfl rfl trivial)
   obtain ⟨n2, a2, k2, _⟩ := g2.add rfl
   refine ⟨_, e2, zy rfl (A1.trans a2) (odt rfl) (odt rfl) ?_ (fun h => (by cases h)) (fun h => (by cases h))⟩
   rw [zr, kc, List.singleton_append]
   change ziz q2.1 (nk n2) = true at k2
   show ziz q2.1 (c :: nk n2) = true
   unfold ziz at k2 ⊢
   cases hb : q2.1 with
   | true =>
    rw [hb, if_pos rfl, Bool.and_eq_true] at k2
    rw [if_pos rfl, Bool.and_eq_true]
    have hne : nk n2 ≠ [] := by
     intro h0
     rw [h0] at k2
     cases k2.2
    rw [List.dropLast_cons_of_ne_nil hne, List.all_cons, pc, k2.1]
    refine ⟨rfl, ?_⟩
    rw [List.getLast?_cons, List.getLast?_eq_some_getLast hne]
    have := k2.2
    rw [List.getLast?_eq_some_getLast hne] at this
    exact this
   | false =>
    rw [hb, if_neg (by decide)] at k2
    rw [if_neg (by decide), List.all_cons, pc, k2]
    rfl
 ·exact ⟨_, rfl, adv0 rfl hs _ rfl rfl (odt rfl) (odt rfl)⟩
theorem zyr (hT : T.length ≤ 2000) {x : NT} (H : Can T r (mu T x s)) (kind : Int) (y : NT) {s' : St} {z g : Int} {ns : List Tree} (A : Adv T s s' z g ns) {c : Int} (hl : ns.length ≤ 1) (hk1 : nk ns = [c]) (hc : c < 100) (hk : s.1 < s'.1 ∨ zan T y s'.1 < zan T x s.1) (hy : ∀ ks, Need T y (s'.1, ks)) (hre : repl y = false) (hkk : kind < 100)
  (hK : ∀ a ks id, K y a ks id = true → loc kind (c :: ks) id = true) : ∃ q t, ze9 kind (r y) s' = some (false, q) ∧ Adv T s q (z + (Zc T y s'.1 + 1)) (min (min (g - (Zc T y s'.1 + 1)) (Gc T y s'.1 - 1 - z)) (g + (Gc T y s'.1 - 1))) [t] ∧ nk [t] = [kind] ∧ s'.1 ≤ q.1 ∧ (ze4 y = true → s'.1 < q.1) := by
 match ns, hl, hk1, A with
 | [], _, h, _ => cases h
 | [t], _, h, A =>
  have ht : t.kind = c := by
   simp only [nk] at h
   split at h
   ·simpa using h
   ·cases h
  obtain ⟨q, t', e, b1, b2, b3, b4, b5, b6, b8, b7⟩ := zs7 hT H kind y (s' := s') A.row (A.ok.1) (by omega) A.le A.len hk hy hre hkk (fun a ks id h => by rw [ht]; exact hK a ks id h)
  refine ⟨q, t', e, ?_, ?_, b1, b7⟩
  ·have := Adv.rep (ns := []) A b1 b2 A.row b3 b4 b6 b8
   simpa using this
  ·simp [nk, b5, hkk]
 | _ :: _ :: _, h, _, _ => simp at h
theorem zmn (hT : T.length ≤ 2000) (hG : zaf T) (H : Can T r (mu T .statement s)) (hn : Need T .statement s) (hs : s.1 ≤ T.length) (hr : room T .statement s) : ∃ q, step T r .statement s = some q ∧ zaz T .statement s q := by
 have hne := hn.c rfl
 simp only [step]
 split
 ·obtain ⟨q, t, e, a, k, z⟩ := zgj hT H 22 .letS (Nat.le_refl _) hs (.inr (by simp [zan, rank])) (fun _ => zb8 _ _ hne rfl trivial) rfl (by decide) (fun _ _ _ h => h)
  exact ⟨_, e, zy rfl (a.fwd (z rfl)) (odt rfl) (odt rfl) (by rw [k]; rfl) (fun _ => by simp) (fun _ => z rfl)⟩
 split
 ·obtain ⟨q, t, e, a, k, z⟩ := zgj hT H 24 .whileB (Nat.le_refl _) hs (.inr (by simp [zan, rank])) (fun _ => zb8 _ _ hne rfl trivial) rfl (by decide) (fun _ _ _ h => h)
  exact ⟨_, e, zy rfl (a.fwd (z rfl)) (odt rfl) (odt rfl) (by rw [k]; rfl) (fun _ => by simp) (fun _ => z rfl)⟩
 split
 ·obtain ⟨q, t, e, a, k, z⟩ := zgj hT H 25 .returnS (Nat.le_refl _) hs (.inr (by simp [zan, rank])) (fun _ => zb8 _ _ hne rfl trivial) rfl (by decide) (fun _ _ _ h => h)
  exact ⟨_, e, zy rfl (a.fwd (z rfl)) (odt rfl) (odt rfl) (by rw [k]; rfl) (fun _ => by simp) (fun _ => z rfl)⟩
 have hq : ∃ q, (if atT T s.1 [(⟨#[105, 102]⟩ : ByteArray), (⟨#[109, 97, 116, 99, 104]⟩ : ByteArray), (⟨#[123]⟩ : ByteArray)] = true then r .primary s else r .expr s) = some q ∧ ∃ n1, Adv T s q.2 4 19 n1 ∧ oneK isE (nk n1) = true ∧ n1.length ≤ 1 := by
  split
  ·obtain ⟨q1, e1, g1⟩ := call H hr .primary (Adv.refl hs) (odt rfl) (odt rfl) (.inr (by simp [zan, rank])) (zap _ _ rfl rfl trivial)
   obtain ⟨n1, a1, k1, w1⟩ := g1.add rfl
   exact ⟨q1, e1, n1, a1, k1, w1 rfl⟩
  ·obtain ⟨q1, e1, g1⟩ := call H hr .expr (Adv.refl hs) (odt rfl) (odt rfl) (.inr (by simp [zan, rank])) (zap _ _ rfl rfl trivial)
   obtain ⟨n1, a1, k1, w1⟩ := g1.add rfl
   exact ⟨q1, e1, n1, a1, k1, w1 rfl⟩
 obtain ⟨q1, e1, n1, a1, k1, w1⟩ := hq
 rw [e1, Option.bind_some]
 obtain ⟨c, kc, pc⟩ := zv k1
 have hc := zko pc
 split
 ·rename_i heq
  match n1, w1, kc, a1 with
  | [], _, h, _ => cases h
  | [t], _, _, a1 =>
   have hrow : q1.2.2 = s.2 ++ [t] := a1.row
   rw [hrow, List.getLast?_concat]
   simp only [List.dropLast_concat]
   obtain ⟨u1, u2⟩ := zol (T := T) hG (s := (q1.2.1, s.2)) (by rw [heq]; exact hs)
   have hss : (q1.2.1, s.2) = s := by rw [heq]
   have u2' : s.1 < (zes T (q1.2.1, s.2)).1 := by
    have := u2 (by rw [heq]; exact hne)
    rw [hss] at this ⊢
    exact this
   refine ⟨_, rfl, zy rfl (z := -100) (g := 28) (ns := [.mk 46 zj (zz T (s.1, [])).2]) (Adv.fwd (z := 1) ?_ u2') (odt rfl) (odt rfl) rfl (fun _ => by simp) (fun _ => u2')⟩
   rw [hss] at u1 ⊢
   exact u1
  | _ :: _ :: _, h, _, _ => simp at h
 ·rename_i hne2
  have f1 : s.1 < q1.2.1 := by have := a1.le; omega
  split
  ·exact ⟨_, rfl, zy rfl (a1.fwd f1) (odt rfl) (odt rfl) (show oneK isE (nk n1) = true from k1) (fun _ => w1) (fun _ => f1)⟩
  split
  ·rename_i hat
   obtain ⟨q, t, e, a, k, z1, z⟩ := zyr hT H 23 .assignB (a1.fwd f1) w1 kc hc (.inl f1) (fun _ => zb8 _ _ (za1 hat) rfl trivial) rfl (by decide) (fun _ ks _ h => by
    obtain ⟨d, rfl, pd⟩ := zv (show oneK isE ks = true from h)
    show twoK isE isE [c, d] = true
    simp [twoK, pc, pd])
   exact ⟨_, e, zy rfl a (odt rfl) (odt rfl) (by rw [k]; rfl) (fun _ => by simp) (fun _ => Nat.lt_of_lt_of_le f1 z1)⟩
  ·obtain ⟨q, t, e, a, k, z1, z⟩ := zyr hT H 26 (.exprStmtB (atT T s.1 [(⟨#[105, 102]⟩ : ByteArray), (⟨#[109, 97, 116, 99, 104]⟩ : ByteArray), (⟨#[123]⟩ : ByteArray)])) (a1.fwd f1) w1 kc hc (.inl f1) (fun _ => zap _ _ rfl rfl trivial) rfl (by decide) (fun _ ks _ h => by
    rw [zqv h]
    exact pc)
   exact ⟨_, e, zy rfl a (odt rfl) (odt rfl) (by rw [k]; rfl) (fun _ => by simp) (fun _ => Nat.lt_of_lt_of_le f1 z1)⟩
theorem zrh (hG : zaf T) (H : Can T r (mu T .returnS s)) (hn : Need T .returnS s) (hs : s.1 ≤ T.length) (hr : room T .returnS s) : ∃ q, step T r .returnS s = some q ∧ zaz T .returnS s q := by
 obtain ⟨n1, a1, k1, i1, z1, l1⟩ := zak hG hs (hn.c rfl)
 simp only [step, sqL, st, Option.bind_some]
 split
 ·rw [Option.bind_some]
  have a2 := zf8 a1.len
  have A2 := a1.trans a2
  obtain ⟨n3, a3, k3, _⟩ := zaq hG (⟨#[59]⟩ : ByteArray) A2.len
  refine ⟨_, rfl, zy rfl (A2.trans a3) (odt rfl) (odt rfl) ?_ (fun h => (by cases h)) (fun _ => Nat.lt_of_lt_of_le z1 (a2.trans a3).le)⟩
  simp only [zr, k1, k3]
  rfl
 ·obtain ⟨q2, e2, g2⟩ := call H hr .expr a1 (odt rfl) (odt rfl) (.inl z1) (zap _ _ rfl rfl trivial)
  obtain ⟨n2, a2, k2, w2⟩ := g2.add rfl
  obtain ⟨c, kc, pc⟩ := zv (show oneK isE (nk n2) = true from k2)
  rw [e2, Option.bind_some]
  have A2 := a1.trans a2
  obtain ⟨n3, a3, k3, _⟩ := zaq hG (⟨#[59]⟩ : ByteArray) A2.len
  refine ⟨_, rfl, zy rfl (A2.trans a3) (odt rfl) (odt rfl) ?_ (fun h => (by cases h)) (fun _ => Nat.lt_of_lt_of_le z1 (a2.trans a3).le)⟩
  simp only [zr, k1, k3, kc]
  simp [K, oneK, orK, pc]
theorem znr (hG : zaf T) {bl : Bool} (hs : s.1 ≤ T.length) : ∃ q, step T r (.exprStmtB bl) s = some q ∧ zaz T (.exprStmtB bl) s q := by
 simp only [step]
 split
 ·obtain ⟨n1, a1, k1, i1, z1, l1⟩ := zcw hG hs
  exact ⟨_, rfl, zy rfl a1 (odt rfl) (odt rfl) (by rw [k1]; rfl) (fun h => (by cases h)) (fun h => (by cases h))⟩
 split
 ·exact ⟨_, rfl, adv0 rfl hs _ rfl rfl (odt rfl) (odt rfl)⟩
 ·exact ⟨_, rfl, zy rfl (zgq hs) (odt rfl) (odt rfl) rfl (fun h => (by cases h)) (fun h => (by cases h))⟩
theorem zzr (H : Can T r (mu T .expr s)) (hs : s.1 ≤ T.length) (hr : room T .expr s) : ∃ q, step T r .expr s = some q ∧ zaz T .expr s q := by
 obtain ⟨q1, e1, g1⟩ := call H hr (.binary 0) (Adv.refl hs) (odt rfl) (odt rfl) (.inr (by simp [zan, rank])) (zap _ _ rfl rfl (Nat.zero_le _))
 exact ⟨q1, e1, g1.as rfl rfl (.inl (odt rfl)) (odt rfl) (fun _ _ _ h => h) (fun _ => rfl) (fun h => (by cases h))⟩
theorem Rep.adv {s0 s s' : St} {z g : Int} {ns : List Tree} {c : Int} (A : Adv T s0 s z g ns) (hl : ns.length ≤ 1) (hk : nk ns = [c]) {pre : List Tree} {t t' : Tree} (R : Rep T s s' pre t t') : ∃ c', Adv T s0 s' (z + 0) (min (min (g - 0) (24 - z)) (g + 24)) [t'] ∧ nk [t'] = [c'] ∧ isE c' = true := by
 have hc' : t'.kind < 100 := zko R.kind
 match ns, hl, hk, A with
 | [], _, h, _ => cases h
 | [u], _, h, A =>
  have h1 := A.row
  rw [R.was] at h1
  have h2 := List.append_inj_right' h1 rfl
  have h3 : t = u := by simpa using h2
  subst h3
  have := Adv.rep (ns := []) A R.le R.len R.was R.now R.ok R.toks R.few
  exact ⟨t'.kind, by simpa using this, by simp [nk, hc'], R.kind⟩
 | _ :: _ :: _, h, _, _ => simp at h
theorem ztl {s0 s : St} {z g : Int} {ns : List Tree} {c : Int} (A : Adv T s0 s z g ns) (hl : ns.length ≤ 1) (hk : nk ns = [c]) (hc : isE c = true) : Tail s := by
 match ns, hl, hk, A with
 | [], _, h, _ => cases h
 | [u], _, h, A =>
  refine ⟨s0.2, u, A.row, A.ok.1, ?_⟩
  simp only [nk] at h
  split at h
  ·have : u.kind = c := by simpa using h
   rw [this]
   exact hc
  ·cases h
 | _ :: _ :: _, h, _, _ => simp at h
theorem zvw {l : Nat} (H : Can T r (mu T (.binary l) s)) (hn : Need T (.binary l) s) (hs : s.1 ≤ T.length) (hr : room T (.binary l) s) : ∃ q, step T r (.binary l) s = some q ∧ zaz T (.binary l) s q := by
 have hl : l ≤ 5 := hn.x
 simp only [step]
 split
 ·rename_i h5
  subst h5
  obtain ⟨q1, e1, g1⟩ := call H hr .unary (Adv.refl hs) (odt rfl) (odt rfl) (.inr (by simp [zan, rank])) (zap _ _ rfl rfl trivial)
  exact ⟨q1, e1, g1.as rfl rfl (.inl (odt rfl)) (odt rfl) (fun _ _ _ h => h) (fun _ => rfl) (fun h => (by cases h))⟩
 ·rename_i h5
  obtain ⟨q1, e1, g1⟩ := call H hr (.binary (l + 1)) (Adv.refl hs) (odt rfl) (odt rfl) (.inr (by simp [zan, rank]; omega)) (zap _ _ rfl rfl (show l + 1 ≤ 5 by omega))
  obtain ⟨n1, a1, k1, w1⟩ := g1.add rfl
  obtain ⟨c, kc, pc⟩ := zv (show oneK isE (nk n1) = true from k1)
  obtain ⟨q2, e2, g2⟩ := call H hr (.binLoop l) a1 (odt rfl) (odt rfl) (.inr (by simp [zan, rank]; omega)) (zap _ _ rfl rfl (show l ≤ 4 ∧ Tail _ from ⟨by omega, ztl a1 (w1 rfl) kc pc⟩))
  obtain ⟨pre, t, t', R⟩ := g2.rep rfl
  obtain ⟨c', A, k, p⟩ := R.adv a1 (w1 rfl) kc
  refine ⟨(false, q2.2), by simp only [sqL, e1, e2, Option.bind_some], zy rfl A (odt rfl) (odt rfl) ?_ (fun _ => by simp) (fun h => (by cases h))⟩
  rw [k]
  exact p
theorem zl7 {p p' : Nat} {t t' : Tree} {z g : Int} (h : Cnt p p' t t' z g) (hf : p < p') (hg : 24 ≤ g) : Cnt p p' t t' 0 24 := by
 unfold Cnt at h ⊢
 rcases h with ⟨a1, a2⟩ | ⟨a1, a2⟩
 ·omega
 ·exact .inr ⟨a1, by omega⟩
theorem zoa {p p1 p2 : Nat} {t t1 t2 : Tree} (h : Cnt p p1 t t1 0 24) (k : Cnt p1 p2 t1 t2 0 24) : Cnt p p2 t t2 0 24 := by
 unfold Cnt at h k ⊢
 rcases h with ⟨a1, a2⟩ | ⟨a1, a2⟩ <;> rcases k with ⟨b1, b2⟩ | ⟨b1, b2⟩
 ·exact .inl ⟨by omega, by omega⟩
 ·exact .inr ⟨by omega, by omega⟩
 ·exact .inr ⟨by omega, by omega⟩
 ·exact .inr ⟨by omega, by omega⟩
theorem zs0 (hT : T.length ≤ 2000) {l : Nat} (H : Can T r (mu T (.binLoop l) s)) (hn : Need T (.binLoop l) s) (hs : s.1 ≤ T.length) (hr : room T (.binLoop l) s) : ∃ q, step T r (.binLoop l) s = some q ∧ zaz T (.binLoop l) s q := by
 obtain ⟨hl, pre, t, hrow, hgt, htk⟩ := (show l ≤ 4 ∧ Tail s from hn.x)
 have self : Rep T s s pre t t := ⟨Nat.le_refl _, hs, hrow, hrow, hgt, htk, by simp, .inl ⟨rfl, by omega⟩⟩
 simp only [step]
 split
 ·rename_i hat
  obtain ⟨q, t', e, b1, b2, b3, b4, b5, b6, b8, b7⟩ := zs7 hT H 39 (.binRhs l) hrow hgt (zko htk) (Nat.le_refl _) hs (.inr (by simp [zan, rank])) (fun _ => zb8 _ _ (za1 hat) rfl hl) rfl (by decide) (fun _ ks _ h => by
   obtain ⟨d, rfl, pd⟩ := zv (show oneK isE ks = true from h)
   show twoK isE isE [t.kind, d] = true
   simp [twoK, htk, pd])
  have f1 := b7 rfl
  have he : isE t'.kind = true := by rw [b5]; rfl
  have R1 : Rep T s q pre t t' := ⟨b1, b2, hrow, b3, b4, he, b6, zl7 b8 f1 (odt rfl)⟩
  rw [e, Option.bind_some]
  split
  ·exact ⟨_, rfl, ⟨fun h => (by cases h), fun _ => ⟨pre, t, t', R1⟩, fun h => (by cases h)⟩⟩
  ·have hlen : q.2.length = s.2.length := by rw [b3, hrow]; simp
   obtain ⟨q2, e2, g2⟩ := H (.binLoop l) q (zap _ _ rfl rfl (show l ≤ 4 ∧ Tail _ from ⟨hl, pre, t', b3, b4, he⟩)) b2 (by unfold mu; simp only [zan, rank]; omega) (by unfold room at hr ⊢; simp only [zan, rank] at hr ⊢; omega)
   obtain ⟨pre2, t2, t2', R2⟩ := g2.rep rfl
   have h1 := R2.was
   rw [b3] at h1
   have h2 : pre = pre2 := List.append_inj_left' h1 rfl
   have h3 : t' = t2 := by simpa using List.append_inj_right' h1 rfl
   subst h2 h3
   refine ⟨q2, e2, ⟨fun h => (by cases h), fun _ => ⟨pre, t, t2', Nat.le_trans b1 R2.le, R2.len, hrow, R2.now, R2.ok, R2.kind, ?_, zoa R1.few R2.few⟩, fun h => (by cases h)⟩⟩
   rw [R2.toks, b6, List.append_assoc, zd2 _ b1 R2.le]
 ·exact ⟨_, rfl, ⟨fun h => (by cases h), fun _ => ⟨pre, t, t, self⟩, fun h => (by cases h)⟩⟩
theorem zwb (hT : T.length ≤ 2000) (H : Can T r (mu T .unary s)) (hs : s.1 ≤ T.length) (hr : room T .unary s) : ∃ q, step T r .unary s = some q ∧ zaz T .unary s q := by
 simp only [step]
 split
 ·rename_i hat
  obtain ⟨q, t, e, a, k, z⟩ := zgj hT H 40 .unaryB (Nat.le_refl _) hs (.inr (by simp [zan, rank])) (fun _ => zb8 _ _ (za1 hat) rfl trivial) rfl (by decide) (fun _ _ _ h => h)
  exact ⟨_, e, zy rfl a (odt rfl) (odt rfl) (by rw [k]; rfl) (fun _ => by simp) (fun h => (by cases h))⟩
 split
 ·rename_i hat
  obtain ⟨q, t, e, a, k, z⟩ := zgj hT H 41 .borrowB (Nat.le_refl _) hs (.inr (by simp [zan, rank])) (fun _ => zb8 _ _ (za1 hat) rfl trivial) rfl (by decide) (fun _ _ _ h => h)
  exact ⟨_, e, zy rfl a (odt rfl) (odt rfl) (by rw [k]; rfl) (fun _ => by simp) (fun h => (by cases h))⟩
 ·obtain ⟨q1, e1, g1⟩ := call H hr .primary (Adv.refl hs) (odt rfl) (odt rfl) (.inr (by simp [zan, rank])) (zap _ _ rfl rfl trivial)
  obtain ⟨n1, a1, k1, w1⟩ := g1.add rfl
  obtain ⟨c, kc, pc⟩ := zv (show oneK isE (nk n1) = true from k1)
  obtain ⟨q2, e2, g2⟩ := call H hr .postf a1 (odt rfl) (odt rfl) (.inr (by simp [zan, rank])) (zap _ _ rfl rfl (show Tail _ from ztl a1 (w1 rfl) kc pc))
  obtain ⟨pre, t, t', R⟩ := g2.rep rfl
  obtain ⟨c', A, k, p⟩ := R.adv a1 (w1 rfl) kc
  refine ⟨(false, q2.2), by simp only [sqL, e1, e2, Option.bind_some], zy rfl A (odt rfl) (odt rfl) ?_ (fun _ => by simp) (fun h => (by cases h))⟩
  rw [k]
  exact p
theorem zwp (hT : T.length ≤ 2000) (H : Can T r (mu T .postf s)) (hn : Need T .postf s) (hs : s.1 ≤ T.length) (hr : room T .postf s) : ∃ q, step T r .postf s = some q ∧ zaz T .postf s q := by
 obtain ⟨pre, t, hrow, hgt, htk⟩ := (show Tail s from hn.x)
 have self : Rep T s s pre t t := ⟨Nat.le_refl _, hs, hrow, hrow, hgt, htk, by simp, .inl ⟨rfl, by omega⟩⟩
 have argsK : ∀ ks : List Int, ks.all isE = true → zcd isE isE (t.kind :: ks) = true := fun ks h => by simp only [zcd, htk, h]; rfl
 simp only [step]
 split
 ·rename_i hat
  have hne := za1 hat
  have hq : ∃ q t', (if atT T s.1 [(⟨#[40]⟩ : ByteArray)] = true then ze9 30 (r .arguments) s else if (idT T (zb1 T s.1) && atT T (zb1 T (zb1 T s.1)) [(⟨#[40]⟩ : ByteArray)]) = true then ze9 31 (r .mcallB) s else ze9 32 (r .fieldB) s) = some (false, q) ∧ Rep T s q pre t t' ∧ s.1 < q.1 := by
   split
   ·obtain ⟨q, t', e, b1, b2, b3, b4, b5, b6, b8, b7⟩ := zs7 hT H 30 .arguments hrow hgt (zko htk) (Nat.le_refl _) hs (.inr (by simp [zan, rank])) (fun _ => zb8 _ _ hne rfl trivial) rfl (by decide) (fun _ ks _ h => argsK ks h)
    exact ⟨q, t', e, ⟨b1, b2, hrow, b3, b4, by rw [b5]; rfl, b6, zl7 b8 (b7 rfl) (odt rfl)⟩, b7 rfl⟩
   split
   ·rename_i hm
    rw [Bool.and_eq_true] at hm
    obtain ⟨q, t', e, b1, b2, b3, b4, b5, b6, b8, b7⟩ := zs7 hT H 31 .mcallB hrow hgt (zko htk) (Nat.le_refl _) hs (.inr (by simp [zan, rank])) (fun _ => zb8 _ _ hne rfl hm.2) rfl (by decide) (fun _ ks _ h => argsK ks h)
    exact ⟨q, t', e, ⟨b1, b2, hrow, b3, b4, by rw [b5]; rfl, b6, zl7 b8 (b7 rfl) (odt rfl)⟩, b7 rfl⟩
   ·obtain ⟨q, t', e, b1, b2, b3, b4, b5, b6, b8, b7⟩ := zs7 hT H 32 .fieldB hrow hgt (zko htk) (Nat.le_refl _) hs (.inr (by simp [zan, rank])) (fun _ => zb8 _ _ hne rfl trivial) rfl (by decide) (fun _ ks _ h => by rw [zqv h]; exact htk)
    exact ⟨q, t', e, ⟨b1, b2, hrow, b3, b4, by rw [b5]; rfl, b6, zl7 b8 (b7 rfl) (odt rfl)⟩, b7 rfl⟩
  obtain ⟨q, t', e, R1, f1⟩ := hq
  rw [e, Option.bind_some]
  have hlen : q.2.length = s.2.length := by rw [R1.now, hrow]; simp
  obtain ⟨q2, e2, g2⟩ := H .postf q (zap _ _ rfl rfl (show Tail _ from ⟨pre, t', R1.now, R1.ok, R1.kind⟩)) R1.len (by have := R1.len; unfold mu; simp only [zan, rank]; omega) (by unfold room at hr ⊢; simp only [zan, rank] at hr ⊢; omega)
  obtain ⟨pre2, t2, t2', R2⟩ := g2.rep rfl
  have h1 := R2.was
  rw [R1.now] at h1
  have h2 : pre = pre2 := List.append_inj_left' h1 rfl
  have h3 : t' = t2 := by simpa using List.append_inj_right' h1 rfl
  subst h2 h3
  refine ⟨q2, e2, ⟨fun h => (by cases h), fun _ => ⟨pre, t, t2', Nat.le_trans R1.le R2.le, R2.len, hrow, R2.now, R2.ok, R2.kind, ?_, zoa R1.few R2.few⟩, fun h => (by cases h)⟩⟩
  rw [R2.toks, R1.toks, List.append_assoc, zd2 _ R1.le R2.le]
 ·exact ⟨_, rfl, ⟨fun h => (by cases h), fun _ => ⟨pre, t, t, self⟩, fun h => (by cases h)⟩⟩
end Go.Proofs.YtmoelofaojgjfaaGreatDoor.Par
