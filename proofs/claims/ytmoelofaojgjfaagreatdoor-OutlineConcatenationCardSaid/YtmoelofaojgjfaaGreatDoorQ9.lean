/- Packed texts, part 9: contracts and plain lemmas towards outlineConcatenation_holds. -/
import Derived.Test.YtmoelofaojgjfaaGreatDoorQ8
import Derived.Deep.RegionHeld3
import Derived.Lib.Small
import Derived.Laws.Cover1
import Derived.Lib.Walk
import Derived.Sort.Grow
import Derived.Sort.Statements
import Derived.Shelf.SlSortCmp.Insertion
import Derived.Shelf.SlSortCmp.NoneTotal
import Derived.Test.YtmoelofaojgjfaaGreatDoorProg
import Derived.Lib.SlicesCompact
import Derived.Laws.StructEq
import Derived.Deep.LoopGhost
import Derived.Lib.SliceRun
set_option maxHeartbeats 8000000
set_option maxRecDepth 1000000
set_option linter.unusedVariables false
set_option linter.unusedSimpArgs false
namespace Go.Proofs.YtmoelofaojgjfaaGreatDoor.Par
open Go.RowKit Go.Proofs.YtmoelofaojgjfaaGreatDoorW.PrintWords Go.Proofs.YtmoelofaojgjfaaGreatDoorW.PrintLast
abbrev NDT : TypeId := 63
theorem BS.blk {N0 bb : Nat} {src : ByteArray} {W : World} {s : BSt} (h : BS N0 bb src W s) : ∃ c, W.heap[bb]? = some (.cells c 133 (0, 0)) := by
 obtain ⟨dv, h1, _⟩ := h.obj
 exact ⟨_, h1⟩
theorem BFr.ar {N0 bb B : Nat} {src : ByteArray} {G : Nat → Prop} {W W' : World} {s : BSt} (f : BFr N0 bb G W W') (h : BS N0 bb src W s) {ts : List Nd} {hd : Value} {F : List Nat} (hr : AR W B NDT ts hd F) (hG : ∀ g ∈ F, ¬ G g) : AR W' B NDT ts hd F := by
 refine zfo hr (fun g hg => ?_)
 obtain ⟨_, h2, cur, h3⟩ := zc8 hr g hg
 obtain ⟨c, hb⟩ := h.blk
 exact f.kept g h2 (fun e => by subst e; exact Ty.ne hb (by decide) ⟨_, _, h3⟩) (hG g hg) (.inr (Ty.ne h3 (by decide)))
theorem set7 {W : World} {g : Nat} {t : TypeId} {a0 a1 a2 a3 a4 a5 a6 : Value} (h : W.heap[g]? = some (.cells #[a0, a1, a2, a3, a4, a5, a6] t (0, 0))) (b0 b1 b2 b3 b4 b5 b6 : Value) :
  (((((((W.setCell ⟨g, 0, none⟩ b0).setCell ⟨g, 1, none⟩ b1).setCell ⟨g, 2, none⟩ b2).setCell ⟨g, 3, none⟩ b3).setCell ⟨g, 4, none⟩ b4).setCell ⟨g, 5, none⟩ b5).setCell ⟨g, 6, none⟩ b6).heap[g]? = some (.cells #[b0, b1, b2, b3, b4, b5, b6] t (0, 0)) := by
 simp [World.setCell, Array.getElem?_modify, h]
theorem zy8 (W : World) (g : Nat) (b0 b1 b2 b3 b4 b5 b6 : Value) :
  Only g W (((((((W.setCell ⟨g, 0, none⟩ b0).setCell ⟨g, 1, none⟩ b1).setCell ⟨g, 2, none⟩ b2).setCell ⟨g, 3, none⟩ b3).setCell ⟨g, 4, none⟩ b4).setCell ⟨g, 5, none⟩ b5).setCell ⟨g, 6, none⟩ b6) :=
 (((((((Only.refl g W).set 0 b0).set 1 b1).set 2 b2).set 3 b3).set 4 b4).set 5 b5).set 6 b6
theorem Only.belowN {g B : Nat} {W W' : World} (h : Only g W W') (hg : B ≤ g) (hs : B ≤ W.heap.size) : Below B W W' := ⟨h.os, h.tape, h.output, h.size, fun k hk => h.kept k (by omega) (by omega)⟩
theorem z0e {W : World} {B : Nat} {c : Nd} {cs : List Nd} {hd : Value} {F : List Nat} (h : AR W B NDT (c :: cs) hd F) : ∃ g cap hc Fc, hd = .slice (some ⟨g, 0, none⟩) (cs.length + 1) cap ∧ W.cell? ⟨g, 0, none⟩ = some (.int .i64 c.f0) ∧ W.cell? ⟨g, 1, none⟩ = some (.int .i64 c.f1) ∧ W.cell? ⟨g, 2, none⟩ = some (.string c.f2) ∧ W.cell? ⟨g, 3, none⟩ = some (.int .i64 c.f3) ∧ W.cell? ⟨g, 4, none⟩ = some (.int .i64 c.f4) ∧ W.cell? ⟨g, 5, none⟩ = some (.int .i64 c.f5) ∧ W.cell? ⟨g, 6, none⟩ = some hc ∧ AR W B NDT c.f6 hc Fc ∧ ∀ g ∈ Fc, g ∈ F := by
 obtain ⟨xs, Fs, ho, rfl, hl⟩ := h
 obtain ⟨cc, Fi, h1, h2, h3⟩ := z1u (c :: cs) xs Fs 0 c hl.1 rfl
 rw [z1v] at h1
 obtain ⟨hc, rfl, h4⟩ := h1
 rcases ho.2 with ⟨_, h0⟩ | ⟨g, cap, cur, rfl, _⟩
 ·simp at h0
 ·have hk : ∀ j v, ([.int .i64 c.f0, .int .i64 c.f1, .string c.f2, .int .i64 c.f3, .int .i64 c.f4, .int .i64 c.f5, hc] : List Value)[j]? = some v → W.cell? ⟨g, j, none⟩ = some v := fun j v hj => by
   have := ho.cells (g := g) rfl _ _ (h2 j v hj)
   rw [Nat.zero_mul, Nat.zero_add, Addr.add_lit, Nat.zero_add] at this
   exact this
  exact ⟨g, cap, hc, Fi, rfl, hk 0 _ rfl, hk 1 _ rfl, hk 2 _ rfl, hk 3 _ rfl, hk 4 _ rfl, hk 5 _ rfl, hk 6 _ rfl, h4, fun g hg => List.mem_append_right _ (h3 g hg)⟩
theorem zjg {N0 bb B r : Nat} {src : ByteArray} {W W2 : World} {s : BSt} {kids : List Nd} {hd : Value} {F : List Nat} {a0 a1 a2 a3 a4 a5 a6 : Value} (h : BS N0 bb src W2 s) (f : BFr N0 bb NoG W W2) (hr : AR W2 B NDT kids hd F) (t4 : W2.heap[r]? = some (.cells #[a0, a1, a2, a3, a4, a5, a6] NDT (0, 0))) (hrW : W.heap.size ≤ r) (hN : N0 ≤ W.heap.size) (hbl : bb < W.heap.size) (hF : ∀ g ∈ F, g ≠ r) (b0 b1 b2 b3 b4 b5 b6 : Value) {W6 : World}
  (hW : (((((((W2.setCell ⟨r, 0, none⟩ b0).setCell ⟨r, 1, none⟩ b1).setCell ⟨r, 2, none⟩ b2).setCell ⟨r, 3, none⟩ b3).setCell ⟨r, 4, none⟩ b4).setCell ⟨r, 5, none⟩ b5).setCell ⟨r, 6, none⟩ b6) = W6) :
  (W6.cell? ⟨r, 0, none⟩ = some b0 ∧ W6.cell? ⟨r, 1, none⟩ = some b1 ∧ W6.cell? ⟨r, 2, none⟩ = some b2 ∧ W6.cell? ⟨r, 3, none⟩ = some b3 ∧ W6.cell? ⟨r, 4, none⟩ = some b4 ∧ W6.cell? ⟨r, 5, none⟩ = some b5 ∧ W6.cell? ⟨r, 6, none⟩ = some b6) ∧ AR W6 B NDT kids hd F ∧ BS N0 bb src W6 s ∧ BFr N0 bb NoG W W6 := by
 subst hW
 have hs := set7 t4 b0 b1 b2 b3 b4 b5 b6
 have ho := zy8 W2 r b0 b1 b2 b3 b4 b5 b6
 refine ⟨⟨(zf hs 0).trans rfl, (zf hs 1).trans rfl, (zf hs 2).trans rfl, (zf hs 3).trans rfl, (zf hs 4).trans rfl, (zf hs 5).trans rfl, (zf hs 6).trans rfl⟩, zfo hr (fun g hg => ho.kept g (zc8 hr g hg).2.1 (hF g hg)), h.only ho (by omega) (by omega) (Ty.ne t4 (by decide)), ⟨ho.os.trans f.os, ho.tape.trans f.tape, ho.output.trans f.output, Nat.le_trans f.size ho.size, fun g g1 g2 g3 g4 => (ho.kept g (Nat.lt_of_lt_of_le g1 f.size) (by omega)).trans (f.kept g g1 g2 g3 g4)⟩⟩
theorem zl9 {N0 bb B : Nat} {src : ByteArray} {W : World} {s : BSt} {n : Nd} {hd : Value} {F : List Nat} (h : BS N0 bb src W s) (hr : AR W B NDT n.f6 hd F) (h60 : n.f0 = 60 → n.f6 ≠ []) (h46 : n.f0 = 46 → 0 ≤ n.f3 ∧ n.f3 ≤ n.f4 ∧ n.f4 ≤ (src.size : Int)) (hsrc : src.size ≤ 100000) (hN : N0 ≤ W.heap.size) (hl : s.ds.length ≤ 10000000) :
  Calls Tryz.prog 101 #[.pointer (some ⟨bb, 0, none⟩), .agg #[.int .i64 n.f0, .int .i64 n.f1, .string n.f2, .int .i64 n.f3, .int .i64 n.f4, .int .i64 n.f5, hd]] W fun e W' => ∃ hd' F', e = .returned (.agg #[.int .i64 (zbe src n s).1.f0, .int .i64 (zbe src n s).1.f1, .string (zbe src n s).1.f2, .int .i64 (zbe src n s).1.f3, .int .i64 (zbe src n s).1.f4, .int .i64 (zbe src n s).1.f5, hd']) ∧ AR W' B NDT (zbe src n s).1.f6 hd' F' ∧ (∀ g ∈ F', g ∈ F) ∧ BS N0 bb src W' (zbe src n s).2 ∧ BFr N0 bb NoG W W' := by
 have hbl : bb < W.heap.size := by obtain ⟨c, hc⟩ := h.blk; exact za8 hc
 obtain ⟨W2, hW2⟩ : ∃ W2, (W.alloc (.cells #[.int .i64 n.f0, .int .i64 n.f1, .string n.f2, .int .i64 n.f3, .int .i64 n.f4, .int .i64 n.f5, hd] NDT)).alloc (.cells #[.int .i64 0, .int .i64 0, .string ⟨#[]⟩, .int .i64 0, .int .i64 0, .int .i64 0, .slice none 0 0] NDT) = W2 := ⟨_, rfl⟩
 have hb2 : Below W.heap.size W W2 := by rw [← hW2]; exact zh (zh (Below.refl _ _) _) _
 have hsz : W2.heap.size = W.heap.size + 1 + 1 := by rw [← hW2]; simp [World.size_alloc]
 have t3 : W2.heap[W.heap.size]? = some (.cells #[.int .i64 n.f0, .int .i64 n.f1, .string n.f2, .int .i64 n.f3, .int .i64 n.f4, .int .i64 n.f5, hd] NDT (0, 0)) := by rw [← hW2]; exact za5 (zaj W _) _
 have t4 : W2.heap[W.heap.size + 1]? = some (.cells #[.int .i64 0, .int .i64 0, .string ⟨#[]⟩, .int .i64 0, .int .i64 0, .int .i64 0, .slice none 0 0] NDT (0, 0)) := by rw [← hW2]; have hb := zaj (W.alloc (.cells #[.int .i64 n.f0, .int .i64 n.f1, .string n.f2, .int .i64 n.f3, .int .i64 n.f4, .int .i64 n.f5, hd] NDT)) (.cells #[.int .i64 0, .int .i64 0, .string ⟨#[]⟩, .int .i64 0, .int .i64 0, .int .i64 0, .slice none 0 0] NDT); simp only [World.size_alloc] at hb; exact hb
 have h2 := h.below hb2
 have f2 : BFr N0 bb NoG W W2 := .of_below hb2
 have hr2 := f2.ar h hr (fun _ _ h => h)
 have x0 : W2.cell? ⟨W.heap.size, 0, none⟩ = some (.int .i64 n.f0) := (zf t3 0).trans rfl
 have x1 : W2.cell? ⟨W.heap.size, 1, none⟩ = some (.int .i64 n.f1) := (zf t3 1).trans rfl
 have x2 : W2.cell? ⟨W.heap.size, 2, none⟩ = some (.string n.f2) := (zf t3 2).trans rfl
 have x3 : W2.cell? ⟨W.heap.size, 3, none⟩ = some (.int .i64 n.f3) := (zf t3 3).trans rfl
 have x4 : W2.cell? ⟨W.heap.size, 4, none⟩ = some (.int .i64 n.f4) := (zf t3 4).trans rfl
 have x5 : W2.cell? ⟨W.heap.size, 5, none⟩ = some (.int .i64 n.f5) := (zf t3 5).trans rfl
 have x6 : W2.cell? ⟨W.heap.size, 6, none⟩ = some hd := (zf t3 6).trans rfl
 have y0 : W2.cell? ⟨W.heap.size + 1, 0, none⟩ = some (.int .i64 0) := (zf t4 0).trans rfl
 have y1 : W2.cell? ⟨W.heap.size + 1, 1, none⟩ = some (.int .i64 0) := (zf t4 1).trans rfl
 have y2 : W2.cell? ⟨W.heap.size + 1, 2, none⟩ = some (.string ⟨#[]⟩) := (zf t4 2).trans rfl
 have y3 : W2.cell? ⟨W.heap.size + 1, 3, none⟩ = some (.int .i64 0) := (zf t4 3).trans rfl
 have y4 : W2.cell? ⟨W.heap.size + 1, 4, none⟩ = some (.int .i64 0) := (zf t4 4).trans rfl
 have y5 : W2.cell? ⟨W.heap.size + 1, 5, none⟩ = some (.int .i64 0) := (zf t4 5).trans rfl
 have y6 : W2.cell? ⟨W.heap.size + 1, 6, none⟩ = some (.slice none 0 0) := (zf t4 6).trans rfl
 have z := zl t4
 have z0 := z 0
 have z1 := z 1
 have z2 := z 2
 have z3 := z 3
 have z4 := z 4
 have z5 := z 5
 have z6 := z 6
 have hN2 : N0 ≤ W2.heap.size := by omega
 have H2 := ak (And.intro h2 (And.intro f2 (And.intro hr2 (And.intro t3 t4))))
 have HSZ := ak hsz
 have HH := ak (And.intro h60 h46)
 obtain ⟨hA, hc, rfl⟩ : ∃ A c, hd = .slice A n.f6.length c := by
  obtain ⟨_, _, ho, _⟩ := hr
  exact Par.za3 ho
 have HF := ak (show ∀ g ∈ F, g < W.heap.size from fun g hg => (zc8 hr g hg).2.1)
 clear h hr hb2 hsz t3 t4 h2 f2 hr2 z h60 h46
 by_cases k60 : n.f0 = 60
 ·have q60 : (n.f0 == 60) = true := beq_iff_eq.2 k60
  obtain ⟨c, cs, hcs⟩ : ∃ c cs, n.f6 = c :: cs := by
   cases hh : n.f6 with
   | nil => exact absurd hh (HH.out.1 k60)
   | cons c cs => exact ⟨c, cs, rfl⟩
  have hr2 := H2.out.2.2.1
  rw [hcs] at hr2
  obtain ⟨kg, kcap, hk, Fc, e1, j0, j1, j2, j3, j4, j5, j6, hkr, hkF⟩ := z0e hr2
  have e1' : Value.slice hA n.f6.length hc = .slice (some ⟨kg, 0, none⟩) (cs.length + 1) kcap := by rw [hcs]; exact e1
  simp only [Value.slice.injEq] at e1'
  obtain ⟨rfl, hlen, rfl⟩ := e1'
  have HK := ak (And.intro hkr (And.intro hkF (And.intro hcs k60)))
  obtain ⟨hkA, hkc, rfl⟩ : ∃ A c', hk = .slice A c.f6.length c' := by
   obtain ⟨_, _, ho, _⟩ := hkr
   exact Par.za3 ho
  rw [hlen] at x6
  have hl0 : (0 : Int) < ((cs.length + 1 : Nat) : Int) := by omega
  have hl1 : (0 : Int) < (cs.length : Int) + 1 := by omega
  clear k60 hcs hr2 hkr hkF e1 hlen
  go_enter Tryz.func101, Tryz.ntmps101
  go_wp2_with fail
  obtain ⟨W3, hW3⟩ : ∃ W3, W2.alloc (.cells #[.int .i64 c.f0, .int .i64 c.f1, .string c.f2, .int .i64 c.f3, .int .i64 c.f4, .int .i64 c.f5, .slice hkA c.f6.length hkc] NDT) = W3 := ⟨_, rfl⟩
  have hb3 : Below W2.heap.size W2 W3 := by rw [← hW3]; exact zh (Below.refl _ _) _
  have t5 : W3.heap[W2.heap.size]? = some (.cells #[.int .i64 c.f0, .int .i64 c.f1, .string c.f2, .int .i64 c.f3, .int .i64 c.f4, .int .i64 c.f5, .slice hkA c.f6.length hkc] NDT (0, 0)) := by rw [← hW3]; exact zaj W2 _
  have q3 : W3.cell? ⟨W.heap.size, 3, none⟩ = some (.int .i64 n.f3) := (hb3.cell (p := ⟨W.heap.size, 3, none⟩) (by have := HSZ.out; show W.heap.size < _; omega)).trans x3
  have q4 : W3.cell? ⟨W.heap.size, 4, none⟩ = some (.int .i64 n.f4) := (hb3.cell (p := ⟨W.heap.size, 4, none⟩) (by have := HSZ.out; show W.heap.size < _; omega)).trans x4
  have p3 : W3.cell? ⟨W2.heap.size, 3, none⟩ = some (.int .i64 c.f3) := (zf t5 3).trans rfl
  have p4 : W3.cell? ⟨W2.heap.size, 4, none⟩ = some (.int .i64 c.f4) := (zf t5 4).trans rfl
  have hne : W.heap.size ≠ W2.heap.size := by have := HSZ.out; omega
  have hne2 : W2.heap.size ≠ W.heap.size := by have := HSZ.out; omega
  have v3 := zl t5 3
  have v4 := zl t5 4
  have H3 := ak (And.intro hb3 t5)
  rw [hW3]
  clear hW3 hb3 t5 x0 x1 x2 x3 x4 x5 x6 y0 y1 y2 y3 y4 y5 y6 z0 z1 z2 z3 z4 z5 z6 j0 j1 j2 j3 j4 j5 j6
  go_region_held3 (fun w' => w'.cell? ⟨W.heap.size, 3, none⟩ = some (.int .i64 n.f3) ∧ w'.cell? ⟨W.heap.size, 4, none⟩ = some (.int .i64 n.f4)) (go_keep) (fail)
  obtain ⟨W4, hW4⟩ : ∃ W4, ((W3.setCell ⟨W2.heap.size, 3, none⟩ (.int .i64 n.f3)).setCell ⟨W2.heap.size, 4, none⟩ (.int .i64 n.f4)).drew = W4 := ⟨_, rfl⟩
  have t6 : W4.heap[W2.heap.size]? = some (.cells #[.int .i64 c.f0, .int .i64 c.f1, .string c.f2, .int .i64 n.f3, .int .i64 n.f4, .int .i64 c.f5, .slice hkA c.f6.length hkc] NDT (0, 0)) := by rw [← hW4]; exact zdp (by simpa using zbw (zbw H3.out.2 3 (.int .i64 n.f3)) 4 (.int .i64 n.f4))
  have b4 : Below W2.heap.size W2 W4 := by
   rw [← hW4]
   have o4 : Only W2.heap.size W3 ((W3.setCell ⟨W2.heap.size, 3, none⟩ (.int .i64 n.f3)).setCell ⟨W2.heap.size, 4, none⟩ (.int .i64 n.f4)) := ((Only.refl _ _).set _ _).set _ _
   exact zae (H3.out.1.trans (o4.belowN (Nat.le_refl _) H3.out.1.size))
  have t4 := zep H2.out.2.2.2.2 b4
  have h4 := H2.out.1.below b4
  have f4 : BFr N0 bb NoG W W4 := H2.out.2.1.trans (BFr.of_below b4)
  have r4 : AR W4 B NDT c.f6 (.slice hkA c.f6.length hkc) Fc := zfo HK.out.1 (fun g hg => b4.block g (zc8 HK.out.1 g hg).2.1)
  have H4 := ak (And.intro h4 (And.intro f4 (And.intro r4 t4)))
  have y0 : W4.cell? ⟨W.heap.size + 1, 0, none⟩ = some (.int .i64 0) := (zf t4 0).trans rfl
  have y1 : W4.cell? ⟨W.heap.size + 1, 1, none⟩ = some (.int .i64 0) := (zf t4 1).trans rfl
  have y2 : W4.cell? ⟨W.heap.size + 1, 2, none⟩ = some (.string ⟨#[]⟩) := (zf t4 2).trans rfl
  have y3 : W4.cell? ⟨W.heap.size + 1, 3, none⟩ = some (.int .i64 0) := (zf t4 3).trans rfl
  have y4 : W4.cell? ⟨W.heap.size + 1, 4, none⟩ = some (.int .i64 0) := (zf t4 4).trans rfl
  have y5 : W4.cell? ⟨W.heap.size + 1, 5, none⟩ = some (.int .i64 0) := (zf t4 5).trans rfl
  have y6 : W4.cell? ⟨W.heap.size + 1, 6, none⟩ = some (.slice none 0 0) := (zf t4 6).trans rfl
  have z0 := zl t4 0
  have z1 := zl t4 1
  have z2 := zl t4 2
  have z3 := zl t4 3
  have z4 := zl t4 4
  have z5 := zl t4 5
  have z6 := zl t4 6
  have u0 : W4.cell? ⟨W2.heap.size, 0, none⟩ = some (.int .i64 c.f0) := (zf t6 0).trans rfl
  have u1 : W4.cell? ⟨W2.heap.size, 1, none⟩ = some (.int .i64 c.f1) := (zf t6 1).trans rfl
  have u2 : W4.cell? ⟨W2.heap.size, 2, none⟩ = some (.string c.f2) := (zf t6 2).trans rfl
  have u3 : W4.cell? ⟨W2.heap.size, 3, none⟩ = some (.int .i64 n.f3) := (zf t6 3).trans rfl
  have u4 : W4.cell? ⟨W2.heap.size, 4, none⟩ = some (.int .i64 n.f4) := (zf t6 4).trans rfl
  have u5 : W4.cell? ⟨W2.heap.size, 5, none⟩ = some (.int .i64 c.f5) := (zf t6 5).trans rfl
  have u6 : W4.cell? ⟨W2.heap.size, 6, none⟩ = some (.slice hkA c.f6.length hkc) := (zf t6 6).trans rfl
  rw [hW4]
  clear hW4 t6 b4 t4 h4 f4 r4 q3 q4 p3 p4
  go_wp2_with fail
  obtain ⟨W6, hW6⟩ : ∃ W6, (((((((W4.setCell ⟨W.heap.size + 1, 0, none⟩ (.int .i64 c.f0)).setCell ⟨W.heap.size + 1, 1, none⟩ (.int .i64 c.f1)).setCell ⟨W.heap.size + 1, 2, none⟩ (.string c.f2)).setCell ⟨W.heap.size + 1, 3, none⟩ (.int .i64 n.f3)).setCell ⟨W.heap.size + 1, 4, none⟩ (.int .i64 n.f4)).setCell ⟨W.heap.size + 1, 5, none⟩ (.int .i64 c.f5)).setCell ⟨W.heap.size + 1, 6, none⟩ (.slice hkA c.f6.length hkc)) = W6 := ⟨_, rfl⟩
  obtain ⟨⟨e0, e1, e2, e3, e4, e5, e6⟩, g1, g2, g3⟩ := zjg H4.out.1 H4.out.2.1 H4.out.2.2.1 H4.out.2.2.2 (by omega) hN hbl (fun g hg => by have := HF.out g (HK.out.2.1 g hg); omega) _ _ _ _ _ _ _ hW6
  rw [hW6]
  refine bodyPost_ret (v := .agg #[.int .i64 c.f0, .int .i64 c.f1, .string c.f2, .int .i64 n.f3, .int .i64 n.f4, .int .i64 c.f5, .slice hkA c.f6.length hkc]) (by simp [results, Tryz.results101, go_sem, e0, e1, e2, e3, e4, e5, e6]) rfl ?_
  have hx : zbe src n s = (⟨c.f0, c.f1, c.f2, n.f3, n.f4, c.f5, c.f6⟩, s) := by simp [zbe, HK.out.2.2.1, HK.out.2.2.2]
  rw [hx]
  exact ⟨_, Fc, rfl, g1, HK.out.2.1, g2, g3⟩
 by_cases k46 : n.f0 = 46
 ·have m1 := zdu k60
  have q46 : (n.f0 == 46) = true := beq_iff_eq.2 k46
  have HR := ak (HH.out.2 k46)
  have K := ak (And.intro k60 k46)
  clear k60 k46
  by_cases heq : n.f3 = n.f4
  ·skip
   have HQ := ak heq
   have eqf : (n.f3 == n.f4) = true := beq_iff_eq.2 heq
   have c1 := HR.out.1
   have c2 := HR.out.2.1
   have c3 := HR.out.2.2
   obtain ⟨d0, d1, d2, d3⟩ := H2.out.1.cells
   clear heq
   go_enter Tryz.func101, Tryz.ntmps101
   go_wp2_with fail
   refine (zcj 1 n.f3 n.f4 H2.out.1 hN2 (by omega)).mono ?_
   rintro e W3 ⟨rfl, h3, f3⟩
   have t3 := f3.blk H2.out.2.2.2.1 (by omega) (fun h => h) (by decide)
   have t4 := f3.blk H2.out.2.2.2.2 (by omega) (fun h => h) (by decide)
   have H3 := ak (And.intro h3 (And.intro (H2.out.2.1.trans f3) t4))
   obtain ⟨d0, d1, d2, d3⟩ := h3.cells
   have y0 : W3.cell? ⟨W.heap.size + 1, 0, none⟩ = some (.int .i64 0) := (zf t4 0).trans rfl
   have y1 : W3.cell? ⟨W.heap.size + 1, 1, none⟩ = some (.int .i64 0) := (zf t4 1).trans rfl
   have y2 : W3.cell? ⟨W.heap.size + 1, 2, none⟩ = some (.string ⟨#[]⟩) := (zf t4 2).trans rfl
   have y3 : W3.cell? ⟨W.heap.size + 1, 3, none⟩ = some (.int .i64 0) := (zf t4 3).trans rfl
   have y4 : W3.cell? ⟨W.heap.size + 1, 4, none⟩ = some (.int .i64 0) := (zf t4 4).trans rfl
   have y5 : W3.cell? ⟨W.heap.size + 1, 5, none⟩ = some (.int .i64 0) := (zf t4 5).trans rfl
   have y6 : W3.cell? ⟨W.heap.size + 1, 6, none⟩ = some (.slice none 0 0) := (zf t4 6).trans rfl
   have z0 := zl t4 0
   have z1 := zl t4 1
   have z2 := zl t4 2
   have z3 := zl t4 3
   have z4 := zl t4 4
   have z5 := zl t4 5
   have z6 := zl t4 6
   have x3 : W3.cell? ⟨W.heap.size, 3, none⟩ = some (.int .i64 n.f3) := (zf t3 3).trans rfl
   have x4 : W3.cell? ⟨W.heap.size, 4, none⟩ = some (.int .i64 n.f4) := (zf t3 4).trans rfl
   clear h3 f3 t3 t4
   go_wp2_with fail
   go_still_tail 14, (by kernel_rfl)
   go_wp2_with fail
   have hx : zbe src n s = (⟨46, 0, src.extract n.f3.toNat n.f4.toNat, n.f3, n.f4, -1, []⟩, zbr 1 n.f3 n.f4 s) := by simp [zbe, K.out.1, K.out.2, HQ.out]
   obtain ⟨W6, hW6⟩ : ∃ W6, (((((((W3.setCell ⟨W.heap.size + 1, 0, none⟩ (.int .i64 46)).setCell ⟨W.heap.size + 1, 1, none⟩ (.int .i64 0)).setCell ⟨W.heap.size + 1, 2, none⟩ (.string (src.extract n.f3.toNat n.f4.toNat))).setCell ⟨W.heap.size + 1, 3, none⟩ (.int .i64 n.f3)).setCell ⟨W.heap.size + 1, 4, none⟩ (.int .i64 n.f4)).setCell ⟨W.heap.size + 1, 5, none⟩ (.int .i64 (-1))).setCell ⟨W.heap.size + 1, 6, none⟩ (.slice none 0 0)) = W6 := ⟨_, rfl⟩
   obtain ⟨⟨e0, e1, e2, e3, e4, e5, e6⟩, g1, g2, g3⟩ := zjg (kids := []) (hd := .slice none 0 0) (F := []) H3.out.1 H3.out.2.1 (zq2 W3 B NDT) H3.out.2.2 (by omega) hN hbl (fun g hg => by cases hg) _ _ _ _ _ _ _ hW6
   obtain ⟨W7, hW7⟩ : ∃ W7, W6.drew = W7 := ⟨_, rfl⟩
   have hb7 : Below W6.heap.size W6 W7 := by rw [← hW7]; exact zae (Below.refl _ _)
   rw [hW6, hW7]
   rw [show W6.cell? = W7.cell? by rw [← hW7]; rfl] at e0 e1 e2 e3 e4 e5 e6
   refine bodyPost_ret (v := .agg #[.int .i64 46, .int .i64 0, .string (src.extract n.f3.toNat n.f4.toNat), .int .i64 n.f3, .int .i64 n.f4, .int .i64 (-1), .slice none 0 0]) (by simp [results, Tryz.results101, go_sem, e0, e1, e2, e3, e4, e5, e6]) rfl ?_
   rw [hx]
   exact ⟨_, [], rfl, zq2 _ _ _, fun g hg => (by cases hg), g2.below hb7, g3.trans (BFr.of_below hb7)⟩
  ·skip
   have HQ := ak heq
   have eqf : (n.f3 == n.f4) = false := zdu heq
   have c1 := HR.out.1
   have c2 := HR.out.2.1
   have c3 := HR.out.2.2
   obtain ⟨d0, d1, d2, d3⟩ := H2.out.1.cells
   clear heq
   go_enter Tryz.func101, Tryz.ntmps101
   go_wp2_with fail
   refine (zcj 2 n.f3 n.f4 H2.out.1 hN2 (by omega)).mono ?_
   rintro e W3 ⟨rfl, h3, f3⟩
   have t3 := f3.blk H2.out.2.2.2.1 (by omega) (fun h => h) (by decide)
   have t4 := f3.blk H2.out.2.2.2.2 (by omega) (fun h => h) (by decide)
   have H3 := ak (And.intro h3 (And.intro (H2.out.2.1.trans f3) t4))
   obtain ⟨d0, d1, d2, d3⟩ := h3.cells
   have y0 : W3.cell? ⟨W.heap.size + 1, 0, none⟩ = some (.int .i64 0) := (zf t4 0).trans rfl
   have y1 : W3.cell? ⟨W.heap.size + 1, 1, none⟩ = some (.int .i64 0) := (zf t4 1).trans rfl
   have y2 : W3.cell? ⟨W.heap.size + 1, 2, none⟩ = some (.string ⟨#[]⟩) := (zf t4 2).trans rfl
   have y3 : W3.cell? ⟨W.heap.size + 1, 3, none⟩ = some (.int .i64 0) := (zf t4 3).trans rfl
   have y4 : W3.cell? ⟨W.heap.size + 1, 4, none⟩ = some (.int .i64 0) := (zf t4 4).trans rfl
   have y5 : W3.cell? ⟨W.heap.size + 1, 5, none⟩ = some (.int .i64 0) := (zf t4 5).trans rfl
   have y6 : W3.cell? ⟨W.heap.size + 1, 6, none⟩ = some (.slice none 0 0) := (zf t4 6).trans rfl
   have z0 := zl t4 0
   have z1 := zl t4 1
   have z2 := zl t4 2
   have z3 := zl t4 3
   have z4 := zl t4 4
   have z5 := zl t4 5
   have z6 := zl t4 6
   have x3 : W3.cell? ⟨W.heap.size, 3, none⟩ = some (.int .i64 n.f3) := (zf t3 3).trans rfl
   have x4 : W3.cell? ⟨W.heap.size, 4, none⟩ = some (.int .i64 n.f4) := (zf t3 4).trans rfl
   clear h3 f3 t3 t4
   go_wp2_with fail
   go_still_tail 14, (by kernel_rfl)
   go_wp2_with fail
   have hx : zbe src n s = (⟨46, 0, src.extract n.f3.toNat n.f4.toNat, n.f3, n.f4, -1, []⟩, zbr 2 n.f3 n.f4 s) := by simp [zbe, K.out.1, K.out.2, HQ.out]
   obtain ⟨W6, hW6⟩ : ∃ W6, (((((((W3.setCell ⟨W.heap.size + 1, 0, none⟩ (.int .i64 46)).setCell ⟨W.heap.size + 1, 1, none⟩ (.int .i64 0)).setCell ⟨W.heap.size + 1, 2, none⟩ (.string (src.extract n.f3.toNat n.f4.toNat))).setCell ⟨W.heap.size + 1, 3, none⟩ (.int .i64 n.f3)).setCell ⟨W.heap.size + 1, 4, none⟩ (.int .i64 n.f4)).setCell ⟨W.heap.size + 1, 5, none⟩ (.int .i64 (-1))).setCell ⟨W.heap.size + 1, 6, none⟩ (.slice none 0 0)) = W6 := ⟨_, rfl⟩
   obtain ⟨⟨e0, e1, e2, e3, e4, e5, e6⟩, g1, g2, g3⟩ := zjg (kids := []) (hd := .slice none 0 0) (F := []) H3.out.1 H3.out.2.1 (zq2 W3 B NDT) H3.out.2.2 (by omega) hN hbl (fun g hg => by cases hg) _ _ _ _ _ _ _ hW6
   obtain ⟨W7, hW7⟩ : ∃ W7, W6.drew = W7 := ⟨_, rfl⟩
   have hb7 : Below W6.heap.size W6 W7 := by rw [← hW7]; exact zae (Below.refl _ _)
   rw [hW6, hW7]
   rw [show W6.cell? = W7.cell? by rw [← hW7]; rfl] at e0 e1 e2 e3 e4 e5 e6
   refine bodyPost_ret (v := .agg #[.int .i64 46, .int .i64 0, .string (src.extract n.f3.toNat n.f4.toNat), .int .i64 n.f3, .int .i64 n.f4, .int .i64 (-1), .slice none 0 0]) (by simp [results, Tryz.results101, go_sem, e0, e1, e2, e3, e4, e5, e6]) rfl ?_
   rw [hx]
   exact ⟨_, [], rfl, zq2 _ _ _, fun g hg => (by cases hg), g2.below hb7, g3.trans (BFr.of_below hb7)⟩
 have m1 := zdu k60
 have m2 := zdu k46
 have K := ak (And.intro k60 k46)
 clear k60 k46
 go_enter Tryz.func101, Tryz.ntmps101
 go_wp2_with fail
 obtain ⟨W6, hW6⟩ : ∃ W6, (((((((W2.setCell ⟨W.heap.size + 1, 0, none⟩ (.int .i64 n.f0)).setCell ⟨W.heap.size + 1, 1, none⟩ (.int .i64 n.f1)).setCell ⟨W.heap.size + 1, 2, none⟩ (.string n.f2)).setCell ⟨W.heap.size + 1, 3, none⟩ (.int .i64 n.f3)).setCell ⟨W.heap.size + 1, 4, none⟩ (.int .i64 n.f4)).setCell ⟨W.heap.size + 1, 5, none⟩ (.int .i64 n.f5)).setCell ⟨W.heap.size + 1, 6, none⟩ (.slice hA n.f6.length hc)) = W6 := ⟨_, rfl⟩
 obtain ⟨⟨e0, e1, e2, e3, e4, e5, e6⟩, g1, g2, g3⟩ := zjg H2.out.1 H2.out.2.1 H2.out.2.2.1 H2.out.2.2.2.2 (by omega) hN hbl (fun g hg => by have := HF.out g hg; omega) _ _ _ _ _ _ _ hW6
 rw [hW6]
 refine bodyPost_ret (v := .agg #[.int .i64 n.f0, .int .i64 n.f1, .string n.f2, .int .i64 n.f3, .int .i64 n.f4, .int .i64 n.f5, .slice hA n.f6.length hc]) (by simp [results, Tryz.results101, go_sem, e0, e1, e2, e3, e4, e5, e6]) rfl ?_
 have hx : zbe src n s = (n, s) := by simp [zbe, K.out.1, K.out.2]
 rw [hx]
 exact ⟨_, F, rfl, g1, fun g hg => hg, g2, g3⟩
structure Row (W : World) (B : Nat) (xs : List Nd) (hd : Value) (Fs : List Nat) : Prop where
 row : ∃ cs, W.ownsRow B NDT 7 hd xs.length cs ∧ AL W B NDT xs cs Fs
 apart : ∀ g ∈ Fs, some g ≠ hd.ownBlock
theorem Row.ar {W : World} {B : Nat} {xs : List Nd} {hd : Value} {Fs : List Nat} (h : Row W B xs hd Fs) : AR W B NDT xs hd (own1 hd ++ Fs) := by
 obtain ⟨cs, h1, h2⟩ := h.row
 exact ⟨cs, Fs, h1, rfl, h2, h.apart⟩
theorem Row.kept {W W' : World} {B : Nat} {xs : List Nd} {hd : Value} {Fs : List Nat} (h : Row W B xs hd Fs) (hk : ∀ g ∈ own1 hd ++ Fs, W'.heap[g]? = W.heap[g]?) : Row W' B xs hd Fs := by
 obtain ⟨cs, h1, h2⟩ := h.row
 exact ⟨⟨cs, za7 h1 (fun g hg => hk g (List.mem_append_left _ hg)), zhx xs cs Fs h2 (fun g hg => hk g (List.mem_append_right _ hg))⟩, h.apart⟩
theorem Row.bound {W : World} {B : Nat} {xs : List Nd} {hd : Value} {Fs : List Nat} (h : Row W B xs hd Fs) : ∀ g ∈ own1 hd ++ Fs, B ≤ g ∧ g < W.heap.size ∧ Ty W NDT g := fun g hg => by
 obtain ⟨a, b, cur, c⟩ := zc8 h.ar g hg
 exact ⟨a, b, _, _, c⟩
theorem Row.nil (W : World) (B : Nat) : Row W B [] (.slice none 0 0) [] := ⟨⟨[], ⟨rfl, .inl ⟨rfl, rfl⟩⟩, rfl, rfl⟩, fun g hg => by cases hg⟩
theorem zww {W : World} {B e n cap g : Nat} {xs : List Value} {a0 a1 a2 a3 a4 a5 a6 b0 b1 b2 b3 b4 b5 b6 : Value} (h : W.ownsRow B e 7 (.slice (some ⟨g, 0, none⟩) (n + 1) cap) (n + 1) (xs ++ [a0, a1, a2, a3, a4, a5, a6])) (hl : xs.length = n * 7) :
  (((((((W.setCell ⟨g, n * 7, none⟩ b0).setCell ⟨g, n * 7 + 1, none⟩ b1).setCell ⟨g, n * 7 + 2, none⟩ b2).setCell ⟨g, n * 7 + 3, none⟩ b3).setCell ⟨g, n * 7 + 4, none⟩ b4).setCell ⟨g, n * 7 + 5, none⟩ b5).setCell ⟨g, n * 7 + 6, none⟩ b6).ownsRow B e 7 (.slice (some ⟨g, 0, none⟩) (n + 1) cap) (n + 1) (xs ++ [b0, b1, b2, b3, b4, b5, b6]) := by
 have h7 := zcr (zcr (zcr (zcr (zcr (zcr (zcr h (n * 7) b0) (n * 7 + 1) b1) (n * 7 + 2) b2) (n * 7 + 3) b3) (n * 7 + 4) b4) (n * 7 + 5) b5) (n * 7 + 6) b6
 have st : ∀ (i : Nat) (v : Value) (ys : List Value), (xs ++ ys).set (n * 7 + i) v = xs ++ ys.set i v := by
  intro i v ys
  rw [List.set_append, if_neg (by omega), show n * 7 + i - xs.length = i by omega]
 have s0 := st 0 b0 [a0, a1, a2, a3, a4, a5, a6]
 rw [Nat.add_zero] at s0
 rw [s0, st 1 b1, st 2 b2, st 3 b3, st 4 b4, st 5 b5, st 6 b6] at h7
 exact h7
theorem zlg (X : World) (s g m i : Nat) (v x : Value) (h : g ≠ s) : (X.setCell ⟨s, m, none⟩ v).setCell ⟨g, i, none⟩ x = (X.setCell ⟨g, i, none⟩ x).setCell ⟨s, m, none⟩ v := by
 unfold World.setCell
 congr 1
 apply Array.ext_getElem?
 intro b
 simp only [Array.getElem?_modify]
 by_cases h1 : g = b
 ·subst h1
  by_cases h2 : s = g
  ·exact absurd h2.symm h
  ·simp [h2]
 ·by_cases h2 : s = b
  ·subst h2
   simp [h1]
  ·simp [h1, h2]
theorem zlf (W : World) (g s m i0 i1 i2 i3 i4 i5 i6 : Nat) (b0 b1 b2 b3 b4 b5 b6 v : Value) (h : g ≠ s) :
  (((((((W.setCell ⟨s, m, none⟩ v).setCell ⟨g, i0, none⟩ b0).setCell ⟨g, i1, none⟩ b1).setCell ⟨g, i2, none⟩ b2).setCell ⟨g, i3, none⟩ b3).setCell ⟨g, i4, none⟩ b4).setCell ⟨g, i5, none⟩ b5).setCell ⟨g, i6, none⟩ b6 =
  ((((((((W.setCell ⟨g, i0, none⟩ b0).setCell ⟨g, i1, none⟩ b1).setCell ⟨g, i2, none⟩ b2).setCell ⟨g, i3, none⟩ b3).setCell ⟨g, i4, none⟩ b4).setCell ⟨g, i5, none⟩ b5).setCell ⟨g, i6, none⟩ b6)).setCell ⟨s, m, none⟩ v := by
 have hc := fun (X : World) (i : Nat) (x : Value) => zlg X s g m i v x h
 rw [hc, hc, hc, hc, hc, hc, hc]
theorem zwx {W : World} {B e n : Nat} {h : Value} {xs : List Value} {a0 a1 a2 a3 a4 a5 a6 : Value} (ho : W.ownsRow B e 7 h (n + 1) (xs ++ [a0, a1, a2, a3, a4, a5, a6])) : ∃ g cap, h = .slice (some ⟨g, 0, none⟩) (n + 1) cap ∧ B ≤ g ∧ g < W.heap.size ∧ (∀ i a, [a0, a1, a2, a3, a4, a5, a6][i]? = some a → W.cell? ⟨g, n * 7 + i, none⟩ = some a) ∧ ∀ i, W.frozen? ⟨g, i, none⟩ = false := by
 have hl := ho.1
 rw [List.length_append] at hl
 simp only [List.length_cons, List.length_nil] at hl
 rcases ho.2 with ⟨_, h0⟩ | ⟨g, cap, cur, rfl, h1, h2, h3, h4, h5, h6⟩
 ·omega
 ·refine ⟨g, cap, rfl, h1, (Array.getElem?_eq_some_iff.1 h2).1, fun i a hi => ?_, fun i => zl h2 i⟩
  have hu : (xs ++ [a0, a1, a2, a3, a4, a5, a6])[n * 7 + i]? = some a := by
   rw [List.getElem?_append_right (by omega), show n * 7 + i - xs.length = i by omega]
   exact hi
  rw [← h6] at hu
  have hlt : n * 7 + i < (n + 1) * 7 := by
   have := (List.getElem?_eq_some_iff.1 hi).1
   simp only [List.length_cons, List.length_nil] at this
   omega
  rw [List.getElem?_take_of_lt hlt, Array.getElem?_toList] at hu
  exact (zf h2 _).trans hu
theorem z0x : (Tryz.prog.info? NDT).map (fun i => (i.zero, i.size, i.bytes)) = some (some (.agg #[.int .i64 0, .int .i64 0, .string ⟨#[]⟩, .int .i64 0, .int .i64 0, .int .i64 0, .slice none 0 0]), 7, 80) := by kernel_rfl
theorem z0o (W : World) (g k : Nat) (b0 b1 b2 b3 b4 b5 b6 : Value) :
  Only g W (((((((W.setCell ⟨g, k, none⟩ b0).setCell ⟨g, k + 1, none⟩ b1).setCell ⟨g, k + 2, none⟩ b2).setCell ⟨g, k + 3, none⟩ b3).setCell ⟨g, k + 4, none⟩ b4).setCell ⟨g, k + 5, none⟩ b5).setCell ⟨g, k + 6, none⟩ b6) :=
 (((((((Only.refl g W).set _ b0).set _ b1).set _ b2).set _ b3).set _ b4).set _ b5).set _ b6
theorem zzg {N0 bb B g6 g1 cap : Nat} {src : ByteArray} {W w1 : World} {s : BSt} {n c : Nd} {hd hc : Value} {Fs Fc : List Nat} {cs : List Value}
  (h : BS N0 bb src W s) (hn : NB W g6 n hd) (ho : W.ownsRow B NDT 7 hd n.f6.length cs) (hl : AL W B NDT n.f6 cs Fs) (hap : ∀ g ∈ Fs, some g ≠ hd.ownBlock)
  (hcr : AR W B NDT c.f6 hc Fc) (hca : ∀ g ∈ Fc, some g ≠ hd.ownBlock) (hF : ∀ g ∈ own1 hd ++ (Fs ++ Fc), g ≠ g6) (hB : B ≤ W.heap.size) (hNB : N0 ≤ B) (hg6 : N0 ≤ g6)
  (hv : w1.ownsRow B NDT 7 (.slice (some ⟨g1, 0, none⟩) (n.f6.length + 1) cap) (n.f6.length + 1) (cs ++ [.int .i64 0, .int .i64 0, .string ⟨#[]⟩, .int .i64 0, .int .i64 0, .int .i64 0, .slice none 0 0])) (hg : W.grownBy w1 hd.ownBlock)
  (hat : (Value.slice (some ⟨g1, 0, none⟩) (n.f6.length + 1) cap).ownBlock = hd.ownBlock ∨ ∃ b, (Value.slice (some ⟨g1, 0, none⟩) (n.f6.length + 1) cap).ownBlock = some b ∧ W.heap.size ≤ b) {W5 : World}
  (hW : ((((((((w1.setCell ⟨g1, n.f6.length * 7, none⟩ (.int .i64 c.f0)).setCell ⟨g1, n.f6.length * 7 + 1, none⟩ (.int .i64 c.f1)).setCell ⟨g1, n.f6.length * 7 + 2, none⟩ (.string c.f2)).setCell ⟨g1, n.f6.length * 7 + 3, none⟩ (.int .i64 c.f3)).setCell ⟨g1, n.f6.length * 7 + 4, none⟩ (.int .i64 c.f4)).setCell ⟨g1, n.f6.length * 7 + 5, none⟩ (.int .i64 c.f5)).setCell ⟨g1, n.f6.length * 7 + 6, none⟩ hc).setCell ⟨g6, 6, none⟩ (.slice (some ⟨g1, 0, none⟩) (n.f6.length + 1) cap)) = W5) :
  NB W5 g6 ⟨n.f0, n.f1, n.f2, n.f3, n.f4, n.f5, n.f6 ++ [c]⟩ (.slice (some ⟨g1, 0, none⟩) (n.f6.length + 1) cap) ∧ Row W5 B (n.f6 ++ [c]) (.slice (some ⟨g1, 0, none⟩) (n.f6.length + 1) cap) (Fs ++ Fc) ∧ BS N0 bb src W5 s ∧ (∀ g, g < W.heap.size → g ≠ g6 → some g ≠ hd.ownBlock → W5.heap[g]? = W.heap[g]?) ∧ W5.os = W.os ∧ W5.tape = W.tape ∧ W5.output = W.output ∧ W.heap.size ≤ W5.heap.size := by
 subst hW
 have g6lt := za8 hn
 have hbb : ∀ g, Ty W NDT g → g ≠ bb := fun g hg e => by
  subst e
  obtain ⟨cc, hb⟩ := h.blk
  obtain ⟨c2, fr, hc2⟩ := hg
  exact Ty.ne hb (by decide) ⟨c2, fr, hc2⟩
 have hrow := zww (b0 := .int .i64 c.f0) (b1 := .int .i64 c.f1) (b2 := .string c.f2) (b3 := .int .i64 c.f3) (b4 := .int .i64 c.f4) (b5 := .int .i64 c.f5) (b6 := hc) hv (by rw [zyq n.f6 cs Fs hl])
 have hg6n : some g6 ≠ hd.ownBlock := fun e => hF g6 (List.mem_append_left _ (zas.2 e.symm)) rfl
 have g1ne : g1 ≠ g6 := zd8 hat hg6n g6lt
 have o7 := z0o w1 g1 (n.f6.length * 7) (.int .i64 c.f0) (.int .i64 c.f1) (.string c.f2) (.int .i64 c.f3) (.int .i64 c.f4) (.int .i64 c.f5) hc
 obtain ⟨w2, hw2⟩ : ∃ w2, (((((((w1.setCell ⟨g1, n.f6.length * 7, none⟩ (.int .i64 c.f0)).setCell ⟨g1, n.f6.length * 7 + 1, none⟩ (.int .i64 c.f1)).setCell ⟨g1, n.f6.length * 7 + 2, none⟩ (.string c.f2)).setCell ⟨g1, n.f6.length * 7 + 3, none⟩ (.int .i64 c.f3)).setCell ⟨g1, n.f6.length * 7 + 4, none⟩ (.int .i64 c.f4)).setCell ⟨g1, n.f6.length * 7 + 5, none⟩ (.int .i64 c.f5)).setCell ⟨g1, n.f6.length * 7 + 6, none⟩ hc) = w2 := ⟨_, rfl⟩
 rw [hw2] at o7 hrow ⊢
 clear hw2
 have kp2 : ∀ g, g < W.heap.size → some g ≠ hd.ownBlock → w2.heap[g]? = W.heap[g]? := fun g h1 h3 => (o7.kept g (Nat.lt_of_lt_of_le h1 hg.size) (Ne.symm (zd8 hat h3 h1))).trans (hg.block g h1 h3)
 have kp : ∀ g, g < W.heap.size → g ≠ g6 → some g ≠ hd.ownBlock → (w2.setCell ⟨g6, 6, none⟩ (.slice (some ⟨g1, 0, none⟩) (n.f6.length + 1) cap)).heap[g]? = W.heap[g]? := fun g h1 h2 h3 => (Below.heap_setCell w2 ⟨g6, 6, none⟩ _ g h2).trans (kp2 g h1 h3)
 have n2 : w2.heap[g6]? = _ := (kp2 g6 g6lt hg6n).trans hn
 have hbs : N0 ≤ W.heap.size := Nat.le_trans hNB hB
 refine ⟨?_, ⟨⟨cs ++ [.int .i64 c.f0, .int .i64 c.f1, .string c.f2, .int .i64 c.f3, .int .i64 c.f4, .int .i64 c.f5, hc], ?_, ?_⟩, ?_⟩, ?_, kp, o7.os.trans hg.os, o7.tape.trans hg.tape, o7.output.trans hg.output, by simpa [World.setCell] using Nat.le_trans hg.size o7.size⟩
 ·simpa [NB] using zbw n2 6 (.slice (some ⟨g1, 0, none⟩) (n.f6.length + 1) cap)
 ·rw [List.length_append, List.length_singleton]
  exact zm0 hrow (by simpa [Value.ownBlock] using Ne.symm g1ne) _ _
 ·refine zop n.f6 [c] cs _ Fs Fc (zhx n.f6 cs Fs hl (fun g hg2 => ?_)) (z1t (z1v.2 ⟨hc, rfl, zfo hcr (fun g hg2 => ?_)⟩))
  ·exact kp g (zhm n.f6 cs Fs hl g hg2).2.1 (hF g (List.mem_append_right _ (List.mem_append_left _ hg2))) (hap g hg2)
  ·exact kp g (zc8 hcr g hg2).2.1 (hF g (List.mem_append_right _ (List.mem_append_right _ hg2))) (hca g hg2)
 ·intro g hg2
  have hlt : g < W.heap.size := by
   rcases List.mem_append.1 hg2 with hh | hh
   ·exact (zhm n.f6 cs Fs hl g hh).2.1
   ·exact (zc8 hcr g hh).2.1
  have hne : some g ≠ hd.ownBlock := by
   rcases List.mem_append.1 hg2 with hh | hh
   ·exact hap g hh
   ·exact hca g hh
  rcases hat with e | ⟨b, e, hb⟩
  ·rw [e]
   exact hne
  ·rw [e]
   intro hh
   injection hh with hh
   omega
 ·obtain ⟨dv, k1, k2⟩ := h.obj
  have bbne : some bb ≠ hd.ownBlock := fun e => by
   obtain ⟨_, _, cur, hcur⟩ := zax ho bb (zas.2 e.symm)
   exact Ty.ne k1 (by decide) ⟨_, _, hcur⟩
  have bb6 : bb ≠ g6 := fun e => by subst e; exact Ty.ne k1 (by decide) ⟨_, _, hn⟩
  refine ⟨⟨dv, (kp bb (za8 k1) bb6 bbne).trans k1, za7 k2 (fun g hg2 => ?_)⟩, h.ge, h.glb.keep (fun g g1' g2' => kp g g2' (by omega) (fun e => ?_))⟩
  ·obtain ⟨_, b2, cur, b3⟩ := zax k2 g hg2
   refine kp g b2 (fun e => by subst e; exact Ty.ne hn (by decide) ⟨_, _, b3⟩) (fun e => ?_)
   obtain ⟨_, _, cur2, hcur⟩ := zax ho g (zas.2 e.symm)
   exact Ty.ne hcur (by decide) ⟨_, _, b3⟩
  ·have := (zax ho g (zas.2 e.symm)).1
   omega
abbrev TRT : TypeId := 128
def TRlo (N0 : Nat) (W : World) (ks : List Tree) (h : Value) : Prop := ∃ B F, TR W B TRT ks h F ∧ ∀ g ∈ F, g < N0
theorem TRlo.keep {N0 : Nat} {W W' : World} {ks : List Tree} {h : Value} (r : TRlo N0 W ks h) (hk : ∀ g, g < N0 → g < W.heap.size → W'.heap[g]? = W.heap[g]?) : TRlo N0 W' ks h := by
 obtain ⟨B, F, h1, h2⟩ := r
 exact ⟨B, F, zeb h1 (fun g hg => hk g (h2 g hg) (zf9 h1 g hg).2.1), h2⟩
theorem TRlo.bfr {N0 bb : Nat} {G : Nat → Prop} {W W' : World} {ks : List Tree} {h : Value} (r : TRlo N0 W ks h) (f : BFr N0 bb G W W') (hb : N0 ≤ bb) (hG : ∀ g, G g → N0 ≤ g) : TRlo N0 W' ks h :=
 r.keep (fun g h1 h2 => f.kept g h2 (by omega) (fun hh => by have := hG g hh; omega) (.inl h1))
theorem TRlo.slice {N0 : Nat} {W : World} {ks : List Tree} {h : Value} (r : TRlo N0 W ks h) : ∃ A c, h = .slice A ks.length c := by
 obtain ⟨B, F, ⟨cs, Fs, ho, _⟩, _⟩ := r
 exact Par.za3 ho
theorem TRlo.at {N0 : Nat} {W : World} {ks : List Tree} {A : Option Addr} {c : Nat} (r : TRlo N0 W ks (.slice A ks.length c)) {i : Nat} (hi : i < ks.length) : ∃ tg hi', A = some ⟨tg, 0, none⟩ ∧ W.cell? ⟨tg, i * 3, none⟩ = some (.int .i64 (ks[i]).kind) ∧ W.cell? ⟨tg, i * 3 + 1, none⟩ = some (.string (ks[i]).text) ∧ W.cell? ⟨tg, i * 3 + 2, none⟩ = some hi' ∧ TRlo N0 W (ks[i]).kids hi' ∧ tg < N0 := by
 obtain ⟨B, F, ⟨cs, Fs, ho, rfl, hl⟩, hF⟩ := r
 obtain ⟨cc, Fi, h1, h2, h3⟩ := z1i ks cs Fs i ks[i] hl (List.getElem?_eq_getElem hi)
 obtain ⟨t, ht⟩ : ∃ t, ks[i] = t := ⟨_, rfl⟩
 rw [ht] at h1 ⊢
 obtain ⟨k, x, kk⟩ := t
 rw [zih] at h1
 obtain ⟨hc, rfl, h4⟩ := h1
 rcases ho.2 with ⟨_, h0⟩ | ⟨g, cap, cur, e, _⟩
 ·omega
 ·injection e with e1 e2 e3
  subst e1
  have hk : ∀ j v, ([.int .i64 k, .string x, hc] : List Value)[j]? = some v → W.cell? ⟨g, i * 3 + j, none⟩ = some v := fun j v hj => by
   have := ho.cells (g := g) rfl _ _ (h2 j v hj)
   rw [Addr.add_lit, Nat.zero_add] at this
   exact this
  exact ⟨g, hc, rfl, hk 0 _ rfl, hk 1 _ rfl, hk 2 _ rfl, ⟨B, Fi, h4, fun g hg => hF g (List.mem_append_right _ (h3 g hg))⟩, hF g (List.mem_append_left _ (by simp [own1, Value.ownBlock]))⟩
structure Nst (N0 bb : Nat) (src : ByteArray) (ks : List Tree) (n0 : Nd) (s0 : BSt) (W : World) (wr : World) (i : Nat) (n : Nd) (s : BSt) (hd : Value) (Fs : List Nat) : Prop where
 le : i ≤ ks.length
 go : zbf src (ks.drop i) n s = zbf src ks n0 s0
 bs : BS N0 bb src wr s
 fr : BFr N0 bb NoG W wr
 b4 : wr.heap[W.heap.size + 1]? = some (.cells #[.int .i64 0, .int .i64 0, .string ⟨#[]⟩, .int .i64 0, .int .i64 0, .int .i64 0, .slice none 0 0] NDT (0, 0))
 nb : NB wr (W.heap.size + 1 + 1) n hd
 row : Row wr W.heap.size n.f6 hd Fs
 far : ∀ g ∈ own1 hd ++ Fs, W.heap.size + 3 ≤ g
 kids : n.f6.length ≤ i
 ds : s.ds.length + cntL (ks.drop i) + zci (ks.drop i) ≤ s0.ds.length + cntL ks + zci ks
 off : s.off + zci (ks.drop i) = s0.off + zci ks
theorem Nst.kid {N0 bb i g6 g1 cap1 hdc hcc : Nat} {src : ByteArray} {ks : List Tree} {n0 n : Nd} {s0 s1 : BSt} {W wr w2 w3 w4 w5 w1 : World} {hdA hcA : Option Addr} {Fs Fc : List Nat} {cs : List Value} {t : Tree} {c : Nd × BSt}
  (hN : N0 ≤ W.heap.size) (hG : W.heap.size + 1 + 1 = g6) (HN : Nst N0 bb src ks n0 s0 W wr i n s1 (.slice hdA n.f6.length hdc) Fs) (HD : ks.drop i = t :: ks.drop (i + 1)) (hA1 : BS N0 bb src w2 s1) (hb2 : Below wr.heap.size wr w2)
  (hds5 : s1.ds.length + (cntT t + cntL (ks.drop (i + 1))) + (zem t + zci (ks.drop (i + 1))) ≤ s0.ds.length + cntL ks + zci ks) (hof5 : s1.off + (zem t + zci (ks.drop (i + 1))) = s0.off + zci ks)
  (r3 : AR w3 w2.heap.size NDT c.1.f6 (.slice hcA c.1.f6.length hcc) Fc) (b3 : BS N0 bb src w3 c.2) (f3 : BFr N0 bb NoG w2 w3) (hb4 : Below w3.heap.size w3 w4) (hk6 : ∀ g, g < wr.heap.size → Ty wr NDT g → w4.heap[g]? = wr.heap[g]?)
  (hcr : zv8 s1 c.2 c.1 (cntT t) (zem t)) (hgo : zbf src (ks.drop (i + 1)) (zdh n c.1) c.2 = zbf src ks n0 s0)
  (hro : w5.ownsRow W.heap.size NDT 7 (.slice hdA n.f6.length hdc) n.f6.length cs) (hrl : AL w5 W.heap.size NDT n.f6 cs Fs) (hrap : ∀ g ∈ Fs, some g ≠ (Value.slice hdA n.f6.length hdc).ownBlock) (n5 : NB w5 g6 (zay n c.1.f3 c.1.f4) (.slice hdA n.f6.length hdc)) (o5 : Only g6 w4 w5)
  (hown : w1.ownsRow W.heap.size NDT 7 (.slice (some ⟨g1, 0, none⟩) (n.f6.length + 1) cap1) (n.f6.length + 1) (cs ++ [.int .i64 0, .int .i64 0, .string ⟨#[]⟩, .int .i64 0, .int .i64 0, .int .i64 0, .slice none 0 0]))
  (hg : w5.drew.grownBy w1 (Value.slice hdA n.f6.length hdc).ownBlock)
  (hat : (Value.slice (some ⟨g1, 0, none⟩) (n.f6.length + 1) cap1).ownBlock = (Value.slice hdA n.f6.length hdc).ownBlock ∨ ∃ b, (Value.slice (some ⟨g1, 0, none⟩) (n.f6.length + 1) cap1).ownBlock = some b ∧ w5.drew.heap.size ≤ b) (hlt : i < ks.length) :
  Nst N0 bb src ks n0 s0 W ((((((((w1.setCell ⟨g1, n.f6.length * 7, none⟩ (.int .i64 c.1.f0)).setCell ⟨g1, n.f6.length * 7 + 1, none⟩ (.int .i64 c.1.f1)).setCell ⟨g1, n.f6.length * 7 + 2, none⟩ (.string c.1.f2)).setCell ⟨g1, n.f6.length * 7 + 3, none⟩ (.int .i64 c.1.f3)).setCell ⟨g1, n.f6.length * 7 + 4, none⟩ (.int .i64 c.1.f4)).setCell ⟨g1, n.f6.length * 7 + 5, none⟩ (.int .i64 c.1.f5)).setCell ⟨g1, n.f6.length * 7 + 6, none⟩ (.slice hcA c.1.f6.length hcc)).setCell ⟨g6, 6, none⟩ (.slice (some ⟨g1, 0, none⟩) (n.f6.length + 1) cap1)) (i + 1) (zdh n c.1) c.2 (.slice (some ⟨g1, 0, none⟩) (n.f6.length + 1) cap1) (Fs ++ Fc) := by
 have hfar := HN.far
 have h23 := f3.size
 have h34 := hb4.size
 have h12 := hb2.size
 have h45 := o5.size
 have hsz : W.heap.size + 1 + 1 < wr.heap.size := za8 HN.nb
 have hFc := fun g hg => zc8 r3 g hg
 have n4 : NB w4 g6 n (.slice hdA n.f6.length hdc) := by rw [← hG]; exact (hk6 _ hsz (Ty.of HN.nb)).trans HN.nb
 have hbb : bb ≠ g6 := fun e => by
  obtain ⟨cb, hb⟩ := (b3.below hb4).blk
  rw [e] at hb
  exact Ty.ne hb (by decide) ⟨_, _, n4⟩
 have b5 : BS N0 bb src w5 c.2 := (b3.below hb4).only o5 (by omega) (Ne.symm hbb) (NB.ty n4)
 have hkc : ∀ g ∈ Fc, w5.heap[g]? = w3.heap[g]? := fun g hg => by
  have := hFc g hg
  rw [o5.kept g (by omega) (by omega), hb4.block g (by omega)]
 have hbt : w5.drew.heap.size = w5.heap.size := rfl
 obtain ⟨W6, hW6⟩ : ∃ W6, (((((((w1.setCell ⟨g1, n.f6.length * 7, none⟩ (.int .i64 c.1.f0)).setCell ⟨g1, n.f6.length * 7 + 1, none⟩ (.int .i64 c.1.f1)).setCell ⟨g1, n.f6.length * 7 + 2, none⟩ (.string c.1.f2)).setCell ⟨g1, n.f6.length * 7 + 3, none⟩ (.int .i64 c.1.f3)).setCell ⟨g1, n.f6.length * 7 + 4, none⟩ (.int .i64 c.1.f4)).setCell ⟨g1, n.f6.length * 7 + 5, none⟩ (.int .i64 c.1.f5)).setCell ⟨g1, n.f6.length * 7 + 6, none⟩ (.slice hcA c.1.f6.length hcc)).setCell ⟨g6, 6, none⟩ (.slice (some ⟨g1, 0, none⟩) (n.f6.length + 1) cap1) = W6 := ⟨_, rfl⟩
 obtain ⟨k1, k2, k3, k4, k5, k6, k7, k8⟩ := zzg (W := w5.drew) (s := c.2) (n := zay n c.1.f3 c.1.f4) (c := c.1) (Fs := Fs) (Fc := Fc) (B := W.heap.size) (g6 := g6) (hc := .slice hcA c.1.f6.length hcc) (b5.below (zae (Below.refl _ _))) n5 (za7 hro (fun g hg => rfl)) (zhx n.f6 cs Fs hrl (fun g hg => rfl)) hrap (zfo (zyp r3 (by omega)) (fun g hg => hkc g hg)) (fun g hg e => by
  have := (hFc g hg).1
  have := (HN.row.bound g (List.mem_append_left _ (zas.2 e.symm))).2.1
  omega) (fun g hg => by
  rcases List.mem_append.1 hg with h | h
  ·have := hfar g (List.mem_append_left _ h); omega
  ·rcases List.mem_append.1 h with h | h
   ·have := hfar g (List.mem_append_right _ h); omega
   ·have := (hFc g h).1; omega) (by omega) hN (by omega) hown hg hat hW6
 rw [hW6]
 have k45 : ∀ g, g < w4.heap.size → g ≠ g6 → some g ≠ (Value.slice hdA n.f6.length hdc).ownBlock → W6.heap[g]? = w4.heap[g]? := fun g h1 h2 h3 => (k4 g (by omega) h2 h3).trans (o5.kept g h1 h2)
 clear hW6
 refine ⟨by omega, hgo, k3, ⟨k5.trans (o5.os.trans (hb4.os.trans (f3.os.trans (hb2.os.trans HN.fr.os)))), k6.trans (o5.tape.trans (hb4.tape.trans (f3.tape.trans (hb2.tape.trans HN.fr.tape)))), k7.trans (o5.output.trans (hb4.output.trans (f3.output.trans (hb2.output.trans HN.fr.output)))), by omega, fun g g1' g2 g3 g4 => ?_⟩, ?_, ?_, k2, ?_, ?_, ?_, ?_⟩
 ·have e1 := HN.fr.kept g g1' g2 g3 g4
  have e2 : w2.heap[g]? = wr.heap[g]? := hb2.block g (by omega)
  rw [k45 g (by omega) (by omega) (fun e => by have := hfar g (List.mem_append_left _ (zas.2 e.symm)); omega), hb4.block g (by omega), f3.kept g (by omega) g2 (fun h => h) (g4.imp id (fun h hh => h (by obtain ⟨c, fr, hc⟩ := hh; exact ⟨c, fr, (e1.symm.trans e2.symm).trans hc⟩))), e2, e1]
 ·rw [k45 (W.heap.size + 1) (by omega) (by omega) (fun e => by have := hfar _ (List.mem_append_left _ (zas.2 e.symm)); omega)]
  exact (hk6 _ (za8 HN.b4) (Ty.of HN.b4)).trans HN.b4
 ·rw [hG]
  exact k1
 ·intro g hg
  rcases List.mem_append.1 hg with h | h
  ·have e : g = g1 := by simpa [own1, Value.ownBlock] using h
   subst e
   rcases hat with e | ⟨b, e, hb'⟩
   ·exact hfar g (List.mem_append_left _ (zas.2 (e.symm.trans (by simp [Value.ownBlock]))))
   ·have : g = b := by simpa [Value.ownBlock] using e
    omega
  ·rcases List.mem_append.1 h with h | h
   ·exact hfar g (List.mem_append_right _ h)
   ·have := (hFc g h).1; omega
 ·show (n.f6 ++ [c.1]).length ≤ i + 1
  have := HN.kids
  simp only [List.length_append, List.length_singleton]
  omega
 ·have := hcr.ds
  omega
 ·have := hcr.off
  omega
structure FitT (t : Tree) : Prop where
 kids : zfp t.kids
 par : t.kind = 60 → nk t.kids ≠ []
theorem zxo {t : Tree} (h : good t) : FitT t := by
 obtain ⟨k, x, ks⟩ := t
 refine ⟨h.2, fun hk => ?_⟩
 have hk' : k = 60 := hk
 subst hk'
 have hl := h.1
 rw [if_pos (by decide)] at hl
 obtain ⟨c, hc, _⟩ := zv (show oneK isE (nk ks) = true from hl.1)
 show nk ks ≠ []
 rw [hc]
 simp
theorem zp5 {N0 bb : Nat} {src : ByteArray} (hsrc : src.size ≤ 100000) : ∀ (m : Nat) (t : Tree), cntT t ≤ m → FitT t → t.kind < 100 → ∀ (W : World) (s : BSt) (hv : Value), BS N0 bb src W s → TRlo N0 W t.kids hv → N0 ≤ W.heap.size → s.ds.length + cntT t + zem t ≤ 1000000 → s.off + zem t ≤ src.size →
  Calls Tryz.prog 58 #[.pointer (some ⟨bb, 0, none⟩), .agg #[.int .i64 t.kind, .string t.text, hv]] W fun e W' => ∃ hd' F', e = .returned (.agg #[.int .i64 (zbg src t s).1.f0, .int .i64 (zbg src t s).1.f1, .string (zbg src t s).1.f2, .int .i64 (zbg src t s).1.f3, .int .i64 (zbg src t s).1.f4, .int .i64 (zbg src t s).1.f5, hd']) ∧ AR W' W.heap.size NDT (zbg src t s).1.f6 hd' F' ∧ BS N0 bb src W' (zbg src t s).2 ∧ BFr N0 bb NoG W W' := by
 intro m
 induction m with
 | zero => intro t ht; have := zin t; omega
 | succ m ih =>
 rintro ⟨k, x, ks⟩ ht hg hk W s hv h htr hN hds hoff
 simp only [cntT] at ht hds
 rw [zcz k x ks hk] at hds hoff
 obtain ⟨kA, kc, rfl⟩ := htr.slice
 have htr : TRlo N0 W ks (.slice kA ks.length kc) := htr
 have hbl : bb < W.heap.size := by obtain ⟨c, hc⟩ := h.blk; exact za8 hc
 obtain ⟨c0, c1, c2, c3⟩ := h.cells
 have HP := ak (And.intro h (And.intro htr (And.intro hg ih)))
 have hgek := h.ge
 have hlen : ks.length ≤ 1000000 := by have := zpe ks; omega
 clear h htr hg ih
 simp only [Tree.kind, Tree.text, Tree.kids]
 go_enter Tryz.func58, Tryz.ntmps58
 go_wp2_with fail
 obtain ⟨W3, hW3⟩ : ∃ W3, (((W.alloc (.cells #[.int .i64 k, .string x, .slice kA ks.length kc] TRT)).alloc (.cells #[.int .i64 0, .int .i64 0, .string ⟨#[]⟩, .int .i64 0, .int .i64 0, .int .i64 0, .slice none 0 0] NDT)).alloc (.cells #[.int .i64 k, .int .i64 0, .string ⟨#[]⟩, .int .i64 (s.off : Int), .int .i64 (-1), .int .i64 (-1), .slice none 0 0] NDT)) = W3 := ⟨_, rfl⟩
 have hb3 : Below W.heap.size W W3 := by rw [← hW3]; exact zh (zh (zh (Below.refl _ _) _) _) _
 have t4 : W3.heap[W.heap.size + 1]? = some (.cells #[.int .i64 0, .int .i64 0, .string ⟨#[]⟩, .int .i64 0, .int .i64 0, .int .i64 0, .slice none 0 0] NDT (0, 0)) := by
  rw [← hW3]
  have hb := zaj (W.alloc (.cells #[.int .i64 k, .string x, .slice kA ks.length kc] TRT)) (.cells #[.int .i64 0, .int .i64 0, .string ⟨#[]⟩, .int .i64 0, .int .i64 0, .int .i64 0, .slice none 0 0] NDT)
  simp only [World.size_alloc] at hb
  exact za5 hb _
 have t6 : NB W3 (W.heap.size + 1 + 1) ⟨k, 0, zj, s.off, -1, -1, []⟩ (.slice none 0 0) := by
  rw [← hW3]
  have hb := zaj ((W.alloc (.cells #[.int .i64 k, .string x, .slice kA ks.length kc] TRT)).alloc (.cells #[.int .i64 0, .int .i64 0, .string ⟨#[]⟩, .int .i64 0, .int .i64 0, .int .i64 0, .slice none 0 0] NDT)) (.cells #[.int .i64 k, .int .i64 0, .string ⟨#[]⟩, .int .i64 (s.off : Int), .int .i64 (-1), .int .i64 (-1), .slice none 0 0] NDT)
  simp only [World.size_alloc] at hb
  exact hb
 have N0st := ak (show Nst N0 bb src ks ⟨k, 0, zj, s.off, -1, -1, []⟩ s W W3 0 ⟨k, 0, zj, s.off, -1, -1, []⟩ s (.slice none 0 0) [] from ⟨Nat.zero_le _, rfl, HP.out.1.below hb3, .of_below hb3, t4, t6, Row.nil _ _, fun g hg => (by cases hg), Nat.le_refl _, Nat.le_refl _, rfl⟩)
 rw [hW3]
 clear hW3 hb3 t4 t6 c0 c1 c2 c3
 go_loopw [21] (fun z wr => ∃ i : Nat, z = .int .i64 (i : Int) ∧ ∃ n s1 hd Fs, zar (Nst N0 bb src ks ⟨k, 0, zj, s.off, -1, -1, []⟩ s W wr i n s1 hd Fs)) (fun z wr => ks.length - (intOf z).toNat)
 case atStart => exact ⟨0, rfl, _, s, _, [], N0st⟩
 case round =>
  obtain ⟨i, rfl, n, s1, hd, Fs, HN⟩ := hrel
  by_cases hlt : i < ks.length
  ·have i0 : (0 : Int) ≤ (i : Int) := by omega
   have i1 : (i : Int) < (ks.length : Int) := by omega
   have i1b : decide ((i : Int) < (ks.length : Int)) = true := decide_eq_true i1
   have wi : IntKind.i64.wrap ((i : Int) + 1) = (i : Int) + 1 := by rw [IntKind.wrap_i64]; omega
   have htr := HP.out.2.1.bfr HN.out.fr hgek (fun _ h => h.elim)
   obtain ⟨tg, hi, rfl, x0, x1, x2, htc, htl⟩ := htr.at hlt
   obtain ⟨ti, hti⟩ : ∃ ti, ks[i] = ti := ⟨_, rfl⟩
   rw [hti] at x0 x1 htc
   have HTI := ak hti
   clear hti
   obtain ⟨ck, cx, cks⟩ := ti
   simp only [Tree.kind, Tree.text, Tree.kids] at x0 x1 htc
   obtain ⟨hiA, hic, rfl⟩ := htc.slice
   have HC := ak htc
   clear htr htc
   have hdrop : ks.drop i = .mk ck cx cks :: ks.drop (i + 1) := by rw [List.drop_eq_getElem_cons hlt, HTI.out]
   have hgo := HN.out.go
   have hds5 := HN.out.ds
   have hof5 := HN.out.off
   have hgd : good (.mk ck cx cks) := by
    have := HP.out.2.2.1.kids
    rw [← List.take_append_drop i ks, hdrop] at this
    exact (zjc this).1
   have hct : cntT (.mk ck cx cks) ≤ cntL ks := by
    have e : cntL ks = cntL (ks.take i) + cntL (ks.drop i) := by rw [← zfj, List.take_append_drop]
    rw [hdrop] at e
    simp only [cntL] at e
    omega
   rw [hdrop] at hgo hds5 hof5
   rw [zd0] at hds5 hof5
   simp only [cntL] at hds5
   rw [zbf] at hgo
   have hN2 : N0 ≤ wr.heap.size := Nat.le_trans hN HN.out.fr.size
   have hsz : W.heap.size + 1 + 1 < wr.heap.size := za8 HN.out.nb
   obtain ⟨w2, hw2⟩ : ∃ w2, wr.alloc (.cells #[.int .i64 ck, .string cx, .slice hiA cks.length hic] TRT) = w2 := ⟨_, rfl⟩
   have hb2 : Below wr.heap.size wr w2 := by rw [← hw2]; exact zh (Below.refl _ _) _
   have hsz2 := hb2.size
   have tb2 : w2.heap[wr.heap.size]? = some (.cells #[.int .i64 ck, .string cx, .slice hiA cks.length hic] TRT (0, 0)) := by rw [← hw2]; exact zaj wr _
   have y0 : w2.cell? ⟨wr.heap.size, 0, none⟩ = some (.int .i64 ck) := (zf tb2 0).trans rfl
   have y1 : w2.cell? ⟨wr.heap.size, 1, none⟩ = some (.string cx) := (zf tb2 1).trans rfl
   have y2 : w2.cell? ⟨wr.heap.size, 2, none⟩ = some (.slice hiA cks.length hic) := (zf tb2 2).trans rfl
   clear tb2
   have HA := ak (And.intro (HN.out.bs.below hb2) (And.intro (zep HN.out.nb hb2) (And.intro hb2 (And.intro hgo (And.intro hds5 (And.intro hof5 (And.intro hgd hct)))))))
   have HD := ak hdrop
   clear hgo hds5 hof5 hgd hct hb2 hdrop
   by_cases hck : 100 ≤ ck
   ·have kb : decide (100 ≤ ck) = true := decide_eq_true hck
    have hb5 : zem (.mk ck cx cks) = cx.size := zgp _ hck
    go_wp2_with fail
    clear hw2 x0 x1 x2 y0 y1 y2
    refine (zox ck cx hiA cks.length hic HA.out.1 HA.out.2.1 ⟨by omega, by omega⟩ (by omega) (by have := HA.out.2.2.2.2.1; omega) (by have := HA.out.2.2.2.2.2.1; omega)).mono ?_
    rintro e w3 ⟨rfl, n3, b3, f3⟩
    obtain ⟨tf1, tf2⟩ := zd6 n ck cx s1
    have hgo := HA.out.2.2.2.1
    rw [if_pos (show 100 ≤ (Tree.mk ck cx cks).kind from hck)] at hgo
    have hk6 : ∀ g, g < wr.heap.size → Ty wr NDT g → g ≠ W.heap.size + 1 + 1 → w3.heap[g]? = wr.heap[g]? := fun g g1 g2 g3 => by
     obtain ⟨c, fr, hc⟩ := g2
     have hc2 := zep hc HA.out.2.2.1
     obtain ⟨cb, hbb⟩ := HA.out.1.blk
     rw [f3.kept g (za8 hc2) (fun e => by subst e; exact Ty.ne hbb (by decide) ⟨_, _, hc2⟩) g3 (.inr (Ty.ne hc2 (by decide)))]
     exact HA.out.2.2.1.block g g1
    have NX := ak (show Nst N0 bb src ks ⟨k, 0, zj, s.off, -1, -1, []⟩ s W w3 (i + 1) (za6 n ck cx s1).1 (za6 n ck cx s1).2 hd Fs from by
     have hfar := HN.out.far
     refine ⟨by omega, hgo, b3, ⟨f3.os.trans (HA.out.2.2.1.os.trans HN.out.fr.os), f3.tape.trans (HA.out.2.2.1.tape.trans HN.out.fr.tape), f3.output.trans (HA.out.2.2.1.output.trans HN.out.fr.output), by have := f3.size; omega, fun g g1 g2 g3 g4 => ?_⟩, (hk6 _ (za8 HN.out.b4) (Ty.of HN.out.b4) (by omega)).trans HN.out.b4, n3, ?_, hfar, by rw [(zcn _ _ _ _).1]; exact Nat.le_trans HN.out.kids (Nat.le_succ i), ?_, ?_⟩
     ·have e1 := HN.out.fr.kept g g1 g2 g3 g4
      have e2 : w2.heap[g]? = wr.heap[g]? := HA.out.2.2.1.block g (by omega)
      rw [f3.kept g (by omega) g2 (by omega) (g4.imp id (fun h hh => h (by obtain ⟨c, fr, hc⟩ := hh; exact ⟨c, fr, (e1.symm.trans e2.symm).trans hc⟩))), e2, e1]
     ·rw [(zcn _ _ _ _).1]
      exact HN.out.row.kept (fun g hg => hk6 g (HN.out.row.bound g hg).2.1 (HN.out.row.bound g hg).2.2 (by have := hfar g hg; omega))
     ·have := HA.out.2.2.2.2.1
      have := zin (.mk ck cx cks)
      omega
     ·have := HA.out.2.2.2.2.2.1
      omega)
    clear n3 b3 f3 tf1 tf2 hgo hk6
    go_wp2_with fail
    refine ⟨⟨i + 1, rfl, _, _, _, _, NX⟩, ?_⟩
    simp only [intOf]
    omega
   ·have kb : decide (100 ≤ ck) = false := decide_eq_false hck
    go_wp2_with fail
    clear hw2 x0 x1 x2 y0 y1 y2
    refine (HP.out.2.2.2 (.mk ck cx cks) (by have := HA.out.2.2.2.2.2.2.2; omega) (zxo HA.out.2.2.2.2.2.2.1) (show ck < 100 by omega) w2 s1 _ HA.out.1 ?_ (by omega) (by have := HA.out.2.2.2.2.1; omega) (by have := HA.out.2.2.2.2.2.1; omega)).mono ?_
    ·exact HC.out.keep (fun g _ g2 => HA.out.2.2.1.block g g2)
    rintro e w3 ⟨hc, Fc, rfl, r3, b3, f3⟩
    obtain ⟨c, hc0⟩ : ∃ c, zbg src (.mk ck cx cks) s1 = c := ⟨_, rfl⟩
    have hcr := zil src (.mk ck cx cks) HA.out.2.2.2.2.2.2.1 (show ck < 100 by omega) s1
    rw [hc0] at r3 b3 hcr ⊢
    have hgo := HA.out.2.2.2.1
    rw [if_neg (show ¬ 100 ≤ (Tree.mk ck cx cks).kind from Int.not_le.2 hck), hc0] at hgo
    obtain ⟨hcA, hcc, rfl⟩ : ∃ A c', hc = .slice A c.1.f6.length c' := by
     obtain ⟨_, _, ho, _⟩ := r3
     exact Par.za3 ho
    obtain ⟨w4, hw4⟩ : ∃ w4, w3.alloc (.cells #[.int .i64 c.1.f0, .int .i64 c.1.f1, .string c.1.f2, .int .i64 c.1.f3, .int .i64 c.1.f4, .int .i64 c.1.f5, .slice hcA c.1.f6.length hcc] NDT) = w4 := ⟨_, rfl⟩
    have hb4 : Below w3.heap.size w3 w4 := by rw [← hw4]; exact zh (Below.refl _ _) _
    have tb4 : w4.heap[w3.heap.size]? = some (.cells #[.int .i64 c.1.f0, .int .i64 c.1.f1, .string c.1.f2, .int .i64 c.1.f3, .int .i64 c.1.f4, .int .i64 c.1.f5, .slice hcA c.1.f6.length hcc] NDT (0, 0)) := by rw [← hw4]; exact zaj w3 _
    have x3 : w4.cell? ⟨w3.heap.size, 3, none⟩ = some (.int .i64 c.1.f3) := (zf tb4 3).trans rfl
    have x4 : w4.cell? ⟨w3.heap.size, 4, none⟩ = some (.int .i64 c.1.f4) := (zf tb4 4).trans rfl
    have hk6 : ∀ g, g < wr.heap.size → Ty wr NDT g → w4.heap[g]? = wr.heap[g]? := fun g g1 g2 => by
     obtain ⟨c, fr, hc⟩ := g2
     have hc2 := zep hc HA.out.2.2.1
     obtain ⟨cb, hbb⟩ := HA.out.1.blk
     rw [hb4.block g (by have := f3.size; omega), f3.kept g (za8 hc2) (fun e => by subst e; exact Ty.ne hbb (by decide) ⟨_, _, hc2⟩) (fun h => h) (.inr (Ty.ne hc2 (by decide)))]
     exact HA.out.2.2.1.block g g1
    have n4 : NB w4 (W.heap.size + 1 + 1) n hd := (hk6 _ hsz (Ty.of HN.out.nb)).trans HN.out.nb
    have H4 := ak (And.intro r3 (And.intro b3 (And.intro f3 (And.intro hb4 (And.intro tb4 (And.intro hk6 (And.intro n4 (And.intro hcr hgo))))))))
    clear r3 b3 f3 hb4 tb4 hk6 hcr hgo
    go_wp2_with fail
    clear hw4 x3 x4
    refine (zdg c.1.f3 c.1.f4 n4).mono ?_
    clear n4
    rintro e w5 ⟨rfl, n5, o5⟩
    obtain ⟨hdA, hdc, rfl⟩ : ∃ A c', hd = .slice A n.f6.length c' := by
     obtain ⟨_, ho, _⟩ := HN.out.row.row
     exact Par.za3 ho
    obtain ⟨g6, hg6⟩ : ∃ g6, W.heap.size + 1 + 1 = g6 := ⟨_, rfl⟩
    rw [hg6] at n5 o5 ⊢
    have hk5 : ∀ g, g < w4.heap.size → g ≠ g6 → w5.heap[g]? = w4.heap[g]? := o5.kept
    have hfar := HN.out.far
    have h23 := H4.out.2.2.1.size
    have h34 := H4.out.2.2.2.1.size
    have tb5 := (hk5 w3.heap.size (za8 H4.out.2.2.2.2.1) (by omega)).trans H4.out.2.2.2.2.1
    have row5 : Row w5 W.heap.size n.f6 (.slice hdA n.f6.length hdc) Fs := HN.out.row.kept (fun g hg => by
     have hb := HN.out.row.bound g hg
     rw [hk5 g (by have := hb.2.1; omega) (by have := hfar g hg; omega)]
     exact H4.out.2.2.2.2.2.1 g hb.2.1 hb.2.2)
    have hG := ak hg6
    have hsz5 : W.heap.size ≤ w5.heap.size := by have := o5.size; omega
    have hg6lt : g6 < w5.heap.size := za8 n5
    have h3lt : w3.heap.size < w5.heap.size := za8 tb5
    have n6' : w5.cell? ⟨g6, 6, none⟩ = some (.slice hdA n.f6.length hdc) := (zf n5 6).trans rfl
    have hfz6 := zl n5 6
    have q0 : w5.cell? ⟨w3.heap.size, 0, none⟩ = some (.int .i64 c.1.f0) := (zf tb5 0).trans rfl
    have q1 : w5.cell? ⟨w3.heap.size, 1, none⟩ = some (.int .i64 c.1.f1) := (zf tb5 1).trans rfl
    have q2 : w5.cell? ⟨w3.heap.size, 2, none⟩ = some (.string c.1.f2) := (zf tb5 2).trans rfl
    have q3 : w5.cell? ⟨w3.heap.size, 3, none⟩ = some (.int .i64 c.1.f3) := (zf tb5 3).trans rfl
    have q4 : w5.cell? ⟨w3.heap.size, 4, none⟩ = some (.int .i64 c.1.f4) := (zf tb5 4).trans rfl
    have q5 : w5.cell? ⟨w3.heap.size, 5, none⟩ = some (.int .i64 c.1.f5) := (zf tb5 5).trans rfl
    have q6 : w5.cell? ⟨w3.heap.size, 6, none⟩ = some (.slice hcA c.1.f6.length hcc) := (zf tb5 6).trans rfl
    have hn6n : some g6 ≠ (Value.slice hdA n.f6.length hdc).ownBlock := fun e => by
     have := hfar g6 (List.mem_append_left _ (zas.2 e.symm))
     omega
    have h3n : some w3.heap.size ≠ (Value.slice hdA n.f6.length hdc).ownBlock := fun e => by
     have := (HN.out.row.bound _ (List.mem_append_left _ (zas.2 e.symm))).2.1
     omega
    obtain ⟨cs, hro, hrl⟩ := row5.row
    have hrap := row5.apart
    have HR5 := ak (And.intro hro (And.intro hrl (And.intro hrap (And.intro n5 (And.intro o5 (And.intro hn6n (And.intro h3n (And.intro hg6lt (And.intro h3lt (And.intro hsz5 (And.intro hfar (And.intro h23 h34))))))))))))
    have HX := ak (And.intro n6' (And.intro q0 (And.intro q1 (And.intro q2 (And.intro q3 (And.intro q4 (And.intro q5 (And.intro q6 hfz6))))))))
    have hlk : n.f6.length ≤ 1000000 := by have := HN.out.kids; omega
    clear hro hrl hrap n5 o5 hk5 row5 tb5 hg6 hn6n h3n hg6lt h3lt hsz5 hfar h23 h34
    go_wp2_with fail
    refine zbj (ds := [9]) (S := (fun w' => w'.cell? ⟨g6, 6, none⟩ = some (.slice hdA n.f6.length hdc) ∧ w'.cell? ⟨w3.heap.size, 0, none⟩ = some (.int .i64 c.1.f0) ∧ w'.cell? ⟨w3.heap.size, 1, none⟩ = some (.int .i64 c.1.f1) ∧ w'.cell? ⟨w3.heap.size, 2, none⟩ = some (.string c.1.f2) ∧ w'.cell? ⟨w3.heap.size, 3, none⟩ = some (.int .i64 c.1.f3) ∧ w'.cell? ⟨w3.heap.size, 4, none⟩ = some (.int .i64 c.1.f4) ∧ w'.cell? ⟨w3.heap.size, 5, none⟩ = some (.int .i64 c.1.f5) ∧ w'.cell? ⟨w3.heap.size, 6, none⟩ = some (.slice hcA c.1.f6.length hcc))) (by kernel_rfl) ⟨n6', q0, q1, q2, q3, q4, q5, q6⟩ (fun hS => ?_)
    skip
    refine zm (i := 0) (v := .pointer (some ⟨g6, 6, none⟩)) rfl (by kernel_rfl) (by kernel_rfl) (by kernel_rfl) (by kernel_rfl) (by kernel_rfl) (fun _ _ _ h => h) (Or.inl ⟨by rfl, by rintro w' ⟨z1, z2, z3, z4, z5, z6, z7, z8⟩; go_simp⟩) hS ?_
    simp only [Act.put, sia, List.set]
    refine zm (i := 1) (v := .slice hdA n.f6.length hdc) rfl (by kernel_rfl) (by kernel_rfl) (by kernel_rfl) (by kernel_rfl) (by kernel_rfl) (fun _ _ _ h => h) (Or.inl ⟨by rfl, by rintro w' ⟨z1, z2, z3, z4, z5, z6, z7, z8⟩; go_simp⟩) hS ?_
    simp only [Act.put, sia, List.set]
    refine zm (i := 2) (v := .agg #[.int .i64 c.1.f0, .int .i64 c.1.f1, .string c.1.f2, .int .i64 c.1.f3, .int .i64 c.1.f4, .int .i64 c.1.f5, .slice hcA c.1.f6.length hcc]) rfl (by kernel_rfl) (by kernel_rfl) (by kernel_rfl) (by kernel_rfl) (by kernel_rfl) (fun _ _ _ h => h) (Or.inl ⟨by rfl, by rintro w' ⟨z1, z2, z3, z4, z5, z6, z7, z8⟩; go_simp⟩) hS ?_
    simp only [Act.put, sia, List.set]
    refine zm (i := 3) (v := .int .i64 (n.f6.length : Int)) rfl (by kernel_rfl) (by kernel_rfl) (by kernel_rfl) (by kernel_rfl) (by kernel_rfl) (fun _ _ _ h => h) (Or.inl ⟨by rfl, by rintro w' ⟨z1, z2, z3, z4, z5, z6, z7, z8⟩; go_simp⟩) hS ?_
    simp only [Act.put, sia, List.set]
    refine zp (rs := [4]) (by kernel_rfl) (by simp) (zo.cons rfl (by simp) (fun K hK => ?_) zo.nil)
    go_simp
    refine hK.out _ _ (by go_keep) (fun hS => ?_)
    clear hK
    try simp only [Act.put, sia, List.set]
    refine zp (rs := [5]) (by kernel_rfl) (by simp) (zo.cons rfl (by simp) (fun K hK => ?_) zo.nil)
    have hro5 : w5.drew.ownsRow W.heap.size NDT 7 (.slice hdA n.f6.length hdc) n.f6.length cs := za7 HR5.out.1 (fun g hg => rfl)
    have hBW5 : W.heap.size ≤ w5.drew.heap.size := HR5.out.2.2.2.2.2.2.2.2.2.1
    refine zc3 (w0 := w5.drew) (W := w5.drew) W.heap.size (by rfl) (.tmp 40) (.tmp 43) 61 NDT (.agg #[.int .i64 0, .int .i64 0, .string ⟨#[]⟩, .int .i64 0, .int .i64 0, .int .i64 0, .slice none 0 0]) 7 80 (by rfl) Tryz.underlying61 z0x rfl (by decide) (by decide) (.slice hdA n.f6.length hdc) n.f6.length cs [.int .i64 0, .int .i64 0, .string ⟨#[]⟩, .int .i64 0, .int .i64 0, .int .i64 0, .slice none 0 0] rfl rfl rfl (by intro u hu; simp only [List.mem_cons, List.not_mem_nil, or_false] at hu; rcases hu with rfl | rfl | rfl | rfl | rfl | rfl | rfl <;> rfl) hro5 (Below.refl _ _) hBW5 (by omega) ?_
    intro v1 w1 hown hb hg hat
    obtain ⟨g1, cap1, rfl, a1, a2, a3, a4⟩ := zwx hown
    have hgs : g1 ≠ g6 := zd8 hat HR5.out.2.2.2.2.2.1 HR5.out.2.2.2.2.2.2.2.1
    have hgb : g1 ≠ w3.heap.size := zd8 hat HR5.out.2.2.2.2.2.2.1 HR5.out.2.2.2.2.2.2.2.2.1
    have rb6 := hg.block g6 HR5.out.2.2.2.2.2.2.2.1 HR5.out.2.2.2.2.2.1
    have rb3 := hg.block w3.heap.size HR5.out.2.2.2.2.2.2.2.2.1 HR5.out.2.2.2.2.2.2.1
    have r6 : w1.cell? ⟨g6, 6, none⟩ = some (.slice hdA n.f6.length hdc) := (World.cell?_of_block rb6).trans HX.out.1
    have rz : w1.frozen? ⟨g6, 6, none⟩ = false := (World.frozen?_of_block rb6).trans HX.out.2.2.2.2.2.2.2.2
    have p0 : w1.cell? ⟨w3.heap.size, 0, none⟩ = some (.int .i64 c.1.f0) := (World.cell?_of_block rb3).trans HX.out.2.1
    have p1 : w1.cell? ⟨w3.heap.size, 1, none⟩ = some (.int .i64 c.1.f1) := (World.cell?_of_block rb3).trans HX.out.2.2.1
    have p2 : w1.cell? ⟨w3.heap.size, 2, none⟩ = some (.string c.1.f2) := (World.cell?_of_block rb3).trans HX.out.2.2.2.1
    have p3 : w1.cell? ⟨w3.heap.size, 3, none⟩ = some (.int .i64 c.1.f3) := (World.cell?_of_block rb3).trans HX.out.2.2.2.2.1
    have p4 : w1.cell? ⟨w3.heap.size, 4, none⟩ = some (.int .i64 c.1.f4) := (World.cell?_of_block rb3).trans HX.out.2.2.2.2.2.1
    have p5 : w1.cell? ⟨w3.heap.size, 5, none⟩ = some (.int .i64 c.1.f5) := (World.cell?_of_block rb3).trans HX.out.2.2.2.2.2.2.1
    have p6 : w1.cell? ⟨w3.heap.size, 6, none⟩ = some (.slice hcA c.1.f6.length hcc) := (World.cell?_of_block rb3).trans HX.out.2.2.2.2.2.2.2.1
    clear rb6 rb3
    have e0 : w1.cell? ⟨g1, n.f6.length * 7, none⟩ = some (.int .i64 0) := by  exact a3 0 _ rfl
    have e1 : (w1.setCell ⟨g1, n.f6.length * 7, none⟩ (.int .i64 c.1.f0)).cell? ⟨g1, n.f6.length * 7 + 1, none⟩ = some (.int .i64 0) := by rw [World.cell?_setCell_other _ _ _ _ (by intro e; injection e; omega)]; exact a3 1 _ rfl
    have e2 : ((w1.setCell ⟨g1, n.f6.length * 7, none⟩ (.int .i64 c.1.f0)).setCell ⟨g1, n.f6.length * 7 + 1, none⟩ (.int .i64 c.1.f1)).cell? ⟨g1, n.f6.length * 7 + 2, none⟩ = some (.string ⟨#[]⟩) := by rw [World.cell?_setCell_other _ _ _ _ (by intro e; injection e; omega)]; rw [World.cell?_setCell_other _ _ _ _ (by intro e; injection e; omega)]; exact a3 2 _ rfl
    have e3 : (((w1.setCell ⟨g1, n.f6.length * 7, none⟩ (.int .i64 c.1.f0)).setCell ⟨g1, n.f6.length * 7 + 1, none⟩ (.int .i64 c.1.f1)).setCell ⟨g1, n.f6.length * 7 + 2, none⟩ (.string c.1.f2)).cell? ⟨g1, n.f6.length * 7 + 3, none⟩ = some (.int .i64 0) := by rw [World.cell?_setCell_other _ _ _ _ (by intro e; injection e; omega)]; rw [World.cell?_setCell_other _ _ _ _ (by intro e; injection e; omega)]; rw [World.cell?_setCell_other _ _ _ _ (by intro e; injection e; omega)]; exact a3 3 _ rfl
    have e4 : ((((w1.setCell ⟨g1, n.f6.length * 7, none⟩ (.int .i64 c.1.f0)).setCell ⟨g1, n.f6.length * 7 + 1, none⟩ (.int .i64 c.1.f1)).setCell ⟨g1, n.f6.length * 7 + 2, none⟩ (.string c.1.f2)).setCell ⟨g1, n.f6.length * 7 + 3, none⟩ (.int .i64 c.1.f3)).cell? ⟨g1, n.f6.length * 7 + 4, none⟩ = some (.int .i64 0) := by rw [World.cell?_setCell_other _ _ _ _ (by intro e; injection e; omega)]; rw [World.cell?_setCell_other _ _ _ _ (by intro e; injection e; omega)]; rw [World.cell?_setCell_other _ _ _ _ (by intro e; injection e; omega)]; rw [World.cell?_setCell_other _ _ _ _ (by intro e; injection e; omega)]; exact a3 4 _ rfl
    have e5 : (((((w1.setCell ⟨g1, n.f6.length * 7, none⟩ (.int .i64 c.1.f0)).setCell ⟨g1, n.f6.length * 7 + 1, none⟩ (.int .i64 c.1.f1)).setCell ⟨g1, n.f6.length * 7 + 2, none⟩ (.string c.1.f2)).setCell ⟨g1, n.f6.length * 7 + 3, none⟩ (.int .i64 c.1.f3)).setCell ⟨g1, n.f6.length * 7 + 4, none⟩ (.int .i64 c.1.f4)).cell? ⟨g1, n.f6.length * 7 + 5, none⟩ = some (.int .i64 0) := by rw [World.cell?_setCell_other _ _ _ _ (by intro e; injection e; omega)]; rw [World.cell?_setCell_other _ _ _ _ (by intro e; injection e; omega)]; rw [World.cell?_setCell_other _ _ _ _ (by intro e; injection e; omega)]; rw [World.cell?_setCell_other _ _ _ _ (by intro e; injection e; omega)]; rw [World.cell?_setCell_other _ _ _ _ (by intro e; injection e; omega)]; exact a3 5 _ rfl
    have e6 : ((((((w1.setCell ⟨g1, n.f6.length * 7, none⟩ (.int .i64 c.1.f0)).setCell ⟨g1, n.f6.length * 7 + 1, none⟩ (.int .i64 c.1.f1)).setCell ⟨g1, n.f6.length * 7 + 2, none⟩ (.string c.1.f2)).setCell ⟨g1, n.f6.length * 7 + 3, none⟩ (.int .i64 c.1.f3)).setCell ⟨g1, n.f6.length * 7 + 4, none⟩ (.int .i64 c.1.f4)).setCell ⟨g1, n.f6.length * 7 + 5, none⟩ (.int .i64 c.1.f5)).cell? ⟨g1, n.f6.length * 7 + 6, none⟩ = some (.slice none 0 0) := by rw [World.cell?_setCell_other _ _ _ _ (by intro e; injection e; omega)]; rw [World.cell?_setCell_other _ _ _ _ (by intro e; injection e; omega)]; rw [World.cell?_setCell_other _ _ _ _ (by intro e; injection e; omega)]; rw [World.cell?_setCell_other _ _ _ _ (by intro e; injection e; omega)]; rw [World.cell?_setCell_other _ _ _ _ (by intro e; injection e; omega)]; rw [World.cell?_setCell_other _ _ _ _ (by intro e; injection e; omega)]; exact a3 6 _ rfl
    have NX := ak (Nst.kid hN hG.out HN.out HD.out HA.out.1 HA.out.2.2.1 HA.out.2.2.2.2.1 HA.out.2.2.2.2.2.1 H4.out.1 H4.out.2.1 H4.out.2.2.1 H4.out.2.2.2.1 H4.out.2.2.2.2.2.1 H4.out.2.2.2.2.2.2.2.1 H4.out.2.2.2.2.2.2.2.2 HR5.out.1 HR5.out.2.1 HR5.out.2.2.1 HR5.out.2.2.2.1 HR5.out.2.2.2.2.1 hown hg hat hlt)
    clear hown hb hg hat hro5
    have j0 : (0 : Int) ≤ (n.f6.length : Int) := by omega
    have j1 : (n.f6.length : Int) < ((n.f6.length + 1 : Nat) : Int) := by omega
    have j2 : (n.f6.length : Int) < (n.f6.length : Int) + 1 := by omega
    refine hK.out _ _ ⟨r6, p0, p1, p2, p3, p4, p5, p6⟩ (fun hS => ?_)
    clear hK
    try simp only [Act.put, sia, List.set]
    refine zft (i := 6) (v := .pointer (some ⟨g1, n.f6.length * 7, none⟩)) #[true, true, true, true, true, true, true, false, false, false] rfl rfl (by kernel_rfl) (fun _ _ _ h => h) (Or.inl ⟨by rfl, by intro w'; go_simp⟩) rfl ?_
    simp only [Act.put, sia, List.set]
    refine zft (i := 8) (v := .pointer (some ⟨g6, 6, none⟩)) #[true, true, true, true, true, true, true, false, true, false] rfl rfl (by kernel_rfl) (fun _ _ _ h => h) (Or.inl ⟨by rfl, by intro w'; go_simp⟩) rfl ?_
    simp only [Act.put, sia, List.set]
    refine zp (rs := [7, 9]) (by kernel_rfl) (by simp) (zo.cons rfl (by simp) (fun K hK => ?_) (zo.cons_last rfl (by simp) (fun K hK => ?_) zo.nil))
    ·go_simp
     refine hK.out _ _ (by go_keep) (fun hS => ?_)
     clear hK
     try simp only [Act.put, sia, List.set]
     refine zp (rs := [9]) (by kernel_rfl) (by simp) (zo.cons_last rfl (by simp) (fun K hK => ?_) zo.nil)
     go_simp
     refine hK.out _ _ ?_
     refine zq (by kernel_rfl) ?_ _
     clear hK hS
     obtain rfl := hG.out
     clear e0 e1 e2 e3 e4 e5 e6 r6 rz p0 p1 p2 p3 p4 p5 p6 a4
     go_wp2_with fail
     refine ⟨⟨i + 1, rfl, _, _, _, _, NX⟩, ?_⟩
     simp only [intOf]
     omega
    ·go_simp
     refine hK.out _ _ ?_
     clear hK
     try simp only [Act.put, sia, List.set]
     refine zp (rs := [7]) (by kernel_rfl) (by simp) (zhu rfl (fun K hK => ?_) zo.nil)
     clear e0 e1 e2 e3 e4 e5 e6
     have e0 : (w1.setCell ⟨g6, 6, none⟩ (.slice (some ⟨g1, 0, none⟩) (n.f6.length + 1) cap1)).cell? ⟨g1, n.f6.length * 7, none⟩ = some (.int .i64 0) := by rw [World.cell?_setCell_other _ _ _ _ (by intro e; injection e; omega)]; exact a3 0 _ rfl
     have e1 : ((w1.setCell ⟨g6, 6, none⟩ (.slice (some ⟨g1, 0, none⟩) (n.f6.length + 1) cap1)).setCell ⟨g1, n.f6.length * 7, none⟩ (.int .i64 c.1.f0)).cell? ⟨g1, n.f6.length * 7 + 1, none⟩ = some (.int .i64 0) := by rw [World.cell?_setCell_other _ _ _ _ (by intro e; injection e; omega)]; rw [World.cell?_setCell_other _ _ _ _ (by intro e; injection e; omega)]; exact a3 1 _ rfl
     have e2 : (((w1.setCell ⟨g6, 6, none⟩ (.slice (some ⟨g1, 0, none⟩) (n.f6.length + 1) cap1)).setCell ⟨g1, n.f6.length * 7, none⟩ (.int .i64 c.1.f0)).setCell ⟨g1, n.f6.length * 7 + 1, none⟩ (.int .i64 c.1.f1)).cell? ⟨g1, n.f6.length * 7 + 2, none⟩ = some (.string ⟨#[]⟩) := by rw [World.cell?_setCell_other _ _ _ _ (by intro e; injection e; omega)]; rw [World.cell?_setCell_other _ _ _ _ (by intro e; injection e; omega)]; rw [World.cell?_setCell_other _ _ _ _ (by intro e; injection e; omega)]; exact a3 2 _ rfl
     have e3 : ((((w1.setCell ⟨g6, 6, none⟩ (.slice (some ⟨g1, 0, none⟩) (n.f6.length + 1) cap1)).setCell ⟨g1, n.f6.length * 7, none⟩ (.int .i64 c.1.f0)).setCell ⟨g1, n.f6.length * 7 + 1, none⟩ (.int .i64 c.1.f1)).setCell ⟨g1, n.f6.length * 7 + 2, none⟩ (.string c.1.f2)).cell? ⟨g1, n.f6.length * 7 + 3, none⟩ = some (.int .i64 0) := by rw [World.cell?_setCell_other _ _ _ _ (by intro e; injection e; omega)]; rw [World.cell?_setCell_other _ _ _ _ (by intro e; injection e; omega)]; rw [World.cell?_setCell_other _ _ _ _ (by intro e; injection e; omega)]; rw [World.cell?_setCell_other _ _ _ _ (by intro e; injection e; omega)]; exact a3 3 _ rfl
     have e4 : (((((w1.setCell ⟨g6, 6, none⟩ (.slice (some ⟨g1, 0, none⟩) (n.f6.length + 1) cap1)).setCell ⟨g1, n.f6.length * 7, none⟩ (.int .i64 c.1.f0)).setCell ⟨g1, n.f6.length * 7 + 1, none⟩ (.int .i64 c.1.f1)).setCell ⟨g1, n.f6.length * 7 + 2, none⟩ (.string c.1.f2)).setCell ⟨g1, n.f6.length * 7 + 3, none⟩ (.int .i64 c.1.f3)).cell? ⟨g1, n.f6.length * 7 + 4, none⟩ = some (.int .i64 0) := by rw [World.cell?_setCell_other _ _ _ _ (by intro e; injection e; omega)]; rw [World.cell?_setCell_other _ _ _ _ (by intro e; injection e; omega)]; rw [World.cell?_setCell_other _ _ _ _ (by intro e; injection e; omega)]; rw [World.cell?_setCell_other _ _ _ _ (by intro e; injection e; omega)]; rw [World.cell?_setCell_other _ _ _ _ (by intro e; injection e; omega)]; exact a3 4 _ rfl
     have e5 : ((((((w1.setCell ⟨g6, 6, none⟩ (.slice (some ⟨g1, 0, none⟩) (n.f6.length + 1) cap1)).setCell ⟨g1, n.f6.length * 7, none⟩ (.int .i64 c.1.f0)).setCell ⟨g1, n.f6.length * 7 + 1, none⟩ (.int .i64 c.1.f1)).setCell ⟨g1, n.f6.length * 7 + 2, none⟩ (.string c.1.f2)).setCell ⟨g1, n.f6.length * 7 + 3, none⟩ (.int .i64 c.1.f3)).setCell ⟨g1, n.f6.length * 7 + 4, none⟩ (.int .i64 c.1.f4)).cell? ⟨g1, n.f6.length * 7 + 5, none⟩ = some (.int .i64 0) := by rw [World.cell?_setCell_other _ _ _ _ (by intro e; injection e; omega)]; rw [World.cell?_setCell_other _ _ _ _ (by intro e; injection e; omega)]; rw [World.cell?_setCell_other _ _ _ _ (by intro e; injection e; omega)]; rw [World.cell?_setCell_other _ _ _ _ (by intro e; injection e; omega)]; rw [World.cell?_setCell_other _ _ _ _ (by intro e; injection e; omega)]; rw [World.cell?_setCell_other _ _ _ _ (by intro e; injection e; omega)]; exact a3 5 _ rfl
     have e6 : (((((((w1.setCell ⟨g6, 6, none⟩ (.slice (some ⟨g1, 0, none⟩) (n.f6.length + 1) cap1)).setCell ⟨g1, n.f6.length * 7, none⟩ (.int .i64 c.1.f0)).setCell ⟨g1, n.f6.length * 7 + 1, none⟩ (.int .i64 c.1.f1)).setCell ⟨g1, n.f6.length * 7 + 2, none⟩ (.string c.1.f2)).setCell ⟨g1, n.f6.length * 7 + 3, none⟩ (.int .i64 c.1.f3)).setCell ⟨g1, n.f6.length * 7 + 4, none⟩ (.int .i64 c.1.f4)).setCell ⟨g1, n.f6.length * 7 + 5, none⟩ (.int .i64 c.1.f5)).cell? ⟨g1, n.f6.length * 7 + 6, none⟩ = some (.slice none 0 0) := by rw [World.cell?_setCell_other _ _ _ _ (by intro e; injection e; omega)]; rw [World.cell?_setCell_other _ _ _ _ (by intro e; injection e; omega)]; rw [World.cell?_setCell_other _ _ _ _ (by intro e; injection e; omega)]; rw [World.cell?_setCell_other _ _ _ _ (by intro e; injection e; omega)]; rw [World.cell?_setCell_other _ _ _ _ (by intro e; injection e; omega)]; rw [World.cell?_setCell_other _ _ _ _ (by intro e; injection e; omega)]; rw [World.cell?_setCell_other _ _ _ _ (by intro e; injection e; omega)]; exact a3 6 _ rfl
     go_simp
     refine hK.out _ _ (by rintro ⟨z1, z2, z3, z4, z5, z6, z7, z8⟩; go_keep) ?_
     refine zq (by kernel_rfl) ?_ _
     clear hK
     rw [zlf w1 g1 g6 _ _ _ _ _ _ _ _ _ _ _ _ _ _ _ _ hgs]
     obtain rfl := hG.out
     clear e0 e1 e2 e3 e4 e5 e6 r6 rz p0 p1 p2 p3 p4 p5 p6 a4
     go_wp2_with fail
     refine ⟨⟨i + 1, rfl, _, _, _, _, NX⟩, ?_⟩
     simp only [intOf]
     omega
  ·have i1 : ¬ (i : Int) < (ks.length : Int) := by omega
   have i1b : decide ((i : Int) < (ks.length : Int)) = false := decide_eq_false i1
   have hie : i = ks.length := by have := HN.out.le; omega
   subst hie
   have hgo := HN.out.go
   rw [List.drop_length, zbf] at hgo
   have hk2 := zff src ks HP.out.2.2.1.kids s.off ⟨k, 0, zj, s.off, -1, -1, []⟩ s (.inl ⟨rfl, rfl, Nat.le_refl _⟩)
   rw [← hgo] at hk2
   have hrng := hk2.rng
   have hnk := hk2.kids
   have hkd := hk2.kind
   have nb := HN.out.nb
   have c0 : wr.cell? ⟨W.heap.size + 1 + 1, 0, none⟩ = some (.int .i64 n.f0) := (zf nb 0).trans rfl
   have c1 : wr.cell? ⟨W.heap.size + 1 + 1, 1, none⟩ = some (.int .i64 n.f1) := (zf nb 1).trans rfl
   have c2 : wr.cell? ⟨W.heap.size + 1 + 1, 2, none⟩ = some (.string n.f2) := (zf nb 2).trans rfl
   have c3 : wr.cell? ⟨W.heap.size + 1 + 1, 3, none⟩ = some (.int .i64 n.f3) := (zf nb 3).trans rfl
   have c4 : wr.cell? ⟨W.heap.size + 1 + 1, 4, none⟩ = some (.int .i64 n.f4) := (zf nb 4).trans rfl
   have c5 : wr.cell? ⟨W.heap.size + 1 + 1, 5, none⟩ = some (.int .i64 n.f5) := (zf nb 5).trans rfl
   have c6 : wr.cell? ⟨W.heap.size + 1 + 1, 6, none⟩ = some hd := (zf nb 6).trans rfl
   have z4 := zl nb 4
   have HG := ak (And.intro hgo (And.intro hrng (And.intro hnk hkd)))
   clear hgo hk2 hrng hnk hkd nb
   go_wp2_with fail
   obtain ⟨W4, hW4⟩ : ∃ W4, wr.setCell ⟨W.heap.size + 1 + 1, 4, none⟩ (.int .i64 (max n.f4 n.f3)) = W4 := ⟨_, rfl⟩
   have o4 : Only (W.heap.size + 1 + 1) wr W4 := by rw [← hW4]; exact (Only.refl _ _).set _ _
   have b4 := HN.out.bs.only o4 (by omega) (by omega) (NB.ty HN.out.nb)
   have hfar := HN.out.far
   have r4 : Row W4 W.heap.size n.f6 hd Fs := HN.out.row.kept (fun g hg => o4.kept g (HN.out.row.bound g hg).2.1 (by have := hfar g hg; omega))
   have f4 : BFr N0 bb NoG W W4 := ⟨o4.os.trans HN.out.fr.os, o4.tape.trans HN.out.fr.tape, o4.output.trans HN.out.fr.output, Nat.le_trans HN.out.fr.size o4.size, fun g g1 g2 g3 g4 => (o4.kept g (Nat.lt_of_lt_of_le g1 HN.out.fr.size) (by omega)).trans (HN.out.fr.kept g g1 g2 g3 g4)⟩
   have t4 := (o4.kept (W.heap.size + 1) (za8 HN.out.b4) (by omega)).trans HN.out.b4
   have H4 := ak (And.intro b4 (And.intro f4 (And.intro r4 t4)))
   rw [hW4]
   clear hW4 o4 b4 r4 f4 t4 c0 c1 c2 c3 c4 c5 c6 z4
   have hds4 := HN.out.ds
   have hoff4 := HN.out.off
   rw [List.drop_length] at hds4 hoff4
   have e0 : cntL [] = 0 := rfl
   have e1 : zci [] = 0 := rfl
   obtain ⟨r, hr⟩ : ∃ r, zbe src (endP n) s1 = r := ⟨_, rfl⟩
   refine (zl9 (n := endP n) H4.out.1 H4.out.2.2.1.ar (fun h60 => ?_) (fun h46 => ?_) hsrc (Nat.le_trans hN H4.out.2.1.size) (by omega)).mono ?_
   ·have hkd : k = 60 := by rw [← HG.out.2.2.2]; exact h60
    subst hkd
    have hnk := HP.out.2.2.1.par rfl
    have hn := HG.out.2.2.1
    intro h0
    have h0' : n.f6 = [] := h0
    rw [h0'] at hn
    simp only [List.length_nil, Nat.zero_add] at hn
    exact hnk (List.eq_nil_of_length_eq_zero hn.symm)
   ·have hr := HG.out.2.1
    unfold Rng at hr
    simp only [endP]
    omega
   rw [hr]
   rintro e W5 ⟨hd', F', rfl, g1, g2, g3, g4⟩
   have t5 := g4.blk H4.out.2.2.2 (by omega) (fun h => h) (by decide)
   obtain ⟨rA, rc, rfl⟩ : ∃ A c', hd' = .slice A r.1.f6.length c' := by
    obtain ⟨_, _, ho, _⟩ := g1
    exact Par.za3 ho
   have H5 := ak (And.intro g1 (And.intro g2 (And.intro g3 (And.intro (H4.out.2.1.trans g4) t5))))
   have y0 : W5.cell? ⟨W.heap.size + 1, 0, none⟩ = some (.int .i64 0) := (zf t5 0).trans rfl
   have y1 : W5.cell? ⟨W.heap.size + 1, 1, none⟩ = some (.int .i64 0) := (zf t5 1).trans rfl
   have y2 : W5.cell? ⟨W.heap.size + 1, 2, none⟩ = some (.string ⟨#[]⟩) := (zf t5 2).trans rfl
   have y3 : W5.cell? ⟨W.heap.size + 1, 3, none⟩ = some (.int .i64 0) := (zf t5 3).trans rfl
   have y4 : W5.cell? ⟨W.heap.size + 1, 4, none⟩ = some (.int .i64 0) := (zf t5 4).trans rfl
   have y5 : W5.cell? ⟨W.heap.size + 1, 5, none⟩ = some (.int .i64 0) := (zf t5 5).trans rfl
   have y6 : W5.cell? ⟨W.heap.size + 1, 6, none⟩ = some (.slice none 0 0) := (zf t5 6).trans rfl
   have z0 := zl t5 0
   have z1 := zl t5 1
   have z2 := zl t5 2
   have z3 := zl t5 3
   have z4 := zl t5 4
   have z5 := zl t5 5
   have z6 := zl t5 6
   have HR := ak hr
   have HFR := ak hfar
   clear g1 g2 g3 g4 t5 hr hfar e0 e1
   go_wp2_with fail
   obtain ⟨W6, hW6⟩ : ∃ W6, (((((((W5.setCell ⟨W.heap.size + 1, 0, none⟩ (.int .i64 r.1.f0)).setCell ⟨W.heap.size + 1, 1, none⟩ (.int .i64 r.1.f1)).setCell ⟨W.heap.size + 1, 2, none⟩ (.string r.1.f2)).setCell ⟨W.heap.size + 1, 3, none⟩ (.int .i64 r.1.f3)).setCell ⟨W.heap.size + 1, 4, none⟩ (.int .i64 r.1.f4)).setCell ⟨W.heap.size + 1, 5, none⟩ (.int .i64 r.1.f5)).setCell ⟨W.heap.size + 1, 6, none⟩ (.slice rA r.1.f6.length rc)) = W6 := ⟨_, rfl⟩
   obtain ⟨⟨e0, e1, e2, e3, e4, e5, e6⟩, q1, q2, q3⟩ := zjg H5.out.2.2.1 H5.out.2.2.2.1 H5.out.1 H5.out.2.2.2.2 (by omega) hN hbl (fun g hg => by have := HFR.out g (H5.out.2.1 g hg); omega) _ _ _ _ _ _ _ hW6
   rw [hW6]
   refine bodyPost_ret (v := .agg #[.int .i64 r.1.f0, .int .i64 r.1.f1, .string r.1.f2, .int .i64 r.1.f3, .int .i64 r.1.f4, .int .i64 r.1.f5, .slice rA r.1.f6.length rc]) (by simp [results, Tryz.results58, go_sem, e0, e1, e2, e3, e4, e5, e6]) rfl ?_
   have hx : zbg src (.mk k x ks) s = r := by
    rw [zbg, ← HG.out.1]
    exact HR.out
   rw [hx]
   exact ⟨_, F', rfl, q1, q2, q3⟩
end Go.Proofs.YtmoelofaojgjfaaGreatDoor.Par
namespace Go.Proofs.YtmoelofaojgjfaaGreatDoor.Par
open Go.RowKit Go.Sort Go.Proofs.YtmoelofaojgjfaaGreatDoorW.PrintWords Go.Proofs.YtmoelofaojgjfaaGreatDoorW.PrintLast
theorem zoc (x y : Int) (w : World) : Calls Tryz.prog 35 #[.int .i64 x, .int .i64 y] w fun e w' => e = .returned (.int .i64 (Lib.compareInt x y)) ∧ w' = w := by
 go_enter Tryz.func35, Tryz.ntmps35
 go_wp2
 all_goals (go_ret; refine ⟨?_, rfl⟩; unfold Lib.compareInt; (repeat' split) <;> first | rfl | (exfalso; omega))
def cmpS (a b : ByteArray) : Int := if Op.bytesLess a.toList b.toList = true then -1 else if (a.toList == b.toList) = true then 0 else 1
theorem zob (a b : ByteArray) (w : World) : Calls Tryz.prog 103 #[.string a, .string b] w fun e w' => e = .returned (.int .i64 (cmpS a b)) ∧ w' = w := by
 have ra : (a.toList == a.toList) = true := beq_self_eq_true _
 have rb : (b.toList == b.toList) = true := beq_self_eq_true _
 have na : (a.toList != a.toList) = false := by simp
 have nb : (b.toList != b.toList) = false := by simp
 by_cases h1 : Op.bytesLess a.toList b.toList = true
 ·go_enter Tryz.func103, Tryz.ntmps103
  go_wp2
  go_ret
  exact ⟨by rw [cmpS, if_pos h1]; rfl, rfl⟩
 ·have h1' : Op.bytesLess a.toList b.toList = false := by simpa using h1
  by_cases h2 : (a.toList == b.toList) = true
  ·go_enter Tryz.func103, Tryz.ntmps103
   go_wp2
   go_ret
   exact ⟨by rw [cmpS, h1', if_neg (by decide), if_pos h2]; rfl, rfl⟩
  ·have h2' : (a.toList == b.toList) = false := by simpa using h2
   go_enter Tryz.func103, Tryz.ntmps103
   go_wp2
   go_ret
   exact ⟨by rw [cmpS, h1', h2', if_neg (by decide), if_neg (by decide)]; rfl, rfl⟩
def orP : List Int → Int
 | [] => 0
 | x :: xs => if x ≠ 0 then x else orP xs
theorem zlj (xs : List Int) : ∀ (i : Nat), (∀ j x, j < i → xs[j]? = some x → x = 0) → orP (xs.drop i) = orP xs
 | 0, _ => rfl
 | i + 1, h => by
  rw [← zlj xs i (fun j x hj hx => h j x (by omega) hx)]
  cases hx : xs[i]? with
  | none =>
   have := List.getElem?_eq_none_iff.1 hx
   rw [List.drop_eq_nil_of_le (by omega), List.drop_eq_nil_of_le (by omega)]
  | some x =>
   have hi := (List.getElem?_eq_some_iff.1 hx)
   obtain ⟨hi, hx'⟩ := hi
   rw [List.drop_eq_getElem_cons hi, orP, hx', h i x (Nat.lt_succ_self i) hx]
   simp
theorem zw0 (xs : List Int) (b : Nat) (w : World) (h : ∀ i x, xs[i]? = some x → w.cell? ⟨b, i, none⟩ = some (.int .i64 x)) (hl : xs.length ≤ 1000000) :
  Calls Tryz.prog 34 #[.slice (some ⟨b, 0, none⟩) xs.length xs.length] w fun e w' => e = .returned (.int .i64 (orP xs)) ∧ w' = w := by
 have H := ak h
 clear h
 go_enter Tryz.func34, Tryz.ntmps34
 go_wp2_with fail
 have A0 := ak (show ∀ (j : Nat) x, j < 0 → xs[j]? = some x → x = 0 from fun j x hj => absurd hj (Nat.not_lt_zero j))
 go_loopw [8] (fun z wr => ∃ i : Nat, z = .int .i64 (i : Int) ∧ wr = w ∧ i ≤ xs.length ∧ zar (∀ (j : Nat) x, j < i → xs[j]? = some x → x = 0)) (fun z wr => xs.length - (intOf z).toNat)
 case atStart => exact ⟨0, rfl, rfl, Nat.zero_le _, A0⟩
 case round =>
  obtain ⟨i, rfl, rfl, hi, A⟩ := hrel
  by_cases hlt : i < xs.length
  ·have i0 : (0 : Int) ≤ (i : Int) := by omega
   have i1 : (i : Int) < (xs.length : Int) := by omega
   have wi : IntKind.i64.wrap ((i : Int) + 1) = (i : Int) + 1 := by rw [IntKind.wrap_i64]; omega
   have hx := List.getElem?_eq_getElem hlt
   obtain ⟨x, hxe⟩ : ∃ x, xs[i] = x := ⟨_, rfl⟩
   rw [hxe] at hx
   have c := H.out i x hx
   have X := ak hx
   clear hx hxe
   by_cases h0 : x = 0
   ·subst h0
    go_wp2_with fail
    refine ⟨⟨i + 1, rfl, trivial, by omega, ak (fun j y hj hy => ?_)⟩, ?_⟩
    ·by_cases e : j = i
     ·subst e
      have := X.out
      rw [this] at hy
      injection hy with hy
      exact hy.symm
     ·exact A.out j y (by omega) hy
    ·simp only [intOf]
     omega
   ·have d0 : (x == 0) = false := beq_eq_false_iff_ne.mpr h0
    have d1 : (x != 0) = true := bne_iff_ne.mpr h0
    go_wp2_with fail
    go_ret
    refine ⟨?_, rfl⟩
    have e := zlj xs i A.out
    rw [List.drop_eq_getElem_cons hlt, orP, (List.getElem?_eq_some_iff.1 X.out).2, if_pos h0] at e
    rw [e]
    rfl
  ·have i1 : ¬ (i : Int) < (xs.length : Int) := by omega
   go_wp2_with fail
   go_ret
   refine ⟨?_, rfl⟩
   have e := zlj xs i A.out
   rw [List.drop_eq_nil_of_le (by omega)] at e
   rw [← e]
   rfl
theorem zt9 (x y z u v : Int) (b : Nat) (w : World) (h0 : w.cell? ⟨b, 0, none⟩ = some (.int .i64 x)) (h1 : w.cell? ⟨b, 1, none⟩ = some (.int .i64 y)) (h2 : w.cell? ⟨b, 2, none⟩ = some (.int .i64 z)) (h3 : w.cell? ⟨b, 3, none⟩ = some (.int .i64 u)) (h4 : w.cell? ⟨b, 4, none⟩ = some (.int .i64 v)) :
  Calls Tryz.prog 34 #[.slice (some ⟨b, 0, none⟩) 5 5] w fun e w' => e = .returned (.int .i64 (orP [x, y, z, u, v])) ∧ w' = w :=
 zw0 [x, y, z, u, v] b w (fun i q hq => by
  match i, hq with
  | 0, hq => injection hq with hq; subst hq; exact h0
  | 1, hq => injection hq with hq; subst hq; exact h1
  | 2, hq => injection hq with hq; subst hq; exact h2
  | 3, hq => injection hq with hq; subst hq; exact h3
  | 4, hq => injection hq with hq; subst hq; exact h4) (by simp)
def cmpD (x y : Dg) : Int := orP [Lib.compareInt x.f1 y.f1, Lib.compareInt x.f2 y.f2, Lib.compareInt x.f3 y.f3, Lib.compareInt x.f0 y.f0, cmpS x.f4 y.f4]
def encD (x : Dg) : List Value := [.int .i64 x.f0, .int .i64 x.f1, .int .i64 x.f2, .int .i64 x.f3, .string x.f4]
theorem zpl (W : World) (a b c : Obj) : (((W.alloc a).alloc b).drew.alloc c) = grow (W.drewN 1) #[a, b, c] := by
 rw [alloc_eq_grow, alloc_eq_grow, alloc_eq_grow]
 show grow (grow (grow (W.drewN 1) #[a]) #[b]) #[c] = _
 rw [grow_grow, grow_grow]
 rfl
theorem zsm (x y : Dg) (W : World) : Calls Tryz.prog 60 #[.agg (encD x).toArray, .agg (encD y).toArray] W fun e w' => e = .returned (.int .i64 (cmpD x y)) ∧ ∃ q os, w' = grow (W.drewN q) os := by
 obtain ⟨x0, x1, x2, x3, x4⟩ := x
 obtain ⟨y0, y1, y2, y3, y4⟩ := y
 simp only [encD]
 obtain ⟨W2, hW2⟩ : ∃ W2, (W.alloc (.cells #[.int .i64 x0, .int .i64 x1, .int .i64 x2, .int .i64 x3, .string x4] 109)).alloc (.cells #[.int .i64 y0, .int .i64 y1, .int .i64 y2, .int .i64 y3, .string y4] 109) = W2 := ⟨_, rfl⟩
 have ta : W2.heap[W.heap.size]? = some (.cells #[.int .i64 x0, .int .i64 x1, .int .i64 x2, .int .i64 x3, .string x4] 109 (0, 0)) := by rw [← hW2]; exact za5 (zaj W _) _
 have tb : W2.heap[W.heap.size + 1]? = some (.cells #[.int .i64 y0, .int .i64 y1, .int .i64 y2, .int .i64 y3, .string y4] 109 (0, 0)) := by
  rw [← hW2]
  have hb := zaj (W.alloc (.cells #[.int .i64 x0, .int .i64 x1, .int .i64 x2, .int .i64 x3, .string x4] 109)) (.cells #[.int .i64 y0, .int .i64 y1, .int .i64 y2, .int .i64 y3, .string y4] 109)
  simp only [World.size_alloc] at hb
  exact hb
 have a0 : W2.cell? ⟨W.heap.size, 0, none⟩ = some (.int .i64 x0) := (zf ta 0).trans rfl
 have a1 : W2.cell? ⟨W.heap.size, 1, none⟩ = some (.int .i64 x1) := (zf ta 1).trans rfl
 have a2 : W2.cell? ⟨W.heap.size, 2, none⟩ = some (.int .i64 x2) := (zf ta 2).trans rfl
 have a3 : W2.cell? ⟨W.heap.size, 3, none⟩ = some (.int .i64 x3) := (zf ta 3).trans rfl
 have a4 : W2.cell? ⟨W.heap.size, 4, none⟩ = some (.string x4) := (zf ta 4).trans rfl
 have b0 : W2.cell? ⟨W.heap.size + 1, 0, none⟩ = some (.int .i64 y0) := (zf tb 0).trans rfl
 have b1 : W2.cell? ⟨W.heap.size + 1, 1, none⟩ = some (.int .i64 y1) := (zf tb 1).trans rfl
 have b2 : W2.cell? ⟨W.heap.size + 1, 2, none⟩ = some (.int .i64 y2) := (zf tb 2).trans rfl
 have b3 : W2.cell? ⟨W.heap.size + 1, 3, none⟩ = some (.int .i64 y3) := (zf tb 3).trans rfl
 have b4 : W2.cell? ⟨W.heap.size + 1, 4, none⟩ = some (.string y4) := (zf tb 4).trans rfl
 have H2 := ak hW2
 clear ta tb
 go_enter Tryz.func60, Tryz.ntmps60
 go_wp2_with fail
 clear hW2
 go_region_held3 (fun w' => w'.cell? ⟨W.heap.size, 0, none⟩ = some (.int .i64 x0) ∧ w'.cell? ⟨W.heap.size, 1, none⟩ = some (.int .i64 x1) ∧ w'.cell? ⟨W.heap.size, 2, none⟩ = some (.int .i64 x2) ∧ w'.cell? ⟨W.heap.size, 3, none⟩ = some (.int .i64 x3) ∧ w'.cell? ⟨W.heap.size, 4, none⟩ = some (.string x4) ∧ w'.cell? ⟨W.heap.size + 1, 0, none⟩ = some (.int .i64 y0) ∧ w'.cell? ⟨W.heap.size + 1, 1, none⟩ = some (.int .i64 y1) ∧ w'.cell? ⟨W.heap.size + 1, 2, none⟩ = some (.int .i64 y2) ∧ w'.cell? ⟨W.heap.size + 1, 3, none⟩ = some (.int .i64 y3) ∧ w'.cell? ⟨W.heap.size + 1, 4, none⟩ = some (.string y4)) (go_keep) (first | (go_at_call 35; refine (zoc _ _ _).mono ?_; rintro e w' ⟨rfl, rfl⟩) | (go_at_call 103; refine (zob _ _ _).mono ?_; rintro e w' ⟨rfl, rfl⟩) | (go_at_call 34; refine (zt9 (Lib.compareInt x1 y1) (Lib.compareInt x2 y2) (Lib.compareInt x3 y3) (Lib.compareInt x0 y0) (cmpS x4 y4) W2.heap.size _ ((zf (heap_alloc_new W2.drew _) 0).trans rfl) ((zf (heap_alloc_new W2.drew _) 1).trans rfl) ((zf (heap_alloc_new W2.drew _) 2).trans rfl) ((zf (heap_alloc_new W2.drew _) 3).trans rfl) ((zf (heap_alloc_new W2.drew _) 4).trans rfl)).mono ?_; rintro e w' ⟨rfl, rfl⟩))
 go_wp2
 go_ret
 refine ⟨rfl, 1, #[.cells #[.int .i64 x0, .int .i64 x1, .int .i64 x2, .int .i64 x3, .string x4] 109, .cells #[.int .i64 y0, .int .i64 y1, .int .i64 y2, .int .i64 y3, .string y4] 109, .cells #[.int .i64 (Lib.compareInt x1 y1), .int .i64 (Lib.compareInt x2 y2), .int .i64 (Lib.compareInt x3 y3), .int .i64 (Lib.compareInt x0 y0), .int .i64 (cmpS x4 y4)] 3], ?_⟩
 rw [← zpl, H2.out]
 rfl
structure Ordr {α : Type} (c : α → α → Int) : Prop where
 anti : ∀ x y, c x y < 0 ↔ 0 < c y x
 le : ∀ x y z, c x y ≤ 0 → c y z ≤ 0 → c x z ≤ 0
theorem Ordr.lt {α : Type} {c : α → α → Int} (h : Ordr c) {x y z : α} (h1 : c x y ≤ 0) (h2 : c y z ≤ 0) (h3 : c x y < 0 ∨ c y z < 0) : c x z < 0 := by
 have a := h.le x y z h1 h2
 have b := h.le z x y
 have b' := h.le y z x
 have k1 := h.anti x z
 have k2 := h.anti z x
 have k3 := h.anti y z
 have k4 := h.anti z y
 have k5 := h.anti x y
 have k6 := h.anti y x
 omega
theorem Ordr.lex {α : Type} {c d : α → α → Int} (h : Ordr c) (k : Ordr d) : Ordr (fun x y => if c x y ≠ 0 then c x y else d x y) where
 anti x y := by
  have h1 := h.anti x y
  have h2 := h.anti y x
  have k1 := k.anti x y
  by_cases hc : c x y = 0
  ·have hc' : c y x = 0 := by omega
   simp only [hc, hc', ne_eq, not_true_eq_false, if_false]
   exact k1
  ·have hc' : c y x ≠ 0 := by omega
   simp only [hc, hc', ne_eq, not_false_eq_true, if_true]
   exact h1
 le x y z h1 h2 := by
  have kk := k.le x y z
  by_cases a : c x y = 0
  ·by_cases b : c y z = 0
   ·have e : c x z = 0 := by
     have := h.le x y z (by omega) (by omega)
     have := h.le z y x (by have := h.anti z y; have := h.anti y z; omega) (by have := h.anti x y; have := h.anti y x; omega)
     have := h.anti x z
     have := h.anti z x
     omega
    simp only [a, b, e, ne_eq, not_true_eq_false, if_false] at h1 h2 ⊢
    exact kk h1 h2
   ·simp only [a, b, ne_eq, not_true_eq_false, not_false_eq_true, if_false, if_true] at h1 h2
    have := h.lt (x := x) (y := y) (z := z) (by omega) h2 (by omega)
    rw [if_pos (by omega)]
    omega
  ·simp only [a, ne_eq, not_false_eq_true, if_true] at h1
   have h2' : c y z ≤ 0 := by
    by_cases b : c y z = 0
    ·omega
    ·simp only [b, ne_eq, not_false_eq_true, if_true] at h2
     exact h2
   have := h.lt (x := x) (y := y) (z := z) h1 h2' (by omega)
   rw [if_pos (by omega)]
   omega
theorem zik {α : Type} (f : α → Int) : Ordr (fun x y => Lib.compareInt (f x) (f y)) where
 anti x y := by unfold Lib.compareInt; (repeat' split) <;> omega
 le x y z := by unfold Lib.compareInt; (repeat' split) <;> omega
theorem ze6 (a b : ByteArray) : (cmpS a b < 0 ↔ a.toList < b.toList) ∧ (cmpS a b = 0 ↔ a.toList = b.toList) := by
 unfold cmpS
 rw [bytesLess_eq]
 by_cases h1 : a.toList < b.toList
 ·simp only [h1, decide_true, if_true, iff_true]
  refine ⟨by omega, by omega, fun e => ?_⟩
  rw [e] at h1
  exact absurd h1 (List.lt_irrefl _)
 ·by_cases h2 : a.toList = b.toList
  ·rw [if_neg (by simpa using h1), if_pos (by simp [h2])]
   exact ⟨⟨fun h => absurd h (by omega), fun h => absurd h h1⟩, ⟨fun _ => h2, fun _ => rfl⟩⟩
  ·simp [h1, h2]
theorem zwz {α : Type} (f : α → ByteArray) : Ordr (fun x y => cmpS (f x) (f y)) where
 anti x y := by
  have h1 := ze6 (f x) (f y)
  have h2 := ze6 (f y) (f x)
  constructor
  ·intro h
   have a := h1.1.1 h
   have b : ¬ cmpS (f y) (f x) < 0 := fun hh => List.lt_irrefl _ (List.lt_trans a (h2.1.1 hh))
   have c : ¬ cmpS (f y) (f x) = 0 := fun hh => by
    have := h2.2.1 hh
    rw [this] at a
    exact List.lt_irrefl _ a
   omega
  ·intro h
   refine h1.1.2 ?_
   have b : ¬ (f y).toList < (f x).toList := fun hh => by have := h2.1.2 hh; omega
   have c : ¬ (f y).toList = (f x).toList := fun hh => by have := h2.2.2 hh; omega
   rcases Std.lt_trichotomy (f x).toList (f y).toList with hh | hh | hh
   ·exact hh
   ·exact absurd hh.symm c
   ·exact absurd hh b
 le x y z h1 h2 := by
  have s1 := ze6 (f x) (f y)
  have s2 := ze6 (f y) (f z)
  have s3 := ze6 (f x) (f z)
  have a : (f x).toList < (f y).toList ∨ (f x).toList = (f y).toList := by
   rcases Int.lt_or_eq_of_le h1 with h | h
   ·exact .inl (s1.1.1 h)
   ·exact .inr (s1.2.1 h)
  have b : (f y).toList < (f z).toList ∨ (f y).toList = (f z).toList := by
   rcases Int.lt_or_eq_of_le h2 with h | h
   ·exact .inl (s2.1.1 h)
   ·exact .inr (s2.2.1 h)
  have c : (f x).toList < (f z).toList ∨ (f x).toList = (f z).toList := by
   rcases a with a | a
   ·rcases b with b | b
    ·exact .inl (List.lt_trans a b)
    ·rw [b] at a
     exact .inl a
   ·rw [a]
    exact b
  rcases c with c | c
  ·have := s3.1.2 c
   omega
  ·have := s3.2.2 c
   omega
theorem zt8 : Ordr cmpD := by
 have h := (zik (fun x : Dg => x.f1)).lex ((zik (fun x : Dg => x.f2)).lex ((zik (fun x : Dg => x.f3)).lex ((zik (fun x : Dg => x.f0)).lex (zwz (fun x : Dg => x.f4)))))
 have e : cmpD = fun x y => if Lib.compareInt x.f1 y.f1 ≠ 0 then Lib.compareInt x.f1 y.f1 else if Lib.compareInt x.f2 y.f2 ≠ 0 then Lib.compareInt x.f2 y.f2 else if Lib.compareInt x.f3 y.f3 ≠ 0 then Lib.compareInt x.f3 y.f3 else if Lib.compareInt x.f0 y.f0 ≠ 0 then Lib.compareInt x.f0 y.f0 else cmpS x.f4 y.f4 := by
  funext x y
  simp only [cmpD, orP]
  by_cases h : cmpS x.f4 y.f4 = 0
  ·simp [h]
  ·simp [h]
 rw [e]
 exact h
theorem Ordr.swo {α : Type} {c : α → α → Int} (h : Ordr c) : SWO (ltOf c) where
 irrefl x := by
  have := h.anti x x
  simp only [ltOf, decide_eq_false_iff_not]
  omega
 trans x y z h1 h2 := by
  simp only [ltOf, decide_eq_true_eq] at *
  exact h.lt (by omega) (by omega) (.inl h1)
 ntrans x y z h1 h2 := by
  simp only [ltOf, decide_eq_false_iff_not] at *
  have a := h.anti x y
  have a' := h.anti y x
  have b := h.anti y z
  have b' := h.anti z y
  have d := h.anti x z
  have d' := h.anti z x
  have := h.le z y x (by omega) (by omega)
  omega
theorem zdn {a b : Int} (h : Lib.compareInt a b = 0) : a = b := by
 unfold Lib.compareInt at h
 split at h
 ·omega
 ·split at h
  ·omega
  ·omega
theorem zvo (x y : Dg) (h1 : ltOf cmpD x y = false) (h2 : ltOf cmpD y x = false) : x = y := by
 simp only [ltOf, decide_eq_false_iff_not] at h1 h2
 have a := zt8.anti x y
 have a' := zt8.anti y x
 have h : cmpD x y = 0 := by omega
 obtain ⟨x0, x1, x2, x3, x4⟩ := x
 obtain ⟨y0, y1, y2, y3, y4⟩ := y
 simp only [cmpD, orP] at h
 split at h
 ·contradiction
 rename_i e1
 split at h
 ·contradiction
 rename_i e2
 split at h
 ·contradiction
 rename_i e3
 split at h
 ·contradiction
 rename_i e4
 split at h
 ·contradiction
 rename_i e5
 have f1 := zdn (Classical.not_not.1 e1)
 have f2 := zdn (Classical.not_not.1 e2)
 have f3 := zdn (Classical.not_not.1 e3)
 have f0 := zdn (Classical.not_not.1 e4)
 have f4 := (ze6 x4 y4).2.1 (Classical.not_not.1 e5)
 rw [Go.ByteArray.toList_eq, Go.ByteArray.toList_eq] at f4
 have f5 : x4 = y4 := ByteArray.ext (Array.ext' (by simpa using f4))
 rw [f0, f1, f2, f3, f5]
end Go.Proofs.YtmoelofaojgjfaaGreatDoor.Par
namespace Go.Proofs
open Go.Shelf
def Tryz.sortD_ren : Go.Shelf.Ren := ⟨fun | 6 => 59 | 15 => 67 | 14 => 102 | 28 => 112 | 29 => 113 | 20 => 158 | 21 => 159 | 22 => 160 | 23 => 161 | 24 => 162 | 25 => 163 | 26 => 164 | 27 => 165 | 46 => 236 | 47 => 168 | 48 => 169 | 49 => 237 | 50 => 238 | 57 => 295 | n => n, fun | 22 => 64 | 24 => 109 | 25 => 136 | 3 => 3 | 39 => 146 | 0 => 0 | 53 => 200 | 55 => 202 | 4 => 4 | 46 => 194 | 45 => 193 | 50 => 177 | 5 => 5 | 9 => 9 | 66 => 247 | 70 => 251 | 76 => 283 | 77 => 203 | n => n, fun | n => n⟩
theorem Tryz.sortD : Go.Proofs.SlLaysF0.n6 Tryz.prog Tryz.sortD_ren := {
 mixed := by kernel_rfl
 f6 := ⟨Tryz.f59.name, by decide, Tryz.func59.trans (congrArg some (by kernel_rfl))⟩
 f14 := ⟨Tryz.f102.name, by decide, Tryz.func102.trans (congrArg some (by kernel_rfl))⟩
 f15 := Tryz.func67.trans (congrArg some (by kernel_rfl))
 f20 := ⟨Tryz.f158.name, by decide, Tryz.func158.trans (congrArg some (by kernel_rfl))⟩
 f21 := ⟨Tryz.f159.name, by decide, Tryz.func159.trans (congrArg some (by kernel_rfl))⟩
 f22 := ⟨Tryz.f160.name, by decide, Tryz.func160.trans (congrArg some (by kernel_rfl))⟩
 f23 := ⟨Tryz.f161.name, by decide, Tryz.func161.trans (congrArg some (by kernel_rfl))⟩
 f24 := ⟨Tryz.f162.name, by decide, Tryz.func162.trans (congrArg some (by kernel_rfl))⟩
 f25 := ⟨Tryz.f163.name, by decide, Tryz.func163.trans (congrArg some (by kernel_rfl))⟩
 f26 := ⟨Tryz.f164.name, by decide, Tryz.func164.trans (congrArg some (by kernel_rfl))⟩
 f27 := ⟨Tryz.f165.name, by decide, Tryz.func165.trans (congrArg some (by kernel_rfl))⟩
 f28 := Tryz.func112.trans (congrArg some (by kernel_rfl))
 f29 := Tryz.func113.trans (congrArg some (by kernel_rfl))
 f46 := ⟨Tryz.f236.name, by decide, Tryz.func236.trans (congrArg some (by kernel_rfl))⟩
 f47 := Tryz.func168.trans (congrArg some (by kernel_rfl))
 f48 := Tryz.func169.trans (congrArg some (by kernel_rfl))
 f49 := ⟨Tryz.f237.name, by decide, Tryz.func237.trans (congrArg some (by kernel_rfl))⟩
 f50 := ⟨Tryz.f238.name, by decide, Tryz.func238.trans (congrArg some (by kernel_rfl))⟩
 f57 := ⟨Tryz.f295.name, by decide, Tryz.func295.trans (congrArg some (by kernel_rfl))⟩
 t0 := Tryz.underlying0
 a0 := Tryz.isAgg0
 z0 := Tryz.sizeOf0
 v0 := Tryz.zeroValue0
 t3 := Tryz.underlying3
 a3 := Tryz.isAgg3
 z3 := Tryz.sizeOf3
 v3 := Tryz.zeroValue3
 t4 := Tryz.underlying4
 a4 := Tryz.isAgg4
 z4 := Tryz.sizeOf4
 v4 := Tryz.zeroValue4
 t5 := Tryz.underlying5
 a5 := Tryz.isAgg5
 z5 := Tryz.sizeOf5
 v5 := Tryz.zeroValue5
 t9 := Tryz.underlying9
 a9 := Tryz.isAgg9
 z9 := Tryz.sizeOf9
 v9 := Tryz.zeroValue9
 t22 := Tryz.underlying64
 a22 := Tryz.isAgg64
 z22 := Tryz.sizeOf64
 v22 := Tryz.zeroValue64
 t25 := Tryz.underlying136
 a25 := Tryz.isAgg136
 z25 := Tryz.sizeOf136
 v25 := Tryz.zeroValue136
 t39 := Tryz.underlying146
 a39 := Tryz.isAgg146
 z39 := Tryz.sizeOf146
 v39 := Tryz.zeroValue146
 t45 := Tryz.underlying193
 a45 := Tryz.isAgg193
 z45 := Tryz.sizeOf193
 v45 := Tryz.zeroValue193
 t46 := Tryz.underlying194
 a46 := Tryz.isAgg194
 z46 := Tryz.sizeOf194
 v46 := Tryz.zeroValue194
 t50 := Tryz.underlying177
 a50 := Tryz.isAgg177
 z50 := Tryz.sizeOf177
 v50 := Tryz.zeroValue177
 t53 := Tryz.underlying200
 a53 := Tryz.isAgg200
 z53 := Tryz.sizeOf200
 v53 := Tryz.zeroValue200
 t55 := Tryz.underlying202
 a55 := Tryz.isAgg202
 z55 := Tryz.sizeOf202
 v55 := Tryz.zeroValue202
 t66 := Tryz.underlying247
 a66 := Tryz.isAgg247
 z66 := Tryz.sizeOf247
 v66 := Tryz.zeroValue247
 t70 := Tryz.underlying251
 a70 := Tryz.isAgg251
 z70 := Tryz.sizeOf251
 v70 := Tryz.zeroValue251
 t76 := Tryz.underlying283
 a76 := Tryz.isAgg283
 z76 := Tryz.sizeOf283
 v76 := Tryz.zeroValue283
 t77 := Tryz.underlying203
 a77 := Tryz.isAgg203
 z77 := Tryz.sizeOf203
 v77 := Tryz.zeroValue203 }
end Go.Proofs
namespace Go.Proofs.YtmoelofaojgjfaaGreatDoor.Par
open Go.RowKit Go.Sort Go.Shelf Go.Proofs.YtmoelofaojgjfaaGreatDoorW.PrintWords
theorem zgm {α : Type} [Inhabited α] (enc : α → List Value) (k : Nat) (hk : ∀ x, (enc x).length = k) : ∀ (l : List α) (t : Nat), t < l.length * k → (l.flatMap enc)[t]? = (enc (l[t / k]!))[t % k]?
 | [], t, h => by simp at h
 | x :: xs, t, h => by
  rw [List.flatMap_cons]
  have hk0 : 0 < k := by
   rcases Nat.eq_zero_or_pos k with e | e
   ·subst e; simp at h
   ·exact e
  by_cases ht : t < k
  ·rw [List.getElem?_append_left (by rw [hk]; exact ht), Nat.div_eq_of_lt ht, Nat.mod_eq_of_lt ht]
   rfl
  ·rw [List.getElem?_append_right (by rw [hk]; omega), hk]
   have h2 : t - k < xs.length * k := by
    simp only [List.length_cons, Nat.add_mul, Nat.one_mul] at h
    omega
   rw [zgm enc k hk xs (t - k) h2]
   have e1 : (t - k) % k = t % k := by
    conv => rhs; rw [show t = (t - k) + k by omega, Nat.add_mod_right]
   have e2 : t / k = (t - k) / k + 1 := by
    conv => lhs; rw [show t = (t - k) + k by omega, Nat.add_div_right _ hk0]
   rw [e1, e2]
   rfl
theorem zje {α : Type} (enc : α → List Value) (k : Nat) (hk : ∀ x, (enc x).length = k) (l : List α) : (l.flatMap enc).length = l.length * k := by
 induction l with
 | nil => simp
 | cons x xs ih => rw [List.flatMap_cons, List.length_append, hk, ih, List.length_cons, Nat.add_mul, Nat.one_mul, Nat.add_comm]
theorem zks {α : Type} [Inhabited α] (enc : α → List Value) (k : Nat) (hk : ∀ x, (enc x).length = k) (l : List α) : (flatK enc k l.toArray).toList = l.flatMap enc := by
 have hs : (flatK enc k l.toArray).size = l.length * k := by simp
 apply List.ext_getElem?
 intro t
 by_cases ht : t < l.length * k
 ·have hk0 : 0 < k := by
   rcases Nat.eq_zero_or_pos k with e | e
   ·subst e; simp at ht
   ·exact e
  rw [zgm enc k hk l t ht, Array.getElem?_toList, Array.getElem?_eq_getElem (by rw [hs]; exact ht)]
  have h1 := get_flatK enc k l.toArray t (by simpa using ht)
  rw [getElem!_pos _ t (by rw [hs]; exact ht)] at h1
  rw [h1, getElem!_pos _ (t % k) (by rw [hk]; exact Nat.mod_lt _ hk0), List.getElem?_eq_getElem (by rw [hk]; exact Nat.mod_lt _ hk0)]
  simp
 ·rw [List.getElem?_eq_none (by rw [Array.length_toList, hs]; omega), List.getElem?_eq_none (by rw [zje enc k hk]; omega)]
theorem zwo (F c : Array Value) (h : F.size ≤ c.size) : (putCells id 0 F c).toList.take F.size = F.toList := by
 apply List.ext_getElem?
 intro t
 by_cases ht : t < F.size
 ·rw [List.getElem?_take_of_lt ht, Array.getElem?_toList, Array.getElem?_toList]
  unfold putCells
  rw [Array.getElem?_mapIdx, Array.getElem?_eq_getElem (show t < c.size by omega)]
  simp [ht]
 ·rw [List.getElem?_eq_none (by simp; omega), List.getElem?_eq_none (by simp; omega)]
theorem zt7 {α : Type} [Inhabited α] {enc : α → List Value} {k : Nat} (hk : ∀ x, (enc x).length = k) {W : World} {B e cap g : Nat} {ds : List α} (ho : W.ownsRow B e k (.slice (some ⟨g, 0, none⟩) ds.length cap) ds.length (ds.flatMap enc)) : HoldsK enc k W g 0 ds.toArray ∧ g < W.heap.size := by
 rcases ho.2 with ⟨h, _⟩ | ⟨g', cap', cur, hv, h1, h2, h3, h4, h5, h6⟩
 ·cases h
 ·simp only [Value.slice.injEq, Option.some.injEq, Addr.mk.injEq, and_true] at hv
  obtain ⟨rfl, _, rfl⟩ := hv
  refine ⟨fun j hj => ?_, (Array.getElem?_eq_some_iff.1 h2).1⟩
  have hj' : j < ds.length * k := by simpa using hj
  rw [Nat.zero_add]
  refine ⟨(zf h2 j).trans ?_, zl h2 j⟩
  have hs : (flatK enc k ds.toArray).size = ds.length * k := by simp
  have e : (flatK enc k ds.toArray).toList[j]? = some (id (flatK enc k ds.toArray)[j]!) := by
   rw [Array.getElem?_toList, Array.getElem?_eq_getElem (by rw [hs]; exact hj'), getElem!_pos _ j (by rw [hs]; exact hj')]
   rfl
  rw [zks enc k hk, ← h6, List.getElem?_take_of_lt hj', Array.getElem?_toList] at e
  exact e
theorem zrt {α : Type} [Inhabited α] {enc : α → List Value} {k : Nat} (hk : ∀ x, (enc x).length = k) {W : World} {B e cap g : Nat} {ds d' : List α} (ho : W.ownsRow B e k (.slice (some ⟨g, 0, none⟩) ds.length cap) ds.length (ds.flatMap enc)) (hl : d'.length = ds.length) (m : Nat) (os : Array Obj) :
  (sortWorldK enc k W g 0 m d'.toArray os).ownsRow B e k (.slice (some ⟨g, 0, none⟩) ds.length cap) ds.length (d'.flatMap enc) ∧ Only g W (sortWorldK enc k W g 0 m d'.toArray os) := by
 rcases ho.2 with ⟨h, _⟩ | ⟨g', cap', cur, hv, h1, h2, h3, h4, h5, h6⟩
 ·cases h
 ·simp only [Value.slice.injEq, Option.some.injEq, Addr.mk.injEq, and_true] at hv
  obtain ⟨rfl, _, rfl⟩ := hv
  have hg := (Array.getElem?_eq_some_iff.1 h2).1
  have hsz : (putRow id (Sort.ahead W m) g 0 (flatK enc k d'.toArray)).heap.size = W.heap.size := by simp [putRow, mapBlock, Sort.ahead]
  have hw : (sortWorldK enc k W g 0 m d'.toArray os).heap[g]? = some (.cells (putCells id 0 (flatK enc k d'.toArray) cur) e (0, 0)) := by
   unfold sortWorldK putRowK
   rw [heap_grow_old _ _ (by rw [hsz]; exact hg)]
   simp [putRow, mapBlock, Sort.ahead, Array.getElem?_modify, h2, onCells]
  have hs : (flatK enc k d'.toArray).size = ds.length * k := by simp [hl]
  have hle : ds.length * k ≤ cur.size := by
   rw [h5]
   exact Nat.mul_le_mul_right k h3
  refine ⟨⟨by rw [zje enc k hk, hl], .inr ⟨g, cap, _, rfl, h1, hw, h3, h4, by rw [← h5]; simp [putCells], ?_⟩⟩, rfl, rfl, rfl, ?_, fun b hb hne => ?_⟩
  ·have := zwo (flatK enc k d'.toArray) cur (by rw [hs]; exact hle)
   rw [hs, zks enc k hk] at this
   exact this
  ·unfold sortWorldK putRowK
   rw [size_grow, hsz]
   omega
  ·unfold sortWorldK putRowK
   rw [heap_grow_old _ _ (by rw [hsz]; exact hb)]
   simp [putRow, mapBlock, Sort.ahead, Array.getElem?_modify, Ne.symm hne]
instance : Inhabited Dg := ⟨PA.z109⟩
def sortD (ds : List Dg) : List Dg := ds.mergeSort fun x y => !(ltOf cmpD) y x
theorem zgx (ds : List Dg) : (sortD ds).length = ds.length := by simp [sortD]
theorem zo3 {B : Nat} {W : World} {h : Value} {ds : List Dg} (ho : W.ownsRow B 109 5 h ds.length (zbo ds)) (hl : ds.length ≤ 10000000) :
  Calls Tryz.prog 59 #[h, .func (.func 60) #[] #[]] W fun e W' => e = .returned (.tuple #[]) ∧ W'.ownsRow B 109 5 h ds.length (zbo (sortD ds)) ∧ W'.os = W.os ∧ W'.tape = W.tape ∧ W'.output = W.output ∧ W.heap.size ≤ W'.heap.size ∧ ∀ g, g < W.heap.size → g ∉ own1 h → W'.heap[g]? = W.heap[g]? := by
 rcases ho.2 with ⟨rfl, hn⟩ | ⟨g, cap, cur, rfl, _⟩
 ·have hd : ds = [] := List.eq_nil_of_length_eq_zero hn
  subst hd
  refine (AnyF.slices_SortFunc_none Tryz.sortD none 0 (.func (.func 60) #[] #[]) W).mono ?_
  rintro e W' ⟨rfl, rfl⟩
  exact ⟨rfl, by simpa [sortD] using ho, rfl, rfl, rfl, Nat.le_refl _, fun _ _ _ => rfl⟩
 ·have hh := zt7 (enc := encD) (fun _ => rfl) ho
  have eg : ∀ args w, (callFunc 60 args).run Tryz.prog w = .ok (.enter 60 args) w := enters_of Tryz.func60 (by kernel_rfl) rfl
  refine (AnyQ.slices_SortFunc_total Tryz.sortD 5 Tryz.isAgg109 Tryz.sizeOf109 encD (fun _ => rfl) (fun x v hv => by simp [encD] at hv; rcases hv with rfl | rfl | rfl | rfl | rfl <;> rfl) cmpD zt8.swo 60 #[] g 0 cap ds.toArray W eg (fun m os dk hdk x y => zsm x y _) hh.1 hh.2 (by simp; omega) zvo).mono ?_
  rintro e W' ⟨rfl, n, os, rfl⟩
  obtain ⟨k1, k2⟩ := zrt (enc := encD) (k := 5) (fun _ => rfl) ho (zgx ds) n os
  refine ⟨rfl, k1, k2.os, k2.tape, k2.output, k2.size, fun b hb hn => k2.kept b hb (fun e => hn ?_)⟩
  subst e
  simp [own1, Value.ownBlock]
end Go.Proofs.YtmoelofaojgjfaaGreatDoor.Par
namespace Go.Proofs.YtmoelofaojgjfaaGreatDoor.Par
open Go.RowKit Go.Sort Go.Lib Go.Proofs.YtmoelofaojgjfaaGreatDoorW.PrintWords Go.Proofs.YtmoelofaojgjfaaGreatDoorW.PrintLast
instance : DecidableEq Dg := fun x y => decidable_of_iff (x.f0 = y.f0 ∧ x.f1 = y.f1 ∧ x.f2 = y.f2 ∧ x.f3 = y.f3 ∧ x.f4 = y.f4) ⟨fun ⟨a, b, c, d, e⟩ => by cases x; cases y; simp only at a b c d e; rw [a, b, c, d, e], fun h => by rw [h]; exact ⟨rfl, rfl, rfl, rfl, rfl⟩⟩
theorem eqD (x y : Dg) (w : World) : (Op.equalIn 10000 109 (.agg #[.int .i64 x.f0, .int .i64 x.f1, .int .i64 x.f2, .int .i64 x.f3, .string x.f4]) (.agg #[.int .i64 y.f0, .int .i64 y.f1, .int .i64 y.f2, .int .i64 y.f3, .string y.f4])).run Tryz.prog w = .ok (decide (x = y)) w := by
 obtain ⟨x0, x1, x2, x3, x4⟩ := x
 obtain ⟨y0, y1, y2, y3, y4⟩ := y
 have ht : Tryz.prog.underlying 109 = some (.struct (Tryz.prog.fieldsOf 109)) := by kernel_rfl
 rw [run_equalIn_struct w 9999 _ _ _ ht Tryz.stoodInHeld109]
 have e : (Tryz.prog.fieldsOf 109).toList = [⟨"Code", 3, 0, false, "", "", 0⟩, ⟨"Module", 3, 1, false, "", "", 8⟩, ⟨"Start", 3, 2, false, "", "", 16⟩, ⟨"End", 3, 3, false, "", "", 24⟩, ⟨"Name", 9, 4, false, "", "", 32⟩] := by kernel_rfl
 rw [e]
 have h3 := fun a b => run_equalIn_int w 9998 3 .i64 .i64 a b Tryz.underlying3
 have h9 := fun a b => run_equalIn_string w 9998 9 a b Tryz.underlying9
 simp only [Op.eqFields]
 go_simp
 have h4 : (x4.toList = y4.toList) ↔ x4 = y4 := ⟨fun h => by
  rw [Go.ByteArray.toList_eq, Go.ByteArray.toList_eq] at h
  exact ByteArray.ext (Array.ext' (by simpa using h)), fun h => by rw [h]⟩
 simp only [h4]
 by_cases a0 : x0 = y0 <;> by_cases a1 : x1 = y1 <;> by_cases a2 : x2 = y2 <;> by_cases a3 : x3 = y3 <;> by_cases a4 : x4 = y4 <;> simp [a0, a1, a2, a3, a4]
structure CRow (B g cap : Nat) (W wr : World) (d : Array Dg) : Prop where
 row : wr.ownsRow B 109 5 (.slice (some ⟨g, 0, none⟩) d.toList.length cap) d.toList.length (zbo d.toList)
 only : Only g W wr
theorem CRow.cap {B g cap : Nat} {W wr : World} {d : Array Dg} (h : CRow B g cap W wr d) : d.size ≤ cap := by
 rcases h.row.2 with ⟨hh, _⟩ | ⟨g', cap', cur, hv, h1, h2, h3, _⟩
 ·cases hh
 ·simp only [Value.slice.injEq, Option.some.injEq, Addr.mk.injEq, and_true] at hv
  obtain ⟨rfl, _, rfl⟩ := hv
  simpa using h3
theorem CRow.drew {B g cap : Nat} {W wr : World} {d : Array Dg} (h : CRow B g cap W wr d) : CRow B g cap W wr.drew d := ⟨za7 h.row (fun _ _ => rfl), h.only.trans (.below (zae (Below.refl _ _)))⟩
theorem CRow.at {B g cap : Nat} {W wr : World} {d : Array Dg} (h : CRow B g cap W wr d) (j : Nat) (hj : j < d.size) :
  (wr.cell? ⟨g, j * 5, none⟩ = some (.int .i64 d[j]!.f0) ∧ wr.cell? ⟨g, j * 5 + 1, none⟩ = some (.int .i64 d[j]!.f1) ∧ wr.cell? ⟨g, j * 5 + 2, none⟩ = some (.int .i64 d[j]!.f2) ∧ wr.cell? ⟨g, j * 5 + 3, none⟩ = some (.int .i64 d[j]!.f3) ∧ wr.cell? ⟨g, j * 5 + 4, none⟩ = some (.string d[j]!.f4)) ∧ ∀ i, wr.frozen? ⟨g, i, none⟩ = false := by
 have hc : ∀ i v, i < 5 → (encD d[j]!)[i]? = some v → wr.cell? ⟨g, j * 5 + i, none⟩ = some v := fun i v hi hv => by
  have h1 := zgm encD 5 (fun _ => rfl) d.toList (j * 5 + i) (by simp; omega)
  rw [show (j * 5 + i) / 5 = j by omega, show (j * 5 + i) % 5 = i by omega] at h1
  have e : d.toList[j]! = d[j]! := by simp [getElem!_pos, hj]
  rw [e, hv] at h1
  have := h.row.cells (g := g) rfl _ _ h1
  rw [Addr.add_lit, Nat.zero_add] at this
  exact this
 refine ⟨⟨hc 0 _ (by omega) rfl, hc 1 _ (by omega) rfl, hc 2 _ (by omega) rfl, hc 3 _ (by omega) rfl, hc 4 _ (by omega) rfl⟩, fun i => ?_⟩
 rcases h.row.2 with ⟨hh, _⟩ | ⟨g', cap', cur, hv, h1, h2, _⟩
 ·cases hh
 ·simp only [Value.slice.injEq, Option.some.injEq, Addr.mk.injEq, and_true] at hv
  obtain ⟨rfl, _, rfl⟩ := hv
  exact zl h2 i
theorem zjd {α : Type} (enc : α → List Value) (k : Nat) (hk : ∀ x, (enc x).length = k) : ∀ (l : List α) (i : Nat) (u : α), i < l.length → (l.set i u).flatMap enc = (l.flatMap enc).take (i * k) ++ enc u ++ (l.flatMap enc).drop (i * k + k)
 | [], i, u, h => by simp at h
 | x :: xs, 0, u, h => by
  simp only [List.set_cons_zero, List.flatMap_cons, Nat.zero_mul, List.take_zero, List.nil_append, Nat.zero_add]
  rw [List.drop_append_of_le_length (by rw [hk]; exact Nat.le_refl _), List.drop_eq_nil_of_le (by rw [hk]; exact Nat.le_refl _), List.nil_append]
 | x :: xs, i + 1, u, h => by
  simp only [List.set_cons_succ, List.flatMap_cons]
  rw [zjd enc k hk xs i u (by simpa using h)]
  have e : (i + 1) * k = (enc x).length + i * k := by rw [hk, Nat.add_mul, Nat.one_mul, Nat.add_comm]
  rw [e, List.take_length_add_append, show (enc x).length + i * k + k = (enc x).length + (i * k + k) by omega, List.drop_length_add_append, List.append_assoc, List.append_assoc, List.append_assoc]
theorem set5 (l : List Value) (n : Nat) (h : n + 5 ≤ l.length) (a b c d e : Value) : ((((l.set n a).set (n + 1) b).set (n + 2) c).set (n + 3) d).set (n + 4) e = l.take n ++ [a, b, c, d, e] ++ l.drop (n + 5) := by
 apply List.ext_getElem?
 intro i
 simp only [List.getElem?_set, List.length_set, List.getElem?_append, List.getElem?_take, List.getElem?_drop, List.length_append, List.length_take]
 rcases Nat.lt_or_ge i n with h1 | h1
 ·simp [show ¬ n + 4 = i by omega, show ¬ n + 3 = i by omega, show ¬ n + 2 = i by omega, show ¬ n + 1 = i by omega, show ¬ n = i by omega, h1, show i < min n l.length + 5 by omega, show i < min n l.length by omega]
 ·rcases Nat.lt_or_ge i (n + 5) with h2 | h2
  ·obtain ⟨j, rfl⟩ : ∃ j, i = n + j := ⟨i - n, by omega⟩
   have hj : j < 5 := by omega
   have hm : min n l.length = n := by omega
   rw [hm]
   rcases show j = 0 ∨ j = 1 ∨ j = 2 ∨ j = 3 ∨ j = 4 by omega with rfl | rfl | rfl | rfl | rfl <;> simp [show n < l.length by omega, show n + 1 < l.length by omega, show n + 2 < l.length by omega, show n + 3 < l.length by omega, show n + 4 < l.length by omega] <;> (intro hh; omega)
  ·have hm : min n l.length = n := by omega
   rw [hm]
   simp [show ¬ n + 4 = i by omega, show ¬ n + 3 = i by omega, show ¬ n + 2 = i by omega, show ¬ n + 1 = i by omega, show ¬ n = i by omega, show ¬ i < n + 5 by omega, show n + 5 + (i - (n + 5)) = i by omega]
theorem CRow.put {B g cap : Nat} {W wr : World} {d : Array Dg} (h : CRow B g cap W wr d) (k : Nat) (hk : k < d.size) (u : Dg) :
  CRow B g cap W (((((wr.setCell ⟨g, k * 5, none⟩ (.int .i64 u.f0)).setCell ⟨g, k * 5 + 1, none⟩ (.int .i64 u.f1)).setCell ⟨g, k * 5 + 2, none⟩ (.int .i64 u.f2)).setCell ⟨g, k * 5 + 3, none⟩ (.int .i64 u.f3)).setCell ⟨g, k * 5 + 4, none⟩ (.string u.f4)) (d.setIfInBounds k u) := by
 have hs := zcr (zcr (zcr (zcr (zcr h.row (k * 5) (.int .i64 u.f0)) (k * 5 + 1) (.int .i64 u.f1)) (k * 5 + 2) (.int .i64 u.f2)) (k * 5 + 3) (.int .i64 u.f3)) (k * 5 + 4) (.string u.f4)
 have hl : (zbo d.toList).length = d.size * 5 := by rw [zez]; simp
 rw [set5 _ _ (by rw [hl]; omega)] at hs
 have e := zjd encD 5 (fun _ => rfl) d.toList k u (by simpa using hk)
 have e2 : zbo (d.toList.set k u) = (zbo d.toList).take (k * 5) ++ encD u ++ (zbo d.toList).drop (k * 5 + 5) := e
 refine ⟨?_, ((((h.only.set _ _).set _ _).set _ _).set _ _).set _ _⟩
 have e3 : (d.setIfInBounds k u).toList = d.toList.set k u := by simp
 have e4 : (d.setIfInBounds k u).toList.length = d.toList.length := by simp
 rw [e4, e3, e2]
 exact hs
def zfq (n : Nat) : List Value := (Builtin.zeroCells (Value.agg #[.int .i64 0, .int .i64 0, .int .i64 0, .int .i64 0, .string ⟨#[]⟩]).cells n).toList
theorem zq4 (n : Nat) : (zfq n).length = n * 5 := by simp [zfq, Builtin.zeroCells, Value.cells]
theorem zq3 (n : Nat) : ∀ v ∈ zfq n, v.oneCell' = true := by
 intro v hv
 simp only [zfq, Builtin.zeroCells, Value.cells, Array.toList_map, List.mem_map] at hv
 obtain ⟨i, _, rfl⟩ := hv
 have h5 : i % 5 < 5 := Nat.mod_lt _ (by decide)
 show ((#[.int .i64 0, .int .i64 0, .int .i64 0, .int .i64 0, .string ⟨#[]⟩] : Array Value)[i % 5]!).oneCell' = true
 rcases show i % 5 = 0 ∨ i % 5 = 1 ∨ i % 5 = 2 ∨ i % 5 = 3 ∨ i % 5 = 4 by omega with h | h | h | h | h <;> (rw [h]; rfl)
theorem zrg {B g cap : Nat} {W wr : World} {d : Array Dg} (h : CRow B g cap W wr d) (kk : Nat) (hk : kk < d.size) (ty : TypeId) :
  (Builtin.clear_ #[64] ty #[.slice (some ⟨g, kk * 5, none⟩) (d.size - kk) (cap - kk)]).run Tryz.prog wr = .ok (.tuple #[]) (wr.setCells g (kk * 5) (zfq (d.size - kk))) := by
 have hst := run_storeCells_cells (P := Tryz.prog) g (kk * 5) (zfq (d.size - kk)) 0 wr (fun j hj => by
  rw [zq4] at hj
  have := (h.at (kk + j / 5) (by omega)).1
  rw [Nat.add_zero, show kk * 5 + j = (kk + j / 5) * 5 + j % 5 by omega]
  have h5 : j % 5 < 5 := Nat.mod_lt _ (by decide)
  rcases show j % 5 = 0 ∨ j % 5 = 1 ∨ j % 5 = 2 ∨ j % 5 = 3 ∨ j % 5 = 4 by omega with e | e | e | e | e <;> rw [e]
  ·rw [Nat.add_zero, this.1]; rfl
  ·rw [this.2.1]; rfl
  ·rw [this.2.2.1]; rfl
  ·rw [this.2.2.2.1]; rfl
  ·rw [this.2.2.2.2]; rfl) (fun j hj => by
  rw [Nat.add_zero]
  exact (h.at kk hk).2 _) (zq3 _)
 rw [Nat.add_zero] at hst
 obtain ⟨m, hm⟩ : ∃ m, d.size - kk = m + 1 := ⟨d.size - kk - 1, by omega⟩
 rw [hm] at hst ⊢
 unfold zfq at hst
 simp [Builtin.clear_, run_underlying Tryz.underlying64, Tryz.zeroValue109, hst, zfq]
theorem zhz (g : Nat) : ∀ (vs : List Value) (o : Nat) (w : World) (cur : Array Value) (e : TypeId), w.heap[g]? = some (.cells cur e (0, 0)) → ∃ cur', (w.setCells g o vs).heap[g]? = some (.cells cur' e (0, 0)) ∧ cur'.size = cur.size ∧ cur'.toList.take o = cur.toList.take o ∧ Only g w (w.setCells g o vs)
 | [], o, w, cur, e, h => ⟨cur, h, rfl, rfl, .refl _ _⟩
 | v :: vs, o, w, cur, e, h => by
  obtain ⟨cur', h1, h2, h3, h4⟩ := zhz g vs (o + 1) (w.setCell ⟨g, o, none⟩ v) (cur.setIfInBounds o v) e (zbw h o v)
  refine ⟨cur', h1, by rw [h2]; simp, ?_, ((Only.refl g w).set o v).trans h4⟩
  have h5 : (cur'.toList.take (o + 1)).take o = ((cur.setIfInBounds o v).toList.take (o + 1)).take o := by rw [h3]
  rw [List.take_take, List.take_take, show min o (o + 1) = o by omega] at h5
  rw [h5, Array.toList_setIfInBounds, List.take_set_of_le (Nat.le_refl _)]
theorem CRow.cut {B g cap kk : Nat} {W wr : World} {d dk : Array Dg} (h : CRow B g cap W wr dk) (hI : CompInv d d.size kk dk) (D : Nat) :
  (compactUpTo d d.size).length = kk ∧ (wr.setCells g (kk * 5) (zfq D)).ownsRow B 109 5 (.slice (some ⟨g, 0, none⟩) kk cap) kk (zbo (compactUpTo d d.size)) ∧ Only g W (wr.setCells g (kk * 5) (zfq D)) := by
 refine ⟨hI.len, ?_⟩
 have hs := hI.size
 have hk := hI.lt
 rcases h.row.2 with ⟨hh, _⟩ | ⟨g', cap', cur, hv, h1, h2, h3, h4, h5, h6⟩
 ·cases hh
 ·simp only [Value.slice.injEq, Option.some.injEq, Addr.mk.injEq, and_true] at hv
  obtain ⟨rfl, _, rfl⟩ := hv
  obtain ⟨cur', k1, k2, k3, k4⟩ := zhz g (zfq D) (kk * 5) wr cur _ h2
  have hl : dk.toList.length = dk.size := by simp
  have e1 : dk.toList.take kk = compactUpTo d d.size := by
   apply List.ext_getElem?
   intro i
   by_cases hi : i < kk
   ·rw [List.getElem?_take_of_lt hi, hI.low i hi, Array.getElem?_toList, Array.getElem?_eq_getElem (by omega), getElem!_pos dk i (by omega)]
   ·rw [List.getElem?_eq_none (by simp; omega), List.getElem?_eq_none (by rw [hI.len]; omega)]
  have e2 : zbo (dk.toList.take kk) = (zbo dk.toList).take (kk * 5) := by
   have hlen : (zbo (dk.toList.take kk)).length = kk * 5 := by rw [zez, List.length_take, show min kk dk.toList.length = kk by omega]
   have : zbo dk.toList = zbo (dk.toList.take kk) ++ zbo (dk.toList.drop kk) := by rw [← zgf, List.take_append_drop]
   rw [this, ← hlen, List.take_left]
  refine ⟨⟨by rw [zez, hI.len], .inr ⟨g, cap, cur', rfl, h1, k1, by omega, h4, by rw [k2]; exact h5, ?_⟩⟩, h.only.trans k4⟩
  rw [k3, ← e1, e2, ← h6, List.take_take, show min (kk * 5) (dk.toList.length * 5) = kk * 5 by omega]
theorem zjn {B g cap : Nat} {W : World} {d : Array Dg} (ho : CRow B g cap W W d) (hl : d.size ≤ 10000000) (h2 : 2 ≤ d.size) :
  Calls Tryz.prog 61 #[.slice (some ⟨g, 0, none⟩) d.size cap] W fun e W' => e = .returned (.slice (some ⟨g, 0, none⟩) (compactUpTo d d.size).length cap) ∧ W'.ownsRow B 109 5 (.slice (some ⟨g, 0, none⟩) (compactUpTo d d.size).length cap) (compactUpTo d d.size).length (zbo (compactUpTo d d.size)) ∧ Only g W W' := by
 have H0 := ak ho
 have hsz : d.toList.length = d.size := by simp
 clear ho
 go_enter Tryz.func61, Tryz.ntmps61
 go_wp2_with fail
 go_loopg [3] d.size (fun gg s3 wr => ∃ k : Nat, s3 = .int .i64 (k : Int) ∧ 1 ≤ k ∧ k ≤ d.size ∧ d.size - k ≤ gg ∧ zar (CRow B g cap W wr d ∧ ∀ j, j < k → keeps d j = true))
 case atStart => exact ⟨1, rfl, Nat.le_refl _, by omega, by omega, ak ⟨H0.out, keeps_lt_one d⟩⟩
 case round =>
  obtain ⟨k, rfl, hk1, hk, hgg, A⟩ := hrel
  obtain ⟨m, hkm⟩ : ∃ m, k = m + 1 := ⟨k - 1, by omega⟩
  have w1 : IntKind.i64.wrap ((k : Int) - 1) = (m : Int) := by rw [IntKind.wrap_i64]; omega
  have w2 : IntKind.i64.wrap ((k : Int) + 1) = (k : Int) + 1 := by rw [IntKind.wrap_i64]; omega
  have i0 : (0 : Int) ≤ (k : Int) := by omega
  have i2 : (0 : Int) ≤ (m : Int) := by omega
  have i3 : (m : Int) < (d.size : Int) := by omega
  by_cases hlt : k < d.size
  ·have i1 : (k : Int) < (d.size : Int) := by omega
   obtain ⟨⟨c0, c1, c2, c3, c4⟩, fz⟩ := A.out.1.at k hlt
   obtain ⟨⟨e0, e1, e2, e3, e4⟩, _⟩ := A.out.1.at m (by omega)
   have HKM := ak hkm
   clear hkm
   obtain ⟨x, hx⟩ : ∃ x, d[k]! = x := ⟨_, rfl⟩
   obtain ⟨y, hy⟩ : ∃ y, d[m]! = y := ⟨_, rfl⟩
   rw [hx] at c0 c1 c2 c3 c4
   rw [hy] at e0 e1 e2 e3 e4
   have HXY := ak (And.intro hx hy)
   clear hx hy
   have he := eqD x y
   by_cases hdup : x = y
   ·have hd := decide_eq_true hdup
    rw [hd] at he
    go_wp2_with fail
    go_region_held3 (fun w' => (w'.cell? ⟨g, k * 5, none⟩ = some (.int .i64 x.f0) ∧ w'.cell? ⟨g, k * 5 + 1, none⟩ = some (.int .i64 x.f1) ∧ w'.cell? ⟨g, k * 5 + 2, none⟩ = some (.int .i64 x.f2) ∧ w'.cell? ⟨g, k * 5 + 3, none⟩ = some (.int .i64 x.f3) ∧ w'.cell? ⟨g, k * 5 + 4, none⟩ = some (.string x.f4)) ∧ (w'.cell? ⟨g, m * 5, none⟩ = some (.int .i64 y.f0) ∧ w'.cell? ⟨g, m * 5 + 1, none⟩ = some (.int .i64 y.f1) ∧ w'.cell? ⟨g, m * 5 + 2, none⟩ = some (.int .i64 y.f2) ∧ w'.cell? ⟨g, m * 5 + 3, none⟩ = some (.int .i64 y.f3) ∧ w'.cell? ⟨g, m * 5 + 4, none⟩ = some (.string y.f4))) (go_keep) (fail)
    have icap : k < cap := by have := A.out.1.cap; omega
    have icap' : (k : Int) ≤ (cap : Int) := by omega
    have icap2 : ¬ cap = k := by omega
    have A2 := ak A.out.1.drew
    clear c0 c1 c2 c3 c4 e0 e1 e2 e3 e4 he hd
    go_wp2_with fail
    obtain ⟨L, hL⟩ : ∃ L, d.size - k = L := ⟨_, rfl⟩
    obtain ⟨C, hC⟩ : ∃ C, cap - k = C := ⟨_, rfl⟩
    rw [hL, hC]
    have HLC := ak (And.intro hL hC)
    clear hL hC
    go_loopg [3, 5] d.size (fun gg s3 s5 w3 => ∃ (kk k2 : Nat) (dk : Array Dg), s3 = .int .i64 (kk : Int) ∧ s5 = .int .i64 (k2 : Int) ∧ 1 ≤ k2 ∧ k + k2 ≤ d.size ∧ d.size - (k + k2) ≤ gg ∧ zar (CRow B g cap W w3 dk ∧ CompInv d (k + k2) kk dk))
    case atStart => exact ⟨k, 1, d, rfl, rfl, Nat.le_refl _, by omega, by omega, ak ⟨A2.out, CompInv.start A.out.2 (keeps_neg (by omega) (by have := HKM.out; rw [HXY.out.1, show k - 1 = m by omega, HXY.out.2, hdup]))⟩⟩
    case round =>
     obtain ⟨kk, k2, dk, rfl, rfl, h1, hle, hg2, A3⟩ := hrel
     have hL := HLC.out.1
     have hds : dk.size = d.size := A3.out.2.size
     have hkk := A3.out.2.lt
     obtain ⟨q, hq⟩ : ∃ q, k2 = q + 1 := ⟨k2 - 1, by omega⟩
     have v1 : IntKind.i64.wrap ((k2 : Int) - 1) = (q : Int) := by rw [IntKind.wrap_i64]; omega
     have v2 : IntKind.i64.wrap ((k2 : Int) + 1) = (k2 : Int) + 1 := by rw [IntKind.wrap_i64]; omega
     have v3 : IntKind.i64.wrap ((kk : Int) + 1) = (kk : Int) + 1 := by rw [IntKind.wrap_i64]; omega
     have j0 : (0 : Int) ≤ (k2 : Int) := by omega
     have j1 : (0 : Int) ≤ (q : Int) := by omega
     have j2 : (q : Int) < (L : Int) := by omega
     have j3 : (0 : Int) ≤ (kk : Int) := by omega
     have j4 : (kk : Int) < (d.size : Int) := by omega
     by_cases hlt2 : k + k2 < d.size
     ·have j5 : (k2 : Int) < (L : Int) := by omega
      have j6 : decide ((k2 : Int) < (L : Int)) = true := decide_eq_true j5
      obtain ⟨⟨c0, c1, c2, c3, c4⟩, fz⟩ := A3.out.1.at (k + k2) (by omega)
      obtain ⟨⟨e0, e1, e2, e3, e4⟩, _⟩ := A3.out.1.at (k + q) (by omega)
      obtain ⟨⟨o0, o1, o2, o3, o4⟩, _⟩ := A3.out.1.at kk (by omega)
      rw [Nat.add_mul] at c0 c1 c2 c3 c4 e0 e1 e2 e3 e4
      rw [A3.out.2.high (k + k2) (by omega)] at c0 c1 c2 c3 c4
      rw [A3.out.2.high (k + q) (by omega)] at e0 e1 e2 e3 e4
      obtain ⟨u, hu⟩ : ∃ u, d[k + k2]! = u := ⟨_, rfl⟩
      obtain ⟨v, hv⟩ : ∃ v, d[k + q]! = v := ⟨_, rfl⟩
      rw [hu] at c0 c1 c2 c3 c4
      rw [hv] at e0 e1 e2 e3 e4
      have HUV := ak (And.intro hu hv)
      have HQ := ak hq
      clear hu hv hq hL hds hkk
      have he := eqD u v
      by_cases huv : u = v
      ·have hd := decide_eq_true huv
       rw [hd] at he
       go_wp2_with fail
       go_region_held3 (fun w' => (w'.cell? ⟨g, k * 5 + k2 * 5, none⟩ = some (.int .i64 u.f0) ∧ w'.cell? ⟨g, k * 5 + k2 * 5 + 1, none⟩ = some (.int .i64 u.f1) ∧ w'.cell? ⟨g, k * 5 + k2 * 5 + 2, none⟩ = some (.int .i64 u.f2) ∧ w'.cell? ⟨g, k * 5 + k2 * 5 + 3, none⟩ = some (.int .i64 u.f3) ∧ w'.cell? ⟨g, k * 5 + k2 * 5 + 4, none⟩ = some (.string u.f4)) ∧ (w'.cell? ⟨g, k * 5 + q * 5, none⟩ = some (.int .i64 v.f0) ∧ w'.cell? ⟨g, k * 5 + q * 5 + 1, none⟩ = some (.int .i64 v.f1) ∧ w'.cell? ⟨g, k * 5 + q * 5 + 2, none⟩ = some (.int .i64 v.f2) ∧ w'.cell? ⟨g, k * 5 + q * 5 + 3, none⟩ = some (.int .i64 v.f3) ∧ w'.cell? ⟨g, k * 5 + q * 5 + 4, none⟩ = some (.string v.f4))) (go_keep) (fail)
       clear he hd
       go_wp2
       go_roundg (d.size - (k + (k2 + 1)))
       case measure => omega
       case rel => exact ⟨kk, k2 + 1, dk, rfl, rfl, by omega, by omega, Nat.le_refl _, ak ⟨A3.out.1.drew, A3.out.2.skip (keeps_neg (by omega) (by have := HQ.out; rw [HUV.out.1, show k + k2 - 1 = k + q by omega, HUV.out.2, huv]))⟩⟩
      ·have hd := decide_eq_false huv
       rw [hd] at he
       go_wp2_with fail
       go_region_held3 (fun w' => (w'.cell? ⟨g, k * 5 + k2 * 5, none⟩ = some (.int .i64 u.f0) ∧ w'.cell? ⟨g, k * 5 + k2 * 5 + 1, none⟩ = some (.int .i64 u.f1) ∧ w'.cell? ⟨g, k * 5 + k2 * 5 + 2, none⟩ = some (.int .i64 u.f2) ∧ w'.cell? ⟨g, k * 5 + k2 * 5 + 3, none⟩ = some (.int .i64 u.f3) ∧ w'.cell? ⟨g, k * 5 + k2 * 5 + 4, none⟩ = some (.string u.f4)) ∧ (w'.cell? ⟨g, k * 5 + q * 5, none⟩ = some (.int .i64 v.f0) ∧ w'.cell? ⟨g, k * 5 + q * 5 + 1, none⟩ = some (.int .i64 v.f1) ∧ w'.cell? ⟨g, k * 5 + q * 5 + 2, none⟩ = some (.int .i64 v.f2) ∧ w'.cell? ⟨g, k * 5 + q * 5 + 3, none⟩ = some (.int .i64 v.f3) ∧ w'.cell? ⟨g, k * 5 + q * 5 + 4, none⟩ = some (.string v.f4))) (go_keep) (fail)
       clear he hd
       go_wp2
       go_roundg (d.size - (k + (k2 + 1)))
       case measure => omega
       case rel => exact ⟨kk + 1, k2 + 1, dk.setIfInBounds kk u, rfl, rfl, by omega, by omega, Nat.le_refl _, ak ⟨(A3.out.1.put kk (by have := A3.out.2.size; have := A3.out.2.lt; omega) u).drew, by have := HQ.out; have := A3.out.2.keep hlt2 (keeps_pos (by rw [HUV.out.1, show k + k2 - 1 = k + q by omega, HUV.out.2]; exact huv)); rwa [HUV.out.1] at this⟩⟩
     ·have j5 : ¬ (k2 : Int) < (L : Int) := by omega
      have j6 : decide ((k2 : Int) < (L : Int)) = false := decide_eq_false j5
      have hend : k + k2 = d.size := by omega
      have hcl := zrg A3.out.1 kk (by omega)
      have hcap := A3.out.1.cap
      rw [hds] at hcl hcap
      obtain ⟨D, hD⟩ : ∃ D, d.size - kk = D := ⟨_, rfl⟩
      have j7 : (kk : Int) ≤ (cap : Int) := by omega
      have j8 : ¬ cap = kk := by omega
      have j9 : (kk : Int) ≤ (d.size : Int) := by omega
      rw [hD] at hcl
      go_wp2_with fail
      go_ret
      have hI := A3.out.2
      rw [hend] at hI
      obtain ⟨k1, k2, k3⟩ := CRow.cut A3.out.1 hI D
      rw [hI.len]
      exact ⟨rfl, k2, k3⟩
   ·have hd := decide_eq_false hdup
    rw [hd] at he
    go_wp2_with fail
    go_region_held3 (fun w' => (w'.cell? ⟨g, k * 5, none⟩ = some (.int .i64 x.f0) ∧ w'.cell? ⟨g, k * 5 + 1, none⟩ = some (.int .i64 x.f1) ∧ w'.cell? ⟨g, k * 5 + 2, none⟩ = some (.int .i64 x.f2) ∧ w'.cell? ⟨g, k * 5 + 3, none⟩ = some (.int .i64 x.f3) ∧ w'.cell? ⟨g, k * 5 + 4, none⟩ = some (.string x.f4)) ∧ (w'.cell? ⟨g, m * 5, none⟩ = some (.int .i64 y.f0) ∧ w'.cell? ⟨g, m * 5 + 1, none⟩ = some (.int .i64 y.f1) ∧ w'.cell? ⟨g, m * 5 + 2, none⟩ = some (.int .i64 y.f2) ∧ w'.cell? ⟨g, m * 5 + 3, none⟩ = some (.int .i64 y.f3) ∧ w'.cell? ⟨g, m * 5 + 4, none⟩ = some (.string y.f4))) (go_keep) (fail)
    clear c0 c1 c2 c3 c4 e0 e1 e2 e3 e4 he hd
    go_wp2
    go_roundg (d.size - (k + 1))
    case measure => omega
    case rel =>
     refine ⟨k + 1, rfl, by omega, by omega, Nat.le_refl _, ak ⟨A.out.1.drew, fun j hj => ?_⟩⟩
     by_cases e : j = k
     ·subst e
      exact keeps_pos (by have := HKM.out; rw [HXY.out.1, show j - 1 = m by omega, HXY.out.2]; exact hdup)
     ·exact A.out.2 j (by omega)
  ·have i1 : ¬ (k : Int) < (d.size : Int) := by omega
   have hke : k = d.size := by omega
   clear w1 w2 hkm
   go_wp2_with fail
   go_ret
   have e : compactUpTo d d.size = d.toList := by rw [compactUpTo_all d _ (fun j hj => A.out.2 j (by omega)), range_map_get]
   have hr := A.out.1.row
   rw [e]
   rw [hsz] at hr ⊢
   exact ⟨rfl, hr, A.out.1.only⟩
def zcv (ds : List Dg) : List Dg := compactUpTo ds.toArray ds.toArray.size
theorem zn9 {ds : List Dg} (h : ds ≠ []) : zcv ds ≠ [] := by
 obtain ⟨d, ds, rfl⟩ := List.exists_cons_of_ne_nil h
 unfold zcv
 rw [show (d :: ds).toArray.size = ds.length + 1 by simp]
 have : ∀ m, compactUpTo (d :: ds).toArray (m + 1) ≠ [] := by
  intro m
  induction m with
  | zero => rw [compactUpTo_succ]; simp [keeps]
  | succ m ih => rw [compactUpTo_succ]; intro hh; exact ih (List.append_eq_nil_iff.1 hh).1
 exact this _
theorem zj8 {B : Nat} {W : World} {h : Value} {ds : List Dg} (ho : W.ownsRow B 109 5 h ds.length (zbo ds)) (hl : ds.length ≤ 10000000) :
  Calls Tryz.prog 61 #[h] W fun e W' => ∃ h', e = .returned h' ∧ W'.ownsRow B 109 5 h' (zcv ds).length (zbo (zcv ds)) ∧ own1 h' = own1 h ∧ W'.os = W.os ∧ W'.tape = W.tape ∧ W'.output = W.output ∧ W.heap.size ≤ W'.heap.size ∧ ∀ g, g < W.heap.size → g ∉ own1 h → W'.heap[g]? = W.heap[g]? := by
 by_cases h2 : ds.length < 2
 ·have e : zcv ds = ds := by
   match ds, h2 with
   | [], _ => rfl
   | [d], _ => rfl
  rw [e]
  obtain ⟨A, c, rfl⟩ := Par.za3 ho
  have HO := ak ho
  have h2' : (ds.length : Int) < 2 := by omega
  have h2d : decide ((ds.length : Int) < 2) = true := decide_eq_true h2'
  clear ho h2 e
  go_enter Tryz.func61, Tryz.ntmps61
  go_wp2_with fail
  go_ret
  exact ⟨_, rfl, HO.out, rfl, rfl, rfl, rfl, Nat.le_refl _, fun _ _ _ => rfl⟩
 ·rcases ho.2 with ⟨rfl, hn⟩ | ⟨g, cap, cur, rfl, _⟩
  ·omega
  ·have hr : CRow B g cap W W ds.toArray := ⟨by simpa using ho, .refl _ _⟩
   have hc := zjn hr (by simpa using hl) (by simp; omega)
   rw [show ds.toArray.size = ds.length by simp] at hc
   refine hc.mono ?_
   rintro e W' ⟨rfl, k1, k2⟩
   have e2 : zcv ds = compactUpTo ds.toArray ds.length := by unfold zcv; simp
   rw [e2]
   refine ⟨_, rfl, k1, rfl, k2.os, k2.tape, k2.output, k2.size, fun b hb hn => k2.kept b hb (fun e => hn ?_)⟩
   subst e
   simp [own1, Value.ownBlock]
end Go.Proofs.YtmoelofaojgjfaaGreatDoor.Par
