/- Packed texts, part 10: contracts and plain lemmas towards outlineConcatenation_holds. -/
import Derived.Test.YtmoelofaojgjfaaGreatDoorQ9
import Derived.StillTailTactics
import Derived.Deep.RegionHeld3
set_option maxHeartbeats 8000000
set_option maxRecDepth 1000000
set_option linter.unusedVariables false
set_option linter.unusedSimpArgs false
namespace Go.Proofs.YtmoelofaojgjfaaGreatDoor.Par
open Go.RowKit Go.Proofs.YtmoelofaojgjfaaGreatDoorW.PrintWords Go.Proofs.YtmoelofaojgjfaaGreatDoorW.PrintLast
theorem zml {s : ByteArray} (hs : 2000 < s.size) (w : World) :
  Calls Tryz.prog 69 #[.string s] w fun e w' => e = .returned (.tuple #[.slice none 0 0, .int .i64 2]) ∧ Below w.heap.size w w' := by
 have h0 : (2000 : Int) < (s.size : Int) := by omega
 have h0b : decide ((2000 : Int) < (s.size : Int)) = true := decide_eq_true h0
 go_enter Tryz.func69, Tryz.ntmps69
 go_wp2_with fail
 go_ret2
 exact ⟨rfl, by repeat (first | exact Below.refl _ _ | apply zae)⟩
theorem ztx {s : ByteArray} (hs : 2000 < s.size) (w : World) :
  Calls Tryz.prog 57 #[.string s] w fun e w' => e = .returned (.tuple #[.agg #[.int .i64 0, .string ⟨#[]⟩, .slice none 0 0], .int .i64 2]) ∧ Below w.heap.size w w' := by
 go_enter Tryz.func57, Tryz.ntmps57
 go_wp2_with fail
 refine (zml hs _).mono ?_
 rintro e W2 ⟨rfl, hb⟩
 have hr := hb.block w.heap.size (by simp [World.size_alloc])
 rw [zaj w] at hr
 have y0 : W2.cell? ⟨w.heap.size, 0, none⟩ = some (.int .i64 0) := (zf hr 0).trans rfl
 have y1 : W2.cell? ⟨w.heap.size, 1, none⟩ = some (.string ⟨#[]⟩) := (zf hr 1).trans rfl
 have y2 : W2.cell? ⟨w.heap.size, 2, none⟩ = some (.slice none 0 0) := (zf hr 2).trans rfl
 have z0 := zl hr 0
 have z1 := zl hr 1
 have z2 := zl hr 2
 have HB := ak (show Below w.heap.size w W2 from (zh (Below.refl _ _) _).trans (hb.mono (by simp [World.size_alloc])))
 have HR := ak hr
 clear hb hr
 go_wp2_with fail
 obtain ⟨W3, hW3⟩ : ∃ W3, ((W2.setCell ⟨w.heap.size, 0, none⟩ (.int .i64 0)).setCell ⟨w.heap.size, 1, none⟩ (.string ⟨#[]⟩)).setCell ⟨w.heap.size, 2, none⟩ (.slice none 0 0) = W3 := ⟨_, rfl⟩
 have hb3 : W3.heap[w.heap.size]? = some (.cells #[.int .i64 0, .string ⟨#[]⟩, .slice none 0 0] 128 (0, 0)) := by rw [← hW3]; simp [World.setCell, Array.getElem?_modify, HR.out]
 have x0 : W3.cell? ⟨w.heap.size, 0, none⟩ = some (.int .i64 0) := (zf hb3 0).trans rfl
 have x1 : W3.cell? ⟨w.heap.size, 1, none⟩ = some (.string ⟨#[]⟩) := (zf hb3 1).trans rfl
 have x2 : W3.cell? ⟨w.heap.size, 2, none⟩ = some (.slice none 0 0) := (zf hb3 2).trans rfl
 have hbw : Below w.heap.size w W3 := by
  have o : Only w.heap.size W2 W3 := by rw [← hW3]; exact (((Only.refl _ _).set _ _).set _ _).set _ _
  exact HB.out.trans (o.belowN (Nat.le_refl _) HB.out.size)
 rw [hW3]
 refine bodyPost_ret (v := .tuple #[.agg #[.int .i64 0, .string ⟨#[]⟩, .slice none 0 0], .int .i64 2]) (by simp [results, Tryz.results57, go_sem, x0, x1, x2]) rfl ⟨rfl, hbw⟩
theorem zh8 {s : ByteArray} (hs : 2000 < s.size) (w : World) :
  Calls Tryz.prog 25 #[.string s] w fun e w' => e = .returned (.tuple #[.agg #[.int .i64 0, .int .i64 0, .string ⟨#[]⟩, .int .i64 0, .int .i64 0, .int .i64 0, .slice none 0 0], .slice none 0 0, .int .i64 2]) ∧ Below w.heap.size w w' := by
 go_enter Tryz.func25, Tryz.ntmps25
 go_wp2_with fail
 refine (ztx hs _).mono ?_
 rintro e W2 ⟨rfl, hb⟩
 have hr := hb.block w.heap.size (by simp [World.size_alloc])
 rw [zaj w] at hr
 have hlt := za8 hr
 have HB := ak (show Below w.heap.size w W2 from (zh (Below.refl _ _) _).trans (hb.mono (by simp [World.size_alloc])))
 obtain ⟨W3, hW3⟩ : ∃ W3, W2.alloc (.cells #[.int .i64 0, .string ⟨#[]⟩, .slice none 0 0] 128) = W3 := ⟨_, rfl⟩
 have hr3 : W3.heap[w.heap.size]? = some (.cells #[.int .i64 0, .int .i64 0, .string ⟨#[]⟩, .int .i64 0, .int .i64 0, .int .i64 0, .slice none 0 0] NDT (0, 0)) := by rw [← hW3]; exact za5 hr _
 have hq3 : W3.heap[W2.heap.size]? = some (.cells #[.int .i64 0, .string ⟨#[]⟩, .slice none 0 0] 128 (0, 0)) := by rw [← hW3]; exact zaj W2 _
 have hB3 : Below w.heap.size w W3 := by rw [← hW3]; exact zh HB.out _
 have q0 : W3.cell? ⟨W2.heap.size, 0, none⟩ = some (.int .i64 0) := (zf hq3 0).trans rfl
 have qz0 := zl hq3 0
 have q1 : W3.cell? ⟨W2.heap.size, 1, none⟩ = some (.string ⟨#[]⟩) := (zf hq3 1).trans rfl
 have qz1 := zl hq3 1
 have q2 : W3.cell? ⟨W2.heap.size, 2, none⟩ = some (.slice none 0 0) := (zf hq3 2).trans rfl
 have qz2 := zl hq3 2
 have y0 : W3.cell? ⟨w.heap.size, 0, none⟩ = some (.int .i64 0) := (zf hr3 0).trans rfl
 have z0 := zl hr3 0
 have y1 : W3.cell? ⟨w.heap.size, 1, none⟩ = some (.int .i64 0) := (zf hr3 1).trans rfl
 have z1 := zl hr3 1
 have y2 : W3.cell? ⟨w.heap.size, 2, none⟩ = some (.string ⟨#[]⟩) := (zf hr3 2).trans rfl
 have z2 := zl hr3 2
 have y3 : W3.cell? ⟨w.heap.size, 3, none⟩ = some (.int .i64 0) := (zf hr3 3).trans rfl
 have z3 := zl hr3 3
 have y4 : W3.cell? ⟨w.heap.size, 4, none⟩ = some (.int .i64 0) := (zf hr3 4).trans rfl
 have z4 := zl hr3 4
 have y5 : W3.cell? ⟨w.heap.size, 5, none⟩ = some (.int .i64 0) := (zf hr3 5).trans rfl
 have z5 := zl hr3 5
 have y6 : W3.cell? ⟨w.heap.size, 6, none⟩ = some (.slice none 0 0) := (zf hr3 6).trans rfl
 have z6 := zl hr3 6
 have HR := ak (And.intro hr3 (And.intro hq3 hB3))
 have HLT := ak hlt
 clear hb hr hr3 hq3 hB3
 go_wp2_with fail
 clear hW3
 obtain ⟨X, hX⟩ : ∃ X, ((W3.setCell ⟨W2.heap.size, 0, none⟩ (.int .i64 0)).setCell ⟨W2.heap.size, 1, none⟩ (.string ⟨#[]⟩)).setCell ⟨W2.heap.size, 2, none⟩ (.slice none 0 0) = X := ⟨_, rfl⟩
 have oX : Only W2.heap.size W3 X := by rw [← hX]; exact (((Only.refl _ _).set _ _).set _ _).set _ _
 have hneX : w.heap.size ≠ W2.heap.size := by have := HLT.out; omega
 have hrX := (oX.kept w.heap.size (za8 HR.out.1) hneX).trans HR.out.1
 have hBX : Below w.heap.size w X := HR.out.2.2.trans (oX.belowN (by have := HLT.out; omega) HR.out.2.2.size)
 rw [hX]
 obtain ⟨W4, hW4⟩ : ∃ W4, ((((((X.setCell ⟨w.heap.size, 0, none⟩ (.int .i64 0)).setCell ⟨w.heap.size, 1, none⟩ (.int .i64 0)).setCell ⟨w.heap.size, 2, none⟩ (.string ⟨#[]⟩)).setCell ⟨w.heap.size, 3, none⟩ (.int .i64 0)).setCell ⟨w.heap.size, 4, none⟩ (.int .i64 0)).setCell ⟨w.heap.size, 5, none⟩ (.int .i64 0)).setCell ⟨w.heap.size, 6, none⟩ (.slice none 0 0) = W4 := ⟨_, rfl⟩
 have hb3 : W4.heap[w.heap.size]? = some (.cells #[.int .i64 0, .int .i64 0, .string ⟨#[]⟩, .int .i64 0, .int .i64 0, .int .i64 0, .slice none 0 0] NDT (0, 0)) := by rw [← hW4]; exact set7 hrX _ _ _ _ _ _ _
 have x0 : W4.cell? ⟨w.heap.size, 0, none⟩ = some (.int .i64 0) := (zf hb3 0).trans rfl
 have x1 : W4.cell? ⟨w.heap.size, 1, none⟩ = some (.int .i64 0) := (zf hb3 1).trans rfl
 have x2 : W4.cell? ⟨w.heap.size, 2, none⟩ = some (.string ⟨#[]⟩) := (zf hb3 2).trans rfl
 have x3 : W4.cell? ⟨w.heap.size, 3, none⟩ = some (.int .i64 0) := (zf hb3 3).trans rfl
 have x4 : W4.cell? ⟨w.heap.size, 4, none⟩ = some (.int .i64 0) := (zf hb3 4).trans rfl
 have x5 : W4.cell? ⟨w.heap.size, 5, none⟩ = some (.int .i64 0) := (zf hb3 5).trans rfl
 have x6 : W4.cell? ⟨w.heap.size, 6, none⟩ = some (.slice none 0 0) := (zf hb3 6).trans rfl
 have hbw : Below w.heap.size w W4 := by
  have o : Only w.heap.size X W4 := by rw [← hW4]; exact zy8 X _ _ _ _ _ _ _ _
  exact hBX.trans (o.belowN (Nat.le_refl _) hBX.size)
 rw [hW4]
 refine bodyPost_ret (v := .tuple #[.agg #[.int .i64 0, .int .i64 0, .string ⟨#[]⟩, .int .i64 0, .int .i64 0, .int .i64 0, .slice none 0 0], .slice none 0 0, .int .i64 2]) (by simp [results, Tryz.results25, go_sem, x0, x1, x2, x3, x4, x5, x6]) rfl ⟨rfl, hbw⟩
def astR (l : List UInt8) (src : ByteArray) : Nd × BSt := zbg src (.mk 1 zj (zam l)) ⟨0, []⟩
def astN (src : ByteArray) : Nd := ⟨(astR src.data.toList src).1.f0, (astR src.data.toList src).1.f1, (astR src.data.toList src).1.f2, 0, (src.size : Int), (astR src.data.toList src).1.f5, (astR src.data.toList src).1.f6⟩
def astD (src : ByteArray) : List Dg := zcv (sortD (astR src.data.toList src).2.ds)
theorem Glb.up {N0 N1 : Nat} {W : World} (h : Glb N0 W) (hN : N0 ≤ N1) : Glb N1 W := ⟨h.rng, h.syn, Nat.lt_of_lt_of_le h.lo.1 hN, Nat.lt_of_lt_of_le h.lo.2 hN⟩
theorem zo1 (l : List UInt8) : sumB (Lex.zbd l) = l.length := by
 have h := ziu l.length l (Nat.le_refl _)
 conv => rhs; rw [← h]
 rw [List.length_flatMap]
 unfold sumB
 congr 1
theorem zgz {l : List UInt8} (h : l.length ≤ 2000) : FitT (.mk 1 zj (zam l)) ∧ cntT (.mk 1 zj (zam l)) ≤ 60001 ∧ zem (.mk 1 zj (zam l)) = l.length := by
 have hk := zd7 h
 refine ⟨⟨hk.good, fun e => by cases e⟩, ?_, ?_⟩
 ·have h1 := hk.few
  have h2 := Lex.zdc _ l (Nat.le_refl _)
  simp only [cntT]
  omega
 ·rw [zcz _ _ _ (by decide)]
  unfold zci
  rw [hk.toks, zo1]
theorem zub (src : ByteArray) (k : Int) (x : ByteArray) (ks : List Tree) (hg : FitT (.mk k x ks)) (hk : k < 100) (s : BSt) : zv8 s (zbg src (.mk k x ks) s).2 (zbg src (.mk k x ks) s).1 (cntT (.mk k x ks)) (zem (.mk k x ks)) := by
 have h := zff src ks hg.kids s.off ⟨k, 0, zj, s.off, -1, -1, []⟩ s (.inl ⟨rfl, rfl, Nat.le_refl _⟩)
 have h1 := h.off
 have h2 := h.ds
 have h3 := h.rng
 have f1 := zgo src (endP (zbf src ks ⟨k, 0, zj, s.off, -1, -1, []⟩ s).1) (zbf src ks ⟨k, 0, zj, s.off, -1, -1, []⟩ s).2
 have f2 := zjf src (endP (zbf src ks ⟨k, 0, zj, s.off, -1, -1, []⟩ s).1) (zbf src ks ⟨k, 0, zj, s.off, -1, -1, []⟩ s).2
 rw [zbg, zcz k x ks hk]
 refine ⟨f1.1.trans h1, ?_, ?_⟩
 ·have := f1.2
  simp only [cntT]
  omega
 ·rw [f2.1, f2.2, f1.1]
  simp only [endP]
  unfold Rng at h3
  omega
theorem zjr {s : ByteArray} (hs : s.size ≤ 2000) (w : World) (hS : Spc w) (hG : Glb w.heap.size w) :
  Calls Tryz.prog 25 #[.string s] w fun e w' => ∃ hd F dv, e = .returned (.tuple #[.agg #[.int .i64 (astN s).f0, .int .i64 (astN s).f1, .string (astN s).f2, .int .i64 (astN s).f3, .int .i64 (astN s).f4, .int .i64 (astN s).f5, hd], dv, .int .i64 0]) ∧ AR w' w.heap.size NDT (astN s).f6 hd F ∧ w'.ownsRow w.heap.size 109 5 dv (astD s).length (zbo (astD s)) ∧ Below w.heap.size w w' := by
 have hl : s.data.toList.length = s.size := by simp
 have HS := ak (And.intro hS hG)
 clear hS hG
 go_enter Tryz.func25, Tryz.ntmps25
 go_wp2_with fail
 refine (zrp hs _ (HS.out.1.below (zh (Below.refl _ _) _))).mono ?_
 rintro e W2 ⟨v, F0, rfl, tr, nd0, hb⟩
 obtain ⟨vA, vc, rfl⟩ : ∃ A c, v = .slice A (zam s.data.toList).length c := by
  obtain ⟨_, _, ho, _, _⟩ := tr
  exact Par.za3 ho
 have hr := hb.block w.heap.size (by simp [World.size_alloc])
 rw [zaj w] at hr
 have hlt := za8 hr
 have hbw : Below w.heap.size w W2 := (zh (Below.refl _ _) _).trans (hb.mono (by simp [World.size_alloc]))
 obtain ⟨W3, hW3⟩ : ∃ W3, (W2.alloc (.cells #[.int .i64 1, .string ⟨#[]⟩, .slice vA (zam s.data.toList).length vc] 128)).alloc (.cells #[.string s, .int .i64 0, .slice none 0 0] 133) = W3 := ⟨_, rfl⟩
 have hb3 : Below W2.heap.size W2 W3 := by rw [← hW3]; exact zh (zh (Below.refl _ _) _) _
 have hs3 : W3.heap.size = W2.heap.size + 1 + 1 := by rw [← hW3]; simp [World.size_alloc]
 have t5 : W3.heap[W2.heap.size]? = some (.cells #[.int .i64 1, .string ⟨#[]⟩, .slice vA (zam s.data.toList).length vc] 128 (0, 0)) := by rw [← hW3]; exact za5 (zaj W2 _) _
 have t7 : W3.heap[W2.heap.size + 1]? = some (.cells #[.string s, .int .i64 0, .slice none 0 0] 133 (0, 0)) := by
  rw [← hW3]
  have hb := zaj (W2.alloc (.cells #[.int .i64 1, .string ⟨#[]⟩, .slice vA (zam s.data.toList).length vc] 128)) (.cells #[.string s, .int .i64 0, .slice none 0 0] 133)
  simp only [World.size_alloc] at hb
  exact hb
 have hg3 : Glb W2.heap.size W3 := ((HS.out.2.keep (fun g h1 h2 => (hbw.trans (hb3.mono (by omega))).block g h1)).up (Nat.le_of_lt hlt))
 have bs3 : BS W2.heap.size (W2.heap.size + 1) s W3 ⟨0, []⟩ := ⟨⟨_, t7, rfl, .inl ⟨rfl, rfl⟩⟩, by omega, hg3⟩
 have tr3 : TRlo W2.heap.size W3 (zam s.data.toList) (.slice vA (zam s.data.toList).length vc) := ⟨_, F0, zeb tr (fun g hg => hb3.block g (zf9 tr g hg).2.1), fun g hg => (zf9 tr g hg).2.1⟩
 have y0 : W3.cell? ⟨W2.heap.size, 0, none⟩ = some (.int .i64 1) := (zf t5 0).trans rfl
 have y1 : W3.cell? ⟨W2.heap.size, 1, none⟩ = some (.string ⟨#[]⟩) := (zf t5 1).trans rfl
 have y2 : W3.cell? ⟨W2.heap.size, 2, none⟩ = some (.slice vA (zam s.data.toList).length vc) := (zf t5 2).trans rfl
 have H3 := ak (And.intro bs3 (And.intro tr3 (And.intro hb3 (And.intro hs3 (And.intro hr (And.intro hbw hlt))))))
 clear tr nd0 hb hr hlt hbw hb3 hs3 t5 t7 hg3 bs3 tr3
 go_wp2_with fail
 clear hW3 y0 y1 y2
 obtain ⟨rf1, rf2, rf3⟩ := zgz (l := s.data.toList) (by omega)
 refine (zp5 (src := s) (by omega) 60001 (.mk 1 zj (zam s.data.toList)) rf2 rf1 (show (1 : Int) < 100 by decide) W3 ⟨0, []⟩ _ H3.out.1 H3.out.2.1 (by have := H3.out.2.2.2.1; omega) (by rw [rf3]; show 0 + _ + _ ≤ _; omega) (by rw [rf3]; show 0 + _ ≤ _; omega)).mono ?_
 clear rf1 rf2 rf3
 rintro e W4 ⟨hd, F, rfl, ar4, bs4, f4⟩
 obtain ⟨R, hR⟩ : ∃ R, zbg s (.mk 1 zj (zam s.data.toList)) ⟨0, []⟩ = R := ⟨_, rfl⟩
 rw [hR] at ar4 bs4 ⊢
 obtain ⟨hA, hc, rfl⟩ : ∃ A c, hd = .slice A R.1.f6.length c := by
  obtain ⟨_, _, ho, _, _⟩ := ar4
  exact Par.za3 ho
 obtain ⟨dv, b1, b2⟩ := bs4.obj
 obtain ⟨dA, dc, rfl⟩ := Par.za3 b2
 have hnk' : ∀ R, zbg s (.mk 1 zj (zam s.data.toList)) ⟨0, []⟩ = R → R.2.ds.length ≤ 100000 ∧ True := fun R hR => by
  obtain ⟨rf1, rf2, rf3⟩ := zgz (l := s.data.toList) (by omega)
  have h1 := (zub s 1 zj (zam s.data.toList) rf1 (by decide) ⟨0, []⟩).ds
  rw [hR, rf3] at h1
  have h2 : (BSt.mk 0 []).ds.length = 0 := rfl
  exact ⟨by omega, trivial⟩
 have HR0 := ak hR
 have s34 := f4.size
 have hs3 := H3.out.2.2.2.1
 have hb43 : Below W2.heap.size W3 W4 := f4.below (Nat.le_refl _) (by omega) (fun _ h => h.elim) (by omega)
 have hwW4 : Below w.heap.size w W4 := H3.out.2.2.2.2.2.1.trans ((H3.out.2.2.1.trans hb43).mono (Nat.le_of_lt H3.out.2.2.2.2.2.2))
 obtain ⟨W5, hW5⟩ : ∃ W5, W4.alloc (.cells #[.int .i64 R.1.f0, .int .i64 R.1.f1, .string R.1.f2, .int .i64 0, .int .i64 (s.size : Int), .int .i64 R.1.f5, .slice hA R.1.f6.length hc] NDT) = W5 := ⟨_, rfl⟩
 have o45 : Below W4.heap.size W4 W5 := by rw [← hW5]; exact zh (Below.refl _ _) _
 have hlt0 := H3.out.2.2.2.2.2.2
 have t2 : W5.heap[w.heap.size]? = some (.cells #[.int .i64 0, .int .i64 0, .string ⟨#[]⟩, .int .i64 0, .int .i64 0, .int .i64 0, .slice none 0 0] NDT (0, 0)) := (o45.block _ (by omega)).trans ((hb43.block _ hlt0).trans ((H3.out.2.2.1.block _ hlt0).trans H3.out.2.2.2.2.1))
 have t8 : W5.heap[W4.heap.size]? = some (.cells #[.int .i64 R.1.f0, .int .i64 R.1.f1, .string R.1.f2, .int .i64 0, .int .i64 (s.size : Int), .int .i64 R.1.f5, .slice hA R.1.f6.length hc] NDT (0, 0)) := by rw [← hW5]; exact zaj W4 _
 have tb : W5.heap[W2.heap.size + 1]? = some (.cells #[.string s, .int .i64 (R.2.off : Int), .slice dA R.2.ds.length dc] 133 (0, 0)) := (o45.block _ (za8 b1)).trans b1
 have r5 : W5.ownsRow W2.heap.size 109 5 (.slice dA R.2.ds.length dc) R.2.ds.length (zbo R.2.ds) := za7 b2 (fun g hg => o45.block g (zax b2 g hg).2.1)
 have hdl : R.2.ds.length ≤ 1000000 := by
  have h1 := (hnk' R hR).1
  omega
 have ar5 : AR W5 W3.heap.size NDT R.1.f6 (.slice hA R.1.f6.length hc) F := zfo ar4 (fun g hg => o45.block g (zc8 ar4 g hg).2.1)
 have hB5 : Below w.heap.size w W5 := hwW4.trans (o45.mono (by omega))
 have n0 : W5.cell? ⟨W4.heap.size, 0, none⟩ = some (.int .i64 R.1.f0) := (zf t8 0).trans rfl
 have n1 : W5.cell? ⟨W4.heap.size, 1, none⟩ = some (.int .i64 R.1.f1) := (zf t8 1).trans rfl
 have n2 : W5.cell? ⟨W4.heap.size, 2, none⟩ = some (.string R.1.f2) := (zf t8 2).trans rfl
 have n3 : W5.cell? ⟨W4.heap.size, 3, none⟩ = some (.int .i64 0) := (zf t8 3).trans rfl
 have n4 : W5.cell? ⟨W4.heap.size, 4, none⟩ = some (.int .i64 (s.size : Int)) := (zf t8 4).trans rfl
 have n5 : W5.cell? ⟨W4.heap.size, 5, none⟩ = some (.int .i64 R.1.f5) := (zf t8 5).trans rfl
 have n6 : W5.cell? ⟨W4.heap.size, 6, none⟩ = some (.slice hA R.1.f6.length hc) := (zf t8 6).trans rfl
 have cb : W5.cell? ⟨W2.heap.size + 1, 2, none⟩ = some (.slice dA R.2.ds.length dc) := (zf tb 2).trans rfl
 have H5 := ak (And.intro t2 (And.intro t8 (And.intro tb (And.intro r5 (And.intro ar5 (And.intro hB5 (And.intro hlt0 (And.intro s34 hs3))))))))
 clear o45 hlt0 t2 t8 tb r5 ar5 hB5 ar4 bs4 b1 b2 f4 hnk' hb43 hwW4 s34 hs3
 go_wp2_with fail
 clear hW5
 refine (zo3 H5.out.2.2.2.1 (by omega)).mono ?_
 rintro e W6 ⟨rfl, r6, e1, e2, e3, sz6, kp6⟩
 have hown : ∀ (g : Nat) (c : Array Value) (t : TypeId), W5.heap[g]? = some (.cells c t (0, 0)) → t ≠ 109 → g ∉ own1 (.slice dA R.2.ds.length dc) := fun g c t h1 h2 hg => by
  obtain ⟨_, _, cur, h3⟩ := zax H5.out.2.2.2.1 g hg
  exact Ty.ne h1 h2 ⟨_, _, h3⟩
 have t2 := (kp6 _ (za8 H5.out.1) (hown _ _ _ H5.out.1 (by decide))).trans H5.out.1
 have t8 := (kp6 _ (za8 H5.out.2.1) (hown _ _ _ H5.out.2.1 (by decide))).trans H5.out.2.1
 have tb := (kp6 _ (za8 H5.out.2.2.1) (hown _ _ _ H5.out.2.2.1 (by decide))).trans H5.out.2.2.1
 have ar6 : AR W6 W3.heap.size NDT R.1.f6 (.slice hA R.1.f6.length hc) F := zfo H5.out.2.2.2.2.1 (fun g hg => by
  obtain ⟨_, h2, cur, h3⟩ := zc8 H5.out.2.2.2.2.1 g hg
  exact kp6 g h2 (hown g cur _ h3 (by decide)))
 have hB6 : Below w.heap.size w W6 := ⟨e1.trans H5.out.2.2.2.2.2.1.os, e2.trans H5.out.2.2.2.2.2.1.tape, e3.trans H5.out.2.2.2.2.2.1.output, Nat.le_trans H5.out.2.2.2.2.2.1.size sz6, fun g hg => (kp6 g (Nat.lt_of_lt_of_le hg H5.out.2.2.2.2.2.1.size) (fun hh => by have := (zax H5.out.2.2.2.1 g hh).1; have := H5.out.2.2.2.2.2.2.1; omega)).trans (H5.out.2.2.2.2.2.1.block g hg)⟩
 have H6 := ak (And.intro t2 (And.intro t8 (And.intro tb (And.intro r6 (And.intro ar6 hB6)))))
 clear n0 n1 n2 n3 n4 n5 n6 cb
 have n0 : W6.cell? ⟨W4.heap.size, 0, none⟩ = some (.int .i64 R.1.f0) := (zf t8 0).trans rfl
 have n1 : W6.cell? ⟨W4.heap.size, 1, none⟩ = some (.int .i64 R.1.f1) := (zf t8 1).trans rfl
 have n2 : W6.cell? ⟨W4.heap.size, 2, none⟩ = some (.string R.1.f2) := (zf t8 2).trans rfl
 have n3 : W6.cell? ⟨W4.heap.size, 3, none⟩ = some (.int .i64 0) := (zf t8 3).trans rfl
 have n4 : W6.cell? ⟨W4.heap.size, 4, none⟩ = some (.int .i64 (s.size : Int)) := (zf t8 4).trans rfl
 have n5 : W6.cell? ⟨W4.heap.size, 5, none⟩ = some (.int .i64 R.1.f5) := (zf t8 5).trans rfl
 have n6 : W6.cell? ⟨W4.heap.size, 6, none⟩ = some (.slice hA R.1.f6.length hc) := (zf t8 6).trans rfl
 have cb : W6.cell? ⟨W2.heap.size + 1, 2, none⟩ = some (.slice dA R.2.ds.length dc) := (zf tb 2).trans rfl
 clear t2 t8 tb r6 ar6 hB6 kp6 e1 e2 e3 sz6 hown
 go_wp2_with fail
 refine zc7 (ds := []) (S := (fun w' => w'.cell? ⟨W4.heap.size, 0, none⟩ = some (.int .i64 R.1.f0) ∧ w'.cell? ⟨W4.heap.size, 1, none⟩ = some (.int .i64 R.1.f1) ∧ w'.cell? ⟨W4.heap.size, 2, none⟩ = some (.string R.1.f2) ∧ w'.cell? ⟨W4.heap.size, 3, none⟩ = some (.int .i64 0) ∧ w'.cell? ⟨W4.heap.size, 4, none⟩ = some (.int .i64 (s.size : Int)) ∧ w'.cell? ⟨W4.heap.size, 5, none⟩ = some (.int .i64 R.1.f5) ∧ w'.cell? ⟨W4.heap.size, 6, none⟩ = some (.slice hA R.1.f6.length hc) ∧ w'.cell? ⟨W2.heap.size + 1, 2, none⟩ = some (.slice dA R.2.ds.length dc))) #[false, false, false, false, false, false, false, false, false] (by kernel_rfl) rfl rfl ⟨n0, n1, n2, n3, n4, n5, n6, cb⟩ (fun hS => ?_)
 refine take_ (i := 0) (N := some 33) (v := .agg #[.int .i64 R.1.f0, .int .i64 R.1.f1, .string R.1.f2, .int .i64 0, .int .i64 (s.size : Int), .int .i64 R.1.f5, .slice hA R.1.f6.length hc]) #[true, false, false, false, false, false, false, false, false] rfl rfl (by kernel_rfl) (fun _ _ _ h => h) (Or.inl ⟨by kernel_rfl, by rintro w' ⟨z1, z2, z3, z4, z5, z6, z7, z8⟩; go_simp⟩) hS rfl ?_
 simp only [Act.put, sia, List.set]
 refine take_ (i := 1) (N := some 34) (v := .pointer (some ⟨W2.heap.size + 1, 0, none⟩)) #[true, true, false, false, false, false, false, false, false] rfl rfl (by kernel_rfl) (fun _ _ _ h => h) (Or.inl ⟨by kernel_rfl, by rintro w' ⟨z1, z2, z3, z4, z5, z6, z7, z8⟩; go_simp⟩) hS rfl ?_
 simp only [Act.put, sia, List.set]
 refine take_ (i := 2) (N := some 35) (v := .pointer (some ⟨W2.heap.size + 1, 0, none⟩)) #[true, true, true, false, false, false, false, false, false] rfl rfl (by kernel_rfl) (fun _ _ _ h => h) (Or.inl ⟨by kernel_rfl, by rintro w' ⟨z1, z2, z3, z4, z5, z6, z7, z8⟩; go_simp⟩) hS rfl ?_
 simp only [Act.put, sia, List.set]
 refine take_ (i := 3) (N := some 36) (v := .pointer (some ⟨W2.heap.size + 1, 2, none⟩)) #[true, true, true, true, false, false, false, false, false] rfl rfl (by kernel_rfl) (fun _ _ _ h => h) (Or.inl ⟨by kernel_rfl, by rintro w' ⟨z1, z2, z3, z4, z5, z6, z7, z8⟩; go_simp⟩) hS rfl ?_
 simp only [Act.put, sia, List.set]
 refine take_ (i := 4) (N := some 37) (v := .slice dA R.2.ds.length dc) #[true, true, true, true, true, false, false, false, false] rfl rfl (by kernel_rfl) (fun _ _ _ h => h) (Or.inl ⟨by kernel_rfl, by rintro w' ⟨z1, z2, z3, z4, z5, z6, z7, z8⟩; go_simp⟩) hS rfl ?_
 simp only [Act.put, sia, List.set]
 refine one_ (i := 5) (N := some 38) #[true, true, true, true, true, true, false, false, false] rfl rfl (by kernel_rfl) (by simp) (fun K hK => ?_)
 go_simp
 have hq : W6.drew.ownsRow W2.heap.size 109 5 (.slice dA R.2.ds.length dc) (sortD R.2.ds).length (zbo (sortD R.2.ds)) := by
  rw [zgx]
  exact za7 H6.out.2.2.2.1 (fun g hg => rfl)
 refine (zj8 hq (by rw [zgx]; omega)).mono ?_
 clear hq
 rintro e W7 ⟨h7, rfl, r7, eo7, e1, e2, e3, sz7, kp7⟩
 have hown : ∀ (g : Nat) (c : Array Value) (t : TypeId), W6.heap[g]? = some (.cells c t (0, 0)) → t ≠ 109 → g ∉ own1 (.slice dA R.2.ds.length dc) := fun g c t h1 h2 hg => by
  obtain ⟨_, _, cur, h3⟩ := zax H6.out.2.2.2.1 g hg
  exact Ty.ne h1 h2 ⟨_, _, h3⟩
 have t2 := (kp7 _ (za8 H6.out.1) (hown _ _ _ H6.out.1 (by decide))).trans H6.out.1
 have t8 := (kp7 _ (za8 H6.out.2.1) (hown _ _ _ H6.out.2.1 (by decide))).trans H6.out.2.1
 have tb := (kp7 _ (za8 H6.out.2.2.1) (hown _ _ _ H6.out.2.2.1 (by decide))).trans H6.out.2.2.1
 have ar7 : AR W7 W3.heap.size NDT R.1.f6 (.slice hA R.1.f6.length hc) F := zfo H6.out.2.2.2.2.1 (fun g hg => by
  obtain ⟨_, h2, cur, h3⟩ := zc8 H6.out.2.2.2.2.1 g hg
  exact kp7 g h2 (hown g cur _ h3 (by decide)))
 have hB7 : Below w.heap.size w W7 := ⟨e1.trans H6.out.2.2.2.2.2.os, e2.trans H6.out.2.2.2.2.2.tape, e3.trans H6.out.2.2.2.2.2.output, Nat.le_trans H6.out.2.2.2.2.2.size sz7, fun g hg => (kp7 g (Nat.lt_of_lt_of_le hg H6.out.2.2.2.2.2.size) (fun hh => by have := (zax H6.out.2.2.2.1 g hh).1; have := H5.out.2.2.2.2.2.2.1; omega)).trans (H6.out.2.2.2.2.2.block g hg)⟩
 have cS : (fun w' => w'.cell? ⟨W4.heap.size, 0, none⟩ = some (.int .i64 R.1.f0) ∧ w'.cell? ⟨W4.heap.size, 1, none⟩ = some (.int .i64 R.1.f1) ∧ w'.cell? ⟨W4.heap.size, 2, none⟩ = some (.string R.1.f2) ∧ w'.cell? ⟨W4.heap.size, 3, none⟩ = some (.int .i64 0) ∧ w'.cell? ⟨W4.heap.size, 4, none⟩ = some (.int .i64 (s.size : Int)) ∧ w'.cell? ⟨W4.heap.size, 5, none⟩ = some (.int .i64 R.1.f5) ∧ w'.cell? ⟨W4.heap.size, 6, none⟩ = some (.slice hA R.1.f6.length hc) ∧ w'.cell? ⟨W2.heap.size + 1, 2, none⟩ = some (.slice dA R.2.ds.length dc)) W7 := ⟨(zf t8 0).trans rfl, (zf t8 1).trans rfl, (zf t8 2).trans rfl, (zf t8 3).trans rfl, (zf t8 4).trans rfl, (zf t8 5).trans rfl, (zf t8 6).trans rfl, (zf tb 2).trans rfl⟩
 have H7 := ak (And.intro t2 (And.intro r7 (And.intro ar7 hB7)))
 obtain ⟨h7A, h7c, rfl⟩ := Par.za3 r7
 have hDD := ak eo7
 have y0 : W7.cell? ⟨w.heap.size, 0, none⟩ = some (.int .i64 0) := (zf t2 0).trans rfl
 have z0 := zl t2 0
 have y1 : W7.cell? ⟨w.heap.size, 1, none⟩ = some (.int .i64 0) := (zf t2 1).trans rfl
 have z1 := zl t2 1
 have y2 : W7.cell? ⟨w.heap.size, 2, none⟩ = some (.string ⟨#[]⟩) := (zf t2 2).trans rfl
 have z2 := zl t2 2
 have y3 : W7.cell? ⟨w.heap.size, 3, none⟩ = some (.int .i64 0) := (zf t2 3).trans rfl
 have z3 := zl t2 3
 have y4 : W7.cell? ⟨w.heap.size, 4, none⟩ = some (.int .i64 0) := (zf t2 4).trans rfl
 have z4 := zl t2 4
 have y5 : W7.cell? ⟨w.heap.size, 5, none⟩ = some (.int .i64 0) := (zf t2 5).trans rfl
 have z5 := zl t2 5
 have y6 : W7.cell? ⟨w.heap.size, 6, none⟩ = some (.slice none 0 0) := (zf t2 6).trans rfl
 have z6 := zl t2 6
 clear t2 t8 tb ar7 hB7 kp7 e1 e2 e3 sz7 hown r7 eo7
 refine hK.out _ _ cS (fun hS => ?_)
 clear hK
 try simp only [Act.put, sia, List.set]
 refine one_ (i := 6) (N := none) #[true, true, true, true, true, true, true, false, false] rfl rfl (by kernel_rfl) (by simp) (fun K hK => ?_)
 go_simp
 have W8h : ∃ W8, (((((((W7.setCell ⟨w.heap.size, 0, none⟩ (.int .i64 R.1.f0)).setCell ⟨w.heap.size, 1, none⟩ (.int .i64 R.1.f1)).setCell ⟨w.heap.size, 2, none⟩ (.string R.1.f2)).setCell ⟨w.heap.size, 3, none⟩ (.int .i64 0)).setCell ⟨w.heap.size, 4, none⟩ (.int .i64 (s.size : Int))).setCell ⟨w.heap.size, 5, none⟩ (.int .i64 R.1.f5)).setCell ⟨w.heap.size, 6, none⟩ (.slice hA R.1.f6.length hc)) = W8 := ⟨_, rfl⟩
 obtain ⟨W8, hW8⟩ := W8h
 have o8 : Only w.heap.size W7 W8 := by rw [← hW8]; exact zy8 W7 _ _ _ _ _ _ _ _
 have t9 : W8.heap[w.heap.size]? = some (.cells #[.int .i64 R.1.f0, .int .i64 R.1.f1, .string R.1.f2, .int .i64 0, .int .i64 (s.size : Int), .int .i64 R.1.f5, .slice hA R.1.f6.length hc] NDT (0, 0)) := by rw [← hW8]; exact set7 H7.out.1 _ _ _ _ _ _ _
 have hk8 : ∀ g i v, g < W7.heap.size → g ≠ w.heap.size → W7.cell? ⟨g, i, none⟩ = some v → W8.cell? ⟨g, i, none⟩ = some v := fun g i v h1 h2 h3 => (World.cell?_of_block (o8.kept g h1 h2)).trans h3
 have hlt7 := H5.out.2.2.2.2.2.2.1
 have hlt4 := World.block_lt_of_cell? W7 ⟨W4.heap.size, 0, none⟩ cS.1
 have hltb := World.block_lt_of_cell? W7 ⟨W2.heap.size + 1, 2, none⟩ cS.2.2.2.2.2.2.2
 have s34 := H5.out.2.2.2.2.2.2.2.1
 have hs3 := H5.out.2.2.2.2.2.2.2.2
 have cS8 : W8.cell? ⟨W4.heap.size, 0, none⟩ = some (.int .i64 R.1.f0) ∧ W8.cell? ⟨W4.heap.size, 1, none⟩ = some (.int .i64 R.1.f1) ∧ W8.cell? ⟨W4.heap.size, 2, none⟩ = some (.string R.1.f2) ∧ W8.cell? ⟨W4.heap.size, 3, none⟩ = some (.int .i64 0) ∧ W8.cell? ⟨W4.heap.size, 4, none⟩ = some (.int .i64 (s.size : Int)) ∧ W8.cell? ⟨W4.heap.size, 5, none⟩ = some (.int .i64 R.1.f5) ∧ W8.cell? ⟨W4.heap.size, 6, none⟩ = some (.slice hA R.1.f6.length hc) ∧ W8.cell? ⟨W2.heap.size + 1, 2, none⟩ = some (.slice dA R.2.ds.length dc) :=
  ⟨hk8 _ _ _ hlt4 (by omega) cS.1, hk8 _ _ _ hlt4 (by omega) cS.2.1, hk8 _ _ _ hlt4 (by omega) cS.2.2.1, hk8 _ _ _ hlt4 (by omega) cS.2.2.2.1, hk8 _ _ _ hlt4 (by omega) cS.2.2.2.2.1, hk8 _ _ _ hlt4 (by omega) cS.2.2.2.2.2.1, hk8 _ _ _ hlt4 (by omega) cS.2.2.2.2.2.2.1, hk8 _ _ _ hltb (by omega) cS.2.2.2.2.2.2.2⟩
 have ar8 : AR W8 W3.heap.size NDT R.1.f6 (.slice hA R.1.f6.length hc) F := zfo H7.out.2.2.1 (fun g hg => by
  have h2 := zc8 H7.out.2.2.1 g hg
  exact o8.kept g h2.2.1 (by omega))
 have r8 : W8.ownsRow W2.heap.size 109 5 (.slice h7A (zcv (sortD R.2.ds)).length h7c) (zcv (sortD R.2.ds)).length (zbo (zcv (sortD R.2.ds))) := za7 H7.out.2.1 (fun g hg => by
  have h2 := zax H7.out.2.1 g hg
  exact o8.kept g h2.2.1 (by omega))
 have hB8 : Below w.heap.size w W8 := H7.out.2.2.2.trans (o8.belowN (Nat.le_refl _) H7.out.2.2.2.size)
 have H8 := ak (And.intro t9 (And.intro ar8 (And.intro r8 (And.intro hB8 (And.intro hlt7 (And.intro s34 hs3))))))
 rw [hW8]
 clear hW8 t9 ar8 r8 hB8 hk8 o8 hlt7 s34 hs3 hlt4 hltb y0 y1 y2 y3 y4 y5 y6 z0 z1 z2 z3 z4 z5 z6
 refine hK.out _ _ cS8 (fun hS => ?_)
 clear hK
 try simp only [Act.put, sia, List.set]
 refine take_ (i := 7) (N := some 3) (v := .slice h7A (zcv (sortD R.2.ds)).length h7c) #[true, true, true, true, true, true, true, true, false] rfl rfl (by kernel_rfl) (fun _ _ _ h => h) (Or.inl ⟨by kernel_rfl, by rintro w' ⟨z1, z2, z3, z4, z5, z6, z7, z8⟩; go_simp⟩) hS rfl ?_
 simp only [Act.put, sia, List.set]
 refine take_ (i := 8) (N := some 4) (v := .int .i64 0) #[true, true, true, true, true, true, true, true, true] rfl rfl (by kernel_rfl) (fun _ _ _ h => h) (Or.inl ⟨by kernel_rfl, by rintro w' ⟨z1, z2, z3, z4, z5, z6, z7, z8⟩; go_simp⟩) hS rfl ?_
 simp only [Act.put, sia, List.set]
 refine zq (by kernel_rfl) ?_ _
 go_wp2_with fail
 have x0 : W8.cell? ⟨w.heap.size, 0, none⟩ = some (.int .i64 R.1.f0) := (zf H8.out.1 0).trans rfl
 have x1 : W8.cell? ⟨w.heap.size, 1, none⟩ = some (.int .i64 R.1.f1) := (zf H8.out.1 1).trans rfl
 have x2 : W8.cell? ⟨w.heap.size, 2, none⟩ = some (.string R.1.f2) := (zf H8.out.1 2).trans rfl
 have x3 : W8.cell? ⟨w.heap.size, 3, none⟩ = some (.int .i64 0) := (zf H8.out.1 3).trans rfl
 have x4 : W8.cell? ⟨w.heap.size, 4, none⟩ = some (.int .i64 (s.size : Int)) := (zf H8.out.1 4).trans rfl
 have x5 : W8.cell? ⟨w.heap.size, 5, none⟩ = some (.int .i64 R.1.f5) := (zf H8.out.1 5).trans rfl
 have x6 : W8.cell? ⟨w.heap.size, 6, none⟩ = some (.slice hA R.1.f6.length hc) := (zf H8.out.1 6).trans rfl
 refine bodyPost_ret (v := .tuple #[.agg #[.int .i64 R.1.f0, .int .i64 R.1.f1, .string R.1.f2, .int .i64 0, .int .i64 (s.size : Int), .int .i64 R.1.f5, .slice hA R.1.f6.length hc], .slice h7A (zcv (sortD R.2.ds)).length h7c, .int .i64 0]) (by simp [results, Tryz.results25, go_sem, x0, x1, x2, x3, x4, x5, x6]) rfl ?_
 obtain ⟨t9, ar8, r8, hB8, hlt7, s34, hs3⟩ := H8.out
 have e : astR s.data.toList s = R := HR0.out
 have en : astN s = ⟨R.1.f0, R.1.f1, R.1.f2, 0, (s.size : Int), R.1.f5, R.1.f6⟩ := by unfold astN; rw [e]
 have ed : astD s = zcv (sortD R.2.ds) := by unfold astD; rw [e]
 rw [en, ed]
 exact ⟨_, F, _, rfl, zyp ar8 (by omega), zi3 r8 (by omega), hB8⟩
end Go.Proofs.YtmoelofaojgjfaaGreatDoor.Par
namespace Go.Proofs.YtmoelofaojgjfaaGreatDoor.Par
open Go.RowKit
mutual
def shN (d : Int) : Nd → Nd
 | ⟨k, v, t, a, b, x, ks⟩ => ⟨k, v, t, a + d, if b < 0 then b else b + d, if x < 0 then x else x + d, shL d ks⟩
def shL (d : Int) : List Nd → List Nd
 | [] => []
 | c :: cs => shN d c :: shL d cs
end
theorem ze2 (d : Int) (n : Nd) : shN d n = ⟨n.f0, n.f1, n.f2, n.f3 + d, if n.f4 < 0 then n.f4 else n.f4 + d, if n.f5 < 0 then n.f5 else n.f5 + d, shL d n.f6⟩ := by
 cases n
 simp only [shN]
theorem zrc (d : Int) (a b : List Nd) : shL d (a ++ b) = shL d a ++ shL d b := by
 induction a with
 | nil => rfl
 | cons c cs ih => simp only [List.cons_append, shL, ih]
theorem zyb {b : Int} {d : Nat} : (if b < 0 then b else b + (d : Int)) < 0 ↔ b < 0 := by
 split <;> omega
theorem zkf {n : Nd} {a b : Int} {d : Nat} (hb : 0 ≤ b) : zay (shN d n) (a + d) (b + d) = shN d (zay n a b) := by
 obtain ⟨k, v, t, a0, b0, x, ks⟩ := n
 have e : ¬ b < 0 := by omega
 simp only [zay, shN, zyb, if_neg e]
 by_cases h : b0 < 0
 ·simp only [if_pos h]
 ·simp only [if_neg h]
theorem zrd {n : Nd} {text : ByteArray} {d : Nat} : za2 (shN d n) text = shN d (za2 n text) := by
 have e0 : (shN d n).f0 = n.f0 := by rw [ze2]
 have e1 : (shN d n).f1 = n.f1 := by rw [ze2]
 have e2 : (shN d n).f2 = n.f2 := by rw [ze2]
 unfold za2
 rw [e0, e1, e2]
 by_cases h1 : text = (⟨#[112, 117, 98]⟩ : ByteArray)
 ·rw [if_pos h1, if_pos h1]
  simp only [ze2]
 rw [if_neg h1, if_neg h1]
 by_cases h1 : text = (⟨#[109, 117, 116]⟩ : ByteArray)
 ·rw [if_pos h1, if_pos h1]
  simp only [ze2]
 rw [if_neg h1, if_neg h1]
 by_cases h1 : text = (⟨#[42]⟩ : ByteArray) ∧ n.f0 = 2
 ·rw [if_pos h1, if_pos h1]
  simp only [ze2]
 rw [if_neg h1, if_neg h1]
 by_cases h1 : text = (⟨#[116, 114, 117, 101]⟩ : ByteArray) ∧ n.f0 = 28
 ·rw [if_pos h1, if_pos h1]
  simp only [ze2]
 rw [if_neg h1, if_neg h1]
 by_cases h1 : (n.f0 = 39 ∨ n.f0 = 40) ∧ n.f2 = zj
 ·rw [if_pos h1, if_pos h1]
  simp only [ze2]
 rw [if_neg h1, if_neg h1]
theorem zou (l : List UInt8) : ∀ (f i a b : Nat) (acc : List UInt8) (s s' : BSt), (unqP l a f i acc s).1 = (unqP l b f i acc s').1
 | 0, i, a, b, acc, s, s' => by simp only [unqP]
 | f + 1, i, a, b, acc, s, s' => by
  simp only [unqP]
  split
  ·split
   ·exact zou l f _ a b _ _ _
   ·exact zou l f _ a b _ _ _
  ·rfl
theorem zzm (text : ByteArray) (a b : Nat) (s s' : BSt) : (intP text a s).1 = (intP text b s').1 := by
 unfold intP
 split
 ·split <;> rfl
 ·rfl
theorem zti {n : Nd} {k : Int} {text : ByteArray} {s s' : BSt} {d : Nat} (hs : s'.off = s.off + d) : (za6 (shN d n) k text s').1 = shN d (za6 n k text s).1 := by
 have ex : ∀ m : Nd, zay (shN d m) (s'.off : Int) ((s'.off + text.size : Nat) : Int) = shN d (zay m s.off (s.off + text.size : Nat)) := fun m => by
  rw [← zkf (by omega), hs]
  congr 1 <;> omega
 unfold za6
 split
 ·rfl
 split
 ·split
  ·rfl
  ·exact ex n
 split
 ·rw [← ex]
  congr 1
  unfold zcc
  obtain ⟨k0, v, t, a0, b0, x, ks⟩ := n
  simp only [shN, zyb]
  split
  ·have h : ¬ ((s.off : Int) < 0) := by omega
   simp only [shN, if_neg h, hs]
   congr 1
  ·simp only [shN]
 split
 ·rw [← ex]
  congr 1
  obtain ⟨k0, v, t, a0, b0, x, ks⟩ := n
  simp only [shN]
  rw [zzm text s'.off s.off _ ⟨s.off + text.size, s.ds⟩]
 split
 ·rw [← ex]
  congr 1
  obtain ⟨k0, v, t, a0, b0, x, ks⟩ := n
  simp only [shN, zca]
  rw [zou _ _ _ s'.off s.off _ _ ⟨s.off + text.size, s.ds⟩]
 ·rw [zrd]
  exact ex _
theorem ztj {n : Nd} {k : Int} {text : ByteArray} {s : BSt} (h : 0 ≤ n.f3) : 0 ≤ (za6 n k text s).1.f3 := by
 have ex : ∀ m : Nd, m.f3 = n.f3 → 0 ≤ (zay m (s.off : Int) (s.off + text.size : Nat)).f3 := fun m hm => by
  unfold zay
  dsimp only
  split <;> omega
 unfold za6
 split
 ·exact h
 split
 ·split
  ·exact h
  ·exact ex n rfl
 split
 ·exact ex _ (zcy _ _ _ _).1
 split
 ·exact ex _ rfl
 split
 ·exact ex _ rfl
 ·exact ex _ (zcb _ _).1
theorem zhh {t : Tree} {ts : List Tree} (h : badL (t :: ts) = false) : bad t = false ∧ badL ts = false := by simpa [badL] using h
theorem zu8 {src src' : ByteArray} {n : Nd} {s s' : BSt} {d : Nat} (h46 : n.f0 ≠ 46) (h3 : 0 ≤ n.f3) (h4 : 0 ≤ n.f4) : (zbe src' (shN d n) s').1 = shN d (zbe src n s).1 ∧ (zbe src' (shN d n) s').2.off = s'.off ∧ 0 ≤ (zbe src n s).1.f3 ∧ 0 ≤ (zbe src n s).1.f4 := by
 obtain ⟨k, v, t, a, b, x, ks⟩ := n
 have hb : ¬ b < 0 := by
  have : 0 ≤ b := h4
  omega
 unfold zbe
 simp only [shN]
 split
 ·cases ks with
  | nil => exact ⟨by simp only [shL, shN, if_neg hb], rfl, h3, h4⟩
  | cons c cs =>
   obtain ⟨k2, v2, t2, a2, b2, x2, ks2⟩ := c
   simp only [shL, shN, if_neg hb]
   exact ⟨trivial, trivial, h3, h4⟩
 ·exact ⟨by simp only [shN, if_neg hb], rfl, h3, h4⟩
theorem z07 {m : Nd} {d : Nat} (h3 : 0 ≤ m.f3) : endP (shN d m) = shN d (endP m) ∧ 0 ≤ (endP m).f3 ∧ 0 ≤ (endP m).f4 := by
 obtain ⟨k, v, t, a, b, x, ks⟩ := m
 have h3' : 0 ≤ a := h3
 have e : ¬ max b a < 0 := by omega
 refine ⟨?_, h3, by show 0 ≤ max b a; omega⟩
 simp only [endP, shN, if_neg e]
 congr 1
 split <;> omega
mutual
theorem zqj (src src' : ByteArray) {d : Nat} : ∀ (t : Tree) (s s' : BSt), bad t = false → s'.off = s.off + d →
  (zbg src' t s').1 = shN d (zbg src t s).1 ∧ (zbg src' t s').2.off = (zbg src t s).2.off + d ∧ 0 ≤ (zbg src t s).1.f3 ∧ 0 ≤ (zbg src t s).1.f4
 | .mk k x ks, s, s', hb, hs => by
  obtain ⟨h46, _, hk⟩ := zdq hb
  have e0 : (⟨k, 0, zj, (s'.off : Int), -1, -1, []⟩ : Nd) = shN d ⟨k, 0, zj, (s.off : Int), -1, -1, []⟩ := by
   simp only [shN, shL, hs, if_pos (show (-1 : Int) < 0 by decide)]
   congr 1
  obtain ⟨h1, h2, h3, h4⟩ := zlo src src' ks ⟨k, 0, zj, s.off, -1, -1, []⟩ s s' hk hs (show (0 : Int) ≤ (s.off : Int) by omega)
  rw [zbg, zbg, e0]
  rw [h1]
  obtain ⟨g1, g2, g3⟩ := z07 (d := d) h3
  rw [g1]
  obtain ⟨f1, f2, f3, f4⟩ := zu8 (src := src) (src' := src') (s := (zbf src ks ⟨k, 0, zj, s.off, -1, -1, []⟩ s).2) (s' := (zbf src' ks (shN d ⟨k, 0, zj, s.off, -1, -1, []⟩) s').2) (d := d) (n := endP (zbf src ks ⟨k, 0, zj, s.off, -1, -1, []⟩ s).1) (by show (zbf src ks ⟨k, 0, zj, s.off, -1, -1, []⟩ s).1.f0 ≠ 46; rw [h4]; exact h46) g2 g3
  exact ⟨f1, by rw [f2, h2, (zgo src _ _).1], f3, f4⟩
theorem zlo (src src' : ByteArray) {d : Nat} : ∀ (ts : List Tree) (n : Nd) (s s' : BSt), badL ts = false → s'.off = s.off + d → 0 ≤ n.f3 →
  (zbf src' ts (shN d n) s').1 = shN d (zbf src ts n s).1 ∧ (zbf src' ts (shN d n) s').2.off = (zbf src ts n s).2.off + d ∧ 0 ≤ (zbf src ts n s).1.f3 ∧ (zbf src ts n s).1.f0 = n.f0
 | [], n, s, s', hb, hs, hn => by
  rw [zbf, zbf]
  exact ⟨rfl, hs, hn, rfl⟩
 | t :: ts, n, s, s', hb, hs, hn => by
  obtain ⟨b1, b2⟩ := zhh hb
  rw [zbf, zbf]
  split
  ·rw [zti hs]
   have h := zlo src src' (d := d) ts (za6 n t.kind t.text s).1 (za6 n t.kind t.text s).2 (za6 (shN d n) t.kind t.text s').2 b2 (by rw [(zd6 (shN d n) t.kind t.text s').1, (zd6 n t.kind t.text s).1, hs]; omega) (ztj hn)
   rw [(zcn n t.kind t.text s).2] at h
   exact h
  ·obtain ⟨g1, g2, g3, g4⟩ := zqj src src' t s s' b1 hs
   have ea : zdh (shN d n) (zbg src' t s').1 = shN d (zdh n (zbg src t s).1) := by
    rw [g1]
    generalize (zbg src t s).1 = c at g3 g4
    have hx := zkf (n := n) (a := c.f3) (b := c.f4) (d := d) g4
    have h4 : ¬ c.f4 < 0 := by omega
    have e3 : (shN d c).f3 = c.f3 + d := by rw [ze2]
    have e4 : (shN d c).f4 = c.f4 + d := by rw [ze2, if_neg h4]
    unfold zdh
    rw [e3, e4, hx]
    generalize hm : zay n c.f3 c.f4 = m
    have m4 : m.f4 = c.f4 := by rw [← hm]; rfl
    rw [ze2 d m, ze2 d n, ze2 d ⟨n.f0, n.f1, n.f2, m.f3, m.f4, n.f5, n.f6 ++ [c]⟩]
    simp only [zrc, shL]
   rw [ea]
   exact zlo src src' ts (zdh n (zbg src t s).1) (zbg src t s).2 (zbg src' t s').2 b2 g2 (by
    show 0 ≤ (zay n (zbg src t s).1.f3 (zbg src t s).1.f4).f3
    unfold zay
    dsimp only
    split <;> omega)
end
theorem zhs (src : ByteArray) : ∀ (L : List Tok) (X : List Tree) (n : Nd) (s : BSt), (∀ x ∈ L, triv x.1 = true) → zbf src (L.map leaf ++ X) n s = zbf src X n ⟨s.off + sumB L, s.ds⟩
 | [], X, n, s, h => by
  simp only [List.map_nil, List.nil_append, sumB, List.sum_nil, Nat.add_zero]
 | t :: L, X, n, s, h => by
  have ht := zgt.1 (h t List.mem_cons_self)
  have h1 : za6 n t.1 t.2 s = (n, ⟨s.off + t.2.size, s.ds⟩) := by
   unfold za6
   rw [if_pos ht]
  rw [List.map_cons, List.cons_append, zbf, if_pos (show 100 ≤ (leaf t).kind by show 100 ≤ t.1; omega)]
  rw [show (leaf t).kind = t.1 from rfl, show (leaf t).text = t.2 from rfl, h1]
  rw [zhs src L X n ⟨s.off + t.2.size, s.ds⟩ (fun x hx => h x (List.mem_cons_of_mem _ hx))]
  simp only [sumB, List.map_cons, List.sum_cons, Nat.add_assoc]
theorem zq8 {k v : Int} {t : ByteArray} {a a' b x : Int} {ks : List Nd} (c : Int) (text : ByteArray) (s : BSt) (hb : b < 0) (hc : triv c = false) (h8 : c ≠ 108) :
  za6 ⟨k, v, t, a, b, x, ks⟩ c text s = za6 ⟨k, v, t, a', b, x, ks⟩ c text s := by
 have h1 : ¬ (c = 101 ∨ c = 102) := fun h => by
  rw [zgt.2 h] at hc
  cases hc
 unfold za6
 rw [if_neg h1, if_neg h1, if_neg h8, if_neg h8]
 have ex : ∀ (v1 : Int) (t1 : ByteArray) (x1 : Int) (A B : Int), zay (⟨k, v1, t1, a, b, x1, ks⟩ : Nd) A B = zay ⟨k, v1, t1, a', b, x1, ks⟩ A B := fun v1 t1 x1 A B => by
  simp only [zay, if_pos hb]
 split
 ·unfold zcc
  dsimp only
  split <;> simp only [ex _ _ _ _ _]
 split
 ·simp only [ex _ _ _ _ _]
 split
 ·simp only [ex _ _ _ _ _]
 ·have : zay (za2 ⟨k, v, t, a, b, x, ks⟩ text) (s.off : Int) (s.off + text.size : Nat) = zay (za2 ⟨k, v, t, a', b, x, ks⟩ text) (s.off : Int) (s.off + text.size : Nat) := by
   unfold za2
   dsimp only
   repeat' (first | exact ex _ _ _ _ _ | split)
  rw [this]
theorem zm6 (src : ByteArray) {k v : Int} {t : ByteArray} {a a' b x : Int} {ks : List Nd} (hb : b < 0) : ∀ (X : List Tree) (s : BSt), badL X = false → (∃ y ∈ X, triv y.kind = false) →
  zbf src X ⟨k, v, t, a, b, x, ks⟩ s = zbf src X ⟨k, v, t, a', b, x, ks⟩ s
 | [], s, h, hX => by obtain ⟨y, hy, _⟩ := hX; cases hy
 | y :: X, s, h, hX => by
  obtain ⟨b1, b2⟩ := zhh h
  rw [zbf, zbf]
  split
  ·cases hy : triv y.kind with
   | true =>
    have h1 : ∀ n : Nd, za6 n y.kind y.text s = (n, ⟨s.off + y.text.size, s.ds⟩) := fun n => by
     unfold za6
     rw [if_pos (zgt.1 hy)]
    rw [h1, h1]
    refine zm6 src hb X _ b2 ?_
    obtain ⟨z, hz, e⟩ := hX
    rcases List.mem_cons.1 hz with rfl | hz
    ·rw [hy] at e; cases e
    ·exact ⟨z, hz, e⟩
   | false =>
    have h8 : y.kind ≠ 108 := by
     obtain ⟨k1, t1, ks1⟩ := y
     exact (zdq b1).2.1
    rw [zq8 (a' := a') y.kind y.text s hb hy h8]
  ·have e : zdh (⟨k, v, t, a, b, x, ks⟩ : Nd) (zbg src y s).1 = zdh ⟨k, v, t, a', b, x, ks⟩ (zbg src y s).1 := by
    simp only [zdh, zay, if_pos hb]
   rw [e]
theorem zrw (src : ByteArray) (n : Int) (x : ByteArray) (L : List Tok) (X : List Tree) (s : BSt) (hL : ∀ x ∈ L, triv x.1 = true) (hb : badL X = false) (hX : ∃ y ∈ X, triv y.kind = false) :
  zbg src (.mk n x (L.map leaf ++ X)) s = zbg src (.mk n x X) ⟨s.off + sumB L, s.ds⟩ := by
 rw [zbg, zbg, zhs src L X _ s hL, zm6 src (a' := ((s.off + sumB L : Nat) : Int)) (by decide) X _ hb hX]
def ndL (src : ByteArray) : List Tree → BSt → List Nd × BSt
 | [], s => ([], s)
 | t :: ts, s => ((zbg src t s).1 :: (ndL src ts (zbg src t s).2).1, (ndL src ts (zbg src t s).2).2)
theorem zza (src : ByteArray) (a b : List Tree) (s : BSt) : ndL src (a ++ b) s = ((ndL src a s).1 ++ (ndL src b (ndL src a s).2).1, (ndL src b (ndL src a s).2).2) := by
 induction a generalizing s with
 | nil => rfl
 | cons t ts ih => simp only [List.cons_append, ndL, ih]
theorem zuf (src src' : ByteArray) {d : Nat} : ∀ (ts : List Tree) (s s' : BSt), badL ts = false → s'.off = s.off + d → (ndL src' ts s').1 = shL d (ndL src ts s).1
 | [], s, s', hb, hs => rfl
 | t :: ts, s, s', hb, hs => by
  obtain ⟨b1, b2⟩ := zhh hb
  obtain ⟨g1, g2, _, _⟩ := zqj src src' t s s' b1 hs
  simp only [ndL, shL, g1, zuf src src' ts _ _ b2 g2]
theorem zi9 (src : ByteArray) : ∀ (Y Z : List Tree) (n : Nd) (s : BSt), (∀ t ∈ Y, t.kind < 100) → ∃ m, zbf src (Y ++ Z) n s = zbf src Z m (ndL src Y s).2 ∧ m.f6 = n.f6 ++ (ndL src Y s).1 ∧ m.f0 = n.f0
 | [], Z, n, s, h => ⟨n, rfl, (List.append_nil _).symm, rfl⟩
 | t :: Y, Z, n, s, h => by
  have ht : ¬ 100 ≤ t.kind := by
   have := h t List.mem_cons_self
   omega
  obtain ⟨m, h1, h2, h3⟩ := zi9 src Y Z (zdh n (zbg src t s).1) (zbg src t s).2 (fun x hx => h x (List.mem_cons_of_mem _ hx))
  refine ⟨m, ?_, ?_, h3⟩
  ·rw [List.cons_append, zbf, if_neg ht, h1]
   rfl
  ·rw [h2]
   simp only [zdh, ndL, List.append_assoc, List.singleton_append]
theorem zr6 (src : ByteArray) (L : List Tok) (n : Nd) (s : BSt) (h : ∀ x ∈ L, triv x.1 = true) : zbf src (L.map leaf) n s = (n, ⟨s.off + sumB L, s.ds⟩) := by
 have := zhs src L [] n s h
 rw [List.append_nil] at this
 rw [this, zbf]
theorem zhj (s : ByteArray) {Y : List Tree} {L : List Tok} (h : zam s.data.toList = Y ++ L.map leaf) (hY : ∀ t ∈ Y, t.kind < 100) (hL : ∀ x ∈ L, triv x.1 = true) : (astN s).f6 = (ndL s Y ⟨0, []⟩).1 := by
 obtain ⟨m, h1, h2, hk⟩ := zi9 s Y (L.map leaf) ⟨1, 0, zj, 0, -1, -1, []⟩ ⟨0, []⟩ hY
 rw [zr6 s L m _ hL] at h1
 show (astR s.data.toList s).1.f6 = _
 unfold astR
 rw [zbg, h]
 have e0 : (⟨1, 0, zj, ((0 : Nat) : Int), -1, -1, []⟩ : Nd) = ⟨1, 0, zj, 0, -1, -1, []⟩ := rfl
 show (zbe s (endP (zbf s (Y ++ L.map leaf) ⟨1, 0, zj, 0, -1, -1, []⟩ ⟨0, []⟩).1) (zbf s (Y ++ L.map leaf) ⟨1, 0, zj, 0, -1, -1, []⟩ ⟨0, []⟩).2).1.f6 = _
 rw [h1]
 have f1 : ∀ (m : Nd) (z : BSt), m.f0 = 1 → zbe s m z = (m, z) := fun m z hm => by
  unfold zbe
  rw [if_neg (by rw [hm]; decide), if_neg (by rw [hm]; decide)]
 rw [f1 _ _ (by exact hk)]
 rw [show (endP m).f6 = m.f6 from rfl, h2]
 rfl
end Go.Proofs.YtmoelofaojgjfaaGreatDoor.Par
namespace Go.Proofs.YtmoelofaojgjfaaGreatDoor.Lex
open Go.RowKit Go.Proofs.YtmoelofaojgjfaaGreatDoor.Par
theorem zyw {p : UInt8 → Bool} {l r : List UInt8} {x : UInt8} (hx : p x = false) : (l ++ x :: r).takeWhile p = l.takeWhile p := by
 induction l with
 | nil => simp [List.takeWhile_cons, hx]
 | cons a l ih => simp only [List.cons_append, List.takeWhile_cons, ih]
theorem z1x {p : UInt8 → Bool} {l r : List UInt8} (h : (l.takeWhile p).length < l.length) : (l ++ r).takeWhile p = l.takeWhile p := by
 induction l with
 | nil => simp at h
 | cons a l ih =>
  cases ha : p a with
  | false => simp [List.takeWhile_cons, ha]
  | true =>
   simp only [List.takeWhile_cons, ha, if_true, List.length_cons] at h
   simp only [List.cons_append, List.takeWhile_cons, ha, if_true, ih (by omega)]
theorem zi2 {p : UInt8 → Bool} {l r : List UInt8} (hx : p 10 = false) : zc4 p (l ++ 10 :: r) 0 = zc4 p l 0 := by
 unfold zc4
 rw [List.drop_zero, List.drop_zero, zyw hx]
theorem zlb {l r : List UInt8} {n : Nat} (h : n ≤ l.length) : zc6 (l ++ r) n = zc6 l n := by
 unfold zc6
 rw [List.take_append_of_le_length h]
theorem zgv {l r : List UInt8} : ∀ (f g i n : Nat), zdj l f i = some n → f ≤ g → zdj (l ++ r) g i = some n
 | 0, g, i, n, h, hg => by simp [zdj] at h
 | f + 1, 0, i, n, h, hg => by omega
 | f + 1, g + 1, i, n, h, hg => by
  rw [zdj] at h ⊢
  cases hi : l[i]? with
  | none => rw [hi] at h; cases h
  | some b =>
   rw [hi] at h
   have hlt := (List.getElem?_eq_some_iff.1 hi).1
   rw [List.getElem?_append_left hlt, hi]
   dsimp only at h ⊢
   by_cases h1 : b.toNat = 10
   ·rw [if_pos h1] at h
    cases h
   rw [if_neg h1] at h ⊢
   by_cases h2 : b.toNat = 34
   ·rw [if_pos h2] at h ⊢
    exact h
   rw [if_neg h2] at h ⊢
   by_cases h3 : b.toNat = 92
   ·rw [if_pos h3] at h ⊢
    cases hj : l[i + 1]? with
    | none =>
     rw [hj] at h
     have := zmm (s := l) (f := f) (i := i + 1) (List.getElem?_eq_none_iff.1 hj)
     dsimp only at h
     rw [this] at h
     cases h
    | some c =>
     rw [hj] at h
     have hlt2 := (List.getElem?_eq_some_iff.1 hj).1
     rw [List.getElem?_append_left hlt2, hj]
     dsimp only at h ⊢
     by_cases h4 : c.toNat = 10
     ·rw [if_pos h4] at h ⊢
      exact zgv f g (i + 1) n h (by omega)
     ·rw [if_neg h4] at h ⊢
      exact zgv f g (i + 2) n h (by omega)
   ·rw [if_neg h3] at h ⊢
    exact zgv f g (i + 1) n h (by omega)
theorem zu7 {l : List UInt8} (r : List UInt8) (hl : l ≠ []) (h8 : (first l).2 ≠ 108) (hs : (first l).1 < l.length ∨ (first l).2 ≠ 101) : first (l ++ 10 :: r) = first l := by
 cases l with
 | nil => exact absurd rfl hl
 | cons b t =>
  have hd : (b :: t).headD 0 = b := rfl
  have hd' : ((b :: t) ++ 10 :: r).headD 0 = b := rfl
  unfold first at h8 hs ⊢
  rw [hd] at h8 hs ⊢
  rw [hd']
  by_cases h1 : zch b = true
  ·rw [if_pos h1] at h8 hs ⊢
   rw [if_pos h1]
   rcases hs with hs | hs
   ·have h2 : zc4 zch (b :: t) 0 < (b :: t).length := hs
    unfold zc4 at h2 ⊢
    rw [List.drop_zero] at h2 ⊢
    rw [List.drop_zero, z1x (by omega)]
   ·exact absurd rfl hs
  rw [if_neg h1] at h8 hs ⊢
  rw [if_neg h1]
  have hp : Lib.hasPrefix ((b :: t) ++ 10 :: r) [47, 47] = Lib.hasPrefix (b :: t) [47, 47] := by
   unfold Lib.hasPrefix
   cases t with
   | nil => simp [List.isPrefixOf]
   | cons c t => simp [List.isPrefixOf]
  rw [hp]
  by_cases h2 : Lib.hasPrefix (b :: t) [47, 47] = true
  ·rw [if_pos h2, if_pos h2, zi2 (by decide)]
  rw [if_neg h2] at h8 hs ⊢
  rw [if_neg h2]
  by_cases h3 : zfd b = true
  ·have hn : zc4 zk2 (b :: t) 0 ≤ (b :: t).length := zfa (by omega)
   rw [if_pos h3, if_pos h3, zi2 (by decide), zlb hn]
  rw [if_neg h3] at h8 hs ⊢
  rw [if_neg h3]
  by_cases h4 : zhb b = true
  ·rw [if_pos h4, if_pos h4, zi2 (by decide)]
  rw [if_neg h4] at h8 hs ⊢
  rw [if_neg h4]
  by_cases h5 : b.toNat = 34
  ·rw [if_pos h5] at h8 ⊢
   rw [if_pos h5]
   unfold zc9 at h8 ⊢
   cases hg : zdj (b :: t) ((b :: t).length + 1) 1 with
   | none => rw [hg] at h8; exact absurd rfl h8
   | some n =>
    have hq : zdj ((b :: t) ++ 10 :: r) (((b :: t) ++ 10 :: r).length + 1) 1 = some n := zgv _ _ _ _ hg (by simp)
    rw [hq]
  rw [if_neg h5] at h8 hs ⊢
  rw [if_neg h5]
  have h6 : (1 < ((b :: t) ++ 10 :: r).length ∧ twos.any (fun x => decide (zc6 ((b :: t) ++ 10 :: r) 2 = x)) = true) ↔ (1 < (b :: t).length ∧ twos.any (fun x => decide (zc6 (b :: t) 2 = x)) = true) := by
   cases t with
   | nil =>
    refine ⟨fun h => ?_, fun h => ?_⟩
    ·exfalso
     have h7 := h.2
     have e : zc6 ([b] ++ 10 :: r) 2 = ⟨#[b, 10]⟩ := rfl
     rw [e] at h7
     obtain ⟨x, hx, hx2⟩ := List.any_eq_true.1 h7
     have e2 : (⟨#[b, 10]⟩ : ByteArray) = x := odt hx2
     subst e2
     have : ∀ x ∈ twos, x.data[1]? ≠ some 10 := by decide
     exact this _ hx rfl
    ·have := h.1
     simp at this
   | cons c t =>
    rw [zlb (by simp)]
    simp
  by_cases h7 : 1 < (b :: t).length ∧ twos.any (fun x => decide (zc6 (b :: t) 2 = x)) = true
  ·rw [if_pos h7, if_pos (h6.2 h7)]
  ·rw [if_neg h7, if_neg (fun h => h7 (h6.1 h))]
theorem z0i {p : UInt8 → Bool} {l : List UInt8} (h : (l.takeWhile p).length = l.length) : ∀ b ∈ l, p b = true := by
 have e : l.takeWhile p = l := (List.takeWhile_prefix p).eq_of_length h
 intro b hb
 rw [← e] at hb
 exact List.all_eq_true.1 (List.all_takeWhile (p := p) (l := l)) b hb
theorem zgn {l : List UInt8} (h : 0 < (l.takeWhile zch).length) : l ≠ [] ∧ first l = ((l.takeWhile zch).length, 101) := by
 cases l with
 | nil => simp at h
 | cons b t =>
  have hb : zch b = true := by
   cases hb : zch b with
   | true => rfl
   | false =>
    rw [List.takeWhile_cons, hb] at h
    simp at h
  refine ⟨by simp, ?_⟩
  unfold first
  rw [if_pos (show zch ((b :: t).headD 0) = true from hb)]
  unfold zc4
  rw [List.drop_zero, Nat.zero_add]
theorem zr4 {l : List UInt8} (h : (first l).2 = 101) : zch (l.headD 0) = true := by
 unfold first at h
 split at h
 ·assumption
 split at h
 ·cases h
 split at h
 ·dsimp only at h
  split at h <;> cases h
 split at h
 ·cases h
 split at h
 ·unfold zc9 at h
  split at h <;> cases h
 split at h
 ·cases h
 split at h <;> cases h
structure Seam (l r : List UInt8) (A La M Lb B : List Tok) : Prop where
 fst : zbd l = A ++ La
 snd : zbd r = Lb ++ B
 both : zbd (l ++ 10 :: r) = A ++ (M ++ B)
 ta : ∀ x ∈ La, triv x.1 = true
 tm : ∀ x ∈ M, triv x.1 = true
 tb : ∀ x ∈ Lb, triv x.1 = true
theorem zo6 {l : List UInt8} (r : List UInt8) (h : ∀ b ∈ l, zch b = true) : ∃ A La M Lb B, Seam l r A La M Lb B := by
 have e1 : (l ++ 10 :: r).takeWhile zch = l ++ 10 :: r.takeWhile zch := by
  rw [List.takeWhile_append_of_pos h, List.takeWhile_cons, if_pos (by decide)]
 have e2 := zgn (l := l ++ 10 :: r) (by rw [e1, List.length_append, List.length_cons]; omega)
 have e3 : (l ++ 10 :: r).drop ((l ++ 10 :: r).takeWhile zch).length = r.drop (r.takeWhile zch).length := by
  rw [e1, List.length_append, ← List.drop_drop, List.drop_left, List.length_cons, List.drop_succ_cons]
 have hT := zcm e2.1
 rw [e2.2, e3] at hT
 have h1 : ∀ x ∈ zbd l, triv x.1 = true := by
  by_cases hl : l = []
  ·subst hl
   intro x hx
   rw [zdw] at hx
   cases hx
  ·have e4 : l.takeWhile zch = l := by
    have := List.takeWhile_append_of_pos (p := zch) (l₁ := l) (l₂ := []) h
    simpa using this
   have e5 := zgn (l := l) (by rw [e4]; exact List.length_pos_iff.2 hl)
   intro x hx
   rw [zcm hl, e5.2, e4, List.drop_length, zdw] at hx
   rw [List.mem_singleton.1 hx]
   rfl
 by_cases hr : 0 < (r.takeWhile zch).length
 ·obtain ⟨r1, r2⟩ := zgn hr
  refine ⟨[], zbd l, [(101, zc6 (l ++ 10 :: r) ((l ++ 10 :: r).takeWhile zch).length)], [_], zbd (r.drop (r.takeWhile zch).length), rfl, by rw [zcm r1, r2]; rfl, by rw [hT]; rfl, h1, fun x hx => ?_, fun x hx => ?_⟩
  ·rw [List.mem_singleton.1 hx]
   rfl
  ·rw [List.mem_singleton.1 hx]
   rfl
 ·have e6 : (r.takeWhile zch).length = 0 := by omega
  refine ⟨[], zbd l, [(101, zc6 (l ++ 10 :: r) ((l ++ 10 :: r).takeWhile zch).length)], [], zbd r, rfl, rfl, by rw [hT, e6, List.drop_zero]; rfl, h1, fun x hx => ?_, fun x hx => by cases hx⟩
  rw [List.mem_singleton.1 hx]
  rfl
theorem seam : ∀ (n : Nat) (l r : List UInt8), l.length ≤ n → (∀ t ∈ zbd l, t.1 ≠ 108) → ∃ A La M Lb B, Seam l r A La M Lb B
 | 0, l, r, h, h8 => by
  have : l = [] := List.eq_nil_of_length_eq_zero (by omega)
  subst this
  exact zo6 r (fun b hb => by cases hb)
 | n + 1, l, r, h, h8 => by
  by_cases hl : l = []
  ·subst hl
   exact zo6 r (fun b hb => by cases hb)
  have h1 := zfg hl
  have ht := zcm hl
  by_cases hs : (first l).1 < l.length ∨ (first l).2 ≠ 101
  ·have h2 := zu7 r hl (by rw [ht] at h8; exact h8 _ List.mem_cons_self) hs
   have hj := zcm (l := l ++ 10 :: r) (by simp)
   rw [h2, zlb h1.2, List.drop_append_of_le_length h1.2] at hj
   obtain ⟨A, La, M, Lb, B, s1, s2, s3, s4, s5, s6⟩ := seam n (l.drop (first l).1) r (by rw [List.length_drop]; omega) (fun t k => h8 t (by rw [ht]; exact List.mem_cons_of_mem _ k))
   exact ⟨_ :: A, La, M, Lb, B, by rw [ht, s1]; rfl, s2, by rw [hj, s3]; rfl, s4, s5, s6⟩
  ·have k1 : ¬ (first l).1 < l.length := fun k => hs (.inl k)
   have k2 : (first l).2 = 101 := Classical.byContradiction fun k => hs (.inr k)
   have k3 := zr4 k2
   have k4 : first l = (zc4 zch l 0, 101) := by
    unfold first
    rw [if_pos k3]
   rw [k4] at k1 h1
   unfold zc4 at k1 h1
   rw [List.drop_zero, Nat.zero_add] at k1 h1
   have k5 := h1.2
   dsimp only at k1 k5
   exact zo6 r (z0i (by omega))
end Go.Proofs.YtmoelofaojgjfaaGreatDoor.Lex
namespace Go.Proofs.YtmoelofaojgjfaaGreatDoor.Par
mutual
def Inn : Nd → Prop
 | ⟨_, _, _, a, b, _, ks⟩ => InnL ks a b
def InnL : List Nd → Int → Int → Prop
 | [], a, b => a ≤ b
 | c :: cs, a, b => a ≤ c.f3 ∧ Inn c ∧ InnL cs c.f4 b
end
theorem Inn.iff {n : Nd} : Inn n ↔ InnL n.f6 n.f3 n.f4 := by
 cases n
 simp only [Inn]
theorem InnL.le : ∀ {ks : List Nd} {a b : Int}, InnL ks a b → a ≤ b
 | [], a, b, h => by simpa [InnL] using h
 | ⟨k1, k2, k3, k4, k5, k6, ks⟩ :: cs, a, b, h => by
  simp only [InnL, Inn] at h
  exact Int.le_trans h.1 (Int.le_trans (InnL.le h.2.1) (InnL.le h.2.2))
theorem InnL.up {ks : List Nd} {a b a' b' : Int} (h : InnL ks a b) (h1 : a' ≤ a) (h2 : b ≤ b') : InnL ks a' b' := by
 induction ks generalizing a a' with
 | nil => simp only [InnL] at h ⊢; omega
 | cons c cs ih =>
  simp only [InnL] at h ⊢
  exact ⟨Int.le_trans h1 h.1, h.2.1, ih h.2.2 (Int.le_refl _)⟩
theorem InnL.snoc {ks : List Nd} {a b : Int} {c : Nd} (h : InnL ks a b) (h1 : b ≤ c.f3) (hc : Inn c) : InnL (ks ++ [c]) a c.f4 := by
 induction ks generalizing a with
 | nil =>
  simp only [InnL] at h
  simp only [List.nil_append, InnL]
  exact ⟨Int.le_trans h h1, hc, Int.le_refl _⟩
 | cons d cs ih =>
  simp only [InnL] at h
  simp only [List.cons_append, InnL]
  exact ⟨h.1, h.2.1, ih h.2.2⟩
def Mkg (n : Nd) : Prop := (n.f4 < 0 ∧ n.f6 = []) ∨ (0 ≤ n.f4 ∧ InnL n.f6 n.f3 n.f4)
theorem Mkg.ext {n : Nd} (h : Mkg n) {lo hi : Nat} (hr : Rng lo n hi) {a b : Int} (h1 : (hi : Int) ≤ a) (h2 : a ≤ b) {m : Nd} (h3 : m.f3 = (zay n a b).f3) (h4 : m.f4 = (zay n a b).f4) (h6 : m.f6 = n.f6) : Mkg m := by
 right
 rw [h3, h4, h6]
 unfold zay
 rcases h with ⟨g, e⟩ | ⟨g, e⟩
 ·simp only [g, if_true, e, InnL]
  omega
 ·have g' : ¬ n.f4 < 0 := by omega
  simp only [g', if_false]
  unfold Rng at hr
  exact ⟨by omega, e.up (Int.le_refl _) (by omega)⟩
theorem zq7 {lo : Nat} (n : Nd) (k : Int) (text : ByteArray) (s : BSt) (h : Rng lo n s.off) (hm : Mkg n) : Mkg (za6 n k text s).1 := by
 have ex : ∀ m : Nd, m.f3 = n.f3 → m.f4 = n.f4 → m.f6 = n.f6 → Mkg (zay m s.off (s.off + text.size : Nat)) := fun m h3 h4 h6 => by
  refine hm.ext h (a := s.off) (b := (s.off + text.size : Nat)) (by omega) (by omega) ?_ ?_ h6
  ·unfold zay; rw [h3, h4]
  ·rfl
 unfold za6
 split
 ·exact hm
 split
 ·split
  ·exact hm
  ·exact ex n rfl rfl rfl
 split
 ·exact ex _ (zcy _ _ _ _).1 (zcy _ _ _ _).2.1 (zcy _ _ _ _).2.2.1
 split
 ·exact ex _ rfl rfl rfl
 split
 ·exact ex _ rfl rfl rfl
 ·exact ex _ (zcb _ _).1 (zcb _ _).2.1 (zcb _ _).2.2.1
end Go.Proofs.YtmoelofaojgjfaaGreatDoor.Par
namespace Go.Proofs.YtmoelofaojgjfaaGreatDoor.Par
open Go.RowKit Go.Proofs.YtmoelofaojgjfaaGreatDoorW.PrintWords Go.Proofs.YtmoelofaojgjfaaGreatDoorW.PrintLast
abbrev NK := PA.k63
mutual
def cntN : Nd → Nat
 | ⟨_, _, _, _, _, _, ks⟩ => 1 + zda ks
def zda : List Nd → Nat
 | [] => 0
 | c :: cs => cntN c + zda cs
end
theorem zfi (n : Nd) : cntN n = 1 + zda n.f6 := by
 cases n
 simp only [cntN]
theorem zfz (a b : List Nd) : zda (a ++ b) = zda a + zda b := by
 induction a with
 | nil => simp [zda]
 | cons c cs ih => simp only [List.cons_append, zda, ih]; omega
theorem lenN (ks : List Nd) : ks.length ≤ zda ks := by
 induction ks with
 | nil => exact Nat.le_refl _
 | cons c cs ih =>
  simp only [List.length_cons, zda, zfi]
  omega
mutual
theorem zm1 (src : ByteArray) : ∀ (t : Tree) (s : BSt), cntN (zbg src t s).1 ≤ cntT t
 | .mk k x ks, s => by
  have h := zja src ks ⟨k, 0, zj, s.off, -1, -1, []⟩ s
  rw [zbg]
  generalize hm : (zbf src ks ⟨k, 0, zj, s.off, -1, -1, []⟩ s) = M at *
  obtain ⟨m, s'⟩ := M
  simp only [zda] at h
  simp only [cntT]
  unfold zbe
  split
  ·split
   ·rename_i c r e6
    have e6' : m.f6 = c :: r := e6
    rw [e6'] at h
    simp only [zda, zfi] at h
    simp only [cntN]
    omega
   ·rw [zfi]
    show 1 + zda m.f6 ≤ _
    omega
  ·split
   ·simp only [cntN, zda]
    omega
   ·rw [zfi]
    show 1 + zda m.f6 ≤ _
    omega
theorem zja (src : ByteArray) : ∀ (ts : List Tree) (n : Nd) (s : BSt), zda (zbf src ts n s).1.f6 ≤ zda n.f6 + cntL ts
 | [], n, s => by rw [zbf]; exact Nat.le_add_right _ _
 | t :: ts, n, s => by
  rw [zbf]
  simp only [cntL]
  split
  ·have h := zja src ts (za6 n t.kind t.text s).1 (za6 n t.kind t.text s).2
   rw [(zcn _ _ _ _).1] at h
   omega
  ·have h := zja src ts (zdh n (zbg src t s).1) (zbg src t s).2
   have h2 := zm1 src t s
   have e : zda (zdh n (zbg src t s).1).f6 = zda n.f6 + cntN (zbg src t s).1 := by
    show zda (n.f6 ++ [_]) = _
    rw [zfz]
    rfl
   omega
end
theorem zuj {ks : List Nd} {i : Nat} {x : Nd} (h : ks[i]? = some x) : cntN x ≤ zda ks := by
 obtain ⟨hi, rfl⟩ := List.getElem?_eq_some_iff.1 h
 have e : ks = ks.take i ++ ks[i] :: ks.drop (i + 1) := by simp
 generalize ks[i] = x at e
 rw [e, zfz]
 simp only [zda]
 omega
theorem zkv (ks : List Nd) (i : Nat) : zda (ks.take i) ≤ zda ks := by
 conv => rhs; rw [← List.take_append_drop i ks, zfz]
 omega
theorem InnL.mem {ks : List Nd} {a b : Int} {i : Nat} {x : Nd} (h : InnL ks a b) (hi : ks[i]? = some x) : a ≤ x.f3 ∧ x.f4 ≤ b ∧ Inn x := by
 induction ks generalizing a i with
 | nil => simp at hi
 | cons c cs ih =>
  simp only [InnL] at h
  cases i with
  | zero =>
   have : c = x := by simpa using hi
   subst this
   exact ⟨h.1, InnL.le h.2.2, h.2.1⟩
  | succ i =>
   have h3 := ih h.2.2 (by simpa using hi)
   have := InnL.le (Inn.iff.1 h.2.1)
   exact ⟨by omega, h3.2⟩
def Fits (ks js : List Int) : Prop := js.length = ks.length ∧ ∀ (i : Nat) (k : Int), ks[i]? = some k → k ≠ 60 → js[i]? = some k
theorem Fits.same {ks js : List Int} (h : Fits ks js) (hn : ∀ k ∈ ks, k ≠ 60) : js = ks := by
 apply List.ext_getElem?
 intro i
 cases hi : ks[i]? with
 | none => rw [List.getElem?_eq_none_iff] at hi ⊢; rw [h.1]; exact hi
 | some k => exact h.2 i k hi (hn k (List.mem_of_getElem? hi))
theorem Fits.nil : Fits [] [] := ⟨rfl, fun i k h => by simp at h⟩
theorem Fits.cons {a b : Int} {ks js : List Int} (h : Fits ks js) (hab : b = a ∨ a = 60) : Fits (a :: ks) (b :: js) := by
 refine ⟨by simp [h.1], fun i k hi hk => ?_⟩
 cases i with
 | zero =>
  have : a = k := by simpa using hi
  subst this
  rcases hab with rfl | e
  ·rfl
  ·exact absurd e hk
 | succ i => exact h.2 i k (by simpa using hi) hk
def tyK (k : Int) : Bool := ([0, 17, 18, 19, 20, 46] : List Int).contains k
def locN (k : Int) (js : List Int) : Bool :=
 if k = 2 then decide (js = [17]) else if k = 17 then !js.isEmpty && js.all (eqK 18) else if k = 7 then (match js with
  | a :: _ :: _ :: _ => decide (a = 10)
  | _ => false)
 else if k = 10 then js.all (orK (eqK 11) 46) else if k = 11 then js.all (eqK 17) else if k = 22 then decide (js.length = 3) else if k = 36 then decide (js.length = 2)
 else if k = 42 then (match js with
  | a :: _ => decide (a = 17)
  | _ => false)
 else if k = 46 ∨ k = 0 then js.isEmpty else if k = 18 ∨ k = 19 ∨ k = 20 then js.all tyK else true
theorem no60 {p : Int → Bool} {ks : List Int} (h : ks.all p = true) (hp : p 60 = false) : ∀ k ∈ ks, k ≠ 60 := fun k hk e => by
 have := List.all_eq_true.1 h k hk
 rw [e, hp] at this
 cases this
theorem ztf {k : Int} (h : isTy k = true) : tyK k = true := by
 simp only [isTy, List.contains_eq_mem, List.mem_cons, List.not_mem_nil, or_false, decide_eq_true_eq] at h
 rcases h with rfl | rfl | rfl | rfl <;> rfl
theorem zv2 {ks : List Int} (h : ks.all isTy = true) : ks.all tyK = true := List.all_eq_true.2 fun k hk => ztf (List.all_eq_true.1 h k hk)
theorem zw6 {k : Int} {ks js : List Int} {id : Bool} (h : loc k ks id = true) (hf : Fits ks js) : locN k js = true := by
 by_cases e : k = 2
 ·subst e
  have h' : oneK (eqK 17) ks = true := h
  match ks, h' with
  | [a], h' =>
   have : a = 17 := by simpa [oneK, eqK] using h'
   subst this
   rw [hf.same (by simp)]
   rfl
 by_cases e : k = 17
 ·subst e
  have h' : (!ks.isEmpty && ks.all (eqK 18)) = true := h
  rw [hf.same (no60 (Bool.and_eq_true _ _ ▸ h').2 rfl)]
  exact h'
 by_cases e : k = 7
 ·subst e
  have h' : zsb ks = true := h
  match ks, h' with
  | a :: b :: c :: r, h' =>
   have ha : a = 10 := by
    simp only [zsb, Bool.and_eq_true, decide_eq_true_eq] at h'
    exact h'.1.1.1
   have h0 := hf.2 0 a rfl (by omega)
   match js, hf.1, h0 with
   | x :: y :: z :: r', _, h0 =>
    have : x = a := by simpa using h0
    subst this
    simp [locN, ha]
 by_cases e : k = 10
 ·subst e
  have h' : ks.all (orK (eqK 11) 46) = true := h
  rw [hf.same (no60 h' rfl)]
  exact h'
 by_cases e : k = 11
 ·subst e
  have h' : (ks.all (eqK 17) && id) = true := h
  rw [hf.same (no60 (Bool.and_eq_true _ _ ▸ h').1 rfl)]
  exact (Bool.and_eq_true _ _ ▸ h').1
 by_cases e : k = 22
 ·subst e
  have h' : zb7 isP (orK isTy 0) isE ks = true := h
  match ks, h' with
  | [a, b, c], _ => exact decide_eq_true hf.1
 by_cases e : k = 36
 ·subst e
  have h' : twoK isP isE ks = true := h
  match ks, h' with
  | [a, b], _ => exact decide_eq_true hf.1
 by_cases e : k = 42
 ·subst e
  have h' : zcd (eqK 17) isE ks = true := h
  match ks, h' with
  | a :: r, h' =>
   have ha : a = 17 := by
    simp only [zcd, eqK, Bool.and_eq_true, decide_eq_true_eq] at h'
    exact h'.1
   have h0 := hf.2 0 a rfl (by omega)
   match js, hf.1, h0 with
   | x :: r', _, h0 =>
    have : x = a := by simpa using h0
    subst this
    simp [locN, ha]
 by_cases e : k = 46
 ·subst e
  have h' : ks.isEmpty = true := h
  have : ks = [] := by simpa using h'
  subst this
  rw [List.eq_nil_of_length_eq_zero hf.1]
  rfl
 by_cases e : k = 0
 ·subst e
  have h' : ks.isEmpty = true := h
  have : ks = [] := by simpa using h'
  subst this
  rw [List.eq_nil_of_length_eq_zero hf.1]
  rfl
 by_cases e : k = 18
 ·subst e
  have h' : ks.all isTy = true := h
  rw [hf.same (no60 h' rfl)]
  exact zv2 h'
 by_cases e : k = 19
 ·subst e
  have h' : oneK isTy ks = true := h
  match ks, h' with
  | [a], h' =>
   have h2 : [a].all isTy = true := by simpa [oneK] using h'
   rw [hf.same (no60 h2 rfl)]
   exact zv2 h2
 by_cases e : k = 20
 ·subst e
  have h' : tysK ks = true := h
  have h2 : ks.all tyK = true := by
   unfold tysK at h'
   rw [Bool.and_eq_true, Bool.and_eq_true] at h'
   obtain ⟨⟨h0, h1⟩, h3⟩ := h'
   have hne : ks ≠ [] := by
    rintro rfl
    cases h0
   rw [List.getLast?_eq_some_getLast hne] at h3
   refine List.all_eq_true.2 fun k hk => ?_
   rw [← List.dropLast_concat_getLast hne] at hk
   rcases List.mem_append.1 hk with hk | hk
   ·exact ztf (List.all_eq_true.1 h1 k hk)
   ·rw [List.mem_singleton.1 hk]
    rcases Bool.or_eq_true _ _ ▸ h3 with h3 | h3
    ·exact ztf h3
    ·rw [odt h3]
     rfl
  rw [hf.same (no60 h2 rfl)]
  exact h2
 simp [locN, *]
mutual
def AllN (P : Nd → Prop) : Nd → Prop
 | ⟨k, w, t, a, b, x, ks⟩ => P ⟨k, w, t, a, b, x, ks⟩ ∧ AllL P ks
def AllL (P : Nd → Prop) : List Nd → Prop
 | [] => True
 | c :: cs => AllN P c ∧ AllL P cs
end
theorem AllN.iff {P : Nd → Prop} {n : Nd} : AllN P n ↔ P n ∧ AllL P n.f6 := by
 cases n
 simp only [AllN]
theorem AllL.iff {P : Nd → Prop} {ks : List Nd} : AllL P ks ↔ ∀ c ∈ ks, AllN P c := by
 induction ks with
 | nil => simp [AllL]
 | cons c cs ih => simp [AllL, ih]
mutual
theorem AllN.imp {P Q : Nd → Prop} (h : ∀ n, P n → Q n) : ∀ n, AllN P n → AllN Q n
 | ⟨k, w, t, a, b, x, ks⟩, hn => by
  simp only [AllN] at hn ⊢
  exact ⟨h _ hn.1, AllL.imp h ks hn.2⟩
theorem AllL.imp {P Q : Nd → Prop} (h : ∀ n, P n → Q n) : ∀ ks, AllL P ks → AllL Q ks
 | [], _ => by simp only [AllL]
 | c :: cs, hn => by
  simp only [AllL] at hn ⊢
  exact ⟨AllN.imp h c hn.1, AllL.imp h cs hn.2⟩
end
def gP (n : Nd) : Prop := locN n.f0 (n.f6.map fun c => c.f0) = true ∧ -1 ≤ n.f5
abbrev GN := AllN gP
abbrev GNL := AllL gP
theorem GN.iff {n : Nd} : GN n ↔ locN n.f0 (n.f6.map fun c => c.f0) = true ∧ -1 ≤ n.f5 ∧ GNL n.f6 := AllN.iff.trans and_assoc
theorem GNL.iff {ks : List Nd} : GNL ks ↔ ∀ c ∈ ks, GN c := AllL.iff
theorem zoy (n : Nd) (k : Int) (text : ByteArray) (s : BSt) (h : -1 ≤ n.f5) : -1 ≤ (za6 n k text s).1.f5 := by
 have hs : ∀ t, (za2 n t).f5 = n.f5 := fun t => by
  unfold za2
  repeat' (first | rfl | split)
 unfold za6
 split
 ·exact h
 split
 ·split
  ·exact h
  ·exact h
 split
 ·show -1 ≤ (zcc _ _ _ _).1.f5
  unfold zcc
  dsimp only
  split
  ·show -1 ≤ (s.off : Int)
   omega
  ·exact h
 split
 ·exact h
 split
 ·exact h
 ·show -1 ≤ (za2 n text).f5
  rw [hs]
  exact h
mutual
theorem zw2 (src : ByteArray) : ∀ (t : Tree), good t → t.kind < 100 → ∀ s, Inn (zbg src t s).1 ∧ GN (zbg src t s).1 ∧ ((zbg src t s).1.f0 = t.kind ∨ t.kind = 60)
 | .mk k x ks, hg, hk, s => by
  have hk' : k < 100 := hk
  obtain ⟨g1, g2⟩ := hg
  rw [if_pos hk'] at g1
  have hr0 : Rng s.off ⟨k, 0, zj, s.off, -1, -1, []⟩ s.off := .inl ⟨rfl, rfl, Nat.le_refl _⟩
  have h := zim src ks g2 s.off ⟨k, 0, zj, s.off, -1, -1, []⟩ s hr0 (.inl ⟨show (-1 : Int) < 0 by decide, rfl⟩) ⟨Int.le_refl _, trivial⟩
  have h3 := (zff src ks g2 s.off ⟨k, 0, zj, s.off, -1, -1, []⟩ s hr0)
  have hkind : (zbf src ks ⟨k, 0, zj, s.off, -1, -1, []⟩ s).1.f0 = k := h3.kind
  have h3 := h3.rng
  rw [zbg]
  generalize hm : (zbf src ks ⟨k, 0, zj, s.off, -1, -1, []⟩ s) = M at *
  obtain ⟨m, s'⟩ := M
  simp only at h h3 hkind ⊢
  obtain ⟨hM, ⟨h5, hG⟩, js, hjs, hF⟩ := h
  have e5 : (endP m).f5 = m.f5 := rfl
  have he : InnL (endP m).f6 (endP m).f3 (endP m).f4 := by
   unfold endP
   unfold Rng at h3
   rcases hM with ⟨a, b⟩ | ⟨a, b⟩
   ·simp only [b, InnL]
    omega
   ·exact b.up (Int.le_refl _) (Int.le_max_left _ _)
  have h0 : (endP m).f0 = k := hkind
  have h6 : (endP m).f6 = m.f6 := rfl
  have hl : locN k (m.f6.map fun c => c.f0) = true := by
   rw [hjs]
   exact zw6 g1.1 hF
  show _ ∧ _ ∧ (_ = k ∨ k = 60)
  unfold zbe
  split
  ·rename_i e
   split
   ·rename_i c r e6
    rw [e6] at he
    simp only [InnL] at he
    rw [← h6, e6] at hG
    refine ⟨?_, ?_, .inr (h0 ▸ e)⟩
    ·simp only [Inn]
     exact (Inn.iff.1 he.2.1).up he.1 (InnL.le he.2.2)
    ·have hh := GN.iff.1 hG.1
     exact GN.iff.2 hh
   ·exact ⟨Inn.iff.2 he, GN.iff.2 ⟨by rw [h0, h6]; exact hl, h5, hG⟩, .inl h0⟩
  ·split
   ·rename_i e46
    refine ⟨?_, ?_, .inl (h0 ▸ e46.symm)⟩
    ·simp only [Inn, InnL]
     exact InnL.le he
    ·exact GN.iff.2 ⟨rfl, Int.le_refl _, trivial⟩
   ·exact ⟨Inn.iff.2 he, GN.iff.2 ⟨by rw [h0, h6]; exact hl, h5, hG⟩, .inl h0⟩
theorem zim (src : ByteArray) : ∀ (ts : List Tree), zfp ts → ∀ (lo : Nat) (n : Nd) (s : BSt), Rng lo n s.off → Mkg n → -1 ≤ n.f5 ∧ GNL n.f6 → Mkg (zbf src ts n s).1 ∧ (-1 ≤ (zbf src ts n s).1.f5 ∧ GNL (zbf src ts n s).1.f6) ∧ ∃ js, ((zbf src ts n s).1.f6.map fun c => c.f0) = (n.f6.map fun c => c.f0) ++ js ∧ Fits (nk ts) js
 | [], _, lo, n, s, hr, hm, hn => by
  rw [zbf]
  exact ⟨hm, hn, [], (List.append_nil _).symm, Fits.nil⟩
 | t :: ts, hg, lo, n, s, hr, hm, hn => by
  rw [zbf]
  split
  ·rename_i hk
   obtain ⟨a1, a2⟩ := zd6 n t.kind t.text s
   have hnk : nk (t :: ts) = nk ts := by simp only [nk]; rw [if_neg (by omega)]
   rw [hnk]
   have h := zim src ts hg.2 lo (za6 n t.kind t.text s).1 (za6 n t.kind t.text s).2 (by rw [a1]; exact zkb n t.kind t.text s hr) (zq7 n t.kind t.text s hr hm) ⟨zoy n t.kind t.text s hn.1, by rw [(zcn _ _ _ _).1]; exact hn.2⟩
   rw [(zcn n t.kind t.text s).1] at h
   exact h
  ·rename_i hk
   have hk' : t.kind < 100 := by omega
   obtain ⟨g3, g4, g5⟩ := (zil src t hg.1 hk' s).rng
   obtain ⟨n1, n2, n3⟩ := zw2 src t hg.1 hk' s
   have hnk : nk (t :: ts) = t.kind :: nk ts := by simp only [nk]; rw [if_pos hk']
   rw [hnk]
   have hm2 : Mkg (zdh n (zbg src t s).1) := by
    right
    unfold zdh zay
    have hc := InnL.le (Inn.iff.1 n1)
    rcases hm with ⟨a, b⟩ | ⟨a, b⟩
    ·simp only [a, if_true, b, List.nil_append, InnL]
     exact ⟨by omega, Int.le_refl _, n1, Int.le_refl _⟩
    ·have a' : ¬ n.f4 < 0 := by omega
     simp only [a', if_false]
     unfold Rng at hr
     exact ⟨by omega, b.snoc (by omega) n1⟩
   have hn2 : GNL (zdh n (zbg src t s).1).f6 := GNL.iff.2 fun c hc => by
    rcases List.mem_append.1 hc with hc | hc
    ·exact GNL.iff.1 hn.2 c hc
    ·rw [List.mem_singleton.1 hc]
     exact n2
   obtain ⟨r1, r2, js, r3, r4⟩ := zim src ts hg.2 lo (zdh n (zbg src t s).1) (zbg src t s).2 ((hr.ext (hi' := (zbg src t s).2.off) g3 g4 g5).same rfl rfl) hm2 ⟨hn.1, hn2⟩
   refine ⟨r1, r2, (zbg src t s).1.f0 :: js, ?_, r4.cons n3⟩
   rw [r3]
   show (n.f6 ++ [_]).map _ ++ js = _
   simp
end
theorem zc5 {s : ByteArray} (hs : s.size ≤ 2000) : cntN (astN s) ≤ 60001 ∧ InnL (astN s).f6 0 (s.size : Int) ∧ GNL (astN s).f6 ∧ (astN s).f0 = 1 := by
 have hl : s.data.toList.length ≤ 2000 := by simpa using hs
 have hk := zd7 hl
 obtain ⟨rf1, rf2, rf3⟩ := zgz hl
 have hr0 : Rng 0 (⟨1, 0, zj, 0, -1, -1, []⟩ : Nd) 0 := .inl ⟨rfl, rfl, Nat.le_refl _⟩
 have h := zim s (zam s.data.toList) hk.good 0 ⟨1, 0, zj, 0, -1, -1, []⟩ ⟨0, []⟩ hr0 (.inl ⟨show (-1 : Int) < 0 by decide, rfl⟩) ⟨Int.le_refl _, trivial⟩
 have h3 := zff s (zam s.data.toList) hk.good 0 ⟨1, 0, zj, 0, -1, -1, []⟩ ⟨0, []⟩ hr0
 have hc := zm1 s (.mk 1 zj (zam s.data.toList)) ⟨0, []⟩
 have hkd : (zbf s (zam s.data.toList) ⟨1, 0, zj, 0, -1, -1, []⟩ ⟨0, []⟩).1.f0 = 1 := h3.kind
 have e : (astR s.data.toList s).1 = endP (zbf s (zam s.data.toList) ⟨1, 0, zj, 0, -1, -1, []⟩ ⟨0, []⟩).1 := by
  have f1 : ∀ (m : Nd) (z : BSt), m.f0 = 1 → zbe s m z = (m, z) := fun m z hm => by
   unfold zbe
   rw [if_neg (by rw [hm]; decide), if_neg (by rw [hm]; decide)]
  have := f1 (endP (zbf s (zam s.data.toList) ⟨1, 0, zj, 0, -1, -1, []⟩ ⟨0, []⟩).1) (zbf s (zam s.data.toList) ⟨1, 0, zj, 0, -1, -1, []⟩ ⟨0, []⟩).2 hkd
  unfold astR
  rw [zbg]
  exact congrArg Prod.fst this
 have e6 : (astN s).f6 = (zbf s (zam s.data.toList) ⟨1, 0, zj, 0, -1, -1, []⟩ ⟨0, []⟩).1.f6 := by
  show (astR s.data.toList s).1.f6 = _
  rw [e]
  rfl
 refine ⟨?_, ?_, by rw [e6]; exact h.2.1.2, ?_⟩
 ·rw [zfi]
  have hc2 : cntN (astR s.data.toList s).1 ≤ cntT (.mk 1 zj (zam s.data.toList)) := hc
  rw [zfi] at hc2
  show 1 + zda (astR s.data.toList s).1.f6 ≤ _
  omega
 ·rw [e6]
  have hro := h3.off
  have hrr := h3.rng
  have hb : zci (zam s.data.toList) = s.size := by
   rw [zcz _ _ _ (by decide)] at rf3
   rw [rf3]
   simp
  rw [hb] at hro
  unfold Rng at hrr
  have ho : ((zbf s (zam s.data.toList) ⟨1, 0, zj, 0, -1, -1, []⟩ ⟨0, []⟩).2.off : Int) = (s.size : Int) := by rw [hro]; simp
  rcases h.1 with ⟨a, b⟩ | ⟨a, b⟩
  ·rw [b]
   simp only [InnL]
   omega
  ·exact b.up (by omega) (by omega)
 ·show (astR s.data.toList s).1.f0 = 1
  rw [e]
  exact hkd
end Go.Proofs.YtmoelofaojgjfaaGreatDoor.Par
namespace Go.Proofs.YtmoelofaojgjfaaGreatDoor.Par
open Go.RowKit
theorem zlp (src : ByteArray) : ∀ (ts : List Tree) (n : Nd) (s : BSt), (zbf src ts n s).1.f0 = n.f0
 | [], n, s => by rw [zbf]
 | t :: ts, n, s => by
  rw [zbf]
  split
  ·rw [zlp src ts, (zcn _ _ _ _).2]
  ·rw [zlp src ts]
   rfl
theorem zeh (c a b : Int) (s : BSt) : (zbr c a b s).ds ≠ [] := by simp [zbr]
theorem ztk {n : Nd} {k : Int} {text : ByteArray} {s : BSt} (h : (za6 n k text s).2.ds = []) : s.ds = [] ∧ k ≠ 108 := by
 by_cases h8 : k = 108
 ·exfalso
  subst h8
  unfold za6 at h
  rw [if_neg (by decide), if_pos rfl] at h
  split at h
  ·exact zeh _ _ _ _ h
  ·exact zeh _ _ _ _ h
 ·refine ⟨?_, h8⟩
  unfold za6 at h
  split at h
  ·exact h
  try rw [if_neg h8] at h
  split at h
  ·have h' : (if 30 < text.size then zbr 5 s.off (s.off + text.size : Nat) ⟨s.off + text.size, s.ds⟩ else ⟨s.off + text.size, s.ds⟩ : BSt).ds = [] := h
   split at h'
   ·exact absurd h' (zeh _ _ _ _)
   ·exact h'
  split at h
  ·have h' : (intP text s.off ⟨s.off + text.size, s.ds⟩).2.ds = [] := h
   unfold intP at h'
   split at h'
   ·split at h'
    ·exact absurd h' (zeh _ _ _ _)
    ·exact h'
   ·exact absurd h' (zeh _ _ _ _)
  split at h
  ·have h' : (unqP text.data.toList s.off text.size 1 [] ⟨s.off + text.size, s.ds⟩).2.ds = [] := h
   have hu : ∀ (f i : Nat) (acc : List UInt8) (z : BSt), (unqP text.data.toList s.off f i acc z).2.ds = [] → z.ds = [] := by
    intro f
    induction f with
    | zero => intro i acc z h; simpa only [unqP] using h
    | succ f ih =>
     intro i acc z h
     unfold unqP at h
     split at h
     ·split at h
      ·have := ih _ _ _ h
       split at this
       ·exact this
       ·exact absurd this (zeh _ _ _ _)
      ·exact ih _ _ _ h
     ·exact h
   exact hu _ _ _ ⟨s.off + text.size, s.ds⟩ h'
  ·exact h
mutual
theorem zqk (src : ByteArray) : ∀ (t : Tree) (s : BSt), zfp t.kids → t.kind < 100 → (zbg src t s).2.ds = [] → s.ds = [] ∧ bad t = false
 | .mk k x ks, s, hg, hk, h => by
  have hk' : k < 100 := hk
  rw [zbg] at h
  have h0 := zlp src ks ⟨k, 0, zj, s.off, -1, -1, []⟩ s
  have h1 := zlq src ks ⟨k, 0, zj, s.off, -1, -1, []⟩ s hg
  generalize zbf src ks ⟨k, 0, zj, s.off, -1, -1, []⟩ s = M at h h0 h1
  obtain ⟨m, z⟩ := M
  have h0' : (endP m).f0 = k := h0
  have h46 : k ≠ 46 ∧ z.ds = [] := by
   unfold zbe at h
   dsimp only at h
   rw [h0'] at h
   by_cases h6 : k = 60
   ·rw [if_pos h6] at h
    refine ⟨by omega, ?_⟩
    split at h <;> exact h
   ·rw [if_neg h6] at h
    by_cases h7 : k = 46
    ·rw [if_pos h7] at h
     exact absurd h (zeh _ _ _ _)
    ·rw [if_neg h7] at h
     exact ⟨h7, h⟩
  obtain ⟨a, b⟩ := h1 h46.2
  refine ⟨a, ?_⟩
  simp only [bad, b, Bool.or_false, Bool.or_eq_false_iff, decide_eq_false_iff_not]
  exact ⟨h46.1, by omega⟩
theorem zlq (src : ByteArray) : ∀ (ts : List Tree) (n : Nd) (s : BSt), zfp ts → (zbf src ts n s).2.ds = [] → s.ds = [] ∧ badL ts = false
 | [], n, s, hg, h => by
  rw [zbf] at h
  exact ⟨h, by simp only [badL]⟩
 | t :: ts, n, s, hg, h => by
  rw [zbf] at h
  split at h
  ·rename_i hk
   obtain ⟨a, b⟩ := zlq src ts _ _ hg.2 h
   obtain ⟨c, d⟩ := ztk a
   refine ⟨c, ?_⟩
   obtain ⟨k, x, ks⟩ := t
   have hk' : ¬ k < 100 := by
    have : 100 ≤ k := hk
    omega
   have g := hg.1.1
   rw [if_neg hk'] at g
   have d' : k ≠ 108 := d
   rw [g.1]
   simp only [badL, bad, b, Bool.or_false, Bool.or_eq_false_iff, decide_eq_false_iff_not]
   exact ⟨by omega, d'⟩
  ·rename_i hk
   obtain ⟨a, b⟩ := zlq src ts _ _ hg.2 h
   obtain ⟨c, d⟩ := zqk src t s (by obtain ⟨k, x, ks⟩ := t; exact hg.1.2) (by omega) a
   exact ⟨c, by simp only [badL, b, d, Bool.or_false]⟩
end
mutual
theorem zyx : ∀ (t : Tree), bad t = false → ∀ x ∈ zfs t, x.1 ≠ 108
 | .mk k t ks, h, x, hx => by
  obtain ⟨_, h8, hk⟩ := zdq h
  simp only [zfs] at hx
  split at hx
  ·exact zla ks hk x hx
  ·split at hx
   ·cases hx
   ·rw [List.mem_singleton.1 hx]
    exact h8
theorem zla : ∀ (ts : List Tree), badL ts = false → ∀ x ∈ zd5 ts, x.1 ≠ 108
 | [], h, x, hx => by simp [zd5] at hx
 | t :: ts, h, x, hx => by
  obtain ⟨b1, b2⟩ := zhh h
  simp only [zd5, List.mem_append] at hx
  rcases hx with hx | hx
  ·exact zyx t b1 x hx
  ·exact zla ts b2 x hx
end
theorem zkw {s : ByteArray} (hs : s.size ≤ 2000) (h : astD s = []) : badL (zam s.data.toList) = false := by
 have hl : s.data.toList.length ≤ 2000 := by simpa using hs
 have hk := zd7 hl
 have h1 : (astR s.data.toList s).2.ds = [] := by
  unfold astD at h
  have h2 : sortD (astR s.data.toList s).2.ds = [] := Classical.byContradiction fun k => zn9 k h
  have h3 := zgx (astR s.data.toList s).2.ds
  rw [h2] at h3
  exact List.eq_nil_of_length_eq_zero h3.symm
 unfold astR at h1
 obtain ⟨_, hb⟩ := zqk s (.mk 1 zj (zam s.data.toList)) ⟨0, []⟩ hk.good (show (1 : Int) < 100 by decide) h1
 exact (zdq hb).2.2
theorem zdo (a b : List Tree) : zci (a ++ b) = zci a + zci b := by
 unfold zci
 rw [zet, ziy]
theorem zfk {L : List Tok} (h : ∀ x ∈ L, triv x.1 = true) : zci (L.map leaf) = sumB L := by
 induction L with
 | nil => simp [zci, zd5, sumB]
 | cons t L ih =>
  have ht := zgt.1 (h t List.mem_cons_self)
  rw [List.map_cons, zd0, ih (fun x hx => h x (List.mem_cons_of_mem _ hx)), zgp (leaf t) (show 100 ≤ t.1 by omega)]
  simp [sumB, leaf, Tree.text]
theorem zug (src : ByteArray) : ∀ (Y : List Tree) (s : BSt), zfp Y → (∀ t ∈ Y, t.kind < 100) → (ndL src Y s).2.off = s.off + zci Y
 | [], s, hg, hY => by simp [ndL, zci, zd5, sumB]
 | t :: Y, s, hg, hY => by
  have h1 := (zil src t hg.1 (hY t List.mem_cons_self) s).off
  have h2 := zug src Y (zbg src t s).2 hg.2 (fun x hx => hY x (List.mem_cons_of_mem _ hx))
  rw [ndL, zd0]
  show (ndL src Y (zbg src t s).2).2.off = _
  omega
mutual
theorem shN0 : ∀ (n : Nd), shN 0 n = n
 | ⟨k, v, t, a, b, x, ks⟩ => by
  simp only [shN, Int.add_zero, ite_self, shL0 ks]
theorem shL0 : ∀ (l : List Nd), shL 0 l = l
 | [] => rfl
 | c :: cs => by simp only [shL, shN0 c, shL0 cs]
end
theorem zy2 {T W : List Tok} {k : Nat} {q : Bool × St} (h : run T k .items (0, []) = some q) (hb : badL q.2.2 = false) (hG : ∀ t ∈ T, t.1 ≠ 100) (hW : zal W 0 = zal T 0) : Soft W := by
 have hn : zal T 0 = (100, zj) → Soft W := fun e => by
  rw [e] at hW
  exact ⟨by rw [hW]; decide, by rw [hW]; decide, by rw [hW]; decide, by rw [hW]; decide⟩
 by_cases he : eofT T 0 = true
 ·exact hn (zue (zve hG he))
 ·obtain ⟨j, rfl, h2⟩ := zbp h
  simp only [step] at h2
  rw [if_neg he] at h2
  obtain ⟨q1, h4, h5⟩ := Option.bind_eq_some_iff.1 h2
  obtain ⟨Y, hY⟩ := zg3 j h5
  have hb1 : badL q1.2.2 = false := by
   rw [hY, zdb, Bool.or_eq_false_iff] at hb
   exact hb.1
  obtain ⟨n, i, y, n1, n2, n3, n4, _⟩ := zm9 h4 hb1
  have n1' : n = zb0 (zal T (if atT T 0 [(⟨#[112, 117, 98]⟩ : ByteArray)] = true then zb1 T 0 else 0)).2 := n1
  have n4' : (zal T (if atT T 0 [(⟨#[112, 117, 98]⟩ : ByteArray)] = true then zb1 T 0 else 0)).1 = 104 := n4
  by_cases hp : atT T 0 [(⟨#[112, 117, 98]⟩ : ByteArray)] = true
  ·unfold atT at hp
   simp only [List.any_cons, List.any_nil, Bool.or_false, Bool.and_eq_true, Bool.or_eq_true, decide_eq_true_eq] at hp
   rw [← hW] at hp
   exact ⟨by omega, by rw [hp.2]; decide, by rw [hp.2]; decide, by rw [hp.2]; decide⟩
  ·rw [if_neg hp, ← hW] at n1' n4'
   have hk : ∀ x : ByteArray, zb0 x = 0 → (zal W 0).2 ≠ x := fun x hx e => by
    rw [e, hx] at n1'
    omega
   exact ⟨by omega, hk _ (by decide), hk _ (by decide), hk _ (by decide)⟩
theorem zmx {L B : List Tok} (h : ∀ x ∈ L, triv x.1 = true) : zal (L ++ B) 0 = zal B 0 := by
 unfold zal
 rw [List.drop_zero, List.drop_zero, List.find?_append, List.find?_eq_none.2 (fun x hx => by rw [h x hx]; decide), Option.none_or]
theorem z06 {T : List Tok} {p : Nat} (h : ¬ Sig T p) : eofT T p = true := by
 unfold eofT
 rw [zue h]
 rfl
theorem zjb {T : List Tok} {k : Nat} {s : St} {q : Bool × St} (h : run T k .items s = some q) (hs : ¬ Sig T s.1) : q = (false, s) := by
 obtain ⟨j, rfl, h2⟩ := zbp h
 simp only [step] at h2
 rw [if_pos (z06 hs)] at h2
 cases h2
 rfl
theorem ze1 {T : List Tok} {p : Nat} (h : ¬ Sig T p) : ∀ x ∈ T.drop p, triv x.1 = true := fun x hx => by
 cases e : triv x.1 with
 | true => rfl
 | false => exact absurd ⟨x, hx, e⟩ h
theorem zit {T : List Tok} {p : Nat} (h : ¬ Sig T p) : za9 T p = T.drop p := by
 unfold za9
 have := List.takeWhile_append_of_pos (p := fun t : Tok => triv t.1) (l₁ := T.drop p) (l₂ := []) (ze1 h)
 simpa using this
theorem zls {T : List Tok} (h : zaf T) : ∀ t ∈ T, t.1 ≠ 100 := fun t ht e => by
 have := (h t ht).1
 omega
theorem zwh : Soft [] := ⟨by decide, by decide, by decide, by decide⟩
theorem zr7 {a b j : ByteArray} (hj : j.data.toList = a.data.toList ++ 10 :: b.data.toList) (hs : j.size ≤ 2000) (ha : astD a = []) (hb : astD b = []) : (astN j).f6 = (astN a).f6 ++ shL ((a.size + 1 : Nat) : Int) (astN b).f6 := by
 have hla : a.data.toList.length = a.size := by simp
 have hlb : b.data.toList.length = b.size := by simp
 have hlj : j.data.toList.length = j.size := by simp
 have hlen : j.size = a.size + 1 + b.size := by
  rw [← hlj, hj, List.length_append, List.length_cons, hla, hlb]
  omega
 have ka := zkw (s := a) (by omega) ha
 have kb := zkw (s := b) (by omega) hb
 obtain ⟨T1, hT1⟩ : ∃ T, Lex.zbd a.data.toList = T := ⟨_, rfl⟩
 obtain ⟨T2, hT2⟩ : ∃ T, Lex.zbd b.data.toList = T := ⟨_, rfl⟩
 obtain ⟨TJ, hTJ⟩ : ∃ T, Lex.zbd j.data.toList = T := ⟨_, rfl⟩
 have G1 : zaf T1 := hT1 ▸ zdx _ _ (Nat.le_refl _)
 have G2 : zaf T2 := hT2 ▸ zdx _ _ (Nat.le_refl _)
 have GJ : zaf TJ := hTJ ▸ zdx _ _ (Nat.le_refl _)
 have L1 : T1.length ≤ 2000 := by rw [← hT1]; have := Lex.zdc _ a.data.toList (Nat.le_refl _); omega
 have L2 : T2.length ≤ 2000 := by rw [← hT2]; have := Lex.zdc _ b.data.toList (Nat.le_refl _); omega
 have LJ : TJ.length ≤ 2000 := by rw [← hTJ]; have := Lex.zdc _ j.data.toList (Nat.le_refl _); omega
 obtain ⟨q1, r1, p1, o1⟩ := zdl T1 L1 G1
 obtain ⟨q2, r2, p2, o2⟩ := zdl T2 L2 G2
 obtain ⟨qJ, rJ, pJ, oJ⟩ := zdl TJ LJ GJ
 have e1 : zam a.data.toList = q1.2.2 ++ (za9 T1 q1.2.1).map leaf := by unfold zam; rw [hT1, p1]; rfl
 have e2 : zam b.data.toList = q2.2.2 ++ (za9 T2 q2.2.1).map leaf := by unfold zam; rw [hT2, p2]; rfl
 have eJ : zam j.data.toList = qJ.2.2 ++ (za9 TJ qJ.2.1).map leaf := by unfold zam; rw [hTJ, pJ]; rfl
 have b1 : badL q1.2.2 = false := by
  rw [e1, zdb, Bool.or_eq_false_iff] at ka
  exact ka.1
 have b2 : badL q2.2.2 = false := by
  rw [e2, zdb, Bool.or_eq_false_iff] at kb
  exact kb.1
 have t8 : ∀ t ∈ Lex.zbd a.data.toList, t.1 ≠ 108 := fun t ht => by
  have hk := zd7 (l := a.data.toList) (by omega)
  rw [← hk.toks] at ht
  exact zla _ ka t ht
 obtain ⟨A, La, M, Lb, B, s1, s2, s3, s4, s5, s6⟩ := Lex.seam _ a.data.toList b.data.toList (Nat.le_refl _) t8
 rw [hT1] at s1
 rw [hT2] at s2
 rw [← hj, hTJ] at s3
 have sf : Soft (M ++ B) := zy2 r2 b2 (zls G2) (by rw [zmx s5, s2, zmx s6])
 have P0 : Pos ⟨T1, TJ, La, M ++ B⟩ ((0, []) : St).1 ((0, []) : St).1 := by
  refine ⟨?_, ⟨A, s1, s3⟩, Nat.zero_le _, Nat.zero_le _, s4, sf⟩
  show 0 + T1.length + (M ++ B).length = 0 + TJ.length + La.length
  rw [s1, s3]
  simp only [List.length_append]
  omega
 obtain ⟨Y1, i1, u1, y1, y2, y3, y4, y5, y6⟩ := zht (E := ⟨T1, TJ, La, M ++ B⟩) (zls G1) 250000 250000 r1 rJ b1 P0
 have y1' : q1.2.2 = Y1 := y1
 have y2' : u1.2 = Y1 := y2
 obtain ⟨C, c1, c2⟩ := y4.dr
 have c1' : T1.drop q1.2.1 = C ++ La := c1
 have c2' : TJ.drop u1.1 = C ++ (M ++ B) := c2
 have hC : ∀ x ∈ C, triv x.1 = true := fun x hx => ze1 y5 x (by show x ∈ T1.drop q1.2.1; rw [c1']; exact List.mem_append_left _ hx)
 have yk : ∀ t ∈ Y1, t.kind < 100 := fun t ht => by have := y6 t ht; unfold itT at this; omega
 have na : (astN a).f6 = (ndL a Y1 ⟨0, []⟩).1 := zhj a (by rw [e1, y1']) yk (by rw [zit y5]; exact ze1 y5)
 have h0 : (ndL j Y1 ⟨0, []⟩).1 = (ndL a Y1 ⟨0, []⟩).1 := by
  have := zuf a j (d := 0) Y1 ⟨0, []⟩ ⟨0, []⟩ (y1' ▸ b1) rfl
  rw [this]
  exact shL0 _
 by_cases hB : ∃ t ∈ B, triv t.1 = false
 ·obtain ⟨LB, t, R, hBe, hLB, ht⟩ := zmp hB
  have d2 : T2.drop ((0, []) : St).1 = (Lb ++ LB) ++ t :: (R ++ []) := by
   show T2 = _
   rw [s2, hBe]
   simp
  have dJ : TJ.drop u1.1 = (C ++ (M ++ LB)) ++ t :: (R ++ []) := by
   rw [c2', hBe]
   simp
  have tl : ∀ x ∈ Lb ++ LB, triv x.1 = true := fun x hx => (List.mem_append.1 hx).elim (s6 x) (hLB x)
  have tl' : ∀ x ∈ C ++ (M ++ LB), triv x.1 = true := fun x hx => (List.mem_append.1 hx).elim (hC x) fun hx => (List.mem_append.1 hx).elim (s5 x) (hLB x)
  obtain ⟨n, X, Z, i2, u2, z1, z2, z3, z4, z5, z6, z7, z8⟩ := zr8 (E := ⟨T2, TJ, [], []⟩) (zls G2) r2 y3 b2 (zls GJ) d2 dJ tl tl' ht (fun t ht => by cases ht) (show Soft [] from zwh)
  have z1' : q2.2.2 = .mk n zj ((Lb ++ LB).map leaf ++ X) :: Z := z1
  rw [y2'] at z2
  obtain ⟨D, w1, w2⟩ := z6.dr
  have w3 : TJ.drop u2.1 = T2.drop q2.2.1 := by
   have w1' : T2.drop q2.2.1 = D ++ [] := w1
   have w2' : TJ.drop u2.1 = D ++ [] := w2
   rw [w1', w2']
  have sJ : ¬ Sig TJ u2.1 := fun ⟨t, ht, k⟩ => z7 ⟨t, by show t ∈ T2.drop q2.2.1; rw [← w3]; exact ht, k⟩
  have hq := zjb z5 sJ
  have hqJ : qJ.2 = u2 := by rw [hq]
  rw [hqJ, zit sJ, w3] at eJ
  have sE : ¬ Sig T2 q2.2.1 := z7
  rw [zit sE] at e2
  have tr : ∀ x ∈ T2.drop q2.2.1, triv x.1 = true := ze1 sE
  have zk : ∀ t ∈ Tree.mk n zj ((Lb ++ LB).map leaf ++ X) :: Z, t.kind < 100 := fun t ht => by
   rcases List.mem_cons.1 ht with rfl | ht
   ·show n < 100
    omega
   ·have := z8 t ht
    unfold itT at this
    omega
  have zk' : ∀ t ∈ Y1 ++ Tree.mk n zj ((C ++ (M ++ LB)).map leaf ++ X) :: Z, t.kind < 100 := fun t ht => by
   rcases List.mem_append.1 ht with ht | ht
   ·exact yk t ht
   ·rcases List.mem_cons.1 ht with rfl | ht
    ·show n < 100
     omega
    ·exact zk t (List.mem_cons_of_mem _ ht)
  have nb := zhj b (by rw [e2, z1']) zk tr
  have nj := zhj j (by rw [eJ, z2]) zk' tr
  rw [z1'] at b2
  obtain ⟨b3, b4⟩ := zhh b2
  have b5 : badL X = false := by
   have := (zdq b3).2.2
   rw [zdb, Bool.or_eq_false_iff] at this
   exact this.2
  have b6 : badL (Tree.mk n zj X :: Z) = false := by
   have h7 := zdq b3
   simp only [badL, bad, b5, b4, Bool.or_false, Bool.or_eq_false_iff, decide_eq_false_iff_not]
   exact ⟨h7.1, h7.2.1⟩
  have f1 : ∀ (src : ByteArray) (L : List Tok) (s : BSt), (∀ x ∈ L, triv x.1 = true) → ndL src (.mk n zj (L.map leaf ++ X) :: Z) s = ndL src (.mk n zj X :: Z) ⟨s.off + sumB L, s.ds⟩ := fun src L s hL => by
   rw [ndL, ndL, zrw src n zj L X s hL b5 z3]
  have gJ := (zd7 (l := j.data.toList) (by omega)).good
  rw [eJ, z2] at gJ
  have hoff := zug j Y1 ⟨0, []⟩ (zf4 (zf4 gJ)) yk
  have hoff' : (ndL j Y1 ⟨0, []⟩).2.off = zci Y1 := by rw [hoff]; exact Nat.zero_add _
  have rb := (zgz (l := b.data.toList) (by omega)).2.2
  have rj := (zgz (l := j.data.toList) (by omega)).2.2
  rw [zcz _ _ _ (by decide)] at rb rj
  rw [e2, z1', zdo, zd0, zcz _ _ _ (show n < 100 by omega), zdo, zfk tl, zfk tr] at rb
  rw [eJ, z2, zdo, zdo, zd0, zcz _ _ _ (show n < 100 by omega), zdo, zfk tl', zfk tr] at rj
  rw [na, nb, nj, zza]
  show (ndL j Y1 ⟨0, []⟩).1 ++ (ndL j _ _).1 = _
  rw [h0, f1 j _ _ tl', f1 b _ _ tl]
  congr 1
  refine zuf b j (d := a.size + 1) _ _ _ b6 ?_
  show (ndL j Y1 ⟨0, []⟩).2.off + sumB (C ++ (M ++ LB)) = 0 + sumB (Lb ++ LB) + (a.size + 1)
  omega
 ·have hB' : ∀ x ∈ B, triv x.1 = true := fun x hx => by
   cases e : triv x.1 with
   | true => rfl
   | false => exact absurd ⟨x, hx, e⟩ hB
  have n2 : ¬ Sig T2 ((0, []) : St).1 := fun ⟨t, ht, k⟩ => by
   have ht' : t ∈ T2 := ht
   rw [s2] at ht'
   rcases List.mem_append.1 ht' with h | h
   ·rw [s6 t h] at k
    cases k
   ·rw [hB' t h] at k
    cases k
  have nJ : ¬ Sig TJ u1.1 := fun ⟨t, ht, k⟩ => by
   rw [c2'] at ht
   rcases List.mem_append.1 ht with h | h
   ·rw [hC t h] at k
    cases k
   ·rcases List.mem_append.1 h with h | h
    ·rw [s5 t h] at k
     cases k
    ·rw [hB' t h] at k
     cases k
  have hq2 := zjb r2 n2
  have hqJ := zjb y3 nJ
  rw [hq2] at e2
  rw [hqJ] at eJ
  have nb := zhj b (Y := []) (by rw [e2]) (fun t ht => by cases ht) (by rw [zit n2]; exact ze1 n2)
  have nj := zhj j (by rw [eJ, y2']) yk (by rw [zit nJ]; exact ze1 nJ)
  rw [na, nb, nj, h0]
  show _ = _ ++ shL _ []
  exact (List.append_nil _).symm
end Go.Proofs.YtmoelofaojgjfaaGreatDoor.Par
namespace Go.Proofs.YtmoelofaojgjfaaGreatDoor.Par
open Go.RowKit Go.Proofs.YtmoelofaojgjfaaGreatDoorW.PrintWords Go.Proofs.YtmoelofaojgjfaaGreatDoorW.PrintLast
mutual
theorem AC_M {W : World} {B : Nat} : ∀ (t : Nd) (c : List Value) (F : List Nat) (ok : Nat → Prop), AC W B NDT t c F → (∀ g ∈ F, ok g) → PA.k63.M W B ok t c
 | ⟨k1, k2, k3, k4, k5, k6, ks⟩, c, F, ok, h, hk => by
  simp only [AC] at h
  obtain ⟨hd, cs, Fs, rfl, h2, rfl, h4, h5⟩ := h
  exact PA.k63_mkM W B ok ⟨k1, k2, k3, k4, k5, k6, ks⟩ ⟨fun k e => hk k (List.mem_append_left _ (by simp [own1, e])), cs, h2, AL_M ks cs Fs _ h4 (fun g hg => ⟨hk g (List.mem_append_right _ hg), h5 g hg⟩)⟩
theorem AL_M {W : World} {B : Nat} : ∀ (ts : List Nd) (cs : List Value) (F : List Nat) (ok : Nat → Prop), AL W B NDT ts cs F → (∀ g ∈ F, ok g) → Reps (PA.k63.M W B ok) 7 ts cs
 | [], cs, F, ok, h, hk => by
  simp only [AL] at h
  rw [h.1]
  exact Reps.none _ _
 | t :: ts, cs, F, ok, h, hk => by
  simp only [AL] at h
  obtain ⟨c, cs', F1, F2, rfl, rfl, h3, h4⟩ := h
  have m1 := AC_M t c F1 ok h3 (fun g hg => hk g (List.mem_append_left _ hg))
  have m2 := AL_M ts cs' F2 ok h4 (fun g hg => hk g (List.mem_append_right _ hg))
  have l1 := zwa h3
  refine ⟨by rw [List.length_append, m2.1, l1, List.length_cons]; omega, fun j p hj => ?_⟩
  cases j with
  | zero =>
   have : t = p := by simpa using hj
   subst this
   rw [Nat.zero_mul, List.drop_zero, List.take_left' l1]
   exact m1
  | succ j =>
   rw [show (j + 1) * 7 = c.length + j * 7 by omega, List.drop_length_add_append]
   exact m2.2 j p (by simpa using hj)
end
theorem AR_R {W : World} {B : Nat} {ts : List Nd} {h : Value} {F : List Nat} (hr : AR W B NDT ts h F) : Kd.R PA.k63 63 W B (fun k => k ∈ F) h ts := by
 obtain ⟨cs, Fs, h1, rfl, h3, h4⟩ := hr
 exact ⟨fun k e => List.mem_append_left _ (by simp [own1, e]), cs, h1, AL_M ts cs Fs _ h3 (fun g hg => ⟨List.mem_append_right _ hg, h4 g hg⟩)⟩
theorem AR_C {W : World} {B : Nat} {ts : List Nd} {A : Option Addr} {n c : Nat} {F : List Nat} (hr : AR W B NDT ts (.slice A n c) F) : n = ts.length ∧ ts.length ≤ c ∧ Kd.C PA.k63 W A ts.length ts := by
 obtain ⟨A', c', e, h1, h2⟩ := Kd.R_reads (AR_R hr)
 injection e with e1 e2 e3
 rw [e1, e2, e3]
 exact ⟨rfl, h1, h2⟩
end Go.Proofs.YtmoelofaojgjfaaGreatDoor.Par
namespace Go.Proofs.YtmoelofaojgjfaaGreatDoor.Par
abbrev Oi := PA.S30
abbrev ON := PA.k30
abbrev OT : TypeId := 30
abbrev Rg := PA.S36
abbrev RK := PA.k36
abbrev RT : TypeId := 36
end Go.Proofs.YtmoelofaojgjfaaGreatDoor.Par
namespace Go.Proofs.YtmoelofaojgjfaaGreatDoor.Par
open Go.RowKit Go.Proofs.YtmoelofaojgjfaaGreatDoorW.PrintWords Go.Proofs.YtmoelofaojgjfaaGreatDoorW.PrintLast
def symK (k : Int) : Int := if k = 3 then 2 else if k = 4 then 3 else if k = 5 then 4 else if k = 6 then 5 else if k = 7 then 6 else if k = 8 then 7 else if k = 9 then 8 else if k = 14 then 11 else if k = 15 then 12 else if k = 16 then 13 else 0
mutual
def itO : Nd → List Oi
 | ⟨k, _, t, a, b, _, ks⟩ => if symK k = 0 then itL ks else [⟨symK k, a, b, t, itL ks⟩]
def itL : List Nd → List Oi
 | [] => []
 | c :: cs => itO c ++ itL cs
end
theorem zyf (n : Nd) : itO n = if symK n.f0 = 0 then itL n.f6 else [⟨symK n.f0, n.f3, n.f4, n.f2, itL n.f6⟩] := by
 cases n
 simp only [itO]
mutual
theorem zu0 : ∀ (n : Nd), (itO n).length ≤ cntN n
 | ⟨k, v, t, a, b, x, ks⟩ => by
  have := zpi ks
  simp only [itO, cntN]
  split
  ·omega
  ·simp only [List.length_singleton]
   omega
theorem zpi : ∀ (ks : List Nd), (itL ks).length ≤ zda ks
 | [] => Nat.le_refl _
 | c :: cs => by
  have h1 := zu0 c
  have h2 := zpi cs
  simp only [itL, zda, List.length_append]
  omega
end
theorem zkn (a b : List Nd) : itL (a ++ b) = itL a ++ itL b := by
 induction a with
 | nil => rfl
 | cons c cs ih => simp only [List.cons_append, itL, ih, List.append_assoc]
def cntI : List Oi → Nat
 | [] => 0
 | ⟨_, _, _, _, ks⟩ :: xs => 1 + cntI ks + cntI xs
theorem zjo (x : Oi) (xs : List Oi) : cntI (x :: xs) = 1 + cntI x.f4 + cntI xs := by
 cases x
 simp only [cntI]
theorem zp2 (a b : List Oi) : cntI (a ++ b) = cntI a + cntI b := by
 induction a with
 | nil => simp [cntI]
 | cons y ys ih => rw [List.cons_append, zjo, zjo, ih]; omega
mutual
theorem zzj : ∀ (n : Nd), cntI (itO n) ≤ cntN n
 | ⟨k, v, t, a, b, x, ks⟩ => by
  have := zpj ks
  simp only [itO, cntN]
  split
  ·omega
  ·rw [zjo]
   simp only [cntI]
   omega
theorem zpj : ∀ (ks : List Nd), cntI (itL ks) ≤ zda ks
 | [] => by simp [itL, cntI]
 | c :: cs => by
  have h1 := zzj c
  have h2 := zpj cs
  simp only [itL, zda, zp2]
  omega
end
theorem zxg {ks : List Nd} {i : Nat} {x : Nd} (h : ks[i]? = some x) : itL (ks.take (i + 1)) = itL (ks.take i) ++ itO x := by
 rw [List.take_add_one, h, zkn]
 simp [itL]
def foK (k : Int) : Bool := ([21, 4, 5, 6, 7, 35] : List Int).contains k
def nlB (s : ByteArray) (a b : Int) : Bool := decide (0 ≤ Lib.indexByte (s.extract a.toNat b.toNat).data.toList 10)
mutual
def foO (s : ByteArray) : Nd → List Rg
 | ⟨k, _, _, a, b, _, ks⟩ => (if foK k = true then (if nlB s a b = true then [⟨0, a, b⟩] else []) else []) ++ foL s ks
def foL (s : ByteArray) : List Nd → List Rg
 | [] => []
 | c :: cs => foO s c ++ foL s cs
end
theorem z02 (s : ByteArray) (n : Nd) : foO s n = (if foK n.f0 = true then (if nlB s n.f3 n.f4 = true then [⟨0, n.f3, n.f4⟩] else []) else []) ++ foL s n.f6 := by
 cases n
 simp only [foO]
theorem zse (s : ByteArray) (a b : List Nd) : foL s (a ++ b) = foL s a ++ foL s b := by
 induction a with
 | nil => rfl
 | cons c cs ih => simp only [List.cons_append, foL, ih, List.append_assoc]
theorem zxr {s : ByteArray} {ks : List Nd} {i : Nat} {x : Nd} (h : ks[i]? = some x) : foL s (ks.take (i + 1)) = foL s (ks.take i) ++ foO s x := by
 rw [List.take_add_one, h, zse]
 simp [foL]
mutual
theorem zu5 (s : ByteArray) : ∀ (n : Nd), (foO s n).length ≤ cntN n
 | ⟨k, v, t, a, b, x, ks⟩ => by
  have := zpo s ks
  have h1 : ((if foK k = true then (if nlB s a b = true then [⟨0, a, b⟩] else []) else []) : List Rg).length ≤ 1 := by
   repeat' split
   all_goals simp
  simp only [foO, cntN, List.length_append]
  omega
theorem zpo (s : ByteArray) : ∀ (ks : List Nd), (foL s ks).length ≤ zda ks
 | [] => Nat.le_refl _
 | c :: cs => by
  have h1 := zu5 s c
  have h2 := zpo s cs
  simp only [foL, zda, List.length_append]
  omega
end
theorem zic (k : Int) (w : World) : Calls Tryz.prog 62 #[.int .i64 k] w fun e w' => e = .returned (.int .i64 (symK k)) ∧ w' = w := by
 go_enter Tryz.func62, Tryz.ntmps62
 go_wp2
 all_goals (go_ret; refine ⟨?_, rfl⟩; simp_all [symK])
theorem zie (k : Int) (w : World) : Calls Tryz.prog 94 #[.int .i64 k] w fun e w' => e = .returned (.bool (foK k)) ∧ w' = w := by
 go_enter Tryz.func94, Tryz.ntmps94
 go_wp2
 all_goals (go_ret; refine ⟨?_, rfl⟩; simp_all [foK])
theorem z0p {w : World} {A : Option Addr} {ks : List Nd} {i : Nat} {x : Nd} (h : Kd.C NK w A ks.length ks) (hx : ks[i]? = some x) : ∃ ad A6 c6, A = some ad ∧ w.cell? (ad.add (i * 7)) = some (.int .i64 x.f0) ∧ w.cell? ⟨(ad.add (i * 7)).block, (ad.add (i * 7)).off + 1, none⟩ = some (.int .i64 x.f1) ∧ w.cell? ⟨(ad.add (i * 7)).block, (ad.add (i * 7)).off + 2, none⟩ = some (.string x.f2) ∧ w.cell? ⟨(ad.add (i * 7)).block, (ad.add (i * 7)).off + 3, none⟩ = some (.int .i64 x.f3) ∧ w.cell? ⟨(ad.add (i * 7)).block, (ad.add (i * 7)).off + 4, none⟩ = some (.int .i64 x.f4) ∧ w.cell? ⟨(ad.add (i * 7)).block, (ad.add (i * 7)).off + 5, none⟩ = some (.int .i64 x.f5) ∧ w.cell? ⟨(ad.add (i * 7)).block, (ad.add (i * 7)).off + 6, none⟩ = some (.slice A6 x.f6.length c6) ∧ x.f6.length ≤ c6 ∧ Kd.C NK w A6 x.f6.length x.f6 := by
 have hlt := (List.getElem?_eq_some_iff.1 hx).1
 have hxe : PA.rd_T63 ks (i : Int) = x := by simp [PA.rd_T63, hx]
 have := PA.at_T63 h (i : Int) (by omega) (by omega)
 rw [hxe] at this
 simpa only [Int.toNat_natCast] using this
theorem zpg : ∀ (m : Nat) (n : Nd), cntN n < m → cntN n ≤ 1000000 → ∀ (A : Option Addr) (c : Nat) (w : World), Kd.C NK w A n.f6.length n.f6 → n.f6.length ≤ c →
  Calls Tryz.prog 26 #[.agg #[.int .i64 n.f0, .int .i64 n.f1, .string n.f2, .int .i64 n.f3, .int .i64 n.f4, .int .i64 n.f5, .slice A n.f6.length c]] w fun e w' => ∃ v, e = .returned v ∧ Kd.N ON OT w' w.heap.size (fun g => w.heap.size ≤ g) v (itO n) ∧ Below w.heap.size w w' := by
 intro m
 induction m with
 | zero => exact fun n h => absurd h (Nat.not_lt_zero _)
 | succ m ih =>
  intro n hm hk A c w hC hc
  have hn := lenN n.f6
  have hcn := zfi n
  have IH := ak ih
  have HC := ak (And.intro hC (And.intro hm hk))
  obtain ⟨ks, hks⟩ : ∃ ks, Hid (n.f6 = ks) := ⟨_, rfl⟩
  have hks' : n.f6 = ks := hks
  rw [hks'] at HC hn hcn hc ⊢
  have hlk : ks.length ≤ 1000000 := by omega
  have HE := ak (And.intro hks' hcn)
  clear ih hC hk hm hks hks' hcn hn
  go_enter Tryz.func26, Tryz.ntmps26
  obtain ⟨w0, hw0⟩ : ∃ w0, w.alloc (.cells #[.int .i64 n.f0, .int .i64 n.f1, .string n.f2, .int .i64 n.f3, .int .i64 n.f4, .int .i64 n.f5, .slice A ks.length c] 63) = w0 := ⟨_, rfl⟩
  have hb0 : Below w.heap.size w w0 := by rw [← hw0]; exact zh (Below.refl _ _) _
  have bk : w0.heap[w.heap.size]? = some (.cells #[.int .i64 n.f0, .int .i64 n.f1, .string n.f2, .int .i64 n.f3, .int .i64 n.f4, .int .i64 n.f5, .slice A ks.length c] 63 (0, 0)) := by rw [← hw0]; exact zaj w _
  have y6 : w0.cell? ⟨w.heap.size, 6, none⟩ = some (.slice A ks.length c) := (zf bk 6).trans rfl
  have H0 := ak (And.intro hb0 bk)
  clear hb0 bk
  go_wp2_with fail
  clear hw0 y6
  go_loopw [3, 10] (fun v z wr => ∃ i : Nat, z = .int .i64 (i : Int) ∧ i ≤ ks.length ∧ zar (Kd.N ON OT wr w0.heap.size (fun g => w0.heap.size ≤ g) v (itL (ks.take i)) ∧ Below w0.heap.size w0 wr)) (fun _ z _ => ks.length - (intOf z).toNat)
  case atStart => exact ⟨0, rfl, Nat.zero_le _, ⟨Kd.N_nil _ _ _ _ _, Below.refl _ _⟩⟩
  case round =>
   obtain ⟨i, rfl, hi, HR⟩ := hrel
   have hu := HR.out.2.size
   by_cases hlt : i < ks.length
   ·have i0 : (0 : Int) ≤ (i : Int) := by omega
    have i1 : (i : Int) < (ks.length : Int) := by omega
    have wi : IntKind.i64.wrap ((i : Int) + 1) = (i : Int) + 1 := by rw [IntKind.wrap_i64]; omega
    obtain ⟨x, hx⟩ : ∃ x, ks[i]? = some x := ⟨_, List.getElem?_eq_getElem hlt⟩
    have hb := H0.out.1.trans (HR.out.2.mono H0.out.1.size)
    obtain ⟨ad, A6, c6, rfl, x0, x1, x2, x3, x4, x5, x6, hl6, h6⟩ := z0p (Kd.C_below HC.out.1 hb) hx
    have H6 := ak (And.intro hl6 h6)
    have HX := ak (And.intro hx (zuj hx))
    clear hl6 h6 hx hb
    go_wp2_with fail
    refine (IH.out x (by have := HX.out.2; have := HE.out.2; have := HC.out.2; omega) (by have := HX.out.2; have := HE.out.2; have := HC.out.2; omega) A6 c6 _ (Kd.C_below H6.out.2 (zh (Below.refl _ _) _)) H6.out.1).mono ?_
    rintro e w2 ⟨v2, rfl, n2, hb2⟩
    obtain ⟨A2, c2, rfl⟩ := Kd.N_slice n2
    have hb1 := fun o => (zh (Below.refl wr.heap.size wr) o)
    have H2 := ak (And.intro (Kd.N_mono (ok' := fun g => wr.heap.size ≤ g) (Kd.N_lower n2 (hb1 _).size) (fun g hg => Nat.le_trans (hb1 _).size hg)) ((hb1 _).trans (hb2.mono (hb1 _).size)))
    clear n2 hb2 hb1
    have hk2 := Nat.le_trans hu H2.out.2.size
    go_wp2_with ((with_reducible refine zd9 (b := .append) (xs := #[.tmp 14, .tmp 16]) rfl ?_); at_builtin; refine Kd.N_append_rows ON (w0 := w0) w0.heap.size rfl (.tmp 14) (.tmp 16) 23 OT (.agg #[.int .i64 0, .int .i64 0, .int .i64 0, .string ⟨#[]⟩, .slice none 0 0]) 64 rfl Tryz.underlying23 PA.info30 rfl (by decide) (by decide) u3 (itL (ks.take i)) (itO x) A2 (itO x).length c2 (fun g => w0.heap.size ≤ g) (fun g => wr.heap.size ≤ g) rfl rfl (Kd.N_below HR.out.1 H2.out.2) (Kd.N_F H2.out.1) (fun g hg => ⟨Nat.le_trans hu hg, fun e => absurd (Kd.N_lt HR.out.1 g e.symm) (Nat.not_lt.2 hg)⟩) (fun g hg => Nat.le_trans hk2 hg) (HR.out.2.trans (H2.out.2.mono hu)) hk2 (by have := zu0 x; have := zpi (ks.take i); have := zkv ks i; have := HX.out.2; have := HE.out.2; have := HC.out.2; omega) ?_; intro v3 w3 n3 hb3 hg3 ha3; have H3 := ak (And.intro n3 hb3); clear n3 hb3 hg3 ha3)
    refine ⟨⟨i + 1, ?_, by omega, ?_⟩, ?_⟩
    ·first | rfl | simp [wi]
    ·rw [zxg HX.out.1]
     exact ⟨H3.out.1, H3.out.2⟩
    ·simp only [intOf]
     omega
   ·have i1 : ¬ (i : Int) < (ks.length : Int) := by omega
    have e : ks.take i = ks := List.take_of_length_le (by omega)
    have bk := (HR.out.2.block _ (za8 H0.out.2)).trans H0.out.2
    have y0 : wr.cell? ⟨w.heap.size, 0, none⟩ = some (.int .i64 n.f0) := (zf bk 0).trans rfl
    have y2 : wr.cell? ⟨w.heap.size, 2, none⟩ = some (.string n.f2) := (zf bk 2).trans rfl
    have y3 : wr.cell? ⟨w.heap.size, 3, none⟩ = some (.int .i64 n.f3) := (zf bk 3).trans rfl
    have y4 : wr.cell? ⟨w.heap.size, 4, none⟩ = some (.int .i64 n.f4) := (zf bk 4).trans rfl
    have hR := HR.out
    rw [e] at hR
    clear bk HR
    have hIt := zyf n
    rw [HE.out.1] at hIt
    have HI := ak hIt
    obtain ⟨A3, c3, rfl⟩ := Kd.N_slice hR.1
    have HR := ak hR
    clear hR e hIt
    go_wp2_with fail
    refine (zic n.f0 _).mono ?_
    rintro e w2 ⟨rfl, rfl⟩
    obtain ⟨q, hq⟩ : ∃ q, Hid (symK n.f0 = q) := ⟨_, rfl⟩
    have hq' : symK n.f0 = q := hq
    rw [hq'] at HI ⊢
    clear hq hq'
    have hf := fun g (hg : w0.heap.size ≤ g) => Nat.le_trans H0.out.1.size hg
    by_cases h0 : q = 0
    ·have d0 : (q == 0) = true := beq_iff_eq.mpr h0
     go_wp2_with fail
     go_ret
     rw [HI.out, if_pos h0]
     exact ⟨_, rfl, Kd.N_mono (Kd.N_lower HR.out.1 H0.out.1.size) hf, H0.out.1.trans (HR.out.2.mono H0.out.1.size)⟩
    ·have d0 : (q == 0) = false := beq_eq_false_iff_ne.mpr h0
     go_wp2_with ((with_reducible refine zxq (N := 34) rfl ?_); refine Kd.N_lit ON (w0 := w2) w2.heap.size OT rfl (N' := 34) rfl (xs := [(⟨q, n.f3, n.f4, n.f2, itL ks⟩ : Oi)]) (inner := [.int .i64 q, .int .i64 n.f3, .int .i64 n.f4, .string n.f2, .slice A3 (itL ks).length c3]) (ok := fun g => w0.heap.size ≤ g) (okp := fun g => w0.heap.size ≤ g) (by go_simp; done) (Reps.c5 (PA.k30_mkF _ _ (⟨q, n.f3, n.f4, n.f2, itL ks⟩ : Oi) (Kd.N_reads' HR.out.1).2.1 (Kd.N_F HR.out.1)) (Reps.none _ _)) (fun _ h => h) hu (Below.refl _ _) (Nat.le_refl _) (by simp) ?_; intro v4 w4 n4 hb4 hg4 ha4; have H4 := ak (And.intro n4 hb4); clear n4 hb4 hg4 ha4)
     go_ret
     rw [HI.out, if_neg h0]
     have hb := H0.out.1.trans (HR.out.2.mono H0.out.1.size)
     exact ⟨_, rfl, Kd.N_mono (Kd.N_lower H4.out.1 hb.size) hf, hb.trans (H4.out.2.mono hb.size)⟩
theorem zj1 (s : ByteArray) : ∀ (m : Nat) (n : Nd), cntN n < m → cntN n ≤ 1000000 → 0 ≤ n.f3 → n.f4 ≤ (s.size : Int) → Inn n → ∀ (A : Option Addr) (c : Nat) (w : World), Kd.C NK w A n.f6.length n.f6 → n.f6.length ≤ c →
  Calls Tryz.prog 55 #[.string s, .agg #[.int .i64 n.f0, .int .i64 n.f1, .string n.f2, .int .i64 n.f3, .int .i64 n.f4, .int .i64 n.f5, .slice A n.f6.length c]] w fun e w' => ∃ v, e = .returned v ∧ Kd.N RK RT w' w.heap.size (fun g => w.heap.size ≤ g) v (foO s n) ∧ Below w.heap.size w w' := by
 intro m
 induction m with
 | zero => exact fun n h => absurd h (Nat.not_lt_zero _)
 | succ m ih =>
  intro n hm hk p0 p1 hin A c w hC hc
  have hn := lenN n.f6
  have hcn := zfi n
  have IH := ak ih
  have HN := ak (Inn.iff.1 hin)
  have p2 := InnL.le HN.out
  have HC := ak (And.intro hC (And.intro hm hk))
  obtain ⟨ks, hks⟩ : ∃ ks, Hid (n.f6 = ks) := ⟨_, rfl⟩
  have hks' : n.f6 = ks := hks
  have hFo := z02 s n
  rw [hks'] at HC HN hn hcn hc hFo ⊢
  have hlk : ks.length ≤ 1000000 := by omega
  have HE := ak (And.intro hFo (And.intro hcn (And.intro p0 p1)))
  clear ih hC hk hm hks hks' hcn hn hFo hin
  go_enter Tryz.func55, Tryz.ntmps55
  obtain ⟨w0, hw0⟩ : ∃ w0, w.alloc (.cells #[.int .i64 n.f0, .int .i64 n.f1, .string n.f2, .int .i64 n.f3, .int .i64 n.f4, .int .i64 n.f5, .slice A ks.length c] 63) = w0 := ⟨_, rfl⟩
  have hb0 : Below w.heap.size w w0 := by rw [← hw0]; exact zh (Below.refl _ _) _
  have bk : w0.heap[w.heap.size]? = some (.cells #[.int .i64 n.f0, .int .i64 n.f1, .string n.f2, .int .i64 n.f3, .int .i64 n.f4, .int .i64 n.f5, .slice A ks.length c] 63 (0, 0)) := by rw [← hw0]; exact zaj w _
  have y0 : w0.cell? ⟨w.heap.size, 0, none⟩ = some (.int .i64 n.f0) := (zf bk 0).trans rfl
  have y3 : w0.cell? ⟨w.heap.size, 3, none⟩ = some (.int .i64 n.f3) := (zf bk 3).trans rfl
  have y4 : w0.cell? ⟨w.heap.size, 4, none⟩ = some (.int .i64 n.f4) := (zf bk 4).trans rfl
  have H0 := ak (And.intro hb0 bk)
  clear hb0 bk
  obtain ⟨bq, hbq⟩ : ∃ bq, Hid ((foK n.f0 && nlB s n.f3 n.f4) = bq) := ⟨_, rfl⟩
  have HB := ak (show (foK n.f0 && nlB s n.f3 n.f4) = bq from hbq)
  clear hbq
  go_upto_region 2 with fail
  go_cut [19] (fun t wx => t = .bool bq ∧ w0 = wx)
  case first =>
   have q0 : (0 : Int) ≤ n.f3 := HE.out.2.2.1
   have q1 : n.f4 ≤ (s.size : Int) := HE.out.2.2.2
   go_wp2_with fail
   refine (zie n.f0 _).mono ?_
   rintro e w2 ⟨rfl, rfl⟩
   cases hk : foK n.f0 with
   | false =>
    go_wp2_with fail
    go_meet
    case rel => exact ⟨by rw [← HB.out, hk]; rfl, rfl⟩
   | true =>
    go_wp2_with fail
    refine (Tryz.strings_Contains_one (s.extract n.f3.toNat n.f4.toNat) 10 _).mono ?_
    rintro e w3 ⟨rfl, rfl⟩
    have hq := HB.out
    rw [hk, Bool.true_and] at hq
    unfold nlB at hq
    rw [hq]
    clear hq
    cases bq
    ·go_wp2_with fail
     go_meet
     case rel => exact ⟨rfl, rfl⟩
    ·go_wp2_with fail
     go_meet
     case rel => exact ⟨rfl, rfl⟩
  case rest =>
   obtain ⟨rfl, rfl⟩ := hcut
   have hpre : (if bq = true then [⟨0, n.f3, n.f4⟩] else [] : List Rg) ++ foL s ks = foO s n := by
    rw [HE.out.1, ← HB.out]
    cases foK n.f0 <;> simp
   obtain ⟨pre, hpr⟩ : ∃ pre, Hid ((if bq = true then [⟨0, n.f3, n.f4⟩] else [] : List Rg) = pre) := ⟨_, rfl⟩
   have hpr' : (if bq = true then [⟨0, n.f3, n.f4⟩] else [] : List Rg) = pre := hpr
   have hpl : pre.length ≤ 1 := by rw [← hpr']; cases bq <;> simp
   rw [hpr'] at hpre
   have HP := ak (And.intro hpr' hpre)
   clear hpr hpr' hpre
   go_upto_if 19 with fail
   go_cut [5] (fun v wx => zar (Kd.N RK RT wx w0.heap.size (fun g => w0.heap.size ≤ g) v pre ∧ Below w0.heap.size w0 wx))
   case first =>
    cases bq
    ·go_wp2_with fail
     go_meet
     case rel => exact ⟨HP.out.1 ▸ Kd.N_nil _ _ _ _ _, Below.refl _ _⟩
    ·go_wp2_with ((with_reducible refine zd9 (b := .append) (xs := #[.tmp 20, .tmp 26]) rfl ?_); at_builtin; refine Kd.N_append RK (w0 := w0) w0.heap.size rfl (.tmp 20) (.tmp 26) 32 RT (.agg #[.int .i64 0, .int .i64 0, .int .i64 0]) 24 rfl Tryz.underlying32 PA.info36 rfl (by decide) (by decide) (.slice none 0 0) [] (⟨0, n.f3, n.f4⟩ : Rg) [.int .i64 0, .int .i64 n.f3, .int .i64 n.f4] (fun g => w0.heap.size ≤ g) (fun _ => False) rfl (by go_simp; done) (PA.k36_mkF _ _ (⟨0, n.f3, n.f4⟩ : Rg)) (fun _ hk => hk.elim) (fun g hg => hg) (Kd.N_nil _ _ _ _ _) (Below.refl _ _) (Nat.le_refl _) (by decide) ?_; intro v1 w1 n1 hb1 hg1 ha1; have H1 := ak (And.intro n1 hb1); clear n1 hb1 hg1 ha1)
     go_meet
     case rel => exact ⟨HP.out.1 ▸ H1.out.1, H1.out.2⟩
   case rest =>
    have H1 := hcut
    clear hcut
    have bk := (H1.out.2.block _ (za8 H0.out.2)).trans H0.out.2
    have y6 : wc.cell? ⟨w.heap.size, 6, none⟩ = some (.slice A ks.length c) := (zf bk 6).trans rfl
    clear bk
    go_wp2_with fail
    go_loopw [5, 31] (fun v z wr => ∃ i : Nat, z = .int .i64 (i : Int) ∧ i ≤ ks.length ∧ zar (Kd.N RK RT wr w0.heap.size (fun g => w0.heap.size ≤ g) v (pre ++ foL s (ks.take i)) ∧ Below w0.heap.size w0 wr)) (fun _ z _ => ks.length - (intOf z).toNat)
    case atStart => exact ⟨0, rfl, Nat.zero_le _, ⟨by rw [List.take_zero]; simp only [foL, List.append_nil]; exact H1.out⟩⟩
    case round =>
     obtain ⟨i, rfl, hi, HR⟩ := hrel
     have hu := HR.out.2.size
     by_cases hlt : i < ks.length
     ·have i0 : (0 : Int) ≤ (i : Int) := by omega
      have i1 : (i : Int) < (ks.length : Int) := by omega
      have wi : IntKind.i64.wrap ((i : Int) + 1) = (i : Int) + 1 := by rw [IntKind.wrap_i64]; omega
      obtain ⟨x, hx⟩ : ∃ x, ks[i]? = some x := ⟨_, List.getElem?_eq_getElem hlt⟩
      have hb := H0.out.1.trans (HR.out.2.mono H0.out.1.size)
      obtain ⟨ad, A6, c6, rfl, x0, x1, x2, x3, x4, x5, x6, hl6, h6⟩ := z0p (Kd.C_below HC.out.1 hb) hx
      have H6 := ak (And.intro hl6 h6)
      have HX := ak (And.intro hx (And.intro (zuj hx) (InnL.mem HN.out hx)))
      clear hl6 h6 hx hb
      go_wp2_with fail
      refine (IH.out x (by have := HX.out.2.1; have := HE.out.2.1; have := HC.out.2; omega) (by have := HX.out.2.1; have := HE.out.2.1; have := HC.out.2; omega) (by have := HX.out.2.2; have := HE.out.2.2; omega) (by have := HX.out.2.2; have := HE.out.2.2; omega) HX.out.2.2.2.2 A6 c6 _ (Kd.C_below H6.out.2 (zh (Below.refl _ _) _)) H6.out.1).mono ?_
      rintro e w2 ⟨v2, rfl, n2, hb2⟩
      obtain ⟨A2, c2, rfl⟩ := Kd.N_slice n2
      have hb1 := fun o => (zh (Below.refl wr.heap.size wr) o)
      have H2 := ak (And.intro (Kd.N_mono (ok' := fun g => wr.heap.size ≤ g) (Kd.N_lower n2 (hb1 _).size) (fun g hg => Nat.le_trans (hb1 _).size hg)) ((hb1 _).trans (hb2.mono (hb1 _).size)))
      clear n2 hb2 hb1
      have hk2 := Nat.le_trans hu H2.out.2.size
      go_wp2_with ((with_reducible refine zd9 (b := .append) (xs := #[.tmp 35, .tmp 38]) rfl ?_); at_builtin; refine Kd.N_append_rows RK (w0 := w0) w0.heap.size rfl (.tmp 35) (.tmp 38) 32 RT (.agg #[.int .i64 0, .int .i64 0, .int .i64 0]) 24 rfl Tryz.underlying32 PA.info36 rfl (by decide) (by decide) u5 (pre ++ foL s (ks.take i)) (foO s x) A2 (foO s x).length c2 (fun g => w0.heap.size ≤ g) (fun g => wr.heap.size ≤ g) rfl rfl (Kd.N_below HR.out.1 H2.out.2) (Kd.N_F H2.out.1) (fun g hg => ⟨Nat.le_trans hu hg, fun e => absurd (Kd.N_lt HR.out.1 g e.symm) (Nat.not_lt.2 hg)⟩) (fun g hg => Nat.le_trans hk2 hg) (HR.out.2.trans (H2.out.2.mono hu)) hk2 (by have := zu5 s x; have := zpo s (ks.take i); have := zkv ks i; have := HX.out.2.1; have := HE.out.2.1; have := HC.out.2; rw [List.length_append]; omega) ?_; intro v3 w3 n3 hb3 hg3 ha3; have H3 := ak (And.intro n3 hb3); clear n3 hb3 hg3 ha3)
      refine ⟨⟨i + 1, ?_, by omega, ?_⟩, ?_⟩
      ·first | rfl | simp [wi]
      ·rw [zxr HX.out.1, ← List.append_assoc]
       exact ⟨H3.out.1, H3.out.2⟩
      ·simp only [intOf]
       omega
     ·have i1 : ¬ (i : Int) < (ks.length : Int) := by omega
      have e : ks.take i = ks := List.take_of_length_le (by omega)
      have hR := HR.out
      rw [e, HP.out.2] at hR
      clear HR e
      have HR := ak hR
      clear hR
      go_wp2_with fail
      go_ret
      exact ⟨_, rfl, Kd.N_mono (Kd.N_lower HR.out.1 H0.out.1.size) (fun g hg => Nat.le_trans H0.out.1.size hg), H0.out.1.trans (HR.out.2.mono H0.out.1.size)⟩
theorem zgu {s : ByteArray} (hs : s.size ≤ 2000) (w : World) (hS : Spc w) (hG : Glb w.heap.size w) :
  Calls Tryz.prog 9 #[.string s] w fun e w' => ∃ v, e = .returned (.tuple #[v, .int .i64 0]) ∧ Kd.N PA.k30 30 w' w.heap.size (fun g => w.heap.size ≤ g) v (itO (astN s)) ∧ Below w.heap.size w w' := by
 have HS := ak (And.intro hS hG)
 clear hS hG
 go_enter Tryz.func9, Tryz.ntmps9
 go_wp2_with fail
 refine (zjr hs _ HS.out.1 HS.out.2).mono ?_
 rintro e W2 ⟨hd, F, dv, rfl, ar, dg, hb⟩
 obtain ⟨A, c, rfl⟩ : ∃ A c, hd = .slice A (astN s).f6.length c := by
  obtain ⟨_, _, ho, _, _⟩ := ar
  exact Par.za3 ho
 obtain ⟨_, hc, kc⟩ := AR_C ar
 have K2 := ak (And.intro kc hb)
 clear ar dg kc hb
 go_wp2_with fail
 refine (zpg 100000 (astN s) (by have := (zc5 hs).1; omega) (by have := (zc5 hs).1; omega) A c _ (Kd.C_below K2.out.1 (zh (Below.refl _ _) _)) hc).mono ?_
 rintro e W3 ⟨v, rfl, n3, hb3⟩
 have K3 := ak (And.intro n3 hb3)
 clear n3 hb3
 go_wp2_with fail
 refine bodyPost_ret (v := .tuple #[v, .int .i64 0]) (by simp [results, Tryz.results9, go_sem]) rfl ?_
 have hb := K2.out.2
 have h1 := fun o => hb.trans ((zh (Below.refl W2.heap.size W2) o).mono hb.size)
 exact ⟨v, rfl, Kd.N_mono (Kd.N_lower K3.out.1 (h1 _).size) (fun g hg => Nat.le_trans (h1 _).size hg), (h1 _).trans (K3.out.2.mono (h1 _).size)⟩
theorem zib {s : ByteArray} (hs : 2000 < s.size) (w : World) :
  Calls Tryz.prog 9 #[.string s] w fun e w' => e = .returned (.tuple #[.slice none 0 0, .int .i64 2]) ∧ Below w.heap.size w w' := by
 go_enter Tryz.func9, Tryz.ntmps9
 go_wp2_with fail
 refine (zh8 hs _).mono ?_
 rintro e W2 ⟨rfl, hb⟩
 have K2 := ak hb
 clear hb
 go_wp2_with fail
 refine bodyPost_ret (v := .tuple #[.slice none 0 0, .int .i64 2]) (by simp [results, Tryz.results9, go_sem]) rfl ?_
 exact ⟨rfl, (fun o => K2.out.trans ((zh (Below.refl W2.heap.size W2) o).mono K2.out.size)) _⟩
theorem zr9 (A : Addr) (c : Nat) (v : Value) (w : World) : Calls Tryz.prog 104 #[.slice (some A) 1 c, .int .i64 0, .int .i64 1, v] w fun e w' => e = .returned (.tuple #[]) ∧ Below w.heap.size w w' := by
 go_enter Tryz.func104, Tryz.ntmps104
 go_wp2_with fail
 go_loopw [8] (fun z wr => z = .int .i64 1 ∧ wr = w) (fun _ _ => 0)
 case atStart => exact ⟨rfl, rfl⟩
 case round =>
  obtain ⟨rfl, rfl⟩ := hrel
  go_wp2_with fail
  go_end0
  exact ⟨rfl, Below.refl _ _⟩
theorem zrm (A : Addr) (c : Nat) (n : Int) (v : Value) (w : World) : Calls Tryz.prog 66 #[.slice (some A) 1 c, .int .i64 0, .int .i64 1, .int .i64 n, v] w fun e w' => e = .returned (.tuple #[]) ∧ Below w.heap.size w w' := by
 go_enter Tryz.func66, Tryz.ntmps66
 go_wp2_with fail
 go_loopw [1, 2] (fun z y wr => z = .int .i64 0 ∧ y = .int .i64 1 ∧ wr = w) (fun _ _ _ => 0)
 case atStart => exact ⟨rfl, rfl, rfl⟩
 case round =>
  obtain ⟨rfl, rfl, rfl⟩ := hrel
  go_wp2_with fail
  refine (zr9 A c v _).mono ?_
  rintro e w' ⟨rfl, hb⟩
  have HB := ak hb
  clear hb
  go_wp2_with fail
  refine bodyPost_ret (results_none rfl _ _ _) rfl ?_
  exact ⟨rfl, HB.out⟩
theorem zo4 (A : Addr) (c : Nat) (v : Value) (w : World) : Calls Tryz.prog 32 #[.slice (some A) 1 c, v] w fun e w' => e = .returned (.tuple #[]) ∧ Below w.heap.size w w' := by
 go_enter Tryz.func32, Tryz.ntmps32
 go_wp2_with fail
 refine (Tryz.bits_Len 1 _ (by decide) (by decide)).mono ?_
 rintro e w' ⟨rfl, rfl⟩
 go_wp2_with fail
 refine (zrm A c _ v _).mono ?_
 rintro e w' ⟨rfl, hb⟩
 have HB := ak hb
 clear hb
 go_wp2_with fail
 go_end0
 exact ⟨rfl, HB.out⟩
theorem zj9 (A : Addr) (c : Nat) (w : World) : Calls Tryz.prog 36 #[.slice (some A) 1 c] w fun e w' => e = .returned (.slice (some A) 1 c) ∧ Below w.heap.size w w' := by
 go_enter Tryz.func36, Tryz.ntmps36
 go_wp2_with fail
 go_ret
 exact ⟨rfl, Below.refl _ _⟩
theorem zlt {s : ByteArray} (hs : s.size ≤ 2000) (w : World) (hS : Spc w) (hG : Glb w.heap.size w) (r : Rg) (h : foO s (astN s) = [r]) :
  Calls Tryz.prog 24 #[.string s] w fun e w' => ∃ v, e = .returned (.tuple #[v, .int .i64 0]) ∧ Kd.N RK RT w' w.heap.size (fun g => w.heap.size ≤ g) v [r] ∧ Below w.heap.size w w' := by
 have HS := ak (And.intro hS (And.intro hG h))
 clear hS hG h
 go_enter Tryz.func24, Tryz.ntmps24
 go_wp2_with fail
 refine (zjr hs _ HS.out.1 HS.out.2.1).mono ?_
 rintro e W2 ⟨hd, F, dv, rfl, ar, dg, hb⟩
 obtain ⟨A, c, rfl⟩ : ∃ A c, hd = .slice A (astN s).f6.length c := by
  obtain ⟨_, _, ho, _, _⟩ := ar
  exact Par.za3 ho
 obtain ⟨_, hc, kc⟩ := AR_C ar
 have K2 := ak (And.intro kc hb)
 clear ar dg kc hb
 go_wp2_with fail
 refine (zj1 s 100000 (astN s) (by have := (zc5 hs).1; omega) (by have := (zc5 hs).1; omega) (Int.le_refl _) (Int.le_refl _) (Inn.iff.2 (zc5 hs).2.1) A c _ (Kd.C_below K2.out.1 (zh (Below.refl _ _) _)) hc).mono ?_
 rintro e W3 ⟨v, rfl, n3, hb3⟩
 rw [HS.out.2.2] at n3
 obtain ⟨g1, cap1, rfl, _⟩ := Kd.N_form n3 (by simp)
 have K3 := ak (And.intro n3 hb3)
 clear n3 hb3
 go_wp2_with fail
 refine (zo4 _ _ _ _).mono ?_
 rintro e W4 ⟨rfl, hb4⟩
 go_wp2_with fail
 refine (zj9 _ _ _).mono ?_
 rintro e W5 ⟨rfl, hb5⟩
 have K5 := ak (hb4.trans (hb5.mono hb4.size))
 clear hb4 hb5
 go_wp2_with fail
 refine bodyPost_ret (v := .tuple #[.slice (some ⟨g1, 0, none⟩) 1 cap1, .int .i64 0]) (by simp [results, Tryz.results24, go_sem]) rfl ?_
 have hb := K2.out.2
 have h1 := fun o => hb.trans ((zh (Below.refl W2.heap.size W2) o).mono hb.size)
 exact ⟨_, rfl, Kd.N_below (Kd.N_mono (Kd.N_lower K3.out.1 (h1 _).size) (fun g hg => Nat.le_trans (h1 _).size hg)) K5.out, ((h1 _).trans (K3.out.2.mono (h1 _).size)).trans (K5.out.mono (Nat.le_trans (h1 _).size K3.out.2.size))⟩
mutual
def zpp : Oi → List Oi
 | ⟨a, b, c, d, ks⟩ => ⟨a, b, c, d, []⟩ :: zb9 ks
def zb9 : List Oi → List Oi
 | [] => []
 | x :: xs => zpp x ++ zb9 xs
end
theorem zdf (a b : List Oi) : zb9 (a ++ b) = zb9 a ++ zb9 b := by
 induction a with
 | nil => rfl
 | cons x xs ih => simp only [List.cons_append, zb9, ih, List.append_assoc]
theorem zlw (x : Oi) : zpp x = ⟨x.f0, x.f1, x.f2, x.f3, []⟩ :: zb9 x.f4 := by
 cases x
 simp only [zpp]
theorem zu6 {xs : List Oi} {i : Nat} {x : Oi} (h : xs[i]? = some x) : (zb9 x.f4).length < (zb9 xs).length := by
 obtain ⟨hi, rfl⟩ := List.getElem?_eq_some_iff.1 h
 have e : xs = xs.take i ++ xs[i] :: xs.drop (i + 1) := by simp
 generalize xs[i] = x at e
 rw [e, zdf]
 simp only [zb9, zlw, List.length_append, List.length_cons]
 omega
theorem zqu : ∀ (xs : List Oi), xs.length ≤ (zb9 xs).length
 | [] => Nat.le_refl _
 | x :: xs => by
  have := zqu xs
  simp only [zb9, zlw, List.length_append, List.length_cons]
  omega
theorem zsf {xs : List Oi} {i : Nat} {x : Oi} (h : xs[i]? = some x) : zb9 (xs.take (i + 1)) = zb9 (xs.take i) ++ zpp x := by
 rw [List.take_add_one, h, zdf]
 simp [zb9]
theorem zg8 (xs : List Oi) (i : Nat) : (zb9 (xs.take i)).length ≤ (zb9 xs).length := by
 conv => rhs; rw [← List.take_append_drop i xs, zdf]
 simp
theorem zf5 : ∀ (m : Nat) (xs : List Oi), (zb9 xs).length < m → (zb9 xs).length ≤ 1000000 → ∀ (A : Option Addr) (c : Nat) (w : World), Kd.C ON w A xs.length xs → xs.length ≤ c →
  Calls Tryz.prog 11 #[.slice A xs.length c] w fun e w' => ∃ v, e = .returned v ∧ Kd.N ON OT w' w.heap.size (fun g => w.heap.size ≤ g) v (zb9 xs) ∧ Below w.heap.size w w' := by
 intro m
 induction m with
 | zero => exact fun xs h => absurd h (Nat.not_lt_zero _)
 | succ m ih =>
  intro xs hm hk A c w hC hc
  have hn : xs.length ≤ 1000000 := Nat.le_trans (zqu xs) hk
  have IH := ak ih
  have HC := ak hC
  have HK := ak hk
  have HM := ak hm
  clear ih hC hk hm
  go_enter Tryz.func11, Tryz.ntmps11
  go_wp2_with fail
  go_loopw [3, 9] (fun v z wr => ∃ i : Nat, z = .int .i64 (i : Int) ∧ i ≤ xs.length ∧ zar (Kd.N ON OT wr w.heap.size (fun g => w.heap.size ≤ g) v (zb9 (xs.take i)) ∧ Below w.heap.size w wr)) (fun _ z _ => xs.length - (intOf z).toNat)
  case atStart => exact ⟨0, rfl, Nat.zero_le _, ⟨Kd.N_nil _ _ _ _ _, Below.refl _ _⟩⟩
  case round =>
   obtain ⟨i, rfl, hi, HR⟩ := hrel
   by_cases hlt : i < xs.length
   ·have i0 : (0 : Int) ≤ (i : Int) := by omega
    have i1 : (i : Int) < (xs.length : Int) := by omega
    have wi : IntKind.i64.wrap ((i : Int) + 1) = (i : Int) + 1 := by rw [IntKind.wrap_i64]; omega
    obtain ⟨ad, A4, c4, rfl, x0, x1, x2, x3, x4, hl4, h4⟩ := PA.at_T30 HC.out (i : Int) i0 i1
    obtain ⟨x, hx, hxe⟩ : ∃ x, xs[i]? = some x ∧ PA.rd_T30 xs (i : Int) = x := ⟨xs[i], List.getElem?_eq_getElem hlt, by simp [PA.rd_T30, hlt]⟩
    rw [hxe] at x0 x1 x2 x3 x4 hl4 h4
    simp only [Int.toNat_natCast] at x0 x1 x2 x3 x4
    have hb := HR.out.2
    replace x0 := (hb.cell (World.block_lt_of_cell? w _ x0)).trans x0
    replace x1 := (hb.cell (World.block_lt_of_cell? w _ x1)).trans x1
    replace x2 := (hb.cell (World.block_lt_of_cell? w _ x2)).trans x2
    replace x3 := (hb.cell (World.block_lt_of_cell? w _ x3)).trans x3
    replace x4 := (hb.cell (World.block_lt_of_cell? w _ x4)).trans x4
    have H4 := ak (And.intro hl4 h4)
    have HX := ak hx
    clear hl4 h4 hx hxe hb
    have hu := HR.out.2.size
    go_wp2_with ((with_reducible refine zd9 (b := .append) (xs := #[.tmp 16, .tmp 18]) rfl ?_); at_builtin; refine Kd.N_append ON (w0 := w) w.heap.size rfl (.tmp 16) (.tmp 18) 23 OT (.agg #[.int .i64 0, .int .i64 0, .int .i64 0, .string ⟨#[]⟩, .slice none 0 0]) 64 rfl Tryz.underlying23 PA.info30 rfl (by decide) (by decide) u3 (zb9 (xs.take i)) (⟨x.f0, x.f1, x.f2, x.f3, []⟩ : Oi) [.int .i64 x.f0, .int .i64 x.f1, .int .i64 x.f2, .string x.f3, .slice none 0 0] (fun g => w.heap.size ≤ g) (fun _ => False) rfl (by go_simp; done) (PA.k30_mkF _ _ (⟨x.f0, x.f1, x.f2, x.f3, []⟩ : Oi) (Nat.le_refl _) (Kd.F_nil _ _ _)) (fun _ hk => hk.elim) (fun g hg => Nat.le_trans hu (Nat.le_trans (Nat.le_of_lt (by simp [World.size_alloc])) hg)) (Kd.N_alloc HR.out.1 _) (HR.out.2.trans ((zh (Below.refl _ _) _).mono hu)) (by simp only [World.size_alloc]; omega) (by have := zg8 xs i; have := HK.out; omega) ?_; intro v1 w1 n1 hb1 hg1 ha1; have H1 := ak (And.intro n1 hb1); clear n1 hb1 hg1 ha1)
    have hlm := zu6 HX.out
    refine (IH.out x.f4 (by have := HM.out; omega) (by have := HK.out; omega) A4 c4 w1 (Kd.C_below H4.out.2 H1.out.2) H4.out.1).mono ?_
    rintro e w2 ⟨v2, rfl, n2, hb2⟩
    obtain ⟨A2, c2, rfl⟩ := Kd.N_slice n2
    have H2 := ak (And.intro n2 hb2)
    clear n2 hb2
    have htl := zsf HX.out
    rw [zlw] at htl
    have HT := ak htl
    clear htl
    go_wp2_with ((with_reducible refine zd9 (b := .append) (xs := #[.tmp 19, .tmp 21]) rfl ?_); at_builtin; refine Kd.N_append_rows ON (w0 := w) w.heap.size rfl (.tmp 19) (.tmp 21) 23 OT (.agg #[.int .i64 0, .int .i64 0, .int .i64 0, .string ⟨#[]⟩, .slice none 0 0]) 64 rfl Tryz.underlying23 PA.info30 rfl (by decide) (by decide) v1 (zb9 (xs.take i) ++ [(⟨x.f0, x.f1, x.f2, x.f3, []⟩ : Oi)]) (zb9 x.f4) A2 (zb9 x.f4).length c2 (fun g => w.heap.size ≤ g) (fun g => w1.heap.size ≤ g) rfl rfl (Kd.N_below H1.out.1 H2.out.2) (Kd.N_F H2.out.1) (fun g hg => ⟨Nat.le_trans H1.out.2.size hg, fun e => absurd (Kd.N_lt H1.out.1 g e.symm) (Nat.not_lt.2 hg)⟩) (fun g hg => Nat.le_trans H1.out.2.size (Nat.le_trans H2.out.2.size hg)) (H1.out.2.trans (H2.out.2.mono H1.out.2.size)) (Nat.le_trans H1.out.2.size H2.out.2.size) (by have := zg8 xs i; have := HK.out; simp only [List.length_append, List.length_singleton]; omega) ?_; intro v3 w3 n3 hb3 hg3 ha3; have H3 := ak (And.intro n3 hb3); clear n3 hb3 hg3 ha3)
    refine ⟨⟨i + 1, ?_, by omega, ?_⟩, ?_⟩
    ·first | rfl | simp [wi]
    ·rw [HT.out]
     refine ⟨?_, H3.out.2⟩
     have h := H3.out.1
     rw [List.append_assoc] at h
     exact h
    ·simp only [intOf]
     omega
   ·have i1 : ¬ (i : Int) < (xs.length : Int) := by omega
    go_wp2_with fail
    go_ret
    have e : xs.take i = xs := List.take_of_length_le (by omega)
    have h := HR.out
    rw [e] at h
    exact ⟨_, rfl, h.1, h.2⟩
def ex1 : ByteArray := ⟨#[115, 116, 114, 117, 99, 116, 32, 83, 32, 123, 32, 97, 58, 32, 105, 110, 116, 32, 125, 10, 101, 110, 117, 109, 32, 69, 32, 123, 32, 65, 44, 32, 66, 40, 105, 110, 116, 41, 32, 125]⟩
def ex2 : ByteArray := ⟨#[102, 110, 32, 102, 40, 41, 32, 123, 10, 125, 10, 102, 110, 32, 103, 40, 41, 32, 123, 32, 125]⟩
def exR : List Oi := [⟨3, 0, 19, (⟨#[83]⟩ : ByteArray), [⟨11, 11, 17, (⟨#[97]⟩ : ByteArray), []⟩]⟩, ⟨4, 20, 40, (⟨#[69]⟩ : ByteArray), [⟨12, 29, 30, (⟨#[65]⟩ : ByteArray), []⟩, ⟨12, 32, 38, (⟨#[66]⟩ : ByteArray), []⟩]⟩]
theorem zvc : itO (astN ex1) = exR := by kernel_rfl
theorem zxs : foO ex2 (astN ex2) = [⟨0, 7, 10⟩] := by kernel_rfl
theorem zw1 {W : World} {A : Option Addr} {xs : List Oi} {j : Nat} {x : Oi} (h : Kd.C ON W A xs.length xs) (hj : xs[j]? = some x) : ∃ ad A4 c4, A = some ad ∧ W.cell? (ad.add (j * 5)) = some (.int .i64 x.f0) ∧ W.cell? ⟨(ad.add (j * 5)).block, (ad.add (j * 5)).off + 3, none⟩ = some (.string x.f3) ∧ W.cell? ⟨(ad.add (j * 5)).block, (ad.add (j * 5)).off + 4, none⟩ = some (.slice A4 x.f4.length c4) ∧ Kd.C ON W A4 x.f4.length x.f4 := by
 have hlt := (List.getElem?_eq_some_iff.1 hj).1
 obtain ⟨ad, A4, c4, e, x0, x1, x2, x3, x4, hl4, h4⟩ := PA.at_T30 h (j : Int) (by omega) (by omega)
 have hxe : PA.rd_T30 xs (j : Int) = x := by simp [PA.rd_T30, hj]
 rw [hxe] at x0 x3 x4 h4
 simp only [Int.toNat_natCast] at x0 x3 x4
 exact ⟨ad, A4, c4, e, x0, x3, x4, h4⟩
theorem zb3 (w : World) (hS : Spc w) (hG : Glb w.heap.size w) : Calls Tryz.prog 8 #[] w fun e w' => e = .returned (.bool true) ∧ Below w.heap.size w w' := by
 have HS := ak (And.intro hS hG)
 clear hS hG
 go_enter Tryz.func8, Tryz.ntmps8
 go_wp2_with fail
 refine (zgu (s := ex1) (by decide) _ HS.out.1 HS.out.2).mono ?_
 rintro e W1 ⟨v1, rfl, n1, hb1⟩
 rw [zvc] at n1
 obtain ⟨A1, c1, rfl, hc1, k1⟩ := Kd.N_reads n1
 have hS1 := HS.out.1.below hb1
 have hG1 := (HS.out.2.keep (fun g h1 h2 => hb1.block g h1)).up hb1.size
 have H1 := ak (And.intro hS1 (And.intro hG1 (And.intro k1 (And.intro hc1 hb1))))
 clear hS1 hG1 n1 k1 hc1 hb1
 go_wp2_with fail
 refine (zlt (s := ex2) (by decide) _ H1.out.1 H1.out.2.1 ⟨0, 7, 10⟩ zxs).mono ?_
 rintro e W2 ⟨v2, rfl, n2, hb2⟩
 obtain ⟨A2, c2, rfl, hc2, k2⟩ := Kd.N_reads n2
 have k1 : Kd.C ON W2 A1 exR.length exR := Kd.C_below H1.out.2.2.1 hb2
 obtain ⟨ad, A10, c10, rfl, a0, a3, a4, k10⟩ := zw1 (j := 0) k1 rfl
 obtain ⟨ad', A11, c11, e, b0, b3, b4, k11⟩ := zw1 (j := 1) k1 rfl
 cases e
 obtain ⟨ad10, _, _, rfl, _, d3, _, _⟩ := zw1 (j := 0) k10 rfl
 obtain ⟨ad11, _, _, rfl, e0, _, _, _⟩ := zw1 (j := 1) k11 rfl
 obtain ⟨ad2, rfl, r0, r1, r2⟩ := PA.at_T36 k2 0 (by decide) (by decide)
 have H2 := ak (And.intro k1 (And.intro k2 hb2))
 have z0 : ∀ a : Addr, a.add 0 = a := fun a => rfl
 simp only [Nat.zero_mul, Nat.one_mul, z0, Int.toNat_zero] at a0 a3 a4 b0 b3 b4 d3 e0 r0 r1 r2
 replace b4 : W2.cell? ⟨ad.block, ad.off + 5 + 4, none⟩ = _ := b4
 replace e0 : W2.cell? ⟨ad11.block, ad11.off + 5, none⟩ = _ := e0
 clear b0 b3
 clear n2 k1 k2 hb2 k10 k11
 have HF := zf5 10 exR (by decide) (by decide)
 go_wp2_with fail
 refine (HF _ _ _ H2.out.1 H1.out.2.2.2.1).mono ?_
 rintro e W3 ⟨v3, rfl, n3, hb3⟩
 obtain ⟨A3, c3, rfl⟩ := Kd.N_slice n3
 replace r0 := (hb3.cell (World.block_lt_of_cell? W2 _ r0)).trans r0
 replace r1 := (hb3.cell (World.block_lt_of_cell? W2 _ r1)).trans r1
 replace r2 := (hb3.cell (World.block_lt_of_cell? W2 _ r2)).trans r2
 have H3 := ak hb3
 have e5 : (zb9 exR).length = 5 := rfl
 rw [e5]
 clear n3 hb3 a0 a3 a4 b4 d3 e0 e5
 go_wp2_with fail
 go_ret
 have h12 := H1.out.2.2.2.2.trans (H2.out.2.2.mono H1.out.2.2.2.2.size)
 exact ⟨rfl, h12.trans (H3.out.mono h12.size)⟩
theorem zzl (a b : Int) : (a == b) = decide (a = b) := by rw [Bool.eq_iff_iff, beq_iff_eq, decide_eq_true_iff]
theorem zy4 {α : Type} {l : List α} {i : Nat} (h : i < l.length) (hl : l.length ≤ 4611686018427387904) : (0 : Int) ≤ (i : Int) ∧ (i : Int) < (l.length : Int) ∧ IntKind.i64.wrap ((i : Int) + 1) = (i : Int) + 1 ∧ ∃ x, l[i]? = some x := ⟨by omega, by omega, by rw [IntKind.wrap_i64]; omega, _, List.getElem?_eq_getElem h⟩
def shO (d : Int) (o : Oi) : Oi := ⟨o.f0, o.f1 + d, o.f2 + d, o.f3, []⟩
mutual
theorem z0s (d : Int) : ∀ (n : Nd), Inn n → 0 ≤ n.f3 → zb9 (itO (shN d n)) = (zb9 (itO n)).map (shO d)
 | ⟨k, v, t, a, b, x, ks⟩, h, h0 => by
  simp only [Inn] at h
  have h1 := InnL.le h
  have h0' : 0 ≤ a := h0
  have hk := zu1 d ks a b h h0
  have hb : ¬ b < 0 := by omega
  simp only [shN, itO, if_neg hb]
  split
  ·exact hk
  ·simp only [zb9, zpp, hk, List.append_nil, List.map_cons, shO]
theorem zu1 (d : Int) : ∀ (ks : List Nd) (a b : Int), InnL ks a b → 0 ≤ a → zb9 (itL (shL d ks)) = (zb9 (itL ks)).map (shO d)
 | [], a, b, h, h0 => rfl
 | c :: cs, a, b, h, h0 => by
  simp only [InnL] at h
  obtain ⟨h1, h2, h3⟩ := h
  have h4 := InnL.le (Inn.iff.1 h2)
  simp only [shL, itL, zdf, List.map_append, z0s d c h2 (by omega), zu1 d cs c.f4 b h3 (by omega)]
end
mutual
theorem z0t : ∀ (n : Nd), Inn n → ∀ o ∈ zb9 (itO n), n.f3 ≤ o.f1 ∧ o.f1 ≤ o.f2 ∧ o.f2 ≤ n.f4
 | ⟨k, v, t, a, b, x, ks⟩, h, o, ho => by
  simp only [Inn] at h
  have h1 := InnL.le h
  simp only [itO] at ho
  split at ho
  ·exact zlu ks a b h o ho
  ·simp only [zb9, zpp, List.append_nil, List.mem_cons] at ho
   rcases ho with rfl | ho
   ·exact ⟨Int.le_refl _, h1, Int.le_refl _⟩
   ·exact zlu ks a b h o ho
theorem zlu : ∀ (ks : List Nd) (a b : Int), InnL ks a b → ∀ o ∈ zb9 (itL ks), a ≤ o.f1 ∧ o.f1 ≤ o.f2 ∧ o.f2 ≤ b
 | [], a, b, h, o, ho => by
  have ho' : o ∈ ([] : List Oi) := ho
  cases ho'
 | c :: cs, a, b, h, o, ho => by
  simp only [InnL] at h
  obtain ⟨h1, h2, h3⟩ := h
  have h4 := InnL.le (Inn.iff.1 h2)
  have h5 := InnL.le h3
  simp only [itL, zdf, List.mem_append] at ho
  rcases ho with ho | ho
  ·have := z0t c h2 o ho
   omega
  ·have := zlu cs c.f4 b h3 o ho
   omega
end
theorem zlv : ∀ (xs : List Oi), (zb9 xs).length = cntI xs
 | [] => by simp only [zb9, cntI, List.length_nil]
 | ⟨a, b, c, e, ks⟩ :: xs => by
  have h1 := zlv ks
  have h2 := zlv xs
  simp only [zb9, zpp, cntI, List.length_append, List.length_cons, h1, h2]
  omega
structure Gw (w : World) : Prop where
 spc : Spc w
 glb : Glb w.heap.size w
theorem Gw.below {w w' : World} (h : Gw w) (hb : Below w.heap.size w w') : Gw w' := ⟨h.spc.below hb, (h.glb.keep (fun g h1 h2 => hb.block g h1)).up hb.size⟩
theorem zxf {s : ByteArray} (hs : s.size ≤ 2000) : itO (astN s) = itL (astN s).f6 := by
 rw [zyf, (zc5 hs).2.2.2, if_pos (by decide)]
def its (s : ByteArray) : List Oi := if s.size ≤ 2000 then itL (astN s).f6 else []
def ern (s : ByteArray) : Int := if s.size ≤ 2000 then 0 else 2
def cln (s : ByteArray) : Bool := decide (s.size ≤ 2000) && decide (astD s = [])
theorem zfv (s : ByteArray) : (zb9 (its s)).length ≤ 60001 := by
 unfold its
 split
 ·rename_i hs
  have h1 := (zc5 hs).1
  have hc := zpj (astN s).f6
  rw [zfi] at h1
  rw [zlv]
  omega
 ·exact Nat.zero_le _
theorem zlk {w : World} {A : Option Addr} {xs : List Oi} {i : Nat} {x : Oi} (h : Kd.C ON w A xs.length xs) (hx : xs[i]? = some x) : ∃ ad A4 c4, A = some ad ∧ w.cell? (ad.add (i * 5)) = some (.int .i64 x.f0) ∧ w.cell? ⟨(ad.add (i * 5)).block, (ad.add (i * 5)).off + 1, none⟩ = some (.int .i64 x.f1) ∧ w.cell? ⟨(ad.add (i * 5)).block, (ad.add (i * 5)).off + 2, none⟩ = some (.int .i64 x.f2) ∧ w.cell? ⟨(ad.add (i * 5)).block, (ad.add (i * 5)).off + 3, none⟩ = some (.string x.f3) ∧ w.cell? ⟨(ad.add (i * 5)).block, (ad.add (i * 5)).off + 4, none⟩ = some (.slice A4 x.f4.length c4) ∧ x.f4.length ≤ c4 ∧ Kd.C ON w A4 x.f4.length x.f4 := by
 have hlt := (List.getElem?_eq_some_iff.1 hx).1
 have hxe : PA.rd_T30 xs (i : Int) = x := by simp [PA.rd_T30, hx]
 have := PA.at_T30 h (i : Int) (by omega) (by omega)
 rw [hxe] at this
 simpa only [Int.toNat_natCast] using this
theorem zye (s : ByteArray) : ∀ o ∈ zb9 (its s), 0 ≤ o.f1 ∧ o.f1 ≤ 2000 ∧ 0 ≤ o.f2 ∧ o.f2 ≤ 2000 := by
 unfold its
 split
 ·rename_i hs
  intro o ho
  have := zlu _ _ _ (zc5 hs).2.1 o ho
  omega
 ·intro o ho
  have ho' : o ∈ ([] : List Oi) := ho
  cases ho'
theorem zuw (a b : ByteArray) : (a ++ (⟨#[10]⟩ : ByteArray) ++ b).data.toList = a.data.toList ++ 10 :: b.data.toList := by simp
theorem zux {a b : ByteArray} (ha : cln a = true) (hb : cln b = true) (hj : ern (a ++ (⟨#[10]⟩ : ByteArray) ++ b) = 0) : zb9 (its (a ++ (⟨#[10]⟩ : ByteArray) ++ b)) = zb9 (its a) ++ (zb9 (its b)).map (shO ((a.size : Int) + 1)) := by
 unfold cln at ha hb
 rw [Bool.and_eq_true, decide_eq_true_eq, decide_eq_true_eq] at ha hb
 have hs : (a ++ (⟨#[10]⟩ : ByteArray) ++ b).size ≤ 2000 := by
  unfold ern at hj
  split at hj
  ·assumption
  ·cases hj
 have h := zr7 (zuw a b) hs ha.2 hb.2
 unfold its
 rw [if_pos hs, if_pos ha.1, if_pos hb.1, h, zkn, zdf]
 congr 1
 exact zu1 _ _ 0 _ (zc5 hb.1).2.1 (Int.le_refl _)
theorem zho (s : ByteArray) (w : World) (hS : Spc w) (hG : Glb w.heap.size w) :
  Calls Tryz.prog 9 #[.string s] w fun e w' => ∃ v, e = .returned (.tuple #[v, .int .i64 (ern s)]) ∧ Kd.N ON OT w' w.heap.size (fun g => w.heap.size ≤ g) v (its s) ∧ Below w.heap.size w w' := by
 by_cases hs : s.size ≤ 2000
 ·refine (zgu hs w hS hG).mono ?_
  rintro e w' ⟨v, rfl, n, hb⟩
  unfold its ern
  rw [if_pos hs, if_pos hs]
  rw [zxf hs] at n
  exact ⟨v, rfl, n, hb⟩
 ·refine (zib (by omega) w).mono ?_
  rintro e w' ⟨rfl, hb⟩
  unfold its ern
  rw [if_neg hs, if_neg hs]
  exact ⟨_, rfl, Kd.N_nil _ _ _ _ _, hb⟩
theorem zjp (s : ByteArray) (w : World) (hS : Spc w) (hG : Glb w.heap.size w) :
  Calls Tryz.prog 10 #[.string s] w fun e w' => e = .returned (.bool (cln s)) ∧ Below w.heap.size w w' := by
 have HS := ak (And.intro hS hG)
 clear hS hG
 by_cases hs : s.size ≤ 2000
 ·have hc : ((((astD s).length : Nat) : Int) == 0) = cln s := by
   unfold cln
   rw [decide_eq_true hs, Bool.true_and, zzl]
   simp only [decide_eq_decide, Int.natCast_eq_zero, List.length_eq_zero_iff]
  have HC := ak hc
  clear hc
  go_enter Tryz.func10, Tryz.ntmps10
  go_wp2_with fail
  refine (zjr hs _ HS.out.1 HS.out.2).mono ?_
  rintro e W2 ⟨hd, F, dv, rfl, ar, dg, hb⟩
  obtain ⟨dA, dc, rfl⟩ := Par.za3 dg
  obtain ⟨A, c, rfl⟩ : ∃ A c, hd = .slice A (astN s).f6.length c := by
   obtain ⟨_, _, ho, _, _⟩ := ar
   exact Par.za3 ho
  have K2 := ak hb
  clear ar dg hb
  go_wp2_with fail
  go_ret
  exact ⟨by rw [← HC.out]; rfl, K2.out.trans ((zh (Below.refl _ _) _).mono K2.out.size)⟩
 ·have hc : cln s = false := by unfold cln; rw [decide_eq_false hs]; rfl
  rw [hc]
  go_enter Tryz.func10, Tryz.ntmps10
  go_wp2_with fail
  refine (zh8 (by omega) _).mono ?_
  rintro e W2 ⟨rfl, hb⟩
  have K2 := ak hb
  clear hb
  go_wp2_with fail
  go_ret
  exact ⟨rfl, K2.out.trans ((zh (Below.refl _ _) _).mono K2.out.size)⟩
def Mk {α : Type} (d : Kd α) (e : Nat) (w0 W : World) (v : Value) (xs : List α) : Prop := Kd.N d e W w0.heap.size (fun g => w0.heap.size ≤ g) v xs ∧ Below w0.heap.size w0 W
end Go.Proofs.YtmoelofaojgjfaaGreatDoor.Par
namespace Go.Proofs.YtmoelofaojgjfaaGreatDoor.Par
open Go.RowKit Go.Proofs.YtmoelofaojgjfaaGreatDoorW.PrintWords Go.Proofs.YtmoelofaojgjfaaGreatDoorW.PrintLast
variable {α : Type} {d : Kd α} {e : Nat} {w0 w1 W W' : World} {v : Value} {xs ys : List α}
theorem Mk.nil (d : Kd α) (e : Nat) (w : World) : Mk d e w w (.slice none 0 0) [] := ⟨Kd.N_nil _ _ _ _ _, Below.refl _ _⟩
theorem Mk.below (h : Mk d e w0 W v xs) (hb : Below W.heap.size W W') : Mk d e w0 W' v xs := ⟨Kd.N_below h.1 hb, h.2.trans (hb.mono h.2.size)⟩
theorem Mk.reads (h : Mk d e w0 W v xs) : ∃ A c, v = .slice A xs.length c ∧ xs.length ≤ c ∧ d.C W A xs.length xs := Kd.N_reads h.1
theorem Mk.up (h : Mk d e w1 W v xs) (hb : Below w0.heap.size w0 w1) : Mk d e w0 W v xs := ⟨Kd.N_mono (Kd.N_lower h.1 hb.size) (fun _ hg => Nat.le_trans hb.size hg), hb.trans (h.2.mono hb.size)⟩
end Go.Proofs.YtmoelofaojgjfaaGreatDoor.Par
namespace Go.Proofs.YtmoelofaojgjfaaGreatDoor.Par
open Go.RowKit Go.Proofs.YtmoelofaojgjfaaGreatDoorW.PrintWords Go.Proofs.YtmoelofaojgjfaaGreatDoorW.PrintLast
theorem zl8 {w : World} {a : Addr} {v : Value} (h : w.cell? a = some v) (o : Obj) : (w.alloc o).cell? a = some v := ((zh (Below.refl _ _) o).cell (World.block_lt_of_cell? w _ h)).trans h
def upTo (n k : Nat) : Array Bool := (List.replicate k true ++ List.replicate (n - k) false).toArray
end Go.Proofs.YtmoelofaojgjfaaGreatDoor.Par
namespace Go.Proofs.YtmoelofaojgjfaaGreatDoor.Par
open Go.RowKit Go.Proofs.YtmoelofaojgjfaaGreatDoorW.PrintWords Go.Proofs.YtmoelofaojgjfaaGreatDoorW.PrintLast
variable {P : Program} {md : Region.Mode} {ops : Array Oper} {Q : Exit → Act → World → Prop} {S : World → Prop} {ds : List Nat}
theorem st_ {id n : Nat} {a : Act} {w : World} (hm : P.follows .mixedOrders = true) (hn : ops.size = n) (hS : S w.drew) (h : S w.drew → zau P .any ops Q S ds n (upTo n 0) a w.drew) : (Code.region id ops true).wp P Q a w :=
 zc7 (upTo n 0) hm hn (by simp [upTo]) hS h
theorem nx_ {n k : Nat} {N : Option Tmp} {oi : Oper} {fuel : Nat} {a : Act} {w : World} (hi : ops[k]? = some oi) (hN : oi.dst = N) (hc : zyz md ops ds (upTo n k) (upTo n (k + 1)) k = true) (hQ : ∀ v c a w, Q (.panic c) (a.put oi.dst v) w → Q (.panic c) a w) (hS : S w)
  (hw : Region.wanted oi (yielded ops a.tmps) = true)
  (h : ∀ K : Act → Prop, (∀ a', zau P md ops Q S ds fuel (upTo n (k + 1)) a' w → K a') → ∃ v, (∀ w', S w' → (execOp a.eval oi).run P w' = .ok (.value v) w') ∧ K (a.put N v)) : zau P md ops Q S ds (fuel + 1) (upTo n k) a w := by
 obtain ⟨v, h1, h2⟩ := h (fun a' => zau P md ops Q S ds fuel (upTo n (k + 1)) a' w) (fun a' h => h)
 exact take_ (upTo n (k + 1)) hi hN hc (hQ v) (.inl ⟨hw, h1⟩) hS rfl h2
theorem ls_ {n k : Nat} {N : Option Tmp} {oi : Oper} {fuel : Nat} {a : Act} {w : World} (hi : ops[k]? = some oi) (hN : oi.dst = N) (hc : zmu md ops (upTo n k) (upTo n (k + 1)) k = true) (hd : k ∈ ds)
  (h : ∀ K : Act → World → Prop, Shut (∀ a' w', zau P md ops Q S ds fuel (upTo n (k + 1)) a' w' → K a' w') → if Region.wanted oi (yielded ops a.tmps) = true then Oper.wp P oi a w K Q else K (a.put N undef) w) : zau P md ops Q S ds (fuel + 1) (upTo n k) a w := z10 (upTo n (k + 1)) hi hN hc hd h
end Go.Proofs.YtmoelofaojgjfaaGreatDoor.Par
namespace Go.Proofs.YtmoelofaojgjfaaGreatDoor.Par
open Go.RowKit Go.Proofs.YtmoelofaojgjfaaGreatDoorW.PrintWords Go.Proofs.YtmoelofaojgjfaaGreatDoorW.PrintLast
theorem zpv (s : ByteArray) : ern s = 0 ∨ ern s = 2 := by
 unfold ern
 split
 ·exact .inl rfl
 ·exact .inr rfl
theorem zn8 (a b : ByteArray) (w : World) (hG : Gw w) (ha : a.size ≤ 140737488351232) (hb : b.size ≤ 140737488351232) : Calls Tryz.prog 3 #[.string a, .string b] w fun e w' => e = .returned (.bool true) ∧ Below w.heap.size w w' := by
 have H0 := ak hG
 have g1 : ¬ 9223372036854775807 < a.size + 1 := by omega
 have g2 : ¬ 9223372036854775807 < a.size + 1 + b.size := by omega
 have HS := ak (And.intro ha hb)
 clear hG ha hb
 go_enter Tryz.func3, Tryz.ntmps3
 go_wp2_with fail
 refine (zb3 _ H0.out.spc H0.out.glb).mono ?_
 rintro e W1 ⟨rfl, hb1⟩
 have H1 := ak (And.intro (H0.out.below hb1) hb1)
 clear hb1
 go_wp2_with fail
 refine (zho a _ H1.out.1.spc H1.out.1.glb).mono ?_
 rintro e W2 ⟨v2, rfl, n2, hb2⟩
 obtain ⟨A2, c2, rfl, hc2, k2⟩ := Kd.N_reads n2
 have H2 := ak (And.intro (H1.out.1.below hb2) (And.intro k2 (And.intro hc2 (H1.out.2.trans (hb2.mono H1.out.2.size)))))
 clear n2 k2 hb2 hc2
 go_wp2_with fail
 refine (zho b _ H2.out.1.spc H2.out.1.glb).mono ?_
 rintro e W3 ⟨v3, rfl, n3, hb3⟩
 obtain ⟨A3, c3, rfl, hc3, k3⟩ := Kd.N_reads n3
 have H3 := ak (And.intro (H2.out.1.below hb3) (And.intro (Kd.C_below H2.out.2.1 hb3) (And.intro k3 (And.intro hc3 (H2.out.2.2.2.trans (hb3.mono H2.out.2.2.2.size))))))
 clear n3 k3 hb3 hc3
 go_wp2_with fail
 refine (zho (a ++ (⟨#[10]⟩ : ByteArray) ++ b) _ H3.out.1.spc H3.out.1.glb).mono ?_
 rintro e W4 ⟨v4, rfl, n4, hb4⟩
 obtain ⟨j, hj⟩ : ∃ j, a ++ (⟨#[10]⟩ : ByteArray) ++ b = j := ⟨_, rfl⟩
 have HF := ak (fun h1 h2 h3 => zux (a := a) (b := b) h1 h2 h3)
 rw [hj] at n4 HF ⊢
 obtain ⟨A4, c4, rfl, hc4, k4⟩ := Kd.N_reads n4
 have H4 := ak (And.intro (H3.out.1.below hb4) (And.intro (Kd.C_below H3.out.2.1 hb4) (And.intro (Kd.C_below H3.out.2.2.1 hb4) (And.intro k4 (And.intro hc4 (H3.out.2.2.2.2.trans (hb4.mono H3.out.2.2.2.2.size)))))))
 clear n4 k4 hb4 hc4 hj
 rcases zpv a with ea | ea
 ·rw [ea]
  clear ea
  rcases zpv b with eb | eb
  ·rw [eb]
   clear eb
   rcases zpv j with ej | ej
   ·rw [ej]
    have HJ := ak ej
    clear ej
    go_wp2_with fail
    refine (zjp a _ H4.out.1.spc H4.out.1.glb).mono ?_
    rintro e W5 ⟨rfl, hb5⟩
    have H5 := ak (And.intro (H4.out.1.below hb5) hb5)
    clear hb5
    cases ca : cln a
    ·go_wp2_with fail
     refine (zb3 _ H5.out.1.spc H5.out.1.glb).mono ?_
     rintro e W6 ⟨rfl, hb6⟩
     have H6 := ak hb6
     clear hb6
     go_wp2_with fail
     go_ret
     exact ⟨rfl, H4.out.2.2.2.2.2.trans ((H5.out.2.trans (H6.out.mono H5.out.2.size)).mono H4.out.2.2.2.2.2.size)⟩
    ·go_wp2_with fail
     refine (zjp b _ H5.out.1.spc H5.out.1.glb).mono ?_
     rintro e W6 ⟨rfl, hb6⟩
     have H6 := ak (And.intro (H5.out.1.below hb6) (H5.out.2.trans (hb6.mono H5.out.2.size)))
     clear hb6
     cases cb : cln b
     ·go_wp2_with fail
      refine (zb3 _ H6.out.1.spc H6.out.1.glb).mono ?_
      rintro e W7 ⟨rfl, hb7⟩
      have H7 := ak hb7
      clear hb7
      go_wp2_with fail
      go_ret
      exact ⟨rfl, H4.out.2.2.2.2.2.trans ((H6.out.2.trans (H7.out.mono H6.out.2.size)).mono H4.out.2.2.2.2.2.size)⟩
     ·have HL := ak (HF.out ca cb HJ.out)
      clear ca cb HF HJ
      go_wp2_with fail
      have HX := ak (zf5 100000 (its a) (by have := zfv a; omega) (by have := zfv a; omega))
      have HY := ak (zf5 100000 (its b) (by have := zfv b; omega) (by have := zfv b; omega))
      have HZ := ak (zf5 100000 (its j) (by have := zfv j; omega) (by have := zfv j; omega))
      have hbb := H4.out.2.2.2.2.2.trans (H6.out.2.mono H4.out.2.2.2.2.2.size)
      refine (HX.out A2 c2 _ (Kd.C_below H4.out.2.1 H6.out.2) H2.out.2.2.1).mono ?_
      rintro e W7 ⟨v7, rfl, n7, hb7⟩
      obtain ⟨A7, c7, rfl, hc7, k7⟩ := Kd.N_reads n7
      have H7 := ak (And.intro k7 (And.intro hbb hb7))
      clear n7 k7 hb7 hc7 hbb
      go_wp2_with fail
      refine (HY.out A3 c3 _ (Kd.C_below H4.out.2.2.1 (H6.out.2.trans (H7.out.2.2.mono H6.out.2.size))) H3.out.2.2.2.1).mono ?_
      rintro e W8 ⟨v8, rfl, n8, hb8⟩
      obtain ⟨A8, c8, rfl, hc8, k8⟩ := Kd.N_reads n8
      have H8 := ak (And.intro k8 (H7.out.2.2.trans (hb8.mono H7.out.2.2.size)))
      have k7 := Kd.C_below H7.out.1 hb8
      clear n8 k8 hb8 hc8
      go_wp2_with fail
      refine (HZ.out A4 c4 _ (Kd.C_below H4.out.2.2.2.1 (H6.out.2.trans (H8.out.2.mono H6.out.2.size))) H4.out.2.2.2.2.1).mono ?_
      rintro e W9 ⟨v9, rfl, n9, hb9⟩
      obtain ⟨A9, c9, rfl, hc9, k9⟩ := Kd.N_reads n9
      have H9 := ak (And.intro (H6.out.1.below (H8.out.2.trans (hb9.mono H8.out.2.size))) (And.intro (Kd.C_below k7 hb9) (And.intro (Kd.C_below H8.out.1 hb9) (And.intro k9 (H7.out.2.1.trans ((H8.out.2.trans (hb9.mono H8.out.2.size)).mono H7.out.2.1.size))))))
      clear n9 k9 hb9 hc9 k7
      have lx := zfv a
      have ly := zfv b
      obtain ⟨X, hX⟩ : ∃ X, zb9 (its a) = X := ⟨_, rfl⟩
      obtain ⟨Y, hY⟩ : ∃ X, zb9 (its b) = X := ⟨_, rfl⟩
      obtain ⟨Z, hZ⟩ : ∃ X, zb9 (its j) = X := ⟨_, rfl⟩
      rw [hX, hY, hZ] at HL
      rw [hX, hY, hZ] at H9
      have bx := ak (zye a)
      have by_ := ak (zye b)
      rw [hX] at lx bx
      rw [hY] at ly by_
      rw [hX, hY, hZ]
      have lz : Z.length = X.length + Y.length := by rw [HL.out, List.length_append, List.length_map]
      have wz : IntKind.i64.wrap ((X.length : Int) + (Y.length : Int)) = (Z.length : Int) := by rw [IntKind.wrap_i64]; omega
      have HLz := ak lz
      clear lz
      clear hX hY hZ HX HY HZ H1 H2 H3 H4 H6 H7 H8 H0
      go_wp2_with fail
      go_loopw [14] (fun z wr => ∃ i : Nat, z = .int .i64 (i : Int) ∧ i ≤ Z.length ∧ zar (Below W9.heap.size W9 wr)) (fun z _ => Z.length - (intOf z).toNat)
      case atStart => exact ⟨0, rfl, Nat.zero_le _, ⟨Below.refl _ _⟩⟩
      case round =>
       obtain ⟨i, rfl, hi, HR⟩ := hrel
       by_cases hlt : i < Z.length
       ·obtain ⟨i0, i1, wi, z, hz⟩ := zy4 hlt (by have := HLz.out; omega)
        obtain ⟨adz, Az, cz, rfl, z0, z1, z2, z3, z4, hlz, hCz⟩ := zlk (Kd.C_below H9.out.2.2.2.1 HR.out) hz
        have HZ := ak (And.intro hz hlz)
        clear hz hlz hCz z4
        by_cases hx : i < X.length
        ·obtain ⟨j0, j1, wj, x, hx2⟩ := zy4 hx (by omega)
         obtain ⟨adx, Ax, cx, rfl, x0, x1, x2, x3, x4, hlx, hCx⟩ := zlk (Kd.C_below H9.out.2.1 HR.out) hx2
         have hzx : z = x := by
          have := HZ.out.1
          rw [HL.out, List.getElem?_append_left hx, hx2] at this
          injection this with this
          exact this.symm
         subst hzx
         have u := fun {a v} (h : wr.cell? a = some v) => zl8 h (.cells #[.int .i64 0, .int .i64 0, .int .i64 0, .string ⟨#[]⟩, .slice none 0 0] 30)
         replace x0 := u x0
         replace x1 := u x1
         replace x2 := u x2
         replace x3 := u x3
         replace x4 := u x4
         have v := fun {a v} (h : wr.cell? a = some v) => zl8 h (.cells #[.int .i64 z.f0, .int .i64 z.f1, .int .i64 z.f2, .string z.f3, .slice Ax z.f4.length cx] 30)
         replace z0 := v z0
         replace z1 := v z1
         replace z2 := v z2
         replace z3 := v z3
         have bz := bx.out z (List.mem_of_getElem? hx2)
         have w1 : IntKind.i64.wrap (z.f1 + 0) = z.f1 := by rw [IntKind.wrap_i64]; omega
         have w2 : IntKind.i64.wrap (z.f2 + 0) = z.f2 := by rw [IntKind.wrap_i64]; omega
         have w1' : IntKind.i64.wrap z.f1 = z.f1 := by rw [IntKind.wrap_i64]; omega
         have w2' : IntKind.i64.wrap z.f2 = z.f2 := by rw [IntKind.wrap_i64]; omega
         clear bz
         clear hx2 hlx hCx u v
         go_wp2_with fail
         go_quiet (fail)
         go_wp2_with fail
         refine ⟨⟨i + 1, by simp, by omega, ⟨HR.out.trans ((za0 (zh (Below.refl _ _) _) _).mono HR.out.size)⟩⟩, by simp only [intOf]; omega⟩
        ·obtain ⟨k, rfl⟩ : ∃ k, i = X.length + k := ⟨i - X.length, by omega⟩
         have hky : k < Y.length := by have := HLz.out; omega
         obtain ⟨j0, j1, wj, y, hy2⟩ := zy4 hky (by omega)
         obtain ⟨ady, Ay, cy, rfl, x0, x1, x2, x3, x4, hly, hCy⟩ := zlk (Kd.C_below H9.out.2.2.1 HR.out) hy2
         obtain ⟨d, hd⟩ : ∃ d : Int, (a.size : Int) + 1 = d := ⟨_, rfl⟩
         have hzy : z = ⟨y.f0, y.f1 + d, y.f2 + d, y.f3, []⟩ := by
          have := HZ.out.1
          rw [HL.out, List.getElem?_append_right (Nat.le_add_right _ _), Nat.add_sub_cancel_left, List.getElem?_map, hy2] at this
          injection this with this
          rw [← this, ← hd]
          rfl
         subst hzy
         have bz := by_.out y (List.mem_of_getElem? hy2)
         have hs := HS.out
         have wk : IntKind.i64.wrap ((X.length : Int) + (k : Int) - (X.length : Int)) = (k : Int) := by rw [IntKind.wrap_i64]; omega
         have wd : IntKind.i64.wrap ((a.size : Int) + 1) = d := by rw [IntKind.wrap_i64]; omega
         have w1 : IntKind.i64.wrap (y.f1 + d) = y.f1 + d := by rw [IntKind.wrap_i64]; omega
         have w2 : IntKind.i64.wrap (y.f2 + d) = y.f2 + d := by rw [IntKind.wrap_i64]; omega
         have nx : ¬ ((X.length + k : Nat) : Int) < (X.length : Int) := by omega
         have u := fun {a v} (h : wr.cell? a = some v) => zl8 h (.cells #[.int .i64 0, .int .i64 0, .int .i64 0, .string ⟨#[]⟩, .slice none 0 0] 30)
         replace x0 := u x0
         replace x1 := u x1
         replace x2 := u x2
         replace x3 := u x3
         replace x4 := u x4
         have v := fun {a v} (h : wr.cell? a = some v) => zl8 h (.cells #[.int .i64 y.f0, .int .i64 y.f1, .int .i64 y.f2, .string y.f3, .slice Ay y.f4.length cy] 30)
         replace z0 := v z0
         replace z1 := v z1
         replace z2 := v z2
         replace z3 := v z3
         dsimp only at z0 z1 z2 z3
         clear bz hs hd
         clear hy2 hly hCy u v
         go_wp2_with fail
         refine st_ (n := 12) (ds := [11]) (S := fun w' => w'.cell? (ady.add (k * 5)) = some (.int .i64 y.f0) ∧ w'.cell? ⟨(ady.add (k * 5)).block, (ady.add (k * 5)).off + 1, none⟩ = some (.int .i64 y.f1) ∧ w'.cell? ⟨(ady.add (k * 5)).block, (ady.add (k * 5)).off + 2, none⟩ = some (.int .i64 y.f2) ∧ w'.cell? ⟨(ady.add (k * 5)).block, (ady.add (k * 5)).off + 3, none⟩ = some (.string y.f3) ∧ w'.cell? ⟨(ady.add (k * 5)).block, (ady.add (k * 5)).off + 4, none⟩ = some (.slice Ay y.f4.length cy)) (by kernel_rfl) rfl ⟨x0, x1, x2, x3, x4⟩ (fun hS => ?_)
         iterate 11
          refine nx_ rfl rfl (by kernel_rfl) (fun _ _ _ _ h => h) hS (by kernel_rfl) (fun K hK => ⟨?_, ?_, hK _ ?_⟩)
          rotate_left
          ·rintro w' ⟨q0, q1, q2, q3, q4⟩; go_simp; try rfl
          simp only [Act.put, sia, List.set]
         have bk := zaj wr (.cells #[.int .i64 0, .int .i64 0, .int .i64 0, .string ⟨#[]⟩, .slice none 0 0] 30 (0, 0))
         refine ls_ rfl rfl (by kernel_rfl) (by decide) (fun K hK => ?_)
         go_simp
         refine hK.out _ _ ?_
         clear hK
         refine zq (by kernel_rfl) ?_ _
         go_wp2_with fail
         go_quiet (fail)
         go_wp2_with fail
         refine ⟨⟨X.length + k + 1, by simp, by omega, ⟨HR.out.trans ((za0 (zh (Below.refl _ _) _) _).mono HR.out.size)⟩⟩, by simp only [intOf]; omega⟩
       ·have i1 : ¬ (i : Int) < (Z.length : Int) := by omega
        go_wp2_with fail
        refine (zb3 _ (H9.out.1.below HR.out).spc (H9.out.1.below HR.out).glb).mono ?_
        rintro e W10 ⟨rfl, hb10⟩
        have H10 := ak (HR.out.trans (hb10.mono HR.out.size))
        clear hb10
        go_wp2_with fail
        go_ret
        exact ⟨rfl, H9.out.2.2.2.2.trans (H10.out.mono H9.out.2.2.2.2.size)⟩
   ·rw [ej]
    clear ej
    go_wp2_with fail
    refine (zb3 _ H4.out.1.spc H4.out.1.glb).mono ?_
    rintro e W5 ⟨rfl, hb5⟩
    have H5 := ak hb5
    clear hb5
    go_wp2_with fail
    go_ret
    exact ⟨rfl, H4.out.2.2.2.2.2.trans (H5.out.mono H4.out.2.2.2.2.2.size)⟩
  ·rw [eb]
   clear eb
   go_wp2_with fail
   refine (zb3 _ H4.out.1.spc H4.out.1.glb).mono ?_
   rintro e W5 ⟨rfl, hb5⟩
   have H5 := ak hb5
   clear hb5
   go_wp2_with fail
   go_ret
   exact ⟨rfl, H4.out.2.2.2.2.2.trans (H5.out.mono H4.out.2.2.2.2.2.size)⟩
 ·rw [ea]
  clear ea
  go_wp2_with fail
  refine (zb3 _ H4.out.1.spc H4.out.1.glb).mono ?_
  rintro e W5 ⟨rfl, hb5⟩
  have H5 := ak hb5
  clear hb5
  go_wp2_with fail
  go_ret
  exact ⟨rfl, H4.out.2.2.2.2.2.trans (H5.out.mono H4.out.2.2.2.2.2.size)⟩
theorem ze8 (a0 a1 : ByteArray) (h0 : a0.size ≤ 140737488351232) (h1 : a1.size ≤ 140737488351232) (W : World) (hG : Gw W) : Calls Tryz.prog 3 #[.string a0, .string a1] W fun e w' => e = .returned (.bool true) ∧ Below W.heap.size W w' := zn8 a0 a1 W hG h0 h1
end Go.Proofs.YtmoelofaojgjfaaGreatDoor.Par
