/- Packed texts, part 6: contracts and plain lemmas towards outlineProperlyNested_holds. -/
import Derived.Test.YtkijamagbgigmaaGreatDoorQ5
import Derived.StillTailTactics
import Derived.Deep.RegionHeld3
set_option maxHeartbeats 8000000
set_option maxRecDepth 1000000
set_option linter.unusedVariables false
set_option linter.unusedSimpArgs false
namespace Go.Proofs.YtkijamagbgigmaaGreatDoor.Par
open Go.RowKit Go.Proofs.YtkijamagbgigmaaGreatDoorW.PrintWords Go.Proofs.YtkijamagbgigmaaGreatDoorW.PrintLast
variable {B : Nat} {T : List Tok} {tv : Value} {pb : Nat} {low : List Tree} {kd : Int} {tx : ByteArray} {W0 : World} {F0 : List Nat}
theorem pattern_go  {k : Nat}  (ih : ∀ i, i < k → IH B T tv pb i) : Meth B T tv pb k .pattern 195 #[.pointer (some ⟨pb, 0, none⟩)] (fun _ => .tuple #[]) := by
 intro m low kd tx W0 F0 W s q hm hlow N hr
 obtain ⟨j, rfl, h1, h2, h3⟩ := run_some hr
 have H0 := ak (N.fit h1)
 have E0 := ak h2
 have G := ak h3
 have HL := ak hlow
 have RUN := ak hr
 clear N h1 h2 h3 hr hlow
 go_enter Tryz.func195, Tryz.ntmps195
 go_wp2_with fail
 obtain ⟨WB, hWB⟩ : ∃ WB, (W.alloc (.cells #[.pointer (some ⟨pb, 0, none⟩)] 74)) = WB := ⟨_, rfl⟩
 have hbl : Below W.heap.size W WB := by rw [← hWB]; exact (below_alloc (Below.refl _ _) _)
 have hx_bxp : WB.heap[W.heap.size]? = some (.cells #[.pointer (some ⟨pb, 0, none⟩)] 74 (0, 0)) := by
  rw [← hWB]
  exact blk_new W _
 obtain ⟨FB, NB, hnew, holdb, hback⟩ := H0.out.enter hbl
 have BK := ak hback
 have hb_bxp : Box pb WB FB (W.heap.size) (.pointer (some ⟨pb, 0, none⟩)) := ⟨hnew _ (by omega) (blk_lt hx_bxp), _, hx_bxp⟩
 have B_bxp := ak hb_bxp
 have HN := ak NB
 have c0_bxp := NB.box hb_bxp
 rw [hWB]
 have hsz : W.heap.size + 1 = WB.heap.size := by rw [← hWB]; simp only [World.size_alloc]
 try rw [hsz]
 clear hsz hWB hbl hnew holdb hback NB H0 hb_bxp hx_bxp
 refine (peek_now HN.out).mono ?_
 rintro e W1 ⟨rfl, N1⟩
 obtain ⟨tk, htk⟩ : ∃ tk, Hid ((peekT T s.1).1 = tk) := ⟨_, rfl⟩
 obtain ⟨tt, htt⟩ : ∃ tt, Hid ((peekT T s.1).2 = tt) := ⟨_, rfl⟩
 rw [show (peekT T s.1).1 = tk from htk, show (peekT T s.1).2 = tt from htt]
 have HTK := ak (show (peekT T s.1).1 = tk from htk)
 have HTT := ak (show (peekT T s.1).2 = tt from htt)
 have H1 := ak N1
 have c1_bxp := N1.box B_bxp.out
 clear htk htt N1 HN c0_bxp
 have ca1_bxp := fun o => (World.cell?_alloc_some W1 ⟨W.heap.size, 0, none⟩ o (by rw [c1_bxp]; rfl)).trans c1_bxp
 by_cases k105 : tk = 105
 ·subst k105
  go_wp2_with fail
  obtain ⟨WB2, hWB2⟩ : ∃ WB2, (W1.alloc (.cells #[.int .i64 105, .string tt] 98)) = WB2 := ⟨_, rfl⟩
  have hbl2 : Below W1.heap.size W1 WB2 := by rw [← hWB2]; exact (below_alloc (Below.refl _ _) _)
  have hx2 : WB2.heap[W1.heap.size]? = some (.cells #[.int .i64 105, .string tt] 98 (0, 0)) := by rw [← hWB2]; exact blk_new W1 _
  obtain ⟨FB2, NB2, hnew2, old2, hback2⟩ := H1.out.enter2 hbl2
  have BK2 := ak hback2
  have B2_bxp := ak (B_bxp.out.old old2)
  have B2_bxt := ak (show Box2 pb WB2 FB2 W1.heap.size (.int .i64 105) (.string tt) from ⟨hnew2 _ (Nat.le_refl _) (blk_lt hx2), _, hx2⟩)
  have H2 := ak NB2
  have c2_bxp := NB2.box B2_bxp.out
  obtain ⟨c2_bxt0, c2_bxt1⟩ := NB2.box2 B2_bxt.out
  have hsz2 : W1.heap.size + 1 = WB2.heap.size := by rw [← hWB2]; simp only [World.size_alloc]
  rw [hWB2]
  try rw [hsz2]
  clear hsz2 hWB2 hbl2 hnew2 old2 hback2 hx2 NB2 H1 c1_bxp ca1_bxp
  refine (at_lit H2.out [(⟨#[109, 117, 116]⟩ : ByteArray)] (by simp)).mono ?_
  rintro e W4 ⟨rfl, N4⟩
  rcases at_cases H2.out [(⟨#[109, 117, 116]⟩ : ByteArray)] with b3 | b3
  ·rw [b3]
   have H4 := ak N4
   have c4_bxp := N4.box B2_bxp.out
   obtain ⟨c4_bxt0, c4_bxt1⟩ := N4.box2 B2_bxt.out
   clear N4 H2 c2_bxp c2_bxt0 c2_bxt1
   have E5 := ak (if_t b3 E0.out)
   clear E0 b3
   go_wp2_with fail
   obtain ⟨p6, e6, d6⟩ := node_in E5.out
   have R6 := ak e6
   have D6 := ak d6
   clear e6 d6 E5
   refine (node_now H4.out (by omega) (by have := HL.out; omega) (44) 209 #[] #[.pointer (some ⟨W.heap.size, 0, none⟩)] p6.2 en_pattern_1 (fit_iff.1 (run_fit R6.out)).1 (fun W1 F1 NN old => mutB_do  (k := j) (fun i hi => ih i (by omega)) (B2_bxp.out.old old) (by rw [List.length_append, List.length_singleton]; have := HL.out; omega) j (by omega) _ _ _ _ (by omega) NN R6.out)).mono ?_
   rintro e W7 ⟨rfl, N7⟩
   have H7 := ak N7
   have c7_bxp := N7.box B2_bxp.out
   obtain ⟨c7_bxt0, c7_bxt1⟩ := N7.box2 B2_bxt.out
   clear N7 H4 c4_bxp c4_bxt0 c4_bxt1
   go_wp2_with fail
   go_end0
   obtain hq := D6.out
   have hf := G.out
   rw [hq] at hf ⊢
   exact ⟨rfl, (BK.out _ _ _ _ _ _ (BK2.out _ _ _ _ _ _ (H7.out.fit hf)))⟩
  ·rw [b3]
   have H4 := ak N4
   have c4_bxp := N4.box B2_bxp.out
   obtain ⟨c4_bxt0, c4_bxt1⟩ := N4.box2 B2_bxt.out
   clear N4 H2 c2_bxp c2_bxt0 c2_bxt1
   have E8 := ak (if_f b3 E0.out)
   clear E0 b3
   go_wp2_with fail
   rcases id_cases H4.out with b10 | b10
   ·by_cases ku : tt = (⟨#[95]⟩ : ByteArray)
    ·subst ku
     refine (ident_now H4.out).mono ?_
     rintro e W11 ⟨rfl, N11⟩
     rw [b10]
     have H11 := ak N11
     have c11_bxp := N11.box B2_bxp.out
     obtain ⟨c11_bxt0, c11_bxt1⟩ := N11.box2 B2_bxt.out
     clear N11 H4 c4_bxp c4_bxt0 c4_bxt1
     have E12 := ak (if_t (and_t2 b10 (decide_eq_true HTT.out)) E8.out)
     clear E8
     clear b10
     go_wp2_with fail
     obtain ⟨p13, e13, d13⟩ := node_in E12.out
     have R13 := ak e13
     have D13 := ak d13
     clear e13 d13 E12
     refine (node_now H11.out (by omega) (by have := HL.out; omega) (43) 59 #[.pointer (some ⟨pb, 0, none⟩)] #[] p13.2 en_bump (fit_iff.1 (run_fit R13.out)).1 (fun W1 F1 NN old => bump_does (j + 1) j (by omega) _ _ _ _ (by omega) NN R13.out)).mono ?_
     rintro e W14 ⟨rfl, N14⟩
     have H14 := ak N14
     have c14_bxp := N14.box B2_bxp.out
     obtain ⟨c14_bxt0, c14_bxt1⟩ := N14.box2 B2_bxt.out
     clear N14 H11 c11_bxp c11_bxt0 c11_bxt1
     go_wp2_with fail
     go_end0
     obtain hq := D13.out
     have hf := G.out
     rw [hq] at hf ⊢
     exact ⟨rfl, (BK.out _ _ _ _ _ _ (BK2.out _ _ _ _ _ _ (H14.out.fit hf)))⟩
    ·have fv : decide (tt = (⟨#[95]⟩ : ByteArray)) = false := decide_eq_false ku
     have fw := us_ne ku
     refine (ident_now H4.out).mono ?_
     rintro e W15 ⟨rfl, N15⟩
     rw [b10]
     have H15 := ak N15
     have c15_bxp := N15.box B2_bxp.out
     obtain ⟨c15_bxt0, c15_bxt1⟩ := N15.box2 B2_bxt.out
     clear N15 H4 c4_bxp c4_bxt0 c4_bxt1
     have E16 := ak (if_f (and_t2 b10 (decide_eq_false (by rw [HTT.out]; exact ku))) E8.out)
     clear E8
     have HID := ak b10
     have KU := ak ku
     clear b10 ku
     go_wp2_with fail
     rcases id_cases H15.out with b18 | b18
     ·refine (ident_now H15.out).mono ?_
      rintro e W19 ⟨rfl, N19⟩
      rw [b18]
      have H19 := ak N19
      have c19_bxp := N19.box B2_bxp.out
      obtain ⟨c19_bxt0, c19_bxt1⟩ := N19.box2 B2_bxt.out
      clear N19 H15 c15_bxp c15_bxt0 c15_bxt1
      have HI20 := ak b18
      clear b18
      go_wp2_with fail
      refine (look_now H19.out).mono ?_
      rintro e W21 ⟨qb21, rfl, N21, L21⟩
      have H21 := ak (And.intro N21 L21)
      have c21_bxp := N21.box B2_bxp.out
      obtain ⟨c21_bxt0, c21_bxt1⟩ := N21.box2 B2_bxt.out
      clear N21 L21 H19 c19_bxp c19_bxt0 c19_bxt1
      go_wp2_with fail
      rcases look_at H21.out.2 [(⟨#[40]⟩ : ByteArray), (⟨#[58, 58]⟩ : ByteArray)] with b22 | b22
      ·refine (at_look H21.out.1 H21.out.2 [(⟨#[40]⟩ : ByteArray), (⟨#[58, 58]⟩ : ByteArray)] (by simp)).mono ?_
       rintro e W23 ⟨rfl, N23⟩
       rw [b22]
       have H23 := ak N23
       have c23_bxp := N23.box B2_bxp.out
       obtain ⟨c23_bxt0, c23_bxt1⟩ := N23.box2 B2_bxt.out
       clear N23 H21 c21_bxp c21_bxt0 c21_bxt1
       have E24 := ak (if_f (and_t2 HI20.out (not_of b22)) E16.out)
       clear E16
       clear b22
       go_wp2_with fail
       refine (ident_now H23.out).mono ?_
       rintro e W26 ⟨rfl, N26⟩
       rcases id_cases H23.out with b25 | b25
       ·rw [b25]
        have H26 := ak N26
        have c26_bxp := N26.box B2_bxp.out
        obtain ⟨c26_bxt0, c26_bxt1⟩ := N26.box2 B2_bxt.out
        clear N26 H23 c23_bxp c23_bxt0 c23_bxt1
        have E27 := ak (if_t b25 E24.out)
        clear E24 b25
        go_wp2_with fail
        obtain ⟨p28, e28, d28⟩ := node_in E27.out
        have R28 := ak e28
        have D28 := ak d28
        clear e28 d28 E27
        refine (node_now H26.out (by omega) (by have := HL.out; omega) (45) 210 #[] #[.pointer (some ⟨W.heap.size, 0, none⟩)] p28.2 en_pattern_2 (fit_iff.1 (run_fit R28.out)).1 (fun W1 F1 NN old => variantB_do  (k := j) (fun i hi => ih i (by omega)) (B2_bxp.out.old old) (by rw [List.length_append, List.length_singleton]; have := HL.out; omega) j (by omega) _ _ _ _ (by omega) NN R28.out)).mono ?_
        rintro e W29 ⟨rfl, N29⟩
        have H29 := ak N29
        have c29_bxp := N29.box B2_bxp.out
        obtain ⟨c29_bxt0, c29_bxt1⟩ := N29.box2 B2_bxt.out
        clear N29 H26 c26_bxp c26_bxt0 c26_bxt1
        go_wp2_with fail
        go_end0
        obtain hq := D28.out
        have hf := G.out
        rw [hq] at hf ⊢
        exact ⟨rfl, (BK.out _ _ _ _ _ _ (BK2.out _ _ _ _ _ _ (H29.out.fit hf)))⟩
       ·rw [b25]
        have H26 := ak N26
        have c26_bxp := N26.box B2_bxp.out
        obtain ⟨c26_bxt0, c26_bxt1⟩ := N26.box2 B2_bxt.out
        clear N26 H23 c23_bxp c23_bxt0 c23_bxt1
        have E30 := ak (if_f b25 E24.out)
        clear E24 b25
        go_wp2_with fail
        have E31 := ak (if_y HTK.out E30.out)
        clear E30
        obtain ⟨p32, e32, d32⟩ := node_in E31.out
        have R32 := ak e32
        have D32 := ak d32
        clear e32 d32 E31
        refine (node_now H26.out (by omega) (by have := HL.out; omega) (27) 59 #[.pointer (some ⟨pb, 0, none⟩)] #[] p32.2 en_bump (fit_iff.1 (run_fit R32.out)).1 (fun W1 F1 NN old => bump_does (j + 1) j (by omega) _ _ _ _ (by omega) NN R32.out)).mono ?_
        rintro e W33 ⟨rfl, N33⟩
        have H33 := ak N33
        have c33_bxp := N33.box B2_bxp.out
        obtain ⟨c33_bxt0, c33_bxt1⟩ := N33.box2 B2_bxt.out
        clear N33 H26 c26_bxp c26_bxt0 c26_bxt1
        go_wp2_with fail
        go_end0
        obtain hq := D32.out
        have hf := G.out
        rw [hq] at hf ⊢
        exact ⟨rfl, (BK.out _ _ _ _ _ _ (BK2.out _ _ _ _ _ _ (H33.out.fit hf)))⟩
      ·refine (at_look H21.out.1 H21.out.2 [(⟨#[40]⟩ : ByteArray), (⟨#[58, 58]⟩ : ByteArray)] (by simp)).mono ?_
       rintro e W34 ⟨rfl, N34⟩
       rw [b22]
       have H34 := ak N34
       have c34_bxp := N34.box B2_bxp.out
       obtain ⟨c34_bxt0, c34_bxt1⟩ := N34.box2 B2_bxt.out
       clear N34 H21 c21_bxp c21_bxt0 c21_bxt1
       have E35 := ak (if_t (and_t2 HI20.out (not_of b22)) E16.out)
       clear E16
       clear b22
       go_wp2_with fail
       obtain ⟨p36, e36, d36⟩ := node_in E35.out
       have R36 := ak e36
       have D36 := ak d36
       clear e36 d36 E35
       refine (node_now H34.out (by omega) (by have := HL.out; omega) (44) 59 #[.pointer (some ⟨pb, 0, none⟩)] #[] p36.2 en_bump (fit_iff.1 (run_fit R36.out)).1 (fun W1 F1 NN old => bump_does (j + 1) j (by omega) _ _ _ _ (by omega) NN R36.out)).mono ?_
       rintro e W37 ⟨rfl, N37⟩
       have H37 := ak N37
       have c37_bxp := N37.box B2_bxp.out
       obtain ⟨c37_bxt0, c37_bxt1⟩ := N37.box2 B2_bxt.out
       clear N37 H34 c34_bxp c34_bxt0 c34_bxt1
       go_wp2_with fail
       go_end0
       obtain hq := D36.out
       have hf := G.out
       rw [hq] at hf ⊢
       exact ⟨rfl, (BK.out _ _ _ _ _ _ (BK2.out _ _ _ _ _ _ (H37.out.fit hf)))⟩
     ·refine (ident_now H15.out).mono ?_
      rintro e W38 ⟨rfl, N38⟩
      rw [b18]
      have H38 := ak N38
      have c38_bxp := N38.box B2_bxp.out
      obtain ⟨c38_bxt0, c38_bxt1⟩ := N38.box2 B2_bxt.out
      clear N38 H15 c15_bxp c15_bxt0 c15_bxt1
      have E39 := ak (if_f (and_f1 b18) E16.out)
      clear E16
      clear b18
      go_wp2_with fail
      refine (ident_now H38.out).mono ?_
      rintro e W41 ⟨rfl, N41⟩
      rcases id_cases H38.out with b40 | b40
      ·rw [b40]
       have H41 := ak N41
       have c41_bxp := N41.box B2_bxp.out
       obtain ⟨c41_bxt0, c41_bxt1⟩ := N41.box2 B2_bxt.out
       clear N41 H38 c38_bxp c38_bxt0 c38_bxt1
       have E42 := ak (if_t b40 E39.out)
       clear E39 b40
       go_wp2_with fail
       obtain ⟨p43, e43, d43⟩ := node_in E42.out
       have R43 := ak e43
       have D43 := ak d43
       clear e43 d43 E42
       refine (node_now H41.out (by omega) (by have := HL.out; omega) (45) 210 #[] #[.pointer (some ⟨W.heap.size, 0, none⟩)] p43.2 en_pattern_2 (fit_iff.1 (run_fit R43.out)).1 (fun W1 F1 NN old => variantB_do  (k := j) (fun i hi => ih i (by omega)) (B2_bxp.out.old old) (by rw [List.length_append, List.length_singleton]; have := HL.out; omega) j (by omega) _ _ _ _ (by omega) NN R43.out)).mono ?_
       rintro e W44 ⟨rfl, N44⟩
       have H44 := ak N44
       have c44_bxp := N44.box B2_bxp.out
       obtain ⟨c44_bxt0, c44_bxt1⟩ := N44.box2 B2_bxt.out
       clear N44 H41 c41_bxp c41_bxt0 c41_bxt1
       go_wp2_with fail
       go_end0
       obtain hq := D43.out
       have hf := G.out
       rw [hq] at hf ⊢
       exact ⟨rfl, (BK.out _ _ _ _ _ _ (BK2.out _ _ _ _ _ _ (H44.out.fit hf)))⟩
      ·rw [b40]
       have H41 := ak N41
       have c41_bxp := N41.box B2_bxp.out
       obtain ⟨c41_bxt0, c41_bxt1⟩ := N41.box2 B2_bxt.out
       clear N41 H38 c38_bxp c38_bxt0 c38_bxt1
       have E45 := ak (if_f b40 E39.out)
       clear E39 b40
       go_wp2_with fail
       have E46 := ak (if_y HTK.out E45.out)
       clear E45
       obtain ⟨p47, e47, d47⟩ := node_in E46.out
       have R47 := ak e47
       have D47 := ak d47
       clear e47 d47 E46
       refine (node_now H41.out (by omega) (by have := HL.out; omega) (27) 59 #[.pointer (some ⟨pb, 0, none⟩)] #[] p47.2 en_bump (fit_iff.1 (run_fit R47.out)).1 (fun W1 F1 NN old => bump_does (j + 1) j (by omega) _ _ _ _ (by omega) NN R47.out)).mono ?_
       rintro e W48 ⟨rfl, N48⟩
       have H48 := ak N48
       have c48_bxp := N48.box B2_bxp.out
       obtain ⟨c48_bxt0, c48_bxt1⟩ := N48.box2 B2_bxt.out
       clear N48 H41 c41_bxp c41_bxt0 c41_bxt1
       go_wp2_with fail
       go_end0
       obtain hq := D47.out
       have hf := G.out
       rw [hq] at hf ⊢
       exact ⟨rfl, (BK.out _ _ _ _ _ _ (BK2.out _ _ _ _ _ _ (H48.out.fit hf)))⟩
   ·refine (ident_now H4.out).mono ?_
    rintro e W49 ⟨rfl, N49⟩
    rw [b10]
    have H49 := ak N49
    have c49_bxp := N49.box B2_bxp.out
    obtain ⟨c49_bxt0, c49_bxt1⟩ := N49.box2 B2_bxt.out
    clear N49 H4 c4_bxp c4_bxt0 c4_bxt1
    have E50 := ak (if_f (and_f1 b10) E8.out)
    clear E8
    have HID := ak b10
    clear b10
    go_wp2_with fail
    rcases id_cases H49.out with b52 | b52
    ·refine (ident_now H49.out).mono ?_
     rintro e W53 ⟨rfl, N53⟩
     rw [b52]
     have H53 := ak N53
     have c53_bxp := N53.box B2_bxp.out
     obtain ⟨c53_bxt0, c53_bxt1⟩ := N53.box2 B2_bxt.out
     clear N53 H49 c49_bxp c49_bxt0 c49_bxt1
     have HI54 := ak b52
     clear b52
     go_wp2_with fail
     refine (look_now H53.out).mono ?_
     rintro e W55 ⟨qb55, rfl, N55, L55⟩
     have H55 := ak (And.intro N55 L55)
     have c55_bxp := N55.box B2_bxp.out
     obtain ⟨c55_bxt0, c55_bxt1⟩ := N55.box2 B2_bxt.out
     clear N55 L55 H53 c53_bxp c53_bxt0 c53_bxt1
     go_wp2_with fail
     rcases look_at H55.out.2 [(⟨#[40]⟩ : ByteArray), (⟨#[58, 58]⟩ : ByteArray)] with b56 | b56
     ·refine (at_look H55.out.1 H55.out.2 [(⟨#[40]⟩ : ByteArray), (⟨#[58, 58]⟩ : ByteArray)] (by simp)).mono ?_
      rintro e W57 ⟨rfl, N57⟩
      rw [b56]
      have H57 := ak N57
      have c57_bxp := N57.box B2_bxp.out
      obtain ⟨c57_bxt0, c57_bxt1⟩ := N57.box2 B2_bxt.out
      clear N57 H55 c55_bxp c55_bxt0 c55_bxt1
      have E58 := ak (if_f (and_t2 HI54.out (not_of b56)) E50.out)
      clear E50
      clear b56
      go_wp2_with fail
      refine (ident_now H57.out).mono ?_
      rintro e W60 ⟨rfl, N60⟩
      rcases id_cases H57.out with b59 | b59
      ·rw [b59]
       have H60 := ak N60
       have c60_bxp := N60.box B2_bxp.out
       obtain ⟨c60_bxt0, c60_bxt1⟩ := N60.box2 B2_bxt.out
       clear N60 H57 c57_bxp c57_bxt0 c57_bxt1
       have E61 := ak (if_t b59 E58.out)
       clear E58 b59
       go_wp2_with fail
       obtain ⟨p62, e62, d62⟩ := node_in E61.out
       have R62 := ak e62
       have D62 := ak d62
       clear e62 d62 E61
       refine (node_now H60.out (by omega) (by have := HL.out; omega) (45) 210 #[] #[.pointer (some ⟨W.heap.size, 0, none⟩)] p62.2 en_pattern_2 (fit_iff.1 (run_fit R62.out)).1 (fun W1 F1 NN old => variantB_do  (k := j) (fun i hi => ih i (by omega)) (B2_bxp.out.old old) (by rw [List.length_append, List.length_singleton]; have := HL.out; omega) j (by omega) _ _ _ _ (by omega) NN R62.out)).mono ?_
       rintro e W63 ⟨rfl, N63⟩
       have H63 := ak N63
       have c63_bxp := N63.box B2_bxp.out
       obtain ⟨c63_bxt0, c63_bxt1⟩ := N63.box2 B2_bxt.out
       clear N63 H60 c60_bxp c60_bxt0 c60_bxt1
       go_wp2_with fail
       go_end0
       obtain hq := D62.out
       have hf := G.out
       rw [hq] at hf ⊢
       exact ⟨rfl, (BK.out _ _ _ _ _ _ (BK2.out _ _ _ _ _ _ (H63.out.fit hf)))⟩
      ·rw [b59]
       have H60 := ak N60
       have c60_bxp := N60.box B2_bxp.out
       obtain ⟨c60_bxt0, c60_bxt1⟩ := N60.box2 B2_bxt.out
       clear N60 H57 c57_bxp c57_bxt0 c57_bxt1
       have E64 := ak (if_f b59 E58.out)
       clear E58 b59
       go_wp2_with fail
       have E65 := ak (if_y HTK.out E64.out)
       clear E64
       obtain ⟨p66, e66, d66⟩ := node_in E65.out
       have R66 := ak e66
       have D66 := ak d66
       clear e66 d66 E65
       refine (node_now H60.out (by omega) (by have := HL.out; omega) (27) 59 #[.pointer (some ⟨pb, 0, none⟩)] #[] p66.2 en_bump (fit_iff.1 (run_fit R66.out)).1 (fun W1 F1 NN old => bump_does (j + 1) j (by omega) _ _ _ _ (by omega) NN R66.out)).mono ?_
       rintro e W67 ⟨rfl, N67⟩
       have H67 := ak N67
       have c67_bxp := N67.box B2_bxp.out
       obtain ⟨c67_bxt0, c67_bxt1⟩ := N67.box2 B2_bxt.out
       clear N67 H60 c60_bxp c60_bxt0 c60_bxt1
       go_wp2_with fail
       go_end0
       obtain hq := D66.out
       have hf := G.out
       rw [hq] at hf ⊢
       exact ⟨rfl, (BK.out _ _ _ _ _ _ (BK2.out _ _ _ _ _ _ (H67.out.fit hf)))⟩
     ·refine (at_look H55.out.1 H55.out.2 [(⟨#[40]⟩ : ByteArray), (⟨#[58, 58]⟩ : ByteArray)] (by simp)).mono ?_
      rintro e W68 ⟨rfl, N68⟩
      rw [b56]
      have H68 := ak N68
      have c68_bxp := N68.box B2_bxp.out
      obtain ⟨c68_bxt0, c68_bxt1⟩ := N68.box2 B2_bxt.out
      clear N68 H55 c55_bxp c55_bxt0 c55_bxt1
      have E69 := ak (if_t (and_t2 HI54.out (not_of b56)) E50.out)
      clear E50
      clear b56
      go_wp2_with fail
      obtain ⟨p70, e70, d70⟩ := node_in E69.out
      have R70 := ak e70
      have D70 := ak d70
      clear e70 d70 E69
      refine (node_now H68.out (by omega) (by have := HL.out; omega) (44) 59 #[.pointer (some ⟨pb, 0, none⟩)] #[] p70.2 en_bump (fit_iff.1 (run_fit R70.out)).1 (fun W1 F1 NN old => bump_does (j + 1) j (by omega) _ _ _ _ (by omega) NN R70.out)).mono ?_
      rintro e W71 ⟨rfl, N71⟩
      have H71 := ak N71
      have c71_bxp := N71.box B2_bxp.out
      obtain ⟨c71_bxt0, c71_bxt1⟩ := N71.box2 B2_bxt.out
      clear N71 H68 c68_bxp c68_bxt0 c68_bxt1
      go_wp2_with fail
      go_end0
      obtain hq := D70.out
      have hf := G.out
      rw [hq] at hf ⊢
      exact ⟨rfl, (BK.out _ _ _ _ _ _ (BK2.out _ _ _ _ _ _ (H71.out.fit hf)))⟩
    ·refine (ident_now H49.out).mono ?_
     rintro e W72 ⟨rfl, N72⟩
     rw [b52]
     have H72 := ak N72
     have c72_bxp := N72.box B2_bxp.out
     obtain ⟨c72_bxt0, c72_bxt1⟩ := N72.box2 B2_bxt.out
     clear N72 H49 c49_bxp c49_bxt0 c49_bxt1
     have E73 := ak (if_f (and_f1 b52) E50.out)
     clear E50
     clear b52
     go_wp2_with fail
     refine (ident_now H72.out).mono ?_
     rintro e W75 ⟨rfl, N75⟩
     rcases id_cases H72.out with b74 | b74
     ·rw [b74]
      have H75 := ak N75
      have c75_bxp := N75.box B2_bxp.out
      obtain ⟨c75_bxt0, c75_bxt1⟩ := N75.box2 B2_bxt.out
      clear N75 H72 c72_bxp c72_bxt0 c72_bxt1
      have E76 := ak (if_t b74 E73.out)
      clear E73 b74
      go_wp2_with fail
      obtain ⟨p77, e77, d77⟩ := node_in E76.out
      have R77 := ak e77
      have D77 := ak d77
      clear e77 d77 E76
      refine (node_now H75.out (by omega) (by have := HL.out; omega) (45) 210 #[] #[.pointer (some ⟨W.heap.size, 0, none⟩)] p77.2 en_pattern_2 (fit_iff.1 (run_fit R77.out)).1 (fun W1 F1 NN old => variantB_do  (k := j) (fun i hi => ih i (by omega)) (B2_bxp.out.old old) (by rw [List.length_append, List.length_singleton]; have := HL.out; omega) j (by omega) _ _ _ _ (by omega) NN R77.out)).mono ?_
      rintro e W78 ⟨rfl, N78⟩
      have H78 := ak N78
      have c78_bxp := N78.box B2_bxp.out
      obtain ⟨c78_bxt0, c78_bxt1⟩ := N78.box2 B2_bxt.out
      clear N78 H75 c75_bxp c75_bxt0 c75_bxt1
      go_wp2_with fail
      go_end0
      obtain hq := D77.out
      have hf := G.out
      rw [hq] at hf ⊢
      exact ⟨rfl, (BK.out _ _ _ _ _ _ (BK2.out _ _ _ _ _ _ (H78.out.fit hf)))⟩
     ·rw [b74]
      have H75 := ak N75
      have c75_bxp := N75.box B2_bxp.out
      obtain ⟨c75_bxt0, c75_bxt1⟩ := N75.box2 B2_bxt.out
      clear N75 H72 c72_bxp c72_bxt0 c72_bxt1
      have E79 := ak (if_f b74 E73.out)
      clear E73 b74
      go_wp2_with fail
      have E80 := ak (if_y HTK.out E79.out)
      clear E79
      obtain ⟨p81, e81, d81⟩ := node_in E80.out
      have R81 := ak e81
      have D81 := ak d81
      clear e81 d81 E80
      refine (node_now H75.out (by omega) (by have := HL.out; omega) (27) 59 #[.pointer (some ⟨pb, 0, none⟩)] #[] p81.2 en_bump (fit_iff.1 (run_fit R81.out)).1 (fun W1 F1 NN old => bump_does (j + 1) j (by omega) _ _ _ _ (by omega) NN R81.out)).mono ?_
      rintro e W82 ⟨rfl, N82⟩
      have H82 := ak N82
      have c82_bxp := N82.box B2_bxp.out
      obtain ⟨c82_bxt0, c82_bxt1⟩ := N82.box2 B2_bxt.out
      clear N82 H75 c75_bxp c75_bxt0 c75_bxt1
      go_wp2_with fail
      go_end0
      obtain hq := D81.out
      have hf := G.out
      rw [hq] at hf ⊢
      exact ⟨rfl, (BK.out _ _ _ _ _ _ (BK2.out _ _ _ _ _ _ (H82.out.fit hf)))⟩
 have f105 : (tk == 105) = false := beq_eq_false_iff_ne.2 k105
 have K105 := ak k105
 clear k105
 go_wp2_with fail
 obtain ⟨WB83, hWB83⟩ : ∃ WB83, (W1.alloc (.cells #[.int .i64 tk, .string tt] 98)) = WB83 := ⟨_, rfl⟩
 have hbl83 : Below W1.heap.size W1 WB83 := by rw [← hWB83]; exact (below_alloc (Below.refl _ _) _)
 have hx83 : WB83.heap[W1.heap.size]? = some (.cells #[.int .i64 tk, .string tt] 98 (0, 0)) := by rw [← hWB83]; exact blk_new W1 _
 obtain ⟨FB83, NB83, hnew83, old83, hback83⟩ := H1.out.enter2 hbl83
 have BK83 := ak hback83
 have B83_bxp := ak (B_bxp.out.old old83)
 have B83_bxt := ak (show Box2 pb WB83 FB83 W1.heap.size (.int .i64 tk) (.string tt) from ⟨hnew83 _ (Nat.le_refl _) (blk_lt hx83), _, hx83⟩)
 have H83 := ak NB83
 have c83_bxp := NB83.box B83_bxp.out
 obtain ⟨c83_bxt0, c83_bxt1⟩ := NB83.box2 B83_bxt.out
 have hsz83 : W1.heap.size + 1 = WB83.heap.size := by rw [← hWB83]; simp only [World.size_alloc]
 rw [hWB83]
 try rw [hsz83]
 clear hsz83 hWB83 hbl83 hnew83 old83 hback83 hx83 NB83 H1 c1_bxp ca1_bxp
 refine (at_lit H83.out [(⟨#[109, 117, 116]⟩ : ByteArray)] (by simp)).mono ?_
 rintro e W85 ⟨rfl, N85⟩
 rcases at_cases H83.out [(⟨#[109, 117, 116]⟩ : ByteArray)] with b84 | b84
 ·rw [b84]
  have H85 := ak N85
  have c85_bxp := N85.box B83_bxp.out
  obtain ⟨c85_bxt0, c85_bxt1⟩ := N85.box2 B83_bxt.out
  clear N85 H83 c83_bxp c83_bxt0 c83_bxt1
  have E86 := ak (if_t b84 E0.out)
  clear E0 b84
  go_wp2_with fail
  obtain ⟨p87, e87, d87⟩ := node_in E86.out
  have R87 := ak e87
  have D87 := ak d87
  clear e87 d87 E86
  refine (node_now H85.out (by omega) (by have := HL.out; omega) (44) 209 #[] #[.pointer (some ⟨W.heap.size, 0, none⟩)] p87.2 en_pattern_1 (fit_iff.1 (run_fit R87.out)).1 (fun W1 F1 NN old => mutB_do  (k := j) (fun i hi => ih i (by omega)) (B83_bxp.out.old old) (by rw [List.length_append, List.length_singleton]; have := HL.out; omega) j (by omega) _ _ _ _ (by omega) NN R87.out)).mono ?_
  rintro e W88 ⟨rfl, N88⟩
  have H88 := ak N88
  have c88_bxp := N88.box B83_bxp.out
  obtain ⟨c88_bxt0, c88_bxt1⟩ := N88.box2 B83_bxt.out
  clear N88 H85 c85_bxp c85_bxt0 c85_bxt1
  go_wp2_with fail
  go_end0
  obtain hq := D87.out
  have hf := G.out
  rw [hq] at hf ⊢
  exact ⟨rfl, (BK.out _ _ _ _ _ _ (BK83.out _ _ _ _ _ _ (H88.out.fit hf)))⟩
 ·rw [b84]
  have H85 := ak N85
  have c85_bxp := N85.box B83_bxp.out
  obtain ⟨c85_bxt0, c85_bxt1⟩ := N85.box2 B83_bxt.out
  clear N85 H83 c83_bxp c83_bxt0 c83_bxt1
  have E89 := ak (if_f b84 E0.out)
  clear E0 b84
  go_wp2_with fail
  rcases id_cases H85.out with b91 | b91
  ·by_cases ku : tt = (⟨#[95]⟩ : ByteArray)
   ·subst ku
    refine (ident_now H85.out).mono ?_
    rintro e W92 ⟨rfl, N92⟩
    rw [b91]
    have H92 := ak N92
    have c92_bxp := N92.box B83_bxp.out
    obtain ⟨c92_bxt0, c92_bxt1⟩ := N92.box2 B83_bxt.out
    clear N92 H85 c85_bxp c85_bxt0 c85_bxt1
    have E93 := ak (if_t (and_t2 b91 (decide_eq_true HTT.out)) E89.out)
    clear E89
    clear b91
    go_wp2_with fail
    obtain ⟨p94, e94, d94⟩ := node_in E93.out
    have R94 := ak e94
    have D94 := ak d94
    clear e94 d94 E93
    refine (node_now H92.out (by omega) (by have := HL.out; omega) (43) 59 #[.pointer (some ⟨pb, 0, none⟩)] #[] p94.2 en_bump (fit_iff.1 (run_fit R94.out)).1 (fun W1 F1 NN old => bump_does (j + 1) j (by omega) _ _ _ _ (by omega) NN R94.out)).mono ?_
    rintro e W95 ⟨rfl, N95⟩
    have H95 := ak N95
    have c95_bxp := N95.box B83_bxp.out
    obtain ⟨c95_bxt0, c95_bxt1⟩ := N95.box2 B83_bxt.out
    clear N95 H92 c92_bxp c92_bxt0 c92_bxt1
    go_wp2_with fail
    go_end0
    obtain hq := D94.out
    have hf := G.out
    rw [hq] at hf ⊢
    exact ⟨rfl, (BK.out _ _ _ _ _ _ (BK83.out _ _ _ _ _ _ (H95.out.fit hf)))⟩
   ·have fv : decide (tt = (⟨#[95]⟩ : ByteArray)) = false := decide_eq_false ku
    have fw := us_ne ku
    refine (ident_now H85.out).mono ?_
    rintro e W96 ⟨rfl, N96⟩
    rw [b91]
    have H96 := ak N96
    have c96_bxp := N96.box B83_bxp.out
    obtain ⟨c96_bxt0, c96_bxt1⟩ := N96.box2 B83_bxt.out
    clear N96 H85 c85_bxp c85_bxt0 c85_bxt1
    have E97 := ak (if_f (and_t2 b91 (decide_eq_false (by rw [HTT.out]; exact ku))) E89.out)
    clear E89
    have HID := ak b91
    have KU := ak ku
    clear b91 ku
    go_wp2_with fail
    rcases id_cases H96.out with b99 | b99
    ·refine (ident_now H96.out).mono ?_
     rintro e W100 ⟨rfl, N100⟩
     rw [b99]
     have H100 := ak N100
     have c100_bxp := N100.box B83_bxp.out
     obtain ⟨c100_bxt0, c100_bxt1⟩ := N100.box2 B83_bxt.out
     clear N100 H96 c96_bxp c96_bxt0 c96_bxt1
     have HI101 := ak b99
     clear b99
     go_wp2_with fail
     refine (look_now H100.out).mono ?_
     rintro e W102 ⟨qb102, rfl, N102, L102⟩
     have H102 := ak (And.intro N102 L102)
     have c102_bxp := N102.box B83_bxp.out
     obtain ⟨c102_bxt0, c102_bxt1⟩ := N102.box2 B83_bxt.out
     clear N102 L102 H100 c100_bxp c100_bxt0 c100_bxt1
     go_wp2_with fail
     rcases look_at H102.out.2 [(⟨#[40]⟩ : ByteArray), (⟨#[58, 58]⟩ : ByteArray)] with b103 | b103
     ·refine (at_look H102.out.1 H102.out.2 [(⟨#[40]⟩ : ByteArray), (⟨#[58, 58]⟩ : ByteArray)] (by simp)).mono ?_
      rintro e W104 ⟨rfl, N104⟩
      rw [b103]
      have H104 := ak N104
      have c104_bxp := N104.box B83_bxp.out
      obtain ⟨c104_bxt0, c104_bxt1⟩ := N104.box2 B83_bxt.out
      clear N104 H102 c102_bxp c102_bxt0 c102_bxt1
      have E105 := ak (if_f (and_t2 HI101.out (not_of b103)) E97.out)
      clear E97
      clear b103
      go_wp2_with fail
      refine (ident_now H104.out).mono ?_
      rintro e W107 ⟨rfl, N107⟩
      rcases id_cases H104.out with b106 | b106
      ·rw [b106]
       have H107 := ak N107
       have c107_bxp := N107.box B83_bxp.out
       obtain ⟨c107_bxt0, c107_bxt1⟩ := N107.box2 B83_bxt.out
       clear N107 H104 c104_bxp c104_bxt0 c104_bxt1
       have E108 := ak (if_t b106 E105.out)
       clear E105 b106
       go_wp2_with fail
       obtain ⟨p109, e109, d109⟩ := node_in E108.out
       have R109 := ak e109
       have D109 := ak d109
       clear e109 d109 E108
       refine (node_now H107.out (by omega) (by have := HL.out; omega) (45) 210 #[] #[.pointer (some ⟨W.heap.size, 0, none⟩)] p109.2 en_pattern_2 (fit_iff.1 (run_fit R109.out)).1 (fun W1 F1 NN old => variantB_do  (k := j) (fun i hi => ih i (by omega)) (B83_bxp.out.old old) (by rw [List.length_append, List.length_singleton]; have := HL.out; omega) j (by omega) _ _ _ _ (by omega) NN R109.out)).mono ?_
       rintro e W110 ⟨rfl, N110⟩
       have H110 := ak N110
       have c110_bxp := N110.box B83_bxp.out
       obtain ⟨c110_bxt0, c110_bxt1⟩ := N110.box2 B83_bxt.out
       clear N110 H107 c107_bxp c107_bxt0 c107_bxt1
       go_wp2_with fail
       go_end0
       obtain hq := D109.out
       have hf := G.out
       rw [hq] at hf ⊢
       exact ⟨rfl, (BK.out _ _ _ _ _ _ (BK83.out _ _ _ _ _ _ (H110.out.fit hf)))⟩
      ·rw [b106]
       have H107 := ak N107
       have c107_bxp := N107.box B83_bxp.out
       obtain ⟨c107_bxt0, c107_bxt1⟩ := N107.box2 B83_bxt.out
       clear N107 H104 c104_bxp c104_bxt0 c104_bxt1
       have E111 := ak (if_f b106 E105.out)
       clear E105 b106
       go_wp2_with fail
       have E112 := ak (if_n (by rw [HTK.out]; exact K105.out) E111.out)
       clear E111
       refine (at_lit H107.out [(⟨#[116, 114, 117, 101]⟩ : ByteArray), (⟨#[102, 97, 108, 115, 101]⟩ : ByteArray)] (by simp)).mono ?_
       rintro e W114 ⟨rfl, N114⟩
       rcases at_cases H107.out [(⟨#[116, 114, 117, 101]⟩ : ByteArray), (⟨#[102, 97, 108, 115, 101]⟩ : ByteArray)] with b113 | b113
       ·rw [b113]
        have H114 := ak N114
        have c114_bxp := N114.box B83_bxp.out
        obtain ⟨c114_bxt0, c114_bxt1⟩ := N114.box2 B83_bxt.out
        clear N114 H107 c107_bxp c107_bxt0 c107_bxt1
        have E115 := ak (if_t b113 E112.out)
        clear E112 b113
        go_wp2_with fail
        obtain ⟨p116, e116, d116⟩ := node_in E115.out
        have R116 := ak e116
        have D116 := ak d116
        clear e116 d116 E115
        refine (node_now H114.out (by omega) (by have := HL.out; omega) (28) 59 #[.pointer (some ⟨pb, 0, none⟩)] #[] p116.2 en_bump (fit_iff.1 (run_fit R116.out)).1 (fun W1 F1 NN old => bump_does (j + 1) j (by omega) _ _ _ _ (by omega) NN R116.out)).mono ?_
        rintro e W117 ⟨rfl, N117⟩
        have H117 := ak N117
        have c117_bxp := N117.box B83_bxp.out
        obtain ⟨c117_bxt0, c117_bxt1⟩ := N117.box2 B83_bxt.out
        clear N117 H114 c114_bxp c114_bxt0 c114_bxt1
        go_wp2_with fail
        go_end0
        obtain hq := D116.out
        have hf := G.out
        rw [hq] at hf ⊢
        exact ⟨rfl, (BK.out _ _ _ _ _ _ (BK83.out _ _ _ _ _ _ (H117.out.fit hf)))⟩
       ·rw [b113]
        have H114 := ak N114
        have c114_bxp := N114.box B83_bxp.out
        obtain ⟨c114_bxt0, c114_bxt1⟩ := N114.box2 B83_bxt.out
        clear N114 H107 c107_bxp c107_bxt0 c107_bxt1
        have E118 := ak (if_f b113 E112.out)
        clear E112 b113
        go_wp2_with fail
        refine (missNode_now H114.out (by omega)).mono ?_
        rintro e W119 ⟨rfl, N119⟩
        have H119 := ak N119
        have c119_bxp := N119.box B83_bxp.out
        obtain ⟨c119_bxt0, c119_bxt1⟩ := N119.box2 B83_bxt.out
        clear N119 H114 c114_bxp c114_bxt0 c114_bxt1
        go_wp2_with fail
        go_end0
        obtain hq := some_in E118.out
        have hf := G.out
        rw [hq] at hf ⊢
        exact ⟨rfl, (BK.out _ _ _ _ _ _ (BK83.out _ _ _ _ _ _ (H119.out.fit hf)))⟩
     ·refine (at_look H102.out.1 H102.out.2 [(⟨#[40]⟩ : ByteArray), (⟨#[58, 58]⟩ : ByteArray)] (by simp)).mono ?_
      rintro e W120 ⟨rfl, N120⟩
      rw [b103]
      have H120 := ak N120
      have c120_bxp := N120.box B83_bxp.out
      obtain ⟨c120_bxt0, c120_bxt1⟩ := N120.box2 B83_bxt.out
      clear N120 H102 c102_bxp c102_bxt0 c102_bxt1
      have E121 := ak (if_t (and_t2 HI101.out (not_of b103)) E97.out)
      clear E97
      clear b103
      go_wp2_with fail
      obtain ⟨p122, e122, d122⟩ := node_in E121.out
      have R122 := ak e122
      have D122 := ak d122
      clear e122 d122 E121
      refine (node_now H120.out (by omega) (by have := HL.out; omega) (44) 59 #[.pointer (some ⟨pb, 0, none⟩)] #[] p122.2 en_bump (fit_iff.1 (run_fit R122.out)).1 (fun W1 F1 NN old => bump_does (j + 1) j (by omega) _ _ _ _ (by omega) NN R122.out)).mono ?_
      rintro e W123 ⟨rfl, N123⟩
      have H123 := ak N123
      have c123_bxp := N123.box B83_bxp.out
      obtain ⟨c123_bxt0, c123_bxt1⟩ := N123.box2 B83_bxt.out
      clear N123 H120 c120_bxp c120_bxt0 c120_bxt1
      go_wp2_with fail
      go_end0
      obtain hq := D122.out
      have hf := G.out
      rw [hq] at hf ⊢
      exact ⟨rfl, (BK.out _ _ _ _ _ _ (BK83.out _ _ _ _ _ _ (H123.out.fit hf)))⟩
    ·refine (ident_now H96.out).mono ?_
     rintro e W124 ⟨rfl, N124⟩
     rw [b99]
     have H124 := ak N124
     have c124_bxp := N124.box B83_bxp.out
     obtain ⟨c124_bxt0, c124_bxt1⟩ := N124.box2 B83_bxt.out
     clear N124 H96 c96_bxp c96_bxt0 c96_bxt1
     have E125 := ak (if_f (and_f1 b99) E97.out)
     clear E97
     clear b99
     go_wp2_with fail
     refine (ident_now H124.out).mono ?_
     rintro e W127 ⟨rfl, N127⟩
     rcases id_cases H124.out with b126 | b126
     ·rw [b126]
      have H127 := ak N127
      have c127_bxp := N127.box B83_bxp.out
      obtain ⟨c127_bxt0, c127_bxt1⟩ := N127.box2 B83_bxt.out
      clear N127 H124 c124_bxp c124_bxt0 c124_bxt1
      have E128 := ak (if_t b126 E125.out)
      clear E125 b126
      go_wp2_with fail
      obtain ⟨p129, e129, d129⟩ := node_in E128.out
      have R129 := ak e129
      have D129 := ak d129
      clear e129 d129 E128
      refine (node_now H127.out (by omega) (by have := HL.out; omega) (45) 210 #[] #[.pointer (some ⟨W.heap.size, 0, none⟩)] p129.2 en_pattern_2 (fit_iff.1 (run_fit R129.out)).1 (fun W1 F1 NN old => variantB_do  (k := j) (fun i hi => ih i (by omega)) (B83_bxp.out.old old) (by rw [List.length_append, List.length_singleton]; have := HL.out; omega) j (by omega) _ _ _ _ (by omega) NN R129.out)).mono ?_
      rintro e W130 ⟨rfl, N130⟩
      have H130 := ak N130
      have c130_bxp := N130.box B83_bxp.out
      obtain ⟨c130_bxt0, c130_bxt1⟩ := N130.box2 B83_bxt.out
      clear N130 H127 c127_bxp c127_bxt0 c127_bxt1
      go_wp2_with fail
      go_end0
      obtain hq := D129.out
      have hf := G.out
      rw [hq] at hf ⊢
      exact ⟨rfl, (BK.out _ _ _ _ _ _ (BK83.out _ _ _ _ _ _ (H130.out.fit hf)))⟩
     ·rw [b126]
      have H127 := ak N127
      have c127_bxp := N127.box B83_bxp.out
      obtain ⟨c127_bxt0, c127_bxt1⟩ := N127.box2 B83_bxt.out
      clear N127 H124 c124_bxp c124_bxt0 c124_bxt1
      have E131 := ak (if_f b126 E125.out)
      clear E125 b126
      go_wp2_with fail
      have E132 := ak (if_n (by rw [HTK.out]; exact K105.out) E131.out)
      clear E131
      refine (at_lit H127.out [(⟨#[116, 114, 117, 101]⟩ : ByteArray), (⟨#[102, 97, 108, 115, 101]⟩ : ByteArray)] (by simp)).mono ?_
      rintro e W134 ⟨rfl, N134⟩
      rcases at_cases H127.out [(⟨#[116, 114, 117, 101]⟩ : ByteArray), (⟨#[102, 97, 108, 115, 101]⟩ : ByteArray)] with b133 | b133
      ·rw [b133]
       have H134 := ak N134
       have c134_bxp := N134.box B83_bxp.out
       obtain ⟨c134_bxt0, c134_bxt1⟩ := N134.box2 B83_bxt.out
       clear N134 H127 c127_bxp c127_bxt0 c127_bxt1
       have E135 := ak (if_t b133 E132.out)
       clear E132 b133
       go_wp2_with fail
       obtain ⟨p136, e136, d136⟩ := node_in E135.out
       have R136 := ak e136
       have D136 := ak d136
       clear e136 d136 E135
       refine (node_now H134.out (by omega) (by have := HL.out; omega) (28) 59 #[.pointer (some ⟨pb, 0, none⟩)] #[] p136.2 en_bump (fit_iff.1 (run_fit R136.out)).1 (fun W1 F1 NN old => bump_does (j + 1) j (by omega) _ _ _ _ (by omega) NN R136.out)).mono ?_
       rintro e W137 ⟨rfl, N137⟩
       have H137 := ak N137
       have c137_bxp := N137.box B83_bxp.out
       obtain ⟨c137_bxt0, c137_bxt1⟩ := N137.box2 B83_bxt.out
       clear N137 H134 c134_bxp c134_bxt0 c134_bxt1
       go_wp2_with fail
       go_end0
       obtain hq := D136.out
       have hf := G.out
       rw [hq] at hf ⊢
       exact ⟨rfl, (BK.out _ _ _ _ _ _ (BK83.out _ _ _ _ _ _ (H137.out.fit hf)))⟩
      ·rw [b133]
       have H134 := ak N134
       have c134_bxp := N134.box B83_bxp.out
       obtain ⟨c134_bxt0, c134_bxt1⟩ := N134.box2 B83_bxt.out
       clear N134 H127 c127_bxp c127_bxt0 c127_bxt1
       have E138 := ak (if_f b133 E132.out)
       clear E132 b133
       go_wp2_with fail
       refine (missNode_now H134.out (by omega)).mono ?_
       rintro e W139 ⟨rfl, N139⟩
       have H139 := ak N139
       have c139_bxp := N139.box B83_bxp.out
       obtain ⟨c139_bxt0, c139_bxt1⟩ := N139.box2 B83_bxt.out
       clear N139 H134 c134_bxp c134_bxt0 c134_bxt1
       go_wp2_with fail
       go_end0
       obtain hq := some_in E138.out
       have hf := G.out
       rw [hq] at hf ⊢
       exact ⟨rfl, (BK.out _ _ _ _ _ _ (BK83.out _ _ _ _ _ _ (H139.out.fit hf)))⟩
  ·refine (ident_now H85.out).mono ?_
   rintro e W140 ⟨rfl, N140⟩
   rw [b91]
   have H140 := ak N140
   have c140_bxp := N140.box B83_bxp.out
   obtain ⟨c140_bxt0, c140_bxt1⟩ := N140.box2 B83_bxt.out
   clear N140 H85 c85_bxp c85_bxt0 c85_bxt1
   have E141 := ak (if_f (and_f1 b91) E89.out)
   clear E89
   have HID := ak b91
   clear b91
   go_wp2_with fail
   rcases id_cases H140.out with b143 | b143
   ·refine (ident_now H140.out).mono ?_
    rintro e W144 ⟨rfl, N144⟩
    rw [b143]
    have H144 := ak N144
    have c144_bxp := N144.box B83_bxp.out
    obtain ⟨c144_bxt0, c144_bxt1⟩ := N144.box2 B83_bxt.out
    clear N144 H140 c140_bxp c140_bxt0 c140_bxt1
    have HI145 := ak b143
    clear b143
    go_wp2_with fail
    refine (look_now H144.out).mono ?_
    rintro e W146 ⟨qb146, rfl, N146, L146⟩
    have H146 := ak (And.intro N146 L146)
    have c146_bxp := N146.box B83_bxp.out
    obtain ⟨c146_bxt0, c146_bxt1⟩ := N146.box2 B83_bxt.out
    clear N146 L146 H144 c144_bxp c144_bxt0 c144_bxt1
    go_wp2_with fail
    rcases look_at H146.out.2 [(⟨#[40]⟩ : ByteArray), (⟨#[58, 58]⟩ : ByteArray)] with b147 | b147
    ·refine (at_look H146.out.1 H146.out.2 [(⟨#[40]⟩ : ByteArray), (⟨#[58, 58]⟩ : ByteArray)] (by simp)).mono ?_
     rintro e W148 ⟨rfl, N148⟩
     rw [b147]
     have H148 := ak N148
     have c148_bxp := N148.box B83_bxp.out
     obtain ⟨c148_bxt0, c148_bxt1⟩ := N148.box2 B83_bxt.out
     clear N148 H146 c146_bxp c146_bxt0 c146_bxt1
     have E149 := ak (if_f (and_t2 HI145.out (not_of b147)) E141.out)
     clear E141
     clear b147
     go_wp2_with fail
     refine (ident_now H148.out).mono ?_
     rintro e W151 ⟨rfl, N151⟩
     rcases id_cases H148.out with b150 | b150
     ·rw [b150]
      have H151 := ak N151
      have c151_bxp := N151.box B83_bxp.out
      obtain ⟨c151_bxt0, c151_bxt1⟩ := N151.box2 B83_bxt.out
      clear N151 H148 c148_bxp c148_bxt0 c148_bxt1
      have E152 := ak (if_t b150 E149.out)
      clear E149 b150
      go_wp2_with fail
      obtain ⟨p153, e153, d153⟩ := node_in E152.out
      have R153 := ak e153
      have D153 := ak d153
      clear e153 d153 E152
      refine (node_now H151.out (by omega) (by have := HL.out; omega) (45) 210 #[] #[.pointer (some ⟨W.heap.size, 0, none⟩)] p153.2 en_pattern_2 (fit_iff.1 (run_fit R153.out)).1 (fun W1 F1 NN old => variantB_do  (k := j) (fun i hi => ih i (by omega)) (B83_bxp.out.old old) (by rw [List.length_append, List.length_singleton]; have := HL.out; omega) j (by omega) _ _ _ _ (by omega) NN R153.out)).mono ?_
      rintro e W154 ⟨rfl, N154⟩
      have H154 := ak N154
      have c154_bxp := N154.box B83_bxp.out
      obtain ⟨c154_bxt0, c154_bxt1⟩ := N154.box2 B83_bxt.out
      clear N154 H151 c151_bxp c151_bxt0 c151_bxt1
      go_wp2_with fail
      go_end0
      obtain hq := D153.out
      have hf := G.out
      rw [hq] at hf ⊢
      exact ⟨rfl, (BK.out _ _ _ _ _ _ (BK83.out _ _ _ _ _ _ (H154.out.fit hf)))⟩
     ·rw [b150]
      have H151 := ak N151
      have c151_bxp := N151.box B83_bxp.out
      obtain ⟨c151_bxt0, c151_bxt1⟩ := N151.box2 B83_bxt.out
      clear N151 H148 c148_bxp c148_bxt0 c148_bxt1
      have E155 := ak (if_f b150 E149.out)
      clear E149 b150
      go_wp2_with fail
      have E156 := ak (if_n (by rw [HTK.out]; exact K105.out) E155.out)
      clear E155
      refine (at_lit H151.out [(⟨#[116, 114, 117, 101]⟩ : ByteArray), (⟨#[102, 97, 108, 115, 101]⟩ : ByteArray)] (by simp)).mono ?_
      rintro e W158 ⟨rfl, N158⟩
      rcases at_cases H151.out [(⟨#[116, 114, 117, 101]⟩ : ByteArray), (⟨#[102, 97, 108, 115, 101]⟩ : ByteArray)] with b157 | b157
      ·rw [b157]
       have H158 := ak N158
       have c158_bxp := N158.box B83_bxp.out
       obtain ⟨c158_bxt0, c158_bxt1⟩ := N158.box2 B83_bxt.out
       clear N158 H151 c151_bxp c151_bxt0 c151_bxt1
       have E159 := ak (if_t b157 E156.out)
       clear E156 b157
       go_wp2_with fail
       obtain ⟨p160, e160, d160⟩ := node_in E159.out
       have R160 := ak e160
       have D160 := ak d160
       clear e160 d160 E159
       refine (node_now H158.out (by omega) (by have := HL.out; omega) (28) 59 #[.pointer (some ⟨pb, 0, none⟩)] #[] p160.2 en_bump (fit_iff.1 (run_fit R160.out)).1 (fun W1 F1 NN old => bump_does (j + 1) j (by omega) _ _ _ _ (by omega) NN R160.out)).mono ?_
       rintro e W161 ⟨rfl, N161⟩
       have H161 := ak N161
       have c161_bxp := N161.box B83_bxp.out
       obtain ⟨c161_bxt0, c161_bxt1⟩ := N161.box2 B83_bxt.out
       clear N161 H158 c158_bxp c158_bxt0 c158_bxt1
       go_wp2_with fail
       go_end0
       obtain hq := D160.out
       have hf := G.out
       rw [hq] at hf ⊢
       exact ⟨rfl, (BK.out _ _ _ _ _ _ (BK83.out _ _ _ _ _ _ (H161.out.fit hf)))⟩
      ·rw [b157]
       have H158 := ak N158
       have c158_bxp := N158.box B83_bxp.out
       obtain ⟨c158_bxt0, c158_bxt1⟩ := N158.box2 B83_bxt.out
       clear N158 H151 c151_bxp c151_bxt0 c151_bxt1
       have E162 := ak (if_f b157 E156.out)
       clear E156 b157
       go_wp2_with fail
       refine (missNode_now H158.out (by omega)).mono ?_
       rintro e W163 ⟨rfl, N163⟩
       have H163 := ak N163
       have c163_bxp := N163.box B83_bxp.out
       obtain ⟨c163_bxt0, c163_bxt1⟩ := N163.box2 B83_bxt.out
       clear N163 H158 c158_bxp c158_bxt0 c158_bxt1
       go_wp2_with fail
       go_end0
       obtain hq := some_in E162.out
       have hf := G.out
       rw [hq] at hf ⊢
       exact ⟨rfl, (BK.out _ _ _ _ _ _ (BK83.out _ _ _ _ _ _ (H163.out.fit hf)))⟩
    ·refine (at_look H146.out.1 H146.out.2 [(⟨#[40]⟩ : ByteArray), (⟨#[58, 58]⟩ : ByteArray)] (by simp)).mono ?_
     rintro e W164 ⟨rfl, N164⟩
     rw [b147]
     have H164 := ak N164
     have c164_bxp := N164.box B83_bxp.out
     obtain ⟨c164_bxt0, c164_bxt1⟩ := N164.box2 B83_bxt.out
     clear N164 H146 c146_bxp c146_bxt0 c146_bxt1
     have E165 := ak (if_t (and_t2 HI145.out (not_of b147)) E141.out)
     clear E141
     clear b147
     go_wp2_with fail
     obtain ⟨p166, e166, d166⟩ := node_in E165.out
     have R166 := ak e166
     have D166 := ak d166
     clear e166 d166 E165
     refine (node_now H164.out (by omega) (by have := HL.out; omega) (44) 59 #[.pointer (some ⟨pb, 0, none⟩)] #[] p166.2 en_bump (fit_iff.1 (run_fit R166.out)).1 (fun W1 F1 NN old => bump_does (j + 1) j (by omega) _ _ _ _ (by omega) NN R166.out)).mono ?_
     rintro e W167 ⟨rfl, N167⟩
     have H167 := ak N167
     have c167_bxp := N167.box B83_bxp.out
     obtain ⟨c167_bxt0, c167_bxt1⟩ := N167.box2 B83_bxt.out
     clear N167 H164 c164_bxp c164_bxt0 c164_bxt1
     go_wp2_with fail
     go_end0
     obtain hq := D166.out
     have hf := G.out
     rw [hq] at hf ⊢
     exact ⟨rfl, (BK.out _ _ _ _ _ _ (BK83.out _ _ _ _ _ _ (H167.out.fit hf)))⟩
   ·refine (ident_now H140.out).mono ?_
    rintro e W168 ⟨rfl, N168⟩
    rw [b143]
    have H168 := ak N168
    have c168_bxp := N168.box B83_bxp.out
    obtain ⟨c168_bxt0, c168_bxt1⟩ := N168.box2 B83_bxt.out
    clear N168 H140 c140_bxp c140_bxt0 c140_bxt1
    have E169 := ak (if_f (and_f1 b143) E141.out)
    clear E141
    clear b143
    go_wp2_with fail
    refine (ident_now H168.out).mono ?_
    rintro e W171 ⟨rfl, N171⟩
    rcases id_cases H168.out with b170 | b170
    ·rw [b170]
     have H171 := ak N171
     have c171_bxp := N171.box B83_bxp.out
     obtain ⟨c171_bxt0, c171_bxt1⟩ := N171.box2 B83_bxt.out
     clear N171 H168 c168_bxp c168_bxt0 c168_bxt1
     have E172 := ak (if_t b170 E169.out)
     clear E169 b170
     go_wp2_with fail
     obtain ⟨p173, e173, d173⟩ := node_in E172.out
     have R173 := ak e173
     have D173 := ak d173
     clear e173 d173 E172
     refine (node_now H171.out (by omega) (by have := HL.out; omega) (45) 210 #[] #[.pointer (some ⟨W.heap.size, 0, none⟩)] p173.2 en_pattern_2 (fit_iff.1 (run_fit R173.out)).1 (fun W1 F1 NN old => variantB_do  (k := j) (fun i hi => ih i (by omega)) (B83_bxp.out.old old) (by rw [List.length_append, List.length_singleton]; have := HL.out; omega) j (by omega) _ _ _ _ (by omega) NN R173.out)).mono ?_
     rintro e W174 ⟨rfl, N174⟩
     have H174 := ak N174
     have c174_bxp := N174.box B83_bxp.out
     obtain ⟨c174_bxt0, c174_bxt1⟩ := N174.box2 B83_bxt.out
     clear N174 H171 c171_bxp c171_bxt0 c171_bxt1
     go_wp2_with fail
     go_end0
     obtain hq := D173.out
     have hf := G.out
     rw [hq] at hf ⊢
     exact ⟨rfl, (BK.out _ _ _ _ _ _ (BK83.out _ _ _ _ _ _ (H174.out.fit hf)))⟩
    ·rw [b170]
     have H171 := ak N171
     have c171_bxp := N171.box B83_bxp.out
     obtain ⟨c171_bxt0, c171_bxt1⟩ := N171.box2 B83_bxt.out
     clear N171 H168 c168_bxp c168_bxt0 c168_bxt1
     have E175 := ak (if_f b170 E169.out)
     clear E169 b170
     go_wp2_with fail
     have E176 := ak (if_n (by rw [HTK.out]; exact K105.out) E175.out)
     clear E175
     refine (at_lit H171.out [(⟨#[116, 114, 117, 101]⟩ : ByteArray), (⟨#[102, 97, 108, 115, 101]⟩ : ByteArray)] (by simp)).mono ?_
     rintro e W178 ⟨rfl, N178⟩
     rcases at_cases H171.out [(⟨#[116, 114, 117, 101]⟩ : ByteArray), (⟨#[102, 97, 108, 115, 101]⟩ : ByteArray)] with b177 | b177
     ·rw [b177]
      have H178 := ak N178
      have c178_bxp := N178.box B83_bxp.out
      obtain ⟨c178_bxt0, c178_bxt1⟩ := N178.box2 B83_bxt.out
      clear N178 H171 c171_bxp c171_bxt0 c171_bxt1
      have E179 := ak (if_t b177 E176.out)
      clear E176 b177
      go_wp2_with fail
      obtain ⟨p180, e180, d180⟩ := node_in E179.out
      have R180 := ak e180
      have D180 := ak d180
      clear e180 d180 E179
      refine (node_now H178.out (by omega) (by have := HL.out; omega) (28) 59 #[.pointer (some ⟨pb, 0, none⟩)] #[] p180.2 en_bump (fit_iff.1 (run_fit R180.out)).1 (fun W1 F1 NN old => bump_does (j + 1) j (by omega) _ _ _ _ (by omega) NN R180.out)).mono ?_
      rintro e W181 ⟨rfl, N181⟩
      have H181 := ak N181
      have c181_bxp := N181.box B83_bxp.out
      obtain ⟨c181_bxt0, c181_bxt1⟩ := N181.box2 B83_bxt.out
      clear N181 H178 c178_bxp c178_bxt0 c178_bxt1
      go_wp2_with fail
      go_end0
      obtain hq := D180.out
      have hf := G.out
      rw [hq] at hf ⊢
      exact ⟨rfl, (BK.out _ _ _ _ _ _ (BK83.out _ _ _ _ _ _ (H181.out.fit hf)))⟩
     ·rw [b177]
      have H178 := ak N178
      have c178_bxp := N178.box B83_bxp.out
      obtain ⟨c178_bxt0, c178_bxt1⟩ := N178.box2 B83_bxt.out
      clear N178 H171 c171_bxp c171_bxt0 c171_bxt1
      have E182 := ak (if_f b177 E176.out)
      clear E176 b177
      go_wp2_with fail
      refine (missNode_now H178.out (by omega)).mono ?_
      rintro e W183 ⟨rfl, N183⟩
      have H183 := ak N183
      have c183_bxp := N183.box B83_bxp.out
      obtain ⟨c183_bxt0, c183_bxt1⟩ := N183.box2 B83_bxt.out
      clear N183 H178 c178_bxp c178_bxt0 c178_bxt1
      go_wp2_with fail
      go_end0
      obtain hq := some_in E182.out
      have hf := G.out
      rw [hq] at hf ⊢
      exact ⟨rfl, (BK.out _ _ _ _ _ _ (BK83.out _ _ _ _ _ _ (H183.out.fit hf)))⟩
theorem mcallB_do  {k : Nat} {bxp : Nat}  (ih : ∀ i, i < k → IH B T tv pb i) (hb_bxp : Box pb W0 F0 bxp (.pointer (some ⟨pb, 0, none⟩))) (hlow : low.length + k ≤ 10000000) : Does B T tv pb (k + 1) .mcallB 204 #[.pointer (some ⟨bxp, 0, none⟩)] low kd tx W0 F0 := by
 intro i hi m W s q hm N hr
 obtain ⟨j, rfl, h1, h2, h3⟩ := run_some hr
 have H0 := ak (N.fit h1)
 have E0 := ak h2
 have G := ak h3
 have HL := ak (show low.length + (j + 1) ≤ 10000000 by omega)
 have B_bxp := ak hb_bxp
 have c0_bxp := N.box hb_bxp
 clear N h1 h2 h3 hr hlow hb_bxp
 go_enter Tryz.func204, Tryz.ntmps204
 go_wp2_with fail
 have E1 := ak (sq_st E0.out)
 clear E0
 refine (bump_now H0.out (by omega)).mono ?_
 rintro e W2 ⟨rfl, N2⟩
 have H2 := ak N2
 have c2_bxp := N2.box B_bxp.out
 clear N2 H0 c0_bxp
 go_wp2_with fail
 have E3 := ak (sq_st E1.out)
 clear E1
 refine (bump_now H2.out (by omega)).mono ?_
 rintro e W4 ⟨rfl, N4⟩
 have H4 := ak N4
 have c4_bxp := N4.box B_bxp.out
 clear N4 H2 c2_bxp
 go_wp2_with fail
 obtain ⟨p5, e5, d5⟩ := sq_cons E3.out
 have R5 := ak e5
 have E6 := ak (d5)
 clear E3 e5 d5
 refine ((ih j (by omega)).arguments _ _ _ _ _ _ _ _ _ (by omega) (by have := HL.out; omega) H4.out R5.out).mono ?_
 rintro e W7 ⟨rfl, N7⟩
 have H7 := ak N7
 have c7_bxp := N7.box B_bxp.out
 clear N7 H4 c4_bxp
 go_wp2_with fail
 go_end0
 obtain hq := sq_nil E6.out
 have hf := G.out
 rw [hq] at hf ⊢
 exact ⟨⟨_, rfl⟩, _, (H7.out.fit hf)⟩
theorem fieldB_do  {k : Nat} {bxp : Nat}  (ih : ∀ i, i < k → IH B T tv pb i) (hb_bxp : Box pb W0 F0 bxp (.pointer (some ⟨pb, 0, none⟩))) (hlow : low.length + k ≤ 10000000) : Does B T tv pb (k + 1) .fieldB 205 #[.pointer (some ⟨bxp, 0, none⟩)] low kd tx W0 F0 := by
 intro i hi m W s q hm N hr
 obtain ⟨j, rfl, h1, h2, h3⟩ := run_some hr
 have H0 := ak (N.fit h1)
 have E0 := ak h2
 have G := ak h3
 have HL := ak (show low.length + (j + 1) ≤ 10000000 by omega)
 have B_bxp := ak hb_bxp
 have c0_bxp := N.box hb_bxp
 clear N h1 h2 h3 hr hlow hb_bxp
 go_enter Tryz.func205, Tryz.ntmps205
 go_wp2_with fail
 have E1 := ak (sq_st E0.out)
 clear E0
 refine (bump_now H0.out (by omega)).mono ?_
 rintro e W2 ⟨rfl, N2⟩
 have H2 := ak N2
 have c2_bxp := N2.box B_bxp.out
 clear N2 H0 c0_bxp
 go_wp2_with fail
 have E3 := ak (sq_st E1.out)
 clear E1
 refine (expectId_now H2.out (by omega)).mono ?_
 rintro e W4 ⟨rfl, N4⟩
 have H4 := ak N4
 have c4_bxp := N4.box B_bxp.out
 clear N4 H2 c2_bxp
 go_wp2_with fail
 go_end0
 obtain hq := sq_nil E3.out
 have hf := G.out
 rw [hq] at hf ⊢
 exact ⟨⟨_, rfl⟩, _, (H4.out.fit hf)⟩
theorem postf_go  {k : Nat}  (ih : ∀ i, i < k → IH B T tv pb i) : Meth B T tv pb k .postf 190 #[.pointer (some ⟨pb, 0, none⟩)] (fun _ => .tuple #[]) := by
 intro m low kd tx W0 F0 W s q hm hlow N hr
 obtain ⟨j, rfl, h1, h2, h3⟩ := run_some hr
 have H0 := ak (N.fit h1)
 have E0 := ak h2
 have G := ak h3
 have HL := ak hlow
 have RUN := ak hr
 clear N h1 h2 h3 hr hlow
 go_enter Tryz.func190, Tryz.ntmps190
 go_wp2_with fail
 obtain ⟨WB, hWB⟩ : ∃ WB, (W.alloc (.cells #[.pointer (some ⟨pb, 0, none⟩)] 74)) = WB := ⟨_, rfl⟩
 have hbl : Below W.heap.size W WB := by rw [← hWB]; exact (below_alloc (Below.refl _ _) _)
 have hx_bxp : WB.heap[W.heap.size]? = some (.cells #[.pointer (some ⟨pb, 0, none⟩)] 74 (0, 0)) := by
  rw [← hWB]
  exact blk_new W _
 obtain ⟨FB, NB, hnew, holdb, hback⟩ := H0.out.enter hbl
 have BK := ak hback
 have hb_bxp : Box pb WB FB (W.heap.size) (.pointer (some ⟨pb, 0, none⟩)) := ⟨hnew _ (by omega) (blk_lt hx_bxp), _, hx_bxp⟩
 have B_bxp := ak hb_bxp
 have HN := ak NB
 have c0_bxp := NB.box hb_bxp
 rw [hWB]
 have hsz : W.heap.size + 1 = WB.heap.size := by rw [← hWB]; simp only [World.size_alloc]
 try rw [hsz]
 clear hsz hWB hbl hnew holdb hback NB H0 hb_bxp hx_bxp
 clear E0
 have L1 := ak RUN.out
 clear RUN
 go_loopg [] (j + 1) (fun g wr => ∃ pl s1, Now B T tv pb 10000000 low kd tx WB FB wr s1 ∧ run T g .postf s1 = some pl ∧ pl.2 = q.2 ∧ g ≤ (j + 1))
 case atStart =>
  obtain ⟨_, _, g1, _, _⟩ := run_some L1.out
  exact ⟨_, _, HN.out.fit g1, L1.out, rfl, Nat.le_refl _⟩
 case round =>
  obtain ⟨pl2, s2, N2, hr2, hpl2, hg2⟩ := hrel
  obtain ⟨i2, rfl, f1, f2, f3⟩ := run_some hr2
  have H2 := ak N2
  have E2 := ak f2
  have PL2 := ak hpl2
  have hi2 := ak hg2
  have c2_bxp := N2.box B_bxp.out
  clear N2 hr2 hpl2 hg2 f1 f2 f3 HN c0_bxp
  go_wp2_with fail
  refine (at_lit H2.out [(⟨#[40]⟩ : ByteArray), (⟨#[46]⟩ : ByteArray)] (by simp)).mono ?_
  rintro e W4 ⟨rfl, N4⟩
  rcases at_cases H2.out [(⟨#[40]⟩ : ByteArray), (⟨#[46]⟩ : ByteArray)] with b3 | b3
  ·rw [b3]
   have H4 := ak N4
   have c4_bxp := N4.box B_bxp.out
   clear N4 H2 c2_bxp
   have E5 := ak (if_t b3 E2.out)
   clear E2 b3
   go_wp2_with fail
   obtain ⟨p6, e6, d6⟩ := bind_in E5.out
   have X6 := ak e6
   have Y6 := ak d6
   clear e6 d6 E5
   refine (at_lit H4.out [(⟨#[40]⟩ : ByteArray)] (by simp)).mono ?_
   rintro e W8 ⟨rfl, N8⟩
   rcases at_cases H4.out [(⟨#[40]⟩ : ByteArray)] with b7 | b7
   ·rw [b7]
    have H8 := ak N8
    have c8_bxp := N8.box B_bxp.out
    clear N8 H4 c4_bxp
    have E9 := ak (if_t b7 X6.out)
    clear X6 b7
    go_wp2_with fail
    obtain ⟨ks10, t10, p10, s10, e10, d10⟩ := wrap_in E9.out
    have R10 := ak e10
    have D10 := ak d10
    have S10 := ak s10
    clear e10 d10 s10 E9
    refine (wrap_now H8.out S10.out (by omega) (by have := HL.out; have := hi2.out; omega) 30 197 #[.pointer (some ⟨pb, 0, none⟩)] #[] p10.2 en_arguments (fit_iff.1 (run_fit R10.out)).1 (fun W1 F1 NN old => ((ih i2 (by have := hi2.out; omega)).arguments _ _ _ _ _ _ _ _ _ (by omega) (by rw [List.length_append, List.length_singleton]; have := HL.out; have := hi2.out; omega) NN R10.out).mono (fun e W' h => ⟨⟨_, h.1⟩, _, h.2⟩))).mono ?_
    rintro e W11 ⟨rfl, N11⟩
    have H11 := ak N11
    have c11_bxp := N11.box B_bxp.out
    clear N11 H8 c8_bxp
    go_wp2_with fail
    have hp12 := D10.out
    have E12 := ak (by have h := Y6.out; rw [hp12] at h; exact h)
    clear hp12 D10 Y6
    go_roundg i2
    case rel =>
     obtain ⟨_, _, g1, _, _⟩ := run_some E12.out
     exact ⟨_, _, H11.out.fit g1, E12.out, PL2.out, by have := hi2.out; omega⟩
    case measure => omega
   ·rw [b7]
    have H8 := ak N8
    have c8_bxp := N8.box B_bxp.out
    clear N8 H4 c4_bxp
    have E13 := ak (if_f b7 X6.out)
    clear X6 b7
    go_wp2_with fail
    refine (look_now H8.out).mono ?_
    rintro e W15 ⟨qb15, rfl, N15, L15⟩
    have H15 := ak (And.intro N15 L15)
    have c15_bxp := N15.box B_bxp.out
    clear N15 L15 H8 c8_bxp
    go_wp2_with fail
    rcases look_cases H15.out.2 with b16 | b16
    ·refine (ident_look H15.out.1 H15.out.2).mono ?_
     rintro e W17 ⟨rfl, N17, L17⟩
     rw [b16]
     have H17 := ak (And.intro N17 L17)
     have c17_bxp := N17.box B_bxp.out
     clear N17 L17 H15 c15_bxp
     have HI17 := ak b16
     clear b16
     go_wp2_with fail
     refine (look_look H17.out.1 H17.out.2).mono ?_
     rintro e W18 ⟨rb18, rfl, N18, L18⟩
     have H18 := ak (And.intro N18 L18)
     have c18_bxp := N18.box B_bxp.out
     clear N18 L18 H17 c17_bxp
     go_wp2_with fail
     rcases look_at H18.out.2 [(⟨#[40]⟩ : ByteArray)] with b19 | b19
     ·refine (at_look H18.out.1 H18.out.2 [(⟨#[40]⟩ : ByteArray)] (by simp)).mono ?_
      rintro e W20 ⟨rfl, N20⟩
      rw [b19]
      have H20 := ak N20
      have c20_bxp := N20.box B_bxp.out
      clear N20 H18 c18_bxp
      have E21 := ak (if_t (and_t2 HI17.out b19) E13.out)
      clear E13
      clear b19
      go_wp2_with fail
      obtain ⟨ks22, t22, p22, s22, e22, d22⟩ := wrap_in E21.out
      have R22 := ak e22
      have D22 := ak d22
      have S22 := ak s22
      clear e22 d22 s22 E21
      refine (wrap_now H20.out S22.out (by omega) (by have := HL.out; have := hi2.out; omega) 31 204 #[] #[.pointer (some ⟨W.heap.size, 0, none⟩)] p22.2 en_postfix_1 (fit_iff.1 (run_fit R22.out)).1 (fun W1 F1 NN old => mcallB_do  (k := i2) (fun i hi => ih i (by have := hi2.out; omega)) (B_bxp.out.old old) (by rw [List.length_append, List.length_singleton]; have := HL.out; have := hi2.out; omega) i2 (by omega) _ _ _ _ (by omega) NN R22.out)).mono ?_
      rintro e W23 ⟨rfl, N23⟩
      have H23 := ak N23
      have c23_bxp := N23.box B_bxp.out
      clear N23 H20 c20_bxp
      go_wp2_with fail
      have hp24 := D22.out
      have E24 := ak (by have h := Y6.out; rw [hp24] at h; exact h)
      clear hp24 D22 Y6
      go_roundg i2
      case rel =>
       obtain ⟨_, _, g1, _, _⟩ := run_some E24.out
       exact ⟨_, _, H23.out.fit g1, E24.out, PL2.out, by have := hi2.out; omega⟩
      case measure => omega
     ·refine (at_look H18.out.1 H18.out.2 [(⟨#[40]⟩ : ByteArray)] (by simp)).mono ?_
      rintro e W25 ⟨rfl, N25⟩
      rw [b19]
      have H25 := ak N25
      have c25_bxp := N25.box B_bxp.out
      clear N25 H18 c18_bxp
      have E26 := ak (if_f (and_t2 HI17.out b19) E13.out)
      clear E13
      clear b19
      go_wp2_with fail
      obtain ⟨ks27, t27, p27, s27, e27, d27⟩ := wrap_in E26.out
      have R27 := ak e27
      have D27 := ak d27
      have S27 := ak s27
      clear e27 d27 s27 E26
      refine (wrap_now H25.out S27.out (by omega) (by have := HL.out; have := hi2.out; omega) 32 205 #[] #[.pointer (some ⟨W.heap.size, 0, none⟩)] p27.2 en_postfix_2 (fit_iff.1 (run_fit R27.out)).1 (fun W1 F1 NN old => fieldB_do  (k := i2) (fun i hi => ih i (by have := hi2.out; omega)) (B_bxp.out.old old) (by rw [List.length_append, List.length_singleton]; have := HL.out; have := hi2.out; omega) i2 (by omega) _ _ _ _ (by omega) NN R27.out)).mono ?_
      rintro e W28 ⟨rfl, N28⟩
      have H28 := ak N28
      have c28_bxp := N28.box B_bxp.out
      clear N28 H25 c25_bxp
      go_wp2_with fail
      have hp29 := D27.out
      have E29 := ak (by have h := Y6.out; rw [hp29] at h; exact h)
      clear hp29 D27 Y6
      go_roundg i2
      case rel =>
       obtain ⟨_, _, g1, _, _⟩ := run_some E29.out
       exact ⟨_, _, H28.out.fit g1, E29.out, PL2.out, by have := hi2.out; omega⟩
      case measure => omega
    ·refine (ident_look H15.out.1 H15.out.2).mono ?_
     rintro e W30 ⟨rfl, N30, L30⟩
     rw [b16]
     have H30 := ak N30
     have c30_bxp := N30.box B_bxp.out
     clear N30 L30 H15 c15_bxp
     have E31 := ak (if_f (and_f1 b16) E13.out)
     clear E13
     clear b16
     go_wp2_with fail
     obtain ⟨ks32, t32, p32, s32, e32, d32⟩ := wrap_in E31.out
     have R32 := ak e32
     have D32 := ak d32
     have S32 := ak s32
     clear e32 d32 s32 E31
     refine (wrap_now H30.out S32.out (by omega) (by have := HL.out; have := hi2.out; omega) 32 205 #[] #[.pointer (some ⟨W.heap.size, 0, none⟩)] p32.2 en_postfix_2 (fit_iff.1 (run_fit R32.out)).1 (fun W1 F1 NN old => fieldB_do  (k := i2) (fun i hi => ih i (by have := hi2.out; omega)) (B_bxp.out.old old) (by rw [List.length_append, List.length_singleton]; have := HL.out; have := hi2.out; omega) i2 (by omega) _ _ _ _ (by omega) NN R32.out)).mono ?_
     rintro e W33 ⟨rfl, N33⟩
     have H33 := ak N33
     have c33_bxp := N33.box B_bxp.out
     clear N33 H30 c30_bxp
     go_wp2_with fail
     have hp34 := D32.out
     have E34 := ak (by have h := Y6.out; rw [hp34] at h; exact h)
     clear hp34 D32 Y6
     go_roundg i2
     case rel =>
      obtain ⟨_, _, g1, _, _⟩ := run_some E34.out
      exact ⟨_, _, H33.out.fit g1, E34.out, PL2.out, by have := hi2.out; omega⟩
     case measure => omega
  ·rw [b3]
   have H4 := ak N4
   have c4_bxp := N4.box B_bxp.out
   clear N4 H2 c2_bxp
   have E35 := ak (if_f b3 E2.out)
   clear E2 b3
   go_wp2_with fail
   have hq36 : q.2 = _ := PL2.out.symm.trans (congrArg Prod.snd (some_in E35.out))
   have E36 := ak hq36
   clear hq36 E35
   go_end0
   obtain hq := E36.out
   have hf := G.out
   rw [hq] at hf ⊢
   exact ⟨rfl, (BK.out _ _ _ _ _ _ (H4.out.fit hf))⟩
theorem macroB_do  {k : Nat} {bxp : Nat}  (ih : ∀ i, i < k → IH B T tv pb i) (hb_bxp : Box pb W0 F0 bxp (.pointer (some ⟨pb, 0, none⟩))) (hlow : low.length + k ≤ 10000000) : Does B T tv pb (k + 1) .macroB 196 #[.pointer (some ⟨bxp, 0, none⟩)] low kd tx W0 F0 := by
 intro i hi m W s q hm N hr
 obtain ⟨j, rfl, h1, h2, h3⟩ := run_some hr
 have H0 := ak (N.fit h1)
 have E0 := ak h2
 have G := ak h3
 have HL := ak (show low.length + (j + 1) ≤ 10000000 by omega)
 have B_bxp := ak hb_bxp
 have c0_bxp := N.box hb_bxp
 clear N h1 h2 h3 hr hlow hb_bxp
 go_enter Tryz.func196, Tryz.ntmps196
 go_wp2_with fail
 have E1 := ak (sq_st E0.out)
 clear E0
 refine (bump_now H0.out (by omega)).mono ?_
 rintro e W2 ⟨rfl, N2⟩
 have H2 := ak N2
 have c2_bxp := N2.box B_bxp.out
 clear N2 H0 c0_bxp
 go_wp2_with fail
 obtain ⟨p3, e3, d3⟩ := sq_cons E1.out
 have R3 := ak e3
 have E4 := ak (d3)
 clear E1 e3 d3
 refine ((ih j (by omega)).arguments _ _ _ _ _ _ _ _ _ (by omega) (by have := HL.out; omega) H2.out R3.out).mono ?_
 rintro e W5 ⟨rfl, N5⟩
 have H5 := ak N5
 have c5_bxp := N5.box B_bxp.out
 clear N5 H2 c2_bxp
 go_wp2_with fail
 go_end0
 obtain hq := sq_nil E4.out
 have hf := G.out
 rw [hq] at hf ⊢
 exact ⟨⟨_, rfl⟩, _, (H5.out.fit hf)⟩
theorem parenB_do  {k : Nat} {bxp : Nat}  (ih : ∀ i, i < k → IH B T tv pb i) (hb_bxp : Box pb W0 F0 bxp (.pointer (some ⟨pb, 0, none⟩))) (hlow : low.length + k ≤ 10000000) : Does B T tv pb (k + 1) .parenB 198 #[.pointer (some ⟨bxp, 0, none⟩)] low kd tx W0 F0 := by
 intro i hi m W s q hm N hr
 obtain ⟨j, rfl, h1, h2, h3⟩ := run_some hr
 have H0 := ak (N.fit h1)
 have E0 := ak h2
 have G := ak h3
 have HL := ak (show low.length + (j + 1) ≤ 10000000 by omega)
 have B_bxp := ak hb_bxp
 have c0_bxp := N.box hb_bxp
 clear N h1 h2 h3 hr hlow hb_bxp
 go_enter Tryz.func198, Tryz.ntmps198
 go_wp2_with fail
 have E1 := ak (sq_st E0.out)
 clear E0
 refine (bump_now H0.out (by omega)).mono ?_
 rintro e W2 ⟨rfl, N2⟩
 have H2 := ak N2
 have c2_bxp := N2.box B_bxp.out
 clear N2 H0 c0_bxp
 go_wp2_with fail
 obtain ⟨p3, e3, d3⟩ := sq_cons E1.out
 have R3 := ak e3
 have E4 := ak (d3)
 clear E1 e3 d3
 refine ((ih j (by omega)).expr _ _ _ _ _ _ _ _ _ (by omega) (by have := HL.out; omega) H2.out R3.out).mono ?_
 rintro e W5 ⟨rfl, N5⟩
 have H5 := ak N5
 have c5_bxp := N5.box B_bxp.out
 clear N5 H2 c2_bxp
 go_wp2_with fail
 have E6 := ak (sq_st E4.out)
 clear E4
 refine (expect_now H5.out (by omega) (⟨#[41]⟩ : ByteArray)).mono ?_
 rintro e W7 ⟨rfl, N7⟩
 have H7 := ak N7
 have c7_bxp := N7.box B_bxp.out
 clear N7 H5 c5_bxp
 go_wp2_with fail
 go_end0
 obtain hq := sq_nil E6.out
 have hf := G.out
 rw [hq] at hf ⊢
 exact ⟨⟨_, rfl⟩, _, (H7.out.fit hf)⟩
theorem primary_go  {k : Nat}  (ih : ∀ i, i < k → IH B T tv pb i) : Meth B T tv pb k .primary 184 #[.pointer (some ⟨pb, 0, none⟩)] (fun _ => .tuple #[]) := by
 intro m low kd tx W0 F0 W s q hm hlow N hr
 obtain ⟨j, rfl, h1, h2, h3⟩ := run_some hr
 have H0 := ak (N.fit h1)
 have E0 := ak h2
 have G := ak h3
 have HL := ak hlow
 have RUN := ak hr
 clear N h1 h2 h3 hr hlow
 go_enter Tryz.func184, Tryz.ntmps184
 go_wp2_with fail
 obtain ⟨WB, hWB⟩ : ∃ WB, (W.alloc (.cells #[.pointer (some ⟨pb, 0, none⟩)] 74)) = WB := ⟨_, rfl⟩
 have hbl : Below W.heap.size W WB := by rw [← hWB]; exact (below_alloc (Below.refl _ _) _)
 have hx_bxp : WB.heap[W.heap.size]? = some (.cells #[.pointer (some ⟨pb, 0, none⟩)] 74 (0, 0)) := by
  rw [← hWB]
  exact blk_new W _
 obtain ⟨FB, NB, hnew, holdb, hback⟩ := H0.out.enter hbl
 have BK := ak hback
 have hb_bxp : Box pb WB FB (W.heap.size) (.pointer (some ⟨pb, 0, none⟩)) := ⟨hnew _ (by omega) (blk_lt hx_bxp), _, hx_bxp⟩
 have B_bxp := ak hb_bxp
 have HN := ak NB
 have c0_bxp := NB.box hb_bxp
 rw [hWB]
 have hsz : W.heap.size + 1 = WB.heap.size := by rw [← hWB]; simp only [World.size_alloc]
 try rw [hsz]
 clear hsz hWB hbl hnew holdb hback NB H0 hb_bxp hx_bxp
 refine (peek_now HN.out).mono ?_
 rintro e W1 ⟨rfl, N1⟩
 obtain ⟨tk, htk⟩ : ∃ tk, Hid ((peekT T s.1).1 = tk) := ⟨_, rfl⟩
 obtain ⟨tt, htt⟩ : ∃ tt, Hid ((peekT T s.1).2 = tt) := ⟨_, rfl⟩
 rw [show (peekT T s.1).1 = tk from htk, show (peekT T s.1).2 = tt from htt]
 have HTK := ak (show (peekT T s.1).1 = tk from htk)
 have HTT := ak (show (peekT T s.1).2 = tt from htt)
 have H1 := ak N1
 have c1_bxp := N1.box B_bxp.out
 clear htk htt N1 HN c0_bxp
 have ca1_bxp := fun o => (World.cell?_alloc_some W1 ⟨W.heap.size, 0, none⟩ o (by rw [c1_bxp]; rfl)).trans c1_bxp
 by_cases k105 : tk = 105
 ·subst k105
  go_wp2_with fail
  obtain ⟨WB2, hWB2⟩ : ∃ WB2, (W1.alloc (.cells #[.int .i64 105, .string tt] 98)) = WB2 := ⟨_, rfl⟩
  have hbl2 : Below W1.heap.size W1 WB2 := by rw [← hWB2]; exact (below_alloc (Below.refl _ _) _)
  have hx2 : WB2.heap[W1.heap.size]? = some (.cells #[.int .i64 105, .string tt] 98 (0, 0)) := by rw [← hWB2]; exact blk_new W1 _
  obtain ⟨FB2, NB2, hnew2, old2, hback2⟩ := H1.out.enter2 hbl2
  have BK2 := ak hback2
  have B2_bxp := ak (B_bxp.out.old old2)
  have B2_bxt := ak (show Box2 pb WB2 FB2 W1.heap.size (.int .i64 105) (.string tt) from ⟨hnew2 _ (Nat.le_refl _) (blk_lt hx2), _, hx2⟩)
  have H2 := ak NB2
  have c2_bxp := NB2.box B2_bxp.out
  obtain ⟨c2_bxt0, c2_bxt1⟩ := NB2.box2 B2_bxt.out
  have hsz2 : W1.heap.size + 1 = WB2.heap.size := by rw [← hWB2]; simp only [World.size_alloc]
  rw [hWB2]
  try rw [hsz2]
  clear hsz2 hWB2 hbl2 hnew2 old2 hback2 hx2 NB2 H1 c1_bxp ca1_bxp
  have E3 := ak (if_y HTK.out E0.out)
  clear E0
  obtain ⟨p4, e4, d4⟩ := node_in E3.out
  have R4 := ak e4
  have D4 := ak d4
  clear e4 d4 E3
  refine (node_now H2.out (by omega) (by have := HL.out; omega) (27) 59 #[.pointer (some ⟨pb, 0, none⟩)] #[] p4.2 en_bump (fit_iff.1 (run_fit R4.out)).1 (fun W1 F1 NN old => bump_does (j + 1) j (by omega) _ _ _ _ (by omega) NN R4.out)).mono ?_
  rintro e W5 ⟨rfl, N5⟩
  have H5 := ak N5
  have c5_bxp := N5.box B2_bxp.out
  obtain ⟨c5_bxt0, c5_bxt1⟩ := N5.box2 B2_bxt.out
  clear N5 H2 c2_bxp c2_bxt0 c2_bxt1
  go_wp2_with fail
  go_end0
  obtain hq := D4.out
  have hf := G.out
  rw [hq] at hf ⊢
  exact ⟨rfl, (BK.out _ _ _ _ _ _ (BK2.out _ _ _ _ _ _ (H5.out.fit hf)))⟩
 have f105 : (tk == 105) = false := beq_eq_false_iff_ne.2 k105
 have K105 := ak k105
 clear k105
 by_cases k106 : tk = 106
 ·subst k106
  go_wp2_with fail
  obtain ⟨WB6, hWB6⟩ : ∃ WB6, (W1.alloc (.cells #[.int .i64 106, .string tt] 98)) = WB6 := ⟨_, rfl⟩
  have hbl6 : Below W1.heap.size W1 WB6 := by rw [← hWB6]; exact (below_alloc (Below.refl _ _) _)
  have hx6 : WB6.heap[W1.heap.size]? = some (.cells #[.int .i64 106, .string tt] 98 (0, 0)) := by rw [← hWB6]; exact blk_new W1 _
  obtain ⟨FB6, NB6, hnew6, old6, hback6⟩ := H1.out.enter2 hbl6
  have BK6 := ak hback6
  have B6_bxp := ak (B_bxp.out.old old6)
  have B6_bxt := ak (show Box2 pb WB6 FB6 W1.heap.size (.int .i64 106) (.string tt) from ⟨hnew6 _ (Nat.le_refl _) (blk_lt hx6), _, hx6⟩)
  have H6 := ak NB6
  have c6_bxp := NB6.box B6_bxp.out
  obtain ⟨c6_bxt0, c6_bxt1⟩ := NB6.box2 B6_bxt.out
  have hsz6 : W1.heap.size + 1 = WB6.heap.size := by rw [← hWB6]; simp only [World.size_alloc]
  rw [hWB6]
  try rw [hsz6]
  clear hsz6 hWB6 hbl6 hnew6 old6 hback6 hx6 NB6 H1 c1_bxp ca1_bxp
  have E7 := ak (if_n (by rw [HTK.out]; decide) E0.out)
  clear E0
  have E8 := ak (if_y HTK.out E7.out)
  clear E7
  obtain ⟨p9, e9, d9⟩ := node_in E8.out
  have R9 := ak e9
  have D9 := ak d9
  clear e9 d9 E8
  refine (node_now H6.out (by omega) (by have := HL.out; omega) (29) 59 #[.pointer (some ⟨pb, 0, none⟩)] #[] p9.2 en_bump (fit_iff.1 (run_fit R9.out)).1 (fun W1 F1 NN old => bump_does (j + 1) j (by omega) _ _ _ _ (by omega) NN R9.out)).mono ?_
  rintro e W10 ⟨rfl, N10⟩
  have H10 := ak N10
  have c10_bxp := N10.box B6_bxp.out
  obtain ⟨c10_bxt0, c10_bxt1⟩ := N10.box2 B6_bxt.out
  clear N10 H6 c6_bxp c6_bxt0 c6_bxt1
  go_wp2_with fail
  go_end0
  obtain hq := D9.out
  have hf := G.out
  rw [hq] at hf ⊢
  exact ⟨rfl, (BK.out _ _ _ _ _ _ (BK6.out _ _ _ _ _ _ (H10.out.fit hf)))⟩
 have f106 : (tk == 106) = false := beq_eq_false_iff_ne.2 k106
 have K106 := ak k106
 clear k106
 by_cases k103 : tk = 103
 ·subst k103
  go_wp2_with fail
  obtain ⟨WB11, hWB11⟩ : ∃ WB11, (W1.alloc (.cells #[.int .i64 103, .string tt] 98)) = WB11 := ⟨_, rfl⟩
  have hbl11 : Below W1.heap.size W1 WB11 := by rw [← hWB11]; exact (below_alloc (Below.refl _ _) _)
  have hx11 : WB11.heap[W1.heap.size]? = some (.cells #[.int .i64 103, .string tt] 98 (0, 0)) := by rw [← hWB11]; exact blk_new W1 _
  obtain ⟨FB11, NB11, hnew11, old11, hback11⟩ := H1.out.enter2 hbl11
  have BK11 := ak hback11
  have B11_bxp := ak (B_bxp.out.old old11)
  have B11_bxt := ak (show Box2 pb WB11 FB11 W1.heap.size (.int .i64 103) (.string tt) from ⟨hnew11 _ (Nat.le_refl _) (blk_lt hx11), _, hx11⟩)
  have H11 := ak NB11
  have c11_bxp := NB11.box B11_bxp.out
  obtain ⟨c11_bxt0, c11_bxt1⟩ := NB11.box2 B11_bxt.out
  have hsz11 : W1.heap.size + 1 = WB11.heap.size := by rw [← hWB11]; simp only [World.size_alloc]
  rw [hWB11]
  try rw [hsz11]
  clear hsz11 hWB11 hbl11 hnew11 old11 hback11 hx11 NB11 H1 c1_bxp ca1_bxp
  have E12 := ak (if_n (by rw [HTK.out]; decide) E0.out)
  clear E0
  have E13 := ak (if_n (by rw [HTK.out]; decide) E12.out)
  clear E12
  refine (at_lit H11.out [(⟨#[116, 114, 117, 101]⟩ : ByteArray), (⟨#[102, 97, 108, 115, 101]⟩ : ByteArray)] (by simp)).mono ?_
  rintro e W15 ⟨rfl, N15⟩
  rcases at_cases H11.out [(⟨#[116, 114, 117, 101]⟩ : ByteArray), (⟨#[102, 97, 108, 115, 101]⟩ : ByteArray)] with b14 | b14
  ·rw [b14]
   have H15 := ak N15
   have c15_bxp := N15.box B11_bxp.out
   obtain ⟨c15_bxt0, c15_bxt1⟩ := N15.box2 B11_bxt.out
   clear N15 H11 c11_bxp c11_bxt0 c11_bxt1
   have E16 := ak (if_t b14 E13.out)
   clear E13 b14
   go_wp2_with fail
   obtain ⟨p17, e17, d17⟩ := node_in E16.out
   have R17 := ak e17
   have D17 := ak d17
   clear e17 d17 E16
   refine (node_now H15.out (by omega) (by have := HL.out; omega) (28) 59 #[.pointer (some ⟨pb, 0, none⟩)] #[] p17.2 en_bump (fit_iff.1 (run_fit R17.out)).1 (fun W1 F1 NN old => bump_does (j + 1) j (by omega) _ _ _ _ (by omega) NN R17.out)).mono ?_
   rintro e W18 ⟨rfl, N18⟩
   have H18 := ak N18
   have c18_bxp := N18.box B11_bxp.out
   obtain ⟨c18_bxt0, c18_bxt1⟩ := N18.box2 B11_bxt.out
   clear N18 H15 c15_bxp c15_bxt0 c15_bxt1
   go_wp2_with fail
   go_end0
   obtain hq := D17.out
   have hf := G.out
   rw [hq] at hf ⊢
   exact ⟨rfl, (BK.out _ _ _ _ _ _ (BK11.out _ _ _ _ _ _ (H18.out.fit hf)))⟩
  ·rw [b14]
   have H15 := ak N15
   have c15_bxp := N15.box B11_bxp.out
   obtain ⟨c15_bxt0, c15_bxt1⟩ := N15.box2 B11_bxt.out
   clear N15 H11 c11_bxp c11_bxt0 c11_bxt1
   have E19 := ak (if_f b14 E13.out)
   clear E13 b14
   go_wp2_with fail
   have E20 := ak (if_y HTK.out E19.out)
   clear E19
   obtain ⟨p21, e21, d21⟩ := bind_in E20.out
   have X21 := ak e21
   have Y21 := ak d21
   clear e21 d21 E20
   refine ((ih j (by omega)).path false _ _ _ _ _ _ _ _ _ (by omega) (by have := HL.out; omega) H15.out X21.out).mono ?_
   rintro e W22 ⟨rfl, N22⟩
   have H22 := ak N22
   have c22_bxp := N22.box B11_bxp.out
   obtain ⟨c22_bxt0, c22_bxt1⟩ := N22.box2 B11_bxt.out
   clear N22 H15 c15_bxp c15_bxt0 c15_bxt1
   go_wp2_with fail
   rcases at_cases H22.out [(⟨#[33]⟩ : ByteArray)] with b24 | b24
   ·refine (at_lit H22.out [(⟨#[33]⟩ : ByteArray)] (by simp)).mono ?_
    rintro e W25 ⟨rfl, N25⟩
    rw [b24]
    have H25 := ak N25
    have c25_bxp := N25.box B11_bxp.out
    obtain ⟨c25_bxt0, c25_bxt1⟩ := N25.box2 B11_bxt.out
    clear N25 H22 c22_bxp c22_bxt0 c22_bxt1
    have HI26 := ak b24
    clear b24
    go_wp2_with fail
    refine (look_now H25.out).mono ?_
    rintro e W27 ⟨qb27, rfl, N27, L27⟩
    have H27 := ak (And.intro N27 L27)
    have c27_bxp := N27.box B11_bxp.out
    obtain ⟨c27_bxt0, c27_bxt1⟩ := N27.box2 B11_bxt.out
    clear N27 L27 H25 c25_bxp c25_bxt0 c25_bxt1
    go_wp2_with fail
    rcases look_at H27.out.2 [(⟨#[40]⟩ : ByteArray)] with b28 | b28
    ·refine (at_look H27.out.1 H27.out.2 [(⟨#[40]⟩ : ByteArray)] (by simp)).mono ?_
     rintro e W29 ⟨rfl, N29⟩
     rw [b28]
     have H29 := ak N29
     have c29_bxp := N29.box B11_bxp.out
     obtain ⟨c29_bxt0, c29_bxt1⟩ := N29.box2 B11_bxt.out
     clear N29 H27 c27_bxp c27_bxt0 c27_bxt1
     have E30 := ak (if_t (and_t2 HI26.out b28) Y21.out)
     clear Y21
     clear b28
     go_wp2_with fail
     obtain ⟨ks31, t31, p31, s31, e31, d31⟩ := wrap_in E30.out
     have R31 := ak e31
     have D31 := ak d31
     have S31 := ak s31
     clear e31 d31 s31 E30
     refine (wrap_now H29.out S31.out (by omega) (by have := HL.out; omega) 42 196 #[] #[.pointer (some ⟨W.heap.size, 0, none⟩)] p31.2 en_primary_1 (fit_iff.1 (run_fit R31.out)).1 (fun W1 F1 NN old => macroB_do  (k := j) (fun i hi => ih i (by omega)) (B11_bxp.out.old old) (by rw [List.length_append, List.length_singleton]; have := HL.out; omega) j (by omega) _ _ _ _ (by omega) NN R31.out)).mono ?_
     rintro e W32 ⟨rfl, N32⟩
     have H32 := ak N32
     have c32_bxp := N32.box B11_bxp.out
     obtain ⟨c32_bxt0, c32_bxt1⟩ := N32.box2 B11_bxt.out
     clear N32 H29 c29_bxp c29_bxt0 c29_bxt1
     go_wp2_with fail
     go_end0
     obtain hq := D31.out
     have hf := G.out
     rw [hq] at hf ⊢
     exact ⟨rfl, (BK.out _ _ _ _ _ _ (BK11.out _ _ _ _ _ _ (H32.out.fit hf)))⟩
    ·refine (at_look H27.out.1 H27.out.2 [(⟨#[40]⟩ : ByteArray)] (by simp)).mono ?_
     rintro e W33 ⟨rfl, N33⟩
     rw [b28]
     have H33 := ak N33
     have c33_bxp := N33.box B11_bxp.out
     obtain ⟨c33_bxt0, c33_bxt1⟩ := N33.box2 B11_bxt.out
     clear N33 H27 c27_bxp c27_bxt0 c27_bxt1
     have E34 := ak (if_f (and_t2 HI26.out b28) Y21.out)
     clear Y21
     clear b28
     go_wp2_with fail
     go_end0
     obtain hq := some_in E34.out
     have hf := G.out
     rw [hq] at hf ⊢
     exact ⟨rfl, (BK.out _ _ _ _ _ _ (BK11.out _ _ _ _ _ _ (H33.out.fit hf)))⟩
   ·refine (at_lit H22.out [(⟨#[33]⟩ : ByteArray)] (by simp)).mono ?_
    rintro e W35 ⟨rfl, N35⟩
    rw [b24]
    have H35 := ak N35
    have c35_bxp := N35.box B11_bxp.out
    obtain ⟨c35_bxt0, c35_bxt1⟩ := N35.box2 B11_bxt.out
    clear N35 H22 c22_bxp c22_bxt0 c22_bxt1
    have E36 := ak (if_f (and_f1 b24) Y21.out)
    clear Y21
    clear b24
    go_wp2_with fail
    go_end0
    obtain hq := some_in E36.out
    have hf := G.out
    rw [hq] at hf ⊢
    exact ⟨rfl, (BK.out _ _ _ _ _ _ (BK11.out _ _ _ _ _ _ (H35.out.fit hf)))⟩
 have f103 : (tk == 103) = false := beq_eq_false_iff_ne.2 k103
 have K103 := ak k103
 clear k103
 go_wp2_with fail
 obtain ⟨WB37, hWB37⟩ : ∃ WB37, (W1.alloc (.cells #[.int .i64 tk, .string tt] 98)) = WB37 := ⟨_, rfl⟩
 have hbl37 : Below W1.heap.size W1 WB37 := by rw [← hWB37]; exact (below_alloc (Below.refl _ _) _)
 have hx37 : WB37.heap[W1.heap.size]? = some (.cells #[.int .i64 tk, .string tt] 98 (0, 0)) := by rw [← hWB37]; exact blk_new W1 _
 obtain ⟨FB37, NB37, hnew37, old37, hback37⟩ := H1.out.enter2 hbl37
 have BK37 := ak hback37
 have B37_bxp := ak (B_bxp.out.old old37)
 have B37_bxt := ak (show Box2 pb WB37 FB37 W1.heap.size (.int .i64 tk) (.string tt) from ⟨hnew37 _ (Nat.le_refl _) (blk_lt hx37), _, hx37⟩)
 have H37 := ak NB37
 have c37_bxp := NB37.box B37_bxp.out
 obtain ⟨c37_bxt0, c37_bxt1⟩ := NB37.box2 B37_bxt.out
 have hsz37 : W1.heap.size + 1 = WB37.heap.size := by rw [← hWB37]; simp only [World.size_alloc]
 rw [hWB37]
 try rw [hsz37]
 clear hsz37 hWB37 hbl37 hnew37 old37 hback37 hx37 NB37 H1 c1_bxp ca1_bxp
 have E38 := ak (if_n (by rw [HTK.out]; exact K105.out) E0.out)
 clear E0
 have E39 := ak (if_n (by rw [HTK.out]; exact K106.out) E38.out)
 clear E38
 refine (at_lit H37.out [(⟨#[116, 114, 117, 101]⟩ : ByteArray), (⟨#[102, 97, 108, 115, 101]⟩ : ByteArray)] (by simp)).mono ?_
 rintro e W41 ⟨rfl, N41⟩
 rcases at_cases H37.out [(⟨#[116, 114, 117, 101]⟩ : ByteArray), (⟨#[102, 97, 108, 115, 101]⟩ : ByteArray)] with b40 | b40
 ·rw [b40]
  have H41 := ak N41
  have c41_bxp := N41.box B37_bxp.out
  obtain ⟨c41_bxt0, c41_bxt1⟩ := N41.box2 B37_bxt.out
  clear N41 H37 c37_bxp c37_bxt0 c37_bxt1
  have E42 := ak (if_t b40 E39.out)
  clear E39 b40
  go_wp2_with fail
  obtain ⟨p43, e43, d43⟩ := node_in E42.out
  have R43 := ak e43
  have D43 := ak d43
  clear e43 d43 E42
  refine (node_now H41.out (by omega) (by have := HL.out; omega) (28) 59 #[.pointer (some ⟨pb, 0, none⟩)] #[] p43.2 en_bump (fit_iff.1 (run_fit R43.out)).1 (fun W1 F1 NN old => bump_does (j + 1) j (by omega) _ _ _ _ (by omega) NN R43.out)).mono ?_
  rintro e W44 ⟨rfl, N44⟩
  have H44 := ak N44
  have c44_bxp := N44.box B37_bxp.out
  obtain ⟨c44_bxt0, c44_bxt1⟩ := N44.box2 B37_bxt.out
  clear N44 H41 c41_bxp c41_bxt0 c41_bxt1
  go_wp2_with fail
  go_end0
  obtain hq := D43.out
  have hf := G.out
  rw [hq] at hf ⊢
  exact ⟨rfl, (BK.out _ _ _ _ _ _ (BK37.out _ _ _ _ _ _ (H44.out.fit hf)))⟩
 ·rw [b40]
  have H41 := ak N41
  have c41_bxp := N41.box B37_bxp.out
  obtain ⟨c41_bxt0, c41_bxt1⟩ := N41.box2 B37_bxt.out
  clear N41 H37 c37_bxp c37_bxt0 c37_bxt1
  have E45 := ak (if_f b40 E39.out)
  clear E39 b40
  go_wp2_with fail
  have E46 := ak (if_n (by rw [HTK.out]; exact K103.out) E45.out)
  clear E45
  refine (at_lit H41.out [(⟨#[40]⟩ : ByteArray)] (by simp)).mono ?_
  rintro e W48 ⟨rfl, N48⟩
  rcases at_cases H41.out [(⟨#[40]⟩ : ByteArray)] with b47 | b47
  ·rw [b47]
   have H48 := ak N48
   have c48_bxp := N48.box B37_bxp.out
   obtain ⟨c48_bxt0, c48_bxt1⟩ := N48.box2 B37_bxt.out
   clear N48 H41 c41_bxp c41_bxt0 c41_bxt1
   have E49 := ak (if_t b47 E46.out)
   clear E46 b47
   go_wp2_with fail
   obtain ⟨p50, e50, d50⟩ := node_in E49.out
   have R50 := ak e50
   have D50 := ak d50
   clear e50 d50 E49
   refine (node_now H48.out (by omega) (by have := HL.out; omega) (60) 198 #[] #[.pointer (some ⟨W.heap.size, 0, none⟩)] p50.2 en_primary_2 (fit_iff.1 (run_fit R50.out)).1 (fun W1 F1 NN old => parenB_do  (k := j) (fun i hi => ih i (by omega)) (B37_bxp.out.old old) (by rw [List.length_append, List.length_singleton]; have := HL.out; omega) j (by omega) _ _ _ _ (by omega) NN R50.out)).mono ?_
   rintro e W51 ⟨rfl, N51⟩
   have H51 := ak N51
   have c51_bxp := N51.box B37_bxp.out
   obtain ⟨c51_bxt0, c51_bxt1⟩ := N51.box2 B37_bxt.out
   clear N51 H48 c48_bxp c48_bxt0 c48_bxt1
   go_wp2_with fail
   go_end0
   obtain hq := D50.out
   have hf := G.out
   rw [hq] at hf ⊢
   exact ⟨rfl, (BK.out _ _ _ _ _ _ (BK37.out _ _ _ _ _ _ (H51.out.fit hf)))⟩
  ·rw [b47]
   have H48 := ak N48
   have c48_bxp := N48.box B37_bxp.out
   obtain ⟨c48_bxt0, c48_bxt1⟩ := N48.box2 B37_bxt.out
   clear N48 H41 c41_bxp c41_bxt0 c41_bxt1
   have E52 := ak (if_f b47 E46.out)
   clear E46 b47
   go_wp2_with fail
   refine (at_lit H48.out [(⟨#[123]⟩ : ByteArray)] (by simp)).mono ?_
   rintro e W54 ⟨rfl, N54⟩
   rcases at_cases H48.out [(⟨#[123]⟩ : ByteArray)] with b53 | b53
   ·rw [b53]
    have H54 := ak N54
    have c54_bxp := N54.box B37_bxp.out
    obtain ⟨c54_bxt0, c54_bxt1⟩ := N54.box2 B37_bxt.out
    clear N54 H48 c48_bxp c48_bxt0 c48_bxt1
    have E55 := ak (if_t b53 E52.out)
    clear E52 b53
    go_wp2_with fail
    refine ((ih j (by omega)).block _ _ _ _ _ _ _ _ _ (by omega) (by have := HL.out; omega) H54.out E55.out).mono ?_
    rintro e W56 ⟨rfl, N56⟩
    have H56 := ak N56
    have c56_bxp := N56.box B37_bxp.out
    obtain ⟨c56_bxt0, c56_bxt1⟩ := N56.box2 B37_bxt.out
    clear N56 H54 c54_bxp c54_bxt0 c54_bxt1
    go_wp2_with fail
    go_end0
    exact ⟨rfl, (BK.out _ _ _ _ _ _ (BK37.out _ _ _ _ _ _ H56.out))⟩
   ·rw [b53]
    have H54 := ak N54
    have c54_bxp := N54.box B37_bxp.out
    obtain ⟨c54_bxt0, c54_bxt1⟩ := N54.box2 B37_bxt.out
    clear N54 H48 c48_bxp c48_bxt0 c48_bxt1
    have E57 := ak (if_f b53 E52.out)
    clear E52 b53
    go_wp2_with fail
    refine (at_lit H54.out [(⟨#[105, 102]⟩ : ByteArray)] (by simp)).mono ?_
    rintro e W59 ⟨rfl, N59⟩
    rcases at_cases H54.out [(⟨#[105, 102]⟩ : ByteArray)] with b58 | b58
    ·rw [b58]
     have H59 := ak N59
     have c59_bxp := N59.box B37_bxp.out
     obtain ⟨c59_bxt0, c59_bxt1⟩ := N59.box2 B37_bxt.out
     clear N59 H54 c54_bxp c54_bxt0 c54_bxt1
     have E60 := ak (if_t b58 E57.out)
     clear E57 b58
     go_wp2_with fail
     refine ((ih j (by omega)).ifExpr _ _ _ _ _ _ _ _ _ (by omega) (by have := HL.out; omega) H59.out E60.out).mono ?_
     rintro e W61 ⟨rfl, N61⟩
     have H61 := ak N61
     have c61_bxp := N61.box B37_bxp.out
     obtain ⟨c61_bxt0, c61_bxt1⟩ := N61.box2 B37_bxt.out
     clear N61 H59 c59_bxp c59_bxt0 c59_bxt1
     go_wp2_with fail
     go_end0
     exact ⟨rfl, (BK.out _ _ _ _ _ _ (BK37.out _ _ _ _ _ _ H61.out))⟩
    ·rw [b58]
     have H59 := ak N59
     have c59_bxp := N59.box B37_bxp.out
     obtain ⟨c59_bxt0, c59_bxt1⟩ := N59.box2 B37_bxt.out
     clear N59 H54 c54_bxp c54_bxt0 c54_bxt1
     have E62 := ak (if_f b58 E57.out)
     clear E57 b58
     go_wp2_with fail
     refine (at_lit H59.out [(⟨#[109, 97, 116, 99, 104]⟩ : ByteArray)] (by simp)).mono ?_
     rintro e W64 ⟨rfl, N64⟩
     rcases at_cases H59.out [(⟨#[109, 97, 116, 99, 104]⟩ : ByteArray)] with b63 | b63
     ·rw [b63]
      have H64 := ak N64
      have c64_bxp := N64.box B37_bxp.out
      obtain ⟨c64_bxt0, c64_bxt1⟩ := N64.box2 B37_bxt.out
      clear N64 H59 c59_bxp c59_bxt0 c59_bxt1
      have E65 := ak (if_t b63 E62.out)
      clear E62 b63
      go_wp2_with fail
      obtain ⟨p66, e66, d66⟩ := node_in E65.out
      have R66 := ak e66
      have D66 := ak d66
      clear e66 d66 E65
      refine (node_now H64.out (by omega) (by have := HL.out; omega) (35) 200 #[.pointer (some ⟨pb, 0, none⟩)] #[] p66.2 en_match (fit_iff.1 (run_fit R66.out)).1 (fun W1 F1 NN old => ((ih j (by omega)).matchS _ _ _ _ _ _ _ _ _ (by omega) (by rw [List.length_append, List.length_singleton]; have := HL.out; omega) NN R66.out).mono (fun e W' h => ⟨⟨_, h.1⟩, _, h.2⟩))).mono ?_
      rintro e W67 ⟨rfl, N67⟩
      have H67 := ak N67
      have c67_bxp := N67.box B37_bxp.out
      obtain ⟨c67_bxt0, c67_bxt1⟩ := N67.box2 B37_bxt.out
      clear N67 H64 c64_bxp c64_bxt0 c64_bxt1
      go_wp2_with fail
      go_end0
      obtain hq := D66.out
      have hf := G.out
      rw [hq] at hf ⊢
      exact ⟨rfl, (BK.out _ _ _ _ _ _ (BK37.out _ _ _ _ _ _ (H67.out.fit hf)))⟩
     ·rw [b63]
      have H64 := ak N64
      have c64_bxp := N64.box B37_bxp.out
      obtain ⟨c64_bxt0, c64_bxt1⟩ := N64.box2 B37_bxt.out
      clear N64 H59 c59_bxp c59_bxt0 c59_bxt1
      have E68 := ak (if_f b63 E62.out)
      clear E62 b63
      go_wp2_with fail
      refine (at_lit H64.out [(⟨#[110, 101, 119]⟩ : ByteArray)] (by simp)).mono ?_
      rintro e W70 ⟨rfl, N70⟩
      rcases at_cases H64.out [(⟨#[110, 101, 119]⟩ : ByteArray)] with b69 | b69
      ·rw [b69]
       have H70 := ak N70
       have c70_bxp := N70.box B37_bxp.out
       obtain ⟨c70_bxt0, c70_bxt1⟩ := N70.box2 B37_bxt.out
       clear N70 H64 c64_bxp c64_bxt0 c64_bxt1
       have E71 := ak (if_t b69 E68.out)
       clear E68 b69
       go_wp2_with fail
       obtain ⟨p72, e72, d72⟩ := node_in E71.out
       have R72 := ak e72
       have D72 := ak d72
       clear e72 d72 E71
       refine (node_now H70.out (by omega) (by have := HL.out; omega) (33) 201 #[.pointer (some ⟨pb, 0, none⟩)] #[] p72.2 en_structLit (fit_iff.1 (run_fit R72.out)).1 (fun W1 F1 NN old => ((ih j (by omega)).structS _ _ _ _ _ _ _ _ _ (by omega) (by rw [List.length_append, List.length_singleton]; have := HL.out; omega) NN R72.out).mono (fun e W' h => ⟨⟨_, h.1⟩, _, h.2⟩))).mono ?_
       rintro e W73 ⟨rfl, N73⟩
       have H73 := ak N73
       have c73_bxp := N73.box B37_bxp.out
       obtain ⟨c73_bxt0, c73_bxt1⟩ := N73.box2 B37_bxt.out
       clear N73 H70 c70_bxp c70_bxt0 c70_bxt1
       go_wp2_with fail
       go_end0
       obtain hq := D72.out
       have hf := G.out
       rw [hq] at hf ⊢
       exact ⟨rfl, (BK.out _ _ _ _ _ _ (BK37.out _ _ _ _ _ _ (H73.out.fit hf)))⟩
      ·rw [b69]
       have H70 := ak N70
       have c70_bxp := N70.box B37_bxp.out
       obtain ⟨c70_bxt0, c70_bxt1⟩ := N70.box2 B37_bxt.out
       clear N70 H64 c64_bxp c64_bxt0 c64_bxt1
       have E74 := ak (if_f b69 E68.out)
       clear E68 b69
       go_wp2_with fail
       refine (at_lit H70.out [(⟨#[124]⟩ : ByteArray), (⟨#[124, 124]⟩ : ByteArray)] (by simp)).mono ?_
       rintro e W76 ⟨rfl, N76⟩
       rcases at_cases H70.out [(⟨#[124]⟩ : ByteArray), (⟨#[124, 124]⟩ : ByteArray)] with b75 | b75
       ·rw [b75]
        have H76 := ak N76
        have c76_bxp := N76.box B37_bxp.out
        obtain ⟨c76_bxt0, c76_bxt1⟩ := N76.box2 B37_bxt.out
        clear N76 H70 c70_bxp c70_bxt0 c70_bxt1
        have E77 := ak (if_t b75 E74.out)
        clear E74 b75
        go_wp2_with fail
        obtain ⟨p78, e78, d78⟩ := node_in E77.out
        have R78 := ak e78
        have D78 := ak d78
        clear e78 d78 E77
        refine (node_now H76.out (by omega) (by have := HL.out; omega) (38) 202 #[.pointer (some ⟨pb, 0, none⟩)] #[] p78.2 en_lambda (fit_iff.1 (run_fit R78.out)).1 (fun W1 F1 NN old => ((ih j (by omega)).lambda _ _ _ _ _ _ _ _ _ (by omega) (by rw [List.length_append, List.length_singleton]; have := HL.out; omega) NN R78.out).mono (fun e W' h => ⟨⟨_, h.1⟩, _, h.2⟩))).mono ?_
        rintro e W79 ⟨rfl, N79⟩
        have H79 := ak N79
        have c79_bxp := N79.box B37_bxp.out
        obtain ⟨c79_bxt0, c79_bxt1⟩ := N79.box2 B37_bxt.out
        clear N79 H76 c76_bxp c76_bxt0 c76_bxt1
        go_wp2_with fail
        go_end0
        obtain hq := D78.out
        have hf := G.out
        rw [hq] at hf ⊢
        exact ⟨rfl, (BK.out _ _ _ _ _ _ (BK37.out _ _ _ _ _ _ (H79.out.fit hf)))⟩
       ·rw [b75]
        have H76 := ak N76
        have c76_bxp := N76.box B37_bxp.out
        obtain ⟨c76_bxt0, c76_bxt1⟩ := N76.box2 B37_bxt.out
        clear N76 H70 c70_bxp c70_bxt0 c70_bxt1
        have E80 := ak (if_f b75 E74.out)
        clear E74 b75
        go_wp2_with fail
        refine (missNode_now H76.out (by omega)).mono ?_
        rintro e W81 ⟨rfl, N81⟩
        have H81 := ak N81
        have c81_bxp := N81.box B37_bxp.out
        obtain ⟨c81_bxt0, c81_bxt1⟩ := N81.box2 B37_bxt.out
        clear N81 H76 c76_bxp c76_bxt0 c76_bxt1
        go_wp2_with fail
        go_end0
        obtain hq := some_in E80.out
        have hf := G.out
        rw [hq] at hf ⊢
        exact ⟨rfl, (BK.out _ _ _ _ _ _ (BK37.out _ _ _ _ _ _ (H81.out.fit hf)))⟩
theorem returnS_go  {k : Nat}  (ih : ∀ i, i < k → IH B T tv pb i) : Meth B T tv pb k .returnS 183 #[.pointer (some ⟨pb, 0, none⟩)] (fun _ => .tuple #[]) := by
 intro m low kd tx W0 F0 W s q hm hlow N hr
 obtain ⟨j, rfl, h1, h2, h3⟩ := run_some hr
 have H0 := ak (N.fit h1)
 have E0 := ak h2
 have G := ak h3
 have HL := ak hlow
 have RUN := ak hr
 clear N h1 h2 h3 hr hlow
 go_enter Tryz.func183, Tryz.ntmps183
 go_wp2_with fail
 have E1 := ak (sq_st E0.out)
 clear E0
 refine (bump_now H0.out (by omega)).mono ?_
 rintro e W2 ⟨rfl, N2⟩
 have H2 := ak N2
 clear N2 H0
 go_wp2_with fail
 obtain ⟨p3, e3, d3⟩ := sq_cons E1.out
 have X3 := ak e3
 have Y3 := ak d3
 clear e3 d3 E1
 refine (at_lit H2.out [(⟨#[59]⟩ : ByteArray)] (by simp)).mono ?_
 rintro e W5 ⟨rfl, N5⟩
 rcases at_cases H2.out [(⟨#[59]⟩ : ByteArray)] with b4 | b4
 ·rw [b4]
  have H5 := ak N5
  clear N5 H2
  have E6 := ak (if_t b4 X3.out)
  clear X3 b4
  go_wp2_with fail
  refine (absent_now H5.out (by omega)).mono ?_
  rintro e W7 ⟨rfl, N7⟩
  have H7 := ak N7
  clear N7 H5
  go_wp2_with fail
  have hp8 := some_in E6.out
  have E8 := ak (by have h := Y3.out; rw [hp8] at h; exact h)
  clear hp8 E6 Y3
  have E9 := ak (sq_st E8.out)
  clear E8
  refine (expect_now H7.out (by omega) (⟨#[59]⟩ : ByteArray)).mono ?_
  rintro e W10 ⟨rfl, N10⟩
  have H10 := ak N10
  clear N10 H7
  go_wp2_with fail
  go_end0
  obtain hq := sq_nil E9.out
  have hf := G.out
  rw [hq] at hf ⊢
  exact ⟨rfl, (H10.out.fit hf)⟩
 ·rw [b4]
  have H5 := ak N5
  clear N5 H2
  have E11 := ak (if_f b4 X3.out)
  clear X3 b4
  go_wp2_with fail
  refine ((ih j (by omega)).expr _ _ _ _ _ _ _ _ _ (by omega) (by have := HL.out; omega) H5.out E11.out).mono ?_
  rintro e W12 ⟨rfl, N12⟩
  have H12 := ak N12
  clear N12 H5
  go_wp2_with fail
  have E13 := ak (sq_st Y3.out)
  clear Y3
  refine (expect_now H12.out (by omega) (⟨#[59]⟩ : ByteArray)).mono ?_
  rintro e W14 ⟨rfl, N14⟩
  have H14 := ak N14
  clear N14 H12
  go_wp2_with fail
  go_end0
  obtain hq := sq_nil E13.out
  have hf := G.out
  rw [hq] at hf ⊢
  exact ⟨rfl, (H14.out.fit hf)⟩
theorem skipToItem_go  {k : Nat}  (ih : ∀ i, i < k → IH B T tv pb i) : Meth B T tv pb k .skipToItem 55 #[.pointer (some ⟨pb, 0, none⟩)] (fun _ => .tuple #[]) := by
 intro m low kd tx W0 F0 W s q hm hlow N hr
 obtain ⟨j, rfl, h1, h2, h3⟩ := run_some hr
 have H0 := ak (N.fit h1)
 have E0 := ak h2
 have G := ak h3
 have HL := ak hlow
 have RUN := ak hr
 clear N h1 h2 h3 hr hlow
 go_enter Tryz.func55, Tryz.ntmps55
 go_wp2_with fail
 obtain ⟨WB, hWB⟩ : ∃ WB, (W.alloc (.cells #[.pointer (some ⟨pb, 0, none⟩)] 74)) = WB := ⟨_, rfl⟩
 have hbl : Below W.heap.size W WB := by rw [← hWB]; exact (below_alloc (Below.refl _ _) _)
 have hx_bxp : WB.heap[W.heap.size]? = some (.cells #[.pointer (some ⟨pb, 0, none⟩)] 74 (0, 0)) := by
  rw [← hWB]
  exact blk_new W _
 obtain ⟨FB, NB, hnew, holdb, hback⟩ := H0.out.enter hbl
 have BK := ak hback
 have hb_bxp : Box pb WB FB (W.heap.size) (.pointer (some ⟨pb, 0, none⟩)) := ⟨hnew _ (by omega) (blk_lt hx_bxp), _, hx_bxp⟩
 have B_bxp := ak hb_bxp
 have HN := ak NB
 have c0_bxp := NB.box hb_bxp
 rw [hWB]
 have hsz : W.heap.size + 1 = WB.heap.size := by rw [← hWB]; simp only [World.size_alloc]
 try rw [hsz]
 clear hsz hWB hbl hnew holdb hback NB H0 hb_bxp hx_bxp
 obtain ⟨p1, e1, d1⟩ := node_in E0.out
 have R1 := ak e1
 have D1 := ak d1
 clear e1 d1 E0
 refine (node_now HN.out (by omega) (by have := HL.out; omega) (46) 97 #[] #[.pointer (some ⟨W.heap.size, 0, none⟩)] p1.2 en_skipToItem_1 (fit_iff.1 (run_fit R1.out)).1 (fun W1 F1 NN old => skipB_do  (k := j) (fun i hi => ih i (by omega)) (B_bxp.out.old old) (by rw [List.length_append, List.length_singleton]; have := HL.out; omega) j (by omega) _ _ _ _ (by omega) NN R1.out)).mono ?_
 rintro e W2 ⟨rfl, N2⟩
 have H2 := ak N2
 have c2_bxp := N2.box B_bxp.out
 clear N2 HN c0_bxp
 go_wp2_with fail
 go_end0
 obtain hq := D1.out
 have hf := G.out
 rw [hq] at hf ⊢
 exact ⟨rfl, (BK.out _ _ _ _ _ _ (H2.out.fit hf))⟩
theorem whileB_do  {k : Nat} {bxp : Nat}  (ih : ∀ i, i < k → IH B T tv pb i) (hb_bxp : Box pb W0 F0 bxp (.pointer (some ⟨pb, 0, none⟩))) (hlow : low.length + k ≤ 10000000) : Does B T tv pb (k + 1) .whileB 182 #[.pointer (some ⟨bxp, 0, none⟩)] low kd tx W0 F0 := by
 intro i hi m W s q hm N hr
 obtain ⟨j, rfl, h1, h2, h3⟩ := run_some hr
 have H0 := ak (N.fit h1)
 have E0 := ak h2
 have G := ak h3
 have HL := ak (show low.length + (j + 1) ≤ 10000000 by omega)
 have B_bxp := ak hb_bxp
 have c0_bxp := N.box hb_bxp
 clear N h1 h2 h3 hr hlow hb_bxp
 go_enter Tryz.func182, Tryz.ntmps182
 go_wp2_with fail
 have E1 := ak (sq_st E0.out)
 clear E0
 refine (bump_now H0.out (by omega)).mono ?_
 rintro e W2 ⟨rfl, N2⟩
 have H2 := ak N2
 have c2_bxp := N2.box B_bxp.out
 clear N2 H0 c0_bxp
 go_wp2_with fail
 obtain ⟨p3, e3, d3⟩ := sq_cons E1.out
 have R3 := ak e3
 have E4 := ak (d3)
 clear E1 e3 d3
 refine ((ih j (by omega)).expr _ _ _ _ _ _ _ _ _ (by omega) (by have := HL.out; omega) H2.out R3.out).mono ?_
 rintro e W5 ⟨rfl, N5⟩
 have H5 := ak N5
 have c5_bxp := N5.box B_bxp.out
 clear N5 H2 c2_bxp
 go_wp2_with fail
 obtain ⟨p6, e6, d6⟩ := sq_cons E4.out
 have R6 := ak e6
 have E7 := ak (d6)
 clear E4 e6 d6
 refine ((ih j (by omega)).block _ _ _ _ _ _ _ _ _ (by omega) (by have := HL.out; omega) H5.out R6.out).mono ?_
 rintro e W8 ⟨rfl, N8⟩
 have H8 := ak N8
 have c8_bxp := N8.box B_bxp.out
 clear N8 H5 c5_bxp
 go_wp2_with fail
 go_end0
 obtain hq := sq_nil E7.out
 have hf := G.out
 rw [hq] at hf ⊢
 exact ⟨⟨_, rfl⟩, _, (H8.out.fit hf)⟩
theorem assignB_do  {k : Nat} {bxp : Nat}  (ih : ∀ i, i < k → IH B T tv pb i) (hb_bxp : Box pb W0 F0 bxp (.pointer (some ⟨pb, 0, none⟩))) (hlow : low.length + k ≤ 10000000) : Does B T tv pb (k + 1) .assignB 185 #[.pointer (some ⟨bxp, 0, none⟩)] low kd tx W0 F0 := by
 intro i hi m W s q hm N hr
 obtain ⟨j, rfl, h1, h2, h3⟩ := run_some hr
 have H0 := ak (N.fit h1)
 have E0 := ak h2
 have G := ak h3
 have HL := ak (show low.length + (j + 1) ≤ 10000000 by omega)
 have B_bxp := ak hb_bxp
 have c0_bxp := N.box hb_bxp
 clear N h1 h2 h3 hr hlow hb_bxp
 go_enter Tryz.func185, Tryz.ntmps185
 go_wp2_with fail
 have E1 := ak (sq_st E0.out)
 clear E0
 refine (bump_now H0.out (by omega)).mono ?_
 rintro e W2 ⟨rfl, N2⟩
 have H2 := ak N2
 have c2_bxp := N2.box B_bxp.out
 clear N2 H0 c0_bxp
 go_wp2_with fail
 obtain ⟨p3, e3, d3⟩ := sq_cons E1.out
 have R3 := ak e3
 have E4 := ak (d3)
 clear E1 e3 d3
 refine ((ih j (by omega)).expr _ _ _ _ _ _ _ _ _ (by omega) (by have := HL.out; omega) H2.out R3.out).mono ?_
 rintro e W5 ⟨rfl, N5⟩
 have H5 := ak N5
 have c5_bxp := N5.box B_bxp.out
 clear N5 H2 c2_bxp
 go_wp2_with fail
 have E6 := ak (sq_st E4.out)
 clear E4
 refine (expect_now H5.out (by omega) (⟨#[59]⟩ : ByteArray)).mono ?_
 rintro e W7 ⟨rfl, N7⟩
 have H7 := ak N7
 have c7_bxp := N7.box B_bxp.out
 clear N7 H5 c5_bxp
 go_wp2_with fail
 go_end0
 obtain hq := sq_nil E6.out
 have hf := G.out
 rw [hq] at hf ⊢
 exact ⟨⟨_, rfl⟩, _, (H7.out.fit hf)⟩
theorem exprStmtBT_do  {k : Nat} {bxp : Nat} {bxb : Nat}  (ih : ∀ i, i < k → IH B T tv pb i) (hb_bxp : Box pb W0 F0 bxp (.pointer (some ⟨pb, 0, none⟩))) (hb_bxb : Box pb W0 F0 bxb (.bool true)) (hlow : low.length + k ≤ 10000000) : Does B T tv pb (k + 1) (.exprStmtB true) 186 #[.pointer (some ⟨bxp, 0, none⟩), .pointer (some ⟨bxb, 0, none⟩)] low kd tx W0 F0 := by
 intro i hi m W s q hm N hr
 obtain ⟨j, rfl, h1, h2, h3⟩ := run_some hr
 have H0 := ak (N.fit h1)
 have E0 := ak h2
 have G := ak h3
 have HL := ak (show low.length + (j + 1) ≤ 10000000 by omega)
 have B_bxp := ak hb_bxp
 have c0_bxp := N.box hb_bxp
 have B_bxb := ak hb_bxb
 have c0_bxb := N.box hb_bxb
 clear N h1 h2 h3 hr hlow hb_bxp hb_bxb
 go_enter Tryz.func186, Tryz.ntmps186
 go_wp2_with fail
 refine (accept_lit H0.out (by omega) [(⟨#[59]⟩ : ByteArray)] (by simp)).mono ?_
 rintro e W2 ⟨rfl, N2⟩
 rcases at_cases H0.out [(⟨#[59]⟩ : ByteArray)] with b1 | b1
 ·rw [acceptS_t b1] at N2
  rw [b1]
  have H2 := ak N2
  have c2_bxp := N2.box B_bxp.out
  have c2_bxb := N2.box B_bxb.out
  clear N2 H0 c0_bxp c0_bxb
  have E3 := ak (if_t b1 E0.out)
  clear E0 b1
  go_wp2_with fail
  go_end0
  obtain hq := some_in E3.out
  have hf := G.out
  rw [hq] at hf ⊢
  exact ⟨⟨_, rfl⟩, _, (H2.out.fit hf)⟩
 ·rw [acceptS_f b1] at N2
  rw [b1]
  have H2 := ak N2
  have c2_bxp := N2.box B_bxp.out
  have c2_bxb := N2.box B_bxb.out
  clear N2 H0 c0_bxp c0_bxb
  have E4 := ak (if_f b1 E0.out)
  clear E0 b1
  go_wp2_with fail
  go_end0
  obtain hq := some_in E4.out
  have hf := G.out
  rw [hq] at hf ⊢
  exact ⟨⟨_, rfl⟩, _, (H2.out.fit hf)⟩
theorem exprStmtBF_do  {k : Nat} {bxp : Nat} {bxb : Nat}  (ih : ∀ i, i < k → IH B T tv pb i) (hb_bxp : Box pb W0 F0 bxp (.pointer (some ⟨pb, 0, none⟩))) (hb_bxb : Box pb W0 F0 bxb (.bool false)) (hlow : low.length + k ≤ 10000000) : Does B T tv pb (k + 1) (.exprStmtB false) 186 #[.pointer (some ⟨bxp, 0, none⟩), .pointer (some ⟨bxb, 0, none⟩)] low kd tx W0 F0 := by
 intro i hi m W s q hm N hr
 obtain ⟨j, rfl, h1, h2, h3⟩ := run_some hr
 have H0 := ak (N.fit h1)
 have E0 := ak h2
 have G := ak h3
 have HL := ak (show low.length + (j + 1) ≤ 10000000 by omega)
 have B_bxp := ak hb_bxp
 have c0_bxp := N.box hb_bxp
 have B_bxb := ak hb_bxb
 have c0_bxb := N.box hb_bxb
 clear N h1 h2 h3 hr hlow hb_bxp hb_bxb
 go_enter Tryz.func186, Tryz.ntmps186
 go_wp2_with fail
 refine (accept_lit H0.out (by omega) [(⟨#[59]⟩ : ByteArray)] (by simp)).mono ?_
 rintro e W2 ⟨rfl, N2⟩
 rcases at_cases H0.out [(⟨#[59]⟩ : ByteArray)] with b1 | b1
 ·rw [acceptS_t b1] at N2
  rw [b1]
  have H2 := ak N2
  have c2_bxp := N2.box B_bxp.out
  have c2_bxb := N2.box B_bxb.out
  clear N2 H0 c0_bxp c0_bxb
  have E3 := ak (if_t b1 E0.out)
  clear E0 b1
  go_wp2_with fail
  go_end0
  obtain hq := some_in E3.out
  have hf := G.out
  rw [hq] at hf ⊢
  exact ⟨⟨_, rfl⟩, _, (H2.out.fit hf)⟩
 ·rw [acceptS_f b1] at N2
  rw [b1]
  have H2 := ak N2
  have c2_bxp := N2.box B_bxp.out
  have c2_bxb := N2.box B_bxb.out
  clear N2 H0 c0_bxp c0_bxb
  have E4 := ak (if_f b1 E0.out)
  clear E0 b1
  go_wp2_with fail
  refine (missTok_now H2.out (by omega)).mono ?_
  rintro e W5 ⟨rfl, N5⟩
  have H5 := ak N5
  have c5_bxp := N5.box B_bxp.out
  have c5_bxb := N5.box B_bxb.out
  clear N5 H2 c2_bxp c2_bxb
  go_wp2_with fail
  go_end0
  obtain hq := some_in E4.out
  have hf := G.out
  rw [hq] at hf ⊢
  exact ⟨⟨_, rfl⟩, _, (H5.out.fit hf)⟩
theorem statement_go  {k : Nat}  (ih : ∀ i, i < k → IH B T tv pb i) : Meth B T tv pb k .statement 160 #[.pointer (some ⟨pb, 0, none⟩)] (fun b => .bool b) := by
 intro m low kd tx W0 F0 W s q hm hlow N hr
 obtain ⟨j, rfl, h1, h2, h3⟩ := run_some hr
 have H0 := ak (N.fit h1)
 have E0 := ak h2
 have G := ak h3
 have HL := ak hlow
 have RUN := ak hr
 clear N h1 h2 h3 hr hlow
 go_enter Tryz.func160, Tryz.ntmps160
 go_wp2_with fail
 obtain ⟨WB, hWB⟩ : ∃ WB, (W.alloc (.cells #[.pointer (some ⟨pb, 0, none⟩)] 74)) = WB := ⟨_, rfl⟩
 have hbl : Below W.heap.size W WB := by rw [← hWB]; exact (below_alloc (Below.refl _ _) _)
 have hx_bxp : WB.heap[W.heap.size]? = some (.cells #[.pointer (some ⟨pb, 0, none⟩)] 74 (0, 0)) := by
  rw [← hWB]
  exact blk_new W _
 obtain ⟨FB, NB, hnew, holdb, hback⟩ := H0.out.enter hbl
 have BK := ak hback
 have hb_bxp : Box pb WB FB (W.heap.size) (.pointer (some ⟨pb, 0, none⟩)) := ⟨hnew _ (by omega) (blk_lt hx_bxp), _, hx_bxp⟩
 have B_bxp := ak hb_bxp
 have HN := ak NB
 have c0_bxp := NB.box hb_bxp
 rw [hWB]
 have hsz : W.heap.size + 1 = WB.heap.size := by rw [← hWB]; simp only [World.size_alloc]
 try rw [hsz]
 clear hsz hWB hbl hnew holdb hback NB H0 hb_bxp hx_bxp
 refine (at_lit HN.out [(⟨#[108, 101, 116]⟩ : ByteArray)] (by simp)).mono ?_
 rintro e W2 ⟨rfl, N2⟩
 rcases at_cases HN.out [(⟨#[108, 101, 116]⟩ : ByteArray)] with b1 | b1
 ·rw [b1]
  have H2 := ak N2
  have c2_bxp := N2.box B_bxp.out
  clear N2 HN c0_bxp
  have E3 := ak (if_t b1 E0.out)
  clear E0 b1
  go_wp2_with fail
  obtain ⟨p4, e4, d4⟩ := node_in E3.out
  have R4 := ak e4
  have D4 := ak d4
  clear e4 d4 E3
  refine (node_now H2.out (by omega) (by have := HL.out; omega) (22) 181 #[.pointer (some ⟨pb, 0, none⟩)] #[] p4.2 en_let (fit_iff.1 (run_fit R4.out)).1 (fun W1 F1 NN old => ((ih j (by omega)).letS _ _ _ _ _ _ _ _ _ (by omega) (by rw [List.length_append, List.length_singleton]; have := HL.out; omega) NN R4.out).mono (fun e W' h => ⟨⟨_, h.1⟩, _, h.2⟩))).mono ?_
  rintro e W5 ⟨rfl, N5⟩
  have H5 := ak N5
  have c5_bxp := N5.box B_bxp.out
  clear N5 H2 c2_bxp
  go_wp2_with fail
  go_ret
  obtain hq := D4.out
  have hf := G.out
  rw [hq] at hf ⊢
  exact ⟨rfl, (BK.out _ _ _ _ _ _ (H5.out.fit hf))⟩
 ·rw [b1]
  have H2 := ak N2
  have c2_bxp := N2.box B_bxp.out
  clear N2 HN c0_bxp
  have E6 := ak (if_f b1 E0.out)
  clear E0 b1
  go_wp2_with fail
  refine (at_lit H2.out [(⟨#[119, 104, 105, 108, 101]⟩ : ByteArray)] (by simp)).mono ?_
  rintro e W8 ⟨rfl, N8⟩
  rcases at_cases H2.out [(⟨#[119, 104, 105, 108, 101]⟩ : ByteArray)] with b7 | b7
  ·rw [b7]
   have H8 := ak N8
   have c8_bxp := N8.box B_bxp.out
   clear N8 H2 c2_bxp
   have E9 := ak (if_t b7 E6.out)
   clear E6 b7
   go_wp2_with fail
   obtain ⟨p10, e10, d10⟩ := node_in E9.out
   have R10 := ak e10
   have D10 := ak d10
   clear e10 d10 E9
   refine (node_now H8.out (by omega) (by have := HL.out; omega) (24) 182 #[] #[.pointer (some ⟨W.heap.size, 0, none⟩)] p10.2 en_statement_1 (fit_iff.1 (run_fit R10.out)).1 (fun W1 F1 NN old => whileB_do  (k := j) (fun i hi => ih i (by omega)) (B_bxp.out.old old) (by rw [List.length_append, List.length_singleton]; have := HL.out; omega) j (by omega) _ _ _ _ (by omega) NN R10.out)).mono ?_
   rintro e W11 ⟨rfl, N11⟩
   have H11 := ak N11
   have c11_bxp := N11.box B_bxp.out
   clear N11 H8 c8_bxp
   go_wp2_with fail
   go_ret
   obtain hq := D10.out
   have hf := G.out
   rw [hq] at hf ⊢
   exact ⟨rfl, (BK.out _ _ _ _ _ _ (H11.out.fit hf))⟩
  ·rw [b7]
   have H8 := ak N8
   have c8_bxp := N8.box B_bxp.out
   clear N8 H2 c2_bxp
   have E12 := ak (if_f b7 E6.out)
   clear E6 b7
   go_wp2_with fail
   refine (at_lit H8.out [(⟨#[114, 101, 116, 117, 114, 110]⟩ : ByteArray)] (by simp)).mono ?_
   rintro e W14 ⟨rfl, N14⟩
   rcases at_cases H8.out [(⟨#[114, 101, 116, 117, 114, 110]⟩ : ByteArray)] with b13 | b13
   ·rw [b13]
    have H14 := ak N14
    have c14_bxp := N14.box B_bxp.out
    clear N14 H8 c8_bxp
    have E15 := ak (if_t b13 E12.out)
    clear E12 b13
    go_wp2_with fail
    obtain ⟨p16, e16, d16⟩ := node_in E15.out
    have R16 := ak e16
    have D16 := ak d16
    clear e16 d16 E15
    refine (node_now H14.out (by omega) (by have := HL.out; omega) (25) 183 #[.pointer (some ⟨pb, 0, none⟩)] #[] p16.2 en_returnStmt (fit_iff.1 (run_fit R16.out)).1 (fun W1 F1 NN old => ((ih j (by omega)).returnS _ _ _ _ _ _ _ _ _ (by omega) (by rw [List.length_append, List.length_singleton]; have := HL.out; omega) NN R16.out).mono (fun e W' h => ⟨⟨_, h.1⟩, _, h.2⟩))).mono ?_
    rintro e W17 ⟨rfl, N17⟩
    have H17 := ak N17
    have c17_bxp := N17.box B_bxp.out
    clear N17 H14 c14_bxp
    go_wp2_with fail
    go_ret
    obtain hq := D16.out
    have hf := G.out
    rw [hq] at hf ⊢
    exact ⟨rfl, (BK.out _ _ _ _ _ _ (H17.out.fit hf))⟩
   ·have cpos := N14.cells
    obtain ⟨n1, hn1⟩ : ∃ n1, Hid (s.1 = n1) := ⟨_, rfl⟩
    rw [show s.1 = n1 from hn1] at cpos
    have HN1 := ak (show s.1 = n1 from hn1)
    clear hn1
    rw [b13]
    have H14 := ak N14
    have c14_bxp := N14.box B_bxp.out
    clear N14 H8 c8_bxp
    have E18 := ak (if_f b13 E12.out)
    clear E12 b13
    go_wp2_with fail
    rcases at_cases H14.out [(⟨#[105, 102]⟩ : ByteArray), (⟨#[109, 97, 116, 99, 104]⟩ : ByteArray), (⟨#[123]⟩ : ByteArray)] with b19 | b19
    ·refine (at_lit H14.out [(⟨#[105, 102]⟩ : ByteArray), (⟨#[109, 97, 116, 99, 104]⟩ : ByteArray), (⟨#[123]⟩ : ByteArray)] (by simp)).mono ?_
     rintro e W20 ⟨rfl, N20⟩
     rw [b19]
     have H20 := ak N20
     have c20_bxp := N20.box B_bxp.out
     clear N20 H14 c14_bxp
     have E21 := ak (by have h := E18.out; rw [b19] at h; exact h)
     clear E18
     clear b19 cpos
     have ca := fun o => (World.cell?_alloc_some W20 ⟨W.heap.size, 0, none⟩ o (by rw [c20_bxp]; rfl)).trans c20_bxp
     go_wp2_with fail
     obtain ⟨WB22, hWB22⟩ : ∃ WB22, (W20.alloc (.cells #[.bool true] 4)) = WB22 := ⟨_, rfl⟩
     have hbl22 : Below W20.heap.size W20 WB22 := by rw [← hWB22]; exact (below_alloc (Below.refl _ _) _)
     have hx22 : WB22.heap[W20.heap.size]? = some (.cells #[.bool true] 4 (0, 0)) := by rw [← hWB22]; exact blk_new W20 _
     obtain ⟨FB22, NB22, hnew22, old22, hback22⟩ := H20.out.enter2 hbl22
     have BK22 := ak hback22
     have B22_bxp := ak (B_bxp.out.old old22)
     have B22_bxb := ak (show Box pb WB22 FB22 W20.heap.size (.bool true) from ⟨hnew22 _ (Nat.le_refl _) (blk_lt hx22), _, hx22⟩)
     have H22 := ak NB22
     have c22_bxp := NB22.box B22_bxp.out
     have c22_bxb := NB22.box B22_bxb.out
     have hsz22 : W20.heap.size + 1 = WB22.heap.size := by rw [← hWB22]; simp only [World.size_alloc]
     rw [hWB22]
     try rw [hsz22]
     clear hsz22 hWB22 hbl22 hnew22 old22 hback22 hx22 NB22 H20 c20_bxp ca
     obtain ⟨p23, e23, d23⟩ := bind_in E21.out
     have R23 := ak (show run T j .primary s = some p23 from e23)
     have E23 := ak d23
     clear e23 d23 E21
     refine ((ih j (by omega)).primary _ _ _ _ _ _ _ _ _ (by omega) (by have := HL.out; omega) H22.out R23.out).mono ?_
     rintro e W24 ⟨rfl, N24⟩
     have cpos := N24.cells
     obtain ⟨n2, hn2⟩ : ∃ n2, Hid (p23.2.1 = n2) := ⟨_, rfl⟩
     rw [show p23.2.1 = n2 from hn2] at cpos
     have HN2 := ak (show p23.2.1 = n2 from hn2)
     have H24 := ak N24
     have c24_bxp := N24.box B22_bxp.out
     have c24_bxb := N24.box B22_bxb.out
     clear hn2 N24 H22 c22_bxp c22_bxb
     by_cases heq : n2 = n1
     ·have hb : ((n2 : Int) == (n1 : Int)) = true := by rw [heq]; simp
      obtain ⟨ks, t, hs, hq⟩ := cut_in (if_y (by rw [HN2.out, HN1.out]; exact heq) E23.out)
      have HQ := ak hq
      obtain ⟨sb, scap, kg, kcap, o2, o4, hfz, hkc, hsp, hsl, hlw, hkl, hcut⟩ := H24.out.cut hs
      have HCUT := ak hcut
      have hfz0 := hfz (low.length * 3 + 2)
      have hl1 : IntKind.i64.wrap (((low.length : Nat) : Int) + 1 - 1) = ((low.length : Nat) : Int) := by rw [IntKind.wrap_i64]; omega
      have hl2 : IntKind.i64.wrap (((low.length + 1 : Nat) : Int) - 1) = ((low.length : Nat) : Int) := by rw [IntKind.wrap_i64]; omega
      have hl3 : IntKind.i64.wrap ((low.length : Nat) : Int) = ((low.length : Nat) : Int) := by rw [IntKind.wrap_i64]; omega
      have hk1 : IntKind.i64.wrap (((ks.length : Nat) : Int) + 1 - 1) = ((ks.length : Nat) : Int) := by rw [IntKind.wrap_i64]; omega
      have hk2 : IntKind.i64.wrap (((ks.length + 1 : Nat) : Int) - 1) = ((ks.length : Nat) : Int) := by rw [IntKind.wrap_i64]; omega
      have hk3 : IntKind.i64.wrap ((ks.length : Nat) : Int) = ((ks.length : Nat) : Int) := by rw [IntKind.wrap_i64]; omega
      have i0 : (0 : Int) ≤ ((low.length : Nat) : Int) := by omega
      have i1 : ((low.length : Nat) : Int) < ((low.length + 1 : Nat) : Int) := by omega
      have i2 : ((low.length : Nat) : Int) < ((low.length : Nat) : Int) + 1 := by omega
      have j0 : (0 : Int) ≤ ((ks.length : Nat) : Int) := by omega
      have j1 : ((ks.length : Nat) : Int) < ((ks.length + 1 : Nat) : Int) := by omega
      have j2 : ((ks.length : Nat) : Int) < ((ks.length : Nat) : Int) + 1 := by omega
      have j3 : ((ks.length : Nat) : Int) ≤ (kcap : Int) := by omega
      clear hs hq hcut hfz heq hkc hsp hsl hlw hkl E23
      go_wp2_with fail
      go_region_held3 (fun w' => w'.cell? ⟨pb, 2, none⟩ = some (.slice (some ⟨sb, 0, none⟩) (low.length + 1) scap) ∧ w'.cell? ⟨W.heap.size, 0, none⟩ = some (.pointer (some ⟨pb, 0, none⟩))) (first | exact ⟨o2, c24_bxp⟩) (fail)
      go_wp2_with fail
      obtain ⟨W91, hW91⟩ : ∃ W91, W24.drew = W91 := ⟨_, rfl⟩
      have u4 : W91.cell? ⟨sb, low.length * 3 + 2, none⟩ = some (.slice (some ⟨kg, 0, none⟩) (ks.length + 1) kcap) := by rw [← hW91]; exact o4
      have u5 : W91.frozen? ⟨sb, low.length * 3 + 2, none⟩ = false := by rw [← hW91]; exact hfz0
      have u6 : W91.cell? ⟨W.heap.size, 0, none⟩ = some (.pointer (some ⟨pb, 0, none⟩)) := by rw [← hW91]; exact c24_bxp
      have HCUT2 := ak (fun W9 (h1 : W9.os = W91.os) (h2 : W9.tape = W91.tape) (h3 : W9.output = W91.output) (h4 : W9.heap = (W91.setCell ⟨sb, low.length * 3 + 2, none⟩ (.slice (some ⟨kg, 0, none⟩) ks.length kcap)).heap) => HCUT.out W9 (by rw [h1, ← hW91]; rfl) (by rw [h2, ← hW91]; rfl) (by rw [h3, ← hW91]; rfl) (by rw [h4, ← hW91]; rfl))
      rw [hW91]
      clear hW91 o2 o4 hfz0 c24_bxp c24_bxb cpos
      go_still_tail 14, (by kernel_rfl)
      change wpList _ _ _ _ _ W91.drew
      go_wp2_with fail
      have H90 := ak (HCUT2.out ((W91.setCell ⟨sb, low.length * 3 + 2, none⟩ (.slice (some ⟨kg, 0, none⟩) ks.length kcap)).drew) rfl rfl rfl rfl)
      refine (unexp_now H90.out (by omega) (by have := HL.out; omega)).mono ?_
      rintro e W25 ⟨rfl, N25⟩
      have H25 := ak N25
      clear N25
      go_wp2_with fail
      go_ret
      obtain hq := HQ.out
      have hf := G.out
      rw [hq] at hf ⊢
      exact ⟨rfl, (BK.out _ _ _ _ _ _ (BK22.out _ _ _ _ _ _ (H25.out.fit hf)))⟩
     ·have hb : ((n2 : Int) == (n1 : Int)) = false := beq_eq_false_iff_ne.2 (by omega)
      have E26 := ak (if_n (by rw [HN2.out, HN1.out]; exact heq) E23.out)
      clear E23
      clear heq
      go_wp2_with fail
      refine (at_lit H24.out [(⟨#[125]⟩ : ByteArray)] (by simp)).mono ?_
      rintro e W28 ⟨rfl, N28⟩
      rcases at_cases H24.out [(⟨#[125]⟩ : ByteArray)] with b27 | b27
      ·rw [b27]
       have H28 := ak N28
       have c28_bxp := N28.box B22_bxp.out
       have c28_bxb := N28.box B22_bxb.out
       clear N28 H24 c24_bxp c24_bxb cpos
       have E29 := ak (if_t b27 E26.out)
       clear E26 b27
       go_wp2_with fail
       go_ret
       obtain hq := some_in E29.out
       have hf := G.out
       rw [hq] at hf ⊢
       exact ⟨rfl, (BK.out _ _ _ _ _ _ (BK22.out _ _ _ _ _ _ (H28.out.fit hf)))⟩
      ·rw [b27]
       have H28 := ak N28
       have c28_bxp := N28.box B22_bxp.out
       have c28_bxb := N28.box B22_bxb.out
       clear N28 H24 c24_bxp c24_bxb cpos
       have E30 := ak (if_f b27 E26.out)
       clear E26 b27
       go_wp2_with fail
       refine (at_lit H28.out [(⟨#[61]⟩ : ByteArray)] (by simp)).mono ?_
       rintro e W32 ⟨rfl, N32⟩
       rcases at_cases H28.out [(⟨#[61]⟩ : ByteArray)] with b31 | b31
       ·rw [b31]
        have H32 := ak N32
        have c32_bxp := N32.box B22_bxp.out
        have c32_bxb := N32.box B22_bxb.out
        clear N32 H28 c28_bxp c28_bxb
        have E33 := ak (if_t b31 E30.out)
        clear E30 b31
        go_wp2_with fail
        obtain ⟨ks34, t34, p34, s34, e34, d34⟩ := wrap_in E33.out
        have R34 := ak e34
        have D34 := ak d34
        have S34 := ak s34
        clear e34 d34 s34 E33
        refine (wrap_now H32.out S34.out (by omega) (by have := HL.out; omega) 23 185 #[] #[.pointer (some ⟨W.heap.size, 0, none⟩)] p34.2 en_statement_2 (fit_iff.1 (run_fit R34.out)).1 (fun W1 F1 NN old => assignB_do  (k := j) (fun i hi => ih i (by omega)) (B22_bxp.out.old old) (by rw [List.length_append, List.length_singleton]; have := HL.out; omega) j (by omega) _ _ _ _ (by omega) NN R34.out)).mono ?_
        rintro e W35 ⟨rfl, N35⟩
        have H35 := ak N35
        have c35_bxp := N35.box B22_bxp.out
        have c35_bxb := N35.box B22_bxb.out
        clear N35 H32 c32_bxp c32_bxb
        go_wp2_with fail
        go_ret
        obtain hq := D34.out
        have hf := G.out
        rw [hq] at hf ⊢
        exact ⟨rfl, (BK.out _ _ _ _ _ _ (BK22.out _ _ _ _ _ _ (H35.out.fit hf)))⟩
       ·rw [b31]
        have H32 := ak N32
        have c32_bxp := N32.box B22_bxp.out
        have c32_bxb := N32.box B22_bxb.out
        clear N32 H28 c28_bxp c28_bxb
        have E36 := ak (if_f b31 E30.out)
        clear E30 b31
        go_wp2_with fail
        obtain ⟨ks37, t37, p37, s37, e37, d37⟩ := wrap_in E36.out
        have R37 := ak e37
        have D37 := ak d37
        have S37 := ak s37
        clear e37 d37 s37 E36
        refine (wrap_now H32.out S37.out (by omega) (by have := HL.out; omega) 26 186 #[] #[.pointer (some ⟨W.heap.size, 0, none⟩), .pointer (some ⟨W20.heap.size, 0, none⟩)] p37.2 en_statement_3 (fit_iff.1 (run_fit R37.out)).1 (fun W1 F1 NN old => exprStmtBT_do  (k := j) (fun i hi => ih i (by omega)) (B22_bxp.out.old old) (B22_bxb.out.old old) (by rw [List.length_append, List.length_singleton]; have := HL.out; omega) j (by omega) _ _ _ _ (by omega) NN R37.out)).mono ?_
        rintro e W38 ⟨rfl, N38⟩
        have H38 := ak N38
        have c38_bxp := N38.box B22_bxp.out
        have c38_bxb := N38.box B22_bxb.out
        clear N38 H32 c32_bxp c32_bxb
        go_wp2_with fail
        go_ret
        obtain hq := D37.out
        have hf := G.out
        rw [hq] at hf ⊢
        exact ⟨rfl, (BK.out _ _ _ _ _ _ (BK22.out _ _ _ _ _ _ (H38.out.fit hf)))⟩
    ·refine (at_lit H14.out [(⟨#[105, 102]⟩ : ByteArray), (⟨#[109, 97, 116, 99, 104]⟩ : ByteArray), (⟨#[123]⟩ : ByteArray)] (by simp)).mono ?_
     rintro e W39 ⟨rfl, N39⟩
     rw [b19]
     have H39 := ak N39
     have c39_bxp := N39.box B_bxp.out
     clear N39 H14 c14_bxp
     have E40 := ak (by have h := E18.out; rw [b19] at h; exact h)
     clear E18
     clear b19 cpos
     have ca := fun o => (World.cell?_alloc_some W39 ⟨W.heap.size, 0, none⟩ o (by rw [c39_bxp]; rfl)).trans c39_bxp
     go_wp2_with fail
     obtain ⟨WB41, hWB41⟩ : ∃ WB41, (W39.alloc (.cells #[.bool false] 4)) = WB41 := ⟨_, rfl⟩
     have hbl41 : Below W39.heap.size W39 WB41 := by rw [← hWB41]; exact (below_alloc (Below.refl _ _) _)
     have hx41 : WB41.heap[W39.heap.size]? = some (.cells #[.bool false] 4 (0, 0)) := by rw [← hWB41]; exact blk_new W39 _
     obtain ⟨FB41, NB41, hnew41, old41, hback41⟩ := H39.out.enter2 hbl41
     have BK41 := ak hback41
     have B41_bxp := ak (B_bxp.out.old old41)
     have B41_bxb := ak (show Box pb WB41 FB41 W39.heap.size (.bool false) from ⟨hnew41 _ (Nat.le_refl _) (blk_lt hx41), _, hx41⟩)
     have H41 := ak NB41
     have c41_bxp := NB41.box B41_bxp.out
     have c41_bxb := NB41.box B41_bxb.out
     have hsz41 : W39.heap.size + 1 = WB41.heap.size := by rw [← hWB41]; simp only [World.size_alloc]
     rw [hWB41]
     try rw [hsz41]
     clear hsz41 hWB41 hbl41 hnew41 old41 hback41 hx41 NB41 H39 c39_bxp ca
     obtain ⟨p42, e42, d42⟩ := bind_in E40.out
     have R42 := ak (show run T j .expr s = some p42 from e42)
     have E42 := ak d42
     clear e42 d42 E40
     refine ((ih j (by omega)).expr _ _ _ _ _ _ _ _ _ (by omega) (by have := HL.out; omega) H41.out R42.out).mono ?_
     rintro e W43 ⟨rfl, N43⟩
     have cpos := N43.cells
     obtain ⟨n2, hn2⟩ : ∃ n2, Hid (p42.2.1 = n2) := ⟨_, rfl⟩
     rw [show p42.2.1 = n2 from hn2] at cpos
     have HN2 := ak (show p42.2.1 = n2 from hn2)
     have H43 := ak N43
     have c43_bxp := N43.box B41_bxp.out
     have c43_bxb := N43.box B41_bxb.out
     clear hn2 N43 H41 c41_bxp c41_bxb
     by_cases heq : n2 = n1
     ·have hb : ((n2 : Int) == (n1 : Int)) = true := by rw [heq]; simp
      obtain ⟨ks, t, hs, hq⟩ := cut_in (if_y (by rw [HN2.out, HN1.out]; exact heq) E42.out)
      have HQ := ak hq
      obtain ⟨sb, scap, kg, kcap, o2, o4, hfz, hkc, hsp, hsl, hlw, hkl, hcut⟩ := H43.out.cut hs
      have HCUT := ak hcut
      have hfz0 := hfz (low.length * 3 + 2)
      have hl1 : IntKind.i64.wrap (((low.length : Nat) : Int) + 1 - 1) = ((low.length : Nat) : Int) := by rw [IntKind.wrap_i64]; omega
      have hl2 : IntKind.i64.wrap (((low.length + 1 : Nat) : Int) - 1) = ((low.length : Nat) : Int) := by rw [IntKind.wrap_i64]; omega
      have hl3 : IntKind.i64.wrap ((low.length : Nat) : Int) = ((low.length : Nat) : Int) := by rw [IntKind.wrap_i64]; omega
      have hk1 : IntKind.i64.wrap (((ks.length : Nat) : Int) + 1 - 1) = ((ks.length : Nat) : Int) := by rw [IntKind.wrap_i64]; omega
      have hk2 : IntKind.i64.wrap (((ks.length + 1 : Nat) : Int) - 1) = ((ks.length : Nat) : Int) := by rw [IntKind.wrap_i64]; omega
      have hk3 : IntKind.i64.wrap ((ks.length : Nat) : Int) = ((ks.length : Nat) : Int) := by rw [IntKind.wrap_i64]; omega
      have i0 : (0 : Int) ≤ ((low.length : Nat) : Int) := by omega
      have i1 : ((low.length : Nat) : Int) < ((low.length + 1 : Nat) : Int) := by omega
      have i2 : ((low.length : Nat) : Int) < ((low.length : Nat) : Int) + 1 := by omega
      have j0 : (0 : Int) ≤ ((ks.length : Nat) : Int) := by omega
      have j1 : ((ks.length : Nat) : Int) < ((ks.length + 1 : Nat) : Int) := by omega
      have j2 : ((ks.length : Nat) : Int) < ((ks.length : Nat) : Int) + 1 := by omega
      have j3 : ((ks.length : Nat) : Int) ≤ (kcap : Int) := by omega
      clear hs hq hcut hfz heq hkc hsp hsl hlw hkl E42
      go_wp2_with fail
      go_region_held3 (fun w' => w'.cell? ⟨pb, 2, none⟩ = some (.slice (some ⟨sb, 0, none⟩) (low.length + 1) scap) ∧ w'.cell? ⟨W.heap.size, 0, none⟩ = some (.pointer (some ⟨pb, 0, none⟩))) (first | exact ⟨o2, c43_bxp⟩) (fail)
      go_wp2_with fail
      obtain ⟨W91, hW91⟩ : ∃ W91, W43.drew = W91 := ⟨_, rfl⟩
      have u4 : W91.cell? ⟨sb, low.length * 3 + 2, none⟩ = some (.slice (some ⟨kg, 0, none⟩) (ks.length + 1) kcap) := by rw [← hW91]; exact o4
      have u5 : W91.frozen? ⟨sb, low.length * 3 + 2, none⟩ = false := by rw [← hW91]; exact hfz0
      have u6 : W91.cell? ⟨W.heap.size, 0, none⟩ = some (.pointer (some ⟨pb, 0, none⟩)) := by rw [← hW91]; exact c43_bxp
      have HCUT2 := ak (fun W9 (h1 : W9.os = W91.os) (h2 : W9.tape = W91.tape) (h3 : W9.output = W91.output) (h4 : W9.heap = (W91.setCell ⟨sb, low.length * 3 + 2, none⟩ (.slice (some ⟨kg, 0, none⟩) ks.length kcap)).heap) => HCUT.out W9 (by rw [h1, ← hW91]; rfl) (by rw [h2, ← hW91]; rfl) (by rw [h3, ← hW91]; rfl) (by rw [h4, ← hW91]; rfl))
      rw [hW91]
      clear hW91 o2 o4 hfz0 c43_bxp c43_bxb cpos
      go_still_tail 14, (by kernel_rfl)
      change wpList _ _ _ _ _ W91.drew
      go_wp2_with fail
      have H90 := ak (HCUT2.out ((W91.setCell ⟨sb, low.length * 3 + 2, none⟩ (.slice (some ⟨kg, 0, none⟩) ks.length kcap)).drew) rfl rfl rfl rfl)
      refine (unexp_now H90.out (by omega) (by have := HL.out; omega)).mono ?_
      rintro e W44 ⟨rfl, N44⟩
      have H44 := ak N44
      clear N44
      go_wp2_with fail
      go_ret
      obtain hq := HQ.out
      have hf := G.out
      rw [hq] at hf ⊢
      exact ⟨rfl, (BK.out _ _ _ _ _ _ (BK41.out _ _ _ _ _ _ (H44.out.fit hf)))⟩
     ·have hb : ((n2 : Int) == (n1 : Int)) = false := beq_eq_false_iff_ne.2 (by omega)
      have E45 := ak (if_n (by rw [HN2.out, HN1.out]; exact heq) E42.out)
      clear E42
      clear heq
      go_wp2_with fail
      refine (at_lit H43.out [(⟨#[125]⟩ : ByteArray)] (by simp)).mono ?_
      rintro e W47 ⟨rfl, N47⟩
      rcases at_cases H43.out [(⟨#[125]⟩ : ByteArray)] with b46 | b46
      ·rw [b46]
       have H47 := ak N47
       have c47_bxp := N47.box B41_bxp.out
       have c47_bxb := N47.box B41_bxb.out
       clear N47 H43 c43_bxp c43_bxb cpos
       have E48 := ak (if_t b46 E45.out)
       clear E45 b46
       go_wp2_with fail
       go_ret
       obtain hq := some_in E48.out
       have hf := G.out
       rw [hq] at hf ⊢
       exact ⟨rfl, (BK.out _ _ _ _ _ _ (BK41.out _ _ _ _ _ _ (H47.out.fit hf)))⟩
      ·rw [b46]
       have H47 := ak N47
       have c47_bxp := N47.box B41_bxp.out
       have c47_bxb := N47.box B41_bxb.out
       clear N47 H43 c43_bxp c43_bxb cpos
       have E49 := ak (if_f b46 E45.out)
       clear E45 b46
       go_wp2_with fail
       refine (at_lit H47.out [(⟨#[61]⟩ : ByteArray)] (by simp)).mono ?_
       rintro e W51 ⟨rfl, N51⟩
       rcases at_cases H47.out [(⟨#[61]⟩ : ByteArray)] with b50 | b50
       ·rw [b50]
        have H51 := ak N51
        have c51_bxp := N51.box B41_bxp.out
        have c51_bxb := N51.box B41_bxb.out
        clear N51 H47 c47_bxp c47_bxb
        have E52 := ak (if_t b50 E49.out)
        clear E49 b50
        go_wp2_with fail
        obtain ⟨ks53, t53, p53, s53, e53, d53⟩ := wrap_in E52.out
        have R53 := ak e53
        have D53 := ak d53
        have S53 := ak s53
        clear e53 d53 s53 E52
        refine (wrap_now H51.out S53.out (by omega) (by have := HL.out; omega) 23 185 #[] #[.pointer (some ⟨W.heap.size, 0, none⟩)] p53.2 en_statement_2 (fit_iff.1 (run_fit R53.out)).1 (fun W1 F1 NN old => assignB_do  (k := j) (fun i hi => ih i (by omega)) (B41_bxp.out.old old) (by rw [List.length_append, List.length_singleton]; have := HL.out; omega) j (by omega) _ _ _ _ (by omega) NN R53.out)).mono ?_
        rintro e W54 ⟨rfl, N54⟩
        have H54 := ak N54
        have c54_bxp := N54.box B41_bxp.out
        have c54_bxb := N54.box B41_bxb.out
        clear N54 H51 c51_bxp c51_bxb
        go_wp2_with fail
        go_ret
        obtain hq := D53.out
        have hf := G.out
        rw [hq] at hf ⊢
        exact ⟨rfl, (BK.out _ _ _ _ _ _ (BK41.out _ _ _ _ _ _ (H54.out.fit hf)))⟩
       ·rw [b50]
        have H51 := ak N51
        have c51_bxp := N51.box B41_bxp.out
        have c51_bxb := N51.box B41_bxb.out
        clear N51 H47 c47_bxp c47_bxb
        have E55 := ak (if_f b50 E49.out)
        clear E49 b50
        go_wp2_with fail
        obtain ⟨ks56, t56, p56, s56, e56, d56⟩ := wrap_in E55.out
        have R56 := ak e56
        have D56 := ak d56
        have S56 := ak s56
        clear e56 d56 s56 E55
        refine (wrap_now H51.out S56.out (by omega) (by have := HL.out; omega) 26 186 #[] #[.pointer (some ⟨W.heap.size, 0, none⟩), .pointer (some ⟨W39.heap.size, 0, none⟩)] p56.2 en_statement_3 (fit_iff.1 (run_fit R56.out)).1 (fun W1 F1 NN old => exprStmtBF_do  (k := j) (fun i hi => ih i (by omega)) (B41_bxp.out.old old) (B41_bxb.out.old old) (by rw [List.length_append, List.length_singleton]; have := HL.out; omega) j (by omega) _ _ _ _ (by omega) NN R56.out)).mono ?_
        rintro e W57 ⟨rfl, N57⟩
        have H57 := ak N57
        have c57_bxp := N57.box B41_bxp.out
        have c57_bxb := N57.box B41_bxb.out
        clear N57 H51 c51_bxp c51_bxb
        go_wp2_with fail
        go_ret
        obtain hq := D56.out
        have hf := G.out
        rw [hq] at hf ⊢
        exact ⟨rfl, (BK.out _ _ _ _ _ _ (BK41.out _ _ _ _ _ _ (H57.out.fit hf)))⟩
theorem initB_do  {k : Nat} {bxp : Nat}  (ih : ∀ i, i < k → IH B T tv pb i) (hb_bxp : Box pb W0 F0 bxp (.pointer (some ⟨pb, 0, none⟩))) (hlow : low.length + k ≤ 10000000) : Does B T tv pb (k + 1) .initB 217 #[.pointer (some ⟨bxp, 0, none⟩)] low kd tx W0 F0 := by
 intro i hi m W s q hm N hr
 obtain ⟨j, rfl, h1, h2, h3⟩ := run_some hr
 have H0 := ak (N.fit h1)
 have E0 := ak h2
 have G := ak h3
 have HL := ak (show low.length + (j + 1) ≤ 10000000 by omega)
 have B_bxp := ak hb_bxp
 have c0_bxp := N.box hb_bxp
 clear N h1 h2 h3 hr hlow hb_bxp
 go_enter Tryz.func217, Tryz.ntmps217
 go_wp2_with fail
 have E1 := ak (sq_st E0.out)
 clear E0
 refine (bump_now H0.out (by omega)).mono ?_
 rintro e W2 ⟨rfl, N2⟩
 have H2 := ak N2
 have c2_bxp := N2.box B_bxp.out
 clear N2 H0 c0_bxp
 go_wp2_with fail
 have E3 := ak (sq_st E1.out)
 clear E1
 refine (expect_now H2.out (by omega) (⟨#[58]⟩ : ByteArray)).mono ?_
 rintro e W4 ⟨rfl, N4⟩
 have H4 := ak N4
 have c4_bxp := N4.box B_bxp.out
 clear N4 H2 c2_bxp
 go_wp2_with fail
 obtain ⟨p5, e5, d5⟩ := sq_cons E3.out
 have R5 := ak e5
 have E6 := ak (d5)
 clear E3 e5 d5
 refine ((ih j (by omega)).expr _ _ _ _ _ _ _ _ _ (by omega) (by have := HL.out; omega) H4.out R5.out).mono ?_
 rintro e W7 ⟨rfl, N7⟩
 have H7 := ak N7
 have c7_bxp := N7.box B_bxp.out
 clear N7 H4 c4_bxp
 go_wp2_with fail
 go_end0
 obtain hq := sq_nil E6.out
 have hf := G.out
 rw [hq] at hf ⊢
 exact ⟨⟨_, rfl⟩, _, (H7.out.fit hf)⟩
theorem initE_do  {k : Nat} {bxp : Nat}  (ih : ∀ i, i < k → IH B T tv pb i) (hb_bxp : Box pb W0 F0 bxp (.pointer (some ⟨pb, 0, none⟩))) (hlow : low.length + k ≤ 10000000) : Does B T tv pb (k + 1) .initE 216 #[.pointer (some ⟨bxp, 0, none⟩)] low kd tx W0 F0 := by
 intro i hi m W s q hm N hr
 obtain ⟨j, rfl, h1, h2, h3⟩ := run_some hr
 have H0 := ak (N.fit h1)
 have E0 := ak h2
 have G := ak h3
 have HL := ak (show low.length + (j + 1) ≤ 10000000 by omega)
 have B_bxp := ak hb_bxp
 have c0_bxp := N.box hb_bxp
 clear N h1 h2 h3 hr hlow hb_bxp
 go_enter Tryz.func216, Tryz.ntmps216
 go_wp2_with fail
 refine (ident_now H0.out).mono ?_
 rintro e W2 ⟨rfl, N2⟩
 rcases id_cases H0.out with b1 | b1
 ·rw [b1]
  have H2 := ak N2
  have c2_bxp := N2.box B_bxp.out
  clear N2 H0 c0_bxp
  have E3 := ak (if_t b1 E0.out)
  clear E0 b1
  go_wp2_with fail
  obtain ⟨p4, e4, d4⟩ := node_in E3.out
  have R4 := ak e4
  have D4 := ak d4
  clear e4 d4 E3
  refine (node_now H2.out (by omega) (by have := HL.out; omega) (34) 217 #[] #[.pointer (some ⟨bxp, 0, none⟩)] p4.2 en_structLit_1_1 (fit_iff.1 (run_fit R4.out)).1 (fun W1 F1 NN old => initB_do  (k := j) (fun i hi => ih i (by omega)) (B_bxp.out.old old) (by rw [List.length_append, List.length_singleton]; have := HL.out; omega) j (by omega) _ _ _ _ (by omega) NN R4.out)).mono ?_
  rintro e W5 ⟨rfl, N5⟩
  have H5 := ak N5
  have c5_bxp := N5.box B_bxp.out
  clear N5 H2 c2_bxp
  go_wp2_with fail
  go_end0
  obtain hq := D4.out
  have hf := G.out
  rw [hq] at hf ⊢
  exact ⟨⟨_, rfl⟩, _, (H5.out.fit hf)⟩
 ·rw [b1]
  have H2 := ak N2
  have c2_bxp := N2.box B_bxp.out
  clear N2 H0 c0_bxp
  have E6 := ak (if_f b1 E0.out)
  clear E0 b1
  go_wp2_with fail
  go_end0
  obtain hq := some_in E6.out
  have hf := G.out
  rw [hq] at hf ⊢
  exact ⟨⟨_, rfl⟩, _, (H2.out.fit hf)⟩
theorem structS_go  {k : Nat}  (ih : ∀ i, i < k → IH B T tv pb i) : Meth B T tv pb k .structS 201 #[.pointer (some ⟨pb, 0, none⟩)] (fun _ => .tuple #[]) := by
 intro m low kd tx W0 F0 W s q hm hlow N hr
 obtain ⟨j, rfl, h1, h2, h3⟩ := run_some hr
 have H0 := ak (N.fit h1)
 have E0 := ak h2
 have G := ak h3
 have HL := ak hlow
 have RUN := ak hr
 clear N h1 h2 h3 hr hlow
 go_enter Tryz.func201, Tryz.ntmps201
 go_wp2_with fail
 obtain ⟨WB, hWB⟩ : ∃ WB, (W.alloc (.cells #[.pointer (some ⟨pb, 0, none⟩)] 74)) = WB := ⟨_, rfl⟩
 have hbl : Below W.heap.size W WB := by rw [← hWB]; exact (below_alloc (Below.refl _ _) _)
 have hx_bxp : WB.heap[W.heap.size]? = some (.cells #[.pointer (some ⟨pb, 0, none⟩)] 74 (0, 0)) := by
  rw [← hWB]
  exact blk_new W _
 obtain ⟨FB, NB, hnew, holdb, hback⟩ := H0.out.enter hbl
 have BK := ak hback
 have hb_bxp : Box pb WB FB (W.heap.size) (.pointer (some ⟨pb, 0, none⟩)) := ⟨hnew _ (by omega) (blk_lt hx_bxp), _, hx_bxp⟩
 have B_bxp := ak hb_bxp
 have HN := ak NB
 have c0_bxp := NB.box hb_bxp
 rw [hWB]
 have hsz : W.heap.size + 1 = WB.heap.size := by rw [← hWB]; simp only [World.size_alloc]
 try rw [hsz]
 clear hsz hWB hbl hnew holdb hback NB H0 hb_bxp hx_bxp
 have E1 := ak (sq_st E0.out)
 clear E0
 refine (bump_now HN.out (by omega)).mono ?_
 rintro e W2 ⟨rfl, N2⟩
 have H2 := ak N2
 have c2_bxp := N2.box B_bxp.out
 clear N2 HN c0_bxp
 go_wp2_with fail
 obtain ⟨p3, e3, d3⟩ := sq_cons E1.out
 have R3 := ak e3
 have E4 := ak (d3)
 clear E1 e3 d3
 refine ((ih j (by omega)).path false _ _ _ _ _ _ _ _ _ (by omega) (by have := HL.out; omega) H2.out R3.out).mono ?_
 rintro e W5 ⟨rfl, N5⟩
 have H5 := ak N5
 have c5_bxp := N5.box B_bxp.out
 clear N5 H2 c2_bxp
 go_wp2_with fail
 have E6 := ak (sq_st E4.out)
 clear E4
 refine (expect_now H5.out (by omega) (⟨#[123]⟩ : ByteArray)).mono ?_
 rintro e W7 ⟨rfl, N7⟩
 have H7 := ak N7
 have c7_bxp := N7.box B_bxp.out
 clear N7 H5 c5_bxp
 go_wp2_with fail
 obtain ⟨p8, e8, d8⟩ := sq_cons E6.out
 have R8 := ak e8
 have E9 := ak (d8)
 clear E6 e8 d8
 refine (list_now 216 #[] #[.pointer (some ⟨W.heap.size, 0, none⟩)] en_structLit_1 (by have := HL.out; omega) ((initE_do  (k := j) (fun i hi => ih i (by omega)) B_bxp.out (by have := HL.out; omega)).mono (by omega)) H7.out R8.out).mono ?_
 rintro e W10 ⟨rfl, N10⟩
 have H10 := ak N10
 have c10_bxp := N10.box B_bxp.out
 clear N10 H7 c7_bxp
 go_wp2_with fail
 go_end0
 obtain hq := sq_nil E9.out
 have hf := G.out
 rw [hq] at hf ⊢
 exact ⟨rfl, (BK.out _ _ _ _ _ _ (H10.out.fit hf))⟩
theorem refB_do  {k : Nat} {bxp : Nat}  (ih : ∀ i, i < k → IH B T tv pb i) (hb_bxp : Box pb W0 F0 bxp (.pointer (some ⟨pb, 0, none⟩))) (hlow : low.length + k ≤ 10000000) : Does B T tv pb (k + 1) .refB 141 #[.pointer (some ⟨bxp, 0, none⟩)] low kd tx W0 F0 := by
 intro i hi m W s q hm N hr
 obtain ⟨j, rfl, h1, h2, h3⟩ := run_some hr
 have H0 := ak (N.fit h1)
 have E0 := ak h2
 have G := ak h3
 have HL := ak (show low.length + (j + 1) ≤ 10000000 by omega)
 have B_bxp := ak hb_bxp
 have c0_bxp := N.box hb_bxp
 clear N h1 h2 h3 hr hlow hb_bxp
 go_enter Tryz.func141, Tryz.ntmps141
 go_wp2_with fail
 have E1 := ak (sq_st E0.out)
 clear E0
 refine (bump_now H0.out (by omega)).mono ?_
 rintro e W2 ⟨rfl, N2⟩
 have H2 := ak N2
 have c2_bxp := N2.box B_bxp.out
 clear N2 H0 c0_bxp
 go_wp2_with fail
 have E3 := ak (sq_st E1.out)
 clear E1
 refine (accept_lit H2.out (by omega) [(⟨#[109, 117, 116]⟩ : ByteArray)] (by simp)).mono ?_
 rintro e W4 ⟨rfl, N4⟩
 have H4 := ak N4
 have c4_bxp := N4.box B_bxp.out
 clear N4 H2 c2_bxp
 go_wp2_with fail
 obtain ⟨p5, e5, d5⟩ := sq_cons E3.out
 have R5 := ak e5
 have E6 := ak (d5)
 clear E3 e5 d5
 refine ((ih j (by omega)).typeExpr _ _ _ _ _ _ _ _ _ (by omega) (by have := HL.out; omega) H4.out R5.out).mono ?_
 rintro e W7 ⟨rfl, N7⟩
 have H7 := ak N7
 have c7_bxp := N7.box B_bxp.out
 clear N7 H4 c4_bxp
 go_wp2_with fail
 go_end0
 obtain hq := sq_nil E6.out
 have hf := G.out
 rw [hq] at hf ⊢
 exact ⟨⟨_, rfl⟩, _, (H7.out.fit hf)⟩
theorem funcTypeB_do  {k : Nat} {bxp : Nat}  (ih : ∀ i, i < k → IH B T tv pb i) (hb_bxp : Box pb W0 F0 bxp (.pointer (some ⟨pb, 0, none⟩))) (hlow : low.length + k ≤ 10000000) : Does B T tv pb (k + 1) .funcTypeB 142 #[.pointer (some ⟨bxp, 0, none⟩)] low kd tx W0 F0 := by
 intro i hi m W s q hm N hr
 obtain ⟨j, rfl, h1, h2, h3⟩ := run_some hr
 have H0 := ak (N.fit h1)
 have E0 := ak h2
 have G := ak h3
 have HL := ak (show low.length + (j + 1) ≤ 10000000 by omega)
 have B_bxp := ak hb_bxp
 have c0_bxp := N.box hb_bxp
 clear N h1 h2 h3 hr hlow hb_bxp
 go_enter Tryz.func142, Tryz.ntmps142
 go_wp2_with fail
 have E1 := ak (sq_st E0.out)
 clear E0
 refine (bump_now H0.out (by omega)).mono ?_
 rintro e W2 ⟨rfl, N2⟩
 have H2 := ak N2
 have c2_bxp := N2.box B_bxp.out
 clear N2 H0 c0_bxp
 go_wp2_with fail
 have E3 := ak (sq_st E1.out)
 clear E1
 refine (expect_now H2.out (by omega) (⟨#[40]⟩ : ByteArray)).mono ?_
 rintro e W4 ⟨rfl, N4⟩
 have H4 := ak N4
 have c4_bxp := N4.box B_bxp.out
 clear N4 H2 c2_bxp
 go_wp2_with fail
 obtain ⟨p5, e5, d5⟩ := sq_cons E3.out
 have R5 := ak e5
 have E6 := ak (d5)
 clear E3 e5 d5
 refine (list_now 107 #[.pointer (some ⟨pb, 0, none⟩)] #[] en_typeExpr (by have := HL.out; omega) (Meth.does (k := j) (fun i hi => (ih i (by omega)).typeExpr) (by have := HL.out; omega) (Nat.le_refl _)) H4.out R5.out).mono ?_
 rintro e W7 ⟨rfl, N7⟩
 have H7 := ak N7
 have c7_bxp := N7.box B_bxp.out
 clear N7 H4 c4_bxp
 go_wp2_with fail
 obtain ⟨p8, e8, d8⟩ := sq_cons E6.out
 have R8 := ak e8
 have E9 := ak (d8)
 clear E6 e8 d8
 refine (opt_now 107 #[.pointer (some ⟨pb, 0, none⟩)] #[] en_typeExpr (Meth.does (k := j) (fun i hi => (ih i (by omega)).typeExpr) (by have := HL.out; omega) (Nat.le_refl _)) H7.out R8.out).mono ?_
 rintro e W10 ⟨rfl, N10⟩
 have H10 := ak N10
 have c10_bxp := N10.box B_bxp.out
 clear N10 H7 c7_bxp
 go_wp2_with fail
 go_end0
 obtain hq := sq_nil E9.out
 have hf := G.out
 rw [hq] at hf ⊢
 exact ⟨⟨_, rfl⟩, _, (H10.out.fit hf)⟩
theorem typeExpr_go  {k : Nat}  (ih : ∀ i, i < k → IH B T tv pb i) : Meth B T tv pb k .typeExpr 107 #[.pointer (some ⟨pb, 0, none⟩)] (fun _ => .tuple #[]) := by
 intro m low kd tx W0 F0 W s q hm hlow N hr
 obtain ⟨j, rfl, h1, h2, h3⟩ := run_some hr
 have H0 := ak (N.fit h1)
 have E0 := ak h2
 have G := ak h3
 have HL := ak hlow
 have RUN := ak hr
 clear N h1 h2 h3 hr hlow
 go_enter Tryz.func107, Tryz.ntmps107
 go_wp2_with fail
 obtain ⟨WB, hWB⟩ : ∃ WB, (W.alloc (.cells #[.pointer (some ⟨pb, 0, none⟩)] 74)) = WB := ⟨_, rfl⟩
 have hbl : Below W.heap.size W WB := by rw [← hWB]; exact (below_alloc (Below.refl _ _) _)
 have hx_bxp : WB.heap[W.heap.size]? = some (.cells #[.pointer (some ⟨pb, 0, none⟩)] 74 (0, 0)) := by
  rw [← hWB]
  exact blk_new W _
 obtain ⟨FB, NB, hnew, holdb, hback⟩ := H0.out.enter hbl
 have BK := ak hback
 have hb_bxp : Box pb WB FB (W.heap.size) (.pointer (some ⟨pb, 0, none⟩)) := ⟨hnew _ (by omega) (blk_lt hx_bxp), _, hx_bxp⟩
 have B_bxp := ak hb_bxp
 have HN := ak NB
 have c0_bxp := NB.box hb_bxp
 rw [hWB]
 have hsz : W.heap.size + 1 = WB.heap.size := by rw [← hWB]; simp only [World.size_alloc]
 try rw [hsz]
 clear hsz hWB hbl hnew holdb hback NB H0 hb_bxp hx_bxp
 refine (at_lit HN.out [(⟨#[38]⟩ : ByteArray)] (by simp)).mono ?_
 rintro e W2 ⟨rfl, N2⟩
 rcases at_cases HN.out [(⟨#[38]⟩ : ByteArray)] with b1 | b1
 ·rw [b1]
  have H2 := ak N2
  have c2_bxp := N2.box B_bxp.out
  clear N2 HN c0_bxp
  have E3 := ak (if_t b1 E0.out)
  clear E0 b1
  go_wp2_with fail
  obtain ⟨p4, e4, d4⟩ := node_in E3.out
  have R4 := ak e4
  have D4 := ak d4
  clear e4 d4 E3
  refine (node_now H2.out (by omega) (by have := HL.out; omega) (19) 141 #[] #[.pointer (some ⟨W.heap.size, 0, none⟩)] p4.2 en_typeExpr_1 (fit_iff.1 (run_fit R4.out)).1 (fun W1 F1 NN old => refB_do  (k := j) (fun i hi => ih i (by omega)) (B_bxp.out.old old) (by rw [List.length_append, List.length_singleton]; have := HL.out; omega) j (by omega) _ _ _ _ (by omega) NN R4.out)).mono ?_
  rintro e W5 ⟨rfl, N5⟩
  have H5 := ak N5
  have c5_bxp := N5.box B_bxp.out
  clear N5 H2 c2_bxp
  go_wp2_with fail
  go_end0
  obtain hq := D4.out
  have hf := G.out
  rw [hq] at hf ⊢
  exact ⟨rfl, (BK.out _ _ _ _ _ _ (H5.out.fit hf))⟩
 ·rw [b1]
  have H2 := ak N2
  have c2_bxp := N2.box B_bxp.out
  clear N2 HN c0_bxp
  have E6 := ak (if_f b1 E0.out)
  clear E0 b1
  go_wp2_with fail
  refine (at_lit H2.out [(⟨#[102, 110]⟩ : ByteArray)] (by simp)).mono ?_
  rintro e W8 ⟨rfl, N8⟩
  rcases at_cases H2.out [(⟨#[102, 110]⟩ : ByteArray)] with b7 | b7
  ·rw [b7]
   have H8 := ak N8
   have c8_bxp := N8.box B_bxp.out
   clear N8 H2 c2_bxp
   have E9 := ak (if_t b7 E6.out)
   clear E6 b7
   go_wp2_with fail
   obtain ⟨p10, e10, d10⟩ := node_in E9.out
   have R10 := ak e10
   have D10 := ak d10
   clear e10 d10 E9
   refine (node_now H8.out (by omega) (by have := HL.out; omega) (20) 142 #[] #[.pointer (some ⟨W.heap.size, 0, none⟩)] p10.2 en_typeExpr_2 (fit_iff.1 (run_fit R10.out)).1 (fun W1 F1 NN old => funcTypeB_do  (k := j) (fun i hi => ih i (by omega)) (B_bxp.out.old old) (by rw [List.length_append, List.length_singleton]; have := HL.out; omega) j (by omega) _ _ _ _ (by omega) NN R10.out)).mono ?_
   rintro e W11 ⟨rfl, N11⟩
   have H11 := ak N11
   have c11_bxp := N11.box B_bxp.out
   clear N11 H8 c8_bxp
   go_wp2_with fail
   go_end0
   obtain hq := D10.out
   have hf := G.out
   rw [hq] at hf ⊢
   exact ⟨rfl, (BK.out _ _ _ _ _ _ (H11.out.fit hf))⟩
  ·rw [b7]
   have H8 := ak N8
   have c8_bxp := N8.box B_bxp.out
   clear N8 H2 c2_bxp
   have E12 := ak (if_f b7 E6.out)
   clear E6 b7
   go_wp2_with fail
   refine (ident_now H8.out).mono ?_
   rintro e W14 ⟨rfl, N14⟩
   rcases id_cases H8.out with b13 | b13
   ·rw [b13]
    have H14 := ak N14
    have c14_bxp := N14.box B_bxp.out
    clear N14 H8 c8_bxp
    have E15 := ak (if_t b13 E12.out)
    clear E12 b13
    go_wp2_with fail
    refine ((ih j (by omega)).path true _ _ _ _ _ _ _ _ _ (by omega) (by have := HL.out; omega) H14.out E15.out).mono ?_
    rintro e W16 ⟨rfl, N16⟩
    have H16 := ak N16
    have c16_bxp := N16.box B_bxp.out
    clear N16 H14 c14_bxp
    go_wp2_with fail
    go_end0
    exact ⟨rfl, (BK.out _ _ _ _ _ _ H16.out)⟩
   ·rw [b13]
    have H14 := ak N14
    have c14_bxp := N14.box B_bxp.out
    clear N14 H8 c8_bxp
    have E17 := ak (if_f b13 E12.out)
    clear E12 b13
    go_wp2_with fail
    refine (missNode_now H14.out (by omega)).mono ?_
    rintro e W18 ⟨rfl, N18⟩
    have H18 := ak N18
    have c18_bxp := N18.box B_bxp.out
    clear N18 H14 c14_bxp
    go_wp2_with fail
    go_end0
    obtain hq := some_in E17.out
    have hf := G.out
    rw [hq] at hf ⊢
    exact ⟨rfl, (BK.out _ _ _ _ _ _ (H18.out.fit hf))⟩
theorem typeParamB_do  {k : Nat} {bxp : Nat}  (ih : ∀ i, i < k → IH B T tv pb i) (hb_bxp : Box pb W0 F0 bxp (.pointer (some ⟨pb, 0, none⟩))) (hlow : low.length + k ≤ 10000000) : Does B T tv pb (k + 1) .typeParamB 180 #[.pointer (some ⟨bxp, 0, none⟩)] low kd tx W0 F0 := by
 intro i hi m W s q hm N hr
 obtain ⟨j, rfl, h1, h2, h3⟩ := run_some hr
 have H0 := ak (N.fit h1)
 have E0 := ak h2
 have G := ak h3
 have HL := ak (show low.length + (j + 1) ≤ 10000000 by omega)
 have B_bxp := ak hb_bxp
 have c0_bxp := N.box hb_bxp
 clear N h1 h2 h3 hr hlow hb_bxp
 go_enter Tryz.func180, Tryz.ntmps180
 go_wp2_with fail
 refine (bump_now H0.out (by omega)).mono ?_
 rintro e W1 ⟨rfl, N1⟩
 have H1 := ak N1
 have c1_bxp := N1.box B_bxp.out
 clear N1 H0 c0_bxp
 go_wp2_with fail
 refine (accept_lit H1.out (by omega) [(⟨#[58]⟩ : ByteArray)] (by simp)).mono ?_
 rintro e W3 ⟨rfl, N3⟩
 rcases at_cases H1.out [(⟨#[58]⟩ : ByteArray)] with b2 | b2
 ·rw [acceptS_t b2] at N3
  rw [b2]
  have H3 := ak N3
  have c3_bxp := N3.box B_bxp.out
  clear N3 H1 c1_bxp
  have E4 := ak (if_t b2 E0.out)
  clear E0 b2
  go_wp2_with fail
  obtain ⟨p5, e5, d5⟩ := sq_cons E4.out
  have R5 := ak e5
  have E6 := ak (d5)
  clear E4 e5 d5
  refine ((ih j (by omega)).path true _ _ _ _ _ _ _ _ _ (by omega) (by have := HL.out; omega) H3.out R5.out).mono ?_
  rintro e W7 ⟨rfl, N7⟩
  have H7 := ak N7
  have c7_bxp := N7.box B_bxp.out
  clear N7 H3 c3_bxp
  go_wp2_with fail
  obtain ⟨p8, e8, d8⟩ := sq_cons E6.out
  have L8 := ak e8
  have Y8 := ak d8
  clear e8 d8 E6
  go_loopg [] j (fun g wr => ∃ pl s1, Now B T tv pb 10000000 low kd tx W0 F0 wr s1 ∧ run T g .boundLoop s1 = some pl ∧ pl.2 = p8.2 ∧ g ≤ j)
  case atStart =>
   obtain ⟨_, _, g1, _, _⟩ := run_some L8.out
   exact ⟨_, _, H7.out.fit g1, L8.out, rfl, Nat.le_refl _⟩
  case round =>
   obtain ⟨pl9, s9, N9, hr9, hpl9, hg9⟩ := hrel
   obtain ⟨i9, rfl, f1, f2, f3⟩ := run_some hr9
   have H9 := ak N9
   have E9 := ak f2
   have PL9 := ak hpl9
   have hi9 := ak hg9
   have c9_bxp := N9.box B_bxp.out
   clear N9 hr9 hpl9 hg9 f1 f2 f3 H7 c7_bxp
   go_wp2_with fail
   refine (accept_lit H9.out (by omega) [(⟨#[43]⟩ : ByteArray)] (by simp)).mono ?_
   rintro e W11 ⟨rfl, N11⟩
   rcases at_cases H9.out [(⟨#[43]⟩ : ByteArray)] with b10 | b10
   ·rw [acceptS_t b10] at N11
    rw [b10]
    have H11 := ak N11
    have c11_bxp := N11.box B_bxp.out
    clear N11 H9 c9_bxp
    have E12 := ak (if_t b10 E9.out)
    clear E9 b10
    go_wp2_with fail
    obtain ⟨p13, e13, d13⟩ := sq_cons E12.out
    have R13 := ak e13
    have E14 := ak (d13)
    clear E12 e13 d13
    refine ((ih i9 (by have := hi9.out; omega)).path true _ _ _ _ _ _ _ _ _ (by omega) (by have := HL.out; have := hi9.out; omega) H11.out R13.out).mono ?_
    rintro e W15 ⟨rfl, N15⟩
    have H15 := ak N15
    have c15_bxp := N15.box B_bxp.out
    clear N15 H11 c11_bxp
    go_wp2_with fail
    go_roundg i9
    case rel =>
     obtain ⟨pn, en1, en2⟩ := sq_cons E14.out
     obtain ⟨_, _, g1, _, _⟩ := run_some en1
     exact ⟨_, _, H15.out.fit g1, en1, by rw [← PL9.out, sq_nil en2], by have := hi9.out; omega⟩
    case measure => omega
   ·rw [acceptS_f b10] at N11
    rw [b10]
    have H11 := ak N11
    have c11_bxp := N11.box B_bxp.out
    clear N11 H9 c9_bxp
    have E16 := ak (if_f b10 E9.out)
    clear E9 b10
    go_wp2_with fail
    have hq17 : p8.2 = _ := PL9.out.symm.trans (congrArg Prod.snd (some_in E16.out))
    have E17 := ak (by have h := Y8.out; rw [hq17] at h; exact h)
    clear hq17 E16
    go_end0
    obtain hq := sq_nil E17.out
    have hf := G.out
    rw [hq] at hf ⊢
    exact ⟨⟨_, rfl⟩, _, (H11.out.fit hf)⟩
 ·rw [acceptS_f b2] at N3
  rw [b2]
  have H3 := ak N3
  have c3_bxp := N3.box B_bxp.out
  clear N3 H1 c1_bxp
  have E18 := ak (if_f b2 E0.out)
  clear E0 b2
  go_wp2_with fail
  go_end0
  obtain hq := some_in E18.out
  have hf := G.out
  rw [hq] at hf ⊢
  exact ⟨⟨_, rfl⟩, _, (H3.out.fit hf)⟩
theorem typeParam_go  {k : Nat}  (ih : ∀ i, i < k → IH B T tv pb i) : Meth B T tv pb k .typeParam 158 #[.pointer (some ⟨pb, 0, none⟩)] (fun _ => .tuple #[]) := by
 intro m low kd tx W0 F0 W s q hm hlow N hr
 obtain ⟨j, rfl, h1, h2, h3⟩ := run_some hr
 have H0 := ak (N.fit h1)
 have E0 := ak h2
 have G := ak h3
 have HL := ak hlow
 have RUN := ak hr
 clear N h1 h2 h3 hr hlow
 go_enter Tryz.func158, Tryz.ntmps158
 go_wp2_with fail
 obtain ⟨WB, hWB⟩ : ∃ WB, (W.alloc (.cells #[.pointer (some ⟨pb, 0, none⟩)] 74)) = WB := ⟨_, rfl⟩
 have hbl : Below W.heap.size W WB := by rw [← hWB]; exact (below_alloc (Below.refl _ _) _)
 have hx_bxp : WB.heap[W.heap.size]? = some (.cells #[.pointer (some ⟨pb, 0, none⟩)] 74 (0, 0)) := by
  rw [← hWB]
  exact blk_new W _
 obtain ⟨FB, NB, hnew, holdb, hback⟩ := H0.out.enter hbl
 have BK := ak hback
 have hb_bxp : Box pb WB FB (W.heap.size) (.pointer (some ⟨pb, 0, none⟩)) := ⟨hnew _ (by omega) (blk_lt hx_bxp), _, hx_bxp⟩
 have B_bxp := ak hb_bxp
 have HN := ak NB
 have c0_bxp := NB.box hb_bxp
 rw [hWB]
 have hsz : W.heap.size + 1 = WB.heap.size := by rw [← hWB]; simp only [World.size_alloc]
 try rw [hsz]
 clear hsz hWB hbl hnew holdb hback NB H0 hb_bxp hx_bxp
 refine (ident_now HN.out).mono ?_
 rintro e W2 ⟨rfl, N2⟩
 rcases id_cases HN.out with b1 | b1
 ·rw [b1]
  have H2 := ak N2
  have c2_bxp := N2.box B_bxp.out
  clear N2 HN c0_bxp
  have E3 := ak (if_t b1 E0.out)
  clear E0 b1
  go_wp2_with fail
  obtain ⟨p4, e4, d4⟩ := node_in E3.out
  have R4 := ak e4
  have D4 := ak d4
  clear e4 d4 E3
  refine (node_now H2.out (by omega) (by have := HL.out; omega) (11) 180 #[] #[.pointer (some ⟨W.heap.size, 0, none⟩)] p4.2 en_typeParam_1 (fit_iff.1 (run_fit R4.out)).1 (fun W1 F1 NN old => typeParamB_do  (k := j) (fun i hi => ih i (by omega)) (B_bxp.out.old old) (by rw [List.length_append, List.length_singleton]; have := HL.out; omega) j (by omega) _ _ _ _ (by omega) NN R4.out)).mono ?_
  rintro e W5 ⟨rfl, N5⟩
  have H5 := ak N5
  have c5_bxp := N5.box B_bxp.out
  clear N5 H2 c2_bxp
  go_wp2_with fail
  go_end0
  obtain hq := D4.out
  have hf := G.out
  rw [hq] at hf ⊢
  exact ⟨rfl, (BK.out _ _ _ _ _ _ (H5.out.fit hf))⟩
 ·rw [b1]
  have H2 := ak N2
  have c2_bxp := N2.box B_bxp.out
  clear N2 HN c0_bxp
  have E6 := ak (if_f b1 E0.out)
  clear E0 b1
  go_wp2_with fail
  go_end0
  obtain hq := some_in E6.out
  have hf := G.out
  rw [hq] at hf ⊢
  exact ⟨rfl, (BK.out _ _ _ _ _ _ (H2.out.fit hf))⟩
theorem typeParamsB_do  {k : Nat} {bxp : Nat}  (ih : ∀ i, i < k → IH B T tv pb i) (hb_bxp : Box pb W0 F0 bxp (.pointer (some ⟨pb, 0, none⟩))) (hlow : low.length + k ≤ 10000000) : Does B T tv pb (k + 1) .typeParamsB 157 #[.pointer (some ⟨bxp, 0, none⟩)] low kd tx W0 F0 := by
 intro i hi m W s q hm N hr
 obtain ⟨j, rfl, h1, h2, h3⟩ := run_some hr
 have H0 := ak (N.fit h1)
 have E0 := ak h2
 have G := ak h3
 have HL := ak (show low.length + (j + 1) ≤ 10000000 by omega)
 have B_bxp := ak hb_bxp
 have c0_bxp := N.box hb_bxp
 clear N h1 h2 h3 hr hlow hb_bxp
 go_enter Tryz.func157, Tryz.ntmps157
 go_wp2_with fail
 refine (accept_lit H0.out (by omega) [(⟨#[60]⟩ : ByteArray)] (by simp)).mono ?_
 rintro e W2 ⟨rfl, N2⟩
 rcases at_cases H0.out [(⟨#[60]⟩ : ByteArray)] with b1 | b1
 ·rw [acceptS_t b1] at N2
  rw [b1]
  have H2 := ak N2
  have c2_bxp := N2.box B_bxp.out
  clear N2 H0 c0_bxp
  have E3 := ak (if_t b1 E0.out)
  clear E0 b1
  go_wp2_with fail
  refine (list_now 158 #[.pointer (some ⟨pb, 0, none⟩)] #[] en_typeParam (by have := HL.out; omega) (Meth.does (k := j) (fun i hi => (ih i (by omega)).typeParam) (by have := HL.out; omega) (Nat.le_refl _)) H2.out E3.out).mono ?_
  rintro e W4 ⟨rfl, N4⟩
  have H4 := ak N4
  have c4_bxp := N4.box B_bxp.out
  clear N4 H2 c2_bxp
  go_wp2_with fail
  go_end0
  exact ⟨⟨_, rfl⟩, _, H4.out⟩
 ·rw [acceptS_f b1] at N2
  rw [b1]
  have H2 := ak N2
  have c2_bxp := N2.box B_bxp.out
  clear N2 H0 c0_bxp
  have E5 := ak (if_f b1 E0.out)
  clear E0 b1
  go_wp2_with fail
  go_end0
  obtain hq := some_in E5.out
  have hf := G.out
  rw [hq] at hf ⊢
  exact ⟨⟨_, rfl⟩, _, (H2.out.fit hf)⟩
theorem typeParams_go  {k : Nat}  (ih : ∀ i, i < k → IH B T tv pb i) : Meth B T tv pb k .typeParams 128 #[.pointer (some ⟨pb, 0, none⟩)] (fun _ => .tuple #[]) := by
 intro m low kd tx W0 F0 W s q hm hlow N hr
 obtain ⟨j, rfl, h1, h2, h3⟩ := run_some hr
 have H0 := ak (N.fit h1)
 have E0 := ak h2
 have G := ak h3
 have HL := ak hlow
 have RUN := ak hr
 clear N h1 h2 h3 hr hlow
 go_enter Tryz.func128, Tryz.ntmps128
 go_wp2_with fail
 obtain ⟨WB, hWB⟩ : ∃ WB, (W.alloc (.cells #[.pointer (some ⟨pb, 0, none⟩)] 74)) = WB := ⟨_, rfl⟩
 have hbl : Below W.heap.size W WB := by rw [← hWB]; exact (below_alloc (Below.refl _ _) _)
 have hx_bxp : WB.heap[W.heap.size]? = some (.cells #[.pointer (some ⟨pb, 0, none⟩)] 74 (0, 0)) := by
  rw [← hWB]
  exact blk_new W _
 obtain ⟨FB, NB, hnew, holdb, hback⟩ := H0.out.enter hbl
 have BK := ak hback
 have hb_bxp : Box pb WB FB (W.heap.size) (.pointer (some ⟨pb, 0, none⟩)) := ⟨hnew _ (by omega) (blk_lt hx_bxp), _, hx_bxp⟩
 have B_bxp := ak hb_bxp
 have HN := ak NB
 have c0_bxp := NB.box hb_bxp
 rw [hWB]
 have hsz : W.heap.size + 1 = WB.heap.size := by rw [← hWB]; simp only [World.size_alloc]
 try rw [hsz]
 clear hsz hWB hbl hnew holdb hback NB H0 hb_bxp hx_bxp
 obtain ⟨p1, e1, d1⟩ := node_in E0.out
 have R1 := ak e1
 have D1 := ak d1
 clear e1 d1 E0
 refine (node_now HN.out (by omega) (by have := HL.out; omega) (10) 157 #[] #[.pointer (some ⟨W.heap.size, 0, none⟩)] p1.2 en_typeParams_1 (fit_iff.1 (run_fit R1.out)).1 (fun W1 F1 NN old => typeParamsB_do  (k := j) (fun i hi => ih i (by omega)) (B_bxp.out.old old) (by rw [List.length_append, List.length_singleton]; have := HL.out; omega) j (by omega) _ _ _ _ (by omega) NN R1.out)).mono ?_
 rintro e W2 ⟨rfl, N2⟩
 have H2 := ak N2
 have c2_bxp := N2.box B_bxp.out
 clear N2 HN c0_bxp
 go_wp2_with fail
 go_end0
 obtain hq := D1.out
 have hf := G.out
 rw [hq] at hf ⊢
 exact ⟨rfl, (BK.out _ _ _ _ _ _ (H2.out.fit hf))⟩
theorem unaryB_do  {k : Nat} {bxp : Nat}  (ih : ∀ i, i < k → IH B T tv pb i) (hb_bxp : Box pb W0 F0 bxp (.pointer (some ⟨pb, 0, none⟩))) (hlow : low.length + k ≤ 10000000) : Does B T tv pb (k + 1) .unaryB 188 #[.pointer (some ⟨bxp, 0, none⟩)] low kd tx W0 F0 := by
 intro i hi m W s q hm N hr
 obtain ⟨j, rfl, h1, h2, h3⟩ := run_some hr
 have H0 := ak (N.fit h1)
 have E0 := ak h2
 have G := ak h3
 have HL := ak (show low.length + (j + 1) ≤ 10000000 by omega)
 have B_bxp := ak hb_bxp
 have c0_bxp := N.box hb_bxp
 clear N h1 h2 h3 hr hlow hb_bxp
 go_enter Tryz.func188, Tryz.ntmps188
 go_wp2_with fail
 have E1 := ak (sq_st E0.out)
 clear E0
 refine (bump_now H0.out (by omega)).mono ?_
 rintro e W2 ⟨rfl, N2⟩
 have H2 := ak N2
 have c2_bxp := N2.box B_bxp.out
 clear N2 H0 c0_bxp
 go_wp2_with fail
 obtain ⟨p3, e3, d3⟩ := sq_cons E1.out
 have R3 := ak e3
 have E4 := ak (d3)
 clear E1 e3 d3
 refine ((ih j (by omega)).unary _ _ _ _ _ _ _ _ _ (by omega) (by have := HL.out; omega) H2.out R3.out).mono ?_
 rintro e W5 ⟨rfl, N5⟩
 have H5 := ak N5
 have c5_bxp := N5.box B_bxp.out
 clear N5 H2 c2_bxp
 go_wp2_with fail
 go_end0
 obtain hq := sq_nil E4.out
 have hf := G.out
 rw [hq] at hf ⊢
 exact ⟨⟨_, rfl⟩, _, (H5.out.fit hf)⟩
end Go.Proofs.YtkijamagbgigmaaGreatDoor.Par
