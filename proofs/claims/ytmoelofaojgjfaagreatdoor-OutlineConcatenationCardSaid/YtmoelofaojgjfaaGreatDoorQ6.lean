/- Packed texts, part 6: contracts and plain lemmas towards outlineConcatenation_holds. -/
import Derived.Test.YtmoelofaojgjfaaGreatDoorQ5
import Derived.StillTailTactics
import Derived.Deep.RegionHeld3
set_option maxHeartbeats 8000000
set_option maxRecDepth 1000000
set_option linter.unusedVariables false
set_option linter.unusedSimpArgs false
namespace Go.Proofs.YtmoelofaojgjfaaGreatDoor.Par
open Go.RowKit Go.Proofs.YtmoelofaojgjfaaGreatDoorW.PrintWords Go.Proofs.YtmoelofaojgjfaaGreatDoorW.PrintLast
variable {B : Nat} {T : List Tok} {tv : Value} {pb : Nat} {low : List Tree} {kd : Int} {tx : ByteArray} {W0 : World} {F0 : List Nat}
theorem zv1  {k : Nat} {bxp : Nat}  (ih : ∀ i, i < k → IH B T tv pb i) (hb_bxp : Box pb W0 F0 bxp (.pointer (some ⟨pb, 0, none⟩))) (hlow : low.length + k ≤ 10000000) : Does B T tv pb (k + 1) .assocB 283 #[.pointer (some ⟨bxp, 0, none⟩)] low kd tx W0 F0 := by
 intro i hi m W s q hm N hr
 obtain ⟨j, rfl, H, E, G, HL, RUN⟩ := zah N hr (by omega)
 replace ih : ∀ i, i < j + 1 → IH B T tv pb i := fun i h => ih i (by omega)
 have B_bxp := ak hb_bxp
 have c_bxp := N.box hb_bxp
 clear N hr hlow hb_bxp
 go_enter Tryz.func283, Tryz.ntmps283
 go_wp2_with fail
 replace E := ak (zbh E.out)
 refine (zat H.out (by omega)).mono ?_
 rintro e W1 ⟨rfl, N⟩
 replace H := ak N
 replace c_bxp := N.box B_bxp.out
 clear N
 go_wp2_with fail
 replace E := ak (zbh E.out)
 refine (zbl H.out (by omega)).mono ?_
 rintro e W2 ⟨rfl, N⟩
 replace H := ak N
 replace c_bxp := N.box B_bxp.out
 clear N
 go_wp2_with fail
 obtain ⟨p3, e, d⟩ := zu E.out
 have R := ak e
 replace E := ak (d)
 clear e d
 refine (zgi 229 #[.pointer (some ⟨pb, 0, none⟩)] #[] zco (Meth.does (k := j) (fun i hi => (ih i (by omega)).typeExpr) (by have := HL.out; omega) (Nat.le_refl _)) H.out R.out).mono ?_
 rintro e W4 ⟨rfl, N⟩
 replace H := ak N
 replace c_bxp := N.box B_bxp.out
 clear N
 go_wp2_with fail
 replace E := ak (zbh E.out)
 refine (zag H.out (by omega) (⟨#[59]⟩ : ByteArray)).mono ?_
 rintro e W5 ⟨rfl, N⟩
 replace H := ak N
 replace c_bxp := N.box B_bxp.out
 clear N
 go_wp2_with fail
 go_end0
 exact zb2 ⟨zaw E.out⟩ H
theorem zr0  {k : Nat}  (ih : ∀ i, i < k → IH B T tv pb i) : Meth B T tv pb k .members 226 #[.pointer (some ⟨pb, 0, none⟩)] (fun _ => .tuple #[]) := by
 intro m low kd tx W0 F0 W s q hm hlow N hr
 obtain ⟨j, rfl, H, E, G, HL, RUN⟩ := zah N hr hlow
 clear N hr hlow
 go_enter Tryz.func226, Tryz.ntmps226
 go_wp2_with fail
 obtain ⟨WB, FB, hWB, hsz, BK, B_bxp, HN, c_bxp⟩ := zeo H (.pointer (some ⟨pb, 0, none⟩)) 184
 rw [hWB]
 try rw [hsz]
 clear hsz hWB H
 replace E := ak (zbh E.out)
 refine (zag HN.out (by omega) (⟨#[123]⟩ : ByteArray)).mono ?_
 rintro e W1 ⟨rfl, N⟩
 have H := ak N
 replace c_bxp := N.box B_bxp.out
 clear N HN
 go_wp2_with fail
 obtain ⟨p2, e2, d2⟩ := zu E.out
 have L2 := ak e2
 have Y2 := ak d2
 clear e2 d2 E
 go_loopg [] j (fun g wr => ∃ pl s1, Now B T tv pb 10000000 low kd tx WB FB wr s1 ∧ run T g .membersLoop s1 = some pl ∧ pl.2 = p2.2 ∧ g ≤ j)
 case atStart =>
  obtain ⟨_, _, g1, _, _⟩ := zad L2.out
  exact ⟨_, _, H.out.fit g1, L2.out, rfl, Nat.le_refl _⟩
 case round =>
  obtain ⟨pl3, s3, N3, hr3, hpl3, hg3⟩ := hrel
  obtain ⟨i3, rfl, f1, f2, f3⟩ := zad hr3
  have H3 := ak N3
  have E3 := ak f2
  have PL3 := ak hpl3
  have hi3 := ak hg3
  have c3_bxp := N3.box B_bxp.out
  clear N3 hr3 hpl3 hg3 f1 f2 f3 H c_bxp
  go_wp2_with fail
  refine (zbk H3.out [(⟨#[116, 121, 112, 101]⟩ : ByteArray), (⟨#[102, 110]⟩ : ByteArray)] (by simp)).mono ?_
  rintro e W5 ⟨rfl, N5⟩
  rcases zac H3.out [(⟨#[116, 121, 112, 101]⟩ : ByteArray), (⟨#[102, 110]⟩ : ByteArray)] with b4 | b4
  ·rw [b4]
   have H := ak N5
   have c_bxp := N5.box B_bxp.out
   clear c3_bxp N5 H3
   have E := ak (if_t b4 E3.out)
   clear E3 b4
   go_wp2_with fail
   obtain ⟨p6, e6, d6⟩ := zcp E.out
   have X6 := ak e6
   have Y6 := ak d6
   clear e6 d6 E
   refine (zbk H.out [(⟨#[102, 110]⟩ : ByteArray)] (by simp)).mono ?_
   rintro e W8 ⟨rfl, N8⟩
   rcases zac H.out [(⟨#[102, 110]⟩ : ByteArray)] with b7 | b7
   ·rw [b7]
    replace H := ak N8
    replace c_bxp := N8.box B_bxp.out
    clear N8
    have E := ak (if_t b7 X6.out)
    clear X6 b7
    go_wp2_with fail
    obtain ⟨p9, e, d⟩ := zai E.out
    have R9 := ak e
    have D9 := ak d
    clear e d E
    refine (zd3 H.out (by omega) (by have := HL.out; have := hi3.out; omega) (3) 282 #[] #[.pointer (some ⟨W.heap.size, 0, none⟩)] p9.2 zn2 (zcf.1 (zce R9.out)).1 (fun W1 F1 NN old => zry  (k := i3) (fun i hi => ih i (by have := hi3.out; omega)) (B_bxp.out.old old) (by rw [List.length_append, List.length_singleton]; have := HL.out; have := hi3.out; omega) i3 (by omega) _ _ _ _ (by omega) NN R9.out)).mono ?_
    rintro e W10 ⟨rfl, N⟩
    replace H := ak N
    replace c_bxp := N.box B_bxp.out
    clear N
    go_wp2_with fail
    have hp11 := D9.out
    have E11 := ak (by have h := Y6.out; rw [hp11] at h; exact h)
    clear hp11 D9 Y6
    go_roundg i3
    case rel =>
     obtain ⟨_, _, g1, _, _⟩ := zad E11.out
     exact ⟨_, _, H.out.fit g1, E11.out, PL3.out, by have := hi3.out; omega⟩
    case measure => omega
   ·rw [b7]
    replace H := ak N8
    replace c_bxp := N8.box B_bxp.out
    clear N8
    have E := ak (if_f b7 X6.out)
    clear X6 b7
    go_wp2_with fail
    obtain ⟨p12, e, d⟩ := zai E.out
    have R12 := ak e
    have D12 := ak d
    clear e d E
    refine (zd3 H.out (by omega) (by have := HL.out; have := hi3.out; omega) (16) 283 #[] #[.pointer (some ⟨W.heap.size, 0, none⟩)] p12.2 zn1 (zcf.1 (zce R12.out)).1 (fun W1 F1 NN old => zv1  (k := i3) (fun i hi => ih i (by have := hi3.out; omega)) (B_bxp.out.old old) (by rw [List.length_append, List.length_singleton]; have := HL.out; have := hi3.out; omega) i3 (by omega) _ _ _ _ (by omega) NN R12.out)).mono ?_
    rintro e W13 ⟨rfl, N⟩
    replace H := ak N
    replace c_bxp := N.box B_bxp.out
    clear N
    go_wp2_with fail
    have hp14 := D12.out
    have E14 := ak (by have h := Y6.out; rw [hp14] at h; exact h)
    clear hp14 D12 Y6
    go_roundg i3
    case rel =>
     obtain ⟨_, _, g1, _, _⟩ := zad E14.out
     exact ⟨_, _, H.out.fit g1, E14.out, PL3.out, by have := hi3.out; omega⟩
    case measure => omega
  ·rw [b4]
   have H := ak N5
   have c_bxp := N5.box B_bxp.out
   clear c3_bxp N5 H3
   have E := ak (if_f b4 E3.out)
   clear E3 b4
   go_wp2_with fail
   have hq15 : p2.2 = _ := PL3.out.symm.trans (congrArg Prod.snd (zab E.out))
   have E15 := ak (by have h := Y2.out; rw [hq15] at h; exact h)
   clear hq15 E
   have E := ak (zbh E15.out)
   clear E15
   refine (zag H.out (by omega) (⟨#[125]⟩ : ByteArray)).mono ?_
   rintro e W16 ⟨rfl, N⟩
   replace H := ak N
   replace c_bxp := N.box B_bxp.out
   clear N
   go_wp2_with fail
   go_end0
   exact ⟨rfl, (BK.out _ _ _ _ _ _ (zbb ⟨zaw E.out⟩ G H))⟩
theorem zt5  {k : Nat} {bxp : Nat}  (ih : ∀ i, i < k → IH B T tv pb i) (hb_bxp : Box pb W0 F0 bxp (.pointer (some ⟨pb, 0, none⟩))) (hlow : low.length + k ≤ 10000000) : Does B T tv pb (k + 1) .paramB 292 #[.pointer (some ⟨bxp, 0, none⟩)] low kd tx W0 F0 := by
 intro i hi m W s q hm N hr
 obtain ⟨j, rfl, H, E, G, HL, RUN⟩ := zah N hr (by omega)
 replace ih : ∀ i, i < j + 1 → IH B T tv pb i := fun i h => ih i (by omega)
 have B_bxp := ak hb_bxp
 have c_bxp := N.box hb_bxp
 clear N hr hlow hb_bxp
 go_enter Tryz.func292, Tryz.ntmps292
 go_wp2_with fail
 replace E := ak (zbh E.out)
 refine (zat H.out (by omega)).mono ?_
 rintro e W1 ⟨rfl, N⟩
 replace H := ak N
 replace c_bxp := N.box B_bxp.out
 clear N
 go_wp2_with fail
 obtain ⟨p2, e, d⟩ := zu E.out
 have R := ak e
 replace E := ak (d)
 clear e d
 refine (zgi 229 #[.pointer (some ⟨pb, 0, none⟩)] #[] zco (Meth.does (k := j) (fun i hi => (ih i (by omega)).typeExpr) (by have := HL.out; omega) (Nat.le_refl _)) H.out R.out).mono ?_
 rintro e W3 ⟨rfl, N⟩
 replace H := ak N
 replace c_bxp := N.box B_bxp.out
 clear N
 go_wp2_with fail
 go_end0
 exact zb2 ⟨zaw E.out⟩ H
theorem zt3  {k : Nat} {bxp : Nat}  (ih : ∀ i, i < k → IH B T tv pb i) (hb_bxp : Box pb W0 F0 bxp (.pointer (some ⟨pb, 0, none⟩))) (hlow : low.length + k ≤ 10000000) : Does B T tv pb (k + 1) .paramE 291 #[.pointer (some ⟨bxp, 0, none⟩)] low kd tx W0 F0 := by
 intro i hi m W s q hm N hr
 obtain ⟨j, rfl, H, E, G, HL, RUN⟩ := zah N hr (by omega)
 replace ih : ∀ i, i < j + 1 → IH B T tv pb i := fun i h => ih i (by omega)
 have B_bxp := ak hb_bxp
 have c_bxp := N.box hb_bxp
 clear N hr hlow hb_bxp
 go_enter Tryz.func291, Tryz.ntmps291
 go_wp2_with fail
 refine (za4 H.out).mono ?_
 rintro e W2 ⟨rfl, N2⟩
 rcases zbv H.out with b1 | b1
 ·rw [b1]
  replace H := ak N2
  replace c_bxp := N2.box B_bxp.out
  clear N2
  replace E := ak (if_t b1 E.out)
  clear b1
  go_wp2_with fail
  obtain ⟨p3, e, d⟩ := zai E.out
  have R3 := ak e
  have D3 := ak d
  clear e d E
  refine (zba H HL #[] #[.pointer (some ⟨bxp, 0, none⟩)] zjj R3 fun W1 F1 NN old => (zt5  (dn ih) (B_bxp.out.old old) (hla HL)).at NN R3).mono ?_
  rintro e W4 ⟨rfl, N⟩
  replace H := ak N
  replace c_bxp := N.box B_bxp.out
  clear N
  go_wp2_with fail
  go_end0
  exact zb2 D3 H
 ·rw [b1]
  replace H := ak N2
  replace c_bxp := N2.box B_bxp.out
  clear N2
  replace E := ak (if_f b1 E.out)
  clear b1
  go_wp2_with fail
  go_end0
  exact zb2 ⟨zab E.out⟩ H
theorem zrr (closing : ByteArray) {k : Nat} {bxp : Nat} {bxc : Nat}  (ih : ∀ i, i < k → IH B T tv pb i) (hb_bxp : Box pb W0 F0 bxp (.pointer (some ⟨pb, 0, none⟩))) (hb_bxc : Box pb W0 F0 bxc (.string closing)) (hlow : low.length + k ≤ 10000000) : Does B T tv pb (k + 1) (.paramsB closing) 290 #[.pointer (some ⟨bxp, 0, none⟩), .pointer (some ⟨bxc, 0, none⟩)] low kd tx W0 F0 := by
 intro i hi m W s q hm N hr
 obtain ⟨j, rfl, H, E, G, HL, RUN⟩ := zah N hr (by omega)
 replace ih : ∀ i, i < j + 1 → IH B T tv pb i := fun i h => ih i (by omega)
 have B_bxp := ak hb_bxp
 have c_bxp := N.box hb_bxp
 have B_bxc := ak hb_bxc
 have c_bxc := N.box hb_bxc
 clear N hr hlow hb_bxp hb_bxc
 go_enter Tryz.func290, Tryz.ntmps290
 go_wp2_with fail
 refine (zdm 291 #[] #[.pointer (some ⟨bxp, 0, none⟩)] zl4 (by have := HL.out; omega) ((zt3  (dn ih) B_bxp.out (hl_ HL)).mono (by omega)) H.out E.out).mono ?_
 rintro e W1 ⟨rfl, N⟩
 replace H := ak N
 replace c_bxp := N.box B_bxp.out
 replace c_bxc := N.box B_bxc.out
 clear N
 go_wp2_with fail
 go_end0
 exact ⟨⟨_, rfl⟩, _, H.out⟩
theorem zt1 (closing : ByteArray) {k : Nat}  (ih : ∀ i, i < k → IH B T tv pb i) : Meth B T tv pb k (.params closing) 231 #[.pointer (some ⟨pb, 0, none⟩), .string closing] (fun _ => .tuple #[]) := by
 intro m low kd tx W0 F0 W s q hm hlow N hr
 obtain ⟨j, rfl, H, E, G, HL, RUN⟩ := zah N hr hlow
 clear N hr hlow
 go_enter Tryz.func231, Tryz.ntmps231
 go_wp2_with fail
 obtain ⟨WB, FB, hWB, hsz, BK, B_bxp, B_bxc, HN, c_bxp, c_bxc⟩ := zen H (.pointer (some ⟨pb, 0, none⟩)) 184 (.string closing) 9
 rw [hWB]
 try rw [hsz]
 clear hsz hWB H
 obtain ⟨p1, e, d⟩ := zai E.out
 have R1 := ak e
 have D1 := ak d
 clear e d E
 refine (zba HN HL #[] #[.pointer (some ⟨W.heap.size, 0, none⟩), .pointer (some ⟨W.heap.size + 1, 0, none⟩)] zpw R1 fun W1 F1 NN old => (zrr closing (dn ih) (B_bxp.out.old old) (B_bxc.out.old old) (hla HL)).at NN R1).mono ?_
 rintro e W2 ⟨rfl, N⟩
 have H := ak N
 replace c_bxp := N.box B_bxp.out
 replace c_bxc := N.box B_bxc.out
 clear N HN
 go_wp2_with fail
 go_end0
 exact ⟨rfl, (BK.out _ _ _ _ _ _ (zbb D1 G H))⟩
theorem zqe  {k : Nat} {bxp : Nat} {bxt : Nat}  (ih : ∀ i, i < k → IH B T tv pb i) (hb_bxp : Box pb W0 F0 bxp (.pointer (some ⟨pb, 0, none⟩))) (hb_bxt : Box pb W0 F0 bxt (.bool false)) (hlow : low.length + k ≤ 10000000) : Does B T tv pb (k + 1) (.segB false) 323 #[.pointer (some ⟨bxp, 0, none⟩), .pointer (some ⟨bxt, 0, none⟩)] low kd tx W0 F0 := by
 intro i hi m W s q hm N hr
 obtain ⟨j, rfl, H, E, G, HL, RUN⟩ := zah N hr (by omega)
 replace ih : ∀ i, i < j + 1 → IH B T tv pb i := fun i h => ih i (by omega)
 have B_bxp := ak hb_bxp
 have c_bxp := N.box hb_bxp
 have B_bxt := ak hb_bxt
 have c_bxt := N.box hb_bxt
 clear N hr hlow hb_bxp hb_bxt
 go_enter Tryz.func323, Tryz.ntmps323
 go_wp2_with fail
 replace E := ak (zbh E.out)
 refine (zbl H.out (by omega)).mono ?_
 rintro e W1 ⟨rfl, N⟩
 replace H := ak N
 replace c_bxp := N.box B_bxp.out
 replace c_bxt := N.box B_bxt.out
 clear N
 go_wp2_with fail
 replace E := ak (show sqL [] _ = some q from zy1 E.out)
 go_end0
 exact zb2 ⟨zaw E.out⟩ H
theorem ztw  {k : Nat} {bxp : Nat} {bxt : Nat}  (ih : ∀ i, i < k → IH B T tv pb i) (hb_bxp : Box pb W0 F0 bxp (.pointer (some ⟨pb, 0, none⟩))) (hb_bxt : Box pb W0 F0 bxt (.bool false)) (hlow : low.length + k ≤ 10000000) : Does B T tv pb (k + 1) (.pathB false) 322 #[.pointer (some ⟨bxp, 0, none⟩), .pointer (some ⟨bxt, 0, none⟩)] low kd tx W0 F0 := by
 intro i hi m W s q hm N hr
 obtain ⟨j, rfl, H, E, G, HL, RUN⟩ := zah N hr (by omega)
 replace ih : ∀ i, i < j + 1 → IH B T tv pb i := fun i h => ih i (by omega)
 have B_bxp := ak hb_bxp
 have c_bxp := N.box hb_bxp
 have B_bxt := ak hb_bxt
 have c_bxt := N.box hb_bxt
 clear N hr hlow hb_bxp hb_bxt
 go_enter Tryz.func322, Tryz.ntmps322
 go_wp2_with fail
 have L1 := ak E.out
 clear E
 go_loopg [2] j (fun g v wr => ∃ b pl s1, v = .bool b ∧ Now B T tv pb 10000000 low kd tx W0 F0 wr s1 ∧ run T g (.pathLoop false b) s1 = some pl ∧ pl.2 = q.2 ∧ g ≤ j)
 case atStart =>
  obtain ⟨_, _, g1, _, _⟩ := zad L1.out
  exact ⟨true, _, _, rfl, H.out.fit g1, L1.out, rfl, Nat.le_refl _⟩
 case round =>
  obtain ⟨b2, pl2, s2, rfl, N2, hr2, hpl2, hg2⟩ := hrel
  obtain ⟨i2, rfl, f1, f2, f3⟩ := zad hr2
  have H2 := ak N2
  have PL2 := ak hpl2
  have hi2 := ak hg2
  have c2_bxp := N2.box B_bxp.out
  have c2_bxt := N2.box B_bxt.out
  clear N2 hr2 hpl2 hg2 f1 f3 H c_bxp c_bxt
  cases b2
  ·have E2 := ak f2
   clear f2
   go_wp2_with fail
   refine (zbm H2.out (by omega) [(⟨#[58, 58]⟩ : ByteArray)] (by simp)).mono ?_
   rintro e W4 ⟨rfl, N4⟩
   rcases zac H2.out [(⟨#[58, 58]⟩ : ByteArray)] with b3 | b3
   ·rw [zby b3] at N4
    rw [b3]
    have H := ak N4
    have c_bxp := N4.box B_bxp.out
    have c_bxt := N4.box B_bxt.out
    clear c2_bxp c2_bxt N4 H2
    have E := ak (if_t b3 E2.out)
    clear E2 b3
    go_wp2_with fail
    obtain ⟨p5, e, d⟩ := zu E.out
    have X5 := ak e
    replace E := ak (d)
    clear e d
    obtain ⟨p6, e, d⟩ := zai X5.out
    have R6 := ak e
    have D6 := ak d
    clear e d X5
    refine (zd3 H.out (by omega) (by have := HL.out; have := hi2.out; omega) (18) 323 #[] #[.pointer (some ⟨bxp, 0, none⟩), .pointer (some ⟨bxt, 0, none⟩)] p6.2 zfh (zcf.1 (zce R6.out)).1 (fun W1 F1 NN old => zqe  (k := i2) (fun i hi => ih i (by have := hi2.out; omega)) (B_bxp.out.old old) (B_bxt.out.old old) (by rw [List.length_append, List.length_singleton]; have := HL.out; have := hi2.out; omega) i2 (by omega) _ _ _ _ (by omega) NN R6.out)).mono ?_
    rintro e W7 ⟨rfl, N⟩
    replace H := ak N
    replace c_bxp := N.box B_bxp.out
    replace c_bxt := N.box B_bxt.out
    clear N
    go_wp2_with fail
    have E6a := E.out
    rw [D6.out] at E6a
    replace E := ak (E6a)
    clear E6a
    go_roundg i2
    case rel =>
     obtain ⟨pn, en1, en2⟩ := zu E.out
     obtain ⟨_, _, g1, _, _⟩ := zad en1
     exact ⟨false, _, _, rfl, H.out.fit g1, en1, by rw [← PL2.out, zaw en2], by have := hi2.out; omega⟩
    case measure => omega
   ·rw [zbz b3] at N4
    rw [b3]
    have H := ak N4
    have c_bxp := N4.box B_bxp.out
    have c_bxt := N4.box B_bxt.out
    clear c2_bxp c2_bxt N4 H2
    have E := ak (if_f b3 E2.out)
    clear E2 b3
    go_wp2_with fail
    have hq8 : q.2 = _ := PL2.out.symm.trans (congrArg Prod.snd (zab E.out))
    have E8 := ak hq8
    clear hq8 E
    go_end0
    exact zyg E8 H
  ·have E2 := ak f2
   clear f2
   go_wp2_with fail
   obtain ⟨p9, e, d⟩ := zu E2.out
   have X9 := ak e
   have E := ak (d)
   clear E2 e d
   obtain ⟨p10, e, d⟩ := zai X9.out
   have R10 := ak e
   have D10 := ak d
   clear e d X9
   refine (zd3 H2.out (by omega) (by have := HL.out; have := hi2.out; omega) (18) 323 #[] #[.pointer (some ⟨bxp, 0, none⟩), .pointer (some ⟨bxt, 0, none⟩)] p10.2 zfh (zcf.1 (zce R10.out)).1 (fun W1 F1 NN old => zqe  (k := i2) (fun i hi => ih i (by have := hi2.out; omega)) (B_bxp.out.old old) (B_bxt.out.old old) (by rw [List.length_append, List.length_singleton]; have := HL.out; have := hi2.out; omega) i2 (by omega) _ _ _ _ (by omega) NN R10.out)).mono ?_
   rintro e W11 ⟨rfl, N⟩
   have H := ak N
   have c_bxp := N.box B_bxp.out
   have c_bxt := N.box B_bxt.out
   clear c2_bxp c2_bxt N H2
   go_wp2_with fail
   have E10a := E.out
   rw [D10.out] at E10a
   replace E := ak (E10a)
   clear E10a
   go_roundg i2
   case rel =>
    obtain ⟨pn, en1, en2⟩ := zu E.out
    obtain ⟨_, _, g1, _, _⟩ := zad en1
    exact ⟨false, _, _, rfl, H.out.fit g1, en1, by rw [← PL2.out, zaw en2], by have := hi2.out; omega⟩
   case measure => omega
theorem zwu  {k : Nat}  (ih : ∀ i, i < k → IH B T tv pb i) : Meth B T tv pb k (.path false) 287 #[.pointer (some ⟨pb, 0, none⟩), .bool false] (fun _ => .tuple #[]) := by
 intro m low kd tx W0 F0 W s q hm hlow N hr
 obtain ⟨j, rfl, H, E, G, HL, RUN⟩ := zah N hr hlow
 clear N hr hlow
 go_enter Tryz.func287, Tryz.ntmps287
 go_wp2_with fail
 obtain ⟨WB, FB, hWB, hsz, BK, B_bxp, B_bxt, HN, c_bxp, c_bxt⟩ := zen H (.pointer (some ⟨pb, 0, none⟩)) 184 (.bool false) 4
 rw [hWB]
 try rw [hsz]
 clear hsz hWB H
 obtain ⟨p1, e, d⟩ := zai E.out
 have R1 := ak e
 have D1 := ak d
 clear e d E
 refine (zba HN HL #[] #[.pointer (some ⟨W.heap.size, 0, none⟩), .pointer (some ⟨W.heap.size + 1, 0, none⟩)] zn0 R1 fun W1 F1 NN old => (ztw  (dn ih) (B_bxp.out.old old) (B_bxt.out.old old) (hla HL)).at NN R1).mono ?_
 rintro e W2 ⟨rfl, N⟩
 have H := ak N
 replace c_bxp := N.box B_bxp.out
 replace c_bxt := N.box B_bxt.out
 clear N HN
 go_wp2_with fail
 go_end0
 exact ⟨rfl, (BK.out _ _ _ _ _ _ (zbb D1 G H))⟩
theorem zqd  {k : Nat} {bxp : Nat} {bxt : Nat}  (ih : ∀ i, i < k → IH B T tv pb i) (hb_bxp : Box pb W0 F0 bxp (.pointer (some ⟨pb, 0, none⟩))) (hb_bxt : Box pb W0 F0 bxt (.bool true)) (hlow : low.length + k ≤ 10000000) : Does B T tv pb (k + 1) (.segB true) 323 #[.pointer (some ⟨bxp, 0, none⟩), .pointer (some ⟨bxt, 0, none⟩)] low kd tx W0 F0 := by
 intro i hi m W s q hm N hr
 obtain ⟨j, rfl, H, E, G, HL, RUN⟩ := zah N hr (by omega)
 replace ih : ∀ i, i < j + 1 → IH B T tv pb i := fun i h => ih i (by omega)
 have B_bxp := ak hb_bxp
 have c_bxp := N.box hb_bxp
 have B_bxt := ak hb_bxt
 have c_bxt := N.box hb_bxt
 clear N hr hlow hb_bxp hb_bxt
 go_enter Tryz.func323, Tryz.ntmps323
 go_wp2_with fail
 replace E := ak (zbh E.out)
 refine (zbl H.out (by omega)).mono ?_
 rintro e W1 ⟨rfl, N⟩
 replace H := ak N
 replace c_bxp := N.box B_bxp.out
 replace c_bxt := N.box B_bxt.out
 clear N
 go_wp2_with fail
 obtain ⟨p2, e2, d2⟩ := zu E.out
 have X2 := ak (z03 e2)
 have Y2 := ak d2
 clear e2 d2 E
 refine (zbm H.out (by omega) [(⟨#[60]⟩ : ByteArray)] (by simp)).mono ?_
 rintro e W4 ⟨rfl, N4⟩
 rcases zac H.out [(⟨#[60]⟩ : ByteArray)] with b3 | b3
 ·rw [zby b3] at N4
  rw [b3]
  replace H := ak N4
  replace c_bxp := N4.box B_bxp.out
  replace c_bxt := N4.box B_bxt.out
  clear N4
  have E := ak (if_t b3 X2.out)
  clear X2 b3
  go_wp2_with fail
  refine (zdm 229 #[.pointer (some ⟨pb, 0, none⟩)] #[] zco (by have := HL.out; omega) (Meth.does (k := j) (fun i hi => (ih i (by omega)).typeExpr) (by have := HL.out; omega) (Nat.le_refl _)) H.out E.out).mono ?_
  rintro e W5 ⟨rfl, N⟩
  replace H := ak N
  replace c_bxp := N.box B_bxp.out
  replace c_bxt := N.box B_bxt.out
  clear N
  go_wp2_with fail
  go_end0
  exact zb2 ⟨zaw Y2.out⟩ H
 ·rw [zbz b3] at N4
  rw [b3]
  replace H := ak N4
  replace c_bxp := N4.box B_bxp.out
  replace c_bxt := N4.box B_bxt.out
  clear N4
  have E := ak (if_f b3 X2.out)
  clear X2 b3
  go_wp2_with fail
  have hp6 := zab E.out
  have E6 := ak (by have h := Y2.out; rw [hp6] at h; exact h)
  clear hp6 E Y2
  go_end0
  exact zb2 ⟨zaw E6.out⟩ H
theorem ztv  {k : Nat} {bxp : Nat} {bxt : Nat}  (ih : ∀ i, i < k → IH B T tv pb i) (hb_bxp : Box pb W0 F0 bxp (.pointer (some ⟨pb, 0, none⟩))) (hb_bxt : Box pb W0 F0 bxt (.bool true)) (hlow : low.length + k ≤ 10000000) : Does B T tv pb (k + 1) (.pathB true) 322 #[.pointer (some ⟨bxp, 0, none⟩), .pointer (some ⟨bxt, 0, none⟩)] low kd tx W0 F0 := by
 intro i hi m W s q hm N hr
 obtain ⟨j, rfl, H, E, G, HL, RUN⟩ := zah N hr (by omega)
 replace ih : ∀ i, i < j + 1 → IH B T tv pb i := fun i h => ih i (by omega)
 have B_bxp := ak hb_bxp
 have c_bxp := N.box hb_bxp
 have B_bxt := ak hb_bxt
 have c_bxt := N.box hb_bxt
 clear N hr hlow hb_bxp hb_bxt
 go_enter Tryz.func322, Tryz.ntmps322
 go_wp2_with fail
 have L1 := ak E.out
 clear E
 go_loopg [2] j (fun g v wr => ∃ b pl s1, v = .bool b ∧ Now B T tv pb 10000000 low kd tx W0 F0 wr s1 ∧ run T g (.pathLoop true b) s1 = some pl ∧ pl.2 = q.2 ∧ g ≤ j)
 case atStart =>
  obtain ⟨_, _, g1, _, _⟩ := zad L1.out
  exact ⟨true, _, _, rfl, H.out.fit g1, L1.out, rfl, Nat.le_refl _⟩
 case round =>
  obtain ⟨b2, pl2, s2, rfl, N2, hr2, hpl2, hg2⟩ := hrel
  obtain ⟨i2, rfl, f1, f2, f3⟩ := zad hr2
  have H2 := ak N2
  have PL2 := ak hpl2
  have hi2 := ak hg2
  have c2_bxp := N2.box B_bxp.out
  have c2_bxt := N2.box B_bxt.out
  clear N2 hr2 hpl2 hg2 f1 f3 H c_bxp c_bxt
  cases b2
  ·have E2 := ak f2
   clear f2
   go_wp2_with fail
   refine (zbm H2.out (by omega) [(⟨#[58, 58]⟩ : ByteArray)] (by simp)).mono ?_
   rintro e W4 ⟨rfl, N4⟩
   rcases zac H2.out [(⟨#[58, 58]⟩ : ByteArray)] with b3 | b3
   ·rw [zby b3] at N4
    rw [b3]
    have H := ak N4
    have c_bxp := N4.box B_bxp.out
    have c_bxt := N4.box B_bxt.out
    clear c2_bxp c2_bxt N4 H2
    have E := ak (if_t b3 E2.out)
    clear E2 b3
    go_wp2_with fail
    obtain ⟨p5, e, d⟩ := zu E.out
    have X5 := ak e
    replace E := ak (d)
    clear e d
    obtain ⟨p6, e, d⟩ := zai X5.out
    have R6 := ak e
    have D6 := ak d
    clear e d X5
    refine (zd3 H.out (by omega) (by have := HL.out; have := hi2.out; omega) (18) 323 #[] #[.pointer (some ⟨bxp, 0, none⟩), .pointer (some ⟨bxt, 0, none⟩)] p6.2 zfh (zcf.1 (zce R6.out)).1 (fun W1 F1 NN old => zqd  (k := i2) (fun i hi => ih i (by have := hi2.out; omega)) (B_bxp.out.old old) (B_bxt.out.old old) (by rw [List.length_append, List.length_singleton]; have := HL.out; have := hi2.out; omega) i2 (by omega) _ _ _ _ (by omega) NN R6.out)).mono ?_
    rintro e W7 ⟨rfl, N⟩
    replace H := ak N
    replace c_bxp := N.box B_bxp.out
    replace c_bxt := N.box B_bxt.out
    clear N
    go_wp2_with fail
    have E6a := E.out
    rw [D6.out] at E6a
    replace E := ak (E6a)
    clear E6a
    go_roundg i2
    case rel =>
     obtain ⟨pn, en1, en2⟩ := zu E.out
     obtain ⟨_, _, g1, _, _⟩ := zad en1
     exact ⟨false, _, _, rfl, H.out.fit g1, en1, by rw [← PL2.out, zaw en2], by have := hi2.out; omega⟩
    case measure => omega
   ·rw [zbz b3] at N4
    rw [b3]
    have H := ak N4
    have c_bxp := N4.box B_bxp.out
    have c_bxt := N4.box B_bxt.out
    clear c2_bxp c2_bxt N4 H2
    have E := ak (if_f b3 E2.out)
    clear E2 b3
    go_wp2_with fail
    have hq8 : q.2 = _ := PL2.out.symm.trans (congrArg Prod.snd (zab E.out))
    have E8 := ak hq8
    clear hq8 E
    go_end0
    exact zyg E8 H
  ·have E2 := ak f2
   clear f2
   go_wp2_with fail
   obtain ⟨p9, e, d⟩ := zu E2.out
   have X9 := ak e
   have E := ak (d)
   clear E2 e d
   obtain ⟨p10, e, d⟩ := zai X9.out
   have R10 := ak e
   have D10 := ak d
   clear e d X9
   refine (zd3 H2.out (by omega) (by have := HL.out; have := hi2.out; omega) (18) 323 #[] #[.pointer (some ⟨bxp, 0, none⟩), .pointer (some ⟨bxt, 0, none⟩)] p10.2 zfh (zcf.1 (zce R10.out)).1 (fun W1 F1 NN old => zqd  (k := i2) (fun i hi => ih i (by have := hi2.out; omega)) (B_bxp.out.old old) (B_bxt.out.old old) (by rw [List.length_append, List.length_singleton]; have := HL.out; have := hi2.out; omega) i2 (by omega) _ _ _ _ (by omega) NN R10.out)).mono ?_
   rintro e W11 ⟨rfl, N⟩
   have H := ak N
   have c_bxp := N.box B_bxp.out
   have c_bxt := N.box B_bxt.out
   clear c2_bxp c2_bxt N H2
   go_wp2_with fail
   have E10a := E.out
   rw [D10.out] at E10a
   replace E := ak (E10a)
   clear E10a
   go_roundg i2
   case rel =>
    obtain ⟨pn, en1, en2⟩ := zu E.out
    obtain ⟨_, _, g1, _, _⟩ := zad en1
    exact ⟨false, _, _, rfl, H.out.fit g1, en1, by rw [← PL2.out, zaw en2], by have := hi2.out; omega⟩
   case measure => omega
theorem zwt  {k : Nat}  (ih : ∀ i, i < k → IH B T tv pb i) : Meth B T tv pb k (.path true) 287 #[.pointer (some ⟨pb, 0, none⟩), .bool true] (fun _ => .tuple #[]) := by
 intro m low kd tx W0 F0 W s q hm hlow N hr
 obtain ⟨j, rfl, H, E, G, HL, RUN⟩ := zah N hr hlow
 clear N hr hlow
 go_enter Tryz.func287, Tryz.ntmps287
 go_wp2_with fail
 obtain ⟨WB, FB, hWB, hsz, BK, B_bxp, B_bxt, HN, c_bxp, c_bxt⟩ := zen H (.pointer (some ⟨pb, 0, none⟩)) 184 (.bool true) 4
 rw [hWB]
 try rw [hsz]
 clear hsz hWB H
 obtain ⟨p1, e, d⟩ := zai E.out
 have R1 := ak e
 have D1 := ak d
 clear e d E
 refine (zba HN HL #[] #[.pointer (some ⟨W.heap.size, 0, none⟩), .pointer (some ⟨W.heap.size + 1, 0, none⟩)] zn0 R1 fun W1 F1 NN old => (ztv  (dn ih) (B_bxp.out.old old) (B_bxt.out.old old) (hla HL)).at NN R1).mono ?_
 rintro e W2 ⟨rfl, N⟩
 have H := ak N
 replace c_bxp := N.box B_bxp.out
 replace c_bxt := N.box B_bxt.out
 clear N HN
 go_wp2_with fail
 go_end0
 exact ⟨rfl, (BK.out _ _ _ _ _ _ (zbb D1 G H))⟩
theorem zuh  {k : Nat} {bxp : Nat}  (ih : ∀ i, i < k → IH B T tv pb i) (hb_bxp : Box pb W0 F0 bxp (.pointer (some ⟨pb, 0, none⟩))) (hlow : low.length + k ≤ 10000000) : Does B T tv pb (k + 1) .mutB 370 #[.pointer (some ⟨bxp, 0, none⟩)] low kd tx W0 F0 := by
 intro i hi m W s q hm N hr
 obtain ⟨j, rfl, H, E, G, HL, RUN⟩ := zah N hr (by omega)
 replace ih : ∀ i, i < j + 1 → IH B T tv pb i := fun i h => ih i (by omega)
 have B_bxp := ak hb_bxp
 have c_bxp := N.box hb_bxp
 clear N hr hlow hb_bxp
 go_enter Tryz.func370, Tryz.ntmps370
 go_wp2_with fail
 replace E := ak (zbh E.out)
 refine (zat H.out (by omega)).mono ?_
 rintro e W1 ⟨rfl, N⟩
 replace H := ak N
 replace c_bxp := N.box B_bxp.out
 clear N
 go_wp2_with fail
 replace E := ak (zbh E.out)
 refine (zbl H.out (by omega)).mono ?_
 rintro e W2 ⟨rfl, N⟩
 replace H := ak N
 replace c_bxp := N.box B_bxp.out
 clear N
 go_wp2_with fail
 go_end0
 exact zb2 ⟨zaw E.out⟩ H
theorem zcx  {k : Nat} {bxp : Nat}  (ih : ∀ i, i < k → IH B T tv pb i) (hb_bxp : Box pb W0 F0 bxp (.pointer (some ⟨pb, 0, none⟩))) (hlow : low.length + k ≤ 10000000) : Does B T tv pb (k + 1) .variantB 371 #[.pointer (some ⟨bxp, 0, none⟩)] low kd tx W0 F0 := by
 intro i hi m W s q hm N hr
 obtain ⟨j, rfl, H, E, G, HL, RUN⟩ := zah N hr (by omega)
 replace ih : ∀ i, i < j + 1 → IH B T tv pb i := fun i h => ih i (by omega)
 have B_bxp := ak hb_bxp
 have c_bxp := N.box hb_bxp
 clear N hr hlow hb_bxp
 go_enter Tryz.func371, Tryz.ntmps371
 go_wp2_with fail
 obtain ⟨p1, e, d⟩ := zu E.out
 have R := ak e
 replace E := ak (d)
 clear e d
 refine (mth ((ij ih).path false) HL H R).mono ?_
 rintro e W2 ⟨rfl, N⟩
 replace H := ak N
 replace c_bxp := N.box B_bxp.out
 clear N
 go_wp2_with fail
 obtain ⟨p3, e3, d3⟩ := zu E.out
 have X3 := ak e3
 have Y3 := ak d3
 clear e3 d3 E
 refine (zbm H.out (by omega) [(⟨#[40]⟩ : ByteArray)] (by simp)).mono ?_
 rintro e W5 ⟨rfl, N5⟩
 rcases zac H.out [(⟨#[40]⟩ : ByteArray)] with b4 | b4
 ·rw [zby b4] at N5
  rw [b4]
  replace H := ak N5
  replace c_bxp := N5.box B_bxp.out
  clear N5
  have E := ak (if_t b4 X3.out)
  clear X3 b4
  go_wp2_with fail
  refine (zdm 356 #[.pointer (some ⟨pb, 0, none⟩)] #[] zsj (by have := HL.out; omega) (Meth.does (k := j) (fun i hi => (ih i (by omega)).pattern) (by have := HL.out; omega) (Nat.le_refl _)) H.out E.out).mono ?_
  rintro e W6 ⟨rfl, N⟩
  replace H := ak N
  replace c_bxp := N.box B_bxp.out
  clear N
  go_wp2_with fail
  go_end0
  exact zb2 ⟨zaw Y3.out⟩ H
 ·rw [zbz b4] at N5
  rw [b4]
  replace H := ak N5
  replace c_bxp := N5.box B_bxp.out
  clear N5
  have E := ak (if_f b4 X3.out)
  clear X3 b4
  go_wp2_with fail
  have hp7 := zab E.out
  have E7 := ak (by have h := Y3.out; rw [hp7] at h; exact h)
  clear hp7 E Y3
  go_end0
  exact zb2 ⟨zaw E7.out⟩ H
theorem zro  {k : Nat}  (ih : ∀ i, i < k → IH B T tv pb i) : Meth B T tv pb k .pattern 356 #[.pointer (some ⟨pb, 0, none⟩)] (fun _ => .tuple #[]) := by
 intro m low kd tx W0 F0 W s q hm hlow N hr
 obtain ⟨j, rfl, H, E, G, HL, RUN⟩ := zah N hr hlow
 clear N hr hlow
 go_enter Tryz.func356, Tryz.ntmps356
 go_wp2_with fail
 obtain ⟨WB, FB, hWB, hsz, BK, B_bxp, HN, c_bxp⟩ := zeo H (.pointer (some ⟨pb, 0, none⟩)) 184
 rw [hWB]
 try rw [hsz]
 clear hsz hWB H
 refine (zii HN.out).mono ?_
 rintro e W1 ⟨rfl, N1⟩
 obtain ⟨tk, htk⟩ : ∃ tk, Hid ((zal T s.1).1 = tk) := ⟨_, rfl⟩
 obtain ⟨tt, htt⟩ : ∃ tt, Hid ((zal T s.1).2 = tt) := ⟨_, rfl⟩
 rw [show (zal T s.1).1 = tk from htk, show (zal T s.1).2 = tt from htt]
 have HTK := ak (show (zal T s.1).1 = tk from htk)
 have HTT := ak (show (zal T s.1).2 = tt from htt)
 have H := ak N1
 replace c_bxp := N1.box B_bxp.out
 clear htk htt N1 HN
 have ca_bxp := fun o => (World.cell?_alloc_some W1 ⟨W.heap.size, 0, none⟩ o (by rw [c_bxp]; rfl)).trans c_bxp
 by_cases k105 : tk = 105
 ·subst k105
  go_wp2_with fail
  obtain ⟨WB2, FB2, hWB, hsz, BK2, O2, X2, H'⟩ := zi5 H #[.int .i64 105, .string tt] 154
  replace H := H'
  clear H'
  replace B_bxp := ak (B_bxp.out.old O2.out)
  have B_bxt := ak (show Box2 pb WB2 FB2 W1.heap.size (.int .i64 105) (.string tt) from ⟨X2.out.1, _, X2.out.2⟩)
  replace c_bxp := H.out.box B_bxp.out
  obtain ⟨c_bxt0, c_bxt1⟩ := H.out.box2 B_bxt.out
  clear ca_bxp
  rw [hWB]
  try rw [hsz]
  clear hsz hWB O2 X2
  refine (zbk H.out [(⟨#[109, 117, 116]⟩ : ByteArray)] (by simp)).mono ?_
  rintro e W4 ⟨rfl, N4⟩
  rcases zac H.out [(⟨#[109, 117, 116]⟩ : ByteArray)] with b3 | b3
  ·rw [b3]
   replace H := ak N4
   replace c_bxp := N4.box B_bxp.out
   clear c_bxt0 c_bxt1
   obtain ⟨c_bxt0, c_bxt1⟩ := N4.box2 B_bxt.out
   clear N4
   replace E := ak (if_t b3 E.out)
   clear b3
   go_wp2_with fail
   obtain ⟨p5, e, d⟩ := zai E.out
   have R5 := ak e
   have D5 := ak d
   clear e d E
   refine (zba H HL #[] #[.pointer (some ⟨W.heap.size, 0, none⟩)] zh6 R5 fun W1 F1 NN old => (zuh  (dn ih) (B_bxp.out.old old) (hla HL)).at NN R5).mono ?_
   rintro e W6 ⟨rfl, N⟩
   replace H := ak N
   replace c_bxp := N.box B_bxp.out
   clear c_bxt0 c_bxt1
   obtain ⟨c_bxt0, c_bxt1⟩ := N.box2 B_bxt.out
   clear N
   go_wp2_with fail
   go_end0
   exact ⟨rfl, (BK.out _ _ _ _ _ _ (BK2.out _ _ _ _ _ _ (zbb D5 G H)))⟩
  ·rw [b3]
   replace H := ak N4
   replace c_bxp := N4.box B_bxp.out
   clear c_bxt0 c_bxt1
   obtain ⟨c_bxt0, c_bxt1⟩ := N4.box2 B_bxt.out
   clear N4
   replace E := ak (if_f b3 E.out)
   clear b3
   go_wp2_with fail
   rcases zbv H.out with b8 | b8
   ·by_cases ku : tt = (⟨#[95]⟩ : ByteArray)
    ·subst ku
     refine (za4 H.out).mono ?_
     rintro e W9 ⟨rfl, N9⟩
     rw [b8]
     have H9 := ak N9
     have c9_bxp := N9.box B_bxp.out
     obtain ⟨c9_bxt0, c9_bxt1⟩ := N9.box2 B_bxt.out
     clear N9 H c_bxp c_bxt0 c_bxt1
     have E10 := ak (if_t (zed b8 (decide_eq_true HTT.out)) E.out)
     clear E
     clear b8
     go_wp2_with fail
     obtain ⟨p11, e, d⟩ := zai E10.out
     have R11 := ak e
     have D11 := ak d
     clear e d E10
     refine (zba H9 HL #[.pointer (some ⟨pb, 0, none⟩)] #[] zcs R11 fun W1 F1 NN old => zbu (j + 1) j (by omega) _ _ _ _ (by omega) NN R11.out).mono ?_
     rintro e W12 ⟨rfl, N⟩
     have H := ak N
     have c_bxp := N.box B_bxp.out
     obtain ⟨c_bxt0, c_bxt1⟩ := N.box2 B_bxt.out
     clear c9_bxp c9_bxt0 c9_bxt1 N H9
     go_wp2_with fail
     go_end0
     exact ⟨rfl, (BK.out _ _ _ _ _ _ (BK2.out _ _ _ _ _ _ (zbb D11 G H)))⟩
    ·have fv : decide (tt = (⟨#[95]⟩ : ByteArray)) = false := decide_eq_false ku
     have fw := z0g ku
     refine (za4 H.out).mono ?_
     rintro e W13 ⟨rfl, N13⟩
     rw [b8]
     have H13 := ak N13
     have c13_bxp := N13.box B_bxp.out
     obtain ⟨c13_bxt0, c13_bxt1⟩ := N13.box2 B_bxt.out
     clear N13 H c_bxp c_bxt0 c_bxt1
     have E14 := ak (if_f (zed b8 (decide_eq_false (by rw [HTT.out]; exact ku))) E.out)
     clear E
     have HID := ak b8
     have KU := ak ku
     clear b8 ku
     go_wp2_with fail
     rcases zbv H13.out with b16 | b16
     ·refine (za4 H13.out).mono ?_
      rintro e W17 ⟨rfl, N17⟩
      rw [b16]
      have H17 := ak N17
      have c17_bxp := N17.box B_bxp.out
      obtain ⟨c17_bxt0, c17_bxt1⟩ := N17.box2 B_bxt.out
      clear N17 H13 c13_bxp c13_bxt0 c13_bxt1
      have HI18 := ak b16
      clear b16
      go_wp2_with fail
      refine (zew H17.out).mono ?_
      rintro e W19 ⟨qb19, rfl, N19, L19⟩
      have H19 := ak (And.intro N19 L19)
      have c19_bxp := N19.box B_bxp.out
      obtain ⟨c19_bxt0, c19_bxt1⟩ := N19.box2 B_bxt.out
      clear N19 L19 H17 c17_bxp c17_bxt0 c17_bxt1
      go_wp2_with fail
      rcases zgk H19.out.2 [(⟨#[40]⟩ : ByteArray), (⟨#[58, 58]⟩ : ByteArray)] with b20 | b20
      ·refine (zds H19.out.1 H19.out.2 [(⟨#[40]⟩ : ByteArray), (⟨#[58, 58]⟩ : ByteArray)] (by simp)).mono ?_
       rintro e W21 ⟨rfl, N21⟩
       rw [b20]
       have H21 := ak N21
       have c21_bxp := N21.box B_bxp.out
       obtain ⟨c21_bxt0, c21_bxt1⟩ := N21.box2 B_bxt.out
       clear N21 H19 c19_bxp c19_bxt0 c19_bxt1
       have E22 := ak (if_f (zed HI18.out (zh0 b20)) E14.out)
       clear E14
       clear b20
       go_wp2_with fail
       refine (za4 H21.out).mono ?_
       rintro e W24 ⟨rfl, N24⟩
       rcases zbv H21.out with b23 | b23
       ·rw [b23]
        have H := ak N24
        have c_bxp := N24.box B_bxp.out
        obtain ⟨c_bxt0, c_bxt1⟩ := N24.box2 B_bxt.out
        clear c21_bxp c21_bxt0 c21_bxt1 N24 H21
        have E := ak (if_t b23 E22.out)
        clear E22 b23
        go_wp2_with fail
        obtain ⟨p25, e, d⟩ := zai E.out
        have R25 := ak e
        have D25 := ak d
        clear e d E
        refine (zba H HL #[] #[.pointer (some ⟨W.heap.size, 0, none⟩)] zcl R25 fun W1 F1 NN old => (zcx  (dn ih) (B_bxp.out.old old) (hla HL)).at NN R25).mono ?_
        rintro e W26 ⟨rfl, N⟩
        replace H := ak N
        replace c_bxp := N.box B_bxp.out
        clear c_bxt0 c_bxt1
        obtain ⟨c_bxt0, c_bxt1⟩ := N.box2 B_bxt.out
        clear N
        go_wp2_with fail
        go_end0
        exact ⟨rfl, (BK.out _ _ _ _ _ _ (BK2.out _ _ _ _ _ _ (zbb D25 G H)))⟩
       ·rw [b23]
        have H := ak N24
        have c_bxp := N24.box B_bxp.out
        obtain ⟨c_bxt0, c_bxt1⟩ := N24.box2 B_bxt.out
        clear c21_bxp c21_bxt0 c21_bxt1 N24 H21
        have E := ak (if_f b23 E22.out)
        clear E22 b23
        go_wp2_with fail
        replace E := ak (if_y HTK.out E.out)
        obtain ⟨p27, e, d⟩ := zai E.out
        have R27 := ak e
        have D27 := ak d
        clear e d E
        refine (zba H HL #[.pointer (some ⟨pb, 0, none⟩)] #[] zcs R27 fun W1 F1 NN old => zbu (j + 1) j (by omega) _ _ _ _ (by omega) NN R27.out).mono ?_
        rintro e W28 ⟨rfl, N⟩
        replace H := ak N
        replace c_bxp := N.box B_bxp.out
        clear c_bxt0 c_bxt1
        obtain ⟨c_bxt0, c_bxt1⟩ := N.box2 B_bxt.out
        clear N
        go_wp2_with fail
        go_end0
        exact ⟨rfl, (BK.out _ _ _ _ _ _ (BK2.out _ _ _ _ _ _ (zbb D27 G H)))⟩
      ·refine (zds H19.out.1 H19.out.2 [(⟨#[40]⟩ : ByteArray), (⟨#[58, 58]⟩ : ByteArray)] (by simp)).mono ?_
       rintro e W29 ⟨rfl, N29⟩
       rw [b20]
       have H29 := ak N29
       have c29_bxp := N29.box B_bxp.out
       obtain ⟨c29_bxt0, c29_bxt1⟩ := N29.box2 B_bxt.out
       clear N29 H19 c19_bxp c19_bxt0 c19_bxt1
       have E30 := ak (if_t (zed HI18.out (zh0 b20)) E14.out)
       clear E14
       clear b20
       go_wp2_with fail
       obtain ⟨p31, e, d⟩ := zai E30.out
       have R31 := ak e
       have D31 := ak d
       clear e d E30
       refine (zba H29 HL #[.pointer (some ⟨pb, 0, none⟩)] #[] zcs R31 fun W1 F1 NN old => zbu (j + 1) j (by omega) _ _ _ _ (by omega) NN R31.out).mono ?_
       rintro e W32 ⟨rfl, N⟩
       have H := ak N
       have c_bxp := N.box B_bxp.out
       obtain ⟨c_bxt0, c_bxt1⟩ := N.box2 B_bxt.out
       clear c29_bxp c29_bxt0 c29_bxt1 N H29
       go_wp2_with fail
       go_end0
       exact ⟨rfl, (BK.out _ _ _ _ _ _ (BK2.out _ _ _ _ _ _ (zbb D31 G H)))⟩
     ·refine (za4 H13.out).mono ?_
      rintro e W33 ⟨rfl, N33⟩
      rw [b16]
      have H33 := ak N33
      have c33_bxp := N33.box B_bxp.out
      obtain ⟨c33_bxt0, c33_bxt1⟩ := N33.box2 B_bxt.out
      clear N33 H13 c13_bxp c13_bxt0 c13_bxt1
      have E34 := ak (if_f (zh9 b16) E14.out)
      clear E14
      clear b16
      go_wp2_with fail
      refine (za4 H33.out).mono ?_
      rintro e W36 ⟨rfl, N36⟩
      rcases zbv H33.out with b35 | b35
      ·rw [b35]
       have H := ak N36
       have c_bxp := N36.box B_bxp.out
       obtain ⟨c_bxt0, c_bxt1⟩ := N36.box2 B_bxt.out
       clear c33_bxp c33_bxt0 c33_bxt1 N36 H33
       have E := ak (if_t b35 E34.out)
       clear E34 b35
       go_wp2_with fail
       obtain ⟨p37, e, d⟩ := zai E.out
       have R37 := ak e
       have D37 := ak d
       clear e d E
       refine (zba H HL #[] #[.pointer (some ⟨W.heap.size, 0, none⟩)] zcl R37 fun W1 F1 NN old => (zcx  (dn ih) (B_bxp.out.old old) (hla HL)).at NN R37).mono ?_
       rintro e W38 ⟨rfl, N⟩
       replace H := ak N
       replace c_bxp := N.box B_bxp.out
       clear c_bxt0 c_bxt1
       obtain ⟨c_bxt0, c_bxt1⟩ := N.box2 B_bxt.out
       clear N
       go_wp2_with fail
       go_end0
       exact ⟨rfl, (BK.out _ _ _ _ _ _ (BK2.out _ _ _ _ _ _ (zbb D37 G H)))⟩
      ·rw [b35]
       have H := ak N36
       have c_bxp := N36.box B_bxp.out
       obtain ⟨c_bxt0, c_bxt1⟩ := N36.box2 B_bxt.out
       clear c33_bxp c33_bxt0 c33_bxt1 N36 H33
       have E := ak (if_f b35 E34.out)
       clear E34 b35
       go_wp2_with fail
       replace E := ak (if_y HTK.out E.out)
       obtain ⟨p39, e, d⟩ := zai E.out
       have R39 := ak e
       have D39 := ak d
       clear e d E
       refine (zba H HL #[.pointer (some ⟨pb, 0, none⟩)] #[] zcs R39 fun W1 F1 NN old => zbu (j + 1) j (by omega) _ _ _ _ (by omega) NN R39.out).mono ?_
       rintro e W40 ⟨rfl, N⟩
       replace H := ak N
       replace c_bxp := N.box B_bxp.out
       clear c_bxt0 c_bxt1
       obtain ⟨c_bxt0, c_bxt1⟩ := N.box2 B_bxt.out
       clear N
       go_wp2_with fail
       go_end0
       exact ⟨rfl, (BK.out _ _ _ _ _ _ (BK2.out _ _ _ _ _ _ (zbb D39 G H)))⟩
   ·refine (za4 H.out).mono ?_
    rintro e W41 ⟨rfl, N41⟩
    rw [b8]
    have H41 := ak N41
    have c41_bxp := N41.box B_bxp.out
    obtain ⟨c41_bxt0, c41_bxt1⟩ := N41.box2 B_bxt.out
    clear N41 H c_bxp c_bxt0 c_bxt1
    have E42 := ak (if_f (zh9 b8) E.out)
    clear E
    have HID := ak b8
    clear b8
    go_wp2_with fail
    rcases zbv H41.out with b44 | b44
    ·refine (za4 H41.out).mono ?_
     rintro e W45 ⟨rfl, N45⟩
     rw [b44]
     have H45 := ak N45
     have c45_bxp := N45.box B_bxp.out
     obtain ⟨c45_bxt0, c45_bxt1⟩ := N45.box2 B_bxt.out
     clear N45 H41 c41_bxp c41_bxt0 c41_bxt1
     have HI46 := ak b44
     clear b44
     go_wp2_with fail
     refine (zew H45.out).mono ?_
     rintro e W47 ⟨qb47, rfl, N47, L47⟩
     have H47 := ak (And.intro N47 L47)
     have c47_bxp := N47.box B_bxp.out
     obtain ⟨c47_bxt0, c47_bxt1⟩ := N47.box2 B_bxt.out
     clear N47 L47 H45 c45_bxp c45_bxt0 c45_bxt1
     go_wp2_with fail
     rcases zgk H47.out.2 [(⟨#[40]⟩ : ByteArray), (⟨#[58, 58]⟩ : ByteArray)] with b48 | b48
     ·refine (zds H47.out.1 H47.out.2 [(⟨#[40]⟩ : ByteArray), (⟨#[58, 58]⟩ : ByteArray)] (by simp)).mono ?_
      rintro e W49 ⟨rfl, N49⟩
      rw [b48]
      have H49 := ak N49
      have c49_bxp := N49.box B_bxp.out
      obtain ⟨c49_bxt0, c49_bxt1⟩ := N49.box2 B_bxt.out
      clear N49 H47 c47_bxp c47_bxt0 c47_bxt1
      have E50 := ak (if_f (zed HI46.out (zh0 b48)) E42.out)
      clear E42
      clear b48
      go_wp2_with fail
      refine (za4 H49.out).mono ?_
      rintro e W52 ⟨rfl, N52⟩
      rcases zbv H49.out with b51 | b51
      ·rw [b51]
       have H := ak N52
       have c_bxp := N52.box B_bxp.out
       obtain ⟨c_bxt0, c_bxt1⟩ := N52.box2 B_bxt.out
       clear c49_bxp c49_bxt0 c49_bxt1 N52 H49
       have E := ak (if_t b51 E50.out)
       clear E50 b51
       go_wp2_with fail
       obtain ⟨p53, e, d⟩ := zai E.out
       have R53 := ak e
       have D53 := ak d
       clear e d E
       refine (zba H HL #[] #[.pointer (some ⟨W.heap.size, 0, none⟩)] zcl R53 fun W1 F1 NN old => (zcx  (dn ih) (B_bxp.out.old old) (hla HL)).at NN R53).mono ?_
       rintro e W54 ⟨rfl, N⟩
       replace H := ak N
       replace c_bxp := N.box B_bxp.out
       clear c_bxt0 c_bxt1
       obtain ⟨c_bxt0, c_bxt1⟩ := N.box2 B_bxt.out
       clear N
       go_wp2_with fail
       go_end0
       exact ⟨rfl, (BK.out _ _ _ _ _ _ (BK2.out _ _ _ _ _ _ (zbb D53 G H)))⟩
      ·rw [b51]
       have H := ak N52
       have c_bxp := N52.box B_bxp.out
       obtain ⟨c_bxt0, c_bxt1⟩ := N52.box2 B_bxt.out
       clear c49_bxp c49_bxt0 c49_bxt1 N52 H49
       have E := ak (if_f b51 E50.out)
       clear E50 b51
       go_wp2_with fail
       replace E := ak (if_y HTK.out E.out)
       obtain ⟨p55, e, d⟩ := zai E.out
       have R55 := ak e
       have D55 := ak d
       clear e d E
       refine (zba H HL #[.pointer (some ⟨pb, 0, none⟩)] #[] zcs R55 fun W1 F1 NN old => zbu (j + 1) j (by omega) _ _ _ _ (by omega) NN R55.out).mono ?_
       rintro e W56 ⟨rfl, N⟩
       replace H := ak N
       replace c_bxp := N.box B_bxp.out
       clear c_bxt0 c_bxt1
       obtain ⟨c_bxt0, c_bxt1⟩ := N.box2 B_bxt.out
       clear N
       go_wp2_with fail
       go_end0
       exact ⟨rfl, (BK.out _ _ _ _ _ _ (BK2.out _ _ _ _ _ _ (zbb D55 G H)))⟩
     ·refine (zds H47.out.1 H47.out.2 [(⟨#[40]⟩ : ByteArray), (⟨#[58, 58]⟩ : ByteArray)] (by simp)).mono ?_
      rintro e W57 ⟨rfl, N57⟩
      rw [b48]
      have H57 := ak N57
      have c57_bxp := N57.box B_bxp.out
      obtain ⟨c57_bxt0, c57_bxt1⟩ := N57.box2 B_bxt.out
      clear N57 H47 c47_bxp c47_bxt0 c47_bxt1
      have E58 := ak (if_t (zed HI46.out (zh0 b48)) E42.out)
      clear E42
      clear b48
      go_wp2_with fail
      obtain ⟨p59, e, d⟩ := zai E58.out
      have R59 := ak e
      have D59 := ak d
      clear e d E58
      refine (zba H57 HL #[.pointer (some ⟨pb, 0, none⟩)] #[] zcs R59 fun W1 F1 NN old => zbu (j + 1) j (by omega) _ _ _ _ (by omega) NN R59.out).mono ?_
      rintro e W60 ⟨rfl, N⟩
      have H := ak N
      have c_bxp := N.box B_bxp.out
      obtain ⟨c_bxt0, c_bxt1⟩ := N.box2 B_bxt.out
      clear c57_bxp c57_bxt0 c57_bxt1 N H57
      go_wp2_with fail
      go_end0
      exact ⟨rfl, (BK.out _ _ _ _ _ _ (BK2.out _ _ _ _ _ _ (zbb D59 G H)))⟩
    ·refine (za4 H41.out).mono ?_
     rintro e W61 ⟨rfl, N61⟩
     rw [b44]
     have H61 := ak N61
     have c61_bxp := N61.box B_bxp.out
     obtain ⟨c61_bxt0, c61_bxt1⟩ := N61.box2 B_bxt.out
     clear N61 H41 c41_bxp c41_bxt0 c41_bxt1
     have E62 := ak (if_f (zh9 b44) E42.out)
     clear E42
     clear b44
     go_wp2_with fail
     refine (za4 H61.out).mono ?_
     rintro e W64 ⟨rfl, N64⟩
     rcases zbv H61.out with b63 | b63
     ·rw [b63]
      have H := ak N64
      have c_bxp := N64.box B_bxp.out
      obtain ⟨c_bxt0, c_bxt1⟩ := N64.box2 B_bxt.out
      clear c61_bxp c61_bxt0 c61_bxt1 N64 H61
      have E := ak (if_t b63 E62.out)
      clear E62 b63
      go_wp2_with fail
      obtain ⟨p65, e, d⟩ := zai E.out
      have R65 := ak e
      have D65 := ak d
      clear e d E
      refine (zba H HL #[] #[.pointer (some ⟨W.heap.size, 0, none⟩)] zcl R65 fun W1 F1 NN old => (zcx  (dn ih) (B_bxp.out.old old) (hla HL)).at NN R65).mono ?_
      rintro e W66 ⟨rfl, N⟩
      replace H := ak N
      replace c_bxp := N.box B_bxp.out
      clear c_bxt0 c_bxt1
      obtain ⟨c_bxt0, c_bxt1⟩ := N.box2 B_bxt.out
      clear N
      go_wp2_with fail
      go_end0
      exact ⟨rfl, (BK.out _ _ _ _ _ _ (BK2.out _ _ _ _ _ _ (zbb D65 G H)))⟩
     ·rw [b63]
      have H := ak N64
      have c_bxp := N64.box B_bxp.out
      obtain ⟨c_bxt0, c_bxt1⟩ := N64.box2 B_bxt.out
      clear c61_bxp c61_bxt0 c61_bxt1 N64 H61
      have E := ak (if_f b63 E62.out)
      clear E62 b63
      go_wp2_with fail
      replace E := ak (if_y HTK.out E.out)
      obtain ⟨p67, e, d⟩ := zai E.out
      have R67 := ak e
      have D67 := ak d
      clear e d E
      refine (zba H HL #[.pointer (some ⟨pb, 0, none⟩)] #[] zcs R67 fun W1 F1 NN old => zbu (j + 1) j (by omega) _ _ _ _ (by omega) NN R67.out).mono ?_
      rintro e W68 ⟨rfl, N⟩
      replace H := ak N
      replace c_bxp := N.box B_bxp.out
      clear c_bxt0 c_bxt1
      obtain ⟨c_bxt0, c_bxt1⟩ := N.box2 B_bxt.out
      clear N
      go_wp2_with fail
      go_end0
      exact ⟨rfl, (BK.out _ _ _ _ _ _ (BK2.out _ _ _ _ _ _ (zbb D67 G H)))⟩
 have f105 : (tk == 105) = false := beq_eq_false_iff_ne.2 k105
 have K105 := ak k105
 clear k105
 go_wp2_with fail
 obtain ⟨WB69, FB69, hWB, hsz, BK69, O69, X69, H'⟩ := zi5 H #[.int .i64 tk, .string tt] 154
 replace H := H'
 clear H'
 replace B_bxp := ak (B_bxp.out.old O69.out)
 have B_bxt := ak (show Box2 pb WB69 FB69 W1.heap.size (.int .i64 tk) (.string tt) from ⟨X69.out.1, _, X69.out.2⟩)
 replace c_bxp := H.out.box B_bxp.out
 obtain ⟨c_bxt0, c_bxt1⟩ := H.out.box2 B_bxt.out
 clear ca_bxp
 rw [hWB]
 try rw [hsz]
 clear hsz hWB O69 X69
 refine (zbk H.out [(⟨#[109, 117, 116]⟩ : ByteArray)] (by simp)).mono ?_
 rintro e W71 ⟨rfl, N71⟩
 rcases zac H.out [(⟨#[109, 117, 116]⟩ : ByteArray)] with b70 | b70
 ·rw [b70]
  replace H := ak N71
  replace c_bxp := N71.box B_bxp.out
  clear c_bxt0 c_bxt1
  obtain ⟨c_bxt0, c_bxt1⟩ := N71.box2 B_bxt.out
  clear N71
  replace E := ak (if_t b70 E.out)
  clear b70
  go_wp2_with fail
  obtain ⟨p72, e, d⟩ := zai E.out
  have R72 := ak e
  have D72 := ak d
  clear e d E
  refine (zba H HL #[] #[.pointer (some ⟨W.heap.size, 0, none⟩)] zh6 R72 fun W1 F1 NN old => (zuh  (dn ih) (B_bxp.out.old old) (hla HL)).at NN R72).mono ?_
  rintro e W73 ⟨rfl, N⟩
  replace H := ak N
  replace c_bxp := N.box B_bxp.out
  clear c_bxt0 c_bxt1
  obtain ⟨c_bxt0, c_bxt1⟩ := N.box2 B_bxt.out
  clear N
  go_wp2_with fail
  go_end0
  exact ⟨rfl, (BK.out _ _ _ _ _ _ (BK69.out _ _ _ _ _ _ (zbb D72 G H)))⟩
 ·rw [b70]
  replace H := ak N71
  replace c_bxp := N71.box B_bxp.out
  clear c_bxt0 c_bxt1
  obtain ⟨c_bxt0, c_bxt1⟩ := N71.box2 B_bxt.out
  clear N71
  replace E := ak (if_f b70 E.out)
  clear b70
  go_wp2_with fail
  rcases zbv H.out with b75 | b75
  ·by_cases ku : tt = (⟨#[95]⟩ : ByteArray)
   ·subst ku
    refine (za4 H.out).mono ?_
    rintro e W76 ⟨rfl, N76⟩
    rw [b75]
    have H76 := ak N76
    have c76_bxp := N76.box B_bxp.out
    obtain ⟨c76_bxt0, c76_bxt1⟩ := N76.box2 B_bxt.out
    clear N76 H c_bxp c_bxt0 c_bxt1
    have E77 := ak (if_t (zed b75 (decide_eq_true HTT.out)) E.out)
    clear E
    clear b75
    go_wp2_with fail
    obtain ⟨p78, e, d⟩ := zai E77.out
    have R78 := ak e
    have D78 := ak d
    clear e d E77
    refine (zba H76 HL #[.pointer (some ⟨pb, 0, none⟩)] #[] zcs R78 fun W1 F1 NN old => zbu (j + 1) j (by omega) _ _ _ _ (by omega) NN R78.out).mono ?_
    rintro e W79 ⟨rfl, N⟩
    have H := ak N
    have c_bxp := N.box B_bxp.out
    obtain ⟨c_bxt0, c_bxt1⟩ := N.box2 B_bxt.out
    clear c76_bxp c76_bxt0 c76_bxt1 N H76
    go_wp2_with fail
    go_end0
    exact ⟨rfl, (BK.out _ _ _ _ _ _ (BK69.out _ _ _ _ _ _ (zbb D78 G H)))⟩
   ·have fv : decide (tt = (⟨#[95]⟩ : ByteArray)) = false := decide_eq_false ku
    have fw := z0g ku
    refine (za4 H.out).mono ?_
    rintro e W80 ⟨rfl, N80⟩
    rw [b75]
    have H80 := ak N80
    have c80_bxp := N80.box B_bxp.out
    obtain ⟨c80_bxt0, c80_bxt1⟩ := N80.box2 B_bxt.out
    clear N80 H c_bxp c_bxt0 c_bxt1
    have E81 := ak (if_f (zed b75 (decide_eq_false (by rw [HTT.out]; exact ku))) E.out)
    clear E
    have HID := ak b75
    have KU := ak ku
    clear b75 ku
    go_wp2_with fail
    rcases zbv H80.out with b83 | b83
    ·refine (za4 H80.out).mono ?_
     rintro e W84 ⟨rfl, N84⟩
     rw [b83]
     have H84 := ak N84
     have c84_bxp := N84.box B_bxp.out
     obtain ⟨c84_bxt0, c84_bxt1⟩ := N84.box2 B_bxt.out
     clear N84 H80 c80_bxp c80_bxt0 c80_bxt1
     have HI85 := ak b83
     clear b83
     go_wp2_with fail
     refine (zew H84.out).mono ?_
     rintro e W86 ⟨qb86, rfl, N86, L86⟩
     have H86 := ak (And.intro N86 L86)
     have c86_bxp := N86.box B_bxp.out
     obtain ⟨c86_bxt0, c86_bxt1⟩ := N86.box2 B_bxt.out
     clear N86 L86 H84 c84_bxp c84_bxt0 c84_bxt1
     go_wp2_with fail
     rcases zgk H86.out.2 [(⟨#[40]⟩ : ByteArray), (⟨#[58, 58]⟩ : ByteArray)] with b87 | b87
     ·refine (zds H86.out.1 H86.out.2 [(⟨#[40]⟩ : ByteArray), (⟨#[58, 58]⟩ : ByteArray)] (by simp)).mono ?_
      rintro e W88 ⟨rfl, N88⟩
      rw [b87]
      have H88 := ak N88
      have c88_bxp := N88.box B_bxp.out
      obtain ⟨c88_bxt0, c88_bxt1⟩ := N88.box2 B_bxt.out
      clear N88 H86 c86_bxp c86_bxt0 c86_bxt1
      have E89 := ak (if_f (zed HI85.out (zh0 b87)) E81.out)
      clear E81
      clear b87
      go_wp2_with fail
      refine (za4 H88.out).mono ?_
      rintro e W91 ⟨rfl, N91⟩
      rcases zbv H88.out with b90 | b90
      ·rw [b90]
       have H := ak N91
       have c_bxp := N91.box B_bxp.out
       obtain ⟨c_bxt0, c_bxt1⟩ := N91.box2 B_bxt.out
       clear c88_bxp c88_bxt0 c88_bxt1 N91 H88
       have E := ak (if_t b90 E89.out)
       clear E89 b90
       go_wp2_with fail
       obtain ⟨p92, e, d⟩ := zai E.out
       have R92 := ak e
       have D92 := ak d
       clear e d E
       refine (zba H HL #[] #[.pointer (some ⟨W.heap.size, 0, none⟩)] zcl R92 fun W1 F1 NN old => (zcx  (dn ih) (B_bxp.out.old old) (hla HL)).at NN R92).mono ?_
       rintro e W93 ⟨rfl, N⟩
       replace H := ak N
       replace c_bxp := N.box B_bxp.out
       clear c_bxt0 c_bxt1
       obtain ⟨c_bxt0, c_bxt1⟩ := N.box2 B_bxt.out
       clear N
       go_wp2_with fail
       go_end0
       exact ⟨rfl, (BK.out _ _ _ _ _ _ (BK69.out _ _ _ _ _ _ (zbb D92 G H)))⟩
      ·rw [b90]
       have H := ak N91
       have c_bxp := N91.box B_bxp.out
       obtain ⟨c_bxt0, c_bxt1⟩ := N91.box2 B_bxt.out
       clear c88_bxp c88_bxt0 c88_bxt1 N91 H88
       have E := ak (if_f b90 E89.out)
       clear E89 b90
       go_wp2_with fail
       replace E := ak (if_n (by rw [HTK.out]; exact K105.out) E.out)
       refine (zbk H.out [(⟨#[116, 114, 117, 101]⟩ : ByteArray), (⟨#[102, 97, 108, 115, 101]⟩ : ByteArray)] (by simp)).mono ?_
       rintro e W95 ⟨rfl, N95⟩
       rcases zac H.out [(⟨#[116, 114, 117, 101]⟩ : ByteArray), (⟨#[102, 97, 108, 115, 101]⟩ : ByteArray)] with b94 | b94
       ·rw [b94]
        replace H := ak N95
        replace c_bxp := N95.box B_bxp.out
        clear c_bxt0 c_bxt1
        obtain ⟨c_bxt0, c_bxt1⟩ := N95.box2 B_bxt.out
        clear N95
        replace E := ak (if_t b94 E.out)
        clear b94
        go_wp2_with fail
        obtain ⟨p96, e, d⟩ := zai E.out
        have R96 := ak e
        have D96 := ak d
        clear e d E
        refine (zba H HL #[.pointer (some ⟨pb, 0, none⟩)] #[] zcs R96 fun W1 F1 NN old => zbu (j + 1) j (by omega) _ _ _ _ (by omega) NN R96.out).mono ?_
        rintro e W97 ⟨rfl, N⟩
        replace H := ak N
        replace c_bxp := N.box B_bxp.out
        clear c_bxt0 c_bxt1
        obtain ⟨c_bxt0, c_bxt1⟩ := N.box2 B_bxt.out
        clear N
        go_wp2_with fail
        go_end0
        exact ⟨rfl, (BK.out _ _ _ _ _ _ (BK69.out _ _ _ _ _ _ (zbb D96 G H)))⟩
       ·rw [b94]
        replace H := ak N95
        replace c_bxp := N95.box B_bxp.out
        clear c_bxt0 c_bxt1
        obtain ⟨c_bxt0, c_bxt1⟩ := N95.box2 B_bxt.out
        clear N95
        replace E := ak (if_f b94 E.out)
        clear b94
        go_wp2_with fail
        refine (zde H.out (by omega)).mono ?_
        rintro e W98 ⟨rfl, N⟩
        replace H := ak N
        replace c_bxp := N.box B_bxp.out
        clear c_bxt0 c_bxt1
        obtain ⟨c_bxt0, c_bxt1⟩ := N.box2 B_bxt.out
        clear N
        go_wp2_with fail
        go_end0
        exact ⟨rfl, (BK.out _ _ _ _ _ _ (BK69.out _ _ _ _ _ _ (zbb ⟨zab E.out⟩ G H)))⟩
     ·refine (zds H86.out.1 H86.out.2 [(⟨#[40]⟩ : ByteArray), (⟨#[58, 58]⟩ : ByteArray)] (by simp)).mono ?_
      rintro e W99 ⟨rfl, N99⟩
      rw [b87]
      have H99 := ak N99
      have c99_bxp := N99.box B_bxp.out
      obtain ⟨c99_bxt0, c99_bxt1⟩ := N99.box2 B_bxt.out
      clear N99 H86 c86_bxp c86_bxt0 c86_bxt1
      have E100 := ak (if_t (zed HI85.out (zh0 b87)) E81.out)
      clear E81
      clear b87
      go_wp2_with fail
      obtain ⟨p101, e, d⟩ := zai E100.out
      have R101 := ak e
      have D101 := ak d
      clear e d E100
      refine (zba H99 HL #[.pointer (some ⟨pb, 0, none⟩)] #[] zcs R101 fun W1 F1 NN old => zbu (j + 1) j (by omega) _ _ _ _ (by omega) NN R101.out).mono ?_
      rintro e W102 ⟨rfl, N⟩
      have H := ak N
      have c_bxp := N.box B_bxp.out
      obtain ⟨c_bxt0, c_bxt1⟩ := N.box2 B_bxt.out
      clear c99_bxp c99_bxt0 c99_bxt1 N H99
      go_wp2_with fail
      go_end0
      exact ⟨rfl, (BK.out _ _ _ _ _ _ (BK69.out _ _ _ _ _ _ (zbb D101 G H)))⟩
    ·refine (za4 H80.out).mono ?_
     rintro e W103 ⟨rfl, N103⟩
     rw [b83]
     have H103 := ak N103
     have c103_bxp := N103.box B_bxp.out
     obtain ⟨c103_bxt0, c103_bxt1⟩ := N103.box2 B_bxt.out
     clear N103 H80 c80_bxp c80_bxt0 c80_bxt1
     have E104 := ak (if_f (zh9 b83) E81.out)
     clear E81
     clear b83
     go_wp2_with fail
     refine (za4 H103.out).mono ?_
     rintro e W106 ⟨rfl, N106⟩
     rcases zbv H103.out with b105 | b105
     ·rw [b105]
      have H := ak N106
      have c_bxp := N106.box B_bxp.out
      obtain ⟨c_bxt0, c_bxt1⟩ := N106.box2 B_bxt.out
      clear c103_bxp c103_bxt0 c103_bxt1 N106 H103
      have E := ak (if_t b105 E104.out)
      clear E104 b105
      go_wp2_with fail
      obtain ⟨p107, e, d⟩ := zai E.out
      have R107 := ak e
      have D107 := ak d
      clear e d E
      refine (zba H HL #[] #[.pointer (some ⟨W.heap.size, 0, none⟩)] zcl R107 fun W1 F1 NN old => (zcx  (dn ih) (B_bxp.out.old old) (hla HL)).at NN R107).mono ?_
      rintro e W108 ⟨rfl, N⟩
      replace H := ak N
      replace c_bxp := N.box B_bxp.out
      clear c_bxt0 c_bxt1
      obtain ⟨c_bxt0, c_bxt1⟩ := N.box2 B_bxt.out
      clear N
      go_wp2_with fail
      go_end0
      exact ⟨rfl, (BK.out _ _ _ _ _ _ (BK69.out _ _ _ _ _ _ (zbb D107 G H)))⟩
     ·rw [b105]
      have H := ak N106
      have c_bxp := N106.box B_bxp.out
      obtain ⟨c_bxt0, c_bxt1⟩ := N106.box2 B_bxt.out
      clear c103_bxp c103_bxt0 c103_bxt1 N106 H103
      have E := ak (if_f b105 E104.out)
      clear E104 b105
      go_wp2_with fail
      replace E := ak (if_n (by rw [HTK.out]; exact K105.out) E.out)
      refine (zbk H.out [(⟨#[116, 114, 117, 101]⟩ : ByteArray), (⟨#[102, 97, 108, 115, 101]⟩ : ByteArray)] (by simp)).mono ?_
      rintro e W110 ⟨rfl, N110⟩
      rcases zac H.out [(⟨#[116, 114, 117, 101]⟩ : ByteArray), (⟨#[102, 97, 108, 115, 101]⟩ : ByteArray)] with b109 | b109
      ·rw [b109]
       replace H := ak N110
       replace c_bxp := N110.box B_bxp.out
       clear c_bxt0 c_bxt1
       obtain ⟨c_bxt0, c_bxt1⟩ := N110.box2 B_bxt.out
       clear N110
       replace E := ak (if_t b109 E.out)
       clear b109
       go_wp2_with fail
       obtain ⟨p111, e, d⟩ := zai E.out
       have R111 := ak e
       have D111 := ak d
       clear e d E
       refine (zba H HL #[.pointer (some ⟨pb, 0, none⟩)] #[] zcs R111 fun W1 F1 NN old => zbu (j + 1) j (by omega) _ _ _ _ (by omega) NN R111.out).mono ?_
       rintro e W112 ⟨rfl, N⟩
       replace H := ak N
       replace c_bxp := N.box B_bxp.out
       clear c_bxt0 c_bxt1
       obtain ⟨c_bxt0, c_bxt1⟩ := N.box2 B_bxt.out
       clear N
       go_wp2_with fail
       go_end0
       exact ⟨rfl, (BK.out _ _ _ _ _ _ (BK69.out _ _ _ _ _ _ (zbb D111 G H)))⟩
      ·rw [b109]
       replace H := ak N110
       replace c_bxp := N110.box B_bxp.out
       clear c_bxt0 c_bxt1
       obtain ⟨c_bxt0, c_bxt1⟩ := N110.box2 B_bxt.out
       clear N110
       replace E := ak (if_f b109 E.out)
       clear b109
       go_wp2_with fail
       refine (zde H.out (by omega)).mono ?_
       rintro e W113 ⟨rfl, N⟩
       replace H := ak N
       replace c_bxp := N.box B_bxp.out
       clear c_bxt0 c_bxt1
       obtain ⟨c_bxt0, c_bxt1⟩ := N.box2 B_bxt.out
       clear N
       go_wp2_with fail
       go_end0
       exact ⟨rfl, (BK.out _ _ _ _ _ _ (BK69.out _ _ _ _ _ _ (zbb ⟨zab E.out⟩ G H)))⟩
  ·refine (za4 H.out).mono ?_
   rintro e W114 ⟨rfl, N114⟩
   rw [b75]
   have H114 := ak N114
   have c114_bxp := N114.box B_bxp.out
   obtain ⟨c114_bxt0, c114_bxt1⟩ := N114.box2 B_bxt.out
   clear N114 H c_bxp c_bxt0 c_bxt1
   have E115 := ak (if_f (zh9 b75) E.out)
   clear E
   have HID := ak b75
   clear b75
   go_wp2_with fail
   rcases zbv H114.out with b117 | b117
   ·refine (za4 H114.out).mono ?_
    rintro e W118 ⟨rfl, N118⟩
    rw [b117]
    have H118 := ak N118
    have c118_bxp := N118.box B_bxp.out
    obtain ⟨c118_bxt0, c118_bxt1⟩ := N118.box2 B_bxt.out
    clear N118 H114 c114_bxp c114_bxt0 c114_bxt1
    have HI119 := ak b117
    clear b117
    go_wp2_with fail
    refine (zew H118.out).mono ?_
    rintro e W120 ⟨qb120, rfl, N120, L120⟩
    have H120 := ak (And.intro N120 L120)
    have c120_bxp := N120.box B_bxp.out
    obtain ⟨c120_bxt0, c120_bxt1⟩ := N120.box2 B_bxt.out
    clear N120 L120 H118 c118_bxp c118_bxt0 c118_bxt1
    go_wp2_with fail
    rcases zgk H120.out.2 [(⟨#[40]⟩ : ByteArray), (⟨#[58, 58]⟩ : ByteArray)] with b121 | b121
    ·refine (zds H120.out.1 H120.out.2 [(⟨#[40]⟩ : ByteArray), (⟨#[58, 58]⟩ : ByteArray)] (by simp)).mono ?_
     rintro e W122 ⟨rfl, N122⟩
     rw [b121]
     have H122 := ak N122
     have c122_bxp := N122.box B_bxp.out
     obtain ⟨c122_bxt0, c122_bxt1⟩ := N122.box2 B_bxt.out
     clear N122 H120 c120_bxp c120_bxt0 c120_bxt1
     have E123 := ak (if_f (zed HI119.out (zh0 b121)) E115.out)
     clear E115
     clear b121
     go_wp2_with fail
     refine (za4 H122.out).mono ?_
     rintro e W125 ⟨rfl, N125⟩
     rcases zbv H122.out with b124 | b124
     ·rw [b124]
      have H := ak N125
      have c_bxp := N125.box B_bxp.out
      obtain ⟨c_bxt0, c_bxt1⟩ := N125.box2 B_bxt.out
      clear c122_bxp c122_bxt0 c122_bxt1 N125 H122
      have E := ak (if_t b124 E123.out)
      clear E123 b124
      go_wp2_with fail
      obtain ⟨p126, e, d⟩ := zai E.out
      have R126 := ak e
      have D126 := ak d
      clear e d E
      refine (zba H HL #[] #[.pointer (some ⟨W.heap.size, 0, none⟩)] zcl R126 fun W1 F1 NN old => (zcx  (dn ih) (B_bxp.out.old old) (hla HL)).at NN R126).mono ?_
      rintro e W127 ⟨rfl, N⟩
      replace H := ak N
      replace c_bxp := N.box B_bxp.out
      clear c_bxt0 c_bxt1
      obtain ⟨c_bxt0, c_bxt1⟩ := N.box2 B_bxt.out
      clear N
      go_wp2_with fail
      go_end0
      exact ⟨rfl, (BK.out _ _ _ _ _ _ (BK69.out _ _ _ _ _ _ (zbb D126 G H)))⟩
     ·rw [b124]
      have H := ak N125
      have c_bxp := N125.box B_bxp.out
      obtain ⟨c_bxt0, c_bxt1⟩ := N125.box2 B_bxt.out
      clear c122_bxp c122_bxt0 c122_bxt1 N125 H122
      have E := ak (if_f b124 E123.out)
      clear E123 b124
      go_wp2_with fail
      replace E := ak (if_n (by rw [HTK.out]; exact K105.out) E.out)
      refine (zbk H.out [(⟨#[116, 114, 117, 101]⟩ : ByteArray), (⟨#[102, 97, 108, 115, 101]⟩ : ByteArray)] (by simp)).mono ?_
      rintro e W129 ⟨rfl, N129⟩
      rcases zac H.out [(⟨#[116, 114, 117, 101]⟩ : ByteArray), (⟨#[102, 97, 108, 115, 101]⟩ : ByteArray)] with b128 | b128
      ·rw [b128]
       replace H := ak N129
       replace c_bxp := N129.box B_bxp.out
       clear c_bxt0 c_bxt1
       obtain ⟨c_bxt0, c_bxt1⟩ := N129.box2 B_bxt.out
       clear N129
       replace E := ak (if_t b128 E.out)
       clear b128
       go_wp2_with fail
       obtain ⟨p130, e, d⟩ := zai E.out
       have R130 := ak e
       have D130 := ak d
       clear e d E
       refine (zba H HL #[.pointer (some ⟨pb, 0, none⟩)] #[] zcs R130 fun W1 F1 NN old => zbu (j + 1) j (by omega) _ _ _ _ (by omega) NN R130.out).mono ?_
       rintro e W131 ⟨rfl, N⟩
       replace H := ak N
       replace c_bxp := N.box B_bxp.out
       clear c_bxt0 c_bxt1
       obtain ⟨c_bxt0, c_bxt1⟩ := N.box2 B_bxt.out
       clear N
       go_wp2_with fail
       go_end0
       exact ⟨rfl, (BK.out _ _ _ _ _ _ (BK69.out _ _ _ _ _ _ (zbb D130 G H)))⟩
      ·rw [b128]
       replace H := ak N129
       replace c_bxp := N129.box B_bxp.out
       clear c_bxt0 c_bxt1
       obtain ⟨c_bxt0, c_bxt1⟩ := N129.box2 B_bxt.out
       clear N129
       replace E := ak (if_f b128 E.out)
       clear b128
       go_wp2_with fail
       refine (zde H.out (by omega)).mono ?_
       rintro e W132 ⟨rfl, N⟩
       replace H := ak N
       replace c_bxp := N.box B_bxp.out
       clear c_bxt0 c_bxt1
       obtain ⟨c_bxt0, c_bxt1⟩ := N.box2 B_bxt.out
       clear N
       go_wp2_with fail
       go_end0
       exact ⟨rfl, (BK.out _ _ _ _ _ _ (BK69.out _ _ _ _ _ _ (zbb ⟨zab E.out⟩ G H)))⟩
    ·refine (zds H120.out.1 H120.out.2 [(⟨#[40]⟩ : ByteArray), (⟨#[58, 58]⟩ : ByteArray)] (by simp)).mono ?_
     rintro e W133 ⟨rfl, N133⟩
     rw [b121]
     have H133 := ak N133
     have c133_bxp := N133.box B_bxp.out
     obtain ⟨c133_bxt0, c133_bxt1⟩ := N133.box2 B_bxt.out
     clear N133 H120 c120_bxp c120_bxt0 c120_bxt1
     have E134 := ak (if_t (zed HI119.out (zh0 b121)) E115.out)
     clear E115
     clear b121
     go_wp2_with fail
     obtain ⟨p135, e, d⟩ := zai E134.out
     have R135 := ak e
     have D135 := ak d
     clear e d E134
     refine (zba H133 HL #[.pointer (some ⟨pb, 0, none⟩)] #[] zcs R135 fun W1 F1 NN old => zbu (j + 1) j (by omega) _ _ _ _ (by omega) NN R135.out).mono ?_
     rintro e W136 ⟨rfl, N⟩
     have H := ak N
     have c_bxp := N.box B_bxp.out
     obtain ⟨c_bxt0, c_bxt1⟩ := N.box2 B_bxt.out
     clear c133_bxp c133_bxt0 c133_bxt1 N H133
     go_wp2_with fail
     go_end0
     exact ⟨rfl, (BK.out _ _ _ _ _ _ (BK69.out _ _ _ _ _ _ (zbb D135 G H)))⟩
   ·refine (za4 H114.out).mono ?_
    rintro e W137 ⟨rfl, N137⟩
    rw [b117]
    have H137 := ak N137
    have c137_bxp := N137.box B_bxp.out
    obtain ⟨c137_bxt0, c137_bxt1⟩ := N137.box2 B_bxt.out
    clear N137 H114 c114_bxp c114_bxt0 c114_bxt1
    have E138 := ak (if_f (zh9 b117) E115.out)
    clear E115
    clear b117
    go_wp2_with fail
    refine (za4 H137.out).mono ?_
    rintro e W140 ⟨rfl, N140⟩
    rcases zbv H137.out with b139 | b139
    ·rw [b139]
     have H := ak N140
     have c_bxp := N140.box B_bxp.out
     obtain ⟨c_bxt0, c_bxt1⟩ := N140.box2 B_bxt.out
     clear c137_bxp c137_bxt0 c137_bxt1 N140 H137
     have E := ak (if_t b139 E138.out)
     clear E138 b139
     go_wp2_with fail
     obtain ⟨p141, e, d⟩ := zai E.out
     have R141 := ak e
     have D141 := ak d
     clear e d E
     refine (zba H HL #[] #[.pointer (some ⟨W.heap.size, 0, none⟩)] zcl R141 fun W1 F1 NN old => (zcx  (dn ih) (B_bxp.out.old old) (hla HL)).at NN R141).mono ?_
     rintro e W142 ⟨rfl, N⟩
     replace H := ak N
     replace c_bxp := N.box B_bxp.out
     clear c_bxt0 c_bxt1
     obtain ⟨c_bxt0, c_bxt1⟩ := N.box2 B_bxt.out
     clear N
     go_wp2_with fail
     go_end0
     exact ⟨rfl, (BK.out _ _ _ _ _ _ (BK69.out _ _ _ _ _ _ (zbb D141 G H)))⟩
    ·rw [b139]
     have H := ak N140
     have c_bxp := N140.box B_bxp.out
     obtain ⟨c_bxt0, c_bxt1⟩ := N140.box2 B_bxt.out
     clear c137_bxp c137_bxt0 c137_bxt1 N140 H137
     have E := ak (if_f b139 E138.out)
     clear E138 b139
     go_wp2_with fail
     replace E := ak (if_n (by rw [HTK.out]; exact K105.out) E.out)
     refine (zbk H.out [(⟨#[116, 114, 117, 101]⟩ : ByteArray), (⟨#[102, 97, 108, 115, 101]⟩ : ByteArray)] (by simp)).mono ?_
     rintro e W144 ⟨rfl, N144⟩
     rcases zac H.out [(⟨#[116, 114, 117, 101]⟩ : ByteArray), (⟨#[102, 97, 108, 115, 101]⟩ : ByteArray)] with b143 | b143
     ·rw [b143]
      replace H := ak N144
      replace c_bxp := N144.box B_bxp.out
      clear c_bxt0 c_bxt1
      obtain ⟨c_bxt0, c_bxt1⟩ := N144.box2 B_bxt.out
      clear N144
      replace E := ak (if_t b143 E.out)
      clear b143
      go_wp2_with fail
      obtain ⟨p145, e, d⟩ := zai E.out
      have R145 := ak e
      have D145 := ak d
      clear e d E
      refine (zba H HL #[.pointer (some ⟨pb, 0, none⟩)] #[] zcs R145 fun W1 F1 NN old => zbu (j + 1) j (by omega) _ _ _ _ (by omega) NN R145.out).mono ?_
      rintro e W146 ⟨rfl, N⟩
      replace H := ak N
      replace c_bxp := N.box B_bxp.out
      clear c_bxt0 c_bxt1
      obtain ⟨c_bxt0, c_bxt1⟩ := N.box2 B_bxt.out
      clear N
      go_wp2_with fail
      go_end0
      exact ⟨rfl, (BK.out _ _ _ _ _ _ (BK69.out _ _ _ _ _ _ (zbb D145 G H)))⟩
     ·rw [b143]
      replace H := ak N144
      replace c_bxp := N144.box B_bxp.out
      clear c_bxt0 c_bxt1
      obtain ⟨c_bxt0, c_bxt1⟩ := N144.box2 B_bxt.out
      clear N144
      replace E := ak (if_f b143 E.out)
      clear b143
      go_wp2_with fail
      refine (zde H.out (by omega)).mono ?_
      rintro e W147 ⟨rfl, N⟩
      replace H := ak N
      replace c_bxp := N.box B_bxp.out
      clear c_bxt0 c_bxt1
      obtain ⟨c_bxt0, c_bxt1⟩ := N.box2 B_bxt.out
      clear N
      go_wp2_with fail
      go_end0
      exact ⟨rfl, (BK.out _ _ _ _ _ _ (BK69.out _ _ _ _ _ _ (zbb ⟨zab E.out⟩ G H)))⟩
theorem zul  {k : Nat} {bxp : Nat}  (ih : ∀ i, i < k → IH B T tv pb i) (hb_bxp : Box pb W0 F0 bxp (.pointer (some ⟨pb, 0, none⟩))) (hlow : low.length + k ≤ 10000000) : Does B T tv pb (k + 1) .mcallB 365 #[.pointer (some ⟨bxp, 0, none⟩)] low kd tx W0 F0 := by
 intro i hi m W s q hm N hr
 obtain ⟨j, rfl, H, E, G, HL, RUN⟩ := zah N hr (by omega)
 replace ih : ∀ i, i < j + 1 → IH B T tv pb i := fun i h => ih i (by omega)
 have B_bxp := ak hb_bxp
 have c_bxp := N.box hb_bxp
 clear N hr hlow hb_bxp
 go_enter Tryz.func365, Tryz.ntmps365
 go_wp2_with fail
 replace E := ak (zbh E.out)
 refine (zat H.out (by omega)).mono ?_
 rintro e W1 ⟨rfl, N⟩
 replace H := ak N
 replace c_bxp := N.box B_bxp.out
 clear N
 go_wp2_with fail
 replace E := ak (zbh E.out)
 refine (zat H.out (by omega)).mono ?_
 rintro e W2 ⟨rfl, N⟩
 replace H := ak N
 replace c_bxp := N.box B_bxp.out
 clear N
 go_wp2_with fail
 obtain ⟨p3, e, d⟩ := zu E.out
 have R := ak e
 replace E := ak (d)
 clear e d
 refine (mth (ij ih).arguments HL H R).mono ?_
 rintro e W4 ⟨rfl, N⟩
 replace H := ak N
 replace c_bxp := N.box B_bxp.out
 clear N
 go_wp2_with fail
 go_end0
 exact zb2 ⟨zaw E.out⟩ H
theorem znp  {k : Nat} {bxp : Nat}  (ih : ∀ i, i < k → IH B T tv pb i) (hb_bxp : Box pb W0 F0 bxp (.pointer (some ⟨pb, 0, none⟩))) (hlow : low.length + k ≤ 10000000) : Does B T tv pb (k + 1) .fieldB 366 #[.pointer (some ⟨bxp, 0, none⟩)] low kd tx W0 F0 := by
 intro i hi m W s q hm N hr
 obtain ⟨j, rfl, H, E, G, HL, RUN⟩ := zah N hr (by omega)
 replace ih : ∀ i, i < j + 1 → IH B T tv pb i := fun i h => ih i (by omega)
 have B_bxp := ak hb_bxp
 have c_bxp := N.box hb_bxp
 clear N hr hlow hb_bxp
 go_enter Tryz.func366, Tryz.ntmps366
 go_wp2_with fail
 replace E := ak (zbh E.out)
 refine (zat H.out (by omega)).mono ?_
 rintro e W1 ⟨rfl, N⟩
 replace H := ak N
 replace c_bxp := N.box B_bxp.out
 clear N
 go_wp2_with fail
 replace E := ak (zbh E.out)
 refine (zbl H.out (by omega)).mono ?_
 rintro e W2 ⟨rfl, N⟩
 replace H := ak N
 replace c_bxp := N.box B_bxp.out
 clear N
 go_wp2_with fail
 go_end0
 exact zb2 ⟨zaw E.out⟩ H
theorem zwq  {k : Nat}  (ih : ∀ i, i < k → IH B T tv pb i) : Meth B T tv pb k .postf 350 #[.pointer (some ⟨pb, 0, none⟩)] (fun _ => .tuple #[]) := by
 intro m low kd tx W0 F0 W s q hm hlow N hr
 obtain ⟨j, rfl, H, E, G, HL, RUN⟩ := zah N hr hlow
 clear N hr hlow
 go_enter Tryz.func350, Tryz.ntmps350
 go_wp2_with fail
 obtain ⟨WB, FB, hWB, hsz, BK, B_bxp, HN, c_bxp⟩ := zeo H (.pointer (some ⟨pb, 0, none⟩)) 184
 rw [hWB]
 try rw [hsz]
 clear hsz hWB H
 clear E
 have L1 := ak RUN.out
 clear RUN
 go_loopg [] (j + 1) (fun g wr => ∃ pl s1, Now B T tv pb 10000000 low kd tx WB FB wr s1 ∧ run T g .postf s1 = some pl ∧ pl.2 = q.2 ∧ g ≤ (j + 1))
 case atStart =>
  obtain ⟨_, _, g1, _, _⟩ := zad L1.out
  exact ⟨_, _, HN.out.fit g1, L1.out, rfl, Nat.le_refl _⟩
 case round =>
  obtain ⟨pl2, s2, N2, hr2, hpl2, hg2⟩ := hrel
  obtain ⟨i2, rfl, f1, f2, f3⟩ := zad hr2
  have H2 := ak N2
  have E2 := ak f2
  have PL2 := ak hpl2
  have hi2 := ak hg2
  have c2_bxp := N2.box B_bxp.out
  clear N2 hr2 hpl2 hg2 f1 f2 f3 HN c_bxp
  go_wp2_with fail
  refine (zbk H2.out [(⟨#[40]⟩ : ByteArray), (⟨#[46]⟩ : ByteArray)] (by simp)).mono ?_
  rintro e W4 ⟨rfl, N4⟩
  rcases zac H2.out [(⟨#[40]⟩ : ByteArray), (⟨#[46]⟩ : ByteArray)] with b3 | b3
  ·rw [b3]
   have H := ak N4
   have c_bxp := N4.box B_bxp.out
   clear c2_bxp N4 H2
   have E := ak (if_t b3 E2.out)
   clear E2 b3
   go_wp2_with fail
   obtain ⟨p5, e5, d5⟩ := zcp E.out
   have X5 := ak e5
   have Y5 := ak d5
   clear e5 d5 E
   refine (zbk H.out [(⟨#[40]⟩ : ByteArray)] (by simp)).mono ?_
   rintro e W7 ⟨rfl, N7⟩
   rcases zac H.out [(⟨#[40]⟩ : ByteArray)] with b6 | b6
   ·rw [b6]
    replace H := ak N7
    replace c_bxp := N7.box B_bxp.out
    clear N7
    have E := ak (if_t b6 X5.out)
    clear X5 b6
    go_wp2_with fail
    obtain ⟨ks8, t8, p8, s8, e8, d8⟩ := zdi E.out
    have R8 := ak e8
    have D8 := ak d8
    have S8 := ak s8
    clear e8 d8 s8 E
    refine (zd1 H.out S8.out (by omega) (by have := HL.out; have := hi2.out; omega) 30 358 #[.pointer (some ⟨pb, 0, none⟩)] #[] p8.2 zn5 (zcf.1 (zce R8.out)).1 (fun W1 F1 NN old => ((ih i2 (by have := hi2.out; omega)).arguments _ _ _ _ _ _ _ _ _ (by omega) (by rw [List.length_append, List.length_singleton]; have := HL.out; have := hi2.out; omega) NN R8.out).mono (fun e W' h => ⟨⟨_, h.1⟩, _, h.2⟩))).mono ?_
    rintro e W9 ⟨rfl, N⟩
    replace H := ak N
    replace c_bxp := N.box B_bxp.out
    clear N
    go_wp2_with fail
    have hp10 := D8.out
    have E10 := ak (by have h := Y5.out; rw [hp10] at h; exact h)
    clear hp10 D8 Y5
    go_roundg i2
    case rel =>
     obtain ⟨_, _, g1, _, _⟩ := zad E10.out
     exact ⟨_, _, H.out.fit g1, E10.out, PL2.out, by have := hi2.out; omega⟩
    case measure => omega
   ·rw [b6]
    replace H := ak N7
    replace c_bxp := N7.box B_bxp.out
    clear N7
    have E := ak (if_f b6 X5.out)
    clear X5 b6
    go_wp2_with fail
    refine (zew H.out).mono ?_
    rintro e W12 ⟨qb12, rfl, N12, L12⟩
    have H12 := ak (And.intro N12 L12)
    have c12_bxp := N12.box B_bxp.out
    clear N12 L12 H c_bxp
    go_wp2_with fail
    rcases zr1 H12.out.2 with b13 | b13
    ·refine (zkq H12.out.1 H12.out.2).mono ?_
     rintro e W14 ⟨rfl, N14, L14⟩
     rw [b13]
     have H14 := ak (And.intro N14 L14)
     have c14_bxp := N14.box B_bxp.out
     clear N14 L14 H12 c12_bxp
     have HI14 := ak b13
     clear b13
     go_wp2_with fail
     refine (zuq H14.out.1 H14.out.2).mono ?_
     rintro e W15 ⟨rb15, rfl, N15, L15⟩
     have H15 := ak (And.intro N15 L15)
     have c15_bxp := N15.box B_bxp.out
     clear N15 L15 H14 c14_bxp
     go_wp2_with fail
     rcases zgk H15.out.2 [(⟨#[40]⟩ : ByteArray)] with b16 | b16
     ·refine (zds H15.out.1 H15.out.2 [(⟨#[40]⟩ : ByteArray)] (by simp)).mono ?_
      rintro e W17 ⟨rfl, N17⟩
      rw [b16]
      have H17 := ak N17
      have c17_bxp := N17.box B_bxp.out
      clear N17 H15 c15_bxp
      have E18 := ak (if_t (zed HI14.out b16) E.out)
      clear E
      clear b16
      go_wp2_with fail
      obtain ⟨ks19, t19, p19, s19, e19, d19⟩ := zdi E18.out
      have R19 := ak e19
      have D19 := ak d19
      have S19 := ak s19
      clear e19 d19 s19 E18
      refine (zd1 H17.out S19.out (by omega) (by have := HL.out; have := hi2.out; omega) 31 365 #[] #[.pointer (some ⟨W.heap.size, 0, none⟩)] p19.2 znz (zcf.1 (zce R19.out)).1 (fun W1 F1 NN old => zul  (k := i2) (fun i hi => ih i (by have := hi2.out; omega)) (B_bxp.out.old old) (by rw [List.length_append, List.length_singleton]; have := HL.out; have := hi2.out; omega) i2 (by omega) _ _ _ _ (by omega) NN R19.out)).mono ?_
      rintro e W20 ⟨rfl, N⟩
      have H := ak N
      have c_bxp := N.box B_bxp.out
      clear c17_bxp N H17
      go_wp2_with fail
      have hp21 := D19.out
      have E21 := ak (by have h := Y5.out; rw [hp21] at h; exact h)
      clear hp21 D19 Y5
      go_roundg i2
      case rel =>
       obtain ⟨_, _, g1, _, _⟩ := zad E21.out
       exact ⟨_, _, H.out.fit g1, E21.out, PL2.out, by have := hi2.out; omega⟩
      case measure => omega
     ·refine (zds H15.out.1 H15.out.2 [(⟨#[40]⟩ : ByteArray)] (by simp)).mono ?_
      rintro e W22 ⟨rfl, N22⟩
      rw [b16]
      have H22 := ak N22
      have c22_bxp := N22.box B_bxp.out
      clear N22 H15 c15_bxp
      have E23 := ak (if_f (zed HI14.out b16) E.out)
      clear E
      clear b16
      go_wp2_with fail
      obtain ⟨ks24, t24, p24, s24, e24, d24⟩ := zdi E23.out
      have R24 := ak e24
      have D24 := ak d24
      have S24 := ak s24
      clear e24 d24 s24 E23
      refine (zd1 H22.out S24.out (by omega) (by have := HL.out; have := hi2.out; omega) 32 366 #[] #[.pointer (some ⟨W.heap.size, 0, none⟩)] p24.2 zh5 (zcf.1 (zce R24.out)).1 (fun W1 F1 NN old => znp  (k := i2) (fun i hi => ih i (by have := hi2.out; omega)) (B_bxp.out.old old) (by rw [List.length_append, List.length_singleton]; have := HL.out; have := hi2.out; omega) i2 (by omega) _ _ _ _ (by omega) NN R24.out)).mono ?_
      rintro e W25 ⟨rfl, N⟩
      have H := ak N
      have c_bxp := N.box B_bxp.out
      clear c22_bxp N H22
      go_wp2_with fail
      have hp26 := D24.out
      have E26 := ak (by have h := Y5.out; rw [hp26] at h; exact h)
      clear hp26 D24 Y5
      go_roundg i2
      case rel =>
       obtain ⟨_, _, g1, _, _⟩ := zad E26.out
       exact ⟨_, _, H.out.fit g1, E26.out, PL2.out, by have := hi2.out; omega⟩
      case measure => omega
    ·refine (zkq H12.out.1 H12.out.2).mono ?_
     rintro e W27 ⟨rfl, N27, L27⟩
     rw [b13]
     have H27 := ak N27
     have c27_bxp := N27.box B_bxp.out
     clear N27 L27 H12 c12_bxp
     have E28 := ak (if_f (zh9 b13) E.out)
     clear E
     clear b13
     go_wp2_with fail
     obtain ⟨ks29, t29, p29, s29, e29, d29⟩ := zdi E28.out
     have R29 := ak e29
     have D29 := ak d29
     have S29 := ak s29
     clear e29 d29 s29 E28
     refine (zd1 H27.out S29.out (by omega) (by have := HL.out; have := hi2.out; omega) 32 366 #[] #[.pointer (some ⟨W.heap.size, 0, none⟩)] p29.2 zh5 (zcf.1 (zce R29.out)).1 (fun W1 F1 NN old => znp  (k := i2) (fun i hi => ih i (by have := hi2.out; omega)) (B_bxp.out.old old) (by rw [List.length_append, List.length_singleton]; have := HL.out; have := hi2.out; omega) i2 (by omega) _ _ _ _ (by omega) NN R29.out)).mono ?_
     rintro e W30 ⟨rfl, N⟩
     have H := ak N
     have c_bxp := N.box B_bxp.out
     clear c27_bxp N H27
     go_wp2_with fail
     have hp31 := D29.out
     have E31 := ak (by have h := Y5.out; rw [hp31] at h; exact h)
     clear hp31 D29 Y5
     go_roundg i2
     case rel =>
      obtain ⟨_, _, g1, _, _⟩ := zad E31.out
      exact ⟨_, _, H.out.fit g1, E31.out, PL2.out, by have := hi2.out; omega⟩
     case measure => omega
  ·rw [b3]
   have H := ak N4
   have c_bxp := N4.box B_bxp.out
   clear c2_bxp N4 H2
   have E := ak (if_f b3 E2.out)
   clear E2 b3
   go_wp2_with fail
   have hq32 : q.2 = _ := PL2.out.symm.trans (congrArg Prod.snd (zab E.out))
   have E32 := ak hq32
   clear hq32 E
   go_end0
   exact ⟨rfl, (BK.out _ _ _ _ _ _ (z05 E32 G H))⟩
theorem zup  {k : Nat} {bxp : Nat}  (ih : ∀ i, i < k → IH B T tv pb i) (hb_bxp : Box pb W0 F0 bxp (.pointer (some ⟨pb, 0, none⟩))) (hlow : low.length + k ≤ 10000000) : Does B T tv pb (k + 1) .macroB 357 #[.pointer (some ⟨bxp, 0, none⟩)] low kd tx W0 F0 := by
 intro i hi m W s q hm N hr
 obtain ⟨j, rfl, H, E, G, HL, RUN⟩ := zah N hr (by omega)
 replace ih : ∀ i, i < j + 1 → IH B T tv pb i := fun i h => ih i (by omega)
 have B_bxp := ak hb_bxp
 have c_bxp := N.box hb_bxp
 clear N hr hlow hb_bxp
 go_enter Tryz.func357, Tryz.ntmps357
 go_wp2_with fail
 replace E := ak (zbh E.out)
 refine (zat H.out (by omega)).mono ?_
 rintro e W1 ⟨rfl, N⟩
 replace H := ak N
 replace c_bxp := N.box B_bxp.out
 clear N
 go_wp2_with fail
 obtain ⟨p2, e, d⟩ := zu E.out
 have R := ak e
 replace E := ak (d)
 clear e d
 refine (mth (ij ih).arguments HL H R).mono ?_
 rintro e W3 ⟨rfl, N⟩
 replace H := ak N
 replace c_bxp := N.box B_bxp.out
 clear N
 go_wp2_with fail
 go_end0
 exact zb2 ⟨zaw E.out⟩ H
theorem ztz  {k : Nat} {bxp : Nat}  (ih : ∀ i, i < k → IH B T tv pb i) (hb_bxp : Box pb W0 F0 bxp (.pointer (some ⟨pb, 0, none⟩))) (hlow : low.length + k ≤ 10000000) : Does B T tv pb (k + 1) .parenB 359 #[.pointer (some ⟨bxp, 0, none⟩)] low kd tx W0 F0 := by
 intro i hi m W s q hm N hr
 obtain ⟨j, rfl, H, E, G, HL, RUN⟩ := zah N hr (by omega)
 replace ih : ∀ i, i < j + 1 → IH B T tv pb i := fun i h => ih i (by omega)
 have B_bxp := ak hb_bxp
 have c_bxp := N.box hb_bxp
 clear N hr hlow hb_bxp
 go_enter Tryz.func359, Tryz.ntmps359
 go_wp2_with fail
 replace E := ak (zbh E.out)
 refine (zat H.out (by omega)).mono ?_
 rintro e W1 ⟨rfl, N⟩
 replace H := ak N
 replace c_bxp := N.box B_bxp.out
 clear N
 go_wp2_with fail
 obtain ⟨p2, e, d⟩ := zu E.out
 have R := ak e
 replace E := ak (d)
 clear e d
 refine (mth (ij ih).expr HL H R).mono ?_
 rintro e W3 ⟨rfl, N⟩
 replace H := ak N
 replace c_bxp := N.box B_bxp.out
 clear N
 go_wp2_with fail
 replace E := ak (zbh E.out)
 refine (zag H.out (by omega) (⟨#[41]⟩ : ByteArray)).mono ?_
 rintro e W4 ⟨rfl, N⟩
 replace H := ak N
 replace c_bxp := N.box B_bxp.out
 clear N
 go_wp2_with fail
 go_end0
 exact zb2 ⟨zaw E.out⟩ H
theorem zrl  {k : Nat}  (ih : ∀ i, i < k → IH B T tv pb i) : Meth B T tv pb k .primary 344 #[.pointer (some ⟨pb, 0, none⟩)] (fun _ => .tuple #[]) := by
 intro m low kd tx W0 F0 W s q hm hlow N hr
 obtain ⟨j, rfl, H, E, G, HL, RUN⟩ := zah N hr hlow
 clear N hr hlow
 go_enter Tryz.func344, Tryz.ntmps344
 go_wp2_with fail
 obtain ⟨WB, FB, hWB, hsz, BK, B_bxp, HN, c_bxp⟩ := zeo H (.pointer (some ⟨pb, 0, none⟩)) 184
 rw [hWB]
 try rw [hsz]
 clear hsz hWB H
 refine (zii HN.out).mono ?_
 rintro e W1 ⟨rfl, N1⟩
 obtain ⟨tk, htk⟩ : ∃ tk, Hid ((zal T s.1).1 = tk) := ⟨_, rfl⟩
 obtain ⟨tt, htt⟩ : ∃ tt, Hid ((zal T s.1).2 = tt) := ⟨_, rfl⟩
 rw [show (zal T s.1).1 = tk from htk, show (zal T s.1).2 = tt from htt]
 have HTK := ak (show (zal T s.1).1 = tk from htk)
 have HTT := ak (show (zal T s.1).2 = tt from htt)
 have H := ak N1
 replace c_bxp := N1.box B_bxp.out
 clear htk htt N1 HN
 have ca_bxp := fun o => (World.cell?_alloc_some W1 ⟨W.heap.size, 0, none⟩ o (by rw [c_bxp]; rfl)).trans c_bxp
 by_cases k105 : tk = 105
 ·subst k105
  go_wp2_with fail
  obtain ⟨WB2, FB2, hWB, hsz, BK2, O2, X2, H'⟩ := zi5 H #[.int .i64 105, .string tt] 154
  replace H := H'
  clear H'
  replace B_bxp := ak (B_bxp.out.old O2.out)
  have B_bxt := ak (show Box2 pb WB2 FB2 W1.heap.size (.int .i64 105) (.string tt) from ⟨X2.out.1, _, X2.out.2⟩)
  replace c_bxp := H.out.box B_bxp.out
  obtain ⟨c_bxt0, c_bxt1⟩ := H.out.box2 B_bxt.out
  clear ca_bxp
  rw [hWB]
  try rw [hsz]
  clear hsz hWB O2 X2
  replace E := ak (if_y HTK.out E.out)
  obtain ⟨p3, e, d⟩ := zai E.out
  have R3 := ak e
  have D3 := ak d
  clear e d E
  refine (zba H HL #[.pointer (some ⟨pb, 0, none⟩)] #[] zcs R3 fun W1 F1 NN old => zbu (j + 1) j (by omega) _ _ _ _ (by omega) NN R3.out).mono ?_
  rintro e W4 ⟨rfl, N⟩
  replace H := ak N
  replace c_bxp := N.box B_bxp.out
  clear c_bxt0 c_bxt1
  obtain ⟨c_bxt0, c_bxt1⟩ := N.box2 B_bxt.out
  clear N
  go_wp2_with fail
  go_end0
  exact ⟨rfl, (BK.out _ _ _ _ _ _ (BK2.out _ _ _ _ _ _ (zbb D3 G H)))⟩
 have f105 : (tk == 105) = false := beq_eq_false_iff_ne.2 k105
 have K105 := ak k105
 clear k105
 by_cases k106 : tk = 106
 ·subst k106
  go_wp2_with fail
  obtain ⟨WB5, FB5, hWB, hsz, BK5, O5, X5, H'⟩ := zi5 H #[.int .i64 106, .string tt] 154
  replace H := H'
  clear H'
  replace B_bxp := ak (B_bxp.out.old O5.out)
  have B_bxt := ak (show Box2 pb WB5 FB5 W1.heap.size (.int .i64 106) (.string tt) from ⟨X5.out.1, _, X5.out.2⟩)
  replace c_bxp := H.out.box B_bxp.out
  obtain ⟨c_bxt0, c_bxt1⟩ := H.out.box2 B_bxt.out
  clear ca_bxp
  rw [hWB]
  try rw [hsz]
  clear hsz hWB O5 X5
  replace E := ak (if_n (by rw [HTK.out]; decide) E.out)
  replace E := ak (if_y HTK.out E.out)
  obtain ⟨p6, e, d⟩ := zai E.out
  have R6 := ak e
  have D6 := ak d
  clear e d E
  refine (zba H HL #[.pointer (some ⟨pb, 0, none⟩)] #[] zcs R6 fun W1 F1 NN old => zbu (j + 1) j (by omega) _ _ _ _ (by omega) NN R6.out).mono ?_
  rintro e W7 ⟨rfl, N⟩
  replace H := ak N
  replace c_bxp := N.box B_bxp.out
  clear c_bxt0 c_bxt1
  obtain ⟨c_bxt0, c_bxt1⟩ := N.box2 B_bxt.out
  clear N
  go_wp2_with fail
  go_end0
  exact ⟨rfl, (BK.out _ _ _ _ _ _ (BK5.out _ _ _ _ _ _ (zbb D6 G H)))⟩
 have f106 : (tk == 106) = false := beq_eq_false_iff_ne.2 k106
 have K106 := ak k106
 clear k106
 by_cases k103 : tk = 103
 ·subst k103
  go_wp2_with fail
  obtain ⟨WB8, FB8, hWB, hsz, BK8, O8, X8, H'⟩ := zi5 H #[.int .i64 103, .string tt] 154
  replace H := H'
  clear H'
  replace B_bxp := ak (B_bxp.out.old O8.out)
  have B_bxt := ak (show Box2 pb WB8 FB8 W1.heap.size (.int .i64 103) (.string tt) from ⟨X8.out.1, _, X8.out.2⟩)
  replace c_bxp := H.out.box B_bxp.out
  obtain ⟨c_bxt0, c_bxt1⟩ := H.out.box2 B_bxt.out
  clear ca_bxp
  rw [hWB]
  try rw [hsz]
  clear hsz hWB O8 X8
  replace E := ak (if_n (by rw [HTK.out]; decide) E.out)
  replace E := ak (if_n (by rw [HTK.out]; decide) E.out)
  refine (zbk H.out [(⟨#[116, 114, 117, 101]⟩ : ByteArray), (⟨#[102, 97, 108, 115, 101]⟩ : ByteArray)] (by simp)).mono ?_
  rintro e W10 ⟨rfl, N10⟩
  rcases zac H.out [(⟨#[116, 114, 117, 101]⟩ : ByteArray), (⟨#[102, 97, 108, 115, 101]⟩ : ByteArray)] with b9 | b9
  ·rw [b9]
   replace H := ak N10
   replace c_bxp := N10.box B_bxp.out
   clear c_bxt0 c_bxt1
   obtain ⟨c_bxt0, c_bxt1⟩ := N10.box2 B_bxt.out
   clear N10
   replace E := ak (if_t b9 E.out)
   clear b9
   go_wp2_with fail
   obtain ⟨p11, e, d⟩ := zai E.out
   have R11 := ak e
   have D11 := ak d
   clear e d E
   refine (zba H HL #[.pointer (some ⟨pb, 0, none⟩)] #[] zcs R11 fun W1 F1 NN old => zbu (j + 1) j (by omega) _ _ _ _ (by omega) NN R11.out).mono ?_
   rintro e W12 ⟨rfl, N⟩
   replace H := ak N
   replace c_bxp := N.box B_bxp.out
   clear c_bxt0 c_bxt1
   obtain ⟨c_bxt0, c_bxt1⟩ := N.box2 B_bxt.out
   clear N
   go_wp2_with fail
   go_end0
   exact ⟨rfl, (BK.out _ _ _ _ _ _ (BK8.out _ _ _ _ _ _ (zbb D11 G H)))⟩
  ·rw [b9]
   replace H := ak N10
   replace c_bxp := N10.box B_bxp.out
   clear c_bxt0 c_bxt1
   obtain ⟨c_bxt0, c_bxt1⟩ := N10.box2 B_bxt.out
   clear N10
   replace E := ak (if_f b9 E.out)
   clear b9
   go_wp2_with fail
   replace E := ak (if_y HTK.out E.out)
   obtain ⟨p13, e13, d13⟩ := zcp E.out
   have X13 := ak e13
   have Y13 := ak d13
   clear e13 d13 E
   refine (mth ((ij ih).path false) HL H X13).mono ?_
   rintro e W14 ⟨rfl, N⟩
   replace H := ak N
   replace c_bxp := N.box B_bxp.out
   clear c_bxt0 c_bxt1
   obtain ⟨c_bxt0, c_bxt1⟩ := N.box2 B_bxt.out
   clear N
   go_wp2_with fail
   rcases zac H.out [(⟨#[33]⟩ : ByteArray)] with b16 | b16
   ·refine (zbk H.out [(⟨#[33]⟩ : ByteArray)] (by simp)).mono ?_
    rintro e W17 ⟨rfl, N17⟩
    rw [b16]
    have H17 := ak N17
    have c17_bxp := N17.box B_bxp.out
    obtain ⟨c17_bxt0, c17_bxt1⟩ := N17.box2 B_bxt.out
    clear N17 H c_bxp c_bxt0 c_bxt1
    have HI18 := ak b16
    clear b16
    go_wp2_with fail
    refine (zew H17.out).mono ?_
    rintro e W19 ⟨qb19, rfl, N19, L19⟩
    have H19 := ak (And.intro N19 L19)
    have c19_bxp := N19.box B_bxp.out
    obtain ⟨c19_bxt0, c19_bxt1⟩ := N19.box2 B_bxt.out
    clear N19 L19 H17 c17_bxp c17_bxt0 c17_bxt1
    go_wp2_with fail
    rcases zgk H19.out.2 [(⟨#[40]⟩ : ByteArray)] with b20 | b20
    ·refine (zds H19.out.1 H19.out.2 [(⟨#[40]⟩ : ByteArray)] (by simp)).mono ?_
     rintro e W21 ⟨rfl, N21⟩
     rw [b20]
     have H21 := ak N21
     have c21_bxp := N21.box B_bxp.out
     obtain ⟨c21_bxt0, c21_bxt1⟩ := N21.box2 B_bxt.out
     clear N21 H19 c19_bxp c19_bxt0 c19_bxt1
     have E22 := ak (if_t (zed HI18.out b20) Y13.out)
     clear Y13
     clear b20
     go_wp2_with fail
     obtain ⟨ks23, t23, p23, s23, e23, d23⟩ := zdi E22.out
     have R23 := ak e23
     have D23 := ak d23
     have S23 := ak s23
     clear e23 d23 s23 E22
     refine (zmf H21 S23 HL #[] #[.pointer (some ⟨W.heap.size, 0, none⟩)] zny R23 fun W1 F1 NN old => (zup  (dn ih) (B_bxp.out.old old) (hla HL)).at NN R23).mono ?_
     rintro e W24 ⟨rfl, N⟩
     have H := ak N
     have c_bxp := N.box B_bxp.out
     obtain ⟨c_bxt0, c_bxt1⟩ := N.box2 B_bxt.out
     clear c21_bxp c21_bxt0 c21_bxt1 N H21
     go_wp2_with fail
     go_end0
     exact ⟨rfl, (BK.out _ _ _ _ _ _ (BK8.out _ _ _ _ _ _ (zbb D23 G H)))⟩
    ·refine (zds H19.out.1 H19.out.2 [(⟨#[40]⟩ : ByteArray)] (by simp)).mono ?_
     rintro e W25 ⟨rfl, N25⟩
     rw [b20]
     have H25 := ak N25
     have c25_bxp := N25.box B_bxp.out
     obtain ⟨c25_bxt0, c25_bxt1⟩ := N25.box2 B_bxt.out
     clear N25 H19 c19_bxp c19_bxt0 c19_bxt1
     have E26 := ak (if_f (zed HI18.out b20) Y13.out)
     clear Y13
     clear b20
     go_wp2_with fail
     go_end0
     exact ⟨rfl, (BK.out _ _ _ _ _ _ (BK8.out _ _ _ _ _ _ (zbb ⟨zab E26.out⟩ G H25)))⟩
   ·refine (zbk H.out [(⟨#[33]⟩ : ByteArray)] (by simp)).mono ?_
    rintro e W27 ⟨rfl, N27⟩
    rw [b16]
    have H27 := ak N27
    have c27_bxp := N27.box B_bxp.out
    obtain ⟨c27_bxt0, c27_bxt1⟩ := N27.box2 B_bxt.out
    clear N27 H c_bxp c_bxt0 c_bxt1
    have E28 := ak (if_f (zh9 b16) Y13.out)
    clear Y13
    clear b16
    go_wp2_with fail
    go_end0
    exact ⟨rfl, (BK.out _ _ _ _ _ _ (BK8.out _ _ _ _ _ _ (zbb ⟨zab E28.out⟩ G H27)))⟩
 have f103 : (tk == 103) = false := beq_eq_false_iff_ne.2 k103
 have K103 := ak k103
 clear k103
 go_wp2_with fail
 obtain ⟨WB29, FB29, hWB, hsz, BK29, O29, X29, H'⟩ := zi5 H #[.int .i64 tk, .string tt] 154
 replace H := H'
 clear H'
 replace B_bxp := ak (B_bxp.out.old O29.out)
 have B_bxt := ak (show Box2 pb WB29 FB29 W1.heap.size (.int .i64 tk) (.string tt) from ⟨X29.out.1, _, X29.out.2⟩)
 replace c_bxp := H.out.box B_bxp.out
 obtain ⟨c_bxt0, c_bxt1⟩ := H.out.box2 B_bxt.out
 clear ca_bxp
 rw [hWB]
 try rw [hsz]
 clear hsz hWB O29 X29
 replace E := ak (if_n (by rw [HTK.out]; exact K105.out) E.out)
 replace E := ak (if_n (by rw [HTK.out]; exact K106.out) E.out)
 refine (zbk H.out [(⟨#[116, 114, 117, 101]⟩ : ByteArray), (⟨#[102, 97, 108, 115, 101]⟩ : ByteArray)] (by simp)).mono ?_
 rintro e W31 ⟨rfl, N31⟩
 rcases zac H.out [(⟨#[116, 114, 117, 101]⟩ : ByteArray), (⟨#[102, 97, 108, 115, 101]⟩ : ByteArray)] with b30 | b30
 ·rw [b30]
  replace H := ak N31
  replace c_bxp := N31.box B_bxp.out
  clear c_bxt0 c_bxt1
  obtain ⟨c_bxt0, c_bxt1⟩ := N31.box2 B_bxt.out
  clear N31
  replace E := ak (if_t b30 E.out)
  clear b30
  go_wp2_with fail
  obtain ⟨p32, e, d⟩ := zai E.out
  have R32 := ak e
  have D32 := ak d
  clear e d E
  refine (zba H HL #[.pointer (some ⟨pb, 0, none⟩)] #[] zcs R32 fun W1 F1 NN old => zbu (j + 1) j (by omega) _ _ _ _ (by omega) NN R32.out).mono ?_
  rintro e W33 ⟨rfl, N⟩
  replace H := ak N
  replace c_bxp := N.box B_bxp.out
  clear c_bxt0 c_bxt1
  obtain ⟨c_bxt0, c_bxt1⟩ := N.box2 B_bxt.out
  clear N
  go_wp2_with fail
  go_end0
  exact ⟨rfl, (BK.out _ _ _ _ _ _ (BK29.out _ _ _ _ _ _ (zbb D32 G H)))⟩
 ·rw [b30]
  replace H := ak N31
  replace c_bxp := N31.box B_bxp.out
  clear c_bxt0 c_bxt1
  obtain ⟨c_bxt0, c_bxt1⟩ := N31.box2 B_bxt.out
  clear N31
  replace E := ak (if_f b30 E.out)
  clear b30
  go_wp2_with fail
  replace E := ak (if_n (by rw [HTK.out]; exact K103.out) E.out)
  refine (zbk H.out [(⟨#[40]⟩ : ByteArray)] (by simp)).mono ?_
  rintro e W35 ⟨rfl, N35⟩
  rcases zac H.out [(⟨#[40]⟩ : ByteArray)] with b34 | b34
  ·rw [b34]
   replace H := ak N35
   replace c_bxp := N35.box B_bxp.out
   clear c_bxt0 c_bxt1
   obtain ⟨c_bxt0, c_bxt1⟩ := N35.box2 B_bxt.out
   clear N35
   replace E := ak (if_t b34 E.out)
   clear b34
   go_wp2_with fail
   obtain ⟨p36, e, d⟩ := zai E.out
   have R36 := ak e
   have D36 := ak d
   clear e d E
   refine (zba H HL #[] #[.pointer (some ⟨W.heap.size, 0, none⟩)] znx R36 fun W1 F1 NN old => (ztz  (dn ih) (B_bxp.out.old old) (hla HL)).at NN R36).mono ?_
   rintro e W37 ⟨rfl, N⟩
   replace H := ak N
   replace c_bxp := N.box B_bxp.out
   clear c_bxt0 c_bxt1
   obtain ⟨c_bxt0, c_bxt1⟩ := N.box2 B_bxt.out
   clear N
   go_wp2_with fail
   go_end0
   exact ⟨rfl, (BK.out _ _ _ _ _ _ (BK29.out _ _ _ _ _ _ (zbb D36 G H)))⟩
  ·rw [b34]
   replace H := ak N35
   replace c_bxp := N35.box B_bxp.out
   clear c_bxt0 c_bxt1
   obtain ⟨c_bxt0, c_bxt1⟩ := N35.box2 B_bxt.out
   clear N35
   replace E := ak (if_f b34 E.out)
   clear b34
   go_wp2_with fail
   refine (zbk H.out [(⟨#[123]⟩ : ByteArray)] (by simp)).mono ?_
   rintro e W39 ⟨rfl, N39⟩
   rcases zac H.out [(⟨#[123]⟩ : ByteArray)] with b38 | b38
   ·rw [b38]
    replace H := ak N39
    replace c_bxp := N39.box B_bxp.out
    clear c_bxt0 c_bxt1
    obtain ⟨c_bxt0, c_bxt1⟩ := N39.box2 B_bxt.out
    clear N39
    replace E := ak (if_t b38 E.out)
    clear b38
    go_wp2_with fail
    refine (mth (ij ih).block HL H E).mono ?_
    rintro e W40 ⟨rfl, N⟩
    replace H := ak N
    replace c_bxp := N.box B_bxp.out
    clear c_bxt0 c_bxt1
    obtain ⟨c_bxt0, c_bxt1⟩ := N.box2 B_bxt.out
    clear N
    go_wp2_with fail
    go_end0
    exact ⟨rfl, (BK.out _ _ _ _ _ _ (BK29.out _ _ _ _ _ _ H.out))⟩
   ·rw [b38]
    replace H := ak N39
    replace c_bxp := N39.box B_bxp.out
    clear c_bxt0 c_bxt1
    obtain ⟨c_bxt0, c_bxt1⟩ := N39.box2 B_bxt.out
    clear N39
    replace E := ak (if_f b38 E.out)
    clear b38
    go_wp2_with fail
    refine (zbk H.out [(⟨#[105, 102]⟩ : ByteArray)] (by simp)).mono ?_
    rintro e W42 ⟨rfl, N42⟩
    rcases zac H.out [(⟨#[105, 102]⟩ : ByteArray)] with b41 | b41
    ·rw [b41]
     replace H := ak N42
     replace c_bxp := N42.box B_bxp.out
     clear c_bxt0 c_bxt1
     obtain ⟨c_bxt0, c_bxt1⟩ := N42.box2 B_bxt.out
     clear N42
     replace E := ak (if_t b41 E.out)
     clear b41
     go_wp2_with fail
     refine (mth (ij ih).ifExpr HL H E).mono ?_
     rintro e W43 ⟨rfl, N⟩
     replace H := ak N
     replace c_bxp := N.box B_bxp.out
     clear c_bxt0 c_bxt1
     obtain ⟨c_bxt0, c_bxt1⟩ := N.box2 B_bxt.out
     clear N
     go_wp2_with fail
     go_end0
     exact ⟨rfl, (BK.out _ _ _ _ _ _ (BK29.out _ _ _ _ _ _ H.out))⟩
    ·rw [b41]
     replace H := ak N42
     replace c_bxp := N42.box B_bxp.out
     clear c_bxt0 c_bxt1
     obtain ⟨c_bxt0, c_bxt1⟩ := N42.box2 B_bxt.out
     clear N42
     replace E := ak (if_f b41 E.out)
     clear b41
     go_wp2_with fail
     refine (zbk H.out [(⟨#[109, 97, 116, 99, 104]⟩ : ByteArray)] (by simp)).mono ?_
     rintro e W45 ⟨rfl, N45⟩
     rcases zac H.out [(⟨#[109, 97, 116, 99, 104]⟩ : ByteArray)] with b44 | b44
     ·rw [b44]
      replace H := ak N45
      replace c_bxp := N45.box B_bxp.out
      clear c_bxt0 c_bxt1
      obtain ⟨c_bxt0, c_bxt1⟩ := N45.box2 B_bxt.out
      clear N45
      replace E := ak (if_t b44 E.out)
      clear b44
      go_wp2_with fail
      obtain ⟨p46, e, d⟩ := zai E.out
      have R46 := ak e
      have D46 := ak d
      clear e d E
      refine (zba H HL #[.pointer (some ⟨pb, 0, none⟩)] #[] zxu R46 fun W1 F1 NN old => zui (ij ih).matchS (hla HL) NN R46).mono ?_
      rintro e W47 ⟨rfl, N⟩
      replace H := ak N
      replace c_bxp := N.box B_bxp.out
      clear c_bxt0 c_bxt1
      obtain ⟨c_bxt0, c_bxt1⟩ := N.box2 B_bxt.out
      clear N
      go_wp2_with fail
      go_end0
      exact ⟨rfl, (BK.out _ _ _ _ _ _ (BK29.out _ _ _ _ _ _ (zbb D46 G H)))⟩
     ·rw [b44]
      replace H := ak N45
      replace c_bxp := N45.box B_bxp.out
      clear c_bxt0 c_bxt1
      obtain ⟨c_bxt0, c_bxt1⟩ := N45.box2 B_bxt.out
      clear N45
      replace E := ak (if_f b44 E.out)
      clear b44
      go_wp2_with fail
      refine (zbk H.out [(⟨#[110, 101, 119]⟩ : ByteArray)] (by simp)).mono ?_
      rintro e W49 ⟨rfl, N49⟩
      rcases zac H.out [(⟨#[110, 101, 119]⟩ : ByteArray)] with b48 | b48
      ·rw [b48]
       replace H := ak N49
       replace c_bxp := N49.box B_bxp.out
       clear c_bxt0 c_bxt1
       obtain ⟨c_bxt0, c_bxt1⟩ := N49.box2 B_bxt.out
       clear N49
       replace E := ak (if_t b48 E.out)
       clear b48
       go_wp2_with fail
       obtain ⟨p50, e, d⟩ := zai E.out
       have R50 := ak e
       have D50 := ak d
       clear e d E
       refine (zba H HL #[.pointer (some ⟨pb, 0, none⟩)] #[] znw R50 fun W1 F1 NN old => zui (ij ih).structS (hla HL) NN R50).mono ?_
       rintro e W51 ⟨rfl, N⟩
       replace H := ak N
       replace c_bxp := N.box B_bxp.out
       clear c_bxt0 c_bxt1
       obtain ⟨c_bxt0, c_bxt1⟩ := N.box2 B_bxt.out
       clear N
       go_wp2_with fail
       go_end0
       exact ⟨rfl, (BK.out _ _ _ _ _ _ (BK29.out _ _ _ _ _ _ (zbb D50 G H)))⟩
      ·rw [b48]
       replace H := ak N49
       replace c_bxp := N49.box B_bxp.out
       clear c_bxt0 c_bxt1
       obtain ⟨c_bxt0, c_bxt1⟩ := N49.box2 B_bxt.out
       clear N49
       replace E := ak (if_f b48 E.out)
       clear b48
       go_wp2_with fail
       refine (zbk H.out [(⟨#[124]⟩ : ByteArray), (⟨#[124, 124]⟩ : ByteArray)] (by simp)).mono ?_
       rintro e W53 ⟨rfl, N53⟩
       rcases zac H.out [(⟨#[124]⟩ : ByteArray), (⟨#[124, 124]⟩ : ByteArray)] with b52 | b52
       ·rw [b52]
        replace H := ak N53
        replace c_bxp := N53.box B_bxp.out
        clear c_bxt0 c_bxt1
        obtain ⟨c_bxt0, c_bxt1⟩ := N53.box2 B_bxt.out
        clear N53
        replace E := ak (if_t b52 E.out)
        clear b52
        go_wp2_with fail
        obtain ⟨p54, e, d⟩ := zai E.out
        have R54 := ak e
        have D54 := ak d
        clear e d E
        refine (zba H HL #[.pointer (some ⟨pb, 0, none⟩)] #[] zvg R54 fun W1 F1 NN old => zui (ij ih).lambda (hla HL) NN R54).mono ?_
        rintro e W55 ⟨rfl, N⟩
        replace H := ak N
        replace c_bxp := N.box B_bxp.out
        clear c_bxt0 c_bxt1
        obtain ⟨c_bxt0, c_bxt1⟩ := N.box2 B_bxt.out
        clear N
        go_wp2_with fail
        go_end0
        exact ⟨rfl, (BK.out _ _ _ _ _ _ (BK29.out _ _ _ _ _ _ (zbb D54 G H)))⟩
       ·rw [b52]
        replace H := ak N53
        replace c_bxp := N53.box B_bxp.out
        clear c_bxt0 c_bxt1
        obtain ⟨c_bxt0, c_bxt1⟩ := N53.box2 B_bxt.out
        clear N53
        replace E := ak (if_f b52 E.out)
        clear b52
        go_wp2_with fail
        refine (zde H.out (by omega)).mono ?_
        rintro e W56 ⟨rfl, N⟩
        replace H := ak N
        replace c_bxp := N.box B_bxp.out
        clear c_bxt0 c_bxt1
        obtain ⟨c_bxt0, c_bxt1⟩ := N.box2 B_bxt.out
        clear N
        go_wp2_with fail
        go_end0
        exact ⟨rfl, (BK.out _ _ _ _ _ _ (BK29.out _ _ _ _ _ _ (zbb ⟨zab E.out⟩ G H)))⟩
theorem zri  {k : Nat}  (ih : ∀ i, i < k → IH B T tv pb i) : Meth B T tv pb k .returnS 343 #[.pointer (some ⟨pb, 0, none⟩)] (fun _ => .tuple #[]) := by
 intro m low kd tx W0 F0 W s q hm hlow N hr
 obtain ⟨j, rfl, H, E, G, HL, RUN⟩ := zah N hr hlow
 clear N hr hlow
 go_enter Tryz.func343, Tryz.ntmps343
 go_wp2_with fail
 replace E := ak (zbh E.out)
 refine (zat H.out (by omega)).mono ?_
 rintro e W1 ⟨rfl, N⟩
 replace H := ak N
 clear N
 go_wp2_with fail
 obtain ⟨p2, e2, d2⟩ := zu E.out
 have X2 := ak e2
 have Y2 := ak d2
 clear e2 d2 E
 refine (zbk H.out [(⟨#[59]⟩ : ByteArray)] (by simp)).mono ?_
 rintro e W4 ⟨rfl, N4⟩
 rcases zac H.out [(⟨#[59]⟩ : ByteArray)] with b3 | b3
 ·rw [b3]
  replace H := ak N4
  clear N4
  have E := ak (if_t b3 X2.out)
  clear X2 b3
  go_wp2_with fail
  refine (zeg H.out (by omega)).mono ?_
  rintro e W5 ⟨rfl, N⟩
  replace H := ak N
  clear N
  go_wp2_with fail
  have hp6 := zab E.out
  have E6 := ak (by have h := Y2.out; rw [hp6] at h; exact h)
  clear hp6 E Y2
  have E := ak (zbh E6.out)
  clear E6
  refine (zag H.out (by omega) (⟨#[59]⟩ : ByteArray)).mono ?_
  rintro e W7 ⟨rfl, N⟩
  replace H := ak N
  clear N
  go_wp2_with fail
  go_end0
  exact ⟨rfl, (zbb ⟨zaw E.out⟩ G H)⟩
 ·rw [b3]
  replace H := ak N4
  clear N4
  have E := ak (if_f b3 X2.out)
  clear X2 b3
  go_wp2_with fail
  refine (mth (ij ih).expr HL H E).mono ?_
  rintro e W8 ⟨rfl, N⟩
  replace H := ak N
  clear N
  go_wp2_with fail
  have E := ak (zbh Y2.out)
  clear Y2
  refine (zag H.out (by omega) (⟨#[59]⟩ : ByteArray)).mono ?_
  rintro e W9 ⟨rfl, N⟩
  replace H := ak N
  clear N
  go_wp2_with fail
  go_end0
  exact ⟨rfl, (zbb ⟨zaw E.out⟩ G H)⟩
theorem zld  {k : Nat}  (ih : ∀ i, i < k → IH B T tv pb i) : Meth B T tv pb k .skipToItem 145 #[.pointer (some ⟨pb, 0, none⟩)] (fun _ => .tuple #[]) := by
 intro m low kd tx W0 F0 W s q hm hlow N hr
 obtain ⟨j, rfl, H, E, G, HL, RUN⟩ := zah N hr hlow
 clear N hr hlow
 go_enter Tryz.func145, Tryz.ntmps145
 go_wp2_with fail
 obtain ⟨WB, FB, hWB, hsz, BK, B_bxp, HN, c_bxp⟩ := zeo H (.pointer (some ⟨pb, 0, none⟩)) 184
 rw [hWB]
 try rw [hsz]
 clear hsz hWB H
 obtain ⟨p1, e, d⟩ := zai E.out
 have R1 := ak e
 have D1 := ak d
 clear e d E
 refine (zba HN HL #[] #[.pointer (some ⟨W.heap.size, 0, none⟩)] zji R1 fun W1 F1 NN old => (zwl  (dn ih) (B_bxp.out.old old) (hla HL)).at NN R1).mono ?_
 rintro e W2 ⟨rfl, N⟩
 have H := ak N
 replace c_bxp := N.box B_bxp.out
 clear N HN
 go_wp2_with fail
 go_end0
 exact ⟨rfl, (BK.out _ _ _ _ _ _ (zbb D1 G H))⟩
theorem zta  {k : Nat} {bxp : Nat}  (ih : ∀ i, i < k → IH B T tv pb i) (hb_bxp : Box pb W0 F0 bxp (.pointer (some ⟨pb, 0, none⟩))) (hlow : low.length + k ≤ 10000000) : Does B T tv pb (k + 1) .whileB 342 #[.pointer (some ⟨bxp, 0, none⟩)] low kd tx W0 F0 := by
 intro i hi m W s q hm N hr
 obtain ⟨j, rfl, H, E, G, HL, RUN⟩ := zah N hr (by omega)
 replace ih : ∀ i, i < j + 1 → IH B T tv pb i := fun i h => ih i (by omega)
 have B_bxp := ak hb_bxp
 have c_bxp := N.box hb_bxp
 clear N hr hlow hb_bxp
 go_enter Tryz.func342, Tryz.ntmps342
 go_wp2_with fail
 replace E := ak (zbh E.out)
 refine (zat H.out (by omega)).mono ?_
 rintro e W1 ⟨rfl, N⟩
 replace H := ak N
 replace c_bxp := N.box B_bxp.out
 clear N
 go_wp2_with fail
 obtain ⟨p2, e, d⟩ := zu E.out
 have R := ak e
 replace E := ak (d)
 clear e d
 refine (mth (ij ih).expr HL H R).mono ?_
 rintro e W3 ⟨rfl, N⟩
 replace H := ak N
 replace c_bxp := N.box B_bxp.out
 clear N
 go_wp2_with fail
 obtain ⟨p4, e, d⟩ := zu E.out
 have R := ak e
 replace E := ak (d)
 clear e d
 refine (mth (ij ih).block HL H R).mono ?_
 rintro e W5 ⟨rfl, N⟩
 replace H := ak N
 replace c_bxp := N.box B_bxp.out
 clear N
 go_wp2_with fail
 go_end0
 exact zb2 ⟨zaw E.out⟩ H
theorem zkx  {k : Nat} {bxp : Nat}  (ih : ∀ i, i < k → IH B T tv pb i) (hb_bxp : Box pb W0 F0 bxp (.pointer (some ⟨pb, 0, none⟩))) (hlow : low.length + k ≤ 10000000) : Does B T tv pb (k + 1) .assignB 345 #[.pointer (some ⟨bxp, 0, none⟩)] low kd tx W0 F0 := by
 intro i hi m W s q hm N hr
 obtain ⟨j, rfl, H, E, G, HL, RUN⟩ := zah N hr (by omega)
 replace ih : ∀ i, i < j + 1 → IH B T tv pb i := fun i h => ih i (by omega)
 have B_bxp := ak hb_bxp
 have c_bxp := N.box hb_bxp
 clear N hr hlow hb_bxp
 go_enter Tryz.func345, Tryz.ntmps345
 go_wp2_with fail
 replace E := ak (zbh E.out)
 refine (zat H.out (by omega)).mono ?_
 rintro e W1 ⟨rfl, N⟩
 replace H := ak N
 replace c_bxp := N.box B_bxp.out
 clear N
 go_wp2_with fail
 obtain ⟨p2, e, d⟩ := zu E.out
 have R := ak e
 replace E := ak (d)
 clear e d
 refine (mth (ij ih).expr HL H R).mono ?_
 rintro e W3 ⟨rfl, N⟩
 replace H := ak N
 replace c_bxp := N.box B_bxp.out
 clear N
 go_wp2_with fail
 replace E := ak (zbh E.out)
 refine (zag H.out (by omega) (⟨#[59]⟩ : ByteArray)).mono ?_
 rintro e W4 ⟨rfl, N⟩
 replace H := ak N
 replace c_bxp := N.box B_bxp.out
 clear N
 go_wp2_with fail
 go_end0
 exact zb2 ⟨zaw E.out⟩ H
theorem zlz  {k : Nat} {bxp : Nat} {bxb : Nat}  (ih : ∀ i, i < k → IH B T tv pb i) (hb_bxp : Box pb W0 F0 bxp (.pointer (some ⟨pb, 0, none⟩))) (hb_bxb : Box pb W0 F0 bxb (.bool true)) (hlow : low.length + k ≤ 10000000) : Does B T tv pb (k + 1) (.exprStmtB true) 346 #[.pointer (some ⟨bxp, 0, none⟩), .pointer (some ⟨bxb, 0, none⟩)] low kd tx W0 F0 := by
 intro i hi m W s q hm N hr
 obtain ⟨j, rfl, H, E, G, HL, RUN⟩ := zah N hr (by omega)
 replace ih : ∀ i, i < j + 1 → IH B T tv pb i := fun i h => ih i (by omega)
 have B_bxp := ak hb_bxp
 have c_bxp := N.box hb_bxp
 have B_bxb := ak hb_bxb
 have c_bxb := N.box hb_bxb
 clear N hr hlow hb_bxp hb_bxb
 go_enter Tryz.func346, Tryz.ntmps346
 go_wp2_with fail
 refine (zbm H.out (by omega) [(⟨#[59]⟩ : ByteArray)] (by simp)).mono ?_
 rintro e W2 ⟨rfl, N2⟩
 rcases zac H.out [(⟨#[59]⟩ : ByteArray)] with b1 | b1
 ·rw [zby b1] at N2
  rw [b1]
  replace H := ak N2
  replace c_bxp := N2.box B_bxp.out
  replace c_bxb := N2.box B_bxb.out
  clear N2
  replace E := ak (if_t b1 E.out)
  clear b1
  go_wp2_with fail
  go_end0
  exact zb2 ⟨zab E.out⟩ H
 ·rw [zbz b1] at N2
  rw [b1]
  replace H := ak N2
  replace c_bxp := N2.box B_bxp.out
  replace c_bxb := N2.box B_bxb.out
  clear N2
  replace E := ak (if_f b1 E.out)
  clear b1
  go_wp2_with fail
  go_end0
  exact zb2 ⟨zab E.out⟩ H
theorem zl0  {k : Nat} {bxp : Nat} {bxb : Nat}  (ih : ∀ i, i < k → IH B T tv pb i) (hb_bxp : Box pb W0 F0 bxp (.pointer (some ⟨pb, 0, none⟩))) (hb_bxb : Box pb W0 F0 bxb (.bool false)) (hlow : low.length + k ≤ 10000000) : Does B T tv pb (k + 1) (.exprStmtB false) 346 #[.pointer (some ⟨bxp, 0, none⟩), .pointer (some ⟨bxb, 0, none⟩)] low kd tx W0 F0 := by
 intro i hi m W s q hm N hr
 obtain ⟨j, rfl, H, E, G, HL, RUN⟩ := zah N hr (by omega)
 replace ih : ∀ i, i < j + 1 → IH B T tv pb i := fun i h => ih i (by omega)
 have B_bxp := ak hb_bxp
 have c_bxp := N.box hb_bxp
 have B_bxb := ak hb_bxb
 have c_bxb := N.box hb_bxb
 clear N hr hlow hb_bxp hb_bxb
 go_enter Tryz.func346, Tryz.ntmps346
 go_wp2_with fail
 refine (zbm H.out (by omega) [(⟨#[59]⟩ : ByteArray)] (by simp)).mono ?_
 rintro e W2 ⟨rfl, N2⟩
 rcases zac H.out [(⟨#[59]⟩ : ByteArray)] with b1 | b1
 ·rw [zby b1] at N2
  rw [b1]
  replace H := ak N2
  replace c_bxp := N2.box B_bxp.out
  replace c_bxb := N2.box B_bxb.out
  clear N2
  replace E := ak (if_t b1 E.out)
  clear b1
  go_wp2_with fail
  go_end0
  exact zb2 ⟨zab E.out⟩ H
 ·rw [zbz b1] at N2
  rw [b1]
  replace H := ak N2
  replace c_bxp := N2.box B_bxp.out
  replace c_bxb := N2.box B_bxb.out
  clear N2
  replace E := ak (if_f b1 E.out)
  clear b1
  go_wp2_with fail
  refine (zpc H.out (by omega)).mono ?_
  rintro e W3 ⟨rfl, N⟩
  replace H := ak N
  replace c_bxp := N.box B_bxp.out
  replace c_bxb := N.box B_bxb.out
  clear N
  go_wp2_with fail
  go_end0
  exact zb2 ⟨zab E.out⟩ H
theorem zmo  {k : Nat}  (ih : ∀ i, i < k → IH B T tv pb i) : Meth B T tv pb k .statement 317 #[.pointer (some ⟨pb, 0, none⟩)] (fun b => .bool b) := by
 intro m low kd tx W0 F0 W s q hm hlow N hr
 obtain ⟨j, rfl, H, E, G, HL, RUN⟩ := zah N hr hlow
 clear N hr hlow
 go_enter Tryz.func317, Tryz.ntmps317
 go_wp2_with fail
 obtain ⟨WB, FB, hWB, hsz, BK, B_bxp, HN, c_bxp⟩ := zeo H (.pointer (some ⟨pb, 0, none⟩)) 184
 rw [hWB]
 try rw [hsz]
 clear hsz hWB H
 refine (zbk HN.out [(⟨#[108, 101, 116]⟩ : ByteArray)] (by simp)).mono ?_
 rintro e W2 ⟨rfl, N2⟩
 rcases zac HN.out [(⟨#[108, 101, 116]⟩ : ByteArray)] with b1 | b1
 ·rw [b1]
  have H := ak N2
  replace c_bxp := N2.box B_bxp.out
  clear N2 HN
  replace E := ak (if_t b1 E.out)
  clear b1
  go_wp2_with fail
  obtain ⟨p3, e, d⟩ := zai E.out
  have R3 := ak e
  have D3 := ak d
  clear e d E
  refine (zba H HL #[.pointer (some ⟨pb, 0, none⟩)] #[] z08 R3 fun W1 F1 NN old => zui (ij ih).letS (hla HL) NN R3).mono ?_
  rintro e W4 ⟨rfl, N⟩
  replace H := ak N
  replace c_bxp := N.box B_bxp.out
  clear N
  go_wp2_with fail
  go_ret
  obtain hq := D3.out
  have hf := G.out
  rw [hq] at hf ⊢
  exact ⟨rfl, (BK.out _ _ _ _ _ _ (H.out.fit hf))⟩
 ·rw [b1]
  have H := ak N2
  replace c_bxp := N2.box B_bxp.out
  clear N2 HN
  replace E := ak (if_f b1 E.out)
  clear b1
  go_wp2_with fail
  refine (zbk H.out [(⟨#[119, 104, 105, 108, 101]⟩ : ByteArray)] (by simp)).mono ?_
  rintro e W6 ⟨rfl, N6⟩
  rcases zac H.out [(⟨#[119, 104, 105, 108, 101]⟩ : ByteArray)] with b5 | b5
  ·rw [b5]
   replace H := ak N6
   replace c_bxp := N6.box B_bxp.out
   clear N6
   replace E := ak (if_t b5 E.out)
   clear b5
   go_wp2_with fail
   obtain ⟨p7, e, d⟩ := zai E.out
   have R7 := ak e
   have D7 := ak d
   clear e d E
   refine (zba H HL #[] #[.pointer (some ⟨W.heap.size, 0, none⟩)] zj5 R7 fun W1 F1 NN old => (zta  (dn ih) (B_bxp.out.old old) (hla HL)).at NN R7).mono ?_
   rintro e W8 ⟨rfl, N⟩
   replace H := ak N
   replace c_bxp := N.box B_bxp.out
   clear N
   go_wp2_with fail
   go_ret
   obtain hq := D7.out
   have hf := G.out
   rw [hq] at hf ⊢
   exact ⟨rfl, (BK.out _ _ _ _ _ _ (H.out.fit hf))⟩
  ·rw [b5]
   replace H := ak N6
   replace c_bxp := N6.box B_bxp.out
   clear N6
   replace E := ak (if_f b5 E.out)
   clear b5
   go_wp2_with fail
   refine (zbk H.out [(⟨#[114, 101, 116, 117, 114, 110]⟩ : ByteArray)] (by simp)).mono ?_
   rintro e W10 ⟨rfl, N10⟩
   rcases zac H.out [(⟨#[114, 101, 116, 117, 114, 110]⟩ : ByteArray)] with b9 | b9
   ·rw [b9]
    replace H := ak N10
    replace c_bxp := N10.box B_bxp.out
    clear N10
    replace E := ak (if_t b9 E.out)
    clear b9
    go_wp2_with fail
    obtain ⟨p11, e, d⟩ := zai E.out
    have R11 := ak e
    have D11 := ak d
    clear e d E
    refine (zba H HL #[.pointer (some ⟨pb, 0, none⟩)] #[] zl3 R11 fun W1 F1 NN old => zui (ij ih).returnS (hla HL) NN R11).mono ?_
    rintro e W12 ⟨rfl, N⟩
    replace H := ak N
    replace c_bxp := N.box B_bxp.out
    clear N
    go_wp2_with fail
    go_ret
    obtain hq := D11.out
    have hf := G.out
    rw [hq] at hf ⊢
    exact ⟨rfl, (BK.out _ _ _ _ _ _ (H.out.fit hf))⟩
   ·have cpos := N10.cells
    obtain ⟨n1, hn1⟩ : ∃ n1, Hid (s.1 = n1) := ⟨_, rfl⟩
    rw [show s.1 = n1 from hn1] at cpos
    have HN1 := ak (show s.1 = n1 from hn1)
    clear hn1
    rw [b9]
    replace H := ak N10
    replace c_bxp := N10.box B_bxp.out
    clear N10
    replace E := ak (if_f b9 E.out)
    clear b9
    go_wp2_with fail
    rcases zac H.out [(⟨#[105, 102]⟩ : ByteArray), (⟨#[109, 97, 116, 99, 104]⟩ : ByteArray), (⟨#[123]⟩ : ByteArray)] with b13 | b13
    ·refine (zbk H.out [(⟨#[105, 102]⟩ : ByteArray), (⟨#[109, 97, 116, 99, 104]⟩ : ByteArray), (⟨#[123]⟩ : ByteArray)] (by simp)).mono ?_
     rintro e W14 ⟨rfl, N14⟩
     rw [b13]
     have H14 := ak N14
     have c14_bxp := N14.box B_bxp.out
     clear N14 H c_bxp
     have E15 := ak (by have h := E.out; rw [b13] at h; exact h)
     clear E
     clear b13 cpos
     have ca := fun o => (World.cell?_alloc_some W14 ⟨W.heap.size, 0, none⟩ o (by rw [c14_bxp]; rfl)).trans c14_bxp
     go_wp2_with fail
     obtain ⟨WB16, FB16, hWB, hsz, BK16, O16, X16, H⟩ := zi5 H14 #[.bool true] 4
     replace B_bxp := ak (B_bxp.out.old O16.out)
     have B_bxb := ak (show Box pb WB16 FB16 W14.heap.size (.bool true) from ⟨X16.out.1, _, X16.out.2⟩)
     have c_bxp := H.out.box B_bxp.out
     have c_bxb := H.out.box B_bxb.out
     clear c14_bxp ca H14
     rw [hWB]
     try rw [hsz]
     clear hsz hWB O16 X16
     obtain ⟨p17, e17, d17⟩ := zcp E15.out
     have R17 := ak (show run T j .primary s = some p17 from e17)
     have E17 := ak d17
     clear e17 d17 E15
     refine ((ih j (by omega)).primary _ _ _ _ _ _ _ _ _ (by omega) (by have := HL.out; omega) H.out R17.out).mono ?_
     rintro e W18 ⟨rfl, N18⟩
     have cpos := N18.cells
     obtain ⟨n2, hn2⟩ : ∃ n2, Hid (p17.2.1 = n2) := ⟨_, rfl⟩
     rw [show p17.2.1 = n2 from hn2] at cpos
     have HN2 := ak (show p17.2.1 = n2 from hn2)
     have H18 := ak N18
     have c18_bxp := N18.box B_bxp.out
     have c18_bxb := N18.box B_bxb.out
     clear hn2 N18 H c_bxp c_bxb
     by_cases heq : n2 = n1
     ·have hb : ((n2 : Int) == (n1 : Int)) = true := by rw [heq]; simp
      obtain ⟨ks, t, hs, hq⟩ := zyh (if_y (by rw [HN2.out, HN1.out]; exact heq) E17.out)
      have HQ := ak hq
      obtain ⟨sb, scap, kg, kcap, o2, o4, hfz, hkc, hsp, hsl, hlw, hkl, hcut⟩ := H18.out.cut hs
      have HCUT := ak hcut
      have hfz0 := hfz (low.length * 3 + 2)
      have hl1 : IntKind.i64.wrap (((low.length : Nat) : Int) + 1 - 1) = ((low.length : Nat) : Int) := by rw [IntKind.wrap_i64]; omega
      have hl2 : IntKind.i64.wrap (((low.length + 1 : Nat) : Int) - 1) = ((low.length : Nat) : Int) := by rw [IntKind.wrap_i64]; omega
      have hl3 : IntKind.i64.wrap ((low.length : Nat) : Int) = ((low.length : Nat) : Int) := by rw [IntKind.wrap_i64]; omega
      have hk1 : IntKind.i64.wrap (((ks.length : Nat) : Int) + 1 - 1) = ((ks.length : Nat) : Int) := by rw [IntKind.wrap_i64]; omega
      have hk2 : IntKind.i64.wrap (((ks.length + 1 : Nat) : Int) - 1) = ((ks.length : Nat) : Int) := by rw [IntKind.wrap_i64]; omega
      have hk3 : IntKind.i64.wrap ((ks.length : Nat) : Int) = ((ks.length : Nat) : Int) := by rw [IntKind.wrap_i64]; omega
      have i0 : (0 : Int) ≤ ((low.length : Nat) : Int) := by omega
      have i1 : ((low.length : Nat) : Int) < ((low.length + 1 : Nat) : Int) := by omega
      have i2 : ((low.length : Nat) : Int) < ((low.length : Nat) : Int) + 1 := by omega
      have j0 : (0 : Int) ≤ ((ks.length : Nat) : Int) := by omega
      have j1 : ((ks.length : Nat) : Int) < ((ks.length + 1 : Nat) : Int) := by omega
      have j2 : ((ks.length : Nat) : Int) < ((ks.length : Nat) : Int) + 1 := by omega
      have j3 : ((ks.length : Nat) : Int) ≤ (kcap : Int) := by omega
      clear hs hq hcut hfz heq hkc hsp hsl hlw hkl E17
      go_wp2_with fail
      go_region_held3 (fun w' => w'.cell? ⟨pb, 2, none⟩ = some (.slice (some ⟨sb, 0, none⟩) (low.length + 1) scap) ∧ w'.cell? ⟨W.heap.size, 0, none⟩ = some (.pointer (some ⟨pb, 0, none⟩))) (first | exact ⟨o2, c18_bxp⟩) (fail)
      go_wp2_with fail
      obtain ⟨W91, hW91⟩ : ∃ W91, W18.drew = W91 := ⟨_, rfl⟩
      have u4 : W91.cell? ⟨sb, low.length * 3 + 2, none⟩ = some (.slice (some ⟨kg, 0, none⟩) (ks.length + 1) kcap) := by rw [← hW91]; exact o4
      have u5 : W91.frozen? ⟨sb, low.length * 3 + 2, none⟩ = false := by rw [← hW91]; exact hfz0
      have u6 : W91.cell? ⟨W.heap.size, 0, none⟩ = some (.pointer (some ⟨pb, 0, none⟩)) := by rw [← hW91]; exact c18_bxp
      have HCUT2 := ak (fun W9 (h1 : W9.os = W91.os) (h2 : W9.tape = W91.tape) (h3 : W9.output = W91.output) (h4 : W9.heap = (W91.setCell ⟨sb, low.length * 3 + 2, none⟩ (.slice (some ⟨kg, 0, none⟩) ks.length kcap)).heap) => HCUT.out W9 (by rw [h1, ← hW91]; rfl) (by rw [h2, ← hW91]; rfl) (by rw [h3, ← hW91]; rfl) (by rw [h4, ← hW91]; rfl))
      rw [hW91]
      clear hW91 o2 o4 hfz0 c18_bxp c18_bxb cpos
      go_still_tail 14, (by kernel_rfl)
      change wpList _ _ _ _ _ W91.drew
      go_wp2_with fail
      have H90 := ak (HCUT2.out ((W91.setCell ⟨sb, low.length * 3 + 2, none⟩ (.slice (some ⟨kg, 0, none⟩) ks.length kcap)).drew) rfl rfl rfl rfl)
      refine (zis H90.out (by omega) (by have := HL.out; omega)).mono ?_
      rintro e W19 ⟨rfl, N19⟩
      have H19 := ak N19
      clear N19
      go_wp2_with fail
      go_ret
      obtain hq := HQ.out
      have hf := G.out
      rw [hq] at hf ⊢
      exact ⟨rfl, (BK.out _ _ _ _ _ _ (BK16.out _ _ _ _ _ _ (H19.out.fit hf)))⟩
     ·have hb : ((n2 : Int) == (n1 : Int)) = false := beq_eq_false_iff_ne.2 (by omega)
      have E20 := ak (if_n (by rw [HN2.out, HN1.out]; exact heq) E17.out)
      clear E17
      clear heq
      go_wp2_with fail
      refine (zbk H18.out [(⟨#[125]⟩ : ByteArray)] (by simp)).mono ?_
      rintro e W22 ⟨rfl, N22⟩
      rcases zac H18.out [(⟨#[125]⟩ : ByteArray)] with b21 | b21
      ·rw [b21]
       have H := ak N22
       have c_bxp := N22.box B_bxp.out
       have c_bxb := N22.box B_bxb.out
       clear c18_bxp c18_bxb cpos N22 H18
       have E := ak (if_t b21 E20.out)
       clear E20 b21
       go_wp2_with fail
       go_ret
       obtain hq := zab E.out
       have hf := G.out
       rw [hq] at hf ⊢
       exact ⟨rfl, (BK.out _ _ _ _ _ _ (BK16.out _ _ _ _ _ _ (H.out.fit hf)))⟩
      ·rw [b21]
       have H := ak N22
       have c_bxp := N22.box B_bxp.out
       have c_bxb := N22.box B_bxb.out
       clear c18_bxp c18_bxb cpos N22 H18
       have E := ak (if_f b21 E20.out)
       clear E20 b21
       go_wp2_with fail
       refine (zbk H.out [(⟨#[61]⟩ : ByteArray)] (by simp)).mono ?_
       rintro e W24 ⟨rfl, N24⟩
       rcases zac H.out [(⟨#[61]⟩ : ByteArray)] with b23 | b23
       ·rw [b23]
        replace H := ak N24
        replace c_bxp := N24.box B_bxp.out
        replace c_bxb := N24.box B_bxb.out
        clear N24
        replace E := ak (if_t b23 E.out)
        clear b23
        go_wp2_with fail
        obtain ⟨ks25, t25, p25, s25, e25, d25⟩ := zdi E.out
        have R25 := ak e25
        have D25 := ak d25
        have S25 := ak s25
        clear e25 d25 s25 E
        refine (zmf H S25 HL #[] #[.pointer (some ⟨W.heap.size, 0, none⟩)] zgd R25 fun W1 F1 NN old => (zkx  (dn ih) (B_bxp.out.old old) (hla HL)).at NN R25).mono ?_
        rintro e W26 ⟨rfl, N⟩
        replace H := ak N
        replace c_bxp := N.box B_bxp.out
        replace c_bxb := N.box B_bxb.out
        clear N
        go_wp2_with fail
        go_ret
        obtain hq := D25.out
        have hf := G.out
        rw [hq] at hf ⊢
        exact ⟨rfl, (BK.out _ _ _ _ _ _ (BK16.out _ _ _ _ _ _ (H.out.fit hf)))⟩
       ·rw [b23]
        replace H := ak N24
        replace c_bxp := N24.box B_bxp.out
        replace c_bxb := N24.box B_bxb.out
        clear N24
        replace E := ak (if_f b23 E.out)
        clear b23
        go_wp2_with fail
        obtain ⟨ks27, t27, p27, s27, e27, d27⟩ := zdi E.out
        have R27 := ak e27
        have D27 := ak d27
        have S27 := ak s27
        clear e27 d27 s27 E
        refine (zmf H S27 HL #[] #[.pointer (some ⟨W.heap.size, 0, none⟩), .pointer (some ⟨W14.heap.size, 0, none⟩)] zgc R27 fun W1 F1 NN old => (zlz  (dn ih) (B_bxp.out.old old) (B_bxb.out.old old) (hla HL)).at NN R27).mono ?_
        rintro e W28 ⟨rfl, N⟩
        replace H := ak N
        replace c_bxp := N.box B_bxp.out
        replace c_bxb := N.box B_bxb.out
        clear N
        go_wp2_with fail
        go_ret
        obtain hq := D27.out
        have hf := G.out
        rw [hq] at hf ⊢
        exact ⟨rfl, (BK.out _ _ _ _ _ _ (BK16.out _ _ _ _ _ _ (H.out.fit hf)))⟩
    ·refine (zbk H.out [(⟨#[105, 102]⟩ : ByteArray), (⟨#[109, 97, 116, 99, 104]⟩ : ByteArray), (⟨#[123]⟩ : ByteArray)] (by simp)).mono ?_
     rintro e W29 ⟨rfl, N29⟩
     rw [b13]
     have H29 := ak N29
     have c29_bxp := N29.box B_bxp.out
     clear N29 H c_bxp
     have E30 := ak (by have h := E.out; rw [b13] at h; exact h)
     clear E
     clear b13 cpos
     have ca := fun o => (World.cell?_alloc_some W29 ⟨W.heap.size, 0, none⟩ o (by rw [c29_bxp]; rfl)).trans c29_bxp
     go_wp2_with fail
     obtain ⟨WB31, FB31, hWB, hsz, BK31, O31, X31, H⟩ := zi5 H29 #[.bool false] 4
     replace B_bxp := ak (B_bxp.out.old O31.out)
     have B_bxb := ak (show Box pb WB31 FB31 W29.heap.size (.bool false) from ⟨X31.out.1, _, X31.out.2⟩)
     have c_bxp := H.out.box B_bxp.out
     have c_bxb := H.out.box B_bxb.out
     clear c29_bxp ca H29
     rw [hWB]
     try rw [hsz]
     clear hsz hWB O31 X31
     obtain ⟨p32, e32, d32⟩ := zcp E30.out
     have R32 := ak (show run T j .expr s = some p32 from e32)
     have E32 := ak d32
     clear e32 d32 E30
     refine ((ih j (by omega)).expr _ _ _ _ _ _ _ _ _ (by omega) (by have := HL.out; omega) H.out R32.out).mono ?_
     rintro e W33 ⟨rfl, N33⟩
     have cpos := N33.cells
     obtain ⟨n2, hn2⟩ : ∃ n2, Hid (p32.2.1 = n2) := ⟨_, rfl⟩
     rw [show p32.2.1 = n2 from hn2] at cpos
     have HN2 := ak (show p32.2.1 = n2 from hn2)
     have H33 := ak N33
     have c33_bxp := N33.box B_bxp.out
     have c33_bxb := N33.box B_bxb.out
     clear hn2 N33 H c_bxp c_bxb
     by_cases heq : n2 = n1
     ·have hb : ((n2 : Int) == (n1 : Int)) = true := by rw [heq]; simp
      obtain ⟨ks, t, hs, hq⟩ := zyh (if_y (by rw [HN2.out, HN1.out]; exact heq) E32.out)
      have HQ := ak hq
      obtain ⟨sb, scap, kg, kcap, o2, o4, hfz, hkc, hsp, hsl, hlw, hkl, hcut⟩ := H33.out.cut hs
      have HCUT := ak hcut
      have hfz0 := hfz (low.length * 3 + 2)
      have hl1 : IntKind.i64.wrap (((low.length : Nat) : Int) + 1 - 1) = ((low.length : Nat) : Int) := by rw [IntKind.wrap_i64]; omega
      have hl2 : IntKind.i64.wrap (((low.length + 1 : Nat) : Int) - 1) = ((low.length : Nat) : Int) := by rw [IntKind.wrap_i64]; omega
      have hl3 : IntKind.i64.wrap ((low.length : Nat) : Int) = ((low.length : Nat) : Int) := by rw [IntKind.wrap_i64]; omega
      have hk1 : IntKind.i64.wrap (((ks.length : Nat) : Int) + 1 - 1) = ((ks.length : Nat) : Int) := by rw [IntKind.wrap_i64]; omega
      have hk2 : IntKind.i64.wrap (((ks.length + 1 : Nat) : Int) - 1) = ((ks.length : Nat) : Int) := by rw [IntKind.wrap_i64]; omega
      have hk3 : IntKind.i64.wrap ((ks.length : Nat) : Int) = ((ks.length : Nat) : Int) := by rw [IntKind.wrap_i64]; omega
      have i0 : (0 : Int) ≤ ((low.length : Nat) : Int) := by omega
      have i1 : ((low.length : Nat) : Int) < ((low.length + 1 : Nat) : Int) := by omega
      have i2 : ((low.length : Nat) : Int) < ((low.length : Nat) : Int) + 1 := by omega
      have j0 : (0 : Int) ≤ ((ks.length : Nat) : Int) := by omega
      have j1 : ((ks.length : Nat) : Int) < ((ks.length + 1 : Nat) : Int) := by omega
      have j2 : ((ks.length : Nat) : Int) < ((ks.length : Nat) : Int) + 1 := by omega
      have j3 : ((ks.length : Nat) : Int) ≤ (kcap : Int) := by omega
      clear hs hq hcut hfz heq hkc hsp hsl hlw hkl E32
      go_wp2_with fail
      go_region_held3 (fun w' => w'.cell? ⟨pb, 2, none⟩ = some (.slice (some ⟨sb, 0, none⟩) (low.length + 1) scap) ∧ w'.cell? ⟨W.heap.size, 0, none⟩ = some (.pointer (some ⟨pb, 0, none⟩))) (first | exact ⟨o2, c33_bxp⟩) (fail)
      go_wp2_with fail
      obtain ⟨W91, hW91⟩ : ∃ W91, W33.drew = W91 := ⟨_, rfl⟩
      have u4 : W91.cell? ⟨sb, low.length * 3 + 2, none⟩ = some (.slice (some ⟨kg, 0, none⟩) (ks.length + 1) kcap) := by rw [← hW91]; exact o4
      have u5 : W91.frozen? ⟨sb, low.length * 3 + 2, none⟩ = false := by rw [← hW91]; exact hfz0
      have u6 : W91.cell? ⟨W.heap.size, 0, none⟩ = some (.pointer (some ⟨pb, 0, none⟩)) := by rw [← hW91]; exact c33_bxp
      have HCUT2 := ak (fun W9 (h1 : W9.os = W91.os) (h2 : W9.tape = W91.tape) (h3 : W9.output = W91.output) (h4 : W9.heap = (W91.setCell ⟨sb, low.length * 3 + 2, none⟩ (.slice (some ⟨kg, 0, none⟩) ks.length kcap)).heap) => HCUT.out W9 (by rw [h1, ← hW91]; rfl) (by rw [h2, ← hW91]; rfl) (by rw [h3, ← hW91]; rfl) (by rw [h4, ← hW91]; rfl))
      rw [hW91]
      clear hW91 o2 o4 hfz0 c33_bxp c33_bxb cpos
      go_still_tail 14, (by kernel_rfl)
      change wpList _ _ _ _ _ W91.drew
      go_wp2_with fail
      have H90 := ak (HCUT2.out ((W91.setCell ⟨sb, low.length * 3 + 2, none⟩ (.slice (some ⟨kg, 0, none⟩) ks.length kcap)).drew) rfl rfl rfl rfl)
      refine (zis H90.out (by omega) (by have := HL.out; omega)).mono ?_
      rintro e W34 ⟨rfl, N34⟩
      have H34 := ak N34
      clear N34
      go_wp2_with fail
      go_ret
      obtain hq := HQ.out
      have hf := G.out
      rw [hq] at hf ⊢
      exact ⟨rfl, (BK.out _ _ _ _ _ _ (BK31.out _ _ _ _ _ _ (H34.out.fit hf)))⟩
     ·have hb : ((n2 : Int) == (n1 : Int)) = false := beq_eq_false_iff_ne.2 (by omega)
      have E35 := ak (if_n (by rw [HN2.out, HN1.out]; exact heq) E32.out)
      clear E32
      clear heq
      go_wp2_with fail
      refine (zbk H33.out [(⟨#[125]⟩ : ByteArray)] (by simp)).mono ?_
      rintro e W37 ⟨rfl, N37⟩
      rcases zac H33.out [(⟨#[125]⟩ : ByteArray)] with b36 | b36
      ·rw [b36]
       have H := ak N37
       have c_bxp := N37.box B_bxp.out
       have c_bxb := N37.box B_bxb.out
       clear c33_bxp c33_bxb cpos N37 H33
       have E := ak (if_t b36 E35.out)
       clear E35 b36
       go_wp2_with fail
       go_ret
       obtain hq := zab E.out
       have hf := G.out
       rw [hq] at hf ⊢
       exact ⟨rfl, (BK.out _ _ _ _ _ _ (BK31.out _ _ _ _ _ _ (H.out.fit hf)))⟩
      ·rw [b36]
       have H := ak N37
       have c_bxp := N37.box B_bxp.out
       have c_bxb := N37.box B_bxb.out
       clear c33_bxp c33_bxb cpos N37 H33
       have E := ak (if_f b36 E35.out)
       clear E35 b36
       go_wp2_with fail
       refine (zbk H.out [(⟨#[61]⟩ : ByteArray)] (by simp)).mono ?_
       rintro e W39 ⟨rfl, N39⟩
       rcases zac H.out [(⟨#[61]⟩ : ByteArray)] with b38 | b38
       ·rw [b38]
        replace H := ak N39
        replace c_bxp := N39.box B_bxp.out
        replace c_bxb := N39.box B_bxb.out
        clear N39
        replace E := ak (if_t b38 E.out)
        clear b38
        go_wp2_with fail
        obtain ⟨ks40, t40, p40, s40, e40, d40⟩ := zdi E.out
        have R40 := ak e40
        have D40 := ak d40
        have S40 := ak s40
        clear e40 d40 s40 E
        refine (zmf H S40 HL #[] #[.pointer (some ⟨W.heap.size, 0, none⟩)] zgd R40 fun W1 F1 NN old => (zkx  (dn ih) (B_bxp.out.old old) (hla HL)).at NN R40).mono ?_
        rintro e W41 ⟨rfl, N⟩
        replace H := ak N
        replace c_bxp := N.box B_bxp.out
        replace c_bxb := N.box B_bxb.out
        clear N
        go_wp2_with fail
        go_ret
        obtain hq := D40.out
        have hf := G.out
        rw [hq] at hf ⊢
        exact ⟨rfl, (BK.out _ _ _ _ _ _ (BK31.out _ _ _ _ _ _ (H.out.fit hf)))⟩
       ·rw [b38]
        replace H := ak N39
        replace c_bxp := N39.box B_bxp.out
        replace c_bxb := N39.box B_bxb.out
        clear N39
        replace E := ak (if_f b38 E.out)
        clear b38
        go_wp2_with fail
        obtain ⟨ks42, t42, p42, s42, e42, d42⟩ := zdi E.out
        have R42 := ak e42
        have D42 := ak d42
        have S42 := ak s42
        clear e42 d42 s42 E
        refine (zmf H S42 HL #[] #[.pointer (some ⟨W.heap.size, 0, none⟩), .pointer (some ⟨W29.heap.size, 0, none⟩)] zgc R42 fun W1 F1 NN old => (zl0  (dn ih) (B_bxp.out.old old) (B_bxb.out.old old) (hla HL)).at NN R42).mono ?_
        rintro e W43 ⟨rfl, N⟩
        replace H := ak N
        replace c_bxp := N.box B_bxp.out
        replace c_bxb := N.box B_bxb.out
        clear N
        go_wp2_with fail
        go_ret
        obtain hq := D42.out
        have hf := G.out
        rw [hq] at hf ⊢
        exact ⟨rfl, (BK.out _ _ _ _ _ _ (BK31.out _ _ _ _ _ _ (H.out.fit hf)))⟩
theorem zxk  {k : Nat} {bxp : Nat}  (ih : ∀ i, i < k → IH B T tv pb i) (hb_bxp : Box pb W0 F0 bxp (.pointer (some ⟨pb, 0, none⟩))) (hlow : low.length + k ≤ 10000000) : Does B T tv pb (k + 1) .initB 378 #[.pointer (some ⟨bxp, 0, none⟩)] low kd tx W0 F0 := by
 intro i hi m W s q hm N hr
 obtain ⟨j, rfl, H, E, G, HL, RUN⟩ := zah N hr (by omega)
 replace ih : ∀ i, i < j + 1 → IH B T tv pb i := fun i h => ih i (by omega)
 have B_bxp := ak hb_bxp
 have c_bxp := N.box hb_bxp
 clear N hr hlow hb_bxp
 go_enter Tryz.func378, Tryz.ntmps378
 go_wp2_with fail
 replace E := ak (zbh E.out)
 refine (zat H.out (by omega)).mono ?_
 rintro e W1 ⟨rfl, N⟩
 replace H := ak N
 replace c_bxp := N.box B_bxp.out
 clear N
 go_wp2_with fail
 replace E := ak (zbh E.out)
 refine (zag H.out (by omega) (⟨#[58]⟩ : ByteArray)).mono ?_
 rintro e W2 ⟨rfl, N⟩
 replace H := ak N
 replace c_bxp := N.box B_bxp.out
 clear N
 go_wp2_with fail
 obtain ⟨p3, e, d⟩ := zu E.out
 have R := ak e
 replace E := ak (d)
 clear e d
 refine (mth (ij ih).expr HL H R).mono ?_
 rintro e W4 ⟨rfl, N⟩
 replace H := ak N
 replace c_bxp := N.box B_bxp.out
 clear N
 go_wp2_with fail
 go_end0
 exact zb2 ⟨zaw E.out⟩ H
theorem zxi  {k : Nat} {bxp : Nat}  (ih : ∀ i, i < k → IH B T tv pb i) (hb_bxp : Box pb W0 F0 bxp (.pointer (some ⟨pb, 0, none⟩))) (hlow : low.length + k ≤ 10000000) : Does B T tv pb (k + 1) .initE 377 #[.pointer (some ⟨bxp, 0, none⟩)] low kd tx W0 F0 := by
 intro i hi m W s q hm N hr
 obtain ⟨j, rfl, H, E, G, HL, RUN⟩ := zah N hr (by omega)
 replace ih : ∀ i, i < j + 1 → IH B T tv pb i := fun i h => ih i (by omega)
 have B_bxp := ak hb_bxp
 have c_bxp := N.box hb_bxp
 clear N hr hlow hb_bxp
 go_enter Tryz.func377, Tryz.ntmps377
 go_wp2_with fail
 refine (za4 H.out).mono ?_
 rintro e W2 ⟨rfl, N2⟩
 rcases zbv H.out with b1 | b1
 ·rw [b1]
  replace H := ak N2
  replace c_bxp := N2.box B_bxp.out
  clear N2
  replace E := ak (if_t b1 E.out)
  clear b1
  go_wp2_with fail
  obtain ⟨p3, e, d⟩ := zai E.out
  have R3 := ak e
  have D3 := ak d
  clear e d E
  refine (zba H HL #[] #[.pointer (some ⟨bxp, 0, none⟩)] zig R3 fun W1 F1 NN old => (zxk  (dn ih) (B_bxp.out.old old) (hla HL)).at NN R3).mono ?_
  rintro e W4 ⟨rfl, N⟩
  replace H := ak N
  replace c_bxp := N.box B_bxp.out
  clear N
  go_wp2_with fail
  go_end0
  exact zb2 D3 H
 ·rw [b1]
  replace H := ak N2
  replace c_bxp := N2.box B_bxp.out
  clear N2
  replace E := ak (if_f b1 E.out)
  clear b1
  go_wp2_with fail
  go_end0
  exact zb2 ⟨zab E.out⟩ H
theorem zra  {k : Nat}  (ih : ∀ i, i < k → IH B T tv pb i) : Meth B T tv pb k .structS 362 #[.pointer (some ⟨pb, 0, none⟩)] (fun _ => .tuple #[]) := by
 intro m low kd tx W0 F0 W s q hm hlow N hr
 obtain ⟨j, rfl, H, E, G, HL, RUN⟩ := zah N hr hlow
 clear N hr hlow
 go_enter Tryz.func362, Tryz.ntmps362
 go_wp2_with fail
 obtain ⟨WB, FB, hWB, hsz, BK, B_bxp, HN, c_bxp⟩ := zeo H (.pointer (some ⟨pb, 0, none⟩)) 184
 rw [hWB]
 try rw [hsz]
 clear hsz hWB H
 replace E := ak (zbh E.out)
 refine (zat HN.out (by omega)).mono ?_
 rintro e W1 ⟨rfl, N⟩
 have H := ak N
 replace c_bxp := N.box B_bxp.out
 clear N HN
 go_wp2_with fail
 obtain ⟨p2, e, d⟩ := zu E.out
 have R := ak e
 replace E := ak (d)
 clear e d
 refine (mth ((ij ih).path false) HL H R).mono ?_
 rintro e W3 ⟨rfl, N⟩
 replace H := ak N
 replace c_bxp := N.box B_bxp.out
 clear N
 go_wp2_with fail
 replace E := ak (zbh E.out)
 refine (zag H.out (by omega) (⟨#[123]⟩ : ByteArray)).mono ?_
 rintro e W4 ⟨rfl, N⟩
 replace H := ak N
 replace c_bxp := N.box B_bxp.out
 clear N
 go_wp2_with fail
 obtain ⟨p5, e, d⟩ := zu E.out
 have R := ak e
 replace E := ak (d)
 clear e d
 refine (zdm 377 #[] #[.pointer (some ⟨W.heap.size, 0, none⟩)] zj4 (by have := HL.out; omega) ((zxi  (dn ih) B_bxp.out (hl_ HL)).mono (by omega)) H.out R.out).mono ?_
 rintro e W6 ⟨rfl, N⟩
 replace H := ak N
 replace c_bxp := N.box B_bxp.out
 clear N
 go_wp2_with fail
 go_end0
 exact ⟨rfl, (BK.out _ _ _ _ _ _ (zbb ⟨zaw E.out⟩ G H))⟩
theorem zy6  {k : Nat} {bxp : Nat}  (ih : ∀ i, i < k → IH B T tv pb i) (hb_bxp : Box pb W0 F0 bxp (.pointer (some ⟨pb, 0, none⟩))) (hlow : low.length + k ≤ 10000000) : Does B T tv pb (k + 1) .refB 285 #[.pointer (some ⟨bxp, 0, none⟩)] low kd tx W0 F0 := by
 intro i hi m W s q hm N hr
 obtain ⟨j, rfl, H, E, G, HL, RUN⟩ := zah N hr (by omega)
 replace ih : ∀ i, i < j + 1 → IH B T tv pb i := fun i h => ih i (by omega)
 have B_bxp := ak hb_bxp
 have c_bxp := N.box hb_bxp
 clear N hr hlow hb_bxp
 go_enter Tryz.func285, Tryz.ntmps285
 go_wp2_with fail
 replace E := ak (zbh E.out)
 refine (zat H.out (by omega)).mono ?_
 rintro e W1 ⟨rfl, N⟩
 replace H := ak N
 replace c_bxp := N.box B_bxp.out
 clear N
 go_wp2_with fail
 replace E := ak (zbh E.out)
 refine (zbm H.out (by omega) [(⟨#[109, 117, 116]⟩ : ByteArray)] (by simp)).mono ?_
 rintro e W2 ⟨rfl, N⟩
 replace H := ak N
 replace c_bxp := N.box B_bxp.out
 clear N
 go_wp2_with fail
 obtain ⟨p3, e, d⟩ := zu E.out
 have R := ak e
 replace E := ak (d)
 clear e d
 refine (mth (ij ih).typeExpr HL H R).mono ?_
 rintro e W4 ⟨rfl, N⟩
 replace H := ak N
 replace c_bxp := N.box B_bxp.out
 clear N
 go_wp2_with fail
 go_end0
 exact zb2 ⟨zaw E.out⟩ H
theorem zno  {k : Nat} {bxp : Nat}  (ih : ∀ i, i < k → IH B T tv pb i) (hb_bxp : Box pb W0 F0 bxp (.pointer (some ⟨pb, 0, none⟩))) (hlow : low.length + k ≤ 10000000) : Does B T tv pb (k + 1) .funcTypeB 286 #[.pointer (some ⟨bxp, 0, none⟩)] low kd tx W0 F0 := by
 intro i hi m W s q hm N hr
 obtain ⟨j, rfl, H, E, G, HL, RUN⟩ := zah N hr (by omega)
 replace ih : ∀ i, i < j + 1 → IH B T tv pb i := fun i h => ih i (by omega)
 have B_bxp := ak hb_bxp
 have c_bxp := N.box hb_bxp
 clear N hr hlow hb_bxp
 go_enter Tryz.func286, Tryz.ntmps286
 go_wp2_with fail
 replace E := ak (zbh E.out)
 refine (zat H.out (by omega)).mono ?_
 rintro e W1 ⟨rfl, N⟩
 replace H := ak N
 replace c_bxp := N.box B_bxp.out
 clear N
 go_wp2_with fail
 replace E := ak (zbh E.out)
 refine (zag H.out (by omega) (⟨#[40]⟩ : ByteArray)).mono ?_
 rintro e W2 ⟨rfl, N⟩
 replace H := ak N
 replace c_bxp := N.box B_bxp.out
 clear N
 go_wp2_with fail
 obtain ⟨p3, e, d⟩ := zu E.out
 have R := ak e
 replace E := ak (d)
 clear e d
 refine (zdm 229 #[.pointer (some ⟨pb, 0, none⟩)] #[] zco (by have := HL.out; omega) (Meth.does (k := j) (fun i hi => (ih i (by omega)).typeExpr) (by have := HL.out; omega) (Nat.le_refl _)) H.out R.out).mono ?_
 rintro e W4 ⟨rfl, N⟩
 replace H := ak N
 replace c_bxp := N.box B_bxp.out
 clear N
 go_wp2_with fail
 obtain ⟨p5, e, d⟩ := zu E.out
 have R := ak e
 replace E := ak (d)
 clear e d
 refine (zgi 229 #[.pointer (some ⟨pb, 0, none⟩)] #[] zco (Meth.does (k := j) (fun i hi => (ih i (by omega)).typeExpr) (by have := HL.out; omega) (Nat.le_refl _)) H.out R.out).mono ?_
 rintro e W6 ⟨rfl, N⟩
 replace H := ak N
 replace c_bxp := N.box B_bxp.out
 clear N
 go_wp2_with fail
 go_end0
 exact zb2 ⟨zaw E.out⟩ H
theorem zow  {k : Nat}  (ih : ∀ i, i < k → IH B T tv pb i) : Meth B T tv pb k .typeExpr 229 #[.pointer (some ⟨pb, 0, none⟩)] (fun _ => .tuple #[]) := by
 intro m low kd tx W0 F0 W s q hm hlow N hr
 obtain ⟨j, rfl, H, E, G, HL, RUN⟩ := zah N hr hlow
 clear N hr hlow
 go_enter Tryz.func229, Tryz.ntmps229
 go_wp2_with fail
 obtain ⟨WB, FB, hWB, hsz, BK, B_bxp, HN, c_bxp⟩ := zeo H (.pointer (some ⟨pb, 0, none⟩)) 184
 rw [hWB]
 try rw [hsz]
 clear hsz hWB H
 refine (zbk HN.out [(⟨#[38]⟩ : ByteArray)] (by simp)).mono ?_
 rintro e W2 ⟨rfl, N2⟩
 rcases zac HN.out [(⟨#[38]⟩ : ByteArray)] with b1 | b1
 ·rw [b1]
  have H := ak N2
  replace c_bxp := N2.box B_bxp.out
  clear N2 HN
  replace E := ak (if_t b1 E.out)
  clear b1
  go_wp2_with fail
  obtain ⟨p3, e, d⟩ := zai E.out
  have R3 := ak e
  have D3 := ak d
  clear e d E
  refine (zba H HL #[] #[.pointer (some ⟨W.heap.size, 0, none⟩)] zl2 R3 fun W1 F1 NN old => (zy6  (dn ih) (B_bxp.out.old old) (hla HL)).at NN R3).mono ?_
  rintro e W4 ⟨rfl, N⟩
  replace H := ak N
  replace c_bxp := N.box B_bxp.out
  clear N
  go_wp2_with fail
  go_end0
  exact ⟨rfl, (BK.out _ _ _ _ _ _ (zbb D3 G H))⟩
 ·rw [b1]
  have H := ak N2
  replace c_bxp := N2.box B_bxp.out
  clear N2 HN
  replace E := ak (if_f b1 E.out)
  clear b1
  go_wp2_with fail
  refine (zbk H.out [(⟨#[102, 110]⟩ : ByteArray)] (by simp)).mono ?_
  rintro e W6 ⟨rfl, N6⟩
  rcases zac H.out [(⟨#[102, 110]⟩ : ByteArray)] with b5 | b5
  ·rw [b5]
   replace H := ak N6
   replace c_bxp := N6.box B_bxp.out
   clear N6
   replace E := ak (if_t b5 E.out)
   clear b5
   go_wp2_with fail
   obtain ⟨p7, e, d⟩ := zai E.out
   have R7 := ak e
   have D7 := ak d
   clear e d E
   refine (zba H HL #[] #[.pointer (some ⟨W.heap.size, 0, none⟩)] zl1 R7 fun W1 F1 NN old => (zno  (dn ih) (B_bxp.out.old old) (hla HL)).at NN R7).mono ?_
   rintro e W8 ⟨rfl, N⟩
   replace H := ak N
   replace c_bxp := N.box B_bxp.out
   clear N
   go_wp2_with fail
   go_end0
   exact ⟨rfl, (BK.out _ _ _ _ _ _ (zbb D7 G H))⟩
  ·rw [b5]
   replace H := ak N6
   replace c_bxp := N6.box B_bxp.out
   clear N6
   replace E := ak (if_f b5 E.out)
   clear b5
   go_wp2_with fail
   refine (za4 H.out).mono ?_
   rintro e W10 ⟨rfl, N10⟩
   rcases zbv H.out with b9 | b9
   ·rw [b9]
    replace H := ak N10
    replace c_bxp := N10.box B_bxp.out
    clear N10
    replace E := ak (if_t b9 E.out)
    clear b9
    go_wp2_with fail
    refine (mth ((ij ih).path true) HL H E).mono ?_
    rintro e W11 ⟨rfl, N⟩
    replace H := ak N
    replace c_bxp := N.box B_bxp.out
    clear N
    go_wp2_with fail
    go_end0
    exact ⟨rfl, (BK.out _ _ _ _ _ _ H.out)⟩
   ·rw [b9]
    replace H := ak N10
    replace c_bxp := N10.box B_bxp.out
    clear N10
    replace E := ak (if_f b9 E.out)
    clear b9
    go_wp2_with fail
    refine (zde H.out (by omega)).mono ?_
    rintro e W12 ⟨rfl, N⟩
    replace H := ak N
    replace c_bxp := N.box B_bxp.out
    clear N
    go_wp2_with fail
    go_end0
    exact ⟨rfl, (BK.out _ _ _ _ _ _ (zbb ⟨zab E.out⟩ G H))⟩
theorem zk8  {k : Nat} {bxp : Nat}  (ih : ∀ i, i < k → IH B T tv pb i) (hb_bxp : Box pb W0 F0 bxp (.pointer (some ⟨pb, 0, none⟩))) (hlow : low.length + k ≤ 10000000) : Does B T tv pb (k + 1) .typeParamB 340 #[.pointer (some ⟨bxp, 0, none⟩)] low kd tx W0 F0 := by
 intro i hi m W s q hm N hr
 obtain ⟨j, rfl, H, E, G, HL, RUN⟩ := zah N hr (by omega)
 replace ih : ∀ i, i < j + 1 → IH B T tv pb i := fun i h => ih i (by omega)
 have B_bxp := ak hb_bxp
 have c_bxp := N.box hb_bxp
 clear N hr hlow hb_bxp
 go_enter Tryz.func340, Tryz.ntmps340
 go_wp2_with fail
 refine (zat H.out (by omega)).mono ?_
 rintro e W1 ⟨rfl, N⟩
 replace H := ak N
 replace c_bxp := N.box B_bxp.out
 clear N
 go_wp2_with fail
 refine (zbm H.out (by omega) [(⟨#[58]⟩ : ByteArray)] (by simp)).mono ?_
 rintro e W3 ⟨rfl, N3⟩
 rcases zac H.out [(⟨#[58]⟩ : ByteArray)] with b2 | b2
 ·rw [zby b2] at N3
  rw [b2]
  replace H := ak N3
  replace c_bxp := N3.box B_bxp.out
  clear N3
  replace E := ak (if_t b2 E.out)
  clear b2
  go_wp2_with fail
  obtain ⟨p4, e, d⟩ := zu E.out
  have R := ak e
  replace E := ak (d)
  clear e d
  refine (mth ((ij ih).path true) HL H R).mono ?_
  rintro e W5 ⟨rfl, N⟩
  replace H := ak N
  replace c_bxp := N.box B_bxp.out
  clear N
  go_wp2_with fail
  obtain ⟨p6, e6, d6⟩ := zu E.out
  have L6 := ak e6
  have Y6 := ak d6
  clear e6 d6 E
  go_loopg [] j (fun g wr => ∃ pl s1, Now B T tv pb 10000000 low kd tx W0 F0 wr s1 ∧ run T g .boundLoop s1 = some pl ∧ pl.2 = p6.2 ∧ g ≤ j)
  case atStart =>
   obtain ⟨_, _, g1, _, _⟩ := zad L6.out
   exact ⟨_, _, H.out.fit g1, L6.out, rfl, Nat.le_refl _⟩
  case round =>
   obtain ⟨pl7, s7, N7, hr7, hpl7, hg7⟩ := hrel
   obtain ⟨i7, rfl, f1, f2, f3⟩ := zad hr7
   have H7 := ak N7
   have E7 := ak f2
   have PL7 := ak hpl7
   have hi7 := ak hg7
   have c7_bxp := N7.box B_bxp.out
   clear N7 hr7 hpl7 hg7 f1 f2 f3 H c_bxp
   go_wp2_with fail
   refine (zbm H7.out (by omega) [(⟨#[43]⟩ : ByteArray)] (by simp)).mono ?_
   rintro e W9 ⟨rfl, N9⟩
   rcases zac H7.out [(⟨#[43]⟩ : ByteArray)] with b8 | b8
   ·rw [zby b8] at N9
    rw [b8]
    have H := ak N9
    have c_bxp := N9.box B_bxp.out
    clear c7_bxp N9 H7
    have E := ak (if_t b8 E7.out)
    clear E7 b8
    go_wp2_with fail
    obtain ⟨p10, e, d⟩ := zu E.out
    have R := ak e
    replace E := ak (d)
    clear e d
    refine ((ih i7 (by have := hi7.out; omega)).path true _ _ _ _ _ _ _ _ _ (by omega) (by have := HL.out; have := hi7.out; omega) H.out R.out).mono ?_
    rintro e W11 ⟨rfl, N⟩
    replace H := ak N
    replace c_bxp := N.box B_bxp.out
    clear N
    go_wp2_with fail
    go_roundg i7
    case rel =>
     obtain ⟨pn, en1, en2⟩ := zu E.out
     obtain ⟨_, _, g1, _, _⟩ := zad en1
     exact ⟨_, _, H.out.fit g1, en1, by rw [← PL7.out, zaw en2], by have := hi7.out; omega⟩
    case measure => omega
   ·rw [zbz b8] at N9
    rw [b8]
    have H := ak N9
    have c_bxp := N9.box B_bxp.out
    clear c7_bxp N9 H7
    have E := ak (if_f b8 E7.out)
    clear E7 b8
    go_wp2_with fail
    have hq12 : p6.2 = _ := PL7.out.symm.trans (congrArg Prod.snd (zab E.out))
    have E12 := ak (by have h := Y6.out; rw [hq12] at h; exact h)
    clear hq12 E
    go_end0
    exact zb2 ⟨zaw E12.out⟩ H
 ·rw [zbz b2] at N3
  rw [b2]
  replace H := ak N3
  replace c_bxp := N3.box B_bxp.out
  clear N3
  replace E := ak (if_f b2 E.out)
  clear b2
  go_wp2_with fail
  go_end0
  exact zb2 ⟨zab E.out⟩ H
theorem zmj  {k : Nat}  (ih : ∀ i, i < k → IH B T tv pb i) : Meth B T tv pb k .typeParam 315 #[.pointer (some ⟨pb, 0, none⟩)] (fun _ => .tuple #[]) := by
 intro m low kd tx W0 F0 W s q hm hlow N hr
 obtain ⟨j, rfl, H, E, G, HL, RUN⟩ := zah N hr hlow
 clear N hr hlow
 go_enter Tryz.func315, Tryz.ntmps315
 go_wp2_with fail
 obtain ⟨WB, FB, hWB, hsz, BK, B_bxp, HN, c_bxp⟩ := zeo H (.pointer (some ⟨pb, 0, none⟩)) 184
 rw [hWB]
 try rw [hsz]
 clear hsz hWB H
 refine (za4 HN.out).mono ?_
 rintro e W2 ⟨rfl, N2⟩
 rcases zbv HN.out with b1 | b1
 ·rw [b1]
  have H := ak N2
  replace c_bxp := N2.box B_bxp.out
  clear N2 HN
  replace E := ak (if_t b1 E.out)
  clear b1
  go_wp2_with fail
  obtain ⟨p3, e, d⟩ := zai E.out
  have R3 := ak e
  have D3 := ak d
  clear e d E
  refine (zba H HL #[] #[.pointer (some ⟨W.heap.size, 0, none⟩)] zj3 R3 fun W1 F1 NN old => (zk8  (dn ih) (B_bxp.out.old old) (hla HL)).at NN R3).mono ?_
  rintro e W4 ⟨rfl, N⟩
  replace H := ak N
  replace c_bxp := N.box B_bxp.out
  clear N
  go_wp2_with fail
  go_end0
  exact ⟨rfl, (BK.out _ _ _ _ _ _ (zbb D3 G H))⟩
 ·rw [b1]
  have H := ak N2
  replace c_bxp := N2.box B_bxp.out
  clear N2 HN
  replace E := ak (if_f b1 E.out)
  clear b1
  go_wp2_with fail
  go_end0
  exact ⟨rfl, (BK.out _ _ _ _ _ _ (zbb ⟨zab E.out⟩ G H))⟩
theorem zju  {k : Nat} {bxp : Nat}  (ih : ∀ i, i < k → IH B T tv pb i) (hb_bxp : Box pb W0 F0 bxp (.pointer (some ⟨pb, 0, none⟩))) (hlow : low.length + k ≤ 10000000) : Does B T tv pb (k + 1) .typeParamsB 314 #[.pointer (some ⟨bxp, 0, none⟩)] low kd tx W0 F0 := by
 intro i hi m W s q hm N hr
 obtain ⟨j, rfl, H, E, G, HL, RUN⟩ := zah N hr (by omega)
 replace ih : ∀ i, i < j + 1 → IH B T tv pb i := fun i h => ih i (by omega)
 have B_bxp := ak hb_bxp
 have c_bxp := N.box hb_bxp
 clear N hr hlow hb_bxp
 go_enter Tryz.func314, Tryz.ntmps314
 go_wp2_with fail
 refine (zbm H.out (by omega) [(⟨#[60]⟩ : ByteArray)] (by simp)).mono ?_
 rintro e W2 ⟨rfl, N2⟩
 rcases zac H.out [(⟨#[60]⟩ : ByteArray)] with b1 | b1
 ·rw [zby b1] at N2
  rw [b1]
  replace H := ak N2
  replace c_bxp := N2.box B_bxp.out
  clear N2
  replace E := ak (if_t b1 E.out)
  clear b1
  go_wp2_with fail
  refine (zdm 315 #[.pointer (some ⟨pb, 0, none⟩)] #[] znv (by have := HL.out; omega) (Meth.does (k := j) (fun i hi => (ih i (by omega)).typeParam) (by have := HL.out; omega) (Nat.le_refl _)) H.out E.out).mono ?_
  rintro e W3 ⟨rfl, N⟩
  replace H := ak N
  replace c_bxp := N.box B_bxp.out
  clear N
  go_wp2_with fail
  go_end0
  exact ⟨⟨_, rfl⟩, _, H.out⟩
 ·rw [zbz b1] at N2
  rw [b1]
  replace H := ak N2
  replace c_bxp := N2.box B_bxp.out
  clear N2
  replace E := ak (if_f b1 E.out)
  clear b1
  go_wp2_with fail
  go_end0
  exact zb2 ⟨zab E.out⟩ H
theorem zk6  {k : Nat}  (ih : ∀ i, i < k → IH B T tv pb i) : Meth B T tv pb k .typeParams 272 #[.pointer (some ⟨pb, 0, none⟩)] (fun _ => .tuple #[]) := by
 intro m low kd tx W0 F0 W s q hm hlow N hr
 obtain ⟨j, rfl, H, E, G, HL, RUN⟩ := zah N hr hlow
 clear N hr hlow
 go_enter Tryz.func272, Tryz.ntmps272
 go_wp2_with fail
 obtain ⟨WB, FB, hWB, hsz, BK, B_bxp, HN, c_bxp⟩ := zeo H (.pointer (some ⟨pb, 0, none⟩)) 184
 rw [hWB]
 try rw [hsz]
 clear hsz hWB H
 obtain ⟨p1, e, d⟩ := zai E.out
 have R1 := ak e
 have D1 := ak d
 clear e d E
 refine (zba HN HL #[] #[.pointer (some ⟨W.heap.size, 0, none⟩)] zjh R1 fun W1 F1 NN old => (zju  (dn ih) (B_bxp.out.old old) (hla HL)).at NN R1).mono ?_
 rintro e W2 ⟨rfl, N⟩
 have H := ak N
 replace c_bxp := N.box B_bxp.out
 clear N HN
 go_wp2_with fail
 go_end0
 exact ⟨rfl, (BK.out _ _ _ _ _ _ (zbb D1 G H))⟩
theorem ztd  {k : Nat} {bxp : Nat}  (ih : ∀ i, i < k → IH B T tv pb i) (hb_bxp : Box pb W0 F0 bxp (.pointer (some ⟨pb, 0, none⟩))) (hlow : low.length + k ≤ 10000000) : Does B T tv pb (k + 1) .unaryB 348 #[.pointer (some ⟨bxp, 0, none⟩)] low kd tx W0 F0 := by
 intro i hi m W s q hm N hr
 obtain ⟨j, rfl, H, E, G, HL, RUN⟩ := zah N hr (by omega)
 replace ih : ∀ i, i < j + 1 → IH B T tv pb i := fun i h => ih i (by omega)
 have B_bxp := ak hb_bxp
 have c_bxp := N.box hb_bxp
 clear N hr hlow hb_bxp
 go_enter Tryz.func348, Tryz.ntmps348
 go_wp2_with fail
 replace E := ak (zbh E.out)
 refine (zat H.out (by omega)).mono ?_
 rintro e W1 ⟨rfl, N⟩
 replace H := ak N
 replace c_bxp := N.box B_bxp.out
 clear N
 go_wp2_with fail
 obtain ⟨p2, e, d⟩ := zu E.out
 have R := ak e
 replace E := ak (d)
 clear e d
 refine (mth (ij ih).unary HL H R).mono ?_
 rintro e W3 ⟨rfl, N⟩
 replace H := ak N
 replace c_bxp := N.box B_bxp.out
 clear N
 go_wp2_with fail
 go_end0
 exact zb2 ⟨zaw E.out⟩ H
theorem zso  {k : Nat} {bxp : Nat}  (ih : ∀ i, i < k → IH B T tv pb i) (hb_bxp : Box pb W0 F0 bxp (.pointer (some ⟨pb, 0, none⟩))) (hlow : low.length + k ≤ 10000000) : Does B T tv pb (k + 1) .borrowB 349 #[.pointer (some ⟨bxp, 0, none⟩)] low kd tx W0 F0 := by
 intro i hi m W s q hm N hr
 obtain ⟨j, rfl, H, E, G, HL, RUN⟩ := zah N hr (by omega)
 replace ih : ∀ i, i < j + 1 → IH B T tv pb i := fun i h => ih i (by omega)
 have B_bxp := ak hb_bxp
 have c_bxp := N.box hb_bxp
 clear N hr hlow hb_bxp
 go_enter Tryz.func349, Tryz.ntmps349
 go_wp2_with fail
 replace E := ak (zbh E.out)
 refine (zat H.out (by omega)).mono ?_
 rintro e W1 ⟨rfl, N⟩
 replace H := ak N
 replace c_bxp := N.box B_bxp.out
 clear N
 go_wp2_with fail
 replace E := ak (zbh E.out)
 refine (zbm H.out (by omega) [(⟨#[109, 117, 116]⟩ : ByteArray)] (by simp)).mono ?_
 rintro e W2 ⟨rfl, N⟩
 replace H := ak N
 replace c_bxp := N.box B_bxp.out
 clear N
 go_wp2_with fail
 obtain ⟨p3, e, d⟩ := zu E.out
 have R := ak e
 replace E := ak (d)
 clear e d
 refine (mth (ij ih).unary HL H R).mono ?_
 rintro e W4 ⟨rfl, N⟩
 replace H := ak N
 replace c_bxp := N.box B_bxp.out
 clear N
 go_wp2_with fail
 go_end0
 exact zb2 ⟨zaw E.out⟩ H
theorem zwc  {k : Nat}  (ih : ∀ i, i < k → IH B T tv pb i) : Meth B T tv pb k .unary 324 #[.pointer (some ⟨pb, 0, none⟩)] (fun _ => .tuple #[]) := by
 intro m low kd tx W0 F0 W s q hm hlow N hr
 obtain ⟨j, rfl, H, E, G, HL, RUN⟩ := zah N hr hlow
 clear N hr hlow
 go_enter Tryz.func324, Tryz.ntmps324
 go_wp2_with fail
 obtain ⟨WB, FB, hWB, hsz, BK, B_bxp, HN, c_bxp⟩ := zeo H (.pointer (some ⟨pb, 0, none⟩)) 184
 rw [hWB]
 try rw [hsz]
 clear hsz hWB H
 refine (zbk HN.out [(⟨#[45]⟩ : ByteArray), (⟨#[33]⟩ : ByteArray), (⟨#[42]⟩ : ByteArray)] (by simp)).mono ?_
 rintro e W2 ⟨rfl, N2⟩
 rcases zac HN.out [(⟨#[45]⟩ : ByteArray), (⟨#[33]⟩ : ByteArray), (⟨#[42]⟩ : ByteArray)] with b1 | b1
 ·rw [b1]
  have H := ak N2
  replace c_bxp := N2.box B_bxp.out
  clear N2 HN
  replace E := ak (if_t b1 E.out)
  clear b1
  go_wp2_with fail
  obtain ⟨p3, e, d⟩ := zai E.out
  have R3 := ak e
  have D3 := ak d
  clear e d E
  refine (zba H HL #[] #[.pointer (some ⟨W.heap.size, 0, none⟩)] zsi R3 fun W1 F1 NN old => (ztd  (dn ih) (B_bxp.out.old old) (hla HL)).at NN R3).mono ?_
  rintro e W4 ⟨rfl, N⟩
  replace H := ak N
  replace c_bxp := N.box B_bxp.out
  clear N
  go_wp2_with fail
  go_end0
  exact ⟨rfl, (BK.out _ _ _ _ _ _ (zbb D3 G H))⟩
 ·rw [b1]
  have H := ak N2
  replace c_bxp := N2.box B_bxp.out
  clear N2 HN
  replace E := ak (if_f b1 E.out)
  clear b1
  go_wp2_with fail
  refine (zbk H.out [(⟨#[38]⟩ : ByteArray)] (by simp)).mono ?_
  rintro e W6 ⟨rfl, N6⟩
  rcases zac H.out [(⟨#[38]⟩ : ByteArray)] with b5 | b5
  ·rw [b5]
   replace H := ak N6
   replace c_bxp := N6.box B_bxp.out
   clear N6
   replace E := ak (if_t b5 E.out)
   clear b5
   go_wp2_with fail
   obtain ⟨p7, e, d⟩ := zai E.out
   have R7 := ak e
   have D7 := ak d
   clear e d E
   refine (zba H HL #[] #[.pointer (some ⟨W.heap.size, 0, none⟩)] zsh R7 fun W1 F1 NN old => (zso  (dn ih) (B_bxp.out.old old) (hla HL)).at NN R7).mono ?_
   rintro e W8 ⟨rfl, N⟩
   replace H := ak N
   replace c_bxp := N.box B_bxp.out
   clear N
   go_wp2_with fail
   go_end0
   exact ⟨rfl, (BK.out _ _ _ _ _ _ (zbb D7 G H))⟩
  ·rw [b5]
   replace H := ak N6
   replace c_bxp := N6.box B_bxp.out
   clear N6
   replace E := ak (if_f b5 E.out)
   clear b5
   go_wp2_with fail
   obtain ⟨p9, e, d⟩ := zu E.out
   have R := ak e
   replace E := ak (d)
   clear e d
   refine (mth (ij ih).primary HL H R).mono ?_
   rintro e W10 ⟨rfl, N⟩
   replace H := ak N
   replace c_bxp := N.box B_bxp.out
   clear N
   go_wp2_with fail
   obtain ⟨p11, e, d⟩ := zu E.out
   have R := ak e
   replace E := ak (d)
   clear e d
   refine (mth (ij ih).postf HL H R).mono ?_
   rintro e W12 ⟨rfl, N⟩
   replace H := ak N
   replace c_bxp := N.box B_bxp.out
   clear N
   go_wp2_with fail
   go_end0
   exact ⟨rfl, (BK.out _ _ _ _ _ _ (zbb ⟨zaw E.out⟩ G H))⟩
end Go.Proofs.YtmoelofaojgjfaaGreatDoor.Par
