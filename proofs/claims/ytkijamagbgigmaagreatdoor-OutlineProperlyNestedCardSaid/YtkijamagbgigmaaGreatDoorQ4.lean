/- Packed texts, part 4: contracts and plain lemmas towards outlineProperlyNested_holds. -/
import Derived.Test.YtkijamagbgigmaaGreatDoorQ3
import Derived.StillTailTactics
import Derived.Deep.RegionHeld3
import Derived.Laws.CopyOwn
import Derived.Lib.Overlaps
set_option maxHeartbeats 8000000
set_option maxRecDepth 1000000
set_option linter.unusedVariables false
set_option linter.unusedSimpArgs false
namespace Go.Proofs.YtkijamagbgigmaaGreatDoor.Par
open Go.RowKit Go.Proofs.YtkijamagbgigmaaGreatDoorW.PrintWords Go.Proofs.YtkijamagbgigmaaGreatDoorW.PrintLast
theorem and_f1 {a b : Bool} (h : a = false) : (a && b) = false := by rw [h]; rfl
theorem and_t2 {a b c : Bool} (h : a = true) (k : b = c) : (a && b) = c := by rw [h, k]; cases c <;> rfl
theorem not_of {a b : Bool} (h : a = b) : (!a) = !b := by rw [h]
theorem us_ne {a : ByteArray} (h : a ≠ ⟨#[95]⟩) : (a.toList == [95]) = false := by
 rw [beq_eq_false_iff_ne]
 intro e
 rw [Go.ByteArray.toList_eq] at e
 exact h (ByteArray.ext (Array.ext' e))
theorem look_cases {T : List Tok} {tv : Value} {qb n : Nat} {W : World} (L : Look T tv qb W n) : idT T n = true ∨ idT T n = false := by cases idT T n <;> simp
theorem look_at {T : List Tok} {tv : Value} {qb n : Nat} {W : World} (L : Look T tv qb W n) (l : List ByteArray) : atT T n l = true ∨ atT T n l = false := by cases atT T n l <;> simp
theorem ops0_calls (W : World) : Calls Tryz.prog 168 #[.int .i64 0] W fun e W' => ∃ b, e = .returned (.slice (some ⟨b, 0, none⟩) (binOps 0).length (binOps 0).length) ∧ Below W.heap.size W W' ∧ Kd.C Kd.string W' (some ⟨b, 0, none⟩) (binOps 0).length (binOps 0) := by
 go_enter Tryz.func168, Tryz.ntmps168
 go_wp2_with fail
 go_ret
 refine ⟨_, rfl, ?_, ?_⟩
 ·exact below_alloc (below_alloc (below_alloc (below_alloc (below_alloc (below_alloc (Below.refl _ _) _) _) _) _) _) _
 ·have h := blk_new W (Obj.cells #[.string ⟨#[124, 124]⟩] 9)
  try simp only [World.size_alloc] at h
  exact C_strs (t := 9) (fr := (0, 0)) (binOps 0) (by decide) (blk_alloc (blk_alloc (blk_alloc (blk_alloc (blk_alloc h _) _) _) _) _)
theorem ops1_calls (W : World) : Calls Tryz.prog 168 #[.int .i64 1] W fun e W' => ∃ b, e = .returned (.slice (some ⟨b, 0, none⟩) (binOps 1).length (binOps 1).length) ∧ Below W.heap.size W W' ∧ Kd.C Kd.string W' (some ⟨b, 0, none⟩) (binOps 1).length (binOps 1) := by
 go_enter Tryz.func168, Tryz.ntmps168
 go_wp2_with fail
 go_ret
 refine ⟨_, rfl, ?_, ?_⟩
 ·exact below_alloc (below_alloc (below_alloc (below_alloc (below_alloc (below_alloc (Below.refl _ _) _) _) _) _) _) _
 ·have h := blk_new (W.alloc (Obj.cells #[.string ⟨#[124, 124]⟩] 9)) (Obj.cells #[.string ⟨#[38, 38]⟩] 9)
  try simp only [World.size_alloc] at h
  exact C_strs (t := 9) (fr := (0, 0)) (binOps 1) (by decide) (blk_alloc (blk_alloc (blk_alloc (blk_alloc h _) _) _) _)
theorem ops2_calls (W : World) : Calls Tryz.prog 168 #[.int .i64 2] W fun e W' => ∃ b, e = .returned (.slice (some ⟨b, 0, none⟩) (binOps 2).length (binOps 2).length) ∧ Below W.heap.size W W' ∧ Kd.C Kd.string W' (some ⟨b, 0, none⟩) (binOps 2).length (binOps 2) := by
 go_enter Tryz.func168, Tryz.ntmps168
 go_wp2_with fail
 go_ret
 refine ⟨_, rfl, ?_, ?_⟩
 ·exact below_alloc (below_alloc (below_alloc (below_alloc (below_alloc (below_alloc (Below.refl _ _) _) _) _) _) _) _
 ·have h := blk_new ((W.alloc (Obj.cells #[.string ⟨#[124, 124]⟩] 9)).alloc (Obj.cells #[.string ⟨#[38, 38]⟩] 9)) (Obj.cells #[.string ⟨#[61, 61]⟩, .string ⟨#[60]⟩] 9)
  try simp only [World.size_alloc] at h
  exact C_strs (t := 9) (fr := (0, 0)) (binOps 2) (by decide) (blk_alloc (blk_alloc (blk_alloc h _) _) _)
theorem ops3_calls (W : World) : Calls Tryz.prog 168 #[.int .i64 3] W fun e W' => ∃ b, e = .returned (.slice (some ⟨b, 0, none⟩) (binOps 3).length (binOps 3).length) ∧ Below W.heap.size W W' ∧ Kd.C Kd.string W' (some ⟨b, 0, none⟩) (binOps 3).length (binOps 3) := by
 go_enter Tryz.func168, Tryz.ntmps168
 go_wp2_with fail
 go_ret
 refine ⟨_, rfl, ?_, ?_⟩
 ·exact below_alloc (below_alloc (below_alloc (below_alloc (below_alloc (below_alloc (Below.refl _ _) _) _) _) _) _) _
 ·have h := blk_new (((W.alloc (Obj.cells #[.string ⟨#[124, 124]⟩] 9)).alloc (Obj.cells #[.string ⟨#[38, 38]⟩] 9)).alloc (Obj.cells #[.string ⟨#[61, 61]⟩, .string ⟨#[60]⟩] 9)) (Obj.cells #[.string ⟨#[43]⟩, .string ⟨#[45]⟩] 9)
  try simp only [World.size_alloc] at h
  exact C_strs (t := 9) (fr := (0, 0)) (binOps 3) (by decide) (blk_alloc (blk_alloc h _) _)
theorem ops4_calls (W : World) : Calls Tryz.prog 168 #[.int .i64 4] W fun e W' => ∃ b, e = .returned (.slice (some ⟨b, 0, none⟩) (binOps 4).length (binOps 4).length) ∧ Below W.heap.size W W' ∧ Kd.C Kd.string W' (some ⟨b, 0, none⟩) (binOps 4).length (binOps 4) := by
 go_enter Tryz.func168, Tryz.ntmps168
 go_wp2_with fail
 go_ret
 refine ⟨_, rfl, ?_, ?_⟩
 ·exact below_alloc (below_alloc (below_alloc (below_alloc (below_alloc (below_alloc (Below.refl _ _) _) _) _) _) _) _
 ·have h := blk_new ((((W.alloc (Obj.cells #[.string ⟨#[124, 124]⟩] 9)).alloc (Obj.cells #[.string ⟨#[38, 38]⟩] 9)).alloc (Obj.cells #[.string ⟨#[61, 61]⟩, .string ⟨#[60]⟩] 9)).alloc (Obj.cells #[.string ⟨#[43]⟩, .string ⟨#[45]⟩] 9)) (Obj.cells #[.string ⟨#[42]⟩, .string ⟨#[47]⟩] 9)
  try simp only [World.size_alloc] at h
  exact C_strs (t := 9) (fr := (0, 0)) (binOps 4) (by decide) (blk_alloc h _)
end Go.Proofs.YtkijamagbgigmaaGreatDoor.Par
namespace Go.Proofs.YtkijamagbgigmaaGreatDoor.Par
open Go.RowKit Go.Proofs.YtkijamagbgigmaaGreatDoorW.PrintWords Go.Proofs.YtkijamagbgigmaaGreatDoorW.PrintLast
variable {B : Nat} {T : List Tok} {tv : Value} {pb : Nat} {low : List Tree} {kd : Int} {tx : ByteArray} {W0 : World} {F0 : List Nat}
theorem binary0_go  {k : Nat}  (ih : ∀ i, i < k → IH B T tv pb i) : Meth B T tv pb k (.binary 0) 145 #[.pointer (some ⟨pb, 0, none⟩), .int .i64 0] (fun _ => .tuple #[]) := by
 intro m low kd tx W0 F0 W s q hm hlow N hr
 obtain ⟨j, rfl, h1, h2, h3⟩ := run_some hr
 have H0 := ak (N.fit h1)
 have E0 := ak h2
 have G := ak h3
 have HL := ak hlow
 have RUN := ak hr
 clear N h1 h2 h3 hr hlow
 go_enter Tryz.func145, Tryz.ntmps145
 go_wp2_with fail
 obtain ⟨WB, hWB⟩ : ∃ WB, ((W.alloc (.cells #[.pointer (some ⟨pb, 0, none⟩)] 74)).alloc (.cells #[.int .i64 0] 3)) = WB := ⟨_, rfl⟩
 have hbl : Below W.heap.size W WB := by rw [← hWB]; exact (below_alloc (below_alloc (Below.refl _ _) _) _)
 have hx_bxp : WB.heap[W.heap.size]? = some (.cells #[.pointer (some ⟨pb, 0, none⟩)] 74 (0, 0)) := by
  rw [← hWB]
  exact blk_alloc (blk_new W _) _
 have hx_bxl : WB.heap[W.heap.size + 1]? = some (.cells #[.int .i64 0] 3 (0, 0)) := by
  rw [← hWB]
  have hn := blk_new (W.alloc (.cells #[.pointer (some ⟨pb, 0, none⟩)] 74)) (.cells #[.int .i64 0] 3)
  simp only [World.size_alloc] at hn
  exact hn
 obtain ⟨FB, NB, hnew, holdb, hback⟩ := H0.out.enter hbl
 have BK := ak hback
 have hb_bxp : Box pb WB FB (W.heap.size) (.pointer (some ⟨pb, 0, none⟩)) := ⟨hnew _ (by omega) (blk_lt hx_bxp), _, hx_bxp⟩
 have B_bxp := ak hb_bxp
 have hb_bxl : Box pb WB FB (W.heap.size + 1) (.int .i64 0) := ⟨hnew _ (by omega) (blk_lt hx_bxl), _, hx_bxl⟩
 have B_bxl := ak hb_bxl
 have HN := ak NB
 have c0_bxp := NB.box hb_bxp
 have c0_bxl := NB.box hb_bxl
 rw [hWB]
 have hsz : W.heap.size + 1 + 1 = WB.heap.size := by rw [← hWB]; simp only [World.size_alloc]
 try rw [hsz]
 clear hsz hWB hbl hnew holdb hback NB H0 hb_bxp hb_bxl hx_bxp hx_bxl
 obtain ⟨p1, e1, d1⟩ := sq_cons E0.out
 have R1 := ak e1
 have E2 := ak (d1)
 clear E0 e1 d1
 refine ((ih j (by omega)).binary 1 (by omega) _ _ _ _ _ _ _ _ _ (by omega) (by have := HL.out; omega) HN.out R1.out).mono ?_
 rintro e W3 ⟨rfl, N3⟩
 have H3 := ak N3
 have c3_bxp := N3.box B_bxp.out
 have c3_bxl := N3.box B_bxl.out
 clear N3 HN c0_bxp c0_bxl
 go_wp2_with fail
 obtain ⟨p4, e4, d4⟩ := sq_cons E2.out
 have L4 := ak e4
 have Y4 := ak d4
 clear e4 d4 E2
 go_loopg [] j (fun g wr => ∃ pl s1, Now B T tv pb 10000000 low kd tx WB FB wr s1 ∧ run T g (.binLoop 0) s1 = some pl ∧ pl.2 = p4.2 ∧ g ≤ j)
 case atStart =>
  obtain ⟨_, _, g1, _, _⟩ := run_some L4.out
  exact ⟨_, _, H3.out.fit g1, L4.out, rfl, Nat.le_refl _⟩
 case round =>
  obtain ⟨pl5, s5, N5, hr5, hpl5, hg5⟩ := hrel
  obtain ⟨i5, rfl, f1, f2, f3⟩ := run_some hr5
  have H5 := ak N5
  have E5 := ak f2
  have PL5 := ak hpl5
  have hi5 := ak hg5
  have c5_bxp := N5.box B_bxp.out
  have c5_bxl := N5.box B_bxl.out
  clear N5 hr5 hpl5 hg5 f1 f2 f3 H3 c3_bxp c3_bxl
  go_wp2_with fail
  rcases at_cases H5.out (binOps 0) with b7 | b7
  ·have HI7 := ak b7
   clear b7
   refine start_ (ds := []) (S := (fun w' => w'.cell? ⟨W.heap.size, 0, none⟩ = some (.pointer (some ⟨pb, 0, none⟩)) ∧ w'.cell? ⟨W.heap.size + 1, 0, none⟩ = some (.int .i64 0))) #[false, false, false, false] (by kernel_rfl) rfl rfl ⟨c5_bxp, c5_bxl⟩ (fun hS => ?_)
   refine take_ (i := 0) (N := some 12) (v := .pointer (some ⟨pb, 0, none⟩)) #[true, false, false, false] rfl rfl (by kernel_rfl) (fun _ _ _ h => h) (Or.inl ⟨by kernel_rfl, by rintro w' ⟨z1, z2⟩; go_simp⟩) hS rfl ?_
   simp only [Act.put, sia, List.set]
   refine take_ (i := 1) (N := some 13) (v := .int .i64 0) #[true, true, false, false] rfl rfl (by kernel_rfl) (fun _ _ _ h => h) (Or.inl ⟨by kernel_rfl, by rintro w' ⟨z1, z2⟩; go_simp⟩) hS rfl ?_
   simp only [Act.put, sia, List.set]
   refine one_ (i := 2) (N := some 14) #[true, true, true, false] rfl rfl (by kernel_rfl) (by simp) (fun K hK => ?_)
   go_simp
   refine (ops0_calls _).mono ?_
   rintro e W8 ⟨ob, rfl, hbo, hco⟩
   have N8 := (H5.out.below (below_drew (Below.refl _ _))).below hbo
   have H8 := ak (And.intro N8 hco)
   have cS := And.intro (N8.box B_bxp.out) (N8.box B_bxl.out)
   clear N8 hbo hco
   refine hK.out _ _ cS (fun hS => ?_)
   clear hK
   try simp only [Act.put, sia, List.set]
   refine one_ (i := 3) (N := some 15) #[true, true, true, true] rfl rfl (by kernel_rfl) (by simp) (fun K hK => ?_)
   go_simp
   refine (at_now H8.out.1 (by decide) H8.out.2 (Nat.le_refl _)).mono ?_
   rintro e W9 ⟨rfl, N9⟩
   rw [HI7.out]
   have H9 := ak N9
   have cS := And.intro (N9.box B_bxp.out) (N9.box B_bxl.out)
   refine hK.out _ _ cS (fun hS => ?_)
   clear hK
   try simp only [Act.put, sia, List.set]
   refine wpAnyLast_done (by kernel_rfl) ?_ _
   have c9_bxp := N9.box B_bxp.out
   have c9_bxl := N9.box B_bxl.out
   clear N9 cS hS H5 c5_bxp c5_bxl
   have E10 := ak (if_t HI7.out E5.out)
   clear E5
   go_wp2_with fail
   obtain ⟨p11, e11, d11⟩ := bind_in E10.out
   have X11 := ak e11
   have Y11 := ak d11
   clear e11 d11 E10
   obtain ⟨ks12, t12, p12, s12, e12, d12⟩ := wrap_in X11.out
   have R12 := ak e12
   have D12 := ak d12
   have S12 := ak s12
   clear e12 d12 s12 X11
   refine (wrap_now H9.out S12.out (by omega) (by have := HL.out; have := hi5.out; omega) 39 170 #[] #[.pointer (some ⟨W.heap.size, 0, none⟩), .pointer (some ⟨W.heap.size + 1, 0, none⟩)] p12.2 en_binary_1 (fit_iff.1 (run_fit R12.out)).1 (fun W1 F1 NN old => binRhs0_do  (k := i5) (fun i hi => ih i (by have := hi5.out; omega)) (B_bxp.out.old old) (B_bxl.out.old old) (by rw [List.length_append, List.length_singleton]; have := HL.out; have := hi5.out; omega) i5 (by omega) _ _ _ _ (by omega) NN R12.out)).mono ?_
   rintro e W13 ⟨rfl, N13⟩
   have H13 := ak N13
   have c13_bxp := N13.box B_bxp.out
   have c13_bxl := N13.box B_bxl.out
   clear N13 H9 c9_bxp c9_bxl
   go_wp2_with fail
   have hp14 := D12.out
   have E14 := ak (by have h := Y11.out; rw [hp14] at h; exact h)
   clear hp14 D12 Y11
   go_roundg i5
   case rel =>
    obtain ⟨_, _, g1, _, _⟩ := run_some E14.out
    exact ⟨_, _, H13.out.fit g1, E14.out, PL5.out, by have := hi5.out; omega⟩
   case measure => omega
  ·have HI7 := ak b7
   clear b7
   refine start_ (ds := []) (S := (fun w' => w'.cell? ⟨W.heap.size, 0, none⟩ = some (.pointer (some ⟨pb, 0, none⟩)) ∧ w'.cell? ⟨W.heap.size + 1, 0, none⟩ = some (.int .i64 0))) #[false, false, false, false] (by kernel_rfl) rfl rfl ⟨c5_bxp, c5_bxl⟩ (fun hS => ?_)
   refine take_ (i := 0) (N := some 12) (v := .pointer (some ⟨pb, 0, none⟩)) #[true, false, false, false] rfl rfl (by kernel_rfl) (fun _ _ _ h => h) (Or.inl ⟨by kernel_rfl, by rintro w' ⟨z1, z2⟩; go_simp⟩) hS rfl ?_
   simp only [Act.put, sia, List.set]
   refine take_ (i := 1) (N := some 13) (v := .int .i64 0) #[true, true, false, false] rfl rfl (by kernel_rfl) (fun _ _ _ h => h) (Or.inl ⟨by kernel_rfl, by rintro w' ⟨z1, z2⟩; go_simp⟩) hS rfl ?_
   simp only [Act.put, sia, List.set]
   refine one_ (i := 2) (N := some 14) #[true, true, true, false] rfl rfl (by kernel_rfl) (by simp) (fun K hK => ?_)
   go_simp
   refine (ops0_calls _).mono ?_
   rintro e W15 ⟨ob, rfl, hbo, hco⟩
   have N15 := (H5.out.below (below_drew (Below.refl _ _))).below hbo
   have H15 := ak (And.intro N15 hco)
   have cS := And.intro (N15.box B_bxp.out) (N15.box B_bxl.out)
   clear N15 hbo hco
   refine hK.out _ _ cS (fun hS => ?_)
   clear hK
   try simp only [Act.put, sia, List.set]
   refine one_ (i := 3) (N := some 15) #[true, true, true, true] rfl rfl (by kernel_rfl) (by simp) (fun K hK => ?_)
   go_simp
   refine (at_now H15.out.1 (by decide) H15.out.2 (Nat.le_refl _)).mono ?_
   rintro e W16 ⟨rfl, N16⟩
   rw [HI7.out]
   have H16 := ak N16
   have cS := And.intro (N16.box B_bxp.out) (N16.box B_bxl.out)
   refine hK.out _ _ cS (fun hS => ?_)
   clear hK
   try simp only [Act.put, sia, List.set]
   refine wpAnyLast_done (by kernel_rfl) ?_ _
   have c16_bxp := N16.box B_bxp.out
   have c16_bxl := N16.box B_bxl.out
   clear N16 cS hS H5 c5_bxp c5_bxl
   have E17 := ak (if_f HI7.out E5.out)
   clear E5
   go_wp2_with fail
   have hq18 : p4.2 = _ := PL5.out.symm.trans (congrArg Prod.snd (some_in E17.out))
   have E18 := ak (by have h := Y4.out; rw [hq18] at h; exact h)
   clear hq18 E17
   go_end0
   obtain hq := sq_nil E18.out
   have hf := G.out
   rw [hq] at hf ⊢
   exact ⟨rfl, (BK.out _ _ _ _ _ _ (H16.out.fit hf))⟩
theorem binRhs1_do  {k : Nat} {bxp : Nat} {bxl : Nat}  (ih : ∀ i, i < k → IH B T tv pb i) (hb_bxp : Box pb W0 F0 bxp (.pointer (some ⟨pb, 0, none⟩))) (hb_bxl : Box pb W0 F0 bxl (.int .i64 1)) (hlow : low.length + k ≤ 10000000) : Does B T tv pb (k + 1) (.binRhs 1) 170 #[.pointer (some ⟨bxp, 0, none⟩), .pointer (some ⟨bxl, 0, none⟩)] low kd tx W0 F0 := by
 intro i hi m W s q hm N hr
 obtain ⟨j, rfl, h1, h2, h3⟩ := run_some hr
 have H0 := ak (N.fit h1)
 have E0 := ak h2
 have G := ak h3
 have HL := ak (show low.length + (j + 1) ≤ 10000000 by omega)
 have B_bxp := ak hb_bxp
 have c0_bxp := N.box hb_bxp
 have B_bxl := ak hb_bxl
 have c0_bxl := N.box hb_bxl
 clear N h1 h2 h3 hr hlow hb_bxp hb_bxl
 go_enter Tryz.func170, Tryz.ntmps170
 go_wp2_with fail
 have E1 := ak (sq_st E0.out)
 clear E0
 refine (bump_now H0.out (by omega)).mono ?_
 rintro e W2 ⟨rfl, N2⟩
 have H2 := ak N2
 have c2_bxp := N2.box B_bxp.out
 have c2_bxl := N2.box B_bxl.out
 clear N2 H0 c0_bxp c0_bxl
 go_wp2_with fail
 obtain ⟨p3, e3, d3⟩ := sq_cons E1.out
 have R3 := ak e3
 have E4 := ak (d3)
 clear E1 e3 d3
 refine ((ih j (by omega)).binary 2 (by omega) _ _ _ _ _ _ _ _ _ (by omega) (by have := HL.out; omega) H2.out R3.out).mono ?_
 rintro e W5 ⟨rfl, N5⟩
 have H5 := ak N5
 have c5_bxp := N5.box B_bxp.out
 have c5_bxl := N5.box B_bxl.out
 clear N5 H2 c2_bxp c2_bxl
 go_wp2_with fail
 go_end0
 obtain hq := sq_nil E4.out
 have hf := G.out
 rw [hq] at hf ⊢
 exact ⟨⟨_, rfl⟩, _, (H5.out.fit hf)⟩
theorem binary1_go  {k : Nat}  (ih : ∀ i, i < k → IH B T tv pb i) : Meth B T tv pb k (.binary 1) 145 #[.pointer (some ⟨pb, 0, none⟩), .int .i64 1] (fun _ => .tuple #[]) := by
 intro m low kd tx W0 F0 W s q hm hlow N hr
 obtain ⟨j, rfl, h1, h2, h3⟩ := run_some hr
 have H0 := ak (N.fit h1)
 have E0 := ak h2
 have G := ak h3
 have HL := ak hlow
 have RUN := ak hr
 clear N h1 h2 h3 hr hlow
 go_enter Tryz.func145, Tryz.ntmps145
 go_wp2_with fail
 obtain ⟨WB, hWB⟩ : ∃ WB, ((W.alloc (.cells #[.pointer (some ⟨pb, 0, none⟩)] 74)).alloc (.cells #[.int .i64 1] 3)) = WB := ⟨_, rfl⟩
 have hbl : Below W.heap.size W WB := by rw [← hWB]; exact (below_alloc (below_alloc (Below.refl _ _) _) _)
 have hx_bxp : WB.heap[W.heap.size]? = some (.cells #[.pointer (some ⟨pb, 0, none⟩)] 74 (0, 0)) := by
  rw [← hWB]
  exact blk_alloc (blk_new W _) _
 have hx_bxl : WB.heap[W.heap.size + 1]? = some (.cells #[.int .i64 1] 3 (0, 0)) := by
  rw [← hWB]
  have hn := blk_new (W.alloc (.cells #[.pointer (some ⟨pb, 0, none⟩)] 74)) (.cells #[.int .i64 1] 3)
  simp only [World.size_alloc] at hn
  exact hn
 obtain ⟨FB, NB, hnew, holdb, hback⟩ := H0.out.enter hbl
 have BK := ak hback
 have hb_bxp : Box pb WB FB (W.heap.size) (.pointer (some ⟨pb, 0, none⟩)) := ⟨hnew _ (by omega) (blk_lt hx_bxp), _, hx_bxp⟩
 have B_bxp := ak hb_bxp
 have hb_bxl : Box pb WB FB (W.heap.size + 1) (.int .i64 1) := ⟨hnew _ (by omega) (blk_lt hx_bxl), _, hx_bxl⟩
 have B_bxl := ak hb_bxl
 have HN := ak NB
 have c0_bxp := NB.box hb_bxp
 have c0_bxl := NB.box hb_bxl
 rw [hWB]
 have hsz : W.heap.size + 1 + 1 = WB.heap.size := by rw [← hWB]; simp only [World.size_alloc]
 try rw [hsz]
 clear hsz hWB hbl hnew holdb hback NB H0 hb_bxp hb_bxl hx_bxp hx_bxl
 obtain ⟨p1, e1, d1⟩ := sq_cons E0.out
 have R1 := ak e1
 have E2 := ak (d1)
 clear E0 e1 d1
 refine ((ih j (by omega)).binary 2 (by omega) _ _ _ _ _ _ _ _ _ (by omega) (by have := HL.out; omega) HN.out R1.out).mono ?_
 rintro e W3 ⟨rfl, N3⟩
 have H3 := ak N3
 have c3_bxp := N3.box B_bxp.out
 have c3_bxl := N3.box B_bxl.out
 clear N3 HN c0_bxp c0_bxl
 go_wp2_with fail
 obtain ⟨p4, e4, d4⟩ := sq_cons E2.out
 have L4 := ak e4
 have Y4 := ak d4
 clear e4 d4 E2
 go_loopg [] j (fun g wr => ∃ pl s1, Now B T tv pb 10000000 low kd tx WB FB wr s1 ∧ run T g (.binLoop 1) s1 = some pl ∧ pl.2 = p4.2 ∧ g ≤ j)
 case atStart =>
  obtain ⟨_, _, g1, _, _⟩ := run_some L4.out
  exact ⟨_, _, H3.out.fit g1, L4.out, rfl, Nat.le_refl _⟩
 case round =>
  obtain ⟨pl5, s5, N5, hr5, hpl5, hg5⟩ := hrel
  obtain ⟨i5, rfl, f1, f2, f3⟩ := run_some hr5
  have H5 := ak N5
  have E5 := ak f2
  have PL5 := ak hpl5
  have hi5 := ak hg5
  have c5_bxp := N5.box B_bxp.out
  have c5_bxl := N5.box B_bxl.out
  clear N5 hr5 hpl5 hg5 f1 f2 f3 H3 c3_bxp c3_bxl
  go_wp2_with fail
  rcases at_cases H5.out (binOps 1) with b7 | b7
  ·have HI7 := ak b7
   clear b7
   refine start_ (ds := []) (S := (fun w' => w'.cell? ⟨W.heap.size, 0, none⟩ = some (.pointer (some ⟨pb, 0, none⟩)) ∧ w'.cell? ⟨W.heap.size + 1, 0, none⟩ = some (.int .i64 1))) #[false, false, false, false] (by kernel_rfl) rfl rfl ⟨c5_bxp, c5_bxl⟩ (fun hS => ?_)
   refine take_ (i := 0) (N := some 12) (v := .pointer (some ⟨pb, 0, none⟩)) #[true, false, false, false] rfl rfl (by kernel_rfl) (fun _ _ _ h => h) (Or.inl ⟨by kernel_rfl, by rintro w' ⟨z1, z2⟩; go_simp⟩) hS rfl ?_
   simp only [Act.put, sia, List.set]
   refine take_ (i := 1) (N := some 13) (v := .int .i64 1) #[true, true, false, false] rfl rfl (by kernel_rfl) (fun _ _ _ h => h) (Or.inl ⟨by kernel_rfl, by rintro w' ⟨z1, z2⟩; go_simp⟩) hS rfl ?_
   simp only [Act.put, sia, List.set]
   refine one_ (i := 2) (N := some 14) #[true, true, true, false] rfl rfl (by kernel_rfl) (by simp) (fun K hK => ?_)
   go_simp
   refine (ops1_calls _).mono ?_
   rintro e W8 ⟨ob, rfl, hbo, hco⟩
   have N8 := (H5.out.below (below_drew (Below.refl _ _))).below hbo
   have H8 := ak (And.intro N8 hco)
   have cS := And.intro (N8.box B_bxp.out) (N8.box B_bxl.out)
   clear N8 hbo hco
   refine hK.out _ _ cS (fun hS => ?_)
   clear hK
   try simp only [Act.put, sia, List.set]
   refine one_ (i := 3) (N := some 15) #[true, true, true, true] rfl rfl (by kernel_rfl) (by simp) (fun K hK => ?_)
   go_simp
   refine (at_now H8.out.1 (by decide) H8.out.2 (Nat.le_refl _)).mono ?_
   rintro e W9 ⟨rfl, N9⟩
   rw [HI7.out]
   have H9 := ak N9
   have cS := And.intro (N9.box B_bxp.out) (N9.box B_bxl.out)
   refine hK.out _ _ cS (fun hS => ?_)
   clear hK
   try simp only [Act.put, sia, List.set]
   refine wpAnyLast_done (by kernel_rfl) ?_ _
   have c9_bxp := N9.box B_bxp.out
   have c9_bxl := N9.box B_bxl.out
   clear N9 cS hS H5 c5_bxp c5_bxl
   have E10 := ak (if_t HI7.out E5.out)
   clear E5
   go_wp2_with fail
   obtain ⟨p11, e11, d11⟩ := bind_in E10.out
   have X11 := ak e11
   have Y11 := ak d11
   clear e11 d11 E10
   obtain ⟨ks12, t12, p12, s12, e12, d12⟩ := wrap_in X11.out
   have R12 := ak e12
   have D12 := ak d12
   have S12 := ak s12
   clear e12 d12 s12 X11
   refine (wrap_now H9.out S12.out (by omega) (by have := HL.out; have := hi5.out; omega) 39 170 #[] #[.pointer (some ⟨W.heap.size, 0, none⟩), .pointer (some ⟨W.heap.size + 1, 0, none⟩)] p12.2 en_binary_1 (fit_iff.1 (run_fit R12.out)).1 (fun W1 F1 NN old => binRhs1_do  (k := i5) (fun i hi => ih i (by have := hi5.out; omega)) (B_bxp.out.old old) (B_bxl.out.old old) (by rw [List.length_append, List.length_singleton]; have := HL.out; have := hi5.out; omega) i5 (by omega) _ _ _ _ (by omega) NN R12.out)).mono ?_
   rintro e W13 ⟨rfl, N13⟩
   have H13 := ak N13
   have c13_bxp := N13.box B_bxp.out
   have c13_bxl := N13.box B_bxl.out
   clear N13 H9 c9_bxp c9_bxl
   go_wp2_with fail
   have hp14 := D12.out
   have E14 := ak (by have h := Y11.out; rw [hp14] at h; exact h)
   clear hp14 D12 Y11
   go_roundg i5
   case rel =>
    obtain ⟨_, _, g1, _, _⟩ := run_some E14.out
    exact ⟨_, _, H13.out.fit g1, E14.out, PL5.out, by have := hi5.out; omega⟩
   case measure => omega
  ·have HI7 := ak b7
   clear b7
   refine start_ (ds := []) (S := (fun w' => w'.cell? ⟨W.heap.size, 0, none⟩ = some (.pointer (some ⟨pb, 0, none⟩)) ∧ w'.cell? ⟨W.heap.size + 1, 0, none⟩ = some (.int .i64 1))) #[false, false, false, false] (by kernel_rfl) rfl rfl ⟨c5_bxp, c5_bxl⟩ (fun hS => ?_)
   refine take_ (i := 0) (N := some 12) (v := .pointer (some ⟨pb, 0, none⟩)) #[true, false, false, false] rfl rfl (by kernel_rfl) (fun _ _ _ h => h) (Or.inl ⟨by kernel_rfl, by rintro w' ⟨z1, z2⟩; go_simp⟩) hS rfl ?_
   simp only [Act.put, sia, List.set]
   refine take_ (i := 1) (N := some 13) (v := .int .i64 1) #[true, true, false, false] rfl rfl (by kernel_rfl) (fun _ _ _ h => h) (Or.inl ⟨by kernel_rfl, by rintro w' ⟨z1, z2⟩; go_simp⟩) hS rfl ?_
   simp only [Act.put, sia, List.set]
   refine one_ (i := 2) (N := some 14) #[true, true, true, false] rfl rfl (by kernel_rfl) (by simp) (fun K hK => ?_)
   go_simp
   refine (ops1_calls _).mono ?_
   rintro e W15 ⟨ob, rfl, hbo, hco⟩
   have N15 := (H5.out.below (below_drew (Below.refl _ _))).below hbo
   have H15 := ak (And.intro N15 hco)
   have cS := And.intro (N15.box B_bxp.out) (N15.box B_bxl.out)
   clear N15 hbo hco
   refine hK.out _ _ cS (fun hS => ?_)
   clear hK
   try simp only [Act.put, sia, List.set]
   refine one_ (i := 3) (N := some 15) #[true, true, true, true] rfl rfl (by kernel_rfl) (by simp) (fun K hK => ?_)
   go_simp
   refine (at_now H15.out.1 (by decide) H15.out.2 (Nat.le_refl _)).mono ?_
   rintro e W16 ⟨rfl, N16⟩
   rw [HI7.out]
   have H16 := ak N16
   have cS := And.intro (N16.box B_bxp.out) (N16.box B_bxl.out)
   refine hK.out _ _ cS (fun hS => ?_)
   clear hK
   try simp only [Act.put, sia, List.set]
   refine wpAnyLast_done (by kernel_rfl) ?_ _
   have c16_bxp := N16.box B_bxp.out
   have c16_bxl := N16.box B_bxl.out
   clear N16 cS hS H5 c5_bxp c5_bxl
   have E17 := ak (if_f HI7.out E5.out)
   clear E5
   go_wp2_with fail
   have hq18 : p4.2 = _ := PL5.out.symm.trans (congrArg Prod.snd (some_in E17.out))
   have E18 := ak (by have h := Y4.out; rw [hq18] at h; exact h)
   clear hq18 E17
   go_end0
   obtain hq := sq_nil E18.out
   have hf := G.out
   rw [hq] at hf ⊢
   exact ⟨rfl, (BK.out _ _ _ _ _ _ (H16.out.fit hf))⟩
theorem binRhs2_do  {k : Nat} {bxp : Nat} {bxl : Nat}  (ih : ∀ i, i < k → IH B T tv pb i) (hb_bxp : Box pb W0 F0 bxp (.pointer (some ⟨pb, 0, none⟩))) (hb_bxl : Box pb W0 F0 bxl (.int .i64 2)) (hlow : low.length + k ≤ 10000000) : Does B T tv pb (k + 1) (.binRhs 2) 170 #[.pointer (some ⟨bxp, 0, none⟩), .pointer (some ⟨bxl, 0, none⟩)] low kd tx W0 F0 := by
 intro i hi m W s q hm N hr
 obtain ⟨j, rfl, h1, h2, h3⟩ := run_some hr
 have H0 := ak (N.fit h1)
 have E0 := ak h2
 have G := ak h3
 have HL := ak (show low.length + (j + 1) ≤ 10000000 by omega)
 have B_bxp := ak hb_bxp
 have c0_bxp := N.box hb_bxp
 have B_bxl := ak hb_bxl
 have c0_bxl := N.box hb_bxl
 clear N h1 h2 h3 hr hlow hb_bxp hb_bxl
 go_enter Tryz.func170, Tryz.ntmps170
 go_wp2_with fail
 have E1 := ak (sq_st E0.out)
 clear E0
 refine (bump_now H0.out (by omega)).mono ?_
 rintro e W2 ⟨rfl, N2⟩
 have H2 := ak N2
 have c2_bxp := N2.box B_bxp.out
 have c2_bxl := N2.box B_bxl.out
 clear N2 H0 c0_bxp c0_bxl
 go_wp2_with fail
 obtain ⟨p3, e3, d3⟩ := sq_cons E1.out
 have R3 := ak e3
 have E4 := ak (d3)
 clear E1 e3 d3
 refine ((ih j (by omega)).binary 3 (by omega) _ _ _ _ _ _ _ _ _ (by omega) (by have := HL.out; omega) H2.out R3.out).mono ?_
 rintro e W5 ⟨rfl, N5⟩
 have H5 := ak N5
 have c5_bxp := N5.box B_bxp.out
 have c5_bxl := N5.box B_bxl.out
 clear N5 H2 c2_bxp c2_bxl
 go_wp2_with fail
 go_end0
 obtain hq := sq_nil E4.out
 have hf := G.out
 rw [hq] at hf ⊢
 exact ⟨⟨_, rfl⟩, _, (H5.out.fit hf)⟩
theorem binary2_go  {k : Nat}  (ih : ∀ i, i < k → IH B T tv pb i) : Meth B T tv pb k (.binary 2) 145 #[.pointer (some ⟨pb, 0, none⟩), .int .i64 2] (fun _ => .tuple #[]) := by
 intro m low kd tx W0 F0 W s q hm hlow N hr
 obtain ⟨j, rfl, h1, h2, h3⟩ := run_some hr
 have H0 := ak (N.fit h1)
 have E0 := ak h2
 have G := ak h3
 have HL := ak hlow
 have RUN := ak hr
 clear N h1 h2 h3 hr hlow
 go_enter Tryz.func145, Tryz.ntmps145
 go_wp2_with fail
 obtain ⟨WB, hWB⟩ : ∃ WB, ((W.alloc (.cells #[.pointer (some ⟨pb, 0, none⟩)] 74)).alloc (.cells #[.int .i64 2] 3)) = WB := ⟨_, rfl⟩
 have hbl : Below W.heap.size W WB := by rw [← hWB]; exact (below_alloc (below_alloc (Below.refl _ _) _) _)
 have hx_bxp : WB.heap[W.heap.size]? = some (.cells #[.pointer (some ⟨pb, 0, none⟩)] 74 (0, 0)) := by
  rw [← hWB]
  exact blk_alloc (blk_new W _) _
 have hx_bxl : WB.heap[W.heap.size + 1]? = some (.cells #[.int .i64 2] 3 (0, 0)) := by
  rw [← hWB]
  have hn := blk_new (W.alloc (.cells #[.pointer (some ⟨pb, 0, none⟩)] 74)) (.cells #[.int .i64 2] 3)
  simp only [World.size_alloc] at hn
  exact hn
 obtain ⟨FB, NB, hnew, holdb, hback⟩ := H0.out.enter hbl
 have BK := ak hback
 have hb_bxp : Box pb WB FB (W.heap.size) (.pointer (some ⟨pb, 0, none⟩)) := ⟨hnew _ (by omega) (blk_lt hx_bxp), _, hx_bxp⟩
 have B_bxp := ak hb_bxp
 have hb_bxl : Box pb WB FB (W.heap.size + 1) (.int .i64 2) := ⟨hnew _ (by omega) (blk_lt hx_bxl), _, hx_bxl⟩
 have B_bxl := ak hb_bxl
 have HN := ak NB
 have c0_bxp := NB.box hb_bxp
 have c0_bxl := NB.box hb_bxl
 rw [hWB]
 have hsz : W.heap.size + 1 + 1 = WB.heap.size := by rw [← hWB]; simp only [World.size_alloc]
 try rw [hsz]
 clear hsz hWB hbl hnew holdb hback NB H0 hb_bxp hb_bxl hx_bxp hx_bxl
 obtain ⟨p1, e1, d1⟩ := sq_cons E0.out
 have R1 := ak e1
 have E2 := ak (d1)
 clear E0 e1 d1
 refine ((ih j (by omega)).binary 3 (by omega) _ _ _ _ _ _ _ _ _ (by omega) (by have := HL.out; omega) HN.out R1.out).mono ?_
 rintro e W3 ⟨rfl, N3⟩
 have H3 := ak N3
 have c3_bxp := N3.box B_bxp.out
 have c3_bxl := N3.box B_bxl.out
 clear N3 HN c0_bxp c0_bxl
 go_wp2_with fail
 obtain ⟨p4, e4, d4⟩ := sq_cons E2.out
 have L4 := ak e4
 have Y4 := ak d4
 clear e4 d4 E2
 go_loopg [] j (fun g wr => ∃ pl s1, Now B T tv pb 10000000 low kd tx WB FB wr s1 ∧ run T g (.binLoop 2) s1 = some pl ∧ pl.2 = p4.2 ∧ g ≤ j)
 case atStart =>
  obtain ⟨_, _, g1, _, _⟩ := run_some L4.out
  exact ⟨_, _, H3.out.fit g1, L4.out, rfl, Nat.le_refl _⟩
 case round =>
  obtain ⟨pl5, s5, N5, hr5, hpl5, hg5⟩ := hrel
  obtain ⟨i5, rfl, f1, f2, f3⟩ := run_some hr5
  have H5 := ak N5
  have E5 := ak f2
  have PL5 := ak hpl5
  have hi5 := ak hg5
  have c5_bxp := N5.box B_bxp.out
  have c5_bxl := N5.box B_bxl.out
  clear N5 hr5 hpl5 hg5 f1 f2 f3 H3 c3_bxp c3_bxl
  go_wp2_with fail
  rcases at_cases H5.out (binOps 2) with b7 | b7
  ·have HI7 := ak b7
   clear b7
   refine start_ (ds := []) (S := (fun w' => w'.cell? ⟨W.heap.size, 0, none⟩ = some (.pointer (some ⟨pb, 0, none⟩)) ∧ w'.cell? ⟨W.heap.size + 1, 0, none⟩ = some (.int .i64 2))) #[false, false, false, false] (by kernel_rfl) rfl rfl ⟨c5_bxp, c5_bxl⟩ (fun hS => ?_)
   refine take_ (i := 0) (N := some 12) (v := .pointer (some ⟨pb, 0, none⟩)) #[true, false, false, false] rfl rfl (by kernel_rfl) (fun _ _ _ h => h) (Or.inl ⟨by kernel_rfl, by rintro w' ⟨z1, z2⟩; go_simp⟩) hS rfl ?_
   simp only [Act.put, sia, List.set]
   refine take_ (i := 1) (N := some 13) (v := .int .i64 2) #[true, true, false, false] rfl rfl (by kernel_rfl) (fun _ _ _ h => h) (Or.inl ⟨by kernel_rfl, by rintro w' ⟨z1, z2⟩; go_simp⟩) hS rfl ?_
   simp only [Act.put, sia, List.set]
   refine one_ (i := 2) (N := some 14) #[true, true, true, false] rfl rfl (by kernel_rfl) (by simp) (fun K hK => ?_)
   go_simp
   refine (ops2_calls _).mono ?_
   rintro e W8 ⟨ob, rfl, hbo, hco⟩
   have N8 := (H5.out.below (below_drew (Below.refl _ _))).below hbo
   have H8 := ak (And.intro N8 hco)
   have cS := And.intro (N8.box B_bxp.out) (N8.box B_bxl.out)
   clear N8 hbo hco
   refine hK.out _ _ cS (fun hS => ?_)
   clear hK
   try simp only [Act.put, sia, List.set]
   refine one_ (i := 3) (N := some 15) #[true, true, true, true] rfl rfl (by kernel_rfl) (by simp) (fun K hK => ?_)
   go_simp
   refine (at_now H8.out.1 (by decide) H8.out.2 (Nat.le_refl _)).mono ?_
   rintro e W9 ⟨rfl, N9⟩
   rw [HI7.out]
   have H9 := ak N9
   have cS := And.intro (N9.box B_bxp.out) (N9.box B_bxl.out)
   refine hK.out _ _ cS (fun hS => ?_)
   clear hK
   try simp only [Act.put, sia, List.set]
   refine wpAnyLast_done (by kernel_rfl) ?_ _
   have c9_bxp := N9.box B_bxp.out
   have c9_bxl := N9.box B_bxl.out
   clear N9 cS hS H5 c5_bxp c5_bxl
   have E10 := ak (if_t HI7.out E5.out)
   clear E5
   go_wp2_with fail
   obtain ⟨p11, e11, d11⟩ := bind_in E10.out
   have X11 := ak e11
   have Y11 := ak d11
   clear e11 d11 E10
   obtain ⟨ks12, t12, p12, s12, e12, d12⟩ := wrap_in X11.out
   have R12 := ak e12
   have D12 := ak d12
   have S12 := ak s12
   clear e12 d12 s12 X11
   refine (wrap_now H9.out S12.out (by omega) (by have := HL.out; have := hi5.out; omega) 39 170 #[] #[.pointer (some ⟨W.heap.size, 0, none⟩), .pointer (some ⟨W.heap.size + 1, 0, none⟩)] p12.2 en_binary_1 (fit_iff.1 (run_fit R12.out)).1 (fun W1 F1 NN old => binRhs2_do  (k := i5) (fun i hi => ih i (by have := hi5.out; omega)) (B_bxp.out.old old) (B_bxl.out.old old) (by rw [List.length_append, List.length_singleton]; have := HL.out; have := hi5.out; omega) i5 (by omega) _ _ _ _ (by omega) NN R12.out)).mono ?_
   rintro e W13 ⟨rfl, N13⟩
   have H13 := ak N13
   have c13_bxp := N13.box B_bxp.out
   have c13_bxl := N13.box B_bxl.out
   clear N13 H9 c9_bxp c9_bxl
   go_wp2_with fail
   have hp14 := D12.out
   have E14 := ak (by have h := Y11.out; rw [hp14] at h; exact h)
   clear hp14 D12 Y11
   have hq15 : p4.2 = _ := PL5.out.symm.trans (congrArg Prod.snd (some_in E14.out))
   have E15 := ak (by have h := Y4.out; rw [hq15] at h; exact h)
   clear hq15 E14
   go_end0
   obtain hq := sq_nil E15.out
   have hf := G.out
   rw [hq] at hf ⊢
   exact ⟨rfl, (BK.out _ _ _ _ _ _ (H13.out.fit hf))⟩
  ·have HI7 := ak b7
   clear b7
   refine start_ (ds := []) (S := (fun w' => w'.cell? ⟨W.heap.size, 0, none⟩ = some (.pointer (some ⟨pb, 0, none⟩)) ∧ w'.cell? ⟨W.heap.size + 1, 0, none⟩ = some (.int .i64 2))) #[false, false, false, false] (by kernel_rfl) rfl rfl ⟨c5_bxp, c5_bxl⟩ (fun hS => ?_)
   refine take_ (i := 0) (N := some 12) (v := .pointer (some ⟨pb, 0, none⟩)) #[true, false, false, false] rfl rfl (by kernel_rfl) (fun _ _ _ h => h) (Or.inl ⟨by kernel_rfl, by rintro w' ⟨z1, z2⟩; go_simp⟩) hS rfl ?_
   simp only [Act.put, sia, List.set]
   refine take_ (i := 1) (N := some 13) (v := .int .i64 2) #[true, true, false, false] rfl rfl (by kernel_rfl) (fun _ _ _ h => h) (Or.inl ⟨by kernel_rfl, by rintro w' ⟨z1, z2⟩; go_simp⟩) hS rfl ?_
   simp only [Act.put, sia, List.set]
   refine one_ (i := 2) (N := some 14) #[true, true, true, false] rfl rfl (by kernel_rfl) (by simp) (fun K hK => ?_)
   go_simp
   refine (ops2_calls _).mono ?_
   rintro e W16 ⟨ob, rfl, hbo, hco⟩
   have N16 := (H5.out.below (below_drew (Below.refl _ _))).below hbo
   have H16 := ak (And.intro N16 hco)
   have cS := And.intro (N16.box B_bxp.out) (N16.box B_bxl.out)
   clear N16 hbo hco
   refine hK.out _ _ cS (fun hS => ?_)
   clear hK
   try simp only [Act.put, sia, List.set]
   refine one_ (i := 3) (N := some 15) #[true, true, true, true] rfl rfl (by kernel_rfl) (by simp) (fun K hK => ?_)
   go_simp
   refine (at_now H16.out.1 (by decide) H16.out.2 (Nat.le_refl _)).mono ?_
   rintro e W17 ⟨rfl, N17⟩
   rw [HI7.out]
   have H17 := ak N17
   have cS := And.intro (N17.box B_bxp.out) (N17.box B_bxl.out)
   refine hK.out _ _ cS (fun hS => ?_)
   clear hK
   try simp only [Act.put, sia, List.set]
   refine wpAnyLast_done (by kernel_rfl) ?_ _
   have c17_bxp := N17.box B_bxp.out
   have c17_bxl := N17.box B_bxl.out
   clear N17 cS hS H5 c5_bxp c5_bxl
   have E18 := ak (if_f HI7.out E5.out)
   clear E5
   go_wp2_with fail
   have hq19 : p4.2 = _ := PL5.out.symm.trans (congrArg Prod.snd (some_in E18.out))
   have E19 := ak (by have h := Y4.out; rw [hq19] at h; exact h)
   clear hq19 E18
   go_end0
   obtain hq := sq_nil E19.out
   have hf := G.out
   rw [hq] at hf ⊢
   exact ⟨rfl, (BK.out _ _ _ _ _ _ (H17.out.fit hf))⟩
theorem binRhs3_do  {k : Nat} {bxp : Nat} {bxl : Nat}  (ih : ∀ i, i < k → IH B T tv pb i) (hb_bxp : Box pb W0 F0 bxp (.pointer (some ⟨pb, 0, none⟩))) (hb_bxl : Box pb W0 F0 bxl (.int .i64 3)) (hlow : low.length + k ≤ 10000000) : Does B T tv pb (k + 1) (.binRhs 3) 170 #[.pointer (some ⟨bxp, 0, none⟩), .pointer (some ⟨bxl, 0, none⟩)] low kd tx W0 F0 := by
 intro i hi m W s q hm N hr
 obtain ⟨j, rfl, h1, h2, h3⟩ := run_some hr
 have H0 := ak (N.fit h1)
 have E0 := ak h2
 have G := ak h3
 have HL := ak (show low.length + (j + 1) ≤ 10000000 by omega)
 have B_bxp := ak hb_bxp
 have c0_bxp := N.box hb_bxp
 have B_bxl := ak hb_bxl
 have c0_bxl := N.box hb_bxl
 clear N h1 h2 h3 hr hlow hb_bxp hb_bxl
 go_enter Tryz.func170, Tryz.ntmps170
 go_wp2_with fail
 have E1 := ak (sq_st E0.out)
 clear E0
 refine (bump_now H0.out (by omega)).mono ?_
 rintro e W2 ⟨rfl, N2⟩
 have H2 := ak N2
 have c2_bxp := N2.box B_bxp.out
 have c2_bxl := N2.box B_bxl.out
 clear N2 H0 c0_bxp c0_bxl
 go_wp2_with fail
 obtain ⟨p3, e3, d3⟩ := sq_cons E1.out
 have R3 := ak e3
 have E4 := ak (d3)
 clear E1 e3 d3
 refine ((ih j (by omega)).binary 4 (by omega) _ _ _ _ _ _ _ _ _ (by omega) (by have := HL.out; omega) H2.out R3.out).mono ?_
 rintro e W5 ⟨rfl, N5⟩
 have H5 := ak N5
 have c5_bxp := N5.box B_bxp.out
 have c5_bxl := N5.box B_bxl.out
 clear N5 H2 c2_bxp c2_bxl
 go_wp2_with fail
 go_end0
 obtain hq := sq_nil E4.out
 have hf := G.out
 rw [hq] at hf ⊢
 exact ⟨⟨_, rfl⟩, _, (H5.out.fit hf)⟩
theorem binary3_go  {k : Nat}  (ih : ∀ i, i < k → IH B T tv pb i) : Meth B T tv pb k (.binary 3) 145 #[.pointer (some ⟨pb, 0, none⟩), .int .i64 3] (fun _ => .tuple #[]) := by
 intro m low kd tx W0 F0 W s q hm hlow N hr
 obtain ⟨j, rfl, h1, h2, h3⟩ := run_some hr
 have H0 := ak (N.fit h1)
 have E0 := ak h2
 have G := ak h3
 have HL := ak hlow
 have RUN := ak hr
 clear N h1 h2 h3 hr hlow
 go_enter Tryz.func145, Tryz.ntmps145
 go_wp2_with fail
 obtain ⟨WB, hWB⟩ : ∃ WB, ((W.alloc (.cells #[.pointer (some ⟨pb, 0, none⟩)] 74)).alloc (.cells #[.int .i64 3] 3)) = WB := ⟨_, rfl⟩
 have hbl : Below W.heap.size W WB := by rw [← hWB]; exact (below_alloc (below_alloc (Below.refl _ _) _) _)
 have hx_bxp : WB.heap[W.heap.size]? = some (.cells #[.pointer (some ⟨pb, 0, none⟩)] 74 (0, 0)) := by
  rw [← hWB]
  exact blk_alloc (blk_new W _) _
 have hx_bxl : WB.heap[W.heap.size + 1]? = some (.cells #[.int .i64 3] 3 (0, 0)) := by
  rw [← hWB]
  have hn := blk_new (W.alloc (.cells #[.pointer (some ⟨pb, 0, none⟩)] 74)) (.cells #[.int .i64 3] 3)
  simp only [World.size_alloc] at hn
  exact hn
 obtain ⟨FB, NB, hnew, holdb, hback⟩ := H0.out.enter hbl
 have BK := ak hback
 have hb_bxp : Box pb WB FB (W.heap.size) (.pointer (some ⟨pb, 0, none⟩)) := ⟨hnew _ (by omega) (blk_lt hx_bxp), _, hx_bxp⟩
 have B_bxp := ak hb_bxp
 have hb_bxl : Box pb WB FB (W.heap.size + 1) (.int .i64 3) := ⟨hnew _ (by omega) (blk_lt hx_bxl), _, hx_bxl⟩
 have B_bxl := ak hb_bxl
 have HN := ak NB
 have c0_bxp := NB.box hb_bxp
 have c0_bxl := NB.box hb_bxl
 rw [hWB]
 have hsz : W.heap.size + 1 + 1 = WB.heap.size := by rw [← hWB]; simp only [World.size_alloc]
 try rw [hsz]
 clear hsz hWB hbl hnew holdb hback NB H0 hb_bxp hb_bxl hx_bxp hx_bxl
 obtain ⟨p1, e1, d1⟩ := sq_cons E0.out
 have R1 := ak e1
 have E2 := ak (d1)
 clear E0 e1 d1
 refine ((ih j (by omega)).binary 4 (by omega) _ _ _ _ _ _ _ _ _ (by omega) (by have := HL.out; omega) HN.out R1.out).mono ?_
 rintro e W3 ⟨rfl, N3⟩
 have H3 := ak N3
 have c3_bxp := N3.box B_bxp.out
 have c3_bxl := N3.box B_bxl.out
 clear N3 HN c0_bxp c0_bxl
 go_wp2_with fail
 obtain ⟨p4, e4, d4⟩ := sq_cons E2.out
 have L4 := ak e4
 have Y4 := ak d4
 clear e4 d4 E2
 go_loopg [] j (fun g wr => ∃ pl s1, Now B T tv pb 10000000 low kd tx WB FB wr s1 ∧ run T g (.binLoop 3) s1 = some pl ∧ pl.2 = p4.2 ∧ g ≤ j)
 case atStart =>
  obtain ⟨_, _, g1, _, _⟩ := run_some L4.out
  exact ⟨_, _, H3.out.fit g1, L4.out, rfl, Nat.le_refl _⟩
 case round =>
  obtain ⟨pl5, s5, N5, hr5, hpl5, hg5⟩ := hrel
  obtain ⟨i5, rfl, f1, f2, f3⟩ := run_some hr5
  have H5 := ak N5
  have E5 := ak f2
  have PL5 := ak hpl5
  have hi5 := ak hg5
  have c5_bxp := N5.box B_bxp.out
  have c5_bxl := N5.box B_bxl.out
  clear N5 hr5 hpl5 hg5 f1 f2 f3 H3 c3_bxp c3_bxl
  go_wp2_with fail
  rcases at_cases H5.out (binOps 3) with b7 | b7
  ·have HI7 := ak b7
   clear b7
   refine start_ (ds := []) (S := (fun w' => w'.cell? ⟨W.heap.size, 0, none⟩ = some (.pointer (some ⟨pb, 0, none⟩)) ∧ w'.cell? ⟨W.heap.size + 1, 0, none⟩ = some (.int .i64 3))) #[false, false, false, false] (by kernel_rfl) rfl rfl ⟨c5_bxp, c5_bxl⟩ (fun hS => ?_)
   refine take_ (i := 0) (N := some 12) (v := .pointer (some ⟨pb, 0, none⟩)) #[true, false, false, false] rfl rfl (by kernel_rfl) (fun _ _ _ h => h) (Or.inl ⟨by kernel_rfl, by rintro w' ⟨z1, z2⟩; go_simp⟩) hS rfl ?_
   simp only [Act.put, sia, List.set]
   refine take_ (i := 1) (N := some 13) (v := .int .i64 3) #[true, true, false, false] rfl rfl (by kernel_rfl) (fun _ _ _ h => h) (Or.inl ⟨by kernel_rfl, by rintro w' ⟨z1, z2⟩; go_simp⟩) hS rfl ?_
   simp only [Act.put, sia, List.set]
   refine one_ (i := 2) (N := some 14) #[true, true, true, false] rfl rfl (by kernel_rfl) (by simp) (fun K hK => ?_)
   go_simp
   refine (ops3_calls _).mono ?_
   rintro e W8 ⟨ob, rfl, hbo, hco⟩
   have N8 := (H5.out.below (below_drew (Below.refl _ _))).below hbo
   have H8 := ak (And.intro N8 hco)
   have cS := And.intro (N8.box B_bxp.out) (N8.box B_bxl.out)
   clear N8 hbo hco
   refine hK.out _ _ cS (fun hS => ?_)
   clear hK
   try simp only [Act.put, sia, List.set]
   refine one_ (i := 3) (N := some 15) #[true, true, true, true] rfl rfl (by kernel_rfl) (by simp) (fun K hK => ?_)
   go_simp
   refine (at_now H8.out.1 (by decide) H8.out.2 (Nat.le_refl _)).mono ?_
   rintro e W9 ⟨rfl, N9⟩
   rw [HI7.out]
   have H9 := ak N9
   have cS := And.intro (N9.box B_bxp.out) (N9.box B_bxl.out)
   refine hK.out _ _ cS (fun hS => ?_)
   clear hK
   try simp only [Act.put, sia, List.set]
   refine wpAnyLast_done (by kernel_rfl) ?_ _
   have c9_bxp := N9.box B_bxp.out
   have c9_bxl := N9.box B_bxl.out
   clear N9 cS hS H5 c5_bxp c5_bxl
   have E10 := ak (if_t HI7.out E5.out)
   clear E5
   go_wp2_with fail
   obtain ⟨p11, e11, d11⟩ := bind_in E10.out
   have X11 := ak e11
   have Y11 := ak d11
   clear e11 d11 E10
   obtain ⟨ks12, t12, p12, s12, e12, d12⟩ := wrap_in X11.out
   have R12 := ak e12
   have D12 := ak d12
   have S12 := ak s12
   clear e12 d12 s12 X11
   refine (wrap_now H9.out S12.out (by omega) (by have := HL.out; have := hi5.out; omega) 39 170 #[] #[.pointer (some ⟨W.heap.size, 0, none⟩), .pointer (some ⟨W.heap.size + 1, 0, none⟩)] p12.2 en_binary_1 (fit_iff.1 (run_fit R12.out)).1 (fun W1 F1 NN old => binRhs3_do  (k := i5) (fun i hi => ih i (by have := hi5.out; omega)) (B_bxp.out.old old) (B_bxl.out.old old) (by rw [List.length_append, List.length_singleton]; have := HL.out; have := hi5.out; omega) i5 (by omega) _ _ _ _ (by omega) NN R12.out)).mono ?_
   rintro e W13 ⟨rfl, N13⟩
   have H13 := ak N13
   have c13_bxp := N13.box B_bxp.out
   have c13_bxl := N13.box B_bxl.out
   clear N13 H9 c9_bxp c9_bxl
   go_wp2_with fail
   have hp14 := D12.out
   have E14 := ak (by have h := Y11.out; rw [hp14] at h; exact h)
   clear hp14 D12 Y11
   go_roundg i5
   case rel =>
    obtain ⟨_, _, g1, _, _⟩ := run_some E14.out
    exact ⟨_, _, H13.out.fit g1, E14.out, PL5.out, by have := hi5.out; omega⟩
   case measure => omega
  ·have HI7 := ak b7
   clear b7
   refine start_ (ds := []) (S := (fun w' => w'.cell? ⟨W.heap.size, 0, none⟩ = some (.pointer (some ⟨pb, 0, none⟩)) ∧ w'.cell? ⟨W.heap.size + 1, 0, none⟩ = some (.int .i64 3))) #[false, false, false, false] (by kernel_rfl) rfl rfl ⟨c5_bxp, c5_bxl⟩ (fun hS => ?_)
   refine take_ (i := 0) (N := some 12) (v := .pointer (some ⟨pb, 0, none⟩)) #[true, false, false, false] rfl rfl (by kernel_rfl) (fun _ _ _ h => h) (Or.inl ⟨by kernel_rfl, by rintro w' ⟨z1, z2⟩; go_simp⟩) hS rfl ?_
   simp only [Act.put, sia, List.set]
   refine take_ (i := 1) (N := some 13) (v := .int .i64 3) #[true, true, false, false] rfl rfl (by kernel_rfl) (fun _ _ _ h => h) (Or.inl ⟨by kernel_rfl, by rintro w' ⟨z1, z2⟩; go_simp⟩) hS rfl ?_
   simp only [Act.put, sia, List.set]
   refine one_ (i := 2) (N := some 14) #[true, true, true, false] rfl rfl (by kernel_rfl) (by simp) (fun K hK => ?_)
   go_simp
   refine (ops3_calls _).mono ?_
   rintro e W15 ⟨ob, rfl, hbo, hco⟩
   have N15 := (H5.out.below (below_drew (Below.refl _ _))).below hbo
   have H15 := ak (And.intro N15 hco)
   have cS := And.intro (N15.box B_bxp.out) (N15.box B_bxl.out)
   clear N15 hbo hco
   refine hK.out _ _ cS (fun hS => ?_)
   clear hK
   try simp only [Act.put, sia, List.set]
   refine one_ (i := 3) (N := some 15) #[true, true, true, true] rfl rfl (by kernel_rfl) (by simp) (fun K hK => ?_)
   go_simp
   refine (at_now H15.out.1 (by decide) H15.out.2 (Nat.le_refl _)).mono ?_
   rintro e W16 ⟨rfl, N16⟩
   rw [HI7.out]
   have H16 := ak N16
   have cS := And.intro (N16.box B_bxp.out) (N16.box B_bxl.out)
   refine hK.out _ _ cS (fun hS => ?_)
   clear hK
   try simp only [Act.put, sia, List.set]
   refine wpAnyLast_done (by kernel_rfl) ?_ _
   have c16_bxp := N16.box B_bxp.out
   have c16_bxl := N16.box B_bxl.out
   clear N16 cS hS H5 c5_bxp c5_bxl
   have E17 := ak (if_f HI7.out E5.out)
   clear E5
   go_wp2_with fail
   have hq18 : p4.2 = _ := PL5.out.symm.trans (congrArg Prod.snd (some_in E17.out))
   have E18 := ak (by have h := Y4.out; rw [hq18] at h; exact h)
   clear hq18 E17
   go_end0
   obtain hq := sq_nil E18.out
   have hf := G.out
   rw [hq] at hf ⊢
   exact ⟨rfl, (BK.out _ _ _ _ _ _ (H16.out.fit hf))⟩
theorem binRhs4_do  {k : Nat} {bxp : Nat} {bxl : Nat}  (ih : ∀ i, i < k → IH B T tv pb i) (hb_bxp : Box pb W0 F0 bxp (.pointer (some ⟨pb, 0, none⟩))) (hb_bxl : Box pb W0 F0 bxl (.int .i64 4)) (hlow : low.length + k ≤ 10000000) : Does B T tv pb (k + 1) (.binRhs 4) 170 #[.pointer (some ⟨bxp, 0, none⟩), .pointer (some ⟨bxl, 0, none⟩)] low kd tx W0 F0 := by
 intro i hi m W s q hm N hr
 obtain ⟨j, rfl, h1, h2, h3⟩ := run_some hr
 have H0 := ak (N.fit h1)
 have E0 := ak h2
 have G := ak h3
 have HL := ak (show low.length + (j + 1) ≤ 10000000 by omega)
 have B_bxp := ak hb_bxp
 have c0_bxp := N.box hb_bxp
 have B_bxl := ak hb_bxl
 have c0_bxl := N.box hb_bxl
 clear N h1 h2 h3 hr hlow hb_bxp hb_bxl
 go_enter Tryz.func170, Tryz.ntmps170
 go_wp2_with fail
 have E1 := ak (sq_st E0.out)
 clear E0
 refine (bump_now H0.out (by omega)).mono ?_
 rintro e W2 ⟨rfl, N2⟩
 have H2 := ak N2
 have c2_bxp := N2.box B_bxp.out
 have c2_bxl := N2.box B_bxl.out
 clear N2 H0 c0_bxp c0_bxl
 go_wp2_with fail
 obtain ⟨p3, e3, d3⟩ := sq_cons E1.out
 have R3 := ak e3
 have E4 := ak (d3)
 clear E1 e3 d3
 refine ((ih j (by omega)).binary 5 (by omega) _ _ _ _ _ _ _ _ _ (by omega) (by have := HL.out; omega) H2.out R3.out).mono ?_
 rintro e W5 ⟨rfl, N5⟩
 have H5 := ak N5
 have c5_bxp := N5.box B_bxp.out
 have c5_bxl := N5.box B_bxl.out
 clear N5 H2 c2_bxp c2_bxl
 go_wp2_with fail
 go_end0
 obtain hq := sq_nil E4.out
 have hf := G.out
 rw [hq] at hf ⊢
 exact ⟨⟨_, rfl⟩, _, (H5.out.fit hf)⟩
theorem binary4_go  {k : Nat}  (ih : ∀ i, i < k → IH B T tv pb i) : Meth B T tv pb k (.binary 4) 145 #[.pointer (some ⟨pb, 0, none⟩), .int .i64 4] (fun _ => .tuple #[]) := by
 intro m low kd tx W0 F0 W s q hm hlow N hr
 obtain ⟨j, rfl, h1, h2, h3⟩ := run_some hr
 have H0 := ak (N.fit h1)
 have E0 := ak h2
 have G := ak h3
 have HL := ak hlow
 have RUN := ak hr
 clear N h1 h2 h3 hr hlow
 go_enter Tryz.func145, Tryz.ntmps145
 go_wp2_with fail
 obtain ⟨WB, hWB⟩ : ∃ WB, ((W.alloc (.cells #[.pointer (some ⟨pb, 0, none⟩)] 74)).alloc (.cells #[.int .i64 4] 3)) = WB := ⟨_, rfl⟩
 have hbl : Below W.heap.size W WB := by rw [← hWB]; exact (below_alloc (below_alloc (Below.refl _ _) _) _)
 have hx_bxp : WB.heap[W.heap.size]? = some (.cells #[.pointer (some ⟨pb, 0, none⟩)] 74 (0, 0)) := by
  rw [← hWB]
  exact blk_alloc (blk_new W _) _
 have hx_bxl : WB.heap[W.heap.size + 1]? = some (.cells #[.int .i64 4] 3 (0, 0)) := by
  rw [← hWB]
  have hn := blk_new (W.alloc (.cells #[.pointer (some ⟨pb, 0, none⟩)] 74)) (.cells #[.int .i64 4] 3)
  simp only [World.size_alloc] at hn
  exact hn
 obtain ⟨FB, NB, hnew, holdb, hback⟩ := H0.out.enter hbl
 have BK := ak hback
 have hb_bxp : Box pb WB FB (W.heap.size) (.pointer (some ⟨pb, 0, none⟩)) := ⟨hnew _ (by omega) (blk_lt hx_bxp), _, hx_bxp⟩
 have B_bxp := ak hb_bxp
 have hb_bxl : Box pb WB FB (W.heap.size + 1) (.int .i64 4) := ⟨hnew _ (by omega) (blk_lt hx_bxl), _, hx_bxl⟩
 have B_bxl := ak hb_bxl
 have HN := ak NB
 have c0_bxp := NB.box hb_bxp
 have c0_bxl := NB.box hb_bxl
 rw [hWB]
 have hsz : W.heap.size + 1 + 1 = WB.heap.size := by rw [← hWB]; simp only [World.size_alloc]
 try rw [hsz]
 clear hsz hWB hbl hnew holdb hback NB H0 hb_bxp hb_bxl hx_bxp hx_bxl
 obtain ⟨p1, e1, d1⟩ := sq_cons E0.out
 have R1 := ak e1
 have E2 := ak (d1)
 clear E0 e1 d1
 refine ((ih j (by omega)).binary 5 (by omega) _ _ _ _ _ _ _ _ _ (by omega) (by have := HL.out; omega) HN.out R1.out).mono ?_
 rintro e W3 ⟨rfl, N3⟩
 have H3 := ak N3
 have c3_bxp := N3.box B_bxp.out
 have c3_bxl := N3.box B_bxl.out
 clear N3 HN c0_bxp c0_bxl
 go_wp2_with fail
 obtain ⟨p4, e4, d4⟩ := sq_cons E2.out
 have L4 := ak e4
 have Y4 := ak d4
 clear e4 d4 E2
 go_loopg [] j (fun g wr => ∃ pl s1, Now B T tv pb 10000000 low kd tx WB FB wr s1 ∧ run T g (.binLoop 4) s1 = some pl ∧ pl.2 = p4.2 ∧ g ≤ j)
 case atStart =>
  obtain ⟨_, _, g1, _, _⟩ := run_some L4.out
  exact ⟨_, _, H3.out.fit g1, L4.out, rfl, Nat.le_refl _⟩
 case round =>
  obtain ⟨pl5, s5, N5, hr5, hpl5, hg5⟩ := hrel
  obtain ⟨i5, rfl, f1, f2, f3⟩ := run_some hr5
  have H5 := ak N5
  have E5 := ak f2
  have PL5 := ak hpl5
  have hi5 := ak hg5
  have c5_bxp := N5.box B_bxp.out
  have c5_bxl := N5.box B_bxl.out
  clear N5 hr5 hpl5 hg5 f1 f2 f3 H3 c3_bxp c3_bxl
  go_wp2_with fail
  rcases at_cases H5.out (binOps 4) with b7 | b7
  ·have HI7 := ak b7
   clear b7
   refine start_ (ds := []) (S := (fun w' => w'.cell? ⟨W.heap.size, 0, none⟩ = some (.pointer (some ⟨pb, 0, none⟩)) ∧ w'.cell? ⟨W.heap.size + 1, 0, none⟩ = some (.int .i64 4))) #[false, false, false, false] (by kernel_rfl) rfl rfl ⟨c5_bxp, c5_bxl⟩ (fun hS => ?_)
   refine take_ (i := 0) (N := some 12) (v := .pointer (some ⟨pb, 0, none⟩)) #[true, false, false, false] rfl rfl (by kernel_rfl) (fun _ _ _ h => h) (Or.inl ⟨by kernel_rfl, by rintro w' ⟨z1, z2⟩; go_simp⟩) hS rfl ?_
   simp only [Act.put, sia, List.set]
   refine take_ (i := 1) (N := some 13) (v := .int .i64 4) #[true, true, false, false] rfl rfl (by kernel_rfl) (fun _ _ _ h => h) (Or.inl ⟨by kernel_rfl, by rintro w' ⟨z1, z2⟩; go_simp⟩) hS rfl ?_
   simp only [Act.put, sia, List.set]
   refine one_ (i := 2) (N := some 14) #[true, true, true, false] rfl rfl (by kernel_rfl) (by simp) (fun K hK => ?_)
   go_simp
   refine (ops4_calls _).mono ?_
   rintro e W8 ⟨ob, rfl, hbo, hco⟩
   have N8 := (H5.out.below (below_drew (Below.refl _ _))).below hbo
   have H8 := ak (And.intro N8 hco)
   have cS := And.intro (N8.box B_bxp.out) (N8.box B_bxl.out)
   clear N8 hbo hco
   refine hK.out _ _ cS (fun hS => ?_)
   clear hK
   try simp only [Act.put, sia, List.set]
   refine one_ (i := 3) (N := some 15) #[true, true, true, true] rfl rfl (by kernel_rfl) (by simp) (fun K hK => ?_)
   go_simp
   refine (at_now H8.out.1 (by decide) H8.out.2 (Nat.le_refl _)).mono ?_
   rintro e W9 ⟨rfl, N9⟩
   rw [HI7.out]
   have H9 := ak N9
   have cS := And.intro (N9.box B_bxp.out) (N9.box B_bxl.out)
   refine hK.out _ _ cS (fun hS => ?_)
   clear hK
   try simp only [Act.put, sia, List.set]
   refine wpAnyLast_done (by kernel_rfl) ?_ _
   have c9_bxp := N9.box B_bxp.out
   have c9_bxl := N9.box B_bxl.out
   clear N9 cS hS H5 c5_bxp c5_bxl
   have E10 := ak (if_t HI7.out E5.out)
   clear E5
   go_wp2_with fail
   obtain ⟨p11, e11, d11⟩ := bind_in E10.out
   have X11 := ak e11
   have Y11 := ak d11
   clear e11 d11 E10
   obtain ⟨ks12, t12, p12, s12, e12, d12⟩ := wrap_in X11.out
   have R12 := ak e12
   have D12 := ak d12
   have S12 := ak s12
   clear e12 d12 s12 X11
   refine (wrap_now H9.out S12.out (by omega) (by have := HL.out; have := hi5.out; omega) 39 170 #[] #[.pointer (some ⟨W.heap.size, 0, none⟩), .pointer (some ⟨W.heap.size + 1, 0, none⟩)] p12.2 en_binary_1 (fit_iff.1 (run_fit R12.out)).1 (fun W1 F1 NN old => binRhs4_do  (k := i5) (fun i hi => ih i (by have := hi5.out; omega)) (B_bxp.out.old old) (B_bxl.out.old old) (by rw [List.length_append, List.length_singleton]; have := HL.out; have := hi5.out; omega) i5 (by omega) _ _ _ _ (by omega) NN R12.out)).mono ?_
   rintro e W13 ⟨rfl, N13⟩
   have H13 := ak N13
   have c13_bxp := N13.box B_bxp.out
   have c13_bxl := N13.box B_bxl.out
   clear N13 H9 c9_bxp c9_bxl
   go_wp2_with fail
   have hp14 := D12.out
   have E14 := ak (by have h := Y11.out; rw [hp14] at h; exact h)
   clear hp14 D12 Y11
   go_roundg i5
   case rel =>
    obtain ⟨_, _, g1, _, _⟩ := run_some E14.out
    exact ⟨_, _, H13.out.fit g1, E14.out, PL5.out, by have := hi5.out; omega⟩
   case measure => omega
  ·have HI7 := ak b7
   clear b7
   refine start_ (ds := []) (S := (fun w' => w'.cell? ⟨W.heap.size, 0, none⟩ = some (.pointer (some ⟨pb, 0, none⟩)) ∧ w'.cell? ⟨W.heap.size + 1, 0, none⟩ = some (.int .i64 4))) #[false, false, false, false] (by kernel_rfl) rfl rfl ⟨c5_bxp, c5_bxl⟩ (fun hS => ?_)
   refine take_ (i := 0) (N := some 12) (v := .pointer (some ⟨pb, 0, none⟩)) #[true, false, false, false] rfl rfl (by kernel_rfl) (fun _ _ _ h => h) (Or.inl ⟨by kernel_rfl, by rintro w' ⟨z1, z2⟩; go_simp⟩) hS rfl ?_
   simp only [Act.put, sia, List.set]
   refine take_ (i := 1) (N := some 13) (v := .int .i64 4) #[true, true, false, false] rfl rfl (by kernel_rfl) (fun _ _ _ h => h) (Or.inl ⟨by kernel_rfl, by rintro w' ⟨z1, z2⟩; go_simp⟩) hS rfl ?_
   simp only [Act.put, sia, List.set]
   refine one_ (i := 2) (N := some 14) #[true, true, true, false] rfl rfl (by kernel_rfl) (by simp) (fun K hK => ?_)
   go_simp
   refine (ops4_calls _).mono ?_
   rintro e W15 ⟨ob, rfl, hbo, hco⟩
   have N15 := (H5.out.below (below_drew (Below.refl _ _))).below hbo
   have H15 := ak (And.intro N15 hco)
   have cS := And.intro (N15.box B_bxp.out) (N15.box B_bxl.out)
   clear N15 hbo hco
   refine hK.out _ _ cS (fun hS => ?_)
   clear hK
   try simp only [Act.put, sia, List.set]
   refine one_ (i := 3) (N := some 15) #[true, true, true, true] rfl rfl (by kernel_rfl) (by simp) (fun K hK => ?_)
   go_simp
   refine (at_now H15.out.1 (by decide) H15.out.2 (Nat.le_refl _)).mono ?_
   rintro e W16 ⟨rfl, N16⟩
   rw [HI7.out]
   have H16 := ak N16
   have cS := And.intro (N16.box B_bxp.out) (N16.box B_bxl.out)
   refine hK.out _ _ cS (fun hS => ?_)
   clear hK
   try simp only [Act.put, sia, List.set]
   refine wpAnyLast_done (by kernel_rfl) ?_ _
   have c16_bxp := N16.box B_bxp.out
   have c16_bxl := N16.box B_bxl.out
   clear N16 cS hS H5 c5_bxp c5_bxl
   have E17 := ak (if_f HI7.out E5.out)
   clear E5
   go_wp2_with fail
   have hq18 : p4.2 = _ := PL5.out.symm.trans (congrArg Prod.snd (some_in E17.out))
   have E18 := ak (by have h := Y4.out; rw [hq18] at h; exact h)
   clear hq18 E17
   go_end0
   obtain hq := sq_nil E18.out
   have hf := G.out
   rw [hq] at hf ⊢
   exact ⟨rfl, (BK.out _ _ _ _ _ _ (H16.out.fit hf))⟩
theorem binary5_go  {k : Nat}  (ih : ∀ i, i < k → IH B T tv pb i) : Meth B T tv pb k (.binary 5) 145 #[.pointer (some ⟨pb, 0, none⟩), .int .i64 5] (fun _ => .tuple #[]) := by
 intro m low kd tx W0 F0 W s q hm hlow N hr
 obtain ⟨j, rfl, h1, h2, h3⟩ := run_some hr
 have H0 := ak (N.fit h1)
 have E0 := ak h2
 have G := ak h3
 have HL := ak hlow
 have RUN := ak hr
 clear N h1 h2 h3 hr hlow
 go_enter Tryz.func145, Tryz.ntmps145
 go_wp2_with fail
 obtain ⟨WB, hWB⟩ : ∃ WB, ((W.alloc (.cells #[.pointer (some ⟨pb, 0, none⟩)] 74)).alloc (.cells #[.int .i64 5] 3)) = WB := ⟨_, rfl⟩
 have hbl : Below W.heap.size W WB := by rw [← hWB]; exact (below_alloc (below_alloc (Below.refl _ _) _) _)
 have hx_bxp : WB.heap[W.heap.size]? = some (.cells #[.pointer (some ⟨pb, 0, none⟩)] 74 (0, 0)) := by
  rw [← hWB]
  exact blk_alloc (blk_new W _) _
 have hx_bxl : WB.heap[W.heap.size + 1]? = some (.cells #[.int .i64 5] 3 (0, 0)) := by
  rw [← hWB]
  have hn := blk_new (W.alloc (.cells #[.pointer (some ⟨pb, 0, none⟩)] 74)) (.cells #[.int .i64 5] 3)
  simp only [World.size_alloc] at hn
  exact hn
 obtain ⟨FB, NB, hnew, holdb, hback⟩ := H0.out.enter hbl
 have BK := ak hback
 have hb_bxp : Box pb WB FB (W.heap.size) (.pointer (some ⟨pb, 0, none⟩)) := ⟨hnew _ (by omega) (blk_lt hx_bxp), _, hx_bxp⟩
 have B_bxp := ak hb_bxp
 have hb_bxl : Box pb WB FB (W.heap.size + 1) (.int .i64 5) := ⟨hnew _ (by omega) (blk_lt hx_bxl), _, hx_bxl⟩
 have B_bxl := ak hb_bxl
 have HN := ak NB
 have c0_bxp := NB.box hb_bxp
 have c0_bxl := NB.box hb_bxl
 rw [hWB]
 have hsz : W.heap.size + 1 + 1 = WB.heap.size := by rw [← hWB]; simp only [World.size_alloc]
 try rw [hsz]
 clear hsz hWB hbl hnew holdb hback NB H0 hb_bxp hb_bxl hx_bxp hx_bxl
 refine ((ih j (by omega)).unary _ _ _ _ _ _ _ _ _ (by omega) (by have := HL.out; omega) HN.out E0.out).mono ?_
 rintro e W1 ⟨rfl, N1⟩
 have H1 := ak N1
 have c1_bxp := N1.box B_bxp.out
 have c1_bxl := N1.box B_bxl.out
 clear N1 HN c0_bxp c0_bxl
 go_wp2_with fail
 go_end0
 exact ⟨rfl, (BK.out _ _ _ _ _ _ H1.out)⟩
theorem blockB_do {k : Nat} {bxp : Nat} (ih : ∀ i, i < k → IH B T tv pb i) (hb_bxp : Box pb W0 F0 bxp (.pointer (some ⟨pb, 0, none⟩))) (hlow : low.length + k ≤ 10000000) : Does B T tv pb (k + 1) .blockB 159 #[.pointer (some ⟨bxp, 0, none⟩)] low kd tx W0 F0 := by
 intro i hi m W s q hm N hr
 obtain ⟨j, rfl, h1, h2, h3⟩ := run_some hr
 have H0 := ak (N.fit h1)
 obtain ⟨p, e1, e2⟩ := bind_in h2
 have E0 := ak e1
 have E9 := ak (And.intro (some_in e2) h3)
 have B_bxp := ak hb_bxp
 have c0_bxp := N.box hb_bxp
 have HL := ak (show low.length + (j + 1) ≤ 10000000 by omega)
 clear N h1 h2 h3 hr hlow hb_bxp e1 e2
 go_enter Tryz.func159, Tryz.ntmps159
 go_wp2_with fail
 refine (expect_now H0.out (by omega) _).mono ?_
 rintro e W1 ⟨rfl, N1⟩
 have H1 := ak N1
 clear N1 H0 c0_bxp
 go_wp2_with fail
 go_loopg [1] j (fun g v wr => ∃ hv s1, v = .bool hv ∧ Now B T tv pb 10000000 low kd tx W0 F0 wr s1 ∧ g ≤ j ∧ ((hv = true ∧ p = (true, s1)) ∨ (hv = false ∧ run T g .stmts s1 = some p)))
 case atStart =>
  obtain ⟨_, _, g1, _, _⟩ := run_some E0.out
  exact ⟨false, _, rfl, H1.out.fit g1, Nat.le_refl _, .inr ⟨rfl, E0.out⟩⟩
 case round =>
  obtain ⟨hv, s1, rfl, N2, hg, hor⟩ := hrel
  have H2 := ak N2
  have hi2 := ak hg
  have c2_bxp := N2.box B_bxp.out
  clear N2 hg
  rcases hor with ⟨rfl, hp⟩ | ⟨rfl, hr1⟩
  ·have E2 := ak hp
   clear hp
   go_wp2_with fail
   refine start_ (ds := []) (S := (fun w' => w'.cell? ⟨bxp, 0, none⟩ = some (.pointer (some ⟨pb, 0, none⟩)))) #[false, false, false, false, false, false, false, false, false, false, false, false, false, false, false, false, false, false, false] (by kernel_rfl) rfl rfl c2_bxp (fun hS => ?_)
   refine take_ (i := 0) (N := some 4) (v := .bool true) #[true, false, false, false, false, false, false, false, false, false, false, false, false, false, false, false, false, false, false] rfl rfl (by kernel_rfl) (fun _ _ _ h => h) (Or.inl ⟨by kernel_rfl, by intro w' z1; go_simp⟩) hS rfl ?_
   simp only [Act.put, sia, List.set]
   refine take_ (i := 1) (N := some 5) (v := .bool false) #[true, true, false, false, false, false, false, false, false, false, false, false, false, false, false, false, false, false, false] rfl rfl (by kernel_rfl) (fun _ _ _ h => h) (Or.inl ⟨by kernel_rfl, by intro w' z1; go_simp⟩) hS rfl ?_
   simp only [Act.put, sia, List.set]
   refine take_ (i := 2) (N := some 6) (v := .bool false) #[true, true, true, false, false, false, false, false, false, false, false, false, false, false, false, false, false, false, false] rfl rfl (by kernel_rfl) (fun _ _ _ h => h) (Or.inl ⟨by kernel_rfl, by intro w' z1; go_simp⟩) hS rfl ?_
   simp only [Act.put, sia, List.set]
   refine take_ (i := 3) (N := some 7) (v := undef) #[true, true, true, true, false, false, false, false, false, false, false, false, false, false, false, false, false, false, false] rfl rfl (by kernel_rfl) (fun _ _ _ h => h) (Or.inr ⟨by kernel_rfl, rfl⟩) hS rfl ?_
   simp only [Act.put, sia, List.set]
   refine take_ (i := 4) (N := some 8) (v := undef) #[true, true, true, true, true, false, false, false, false, false, false, false, false, false, false, false, false, false, false] rfl rfl (by kernel_rfl) (fun _ _ _ h => h) (Or.inr ⟨by kernel_rfl, rfl⟩) hS rfl ?_
   simp only [Act.put, sia, List.set]
   refine take_ (i := 5) (N := some 9) (v := undef) #[true, true, true, true, true, true, false, false, false, false, false, false, false, false, false, false, false, false, false] rfl rfl (by kernel_rfl) (fun _ _ _ h => h) (Or.inr ⟨by kernel_rfl, rfl⟩) hS rfl ?_
   simp only [Act.put, sia, List.set]
   refine take_ (i := 6) (N := some 10) (v := undef) #[true, true, true, true, true, true, true, false, false, false, false, false, false, false, false, false, false, false, false] rfl rfl (by kernel_rfl) (fun _ _ _ h => h) (Or.inr ⟨by kernel_rfl, rfl⟩) hS rfl ?_
   simp only [Act.put, sia, List.set]
   refine take_ (i := 7) (N := some 11) (v := .bool false) #[true, true, true, true, true, true, true, true, false, false, false, false, false, false, false, false, false, false, false] rfl rfl (by kernel_rfl) (fun _ _ _ h => h) (Or.inl ⟨by kernel_rfl, by intro w' z1; go_simp⟩) hS rfl ?_
   simp only [Act.put, sia, List.set]
   refine take_ (i := 8) (N := some 12) (v := .bool false) #[true, true, true, true, true, true, true, true, true, false, false, false, false, false, false, false, false, false, false] rfl rfl (by kernel_rfl) (fun _ _ _ h => h) (Or.inl ⟨by kernel_rfl, by intro w' z1; go_simp⟩) hS rfl ?_
   simp only [Act.put, sia, List.set]
   refine take_ (i := 9) (N := some 13) (v := undef) #[true, true, true, true, true, true, true, true, true, true, false, false, false, false, false, false, false, false, false] rfl rfl (by kernel_rfl) (fun _ _ _ h => h) (Or.inr ⟨by kernel_rfl, rfl⟩) hS rfl ?_
   simp only [Act.put, sia, List.set]
   refine take_ (i := 10) (N := some 14) (v := undef) #[true, true, true, true, true, true, true, true, true, true, true, false, false, false, false, false, false, false, false] rfl rfl (by kernel_rfl) (fun _ _ _ h => h) (Or.inr ⟨by kernel_rfl, rfl⟩) hS rfl ?_
   simp only [Act.put, sia, List.set]
   refine take_ (i := 11) (N := some 15) (v := undef) #[true, true, true, true, true, true, true, true, true, true, true, true, false, false, false, false, false, false, false] rfl rfl (by kernel_rfl) (fun _ _ _ h => h) (Or.inr ⟨by kernel_rfl, rfl⟩) hS rfl ?_
   simp only [Act.put, sia, List.set]
   refine take_ (i := 12) (N := some 16) (v := .bool false) #[true, true, true, true, true, true, true, true, true, true, true, true, true, false, false, false, false, false, false] rfl rfl (by kernel_rfl) (fun _ _ _ h => h) (Or.inl ⟨by kernel_rfl, by intro w' z1; go_simp⟩) hS rfl ?_
   simp only [Act.put, sia, List.set]
   refine take_ (i := 13) (N := some 17) (v := .bool false) #[true, true, true, true, true, true, true, true, true, true, true, true, true, true, false, false, false, false, false] rfl rfl (by kernel_rfl) (fun _ _ _ h => h) (Or.inl ⟨by kernel_rfl, by intro w' z1; go_simp⟩) hS rfl ?_
   simp only [Act.put, sia, List.set]
   refine take_ (i := 14) (N := some 18) (v := undef) #[true, true, true, true, true, true, true, true, true, true, true, true, true, true, true, false, false, false, false] rfl rfl (by kernel_rfl) (fun _ _ _ h => h) (Or.inr ⟨by kernel_rfl, rfl⟩) hS rfl ?_
   simp only [Act.put, sia, List.set]
   refine take_ (i := 15) (N := some 19) (v := undef) #[true, true, true, true, true, true, true, true, true, true, true, true, true, true, true, true, false, false, false] rfl rfl (by kernel_rfl) (fun _ _ _ h => h) (Or.inr ⟨by kernel_rfl, rfl⟩) hS rfl ?_
   simp only [Act.put, sia, List.set]
   refine take_ (i := 16) (N := some 20) (v := undef) #[true, true, true, true, true, true, true, true, true, true, true, true, true, true, true, true, true, false, false] rfl rfl (by kernel_rfl) (fun _ _ _ h => h) (Or.inr ⟨by kernel_rfl, rfl⟩) hS rfl ?_
   simp only [Act.put, sia, List.set]
   refine take_ (i := 17) (N := some 21) (v := undef) #[true, true, true, true, true, true, true, true, true, true, true, true, true, true, true, true, true, true, false] rfl rfl (by kernel_rfl) (fun _ _ _ h => h) (Or.inr ⟨by kernel_rfl, rfl⟩) hS rfl ?_
   simp only [Act.put, sia, List.set]
   refine take_ (i := 18) (N := some 22) (v := .bool false) #[true, true, true, true, true, true, true, true, true, true, true, true, true, true, true, true, true, true, true] rfl rfl (by kernel_rfl) (fun _ _ _ h => h) (Or.inl ⟨by kernel_rfl, by intro w' z1; go_simp⟩) hS rfl ?_
   simp only [Act.put, sia, List.set]
   refine wpAnyLast_done (by kernel_rfl) ?_ _
   go_wp2_with fail
   refine (expect_now (H2.out.below (below_drew (Below.refl _ _))) (by omega) _).mono ?_
   rintro e W8 ⟨rfl, N8⟩
   have H8 := ak N8
   clear N8
   go_wp2_with fail
   go_end0
   obtain ⟨hq, hf⟩ := E9.out
   rw [E2.out] at hq
   rw [if_pos rfl] at hq
   subst hq
   exact ⟨⟨_, rfl⟩, _, H8.out⟩
  ·obtain ⟨i, rfl, f1, f2, f3⟩ := run_some hr1
   have E1 := ak (and3 f2)
   clear hr1 f1 f2 f3
   rcases at_cases H2.out [(⟨#[125]⟩ : ByteArray)] with hat | hat
   ·have E2 : Aside0 (p = (false, s1)) := by
     rcases E1.out with ⟨h, g⟩ | ⟨_, h, g⟩ | ⟨_, _, h, g⟩ | ⟨h, _, _, _⟩
     ·exact ⟨some_in g⟩
     ·exact ⟨some_in g⟩
     ·exact ⟨some_in g⟩
     ·rw [hat] at h; cases h
    have HAT := ak hat
    clear hat
    go_wp2_with fail
    refine start_ (ds := []) (S := (fun w' => w'.cell? ⟨bxp, 0, none⟩ = some (.pointer (some ⟨pb, 0, none⟩)))) #[false, false, false, false, false, false, false, false, false, false, false, false, false, false, false, false, false, false, false] (by kernel_rfl) rfl rfl c2_bxp (fun hS => ?_)
    refine take_ (i := 0) (N := some 4) (v := .bool false) #[true, false, false, false, false, false, false, false, false, false, false, false, false, false, false, false, false, false, false] rfl rfl (by kernel_rfl) (fun _ _ _ h => h) (Or.inl ⟨by kernel_rfl, by intro w' z1; go_simp⟩) hS rfl ?_
    simp only [Act.put, sia, List.set]
    refine take_ (i := 1) (N := some 5) (v := .bool true) #[true, true, false, false, false, false, false, false, false, false, false, false, false, false, false, false, false, false, false] rfl rfl (by kernel_rfl) (fun _ _ _ h => h) (Or.inl ⟨by kernel_rfl, by intro w' z1; go_simp⟩) hS rfl ?_
    simp only [Act.put, sia, List.set]
    refine take_ (i := 2) (N := some 6) (v := .bool true) #[true, true, true, false, false, false, false, false, false, false, false, false, false, false, false, false, false, false, false] rfl rfl (by kernel_rfl) (fun _ _ _ h => h) (Or.inl ⟨by kernel_rfl, by intro w' z1; go_simp⟩) hS rfl ?_
    simp only [Act.put, sia, List.set]
    refine take_ (i := 3) (N := some 7) (v := .pointer (some ⟨pb, 0, none⟩)) #[true, true, true, true, false, false, false, false, false, false, false, false, false, false, false, false, false, false, false] rfl rfl (by kernel_rfl) (fun _ _ _ h => h) (Or.inl ⟨by kernel_rfl, by intro w' z1; go_simp⟩) hS rfl ?_
    simp only [Act.put, sia, List.set]
    refine one_ (i := 4) (N := some 8) #[true, true, true, true, true, false, false, false, false, false, false, false, false, false, false, false, false, false, false] rfl rfl (by kernel_rfl) (by simp) (fun K hK => ?_)
    go_simp
    refine hK.out _ _ (by go_keep) (fun hS => ?_)
    clear hK
    try simp only [Act.put, sia, List.set]
    refine one_ (i := 5) (N := some 9) #[true, true, true, true, true, true, false, false, false, false, false, false, false, false, false, false, false, false, false] rfl rfl (by kernel_rfl) (by simp) (fun K hK => ?_)
    go_simp
    refine (at_now (l := [(⟨#[125]⟩ : ByteArray)]) (H2.out.below (below_drew (below_alloc (Below.refl _ _) _))) (by simp) (C_strs [(⟨#[125]⟩ : ByteArray)] (by simp) (blk_drew (blk_new _ _))) (Nat.le_refl _)).mono ?_
    rintro e W3 ⟨rfl, N3⟩
    rw [HAT.out]
    have H3 := ak N3
    have cS := N3.box B_bxp.out
    clear N3
    refine hK.out _ _ cS (fun hS => ?_)
    clear hK
    try simp only [Act.put, sia, List.set]
    refine take_ (i := 6) (N := some 10) (v := .bool false) #[true, true, true, true, true, true, true, false, false, false, false, false, false, false, false, false, false, false, false] rfl rfl (by kernel_rfl) (fun _ _ _ h => h) (Or.inl ⟨by kernel_rfl, by intro w' z1; go_simp⟩) hS rfl ?_
    simp only [Act.put, sia, List.set]
    refine take_ (i := 7) (N := some 11) (v := .bool false) #[true, true, true, true, true, true, true, true, false, false, false, false, false, false, false, false, false, false, false] rfl rfl (by kernel_rfl) (fun _ _ _ h => h) (Or.inl ⟨by kernel_rfl, by intro w' z1; go_simp⟩) hS rfl ?_
    simp only [Act.put, sia, List.set]
    refine take_ (i := 8) (N := some 12) (v := .bool false) #[true, true, true, true, true, true, true, true, true, false, false, false, false, false, false, false, false, false, false] rfl rfl (by kernel_rfl) (fun _ _ _ h => h) (Or.inl ⟨by kernel_rfl, by intro w' z1; go_simp⟩) hS rfl ?_
    simp only [Act.put, sia, List.set]
    refine take_ (i := 9) (N := some 13) (v := undef) #[true, true, true, true, true, true, true, true, true, true, false, false, false, false, false, false, false, false, false] rfl rfl (by kernel_rfl) (fun _ _ _ h => h) (Or.inr ⟨by kernel_rfl, rfl⟩) hS rfl ?_
    simp only [Act.put, sia, List.set]
    refine take_ (i := 10) (N := some 14) (v := undef) #[true, true, true, true, true, true, true, true, true, true, true, false, false, false, false, false, false, false, false] rfl rfl (by kernel_rfl) (fun _ _ _ h => h) (Or.inr ⟨by kernel_rfl, rfl⟩) hS rfl ?_
    simp only [Act.put, sia, List.set]
    refine take_ (i := 11) (N := some 15) (v := undef) #[true, true, true, true, true, true, true, true, true, true, true, true, false, false, false, false, false, false, false] rfl rfl (by kernel_rfl) (fun _ _ _ h => h) (Or.inr ⟨by kernel_rfl, rfl⟩) hS rfl ?_
    simp only [Act.put, sia, List.set]
    refine take_ (i := 12) (N := some 16) (v := .bool false) #[true, true, true, true, true, true, true, true, true, true, true, true, true, false, false, false, false, false, false] rfl rfl (by kernel_rfl) (fun _ _ _ h => h) (Or.inl ⟨by kernel_rfl, by intro w' z1; go_simp⟩) hS rfl ?_
    simp only [Act.put, sia, List.set]
    refine take_ (i := 13) (N := some 17) (v := .bool false) #[true, true, true, true, true, true, true, true, true, true, true, true, true, true, false, false, false, false, false] rfl rfl (by kernel_rfl) (fun _ _ _ h => h) (Or.inl ⟨by kernel_rfl, by intro w' z1; go_simp⟩) hS rfl ?_
    simp only [Act.put, sia, List.set]
    refine take_ (i := 14) (N := some 18) (v := undef) #[true, true, true, true, true, true, true, true, true, true, true, true, true, true, true, false, false, false, false] rfl rfl (by kernel_rfl) (fun _ _ _ h => h) (Or.inr ⟨by kernel_rfl, rfl⟩) hS rfl ?_
    simp only [Act.put, sia, List.set]
    refine take_ (i := 15) (N := some 19) (v := undef) #[true, true, true, true, true, true, true, true, true, true, true, true, true, true, true, true, false, false, false] rfl rfl (by kernel_rfl) (fun _ _ _ h => h) (Or.inr ⟨by kernel_rfl, rfl⟩) hS rfl ?_
    simp only [Act.put, sia, List.set]
    refine take_ (i := 16) (N := some 20) (v := undef) #[true, true, true, true, true, true, true, true, true, true, true, true, true, true, true, true, true, false, false] rfl rfl (by kernel_rfl) (fun _ _ _ h => h) (Or.inr ⟨by kernel_rfl, rfl⟩) hS rfl ?_
    simp only [Act.put, sia, List.set]
    refine take_ (i := 17) (N := some 21) (v := undef) #[true, true, true, true, true, true, true, true, true, true, true, true, true, true, true, true, true, true, false] rfl rfl (by kernel_rfl) (fun _ _ _ h => h) (Or.inr ⟨by kernel_rfl, rfl⟩) hS rfl ?_
    simp only [Act.put, sia, List.set]
    refine take_ (i := 18) (N := some 22) (v := .bool false) #[true, true, true, true, true, true, true, true, true, true, true, true, true, true, true, true, true, true, true] rfl rfl (by kernel_rfl) (fun _ _ _ h => h) (Or.inl ⟨by kernel_rfl, by intro w' z1; go_simp⟩) hS rfl ?_
    simp only [Act.put, sia, List.set]
    refine wpAnyLast_done (by kernel_rfl) ?_ _
    go_wp2_with fail
    refine (absent_now H3.out (by omega)).mono ?_
    rintro e W7 ⟨rfl, N7⟩
    have H7 := ak N7
    have c7 := N7.box B_bxp.out
    clear N7
    go_wp2_with fail
    refine (expect_now H7.out (by omega) _).mono ?_
    rintro e W8 ⟨rfl, N8⟩
    have H8 := ak N8
    clear N8
    go_wp2_with fail
    go_end0
    obtain ⟨hq, hf⟩ := E9.out
    rw [E2.out] at hq
    rw [if_neg (by simp)] at hq
    subst hq
    exact ⟨⟨_, rfl⟩, _, H8.out⟩
   ·have HAT := ak hat
    clear hat
    rcases eof_cases H2.out with heo | heo
    ·have E2 : Aside0 (p = (false, s1)) := by
      rcases E1.out with ⟨h, g⟩ | ⟨_, h, g⟩ | ⟨_, _, h, g⟩ | ⟨_, h, _, _⟩
      ·exact ⟨some_in g⟩
      ·exact ⟨some_in g⟩
      ·exact ⟨some_in g⟩
      ·rw [heo] at h; cases h
     have HEO := ak heo
     clear heo
     go_wp2_with fail
     refine start_ (ds := []) (S := (fun w' => w'.cell? ⟨bxp, 0, none⟩ = some (.pointer (some ⟨pb, 0, none⟩)))) #[false, false, false, false, false, false, false, false, false, false, false, false, false, false, false, false, false, false, false] (by kernel_rfl) rfl rfl c2_bxp (fun hS => ?_)
     refine take_ (i := 0) (N := some 4) (v := .bool false) #[true, false, false, false, false, false, false, false, false, false, false, false, false, false, false, false, false, false, false] rfl rfl (by kernel_rfl) (fun _ _ _ h => h) (Or.inl ⟨by kernel_rfl, by intro w' z1; go_simp⟩) hS rfl ?_
     simp only [Act.put, sia, List.set]
     refine take_ (i := 1) (N := some 5) (v := .bool true) #[true, true, false, false, false, false, false, false, false, false, false, false, false, false, false, false, false, false, false] rfl rfl (by kernel_rfl) (fun _ _ _ h => h) (Or.inl ⟨by kernel_rfl, by intro w' z1; go_simp⟩) hS rfl ?_
     simp only [Act.put, sia, List.set]
     refine take_ (i := 2) (N := some 6) (v := .bool true) #[true, true, true, false, false, false, false, false, false, false, false, false, false, false, false, false, false, false, false] rfl rfl (by kernel_rfl) (fun _ _ _ h => h) (Or.inl ⟨by kernel_rfl, by intro w' z1; go_simp⟩) hS rfl ?_
     simp only [Act.put, sia, List.set]
     refine take_ (i := 3) (N := some 7) (v := .pointer (some ⟨pb, 0, none⟩)) #[true, true, true, true, false, false, false, false, false, false, false, false, false, false, false, false, false, false, false] rfl rfl (by kernel_rfl) (fun _ _ _ h => h) (Or.inl ⟨by kernel_rfl, by intro w' z1; go_simp⟩) hS rfl ?_
     simp only [Act.put, sia, List.set]
     refine one_ (i := 4) (N := some 8) #[true, true, true, true, true, false, false, false, false, false, false, false, false, false, false, false, false, false, false] rfl rfl (by kernel_rfl) (by simp) (fun K hK => ?_)
     go_simp
     refine hK.out _ _ (by go_keep) (fun hS => ?_)
     clear hK
     try simp only [Act.put, sia, List.set]
     refine one_ (i := 5) (N := some 9) #[true, true, true, true, true, true, false, false, false, false, false, false, false, false, false, false, false, false, false] rfl rfl (by kernel_rfl) (by simp) (fun K hK => ?_)
     go_simp
     refine (at_now (l := [(⟨#[125]⟩ : ByteArray)]) (H2.out.below (below_drew (below_alloc (Below.refl _ _) _))) (by simp) (C_strs [(⟨#[125]⟩ : ByteArray)] (by simp) (blk_drew (blk_new _ _))) (Nat.le_refl _)).mono ?_
     rintro e W3 ⟨rfl, N3⟩
     rw [HAT.out]
     have H3 := ak N3
     have cS := N3.box B_bxp.out
     clear N3
     refine hK.out _ _ cS (fun hS => ?_)
     clear hK
     try simp only [Act.put, sia, List.set]
     refine take_ (i := 6) (N := some 10) (v := .bool true) #[true, true, true, true, true, true, true, false, false, false, false, false, false, false, false, false, false, false, false] rfl rfl (by kernel_rfl) (fun _ _ _ h => h) (Or.inl ⟨by kernel_rfl, by intro w' z1; go_simp⟩) hS rfl ?_
     simp only [Act.put, sia, List.set]
     refine take_ (i := 7) (N := some 11) (v := .bool true) #[true, true, true, true, true, true, true, true, false, false, false, false, false, false, false, false, false, false, false] rfl rfl (by kernel_rfl) (fun _ _ _ h => h) (Or.inl ⟨by kernel_rfl, by intro w' z1; go_simp⟩) hS rfl ?_
     simp only [Act.put, sia, List.set]
     refine take_ (i := 8) (N := some 12) (v := .bool true) #[true, true, true, true, true, true, true, true, true, false, false, false, false, false, false, false, false, false, false] rfl rfl (by kernel_rfl) (fun _ _ _ h => h) (Or.inl ⟨by kernel_rfl, by intro w' z1; go_simp⟩) hS rfl ?_
     simp only [Act.put, sia, List.set]
     refine take_ (i := 9) (N := some 13) (v := .pointer (some ⟨pb, 0, none⟩)) #[true, true, true, true, true, true, true, true, true, true, false, false, false, false, false, false, false, false, false] rfl rfl (by kernel_rfl) (fun _ _ _ h => h) (Or.inl ⟨by kernel_rfl, by intro w' z1; go_simp⟩) hS rfl ?_
     simp only [Act.put, sia, List.set]
     refine one_ (i := 10) (N := some 14) #[true, true, true, true, true, true, true, true, true, true, true, false, false, false, false, false, false, false, false] rfl rfl (by kernel_rfl) (by simp) (fun K hK => ?_)
     go_simp
     refine (eof_now H3.out).mono ?_
     rintro e W4 ⟨rfl, N4⟩
     rw [HEO.out]
     have H4 := ak N4
     have cS := N4.box B_bxp.out
     clear N4
     refine hK.out _ _ cS (fun hS => ?_)
     clear hK
     try simp only [Act.put, sia, List.set]
     refine take_ (i := 11) (N := some 15) (v := .bool false) #[true, true, true, true, true, true, true, true, true, true, true, true, false, false, false, false, false, false, false] rfl rfl (by kernel_rfl) (fun _ _ _ h => h) (Or.inl ⟨by kernel_rfl, by intro w' z1; go_simp⟩) hS rfl ?_
     simp only [Act.put, sia, List.set]
     refine take_ (i := 12) (N := some 16) (v := .bool false) #[true, true, true, true, true, true, true, true, true, true, true, true, true, false, false, false, false, false, false] rfl rfl (by kernel_rfl) (fun _ _ _ h => h) (Or.inl ⟨by kernel_rfl, by intro w' z1; go_simp⟩) hS rfl ?_
     simp only [Act.put, sia, List.set]
     refine take_ (i := 13) (N := some 17) (v := .bool false) #[true, true, true, true, true, true, true, true, true, true, true, true, true, true, false, false, false, false, false] rfl rfl (by kernel_rfl) (fun _ _ _ h => h) (Or.inl ⟨by kernel_rfl, by intro w' z1; go_simp⟩) hS rfl ?_
     simp only [Act.put, sia, List.set]
     refine take_ (i := 14) (N := some 18) (v := undef) #[true, true, true, true, true, true, true, true, true, true, true, true, true, true, true, false, false, false, false] rfl rfl (by kernel_rfl) (fun _ _ _ h => h) (Or.inr ⟨by kernel_rfl, rfl⟩) hS rfl ?_
     simp only [Act.put, sia, List.set]
     refine take_ (i := 15) (N := some 19) (v := undef) #[true, true, true, true, true, true, true, true, true, true, true, true, true, true, true, true, false, false, false] rfl rfl (by kernel_rfl) (fun _ _ _ h => h) (Or.inr ⟨by kernel_rfl, rfl⟩) hS rfl ?_
     simp only [Act.put, sia, List.set]
     refine take_ (i := 16) (N := some 20) (v := undef) #[true, true, true, true, true, true, true, true, true, true, true, true, true, true, true, true, true, false, false] rfl rfl (by kernel_rfl) (fun _ _ _ h => h) (Or.inr ⟨by kernel_rfl, rfl⟩) hS rfl ?_
     simp only [Act.put, sia, List.set]
     refine take_ (i := 17) (N := some 21) (v := undef) #[true, true, true, true, true, true, true, true, true, true, true, true, true, true, true, true, true, true, false] rfl rfl (by kernel_rfl) (fun _ _ _ h => h) (Or.inr ⟨by kernel_rfl, rfl⟩) hS rfl ?_
     simp only [Act.put, sia, List.set]
     refine take_ (i := 18) (N := some 22) (v := .bool false) #[true, true, true, true, true, true, true, true, true, true, true, true, true, true, true, true, true, true, true] rfl rfl (by kernel_rfl) (fun _ _ _ h => h) (Or.inl ⟨by kernel_rfl, by intro w' z1; go_simp⟩) hS rfl ?_
     simp only [Act.put, sia, List.set]
     refine wpAnyLast_done (by kernel_rfl) ?_ _
     go_wp2_with fail
     refine (absent_now H4.out (by omega)).mono ?_
     rintro e W7 ⟨rfl, N7⟩
     have H7 := ak N7
     have c7 := N7.box B_bxp.out
     clear N7
     go_wp2_with fail
     refine (expect_now H7.out (by omega) _).mono ?_
     rintro e W8 ⟨rfl, N8⟩
     have H8 := ak N8
     clear N8
     go_wp2_with fail
     go_end0
     obtain ⟨hq, hf⟩ := E9.out
     rw [E2.out] at hq
     rw [if_neg (by simp)] at hq
     subst hq
     exact ⟨⟨_, rfl⟩, _, H8.out⟩
    ·have HEO := ak heo
     clear heo
     rcases at_cases H2.out itemKw with hkw | hkw
     ·have E2 : Aside0 (p = (false, s1)) := by
       rcases E1.out with ⟨h, g⟩ | ⟨_, h, g⟩ | ⟨_, _, h, g⟩ | ⟨_, _, h, _⟩
       ·exact ⟨some_in g⟩
       ·exact ⟨some_in g⟩
       ·exact ⟨some_in g⟩
       ·rw [hkw] at h; cases h
      have HKW := ak hkw
      clear hkw
      go_wp2_with fail
      refine start_ (ds := []) (S := (fun w' => w'.cell? ⟨bxp, 0, none⟩ = some (.pointer (some ⟨pb, 0, none⟩)))) #[false, false, false, false, false, false, false, false, false, false, false, false, false, false, false, false, false, false, false] (by kernel_rfl) rfl rfl c2_bxp (fun hS => ?_)
      refine take_ (i := 0) (N := some 4) (v := .bool false) #[true, false, false, false, false, false, false, false, false, false, false, false, false, false, false, false, false, false, false] rfl rfl (by kernel_rfl) (fun _ _ _ h => h) (Or.inl ⟨by kernel_rfl, by intro w' z1; go_simp⟩) hS rfl ?_
      simp only [Act.put, sia, List.set]
      refine take_ (i := 1) (N := some 5) (v := .bool true) #[true, true, false, false, false, false, false, false, false, false, false, false, false, false, false, false, false, false, false] rfl rfl (by kernel_rfl) (fun _ _ _ h => h) (Or.inl ⟨by kernel_rfl, by intro w' z1; go_simp⟩) hS rfl ?_
      simp only [Act.put, sia, List.set]
      refine take_ (i := 2) (N := some 6) (v := .bool true) #[true, true, true, false, false, false, false, false, false, false, false, false, false, false, false, false, false, false, false] rfl rfl (by kernel_rfl) (fun _ _ _ h => h) (Or.inl ⟨by kernel_rfl, by intro w' z1; go_simp⟩) hS rfl ?_
      simp only [Act.put, sia, List.set]
      refine take_ (i := 3) (N := some 7) (v := .pointer (some ⟨pb, 0, none⟩)) #[true, true, true, true, false, false, false, false, false, false, false, false, false, false, false, false, false, false, false] rfl rfl (by kernel_rfl) (fun _ _ _ h => h) (Or.inl ⟨by kernel_rfl, by intro w' z1; go_simp⟩) hS rfl ?_
      simp only [Act.put, sia, List.set]
      refine one_ (i := 4) (N := some 8) #[true, true, true, true, true, false, false, false, false, false, false, false, false, false, false, false, false, false, false] rfl rfl (by kernel_rfl) (by simp) (fun K hK => ?_)
      go_simp
      refine hK.out _ _ (by go_keep) (fun hS => ?_)
      clear hK
      try simp only [Act.put, sia, List.set]
      refine one_ (i := 5) (N := some 9) #[true, true, true, true, true, true, false, false, false, false, false, false, false, false, false, false, false, false, false] rfl rfl (by kernel_rfl) (by simp) (fun K hK => ?_)
      go_simp
      refine (at_now (l := [(⟨#[125]⟩ : ByteArray)]) (H2.out.below (below_drew (below_alloc (Below.refl _ _) _))) (by simp) (C_strs [(⟨#[125]⟩ : ByteArray)] (by simp) (blk_drew (blk_new _ _))) (Nat.le_refl _)).mono ?_
      rintro e W3 ⟨rfl, N3⟩
      rw [HAT.out]
      have H3 := ak N3
      have cS := N3.box B_bxp.out
      clear N3
      refine hK.out _ _ cS (fun hS => ?_)
      clear hK
      try simp only [Act.put, sia, List.set]
      refine take_ (i := 6) (N := some 10) (v := .bool true) #[true, true, true, true, true, true, true, false, false, false, false, false, false, false, false, false, false, false, false] rfl rfl (by kernel_rfl) (fun _ _ _ h => h) (Or.inl ⟨by kernel_rfl, by intro w' z1; go_simp⟩) hS rfl ?_
      simp only [Act.put, sia, List.set]
      refine take_ (i := 7) (N := some 11) (v := .bool true) #[true, true, true, true, true, true, true, true, false, false, false, false, false, false, false, false, false, false, false] rfl rfl (by kernel_rfl) (fun _ _ _ h => h) (Or.inl ⟨by kernel_rfl, by intro w' z1; go_simp⟩) hS rfl ?_
      simp only [Act.put, sia, List.set]
      refine take_ (i := 8) (N := some 12) (v := .bool true) #[true, true, true, true, true, true, true, true, true, false, false, false, false, false, false, false, false, false, false] rfl rfl (by kernel_rfl) (fun _ _ _ h => h) (Or.inl ⟨by kernel_rfl, by intro w' z1; go_simp⟩) hS rfl ?_
      simp only [Act.put, sia, List.set]
      refine take_ (i := 9) (N := some 13) (v := .pointer (some ⟨pb, 0, none⟩)) #[true, true, true, true, true, true, true, true, true, true, false, false, false, false, false, false, false, false, false] rfl rfl (by kernel_rfl) (fun _ _ _ h => h) (Or.inl ⟨by kernel_rfl, by intro w' z1; go_simp⟩) hS rfl ?_
      simp only [Act.put, sia, List.set]
      refine one_ (i := 10) (N := some 14) #[true, true, true, true, true, true, true, true, true, true, true, false, false, false, false, false, false, false, false] rfl rfl (by kernel_rfl) (by simp) (fun K hK => ?_)
      go_simp
      refine (eof_now H3.out).mono ?_
      rintro e W4 ⟨rfl, N4⟩
      rw [HEO.out]
      have H4 := ak N4
      have cS := N4.box B_bxp.out
      clear N4
      refine hK.out _ _ cS (fun hS => ?_)
      clear hK
      try simp only [Act.put, sia, List.set]
      refine take_ (i := 11) (N := some 15) (v := .bool true) #[true, true, true, true, true, true, true, true, true, true, true, true, false, false, false, false, false, false, false] rfl rfl (by kernel_rfl) (fun _ _ _ h => h) (Or.inl ⟨by kernel_rfl, by intro w' z1; go_simp⟩) hS rfl ?_
      simp only [Act.put, sia, List.set]
      refine take_ (i := 12) (N := some 16) (v := .bool true) #[true, true, true, true, true, true, true, true, true, true, true, true, true, false, false, false, false, false, false] rfl rfl (by kernel_rfl) (fun _ _ _ h => h) (Or.inl ⟨by kernel_rfl, by intro w' z1; go_simp⟩) hS rfl ?_
      simp only [Act.put, sia, List.set]
      refine take_ (i := 13) (N := some 17) (v := .bool true) #[true, true, true, true, true, true, true, true, true, true, true, true, true, true, false, false, false, false, false] rfl rfl (by kernel_rfl) (fun _ _ _ h => h) (Or.inl ⟨by kernel_rfl, by intro w' z1; go_simp⟩) hS rfl ?_
      simp only [Act.put, sia, List.set]
      refine take_ (i := 14) (N := some 18) (v := .pointer (some ⟨pb, 0, none⟩)) #[true, true, true, true, true, true, true, true, true, true, true, true, true, true, true, false, false, false, false] rfl rfl (by kernel_rfl) (fun _ _ _ h => h) (Or.inl ⟨by kernel_rfl, by intro w' z1; go_simp⟩) hS rfl ?_
      simp only [Act.put, sia, List.set]
      refine one_ (i := 15) (N := some 19) #[true, true, true, true, true, true, true, true, true, true, true, true, true, true, true, true, false, false, false] rfl rfl (by kernel_rfl) (by simp) (fun K hK => ?_)
      go_simp
      refine (kw_now H4.out).mono ?_
      rintro e W5 ⟨rfl, N5, K5⟩
      have H5 := ak (And.intro N5 K5)
      have cS := N5.box B_bxp.out
      clear N5 K5
      refine hK.out _ _ cS (fun hS => ?_)
      clear hK
      try simp only [Act.put, sia, List.set]
      refine one_ (i := 16) (N := some 20) #[true, true, true, true, true, true, true, true, true, true, true, true, true, true, true, true, true, false, false] rfl rfl (by kernel_rfl) (by simp) (fun K hK => ?_)
      go_simp
      refine (at_now H5.out.1 (by decide) H5.out.2 (by decide)).mono ?_
      rintro e W6 ⟨rfl, N6⟩
      rw [HKW.out]
      have H6 := ak N6
      have cS := N6.box B_bxp.out
      clear N6
      refine hK.out _ _ cS (fun hS => ?_)
      clear hK
      try simp only [Act.put, sia, List.set]
      refine take_ (i := 17) (N := some 21) (v := .bool false) #[true, true, true, true, true, true, true, true, true, true, true, true, true, true, true, true, true, true, false] rfl rfl (by kernel_rfl) (fun _ _ _ h => h) (Or.inl ⟨by kernel_rfl, by intro w' z1; go_simp⟩) hS rfl ?_
      simp only [Act.put, sia, List.set]
      refine take_ (i := 18) (N := some 22) (v := .bool false) #[true, true, true, true, true, true, true, true, true, true, true, true, true, true, true, true, true, true, true] rfl rfl (by kernel_rfl) (fun _ _ _ h => h) (Or.inl ⟨by kernel_rfl, by intro w' z1; go_simp⟩) hS rfl ?_
      simp only [Act.put, sia, List.set]
      refine wpAnyLast_done (by kernel_rfl) ?_ _
      go_wp2_with fail
      refine (absent_now H6.out (by omega)).mono ?_
      rintro e W7 ⟨rfl, N7⟩
      have H7 := ak N7
      have c7 := N7.box B_bxp.out
      clear N7
      go_wp2_with fail
      refine (expect_now H7.out (by omega) _).mono ?_
      rintro e W8 ⟨rfl, N8⟩
      have H8 := ak N8
      clear N8
      go_wp2_with fail
      go_end0
      obtain ⟨hq, hf⟩ := E9.out
      rw [E2.out] at hq
      rw [if_neg (by simp)] at hq
      subst hq
      exact ⟨⟨_, rfl⟩, _, H8.out⟩
     ·have E2 : Aside0 (∃ r, run T i .statement s1 = some r ∧ (if r.1 = true then some (true, r.2) else run T i .stmts r.2) = some p) := by
       rcases E1.out with ⟨h, g⟩ | ⟨_, h, g⟩ | ⟨_, _, h, g⟩ | ⟨_, _, _, h⟩
       ·rw [HAT.out] at h; cases h
       ·rw [HEO.out] at h; cases h
       ·rw [hkw] at h; cases h
       ·exact ⟨bind_in h⟩
      have HKW := ak hkw
      clear hkw E1
      obtain ⟨r, r1, r2⟩ := E2.out
      have R1 := ak r1
      have R2 := ak r2
      clear r1 r2 E2
      go_wp2_with fail
      refine start_ (ds := []) (S := (fun w' => w'.cell? ⟨bxp, 0, none⟩ = some (.pointer (some ⟨pb, 0, none⟩)))) #[false, false, false, false, false, false, false, false, false, false, false, false, false, false, false, false, false, false, false] (by kernel_rfl) rfl rfl c2_bxp (fun hS => ?_)
      refine take_ (i := 0) (N := some 4) (v := .bool false) #[true, false, false, false, false, false, false, false, false, false, false, false, false, false, false, false, false, false, false] rfl rfl (by kernel_rfl) (fun _ _ _ h => h) (Or.inl ⟨by kernel_rfl, by intro w' z1; go_simp⟩) hS rfl ?_
      simp only [Act.put, sia, List.set]
      refine take_ (i := 1) (N := some 5) (v := .bool true) #[true, true, false, false, false, false, false, false, false, false, false, false, false, false, false, false, false, false, false] rfl rfl (by kernel_rfl) (fun _ _ _ h => h) (Or.inl ⟨by kernel_rfl, by intro w' z1; go_simp⟩) hS rfl ?_
      simp only [Act.put, sia, List.set]
      refine take_ (i := 2) (N := some 6) (v := .bool true) #[true, true, true, false, false, false, false, false, false, false, false, false, false, false, false, false, false, false, false] rfl rfl (by kernel_rfl) (fun _ _ _ h => h) (Or.inl ⟨by kernel_rfl, by intro w' z1; go_simp⟩) hS rfl ?_
      simp only [Act.put, sia, List.set]
      refine take_ (i := 3) (N := some 7) (v := .pointer (some ⟨pb, 0, none⟩)) #[true, true, true, true, false, false, false, false, false, false, false, false, false, false, false, false, false, false, false] rfl rfl (by kernel_rfl) (fun _ _ _ h => h) (Or.inl ⟨by kernel_rfl, by intro w' z1; go_simp⟩) hS rfl ?_
      simp only [Act.put, sia, List.set]
      refine one_ (i := 4) (N := some 8) #[true, true, true, true, true, false, false, false, false, false, false, false, false, false, false, false, false, false, false] rfl rfl (by kernel_rfl) (by simp) (fun K hK => ?_)
      go_simp
      refine hK.out _ _ (by go_keep) (fun hS => ?_)
      clear hK
      try simp only [Act.put, sia, List.set]
      refine one_ (i := 5) (N := some 9) #[true, true, true, true, true, true, false, false, false, false, false, false, false, false, false, false, false, false, false] rfl rfl (by kernel_rfl) (by simp) (fun K hK => ?_)
      go_simp
      refine (at_now (l := [(⟨#[125]⟩ : ByteArray)]) (H2.out.below (below_drew (below_alloc (Below.refl _ _) _))) (by simp) (C_strs [(⟨#[125]⟩ : ByteArray)] (by simp) (blk_drew (blk_new _ _))) (Nat.le_refl _)).mono ?_
      rintro e W3 ⟨rfl, N3⟩
      rw [HAT.out]
      have H3 := ak N3
      have cS := N3.box B_bxp.out
      clear N3
      refine hK.out _ _ cS (fun hS => ?_)
      clear hK
      try simp only [Act.put, sia, List.set]
      refine take_ (i := 6) (N := some 10) (v := .bool true) #[true, true, true, true, true, true, true, false, false, false, false, false, false, false, false, false, false, false, false] rfl rfl (by kernel_rfl) (fun _ _ _ h => h) (Or.inl ⟨by kernel_rfl, by intro w' z1; go_simp⟩) hS rfl ?_
      simp only [Act.put, sia, List.set]
      refine take_ (i := 7) (N := some 11) (v := .bool true) #[true, true, true, true, true, true, true, true, false, false, false, false, false, false, false, false, false, false, false] rfl rfl (by kernel_rfl) (fun _ _ _ h => h) (Or.inl ⟨by kernel_rfl, by intro w' z1; go_simp⟩) hS rfl ?_
      simp only [Act.put, sia, List.set]
      refine take_ (i := 8) (N := some 12) (v := .bool true) #[true, true, true, true, true, true, true, true, true, false, false, false, false, false, false, false, false, false, false] rfl rfl (by kernel_rfl) (fun _ _ _ h => h) (Or.inl ⟨by kernel_rfl, by intro w' z1; go_simp⟩) hS rfl ?_
      simp only [Act.put, sia, List.set]
      refine take_ (i := 9) (N := some 13) (v := .pointer (some ⟨pb, 0, none⟩)) #[true, true, true, true, true, true, true, true, true, true, false, false, false, false, false, false, false, false, false] rfl rfl (by kernel_rfl) (fun _ _ _ h => h) (Or.inl ⟨by kernel_rfl, by intro w' z1; go_simp⟩) hS rfl ?_
      simp only [Act.put, sia, List.set]
      refine one_ (i := 10) (N := some 14) #[true, true, true, true, true, true, true, true, true, true, true, false, false, false, false, false, false, false, false] rfl rfl (by kernel_rfl) (by simp) (fun K hK => ?_)
      go_simp
      refine (eof_now H3.out).mono ?_
      rintro e W4 ⟨rfl, N4⟩
      rw [HEO.out]
      have H4 := ak N4
      have cS := N4.box B_bxp.out
      clear N4
      refine hK.out _ _ cS (fun hS => ?_)
      clear hK
      try simp only [Act.put, sia, List.set]
      refine take_ (i := 11) (N := some 15) (v := .bool true) #[true, true, true, true, true, true, true, true, true, true, true, true, false, false, false, false, false, false, false] rfl rfl (by kernel_rfl) (fun _ _ _ h => h) (Or.inl ⟨by kernel_rfl, by intro w' z1; go_simp⟩) hS rfl ?_
      simp only [Act.put, sia, List.set]
      refine take_ (i := 12) (N := some 16) (v := .bool true) #[true, true, true, true, true, true, true, true, true, true, true, true, true, false, false, false, false, false, false] rfl rfl (by kernel_rfl) (fun _ _ _ h => h) (Or.inl ⟨by kernel_rfl, by intro w' z1; go_simp⟩) hS rfl ?_
      simp only [Act.put, sia, List.set]
      refine take_ (i := 13) (N := some 17) (v := .bool true) #[true, true, true, true, true, true, true, true, true, true, true, true, true, true, false, false, false, false, false] rfl rfl (by kernel_rfl) (fun _ _ _ h => h) (Or.inl ⟨by kernel_rfl, by intro w' z1; go_simp⟩) hS rfl ?_
      simp only [Act.put, sia, List.set]
      refine take_ (i := 14) (N := some 18) (v := .pointer (some ⟨pb, 0, none⟩)) #[true, true, true, true, true, true, true, true, true, true, true, true, true, true, true, false, false, false, false] rfl rfl (by kernel_rfl) (fun _ _ _ h => h) (Or.inl ⟨by kernel_rfl, by intro w' z1; go_simp⟩) hS rfl ?_
      simp only [Act.put, sia, List.set]
      refine one_ (i := 15) (N := some 19) #[true, true, true, true, true, true, true, true, true, true, true, true, true, true, true, true, false, false, false] rfl rfl (by kernel_rfl) (by simp) (fun K hK => ?_)
      go_simp
      refine (kw_now H4.out).mono ?_
      rintro e W5 ⟨rfl, N5, K5⟩
      have H5 := ak (And.intro N5 K5)
      have cS := N5.box B_bxp.out
      clear N5 K5
      refine hK.out _ _ cS (fun hS => ?_)
      clear hK
      try simp only [Act.put, sia, List.set]
      refine one_ (i := 16) (N := some 20) #[true, true, true, true, true, true, true, true, true, true, true, true, true, true, true, true, true, false, false] rfl rfl (by kernel_rfl) (by simp) (fun K hK => ?_)
      go_simp
      refine (at_now H5.out.1 (by decide) H5.out.2 (by decide)).mono ?_
      rintro e W6 ⟨rfl, N6⟩
      rw [HKW.out]
      have H6 := ak N6
      have cS := N6.box B_bxp.out
      clear N6
      refine hK.out _ _ cS (fun hS => ?_)
      clear hK
      try simp only [Act.put, sia, List.set]
      refine take_ (i := 17) (N := some 21) (v := .bool true) #[true, true, true, true, true, true, true, true, true, true, true, true, true, true, true, true, true, true, false] rfl rfl (by kernel_rfl) (fun _ _ _ h => h) (Or.inl ⟨by kernel_rfl, by intro w' z1; go_simp⟩) hS rfl ?_
      simp only [Act.put, sia, List.set]
      refine take_ (i := 18) (N := some 22) (v := .bool true) #[true, true, true, true, true, true, true, true, true, true, true, true, true, true, true, true, true, true, true] rfl rfl (by kernel_rfl) (fun _ _ _ h => h) (Or.inl ⟨by kernel_rfl, by intro w' z1; go_simp⟩) hS rfl ?_
      simp only [Act.put, sia, List.set]
      refine wpAnyLast_done (by kernel_rfl) ?_ _
      go_wp2_with fail
      refine ((ih i (by have := hi2.out; omega)).statement _ _ _ _ _ _ _ _ _ (by omega) (by have := HL.out; have := hi2.out; omega) H6.out R1.out).mono ?_
      rintro e W7 ⟨rfl, N7⟩
      have H7 := ak N7
      clear N7
      go_wp2_with fail
      go_roundg i
      case rel =>
       obtain ⟨b, r⟩ := r
       cases b
       ·exact ⟨false, r, rfl, H7.out, by have := hi2.out; omega, .inr ⟨rfl, R2.out⟩⟩
       ·exact ⟨true, r, rfl, H7.out, by have := hi2.out; omega, .inl ⟨rfl, some_in R2.out⟩⟩
      case measure => omega
theorem block_go  {k : Nat}  (ih : ∀ i, i < k → IH B T tv pb i) : Meth B T tv pb k .block 131 #[.pointer (some ⟨pb, 0, none⟩)] (fun _ => .tuple #[]) := by
 intro m low kd tx W0 F0 W s q hm hlow N hr
 obtain ⟨j, rfl, h1, h2, h3⟩ := run_some hr
 have H0 := ak (N.fit h1)
 have E0 := ak h2
 have G := ak h3
 have HL := ak hlow
 have RUN := ak hr
 clear N h1 h2 h3 hr hlow
 go_enter Tryz.func131, Tryz.ntmps131
 go_wp2_with fail
 obtain ⟨WB, hWB⟩ : ∃ WB, (W.alloc (.cells #[.pointer (some ⟨pb, 0, none⟩)] 74)) = WB := ⟨_, rfl⟩
 have hbl : Below W.heap.size W WB := by rw [← hWB]; exact (below_alloc (Below.refl _ _) _)
 have hx_bxp : WB.heap[W.heap.size]? = some (.cells #[.pointer (some ⟨pb, 0, none⟩)] 74 (0, 0)) := by
  rw [← hWB]
  exact blk_new W _
 obtain ⟨FB, NB, hnew, holdb, hback⟩ := H0.out.enter hbl
 have BK := ak hback
 have hb_bxp : Box pb WB FB (W.heap.size) (.pointer (some ⟨pb, 0, none⟩)) := ⟨hnew _ (by omega) (blk_lt hx_bxp), _, hx_bxp⟩
 have B_bxp := ak hb_bxp
 have HN := ak NB
 have c0_bxp := NB.box hb_bxp
 rw [hWB]
 have hsz : W.heap.size + 1 = WB.heap.size := by rw [← hWB]; simp only [World.size_alloc]
 try rw [hsz]
 clear hsz hWB hbl hnew holdb hback NB H0 hb_bxp hx_bxp
 obtain ⟨p1, e1, d1⟩ := node_in E0.out
 have R1 := ak e1
 have D1 := ak d1
 clear e1 d1 E0
 refine (node_now HN.out (by omega) (by have := HL.out; omega) (21) 159 #[] #[.pointer (some ⟨W.heap.size, 0, none⟩)] p1.2 en_block_1 (fit_iff.1 (run_fit R1.out)).1 (fun W1 F1 NN old => blockB_do  (k := j) (fun i hi => ih i (by omega)) (B_bxp.out.old old) (by rw [List.length_append, List.length_singleton]; have := HL.out; omega) j (by omega) _ _ _ _ (by omega) NN R1.out)).mono ?_
 rintro e W2 ⟨rfl, N2⟩
 have H2 := ak N2
 have c2_bxp := N2.box B_bxp.out
 clear N2 HN c0_bxp
 go_wp2_with fail
 go_end0
 obtain hq := D1.out
 have hf := G.out
 rw [hq] at hf ⊢
 exact ⟨rfl, (BK.out _ _ _ _ _ _ (H2.out.fit hf))⟩
theorem fieldDeclB_do  {k : Nat} {bxp : Nat}  (ih : ∀ i, i < k → IH B T tv pb i) (hb_bxp : Box pb W0 F0 bxp (.pointer (some ⟨pb, 0, none⟩))) (hlow : low.length + k ≤ 10000000) : Does B T tv pb (k + 1) .fieldDeclB 135 #[.pointer (some ⟨bxp, 0, none⟩)] low kd tx W0 F0 := by
 intro i hi m W s q hm N hr
 obtain ⟨j, rfl, h1, h2, h3⟩ := run_some hr
 have H0 := ak (N.fit h1)
 have E0 := ak h2
 have G := ak h3
 have HL := ak (show low.length + (j + 1) ≤ 10000000 by omega)
 have B_bxp := ak hb_bxp
 have c0_bxp := N.box hb_bxp
 clear N h1 h2 h3 hr hlow hb_bxp
 go_enter Tryz.func135, Tryz.ntmps135
 go_wp2_with fail
 have E1 := ak (sq_st E0.out)
 clear E0
 refine (bump_now H0.out (by omega)).mono ?_
 rintro e W2 ⟨rfl, N2⟩
 have H2 := ak N2
 have c2_bxp := N2.box B_bxp.out
 clear N2 H0 c0_bxp
 go_wp2_with fail
 have E3 := ak (sq_st E1.out)
 clear E1
 refine (expect_now H2.out (by omega) (⟨#[58]⟩ : ByteArray)).mono ?_
 rintro e W4 ⟨rfl, N4⟩
 have H4 := ak N4
 have c4_bxp := N4.box B_bxp.out
 clear N4 H2 c2_bxp
 go_wp2_with fail
 obtain ⟨p5, e5, d5⟩ := sq_cons E3.out
 have R5 := ak e5
 have E6 := ak (d5)
 clear E3 e5 d5
 refine ((ih j (by omega)).typeExpr _ _ _ _ _ _ _ _ _ (by omega) (by have := HL.out; omega) H4.out R5.out).mono ?_
 rintro e W7 ⟨rfl, N7⟩
 have H7 := ak N7
 have c7_bxp := N7.box B_bxp.out
 clear N7 H4 c4_bxp
 go_wp2_with fail
 go_end0
 obtain hq := sq_nil E6.out
 have hf := G.out
 rw [hq] at hf ⊢
 exact ⟨⟨_, rfl⟩, _, (H7.out.fit hf)⟩
theorem dataE4_do  {k : Nat} {bxp : Nat} {bxk : Nat}  (ih : ∀ i, i < k → IH B T tv pb i) (hb_bxp : Box pb W0 F0 bxp (.pointer (some ⟨pb, 0, none⟩))) (hb_bxk : Box pb W0 F0 bxk (.int .i64 4)) (hlow : low.length + k ≤ 10000000) : Does B T tv pb (k + 1) (.dataE 4) 133 #[.pointer (some ⟨bxp, 0, none⟩), .pointer (some ⟨bxk, 0, none⟩)] low kd tx W0 F0 := by
 intro i hi m W s q hm N hr
 obtain ⟨j, rfl, h1, h2, h3⟩ := run_some hr
 have H0 := ak (N.fit h1)
 have E0 := ak h2
 have G := ak h3
 have HL := ak (show low.length + (j + 1) ≤ 10000000 by omega)
 have B_bxp := ak hb_bxp
 have c0_bxp := N.box hb_bxp
 have B_bxk := ak hb_bxk
 have c0_bxk := N.box hb_bxk
 clear N h1 h2 h3 hr hlow hb_bxp hb_bxk
 go_enter Tryz.func133, Tryz.ntmps133
 go_wp2_with fail
 refine (ident_now H0.out).mono ?_
 rintro e W2 ⟨rfl, N2⟩
 rcases id_cases H0.out with b1 | b1
 ·rw [b1]
  have H2 := ak N2
  have c2_bxp := N2.box B_bxp.out
  have c2_bxk := N2.box B_bxk.out
  clear N2 H0 c0_bxp c0_bxk
  have E3 := ak (if_t b1 E0.out)
  clear E0 b1
  go_wp2_with fail
  have E4 := ak (if_y trivial E3.out)
  clear E3
  obtain ⟨p5, e5, d5⟩ := node_in E4.out
  have R5 := ak e5
  have D5 := ak d5
  clear e5 d5 E4
  refine (node_now H2.out (by omega) (by have := HL.out; omega) (14) 135 #[] #[.pointer (some ⟨bxp, 0, none⟩)] p5.2 en_dataType_1_1 (fit_iff.1 (run_fit R5.out)).1 (fun W1 F1 NN old => fieldDeclB_do  (k := j) (fun i hi => ih i (by omega)) (B_bxp.out.old old) (by rw [List.length_append, List.length_singleton]; have := HL.out; omega) j (by omega) _ _ _ _ (by omega) NN R5.out)).mono ?_
  rintro e W6 ⟨rfl, N6⟩
  have H6 := ak N6
  have c6_bxp := N6.box B_bxp.out
  have c6_bxk := N6.box B_bxk.out
  clear N6 H2 c2_bxp c2_bxk
  go_wp2_with fail
  go_end0
  obtain hq := D5.out
  have hf := G.out
  rw [hq] at hf ⊢
  exact ⟨⟨_, rfl⟩, _, (H6.out.fit hf)⟩
 ·rw [b1]
  have H2 := ak N2
  have c2_bxp := N2.box B_bxp.out
  have c2_bxk := N2.box B_bxk.out
  clear N2 H0 c0_bxp c0_bxk
  have E7 := ak (if_f b1 E0.out)
  clear E0 b1
  go_wp2_with fail
  go_end0
  obtain hq := some_in E7.out
  have hf := G.out
  rw [hq] at hf ⊢
  exact ⟨⟨_, rfl⟩, _, (H2.out.fit hf)⟩
theorem dataType4_go  {k : Nat}  (ih : ∀ i, i < k → IH B T tv pb i) : Meth B T tv pb k (.dataType 4) 102 #[.pointer (some ⟨pb, 0, none⟩), .int .i64 4] (fun _ => .tuple #[]) := by
 intro m low kd tx W0 F0 W s q hm hlow N hr
 obtain ⟨j, rfl, h1, h2, h3⟩ := run_some hr
 have H0 := ak (N.fit h1)
 have E0 := ak h2
 have G := ak h3
 have HL := ak hlow
 have RUN := ak hr
 clear N h1 h2 h3 hr hlow
 go_enter Tryz.func102, Tryz.ntmps102
 go_wp2_with fail
 obtain ⟨WB, hWB⟩ : ∃ WB, ((W.alloc (.cells #[.pointer (some ⟨pb, 0, none⟩)] 74)).alloc (.cells #[.int .i64 4] 3)) = WB := ⟨_, rfl⟩
 have hbl : Below W.heap.size W WB := by rw [← hWB]; exact (below_alloc (below_alloc (Below.refl _ _) _) _)
 have hx_bxp : WB.heap[W.heap.size]? = some (.cells #[.pointer (some ⟨pb, 0, none⟩)] 74 (0, 0)) := by
  rw [← hWB]
  exact blk_alloc (blk_new W _) _
 have hx_bxk : WB.heap[W.heap.size + 1]? = some (.cells #[.int .i64 4] 3 (0, 0)) := by
  rw [← hWB]
  have hn := blk_new (W.alloc (.cells #[.pointer (some ⟨pb, 0, none⟩)] 74)) (.cells #[.int .i64 4] 3)
  simp only [World.size_alloc] at hn
  exact hn
 obtain ⟨FB, NB, hnew, holdb, hback⟩ := H0.out.enter hbl
 have BK := ak hback
 have hb_bxp : Box pb WB FB (W.heap.size) (.pointer (some ⟨pb, 0, none⟩)) := ⟨hnew _ (by omega) (blk_lt hx_bxp), _, hx_bxp⟩
 have B_bxp := ak hb_bxp
 have hb_bxk : Box pb WB FB (W.heap.size + 1) (.int .i64 4) := ⟨hnew _ (by omega) (blk_lt hx_bxk), _, hx_bxk⟩
 have B_bxk := ak hb_bxk
 have HN := ak NB
 have c0_bxp := NB.box hb_bxp
 have c0_bxk := NB.box hb_bxk
 rw [hWB]
 have hsz : W.heap.size + 1 + 1 = WB.heap.size := by rw [← hWB]; simp only [World.size_alloc]
 try rw [hsz]
 clear hsz hWB hbl hnew holdb hback NB H0 hb_bxp hb_bxk hx_bxp hx_bxk
 have E1 := ak (sq_st E0.out)
 clear E0
 refine (expectId_now HN.out (by omega)).mono ?_
 rintro e W2 ⟨rfl, N2⟩
 have H2 := ak N2
 have c2_bxp := N2.box B_bxp.out
 have c2_bxk := N2.box B_bxk.out
 clear N2 HN c0_bxp c0_bxk
 go_wp2_with fail
 obtain ⟨p3, e3, d3⟩ := sq_cons E1.out
 have R3 := ak e3
 have E4 := ak (d3)
 clear E1 e3 d3
 refine ((ih j (by omega)).typeParams _ _ _ _ _ _ _ _ _ (by omega) (by have := HL.out; omega) H2.out R3.out).mono ?_
 rintro e W5 ⟨rfl, N5⟩
 have H5 := ak N5
 have c5_bxp := N5.box B_bxp.out
 have c5_bxk := N5.box B_bxk.out
 clear N5 H2 c2_bxp c2_bxk
 go_wp2_with fail
 have E6 := ak (sq_st E4.out)
 clear E4
 refine (expect_now H5.out (by omega) (⟨#[123]⟩ : ByteArray)).mono ?_
 rintro e W7 ⟨rfl, N7⟩
 have H7 := ak N7
 have c7_bxp := N7.box B_bxp.out
 have c7_bxk := N7.box B_bxk.out
 clear N7 H5 c5_bxp c5_bxk
 go_wp2_with fail
 obtain ⟨p8, e8, d8⟩ := sq_cons E6.out
 have R8 := ak e8
 have E9 := ak (d8)
 clear E6 e8 d8
 refine (list_now 133 #[] #[.pointer (some ⟨W.heap.size, 0, none⟩), .pointer (some ⟨W.heap.size + 1, 0, none⟩)] en_dataType_1 (by have := HL.out; omega) ((dataE4_do  (k := j) (fun i hi => ih i (by omega)) B_bxp.out B_bxk.out (by have := HL.out; omega)).mono (by omega)) H7.out R8.out).mono ?_
 rintro e W10 ⟨rfl, N10⟩
 have H10 := ak N10
 have c10_bxp := N10.box B_bxp.out
 have c10_bxk := N10.box B_bxk.out
 clear N10 H7 c7_bxp c7_bxk
 go_wp2_with fail
 go_end0
 obtain hq := sq_nil E9.out
 have hf := G.out
 rw [hq] at hf ⊢
 exact ⟨rfl, (BK.out _ _ _ _ _ _ (H10.out.fit hf))⟩
theorem variantDeclB_do  {k : Nat} {bxp : Nat}  (ih : ∀ i, i < k → IH B T tv pb i) (hb_bxp : Box pb W0 F0 bxp (.pointer (some ⟨pb, 0, none⟩))) (hlow : low.length + k ≤ 10000000) : Does B T tv pb (k + 1) .variantDeclB 136 #[.pointer (some ⟨bxp, 0, none⟩)] low kd tx W0 F0 := by
 intro i hi m W s q hm N hr
 obtain ⟨j, rfl, h1, h2, h3⟩ := run_some hr
 have H0 := ak (N.fit h1)
 have E0 := ak h2
 have G := ak h3
 have HL := ak (show low.length + (j + 1) ≤ 10000000 by omega)
 have B_bxp := ak hb_bxp
 have c0_bxp := N.box hb_bxp
 clear N h1 h2 h3 hr hlow hb_bxp
 go_enter Tryz.func136, Tryz.ntmps136
 go_wp2_with fail
 refine (bump_now H0.out (by omega)).mono ?_
 rintro e W1 ⟨rfl, N1⟩
 have H1 := ak N1
 have c1_bxp := N1.box B_bxp.out
 clear N1 H0 c0_bxp
 go_wp2_with fail
 refine (accept_lit H1.out (by omega) [(⟨#[40]⟩ : ByteArray)] (by simp)).mono ?_
 rintro e W3 ⟨rfl, N3⟩
 rcases at_cases H1.out [(⟨#[40]⟩ : ByteArray)] with b2 | b2
 ·rw [acceptS_t b2] at N3
  rw [b2]
  have H3 := ak N3
  have c3_bxp := N3.box B_bxp.out
  clear N3 H1 c1_bxp
  have E4 := ak (if_t b2 E0.out)
  clear E0 b2
  go_wp2_with fail
  refine (list_now 107 #[.pointer (some ⟨pb, 0, none⟩)] #[] en_typeExpr (by have := HL.out; omega) (Meth.does (k := j) (fun i hi => (ih i (by omega)).typeExpr) (by have := HL.out; omega) (Nat.le_refl _)) H3.out E4.out).mono ?_
  rintro e W5 ⟨rfl, N5⟩
  have H5 := ak N5
  have c5_bxp := N5.box B_bxp.out
  clear N5 H3 c3_bxp
  go_wp2_with fail
  go_end0
  exact ⟨⟨_, rfl⟩, _, H5.out⟩
 ·rw [acceptS_f b2] at N3
  rw [b2]
  have H3 := ak N3
  have c3_bxp := N3.box B_bxp.out
  clear N3 H1 c1_bxp
  have E6 := ak (if_f b2 E0.out)
  clear E0 b2
  go_wp2_with fail
  go_end0
  obtain hq := some_in E6.out
  have hf := G.out
  rw [hq] at hf ⊢
  exact ⟨⟨_, rfl⟩, _, (H3.out.fit hf)⟩
theorem dataE5_do  {k : Nat} {bxp : Nat} {bxk : Nat}  (ih : ∀ i, i < k → IH B T tv pb i) (hb_bxp : Box pb W0 F0 bxp (.pointer (some ⟨pb, 0, none⟩))) (hb_bxk : Box pb W0 F0 bxk (.int .i64 5)) (hlow : low.length + k ≤ 10000000) : Does B T tv pb (k + 1) (.dataE 5) 133 #[.pointer (some ⟨bxp, 0, none⟩), .pointer (some ⟨bxk, 0, none⟩)] low kd tx W0 F0 := by
 intro i hi m W s q hm N hr
 obtain ⟨j, rfl, h1, h2, h3⟩ := run_some hr
 have H0 := ak (N.fit h1)
 have E0 := ak h2
 have G := ak h3
 have HL := ak (show low.length + (j + 1) ≤ 10000000 by omega)
 have B_bxp := ak hb_bxp
 have c0_bxp := N.box hb_bxp
 have B_bxk := ak hb_bxk
 have c0_bxk := N.box hb_bxk
 clear N h1 h2 h3 hr hlow hb_bxp hb_bxk
 go_enter Tryz.func133, Tryz.ntmps133
 go_wp2_with fail
 refine (ident_now H0.out).mono ?_
 rintro e W2 ⟨rfl, N2⟩
 rcases id_cases H0.out with b1 | b1
 ·rw [b1]
  have H2 := ak N2
  have c2_bxp := N2.box B_bxp.out
  have c2_bxk := N2.box B_bxk.out
  clear N2 H0 c0_bxp c0_bxk
  have E3 := ak (if_t b1 E0.out)
  clear E0 b1
  go_wp2_with fail
  have E4 := ak (if_n (by decide) E3.out)
  clear E3
  obtain ⟨p5, e5, d5⟩ := node_in E4.out
  have R5 := ak e5
  have D5 := ak d5
  clear e5 d5 E4
  refine (node_now H2.out (by omega) (by have := HL.out; omega) (15) 136 #[] #[.pointer (some ⟨bxp, 0, none⟩)] p5.2 en_dataType_1_2 (fit_iff.1 (run_fit R5.out)).1 (fun W1 F1 NN old => variantDeclB_do  (k := j) (fun i hi => ih i (by omega)) (B_bxp.out.old old) (by rw [List.length_append, List.length_singleton]; have := HL.out; omega) j (by omega) _ _ _ _ (by omega) NN R5.out)).mono ?_
  rintro e W6 ⟨rfl, N6⟩
  have H6 := ak N6
  have c6_bxp := N6.box B_bxp.out
  have c6_bxk := N6.box B_bxk.out
  clear N6 H2 c2_bxp c2_bxk
  go_wp2_with fail
  go_end0
  obtain hq := D5.out
  have hf := G.out
  rw [hq] at hf ⊢
  exact ⟨⟨_, rfl⟩, _, (H6.out.fit hf)⟩
 ·rw [b1]
  have H2 := ak N2
  have c2_bxp := N2.box B_bxp.out
  have c2_bxk := N2.box B_bxk.out
  clear N2 H0 c0_bxp c0_bxk
  have E7 := ak (if_f b1 E0.out)
  clear E0 b1
  go_wp2_with fail
  go_end0
  obtain hq := some_in E7.out
  have hf := G.out
  rw [hq] at hf ⊢
  exact ⟨⟨_, rfl⟩, _, (H2.out.fit hf)⟩
theorem dataType5_go  {k : Nat}  (ih : ∀ i, i < k → IH B T tv pb i) : Meth B T tv pb k (.dataType 5) 102 #[.pointer (some ⟨pb, 0, none⟩), .int .i64 5] (fun _ => .tuple #[]) := by
 intro m low kd tx W0 F0 W s q hm hlow N hr
 obtain ⟨j, rfl, h1, h2, h3⟩ := run_some hr
 have H0 := ak (N.fit h1)
 have E0 := ak h2
 have G := ak h3
 have HL := ak hlow
 have RUN := ak hr
 clear N h1 h2 h3 hr hlow
 go_enter Tryz.func102, Tryz.ntmps102
 go_wp2_with fail
 obtain ⟨WB, hWB⟩ : ∃ WB, ((W.alloc (.cells #[.pointer (some ⟨pb, 0, none⟩)] 74)).alloc (.cells #[.int .i64 5] 3)) = WB := ⟨_, rfl⟩
 have hbl : Below W.heap.size W WB := by rw [← hWB]; exact (below_alloc (below_alloc (Below.refl _ _) _) _)
 have hx_bxp : WB.heap[W.heap.size]? = some (.cells #[.pointer (some ⟨pb, 0, none⟩)] 74 (0, 0)) := by
  rw [← hWB]
  exact blk_alloc (blk_new W _) _
 have hx_bxk : WB.heap[W.heap.size + 1]? = some (.cells #[.int .i64 5] 3 (0, 0)) := by
  rw [← hWB]
  have hn := blk_new (W.alloc (.cells #[.pointer (some ⟨pb, 0, none⟩)] 74)) (.cells #[.int .i64 5] 3)
  simp only [World.size_alloc] at hn
  exact hn
 obtain ⟨FB, NB, hnew, holdb, hback⟩ := H0.out.enter hbl
 have BK := ak hback
 have hb_bxp : Box pb WB FB (W.heap.size) (.pointer (some ⟨pb, 0, none⟩)) := ⟨hnew _ (by omega) (blk_lt hx_bxp), _, hx_bxp⟩
 have B_bxp := ak hb_bxp
 have hb_bxk : Box pb WB FB (W.heap.size + 1) (.int .i64 5) := ⟨hnew _ (by omega) (blk_lt hx_bxk), _, hx_bxk⟩
 have B_bxk := ak hb_bxk
 have HN := ak NB
 have c0_bxp := NB.box hb_bxp
 have c0_bxk := NB.box hb_bxk
 rw [hWB]
 have hsz : W.heap.size + 1 + 1 = WB.heap.size := by rw [← hWB]; simp only [World.size_alloc]
 try rw [hsz]
 clear hsz hWB hbl hnew holdb hback NB H0 hb_bxp hb_bxk hx_bxp hx_bxk
 have E1 := ak (sq_st E0.out)
 clear E0
 refine (expectId_now HN.out (by omega)).mono ?_
 rintro e W2 ⟨rfl, N2⟩
 have H2 := ak N2
 have c2_bxp := N2.box B_bxp.out
 have c2_bxk := N2.box B_bxk.out
 clear N2 HN c0_bxp c0_bxk
 go_wp2_with fail
 obtain ⟨p3, e3, d3⟩ := sq_cons E1.out
 have R3 := ak e3
 have E4 := ak (d3)
 clear E1 e3 d3
 refine ((ih j (by omega)).typeParams _ _ _ _ _ _ _ _ _ (by omega) (by have := HL.out; omega) H2.out R3.out).mono ?_
 rintro e W5 ⟨rfl, N5⟩
 have H5 := ak N5
 have c5_bxp := N5.box B_bxp.out
 have c5_bxk := N5.box B_bxk.out
 clear N5 H2 c2_bxp c2_bxk
 go_wp2_with fail
 have E6 := ak (sq_st E4.out)
 clear E4
 refine (expect_now H5.out (by omega) (⟨#[123]⟩ : ByteArray)).mono ?_
 rintro e W7 ⟨rfl, N7⟩
 have H7 := ak N7
 have c7_bxp := N7.box B_bxp.out
 have c7_bxk := N7.box B_bxk.out
 clear N7 H5 c5_bxp c5_bxk
 go_wp2_with fail
 obtain ⟨p8, e8, d8⟩ := sq_cons E6.out
 have R8 := ak e8
 have E9 := ak (d8)
 clear E6 e8 d8
 refine (list_now 133 #[] #[.pointer (some ⟨W.heap.size, 0, none⟩), .pointer (some ⟨W.heap.size + 1, 0, none⟩)] en_dataType_1 (by have := HL.out; omega) ((dataE5_do  (k := j) (fun i hi => ih i (by omega)) B_bxp.out B_bxk.out (by have := HL.out; omega)).mono (by omega)) H7.out R8.out).mono ?_
 rintro e W10 ⟨rfl, N10⟩
 have H10 := ak N10
 have c10_bxp := N10.box B_bxp.out
 have c10_bxk := N10.box B_bxk.out
 clear N10 H7 c7_bxp c7_bxk
 go_wp2_with fail
 go_end0
 obtain hq := sq_nil E9.out
 have hf := G.out
 rw [hq] at hf ⊢
 exact ⟨rfl, (BK.out _ _ _ _ _ _ (H10.out.fit hf))⟩
theorem expr_go  {k : Nat}  (ih : ∀ i, i < k → IH B T tv pb i) : Meth B T tv pb k .expr 108 #[.pointer (some ⟨pb, 0, none⟩)] (fun _ => .tuple #[]) := by
 intro m low kd tx W0 F0 W s q hm hlow N hr
 obtain ⟨j, rfl, h1, h2, h3⟩ := run_some hr
 have H0 := ak (N.fit h1)
 have E0 := ak h2
 have G := ak h3
 have HL := ak hlow
 have RUN := ak hr
 clear N h1 h2 h3 hr hlow
 go_enter Tryz.func108, Tryz.ntmps108
 go_wp2_with fail
 refine ((ih j (by omega)).binary 0 (by omega) _ _ _ _ _ _ _ _ _ (by omega) (by have := HL.out; omega) H0.out E0.out).mono ?_
 rintro e W1 ⟨rfl, N1⟩
 have H1 := ak N1
 clear N1 H0
 go_wp2_with fail
 go_end0
 exact ⟨rfl, H1.out⟩
theorem functionF_go  {k : Nat}  (ih : ∀ i, i < k → IH B T tv pb i) : Meth B T tv pb k (.function false) 101 #[.pointer (some ⟨pb, 0, none⟩), .bool false] (fun _ => .tuple #[]) := by
 intro m low kd tx W0 F0 W s q hm hlow N hr
 obtain ⟨j, rfl, h1, h2, h3⟩ := run_some hr
 have H0 := ak (N.fit h1)
 have E0 := ak h2
 have G := ak h3
 have HL := ak hlow
 have RUN := ak hr
 clear N h1 h2 h3 hr hlow
 go_enter Tryz.func101, Tryz.ntmps101
 go_wp2_with fail
 have E1 := ak (sq_st E0.out)
 clear E0
 refine (expectId_now H0.out (by omega)).mono ?_
 rintro e W2 ⟨rfl, N2⟩
 have H2 := ak N2
 clear N2 H0
 go_wp2_with fail
 obtain ⟨p3, e3, d3⟩ := sq_cons E1.out
 have R3 := ak e3
 have E4 := ak (d3)
 clear E1 e3 d3
 refine ((ih j (by omega)).typeParams _ _ _ _ _ _ _ _ _ (by omega) (by have := HL.out; omega) H2.out R3.out).mono ?_
 rintro e W5 ⟨rfl, N5⟩
 have H5 := ak N5
 clear N5 H2
 go_wp2_with fail
 have E6 := ak (sq_st E4.out)
 clear E4
 refine (expect_now H5.out (by omega) (⟨#[40]⟩ : ByteArray)).mono ?_
 rintro e W7 ⟨rfl, N7⟩
 have H7 := ak N7
 clear N7 H5
 go_wp2_with fail
 obtain ⟨p8, e8, d8⟩ := sq_cons E6.out
 have R8 := ak e8
 have E9 := ak (d8)
 clear E6 e8 d8
 refine ((ih j (by omega)).params (⟨#[41]⟩ : ByteArray) _ _ _ _ _ _ _ _ _ (by omega) (by have := HL.out; omega) H7.out R8.out).mono ?_
 rintro e W10 ⟨rfl, N10⟩
 have H10 := ak N10
 clear N10 H7
 go_wp2_with fail
 obtain ⟨p11, e11, d11⟩ := sq_cons E9.out
 have R11 := ak e11
 have E12 := ak (d11)
 clear E9 e11 d11
 refine (opt_now 107 #[.pointer (some ⟨pb, 0, none⟩)] #[] en_typeExpr (Meth.does (k := j) (fun i hi => (ih i (by omega)).typeExpr) (by have := HL.out; omega) (Nat.le_refl _)) H10.out R11.out).mono ?_
 rintro e W13 ⟨rfl, N13⟩
 have H13 := ak N13
 clear N13 H10
 go_wp2_with fail
 obtain ⟨p14, e14, d14⟩ := sq_cons E12.out
 have X14 := ak (fix_ff e14)
 have Y14 := ak d14
 clear e14 d14 E12
 refine (accept_lit H13.out (by omega) [(⟨#[59]⟩ : ByteArray)] (by simp)).mono ?_
 rintro e W16 ⟨rfl, N16⟩
 rcases at_cases H13.out [(⟨#[59]⟩ : ByteArray)] with b15 | b15
 ·rw [acceptS_t b15] at N16
  rw [b15]
  have H16 := ak N16
  clear N16 H13
  have E17 := ak (if_t b15 X14.out)
  clear X14 b15
  go_wp2_with fail
  refine (absent_now H16.out (by omega)).mono ?_
  rintro e W18 ⟨rfl, N18⟩
  have H18 := ak N18
  clear N18 H16
  go_wp2_with fail
  have hp19 := some_in E17.out
  have E19 := ak (by have h := Y14.out; rw [hp19] at h; exact h)
  clear hp19 E17 Y14
  go_end0
  obtain hq := sq_nil E19.out
  have hf := G.out
  rw [hq] at hf ⊢
  exact ⟨rfl, (H18.out.fit hf)⟩
 ·rw [acceptS_f b15] at N16
  rw [b15]
  have H16 := ak N16
  clear N16 H13
  have E20 := ak (if_f b15 X14.out)
  clear X14 b15
  go_wp2_with fail
  refine ((ih j (by omega)).block _ _ _ _ _ _ _ _ _ (by omega) (by have := HL.out; omega) H16.out E20.out).mono ?_
  rintro e W21 ⟨rfl, N21⟩
  have H21 := ak N21
  clear N21 H16
  go_wp2_with fail
  go_end0
  obtain hq := sq_nil Y14.out
  have hf := G.out
  rw [hq] at hf ⊢
  exact ⟨rfl, (H21.out.fit hf)⟩
theorem functionT_go  {k : Nat}  (ih : ∀ i, i < k → IH B T tv pb i) : Meth B T tv pb k (.function true) 101 #[.pointer (some ⟨pb, 0, none⟩), .bool true] (fun _ => .tuple #[]) := by
 intro m low kd tx W0 F0 W s q hm hlow N hr
 obtain ⟨j, rfl, h1, h2, h3⟩ := run_some hr
 have H0 := ak (N.fit h1)
 have E0 := ak h2
 have G := ak h3
 have HL := ak hlow
 have RUN := ak hr
 clear N h1 h2 h3 hr hlow
 go_enter Tryz.func101, Tryz.ntmps101
 go_wp2_with fail
 have E1 := ak (sq_st E0.out)
 clear E0
 refine (expectId_now H0.out (by omega)).mono ?_
 rintro e W2 ⟨rfl, N2⟩
 have H2 := ak N2
 clear N2 H0
 go_wp2_with fail
 obtain ⟨p3, e3, d3⟩ := sq_cons E1.out
 have R3 := ak e3
 have E4 := ak (d3)
 clear E1 e3 d3
 refine ((ih j (by omega)).typeParams _ _ _ _ _ _ _ _ _ (by omega) (by have := HL.out; omega) H2.out R3.out).mono ?_
 rintro e W5 ⟨rfl, N5⟩
 have H5 := ak N5
 clear N5 H2
 go_wp2_with fail
 have E6 := ak (sq_st E4.out)
 clear E4
 refine (expect_now H5.out (by omega) (⟨#[40]⟩ : ByteArray)).mono ?_
 rintro e W7 ⟨rfl, N7⟩
 have H7 := ak N7
 clear N7 H5
 go_wp2_with fail
 obtain ⟨p8, e8, d8⟩ := sq_cons E6.out
 have R8 := ak e8
 have E9 := ak (d8)
 clear E6 e8 d8
 refine ((ih j (by omega)).params (⟨#[41]⟩ : ByteArray) _ _ _ _ _ _ _ _ _ (by omega) (by have := HL.out; omega) H7.out R8.out).mono ?_
 rintro e W10 ⟨rfl, N10⟩
 have H10 := ak N10
 clear N10 H7
 go_wp2_with fail
 obtain ⟨p11, e11, d11⟩ := sq_cons E9.out
 have R11 := ak e11
 have E12 := ak (d11)
 clear E9 e11 d11
 refine (opt_now 107 #[.pointer (some ⟨pb, 0, none⟩)] #[] en_typeExpr (Meth.does (k := j) (fun i hi => (ih i (by omega)).typeExpr) (by have := HL.out; omega) (Nat.le_refl _)) H10.out R11.out).mono ?_
 rintro e W13 ⟨rfl, N13⟩
 have H13 := ak N13
 clear N13 H10
 go_wp2_with fail
 have E14 := ak (show sqL [run T j .block] _ = some q from E12.out)
 clear E12
 obtain ⟨p15, e15, d15⟩ := sq_cons E14.out
 have R15 := ak e15
 have E16 := ak (d15)
 clear E14 e15 d15
 refine ((ih j (by omega)).block _ _ _ _ _ _ _ _ _ (by omega) (by have := HL.out; omega) H13.out R15.out).mono ?_
 rintro e W17 ⟨rfl, N17⟩
 have H17 := ak N17
 clear N17 H13
 go_wp2_with fail
 go_end0
 obtain hq := sq_nil E16.out
 have hf := G.out
 rw [hq] at hf ⊢
 exact ⟨rfl, (H17.out.fit hf)⟩
theorem elseB_do  {k : Nat} {bxp : Nat}  (ih : ∀ i, i < k → IH B T tv pb i) (hb_bxp : Box pb W0 F0 bxp (.pointer (some ⟨pb, 0, none⟩))) (hlow : low.length + k ≤ 10000000) : Does B T tv pb (k + 1) .elseB 212 #[.pointer (some ⟨bxp, 0, none⟩)] low kd tx W0 F0 := by
 intro i hi m W s q hm N hr
 obtain ⟨j, rfl, h1, h2, h3⟩ := run_some hr
 have H0 := ak (N.fit h1)
 have E0 := ak h2
 have G := ak h3
 have HL := ak (show low.length + (j + 1) ≤ 10000000 by omega)
 have B_bxp := ak hb_bxp
 have c0_bxp := N.box hb_bxp
 clear N h1 h2 h3 hr hlow hb_bxp
 go_enter Tryz.func212, Tryz.ntmps212
 go_wp2_with fail
 refine (at_lit H0.out [(⟨#[105, 102]⟩ : ByteArray)] (by simp)).mono ?_
 rintro e W2 ⟨rfl, N2⟩
 rcases at_cases H0.out [(⟨#[105, 102]⟩ : ByteArray)] with b1 | b1
 ·rw [b1]
  have H2 := ak N2
  have c2_bxp := N2.box B_bxp.out
  clear N2 H0 c0_bxp
  have E3 := ak (if_t b1 E0.out)
  clear E0 b1
  go_wp2_with fail
  refine ((ih j (by omega)).ifExpr _ _ _ _ _ _ _ _ _ (by omega) (by have := HL.out; omega) H2.out E3.out).mono ?_
  rintro e W4 ⟨rfl, N4⟩
  have H4 := ak N4
  have c4_bxp := N4.box B_bxp.out
  clear N4 H2 c2_bxp
  go_wp2_with fail
  go_end0
  exact ⟨⟨_, rfl⟩, _, H4.out⟩
 ·rw [b1]
  have H2 := ak N2
  have c2_bxp := N2.box B_bxp.out
  clear N2 H0 c0_bxp
  have E5 := ak (if_f b1 E0.out)
  clear E0 b1
  go_wp2_with fail
  refine ((ih j (by omega)).block _ _ _ _ _ _ _ _ _ (by omega) (by have := HL.out; omega) H2.out E5.out).mono ?_
  rintro e W6 ⟨rfl, N6⟩
  have H6 := ak N6
  have c6_bxp := N6.box B_bxp.out
  clear N6 H2 c2_bxp
  go_wp2_with fail
  go_end0
  exact ⟨⟨_, rfl⟩, _, H6.out⟩
theorem ifB_do  {k : Nat} {bxp : Nat}  (ih : ∀ i, i < k → IH B T tv pb i) (hb_bxp : Box pb W0 F0 bxp (.pointer (some ⟨pb, 0, none⟩))) (hlow : low.length + k ≤ 10000000) : Does B T tv pb (k + 1) .ifB 211 #[.pointer (some ⟨bxp, 0, none⟩)] low kd tx W0 F0 := by
 intro i hi m W s q hm N hr
 obtain ⟨j, rfl, h1, h2, h3⟩ := run_some hr
 have H0 := ak (N.fit h1)
 have E0 := ak h2
 have G := ak h3
 have HL := ak (show low.length + (j + 1) ≤ 10000000 by omega)
 have B_bxp := ak hb_bxp
 have c0_bxp := N.box hb_bxp
 clear N h1 h2 h3 hr hlow hb_bxp
 go_enter Tryz.func211, Tryz.ntmps211
 go_wp2_with fail
 have E1 := ak (sq_st E0.out)
 clear E0
 refine (bump_now H0.out (by omega)).mono ?_
 rintro e W2 ⟨rfl, N2⟩
 have H2 := ak N2
 have c2_bxp := N2.box B_bxp.out
 clear N2 H0 c0_bxp
 go_wp2_with fail
 obtain ⟨p3, e3, d3⟩ := sq_cons E1.out
 have R3 := ak e3
 have E4 := ak (d3)
 clear E1 e3 d3
 refine ((ih j (by omega)).expr _ _ _ _ _ _ _ _ _ (by omega) (by have := HL.out; omega) H2.out R3.out).mono ?_
 rintro e W5 ⟨rfl, N5⟩
 have H5 := ak N5
 have c5_bxp := N5.box B_bxp.out
 clear N5 H2 c2_bxp
 go_wp2_with fail
 obtain ⟨p6, e6, d6⟩ := sq_cons E4.out
 have R6 := ak e6
 have E7 := ak (d6)
 clear E4 e6 d6
 refine ((ih j (by omega)).block _ _ _ _ _ _ _ _ _ (by omega) (by have := HL.out; omega) H5.out R6.out).mono ?_
 rintro e W8 ⟨rfl, N8⟩
 have H8 := ak N8
 have c8_bxp := N8.box B_bxp.out
 clear N8 H5 c5_bxp
 go_wp2_with fail
 obtain ⟨p9, e9, d9⟩ := sq_cons E7.out
 have R9 := ak e9
 have E10 := ak (d9)
 clear E7 e9 d9
 refine (opt_now 212 #[] #[.pointer (some ⟨bxp, 0, none⟩)] en_ifExpr_1_1 ((elseB_do  (k := j) (fun i hi => ih i (by omega)) B_bxp.out (by have := HL.out; omega)).mono (by omega)) H8.out R9.out).mono ?_
 rintro e W11 ⟨rfl, N11⟩
 have H11 := ak N11
 have c11_bxp := N11.box B_bxp.out
 clear N11 H8 c8_bxp
 go_wp2_with fail
 go_end0
 obtain hq := sq_nil E10.out
 have hf := G.out
 rw [hq] at hf ⊢
 exact ⟨⟨_, rfl⟩, _, (H11.out.fit hf)⟩
theorem ifExpr_go  {k : Nat}  (ih : ∀ i, i < k → IH B T tv pb i) : Meth B T tv pb k .ifExpr 199 #[.pointer (some ⟨pb, 0, none⟩)] (fun _ => .tuple #[]) := by
 intro m low kd tx W0 F0 W s q hm hlow N hr
 obtain ⟨j, rfl, h1, h2, h3⟩ := run_some hr
 have H0 := ak (N.fit h1)
 have E0 := ak h2
 have G := ak h3
 have HL := ak hlow
 have RUN := ak hr
 clear N h1 h2 h3 hr hlow
 go_enter Tryz.func199, Tryz.ntmps199
 go_wp2_with fail
 obtain ⟨WB, hWB⟩ : ∃ WB, (W.alloc (.cells #[.pointer (some ⟨pb, 0, none⟩)] 74)) = WB := ⟨_, rfl⟩
 have hbl : Below W.heap.size W WB := by rw [← hWB]; exact (below_alloc (Below.refl _ _) _)
 have hx_bxp : WB.heap[W.heap.size]? = some (.cells #[.pointer (some ⟨pb, 0, none⟩)] 74 (0, 0)) := by
  rw [← hWB]
  exact blk_new W _
 obtain ⟨FB, NB, hnew, holdb, hback⟩ := H0.out.enter hbl
 have BK := ak hback
 have hb_bxp : Box pb WB FB (W.heap.size) (.pointer (some ⟨pb, 0, none⟩)) := ⟨hnew _ (by omega) (blk_lt hx_bxp), _, hx_bxp⟩
 have B_bxp := ak hb_bxp
 have HN := ak NB
 have c0_bxp := NB.box hb_bxp
 rw [hWB]
 have hsz : W.heap.size + 1 = WB.heap.size := by rw [← hWB]; simp only [World.size_alloc]
 try rw [hsz]
 clear hsz hWB hbl hnew holdb hback NB H0 hb_bxp hx_bxp
 obtain ⟨p1, e1, d1⟩ := node_in E0.out
 have R1 := ak e1
 have D1 := ak d1
 clear e1 d1 E0
 refine (node_now HN.out (by omega) (by have := HL.out; omega) (37) 211 #[] #[.pointer (some ⟨W.heap.size, 0, none⟩)] p1.2 en_ifExpr_1 (fit_iff.1 (run_fit R1.out)).1 (fun W1 F1 NN old => ifB_do  (k := j) (fun i hi => ih i (by omega)) (B_bxp.out.old old) (by rw [List.length_append, List.length_singleton]; have := HL.out; omega) j (by omega) _ _ _ _ (by omega) NN R1.out)).mono ?_
 rintro e W2 ⟨rfl, N2⟩
 have H2 := ak N2
 have c2_bxp := N2.box B_bxp.out
 clear N2 HN c0_bxp
 go_wp2_with fail
 go_end0
 obtain hq := D1.out
 have hf := G.out
 rw [hq] at hf ⊢
 exact ⟨rfl, (BK.out _ _ _ _ _ _ (H2.out.fit hf))⟩
end Go.Proofs.YtkijamagbgigmaaGreatDoor.Par
namespace Go.Proofs.YtkijamagbgigmaaGreatDoor.Par
open Go.RowKit Go.Proofs.YtkijamagbgigmaaGreatDoorW.PrintWords Go.Proofs.YtkijamagbgigmaaGreatDoorW.PrintLast
variable {B : Nat} {T : List Tok} {tv : Value} {pb : Nat} {m : Nat} {low : List Tree} {kd : Int} {tx : ByteArray} {W0 : World} {F0 : List Nat} {W : World} {s : St}
theorem Now.cut {ks : List Tree} {t : Tree} (N : Now B T tv pb m low kd tx W0 F0 W s) (hs : s = (s.1, ks ++ [t])) :
  ∃ sb scap kg kcap, W.cell? ⟨pb, 2, none⟩ = some (.slice (some ⟨sb, 0, none⟩) (low.length + 1) scap) ∧ W.cell? ⟨sb, low.length * 3 + 2, none⟩ = some (.slice (some ⟨kg, 0, none⟩) (ks.length + 1) kcap) ∧ (∀ i, W.frozen? ⟨sb, i, none⟩ = false) ∧
   ks.length + 1 ≤ kcap ∧ sb ≠ pb ∧ sb < W.heap.size ∧ low.length ≤ 10000000 ∧ ks.length ≤ 100000 + m ∧
   ∀ W' : World, W'.os = W.os → W'.tape = W.tape → W'.output = W.output → W'.heap = (W.setCell ⟨sb, low.length * 3 + 2, none⟩ (.slice (some ⟨kg, 0, none⟩) ks.length kcap)).heap → Now B T tv pb m low kd tx W0 F0 W' (s.1, ks) := by
 obtain ⟨F, h1, h2⟩ := N.st
 have e2 : s.2 = ks ++ [t] := congrArg Prod.snd hs
 have hk := N.kids
 have hpo := N.pos
 have hle := N.len
 rw [e2] at h1 hk
 simp only [List.length_append, List.length_singleton] at hk
 obtain ⟨sb, scap, kg, kcap, hv, F1, Ft, p1, hc1, hc2, ⟨n1, n2, n3, l1, l2, l3⟩, hfz, c0, _, _, hF, hcut⟩ := h1.cutTop
 refine ⟨sb, scap, kg, kcap, (blk_cell p1 2).trans rfl, c0, hfz, hc2, n1, l1, N.low, by omega, fun W' g1 g2 g3 g4 => ?_⟩
 obtain ⟨q1, q2, q3⟩ := hcut W' g1 g2 g3 (by rw [g4]; simp [World.setCell]) (fun g hg hne => by rw [g4]; exact Below.heap_setCell W ⟨sb, low.length * 3 + 2, none⟩ _ g hne) (by rw [g4])
 exact ⟨⟨F1, q1, h2.trans q3⟩, hpo, hle, N.low, by show ks.length ≤ s.1 + m; omega⟩
theorem cut_in {p : Bool × St} {q : Bool × St} (h : (match p.2.2.getLast? with | none => none | some _ => some (false, unexpS T (p.2.1, p.2.2.dropLast))) = some q) : ∃ ks t, p.2 = (p.2.1, ks ++ [t]) ∧ q = (false, unexpS T (p.2.1, ks)) := by
 cases hg : p.2.2.getLast? with
 | none =>
  rw [hg] at h
  cases h
 | some t =>
  rw [hg] at h
  have hd : p.2.2 = p.2.2.dropLast ++ [t] := by
   have hne : p.2.2 ≠ [] := by
    rintro e
    rw [e] at hg
    cases hg
   have h3 := List.dropLast_concat_getLast hne
   rw [List.getLast?_eq_some_getLast hne] at hg
   cases hg
   exact h3.symm
  exact ⟨p.2.2.dropLast, t, Prod.ext rfl hd, some_in h⟩
end Go.Proofs.YtkijamagbgigmaaGreatDoor.Par
namespace Go.Proofs.YtkijamagbgigmaaGreatDoor.Par
open Go.RowKit Go.Proofs.YtkijamagbgigmaaGreatDoorW.PrintWords Go.Proofs.YtkijamagbgigmaaGreatDoorW.PrintLast
variable {P : Program}
theorem run_zeros_grow (w : World) (t ti ty e : TypeId) (i : TypeInfo) (z : Value) (ht : P.underlying t = some (.slice e)) {k : IntKind} (hti : P.underlying ti = some (.int k)) (hi : P.info? e = some i) (hz : i.zero = some z) (hzs : z.cells.size = i.size) (hs0 : 0 < i.size)
  (b : Addr) (n cap : Nat) (xs : List Value) (hlo : xs.length = n * i.size) (holds : ∀ j v, xs[j]? = some v → w.cell? (b.add j) = some v) (m : Nat) (hm : 0 < m) (hcap : cap < n + m) (hbytes : (n + m) * i.bytes ≤ 140737488355328) (hb0 : 0 < i.bytes) :
  (Builtin.append_ #[t, ti] ty #[.slice (some b) n cap, .int .i64 (m : Int)]).run P w =
   .ok (.slice (some ⟨w.heap.size, 0, none⟩) (n + m) (grownCap w (n + m) cap e)) (w.drew.alloc (.cells (xs.toArray ++ Builtin.zeroCells z.cells m ++ Builtin.zeroCells z.cells (grownCap w (n + m) cap e - (n + m))) e)) := by
 have hle : n + m ≤ 140737488355328 := Nat.le_trans (Nat.le_mul_of_pos_right _ hb0) hbytes
 have hw : IntKind.i64.wrap (m : Int) = m := by rw [IntKind.wrap_i64]; omega
 have hneg : ¬ ((m : Int) < 0) := by omega
 have hmb : m * i.bytes ≤ 140737488355328 := Nat.le_trans (Nat.mul_le_mul_right _ (Nat.le_add_left m n)) hbytes
 have hbig : ¬ (281474976710656 < (m : Int) * (i.bytes : Int)) := by
  rw [← Int.natCast_mul]
  omega
 have hn : ¬ (n + m ≤ cap) := by omega
 have h63' : ¬ (9223372036854775807 < ((n : Int) + (m : Int))) := by omega
 have hfit := growslice_fits hcap hbytes
 have h48' : ¬ (281474976710656 < Builtin.nextslicecap (n + m) cap * i.bytes) := by omega
 have hmz : ¬ (m = 0 ∨ i.size = 0) := by omega
 have hmz' : ¬ (m * i.size = 0) := Nat.mul_ne_zero (by omega) (by omega)
 have hfo := run_firstCells_some (P := P) w.drew i.size n b n cap xs hlo (by simpa using holds)
 simp [Builtin.append_, run_underlying ht, run_underlying hti, sizeOf, typeInfo, zeroValue, hi, hz, asInt, asIntOf, hw, hneg, hbig, hn, h63', h48', Question.forced, hfo, hmz, hmz', newRow, grownCap]
theorem run_copy_k (w : World) (dT sT ty elem : TypeId) (i : TypeInfo) (g o dLen dCap : Nat) (a : Addr) (sLen sCap : Nat) (cur : Array Value) (t : TypeId) (cs : List Value) (hu : P.underlying dT = some (.slice elem)) (hi : P.info? elem = some i)
  (hg : w.heap[g]? = some (.cells cur t (0, 0))) (hn : cs.length = Nat.min sLen dLen * i.size) (hsrc : ∀ j v, cs[j]? = some v → w.cell? (a.add j) = some v) (hfit : o + cs.length ≤ cur.size) (h1 : ∀ v ∈ cs, v.oneCell' = true) :
  (Builtin.copy_ #[dT, sT] ty #[.slice (some ⟨g, o, none⟩) dLen dCap, .slice (some a) sLen sCap]).run P w = .ok (goInt (Nat.min sLen dLen)) (w.setRow g (cur.toList.take o ++ cs ++ cur.toList.drop (o + cs.length)).toArray) := by
 have hl := run_firstCells_some (P := P) w i.size (Nat.min sLen dLen) a sLen sCap cs hn hsrc
 have hst := run_storeCells_at P g o t cs 0 cur w hg (by simpa using hfit) h1
 simp only [Nat.add_zero] at hst
 simp only [Nat.min_def] at hl hn
 simp [Builtin.copy_, run_underlying hu, Builtin.lenOf, sizeOf, typeInfo, hi, Nat.min_def, hl, hst]
end Go.Proofs.YtkijamagbgigmaaGreatDoor.Par
namespace Go.Proofs.YtkijamagbgigmaaGreatDoor.Par
open Go.RowKit Go.Proofs.YtkijamagbgigmaaGreatDoorW.PrintWords Go.Proofs.YtkijamagbgigmaaGreatDoorW.PrintLast
variable {P : Program}
variable {ops : Array Oper} {rest : List Oper} {o : Oper} {a : Act} {Q : Exit → Act → World → Prop} {K : Act → World → Prop}
theorem wpList_zeros_grow (w : World) (hgd : o.guard = none) (s x : Operand) (t ti e : TypeId) (z : Value) (size bytes : Nat) (ho : o.op = .call { callee := .builtin .append, args := #[s, x], argTypes := #[t, ti] }) (ht : P.underlying t = some (.slice e)) {k : IntKind} (hti : P.underlying ti = some (.int k))
  (hinfo : (P.info? e).map (fun i => (i.zero, i.size, i.bytes)) = some (some z, size, bytes)) (hzs : z.cells.size = size) (hs0 : 0 < size) (hb0 : 0 < bytes)
  (b : Addr) (n cap : Nat) (xs : List Value) (hs : a.eval s = .slice (some b) n cap) (hlo : xs.length = n * size) (holds : ∀ j v, xs[j]? = some v → w.cell? (b.add j) = some v) (m : Nat) (hx : a.eval x = .int .i64 (m : Int)) (hm : 0 < m) (hcap : cap < n + m) (hbytes : (n + m) * bytes ≤ 140737488355328)
  (h : wpList P ops Q rest (a.put o.dst (.slice (some ⟨w.heap.size, 0, none⟩) (n + m) (grownCap w (n + m) cap e))) (w.drew.alloc (.cells (xs.toArray ++ Builtin.zeroCells z.cells m ++ Builtin.zeroCells z.cells (grownCap w (n + m) cap e - (n + m))) e))) : wpList P ops Q (o :: rest) a w := by
 obtain ⟨i0, hi, hzz⟩ := Option.map_eq_some_iff.1 hinfo
 simp only [Prod.mk.injEq] at hzz
 obtain ⟨hz0, hz1, hz2⟩ := hzz
 subst hz1
 subst hz2
 refine wpList_plain hgd fun K hK => ?_
 have hrun := run_zeros_grow (P := P) w t ti o.type e i0 z ht hti hi hz0 hzs hs0 b n cap xs hlo holds m hm hcap hbytes hb0
 unfold Oper.wp
 simp only [execOp, ho, resolve, invoke, builtin, Sem.run_bind, Sem.run_pure, Result.andThen_ok, List.map_toArray, List.map_cons, List.map_nil, hs, hx, hrun]
 exact hK _ _ h
theorem step_copy_k (w : World) (hw : Region.wanted o (yielded ops a.tmps) = true) (d s : Operand) (dT sT : TypeId) (ho : o.op = .call { callee := .builtin .copy, args := #[d, s], argTypes := #[dT, sT] }) (elem : TypeId) (hu : P.underlying dT = some (.slice elem)) (size : Nat) (hsz : (P.info? elem).map (·.size) = some size)
  (g off dLen dCap : Nat) (ad : Addr) (sLen sCap : Nat) (hd : a.eval d = .slice (some ⟨g, off, none⟩) dLen dCap) (hs : a.eval s = .slice (some ad) sLen sCap)
  (cur : Array Value) (t : TypeId) (hg : w.heap[g]? = some (.cells cur t (0, 0))) (cs : List Value) (hn : cs.length = Nat.min sLen dLen * size)
  (hsrc : ∀ j v, cs[j]? = some v → w.cell? (ad.add j) = some v) (hfit : off + cs.length ≤ cur.size) (h1 : ∀ v ∈ cs, v.oneCell' = true)
  (h : K (a.put o.dst (goInt (Nat.min sLen dLen))) (w.setRow g (cur.toList.take off ++ cs ++ cur.toList.drop (off + cs.length)).toArray)) :
  if Region.wanted o (yielded ops a.tmps) = true then Oper.wp P o a w K Q else K (a.put o.dst undef) w := by
 obtain ⟨i0, hi, hzz⟩ := Option.map_eq_some_iff.1 hsz
 subst hzz
 rw [if_pos hw]
 have hrun := run_copy_k (P := P) w dT sT o.type elem i0 g off dLen dCap ad sLen sCap cur t cs hu hi hg hn hsrc hfit h1
 unfold Oper.wp
 simp only [execOp, ho, resolve, invoke, builtin, Sem.run_bind, Sem.run_pure, Result.andThen_ok, List.map_toArray, List.map_cons, List.map_nil, hd, hs, hrun]
 exact h
end Go.Proofs.YtkijamagbgigmaaGreatDoor.Par
