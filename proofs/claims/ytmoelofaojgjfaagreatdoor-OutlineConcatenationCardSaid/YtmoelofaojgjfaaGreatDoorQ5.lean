/- Packed texts, part 5: contracts and plain lemmas towards outlineConcatenation_holds. -/
import Derived.Test.YtmoelofaojgjfaaGreatDoorQ4
import Derived.StillTailTactics
import Derived.Deep.RegionHeld3
import Derived.Laws.CopyOwn
import Derived.Lib.Overlaps
set_option maxHeartbeats 8000000
set_option maxRecDepth 1000000
set_option linter.unusedVariables false
set_option linter.unusedSimpArgs false
namespace Go.Proofs.YtmoelofaojgjfaaGreatDoor.Par
open Go.RowKit Go.Proofs.YtmoelofaojgjfaaGreatDoorW.PrintWords Go.Proofs.YtmoelofaojgjfaaGreatDoorW.PrintLast
variable {B : Nat} {T : List Tok} {tv : Value} {pb : Nat} {low : List Tree} {kd : Int} {tx : ByteArray} {W0 : World} {F0 : List Nat}
theorem zvt {k : Nat} {bxp : Nat} (ih : ∀ i, i < k → IH B T tv pb i) (hb_bxp : Box pb W0 F0 bxp (.pointer (some ⟨pb, 0, none⟩))) (hlow : low.length + k ≤ 10000000) : Does B T tv pb (k + 1) .blockB 316 #[.pointer (some ⟨bxp, 0, none⟩)] low kd tx W0 F0 := by
 intro i hi m W s q hm N hr
 obtain ⟨j, rfl, h1, h2, h3⟩ := zad hr
 have H0 := ak (N.fit h1)
 obtain ⟨p, e1, e2⟩ := zcp h2
 have E0 := ak e1
 have E9 := ak (And.intro (zab e2) h3)
 have B_bxp := ak hb_bxp
 have c0_bxp := N.box hb_bxp
 have HL := ak (show low.length + (j + 1) ≤ 10000000 by omega)
 clear N h1 h2 h3 hr hlow hb_bxp e1 e2
 go_enter Tryz.func316, Tryz.ntmps316
 go_wp2_with fail
 refine (zag H0.out (by omega) _).mono ?_
 rintro e W1 ⟨rfl, N1⟩
 have H1 := ak N1
 clear N1 H0 c0_bxp
 go_wp2_with fail
 go_loopg [1] j (fun g v wr => ∃ hv s1, v = .bool hv ∧ Now B T tv pb 10000000 low kd tx W0 F0 wr s1 ∧ g ≤ j ∧ ((hv = true ∧ p = (true, s1)) ∨ (hv = false ∧ run T g .stmts s1 = some p)))
 case atStart =>
  obtain ⟨_, _, g1, _, _⟩ := zad E0.out
  exact ⟨false, _, rfl, H1.out.fit g1, Nat.le_refl _, .inr ⟨rfl, E0.out⟩⟩
 case round =>
  obtain ⟨hv, s1, rfl, N2, hg, hor⟩ := hrel
  have H2 := ak N2
  have hi2 := ak hg
  have c2_bxp := N2.box B_bxp.out
  clear N2 hg
  rcases hor with ⟨rfl, hp⟩ | ⟨rfl, hr1⟩
  ·have E2 := ak hp
   clear hp
   go_wp2_with fail
   refine zc7 (ds := []) (S := (fun w' => w'.cell? ⟨bxp, 0, none⟩ = some (.pointer (some ⟨pb, 0, none⟩)))) #[false, false, false, false, false, false, false, false, false, false, false, false, false, false, false, false, false, false, false] (by kernel_rfl) rfl rfl c2_bxp (fun hS => ?_)
   refine take_ (i := 0) (N := some 4) (v := .bool true) #[true, false, false, false, false, false, false, false, false, false, false, false, false, false, false, false, false, false, false] rfl rfl (by kernel_rfl) (fun _ _ _ h => h) (Or.inl ⟨by kernel_rfl, by intro w' z1; go_simp⟩) hS rfl ?_
   simp only [Act.put, sia, List.set]
   refine take_ (i := 1) (N := some 5) (v := .bool false) #[true, true, false, false, false, false, false, false, false, false, false, false, false, false, false, false, false, false, false] rfl rfl (by kernel_rfl) (fun _ _ _ h => h) (Or.inl ⟨by kernel_rfl, by intro w' z1; go_simp⟩) hS rfl ?_
   simp only [Act.put, sia, List.set]
   refine take_ (i := 2) (N := some 6) (v := .bool false) #[true, true, true, false, false, false, false, false, false, false, false, false, false, false, false, false, false, false, false] rfl rfl (by kernel_rfl) (fun _ _ _ h => h) (Or.inl ⟨by kernel_rfl, by intro w' z1; go_simp⟩) hS rfl ?_
   simp only [Act.put, sia, List.set]
   refine take_ (i := 3) (N := some 7) (v := undef) #[true, true, true, true, false, false, false, false, false, false, false, false, false, false, false, false, false, false, false] rfl rfl (by kernel_rfl) (fun _ _ _ h => h) (Or.inr ⟨by kernel_rfl, rfl⟩) hS rfl ?_
   simp only [Act.put, sia, List.set]
   refine take_ (i := 4) (N := some 8) (v := undef) #[true, true, true, true, true, false, false, false, false, false, false, false, false, false, false, false, false, false, false] rfl rfl (by kernel_rfl) (fun _ _ _ h => h) (Or.inr ⟨by kernel_rfl, rfl⟩) hS rfl ?_
   simp only [Act.put, sia, List.set]
   refine take_ (i := 5) (N := some 9) (v := undef) #[true, true, true, true, true, true, false, false, false, false, false, false, false, false, false, false, false, false, false] rfl rfl (by kernel_rfl) (fun _ _ _ h => h) (Or.inr ⟨by kernel_rfl, rfl⟩) hS rfl ?_
   simp only [Act.put, sia, List.set]
   refine take_ (i := 6) (N := some 10) (v := undef) #[true, true, true, true, true, true, true, false, false, false, false, false, false, false, false, false, false, false, false] rfl rfl (by kernel_rfl) (fun _ _ _ h => h) (Or.inr ⟨by kernel_rfl, rfl⟩) hS rfl ?_
   simp only [Act.put, sia, List.set]
   refine take_ (i := 7) (N := some 11) (v := .bool false) #[true, true, true, true, true, true, true, true, false, false, false, false, false, false, false, false, false, false, false] rfl rfl (by kernel_rfl) (fun _ _ _ h => h) (Or.inl ⟨by kernel_rfl, by intro w' z1; go_simp⟩) hS rfl ?_
   simp only [Act.put, sia, List.set]
   refine take_ (i := 8) (N := some 12) (v := .bool false) #[true, true, true, true, true, true, true, true, true, false, false, false, false, false, false, false, false, false, false] rfl rfl (by kernel_rfl) (fun _ _ _ h => h) (Or.inl ⟨by kernel_rfl, by intro w' z1; go_simp⟩) hS rfl ?_
   simp only [Act.put, sia, List.set]
   refine take_ (i := 9) (N := some 13) (v := undef) #[true, true, true, true, true, true, true, true, true, true, false, false, false, false, false, false, false, false, false] rfl rfl (by kernel_rfl) (fun _ _ _ h => h) (Or.inr ⟨by kernel_rfl, rfl⟩) hS rfl ?_
   simp only [Act.put, sia, List.set]
   refine take_ (i := 10) (N := some 14) (v := undef) #[true, true, true, true, true, true, true, true, true, true, true, false, false, false, false, false, false, false, false] rfl rfl (by kernel_rfl) (fun _ _ _ h => h) (Or.inr ⟨by kernel_rfl, rfl⟩) hS rfl ?_
   simp only [Act.put, sia, List.set]
   refine take_ (i := 11) (N := some 15) (v := undef) #[true, true, true, true, true, true, true, true, true, true, true, true, false, false, false, false, false, false, false] rfl rfl (by kernel_rfl) (fun _ _ _ h => h) (Or.inr ⟨by kernel_rfl, rfl⟩) hS rfl ?_
   simp only [Act.put, sia, List.set]
   refine take_ (i := 12) (N := some 16) (v := .bool false) #[true, true, true, true, true, true, true, true, true, true, true, true, true, false, false, false, false, false, false] rfl rfl (by kernel_rfl) (fun _ _ _ h => h) (Or.inl ⟨by kernel_rfl, by intro w' z1; go_simp⟩) hS rfl ?_
   simp only [Act.put, sia, List.set]
   refine take_ (i := 13) (N := some 17) (v := .bool false) #[true, true, true, true, true, true, true, true, true, true, true, true, true, true, false, false, false, false, false] rfl rfl (by kernel_rfl) (fun _ _ _ h => h) (Or.inl ⟨by kernel_rfl, by intro w' z1; go_simp⟩) hS rfl ?_
   simp only [Act.put, sia, List.set]
   refine take_ (i := 14) (N := some 18) (v := undef) #[true, true, true, true, true, true, true, true, true, true, true, true, true, true, true, false, false, false, false] rfl rfl (by kernel_rfl) (fun _ _ _ h => h) (Or.inr ⟨by kernel_rfl, rfl⟩) hS rfl ?_
   simp only [Act.put, sia, List.set]
   refine take_ (i := 15) (N := some 19) (v := undef) #[true, true, true, true, true, true, true, true, true, true, true, true, true, true, true, true, false, false, false] rfl rfl (by kernel_rfl) (fun _ _ _ h => h) (Or.inr ⟨by kernel_rfl, rfl⟩) hS rfl ?_
   simp only [Act.put, sia, List.set]
   refine take_ (i := 16) (N := some 20) (v := undef) #[true, true, true, true, true, true, true, true, true, true, true, true, true, true, true, true, true, false, false] rfl rfl (by kernel_rfl) (fun _ _ _ h => h) (Or.inr ⟨by kernel_rfl, rfl⟩) hS rfl ?_
   simp only [Act.put, sia, List.set]
   refine take_ (i := 17) (N := some 21) (v := undef) #[true, true, true, true, true, true, true, true, true, true, true, true, true, true, true, true, true, true, false] rfl rfl (by kernel_rfl) (fun _ _ _ h => h) (Or.inr ⟨by kernel_rfl, rfl⟩) hS rfl ?_
   simp only [Act.put, sia, List.set]
   refine take_ (i := 18) (N := some 22) (v := .bool false) #[true, true, true, true, true, true, true, true, true, true, true, true, true, true, true, true, true, true, true] rfl rfl (by kernel_rfl) (fun _ _ _ h => h) (Or.inl ⟨by kernel_rfl, by intro w' z1; go_simp⟩) hS rfl ?_
   simp only [Act.put, sia, List.set]
   refine zq (by kernel_rfl) ?_ _
   go_wp2_with fail
   refine (zag (H2.out.below (zae (Below.refl _ _))) (by omega) _).mono ?_
   rintro e W8 ⟨rfl, N8⟩
   have H8 := ak N8
   clear N8
   go_wp2_with fail
   go_end0
   obtain ⟨hq, hf⟩ := E9.out
   rw [E2.out] at hq
   rw [if_pos rfl] at hq
   subst hq
   exact ⟨⟨_, rfl⟩, _, H8.out⟩
  ·obtain ⟨i, rfl, f1, f2, f3⟩ := zad hr1
   have E1 := ak (and3 f2)
   clear hr1 f1 f2 f3
   rcases zac H2.out [(⟨#[125]⟩ : ByteArray)] with hat | hat
   ·have E2 : zar (p = (false, s1)) := by
     rcases E1.out with ⟨h, g⟩ | ⟨_, h, g⟩ | ⟨_, _, h, g⟩ | ⟨h, _, _, _⟩
     ·exact ⟨zab g⟩
     ·exact ⟨zab g⟩
     ·exact ⟨zab g⟩
     ·rw [hat] at h; cases h
    have HAT := ak hat
    clear hat
    go_wp2_with fail
    refine zc7 (ds := []) (S := (fun w' => w'.cell? ⟨bxp, 0, none⟩ = some (.pointer (some ⟨pb, 0, none⟩)))) #[false, false, false, false, false, false, false, false, false, false, false, false, false, false, false, false, false, false, false] (by kernel_rfl) rfl rfl c2_bxp (fun hS => ?_)
    refine take_ (i := 0) (N := some 4) (v := .bool false) #[true, false, false, false, false, false, false, false, false, false, false, false, false, false, false, false, false, false, false] rfl rfl (by kernel_rfl) (fun _ _ _ h => h) (Or.inl ⟨by kernel_rfl, by intro w' z1; go_simp⟩) hS rfl ?_
    simp only [Act.put, sia, List.set]
    refine take_ (i := 1) (N := some 5) (v := .bool true) #[true, true, false, false, false, false, false, false, false, false, false, false, false, false, false, false, false, false, false] rfl rfl (by kernel_rfl) (fun _ _ _ h => h) (Or.inl ⟨by kernel_rfl, by intro w' z1; go_simp⟩) hS rfl ?_
    simp only [Act.put, sia, List.set]
    refine take_ (i := 2) (N := some 6) (v := .bool true) #[true, true, true, false, false, false, false, false, false, false, false, false, false, false, false, false, false, false, false] rfl rfl (by kernel_rfl) (fun _ _ _ h => h) (Or.inl ⟨by kernel_rfl, by intro w' z1; go_simp⟩) hS rfl ?_
    simp only [Act.put, sia, List.set]
    refine take_ (i := 3) (N := some 7) (v := .pointer (some ⟨pb, 0, none⟩)) #[true, true, true, true, false, false, false, false, false, false, false, false, false, false, false, false, false, false, false] rfl rfl (by kernel_rfl) (fun _ _ _ h => h) (Or.inl ⟨by kernel_rfl, by intro w' z1; go_simp⟩) hS rfl ?_
    simp only [Act.put, sia, List.set]
    refine one_ (i := 4) (N := some 8) #[true, true, true, true, true, false, false, false, false, false, false, false, false, false, false, false, false, false, false] rfl rfl (by kernel_rfl) (by simp) (fun K hK => ?_)
    go_simp
    refine hK.out _ _ (by go_keep) (fun hS => ?_)
    clear hK
    try simp only [Act.put, sia, List.set]
    refine one_ (i := 5) (N := some 9) #[true, true, true, true, true, true, false, false, false, false, false, false, false, false, false, false, false, false, false] rfl rfl (by kernel_rfl) (by simp) (fun K hK => ?_)
    go_simp
    refine (zdr (l := [(⟨#[125]⟩ : ByteArray)]) (H2.out.below (zae (zh (Below.refl _ _) _))) (by simp) (zdv [(⟨#[125]⟩ : ByteArray)] (by simp) (zdp (zaj _ _))) (Nat.le_refl _)).mono ?_
    rintro e W3 ⟨rfl, N3⟩
    rw [HAT.out]
    have H3 := ak N3
    have cS := N3.box B_bxp.out
    clear N3
    refine hK.out _ _ cS (fun hS => ?_)
    clear hK
    try simp only [Act.put, sia, List.set]
    refine take_ (i := 6) (N := some 10) (v := .bool false) #[true, true, true, true, true, true, true, false, false, false, false, false, false, false, false, false, false, false, false] rfl rfl (by kernel_rfl) (fun _ _ _ h => h) (Or.inl ⟨by kernel_rfl, by intro w' z1; go_simp⟩) hS rfl ?_
    simp only [Act.put, sia, List.set]
    refine take_ (i := 7) (N := some 11) (v := .bool false) #[true, true, true, true, true, true, true, true, false, false, false, false, false, false, false, false, false, false, false] rfl rfl (by kernel_rfl) (fun _ _ _ h => h) (Or.inl ⟨by kernel_rfl, by intro w' z1; go_simp⟩) hS rfl ?_
    simp only [Act.put, sia, List.set]
    refine take_ (i := 8) (N := some 12) (v := .bool false) #[true, true, true, true, true, true, true, true, true, false, false, false, false, false, false, false, false, false, false] rfl rfl (by kernel_rfl) (fun _ _ _ h => h) (Or.inl ⟨by kernel_rfl, by intro w' z1; go_simp⟩) hS rfl ?_
    simp only [Act.put, sia, List.set]
    refine take_ (i := 9) (N := some 13) (v := undef) #[true, true, true, true, true, true, true, true, true, true, false, false, false, false, false, false, false, false, false] rfl rfl (by kernel_rfl) (fun _ _ _ h => h) (Or.inr ⟨by kernel_rfl, rfl⟩) hS rfl ?_
    simp only [Act.put, sia, List.set]
    refine take_ (i := 10) (N := some 14) (v := undef) #[true, true, true, true, true, true, true, true, true, true, true, false, false, false, false, false, false, false, false] rfl rfl (by kernel_rfl) (fun _ _ _ h => h) (Or.inr ⟨by kernel_rfl, rfl⟩) hS rfl ?_
    simp only [Act.put, sia, List.set]
    refine take_ (i := 11) (N := some 15) (v := undef) #[true, true, true, true, true, true, true, true, true, true, true, true, false, false, false, false, false, false, false] rfl rfl (by kernel_rfl) (fun _ _ _ h => h) (Or.inr ⟨by kernel_rfl, rfl⟩) hS rfl ?_
    simp only [Act.put, sia, List.set]
    refine take_ (i := 12) (N := some 16) (v := .bool false) #[true, true, true, true, true, true, true, true, true, true, true, true, true, false, false, false, false, false, false] rfl rfl (by kernel_rfl) (fun _ _ _ h => h) (Or.inl ⟨by kernel_rfl, by intro w' z1; go_simp⟩) hS rfl ?_
    simp only [Act.put, sia, List.set]
    refine take_ (i := 13) (N := some 17) (v := .bool false) #[true, true, true, true, true, true, true, true, true, true, true, true, true, true, false, false, false, false, false] rfl rfl (by kernel_rfl) (fun _ _ _ h => h) (Or.inl ⟨by kernel_rfl, by intro w' z1; go_simp⟩) hS rfl ?_
    simp only [Act.put, sia, List.set]
    refine take_ (i := 14) (N := some 18) (v := undef) #[true, true, true, true, true, true, true, true, true, true, true, true, true, true, true, false, false, false, false] rfl rfl (by kernel_rfl) (fun _ _ _ h => h) (Or.inr ⟨by kernel_rfl, rfl⟩) hS rfl ?_
    simp only [Act.put, sia, List.set]
    refine take_ (i := 15) (N := some 19) (v := undef) #[true, true, true, true, true, true, true, true, true, true, true, true, true, true, true, true, false, false, false] rfl rfl (by kernel_rfl) (fun _ _ _ h => h) (Or.inr ⟨by kernel_rfl, rfl⟩) hS rfl ?_
    simp only [Act.put, sia, List.set]
    refine take_ (i := 16) (N := some 20) (v := undef) #[true, true, true, true, true, true, true, true, true, true, true, true, true, true, true, true, true, false, false] rfl rfl (by kernel_rfl) (fun _ _ _ h => h) (Or.inr ⟨by kernel_rfl, rfl⟩) hS rfl ?_
    simp only [Act.put, sia, List.set]
    refine take_ (i := 17) (N := some 21) (v := undef) #[true, true, true, true, true, true, true, true, true, true, true, true, true, true, true, true, true, true, false] rfl rfl (by kernel_rfl) (fun _ _ _ h => h) (Or.inr ⟨by kernel_rfl, rfl⟩) hS rfl ?_
    simp only [Act.put, sia, List.set]
    refine take_ (i := 18) (N := some 22) (v := .bool false) #[true, true, true, true, true, true, true, true, true, true, true, true, true, true, true, true, true, true, true] rfl rfl (by kernel_rfl) (fun _ _ _ h => h) (Or.inl ⟨by kernel_rfl, by intro w' z1; go_simp⟩) hS rfl ?_
    simp only [Act.put, sia, List.set]
    refine zq (by kernel_rfl) ?_ _
    go_wp2_with fail
    refine (zeg H3.out (by omega)).mono ?_
    rintro e W7 ⟨rfl, N7⟩
    have H7 := ak N7
    have c7 := N7.box B_bxp.out
    clear N7
    go_wp2_with fail
    refine (zag H7.out (by omega) _).mono ?_
    rintro e W8 ⟨rfl, N8⟩
    have H8 := ak N8
    clear N8
    go_wp2_with fail
    go_end0
    obtain ⟨hq, hf⟩ := E9.out
    rw [E2.out] at hq
    rw [if_neg (by simp)] at hq
    subst hq
    exact ⟨⟨_, rfl⟩, _, H8.out⟩
   ·have HAT := ak hat
    clear hat
    rcases znu H2.out with heo | heo
    ·have E2 : zar (p = (false, s1)) := by
      rcases E1.out with ⟨h, g⟩ | ⟨_, h, g⟩ | ⟨_, _, h, g⟩ | ⟨_, h, _, _⟩
      ·exact ⟨zab g⟩
      ·exact ⟨zab g⟩
      ·exact ⟨zab g⟩
      ·rw [heo] at h; cases h
     have HEO := ak heo
     clear heo
     go_wp2_with fail
     refine zc7 (ds := []) (S := (fun w' => w'.cell? ⟨bxp, 0, none⟩ = some (.pointer (some ⟨pb, 0, none⟩)))) #[false, false, false, false, false, false, false, false, false, false, false, false, false, false, false, false, false, false, false] (by kernel_rfl) rfl rfl c2_bxp (fun hS => ?_)
     refine take_ (i := 0) (N := some 4) (v := .bool false) #[true, false, false, false, false, false, false, false, false, false, false, false, false, false, false, false, false, false, false] rfl rfl (by kernel_rfl) (fun _ _ _ h => h) (Or.inl ⟨by kernel_rfl, by intro w' z1; go_simp⟩) hS rfl ?_
     simp only [Act.put, sia, List.set]
     refine take_ (i := 1) (N := some 5) (v := .bool true) #[true, true, false, false, false, false, false, false, false, false, false, false, false, false, false, false, false, false, false] rfl rfl (by kernel_rfl) (fun _ _ _ h => h) (Or.inl ⟨by kernel_rfl, by intro w' z1; go_simp⟩) hS rfl ?_
     simp only [Act.put, sia, List.set]
     refine take_ (i := 2) (N := some 6) (v := .bool true) #[true, true, true, false, false, false, false, false, false, false, false, false, false, false, false, false, false, false, false] rfl rfl (by kernel_rfl) (fun _ _ _ h => h) (Or.inl ⟨by kernel_rfl, by intro w' z1; go_simp⟩) hS rfl ?_
     simp only [Act.put, sia, List.set]
     refine take_ (i := 3) (N := some 7) (v := .pointer (some ⟨pb, 0, none⟩)) #[true, true, true, true, false, false, false, false, false, false, false, false, false, false, false, false, false, false, false] rfl rfl (by kernel_rfl) (fun _ _ _ h => h) (Or.inl ⟨by kernel_rfl, by intro w' z1; go_simp⟩) hS rfl ?_
     simp only [Act.put, sia, List.set]
     refine one_ (i := 4) (N := some 8) #[true, true, true, true, true, false, false, false, false, false, false, false, false, false, false, false, false, false, false] rfl rfl (by kernel_rfl) (by simp) (fun K hK => ?_)
     go_simp
     refine hK.out _ _ (by go_keep) (fun hS => ?_)
     clear hK
     try simp only [Act.put, sia, List.set]
     refine one_ (i := 5) (N := some 9) #[true, true, true, true, true, true, false, false, false, false, false, false, false, false, false, false, false, false, false] rfl rfl (by kernel_rfl) (by simp) (fun K hK => ?_)
     go_simp
     refine (zdr (l := [(⟨#[125]⟩ : ByteArray)]) (H2.out.below (zae (zh (Below.refl _ _) _))) (by simp) (zdv [(⟨#[125]⟩ : ByteArray)] (by simp) (zdp (zaj _ _))) (Nat.le_refl _)).mono ?_
     rintro e W3 ⟨rfl, N3⟩
     rw [HAT.out]
     have H3 := ak N3
     have cS := N3.box B_bxp.out
     clear N3
     refine hK.out _ _ cS (fun hS => ?_)
     clear hK
     try simp only [Act.put, sia, List.set]
     refine take_ (i := 6) (N := some 10) (v := .bool true) #[true, true, true, true, true, true, true, false, false, false, false, false, false, false, false, false, false, false, false] rfl rfl (by kernel_rfl) (fun _ _ _ h => h) (Or.inl ⟨by kernel_rfl, by intro w' z1; go_simp⟩) hS rfl ?_
     simp only [Act.put, sia, List.set]
     refine take_ (i := 7) (N := some 11) (v := .bool true) #[true, true, true, true, true, true, true, true, false, false, false, false, false, false, false, false, false, false, false] rfl rfl (by kernel_rfl) (fun _ _ _ h => h) (Or.inl ⟨by kernel_rfl, by intro w' z1; go_simp⟩) hS rfl ?_
     simp only [Act.put, sia, List.set]
     refine take_ (i := 8) (N := some 12) (v := .bool true) #[true, true, true, true, true, true, true, true, true, false, false, false, false, false, false, false, false, false, false] rfl rfl (by kernel_rfl) (fun _ _ _ h => h) (Or.inl ⟨by kernel_rfl, by intro w' z1; go_simp⟩) hS rfl ?_
     simp only [Act.put, sia, List.set]
     refine take_ (i := 9) (N := some 13) (v := .pointer (some ⟨pb, 0, none⟩)) #[true, true, true, true, true, true, true, true, true, true, false, false, false, false, false, false, false, false, false] rfl rfl (by kernel_rfl) (fun _ _ _ h => h) (Or.inl ⟨by kernel_rfl, by intro w' z1; go_simp⟩) hS rfl ?_
     simp only [Act.put, sia, List.set]
     refine one_ (i := 10) (N := some 14) #[true, true, true, true, true, true, true, true, true, true, true, false, false, false, false, false, false, false, false] rfl rfl (by kernel_rfl) (by simp) (fun K hK => ?_)
     go_simp
     refine (zfy H3.out).mono ?_
     rintro e W4 ⟨rfl, N4⟩
     rw [HEO.out]
     have H4 := ak N4
     have cS := N4.box B_bxp.out
     clear N4
     refine hK.out _ _ cS (fun hS => ?_)
     clear hK
     try simp only [Act.put, sia, List.set]
     refine take_ (i := 11) (N := some 15) (v := .bool false) #[true, true, true, true, true, true, true, true, true, true, true, true, false, false, false, false, false, false, false] rfl rfl (by kernel_rfl) (fun _ _ _ h => h) (Or.inl ⟨by kernel_rfl, by intro w' z1; go_simp⟩) hS rfl ?_
     simp only [Act.put, sia, List.set]
     refine take_ (i := 12) (N := some 16) (v := .bool false) #[true, true, true, true, true, true, true, true, true, true, true, true, true, false, false, false, false, false, false] rfl rfl (by kernel_rfl) (fun _ _ _ h => h) (Or.inl ⟨by kernel_rfl, by intro w' z1; go_simp⟩) hS rfl ?_
     simp only [Act.put, sia, List.set]
     refine take_ (i := 13) (N := some 17) (v := .bool false) #[true, true, true, true, true, true, true, true, true, true, true, true, true, true, false, false, false, false, false] rfl rfl (by kernel_rfl) (fun _ _ _ h => h) (Or.inl ⟨by kernel_rfl, by intro w' z1; go_simp⟩) hS rfl ?_
     simp only [Act.put, sia, List.set]
     refine take_ (i := 14) (N := some 18) (v := undef) #[true, true, true, true, true, true, true, true, true, true, true, true, true, true, true, false, false, false, false] rfl rfl (by kernel_rfl) (fun _ _ _ h => h) (Or.inr ⟨by kernel_rfl, rfl⟩) hS rfl ?_
     simp only [Act.put, sia, List.set]
     refine take_ (i := 15) (N := some 19) (v := undef) #[true, true, true, true, true, true, true, true, true, true, true, true, true, true, true, true, false, false, false] rfl rfl (by kernel_rfl) (fun _ _ _ h => h) (Or.inr ⟨by kernel_rfl, rfl⟩) hS rfl ?_
     simp only [Act.put, sia, List.set]
     refine take_ (i := 16) (N := some 20) (v := undef) #[true, true, true, true, true, true, true, true, true, true, true, true, true, true, true, true, true, false, false] rfl rfl (by kernel_rfl) (fun _ _ _ h => h) (Or.inr ⟨by kernel_rfl, rfl⟩) hS rfl ?_
     simp only [Act.put, sia, List.set]
     refine take_ (i := 17) (N := some 21) (v := undef) #[true, true, true, true, true, true, true, true, true, true, true, true, true, true, true, true, true, true, false] rfl rfl (by kernel_rfl) (fun _ _ _ h => h) (Or.inr ⟨by kernel_rfl, rfl⟩) hS rfl ?_
     simp only [Act.put, sia, List.set]
     refine take_ (i := 18) (N := some 22) (v := .bool false) #[true, true, true, true, true, true, true, true, true, true, true, true, true, true, true, true, true, true, true] rfl rfl (by kernel_rfl) (fun _ _ _ h => h) (Or.inl ⟨by kernel_rfl, by intro w' z1; go_simp⟩) hS rfl ?_
     simp only [Act.put, sia, List.set]
     refine zq (by kernel_rfl) ?_ _
     go_wp2_with fail
     refine (zeg H4.out (by omega)).mono ?_
     rintro e W7 ⟨rfl, N7⟩
     have H7 := ak N7
     have c7 := N7.box B_bxp.out
     clear N7
     go_wp2_with fail
     refine (zag H7.out (by omega) _).mono ?_
     rintro e W8 ⟨rfl, N8⟩
     have H8 := ak N8
     clear N8
     go_wp2_with fail
     go_end0
     obtain ⟨hq, hf⟩ := E9.out
     rw [E2.out] at hq
     rw [if_neg (by simp)] at hq
     subst hq
     exact ⟨⟨_, rfl⟩, _, H8.out⟩
    ·have HEO := ak heo
     clear heo
     rcases zac H2.out zei with hkw | hkw
     ·have E2 : zar (p = (false, s1)) := by
       rcases E1.out with ⟨h, g⟩ | ⟨_, h, g⟩ | ⟨_, _, h, g⟩ | ⟨_, _, h, _⟩
       ·exact ⟨zab g⟩
       ·exact ⟨zab g⟩
       ·exact ⟨zab g⟩
       ·rw [hkw] at h; cases h
      have HKW := ak hkw
      clear hkw
      go_wp2_with fail
      refine zc7 (ds := []) (S := (fun w' => w'.cell? ⟨bxp, 0, none⟩ = some (.pointer (some ⟨pb, 0, none⟩)))) #[false, false, false, false, false, false, false, false, false, false, false, false, false, false, false, false, false, false, false] (by kernel_rfl) rfl rfl c2_bxp (fun hS => ?_)
      refine take_ (i := 0) (N := some 4) (v := .bool false) #[true, false, false, false, false, false, false, false, false, false, false, false, false, false, false, false, false, false, false] rfl rfl (by kernel_rfl) (fun _ _ _ h => h) (Or.inl ⟨by kernel_rfl, by intro w' z1; go_simp⟩) hS rfl ?_
      simp only [Act.put, sia, List.set]
      refine take_ (i := 1) (N := some 5) (v := .bool true) #[true, true, false, false, false, false, false, false, false, false, false, false, false, false, false, false, false, false, false] rfl rfl (by kernel_rfl) (fun _ _ _ h => h) (Or.inl ⟨by kernel_rfl, by intro w' z1; go_simp⟩) hS rfl ?_
      simp only [Act.put, sia, List.set]
      refine take_ (i := 2) (N := some 6) (v := .bool true) #[true, true, true, false, false, false, false, false, false, false, false, false, false, false, false, false, false, false, false] rfl rfl (by kernel_rfl) (fun _ _ _ h => h) (Or.inl ⟨by kernel_rfl, by intro w' z1; go_simp⟩) hS rfl ?_
      simp only [Act.put, sia, List.set]
      refine take_ (i := 3) (N := some 7) (v := .pointer (some ⟨pb, 0, none⟩)) #[true, true, true, true, false, false, false, false, false, false, false, false, false, false, false, false, false, false, false] rfl rfl (by kernel_rfl) (fun _ _ _ h => h) (Or.inl ⟨by kernel_rfl, by intro w' z1; go_simp⟩) hS rfl ?_
      simp only [Act.put, sia, List.set]
      refine one_ (i := 4) (N := some 8) #[true, true, true, true, true, false, false, false, false, false, false, false, false, false, false, false, false, false, false] rfl rfl (by kernel_rfl) (by simp) (fun K hK => ?_)
      go_simp
      refine hK.out _ _ (by go_keep) (fun hS => ?_)
      clear hK
      try simp only [Act.put, sia, List.set]
      refine one_ (i := 5) (N := some 9) #[true, true, true, true, true, true, false, false, false, false, false, false, false, false, false, false, false, false, false] rfl rfl (by kernel_rfl) (by simp) (fun K hK => ?_)
      go_simp
      refine (zdr (l := [(⟨#[125]⟩ : ByteArray)]) (H2.out.below (zae (zh (Below.refl _ _) _))) (by simp) (zdv [(⟨#[125]⟩ : ByteArray)] (by simp) (zdp (zaj _ _))) (Nat.le_refl _)).mono ?_
      rintro e W3 ⟨rfl, N3⟩
      rw [HAT.out]
      have H3 := ak N3
      have cS := N3.box B_bxp.out
      clear N3
      refine hK.out _ _ cS (fun hS => ?_)
      clear hK
      try simp only [Act.put, sia, List.set]
      refine take_ (i := 6) (N := some 10) (v := .bool true) #[true, true, true, true, true, true, true, false, false, false, false, false, false, false, false, false, false, false, false] rfl rfl (by kernel_rfl) (fun _ _ _ h => h) (Or.inl ⟨by kernel_rfl, by intro w' z1; go_simp⟩) hS rfl ?_
      simp only [Act.put, sia, List.set]
      refine take_ (i := 7) (N := some 11) (v := .bool true) #[true, true, true, true, true, true, true, true, false, false, false, false, false, false, false, false, false, false, false] rfl rfl (by kernel_rfl) (fun _ _ _ h => h) (Or.inl ⟨by kernel_rfl, by intro w' z1; go_simp⟩) hS rfl ?_
      simp only [Act.put, sia, List.set]
      refine take_ (i := 8) (N := some 12) (v := .bool true) #[true, true, true, true, true, true, true, true, true, false, false, false, false, false, false, false, false, false, false] rfl rfl (by kernel_rfl) (fun _ _ _ h => h) (Or.inl ⟨by kernel_rfl, by intro w' z1; go_simp⟩) hS rfl ?_
      simp only [Act.put, sia, List.set]
      refine take_ (i := 9) (N := some 13) (v := .pointer (some ⟨pb, 0, none⟩)) #[true, true, true, true, true, true, true, true, true, true, false, false, false, false, false, false, false, false, false] rfl rfl (by kernel_rfl) (fun _ _ _ h => h) (Or.inl ⟨by kernel_rfl, by intro w' z1; go_simp⟩) hS rfl ?_
      simp only [Act.put, sia, List.set]
      refine one_ (i := 10) (N := some 14) #[true, true, true, true, true, true, true, true, true, true, true, false, false, false, false, false, false, false, false] rfl rfl (by kernel_rfl) (by simp) (fun K hK => ?_)
      go_simp
      refine (zfy H3.out).mono ?_
      rintro e W4 ⟨rfl, N4⟩
      rw [HEO.out]
      have H4 := ak N4
      have cS := N4.box B_bxp.out
      clear N4
      refine hK.out _ _ cS (fun hS => ?_)
      clear hK
      try simp only [Act.put, sia, List.set]
      refine take_ (i := 11) (N := some 15) (v := .bool true) #[true, true, true, true, true, true, true, true, true, true, true, true, false, false, false, false, false, false, false] rfl rfl (by kernel_rfl) (fun _ _ _ h => h) (Or.inl ⟨by kernel_rfl, by intro w' z1; go_simp⟩) hS rfl ?_
      simp only [Act.put, sia, List.set]
      refine take_ (i := 12) (N := some 16) (v := .bool true) #[true, true, true, true, true, true, true, true, true, true, true, true, true, false, false, false, false, false, false] rfl rfl (by kernel_rfl) (fun _ _ _ h => h) (Or.inl ⟨by kernel_rfl, by intro w' z1; go_simp⟩) hS rfl ?_
      simp only [Act.put, sia, List.set]
      refine take_ (i := 13) (N := some 17) (v := .bool true) #[true, true, true, true, true, true, true, true, true, true, true, true, true, true, false, false, false, false, false] rfl rfl (by kernel_rfl) (fun _ _ _ h => h) (Or.inl ⟨by kernel_rfl, by intro w' z1; go_simp⟩) hS rfl ?_
      simp only [Act.put, sia, List.set]
      refine take_ (i := 14) (N := some 18) (v := .pointer (some ⟨pb, 0, none⟩)) #[true, true, true, true, true, true, true, true, true, true, true, true, true, true, true, false, false, false, false] rfl rfl (by kernel_rfl) (fun _ _ _ h => h) (Or.inl ⟨by kernel_rfl, by intro w' z1; go_simp⟩) hS rfl ?_
      simp only [Act.put, sia, List.set]
      refine one_ (i := 15) (N := some 19) #[true, true, true, true, true, true, true, true, true, true, true, true, true, true, true, true, false, false, false] rfl rfl (by kernel_rfl) (by simp) (fun K hK => ?_)
      go_simp
      refine (zqm H4.out).mono ?_
      rintro e W5 ⟨rfl, N5, K5⟩
      have H5 := ak (And.intro N5 K5)
      have cS := N5.box B_bxp.out
      clear N5 K5
      refine hK.out _ _ cS (fun hS => ?_)
      clear hK
      try simp only [Act.put, sia, List.set]
      refine one_ (i := 16) (N := some 20) #[true, true, true, true, true, true, true, true, true, true, true, true, true, true, true, true, true, false, false] rfl rfl (by kernel_rfl) (by simp) (fun K hK => ?_)
      go_simp
      refine (zdr H5.out.1 (by decide) H5.out.2 (by decide)).mono ?_
      rintro e W6 ⟨rfl, N6⟩
      rw [HKW.out]
      have H6 := ak N6
      have cS := N6.box B_bxp.out
      clear N6
      refine hK.out _ _ cS (fun hS => ?_)
      clear hK
      try simp only [Act.put, sia, List.set]
      refine take_ (i := 17) (N := some 21) (v := .bool false) #[true, true, true, true, true, true, true, true, true, true, true, true, true, true, true, true, true, true, false] rfl rfl (by kernel_rfl) (fun _ _ _ h => h) (Or.inl ⟨by kernel_rfl, by intro w' z1; go_simp⟩) hS rfl ?_
      simp only [Act.put, sia, List.set]
      refine take_ (i := 18) (N := some 22) (v := .bool false) #[true, true, true, true, true, true, true, true, true, true, true, true, true, true, true, true, true, true, true] rfl rfl (by kernel_rfl) (fun _ _ _ h => h) (Or.inl ⟨by kernel_rfl, by intro w' z1; go_simp⟩) hS rfl ?_
      simp only [Act.put, sia, List.set]
      refine zq (by kernel_rfl) ?_ _
      go_wp2_with fail
      refine (zeg H6.out (by omega)).mono ?_
      rintro e W7 ⟨rfl, N7⟩
      have H7 := ak N7
      have c7 := N7.box B_bxp.out
      clear N7
      go_wp2_with fail
      refine (zag H7.out (by omega) _).mono ?_
      rintro e W8 ⟨rfl, N8⟩
      have H8 := ak N8
      clear N8
      go_wp2_with fail
      go_end0
      obtain ⟨hq, hf⟩ := E9.out
      rw [E2.out] at hq
      rw [if_neg (by simp)] at hq
      subst hq
      exact ⟨⟨_, rfl⟩, _, H8.out⟩
     ·have E2 : zar (∃ r, run T i .statement s1 = some r ∧ (if r.1 = true then some (true, r.2) else run T i .stmts r.2) = some p) := by
       rcases E1.out with ⟨h, g⟩ | ⟨_, h, g⟩ | ⟨_, _, h, g⟩ | ⟨_, _, _, h⟩
       ·rw [HAT.out] at h; cases h
       ·rw [HEO.out] at h; cases h
       ·rw [hkw] at h; cases h
       ·exact ⟨zcp h⟩
      have HKW := ak hkw
      clear hkw E1
      obtain ⟨r, r1, r2⟩ := E2.out
      have R1 := ak r1
      have R2 := ak r2
      clear r1 r2 E2
      go_wp2_with fail
      refine zc7 (ds := []) (S := (fun w' => w'.cell? ⟨bxp, 0, none⟩ = some (.pointer (some ⟨pb, 0, none⟩)))) #[false, false, false, false, false, false, false, false, false, false, false, false, false, false, false, false, false, false, false] (by kernel_rfl) rfl rfl c2_bxp (fun hS => ?_)
      refine take_ (i := 0) (N := some 4) (v := .bool false) #[true, false, false, false, false, false, false, false, false, false, false, false, false, false, false, false, false, false, false] rfl rfl (by kernel_rfl) (fun _ _ _ h => h) (Or.inl ⟨by kernel_rfl, by intro w' z1; go_simp⟩) hS rfl ?_
      simp only [Act.put, sia, List.set]
      refine take_ (i := 1) (N := some 5) (v := .bool true) #[true, true, false, false, false, false, false, false, false, false, false, false, false, false, false, false, false, false, false] rfl rfl (by kernel_rfl) (fun _ _ _ h => h) (Or.inl ⟨by kernel_rfl, by intro w' z1; go_simp⟩) hS rfl ?_
      simp only [Act.put, sia, List.set]
      refine take_ (i := 2) (N := some 6) (v := .bool true) #[true, true, true, false, false, false, false, false, false, false, false, false, false, false, false, false, false, false, false] rfl rfl (by kernel_rfl) (fun _ _ _ h => h) (Or.inl ⟨by kernel_rfl, by intro w' z1; go_simp⟩) hS rfl ?_
      simp only [Act.put, sia, List.set]
      refine take_ (i := 3) (N := some 7) (v := .pointer (some ⟨pb, 0, none⟩)) #[true, true, true, true, false, false, false, false, false, false, false, false, false, false, false, false, false, false, false] rfl rfl (by kernel_rfl) (fun _ _ _ h => h) (Or.inl ⟨by kernel_rfl, by intro w' z1; go_simp⟩) hS rfl ?_
      simp only [Act.put, sia, List.set]
      refine one_ (i := 4) (N := some 8) #[true, true, true, true, true, false, false, false, false, false, false, false, false, false, false, false, false, false, false] rfl rfl (by kernel_rfl) (by simp) (fun K hK => ?_)
      go_simp
      refine hK.out _ _ (by go_keep) (fun hS => ?_)
      clear hK
      try simp only [Act.put, sia, List.set]
      refine one_ (i := 5) (N := some 9) #[true, true, true, true, true, true, false, false, false, false, false, false, false, false, false, false, false, false, false] rfl rfl (by kernel_rfl) (by simp) (fun K hK => ?_)
      go_simp
      refine (zdr (l := [(⟨#[125]⟩ : ByteArray)]) (H2.out.below (zae (zh (Below.refl _ _) _))) (by simp) (zdv [(⟨#[125]⟩ : ByteArray)] (by simp) (zdp (zaj _ _))) (Nat.le_refl _)).mono ?_
      rintro e W3 ⟨rfl, N3⟩
      rw [HAT.out]
      have H3 := ak N3
      have cS := N3.box B_bxp.out
      clear N3
      refine hK.out _ _ cS (fun hS => ?_)
      clear hK
      try simp only [Act.put, sia, List.set]
      refine take_ (i := 6) (N := some 10) (v := .bool true) #[true, true, true, true, true, true, true, false, false, false, false, false, false, false, false, false, false, false, false] rfl rfl (by kernel_rfl) (fun _ _ _ h => h) (Or.inl ⟨by kernel_rfl, by intro w' z1; go_simp⟩) hS rfl ?_
      simp only [Act.put, sia, List.set]
      refine take_ (i := 7) (N := some 11) (v := .bool true) #[true, true, true, true, true, true, true, true, false, false, false, false, false, false, false, false, false, false, false] rfl rfl (by kernel_rfl) (fun _ _ _ h => h) (Or.inl ⟨by kernel_rfl, by intro w' z1; go_simp⟩) hS rfl ?_
      simp only [Act.put, sia, List.set]
      refine take_ (i := 8) (N := some 12) (v := .bool true) #[true, true, true, true, true, true, true, true, true, false, false, false, false, false, false, false, false, false, false] rfl rfl (by kernel_rfl) (fun _ _ _ h => h) (Or.inl ⟨by kernel_rfl, by intro w' z1; go_simp⟩) hS rfl ?_
      simp only [Act.put, sia, List.set]
      refine take_ (i := 9) (N := some 13) (v := .pointer (some ⟨pb, 0, none⟩)) #[true, true, true, true, true, true, true, true, true, true, false, false, false, false, false, false, false, false, false] rfl rfl (by kernel_rfl) (fun _ _ _ h => h) (Or.inl ⟨by kernel_rfl, by intro w' z1; go_simp⟩) hS rfl ?_
      simp only [Act.put, sia, List.set]
      refine one_ (i := 10) (N := some 14) #[true, true, true, true, true, true, true, true, true, true, true, false, false, false, false, false, false, false, false] rfl rfl (by kernel_rfl) (by simp) (fun K hK => ?_)
      go_simp
      refine (zfy H3.out).mono ?_
      rintro e W4 ⟨rfl, N4⟩
      rw [HEO.out]
      have H4 := ak N4
      have cS := N4.box B_bxp.out
      clear N4
      refine hK.out _ _ cS (fun hS => ?_)
      clear hK
      try simp only [Act.put, sia, List.set]
      refine take_ (i := 11) (N := some 15) (v := .bool true) #[true, true, true, true, true, true, true, true, true, true, true, true, false, false, false, false, false, false, false] rfl rfl (by kernel_rfl) (fun _ _ _ h => h) (Or.inl ⟨by kernel_rfl, by intro w' z1; go_simp⟩) hS rfl ?_
      simp only [Act.put, sia, List.set]
      refine take_ (i := 12) (N := some 16) (v := .bool true) #[true, true, true, true, true, true, true, true, true, true, true, true, true, false, false, false, false, false, false] rfl rfl (by kernel_rfl) (fun _ _ _ h => h) (Or.inl ⟨by kernel_rfl, by intro w' z1; go_simp⟩) hS rfl ?_
      simp only [Act.put, sia, List.set]
      refine take_ (i := 13) (N := some 17) (v := .bool true) #[true, true, true, true, true, true, true, true, true, true, true, true, true, true, false, false, false, false, false] rfl rfl (by kernel_rfl) (fun _ _ _ h => h) (Or.inl ⟨by kernel_rfl, by intro w' z1; go_simp⟩) hS rfl ?_
      simp only [Act.put, sia, List.set]
      refine take_ (i := 14) (N := some 18) (v := .pointer (some ⟨pb, 0, none⟩)) #[true, true, true, true, true, true, true, true, true, true, true, true, true, true, true, false, false, false, false] rfl rfl (by kernel_rfl) (fun _ _ _ h => h) (Or.inl ⟨by kernel_rfl, by intro w' z1; go_simp⟩) hS rfl ?_
      simp only [Act.put, sia, List.set]
      refine one_ (i := 15) (N := some 19) #[true, true, true, true, true, true, true, true, true, true, true, true, true, true, true, true, false, false, false] rfl rfl (by kernel_rfl) (by simp) (fun K hK => ?_)
      go_simp
      refine (zqm H4.out).mono ?_
      rintro e W5 ⟨rfl, N5, K5⟩
      have H5 := ak (And.intro N5 K5)
      have cS := N5.box B_bxp.out
      clear N5 K5
      refine hK.out _ _ cS (fun hS => ?_)
      clear hK
      try simp only [Act.put, sia, List.set]
      refine one_ (i := 16) (N := some 20) #[true, true, true, true, true, true, true, true, true, true, true, true, true, true, true, true, true, false, false] rfl rfl (by kernel_rfl) (by simp) (fun K hK => ?_)
      go_simp
      refine (zdr H5.out.1 (by decide) H5.out.2 (by decide)).mono ?_
      rintro e W6 ⟨rfl, N6⟩
      rw [HKW.out]
      have H6 := ak N6
      have cS := N6.box B_bxp.out
      clear N6
      refine hK.out _ _ cS (fun hS => ?_)
      clear hK
      try simp only [Act.put, sia, List.set]
      refine take_ (i := 17) (N := some 21) (v := .bool true) #[true, true, true, true, true, true, true, true, true, true, true, true, true, true, true, true, true, true, false] rfl rfl (by kernel_rfl) (fun _ _ _ h => h) (Or.inl ⟨by kernel_rfl, by intro w' z1; go_simp⟩) hS rfl ?_
      simp only [Act.put, sia, List.set]
      refine take_ (i := 18) (N := some 22) (v := .bool true) #[true, true, true, true, true, true, true, true, true, true, true, true, true, true, true, true, true, true, true] rfl rfl (by kernel_rfl) (fun _ _ _ h => h) (Or.inl ⟨by kernel_rfl, by intro w' z1; go_simp⟩) hS rfl ?_
      simp only [Act.put, sia, List.set]
      refine zq (by kernel_rfl) ?_ _
      go_wp2_with fail
      refine ((ih i (by have := hi2.out; omega)).statement _ _ _ _ _ _ _ _ _ (by omega) (by have := HL.out; have := hi2.out; omega) H6.out R1.out).mono ?_
      rintro e W7 ⟨rfl, N7⟩
      have H7 := ak N7
      clear N7
      go_wp2_with fail
      go_roundg i
      case rel =>
       obtain ⟨b, r⟩ := r
       cases b
       ·exact ⟨false, r, rfl, H7.out, by have := hi2.out; omega, .inr ⟨rfl, R2.out⟩⟩
       ·exact ⟨true, r, rfl, H7.out, by have := hi2.out; omega, .inl ⟨rfl, zab R2.out⟩⟩
      case measure => omega
theorem zx1  {k : Nat}  (ih : ∀ i, i < k → IH B T tv pb i) : Meth B T tv pb k .block 275 #[.pointer (some ⟨pb, 0, none⟩)] (fun _ => .tuple #[]) := by
 intro m low kd tx W0 F0 W s q hm hlow N hr
 obtain ⟨j, rfl, H, E, G, HL, RUN⟩ := zah N hr hlow
 clear N hr hlow
 go_enter Tryz.func275, Tryz.ntmps275
 go_wp2_with fail
 obtain ⟨WB, FB, hWB, hsz, BK, B_bxp, HN, c_bxp⟩ := zeo H (.pointer (some ⟨pb, 0, none⟩)) 184
 rw [hWB]
 try rw [hsz]
 clear hsz hWB H
 obtain ⟨p1, e, d⟩ := zai E.out
 have R1 := ak e
 have D1 := ak d
 clear e d E
 refine (zba HN HL #[] #[.pointer (some ⟨W.heap.size, 0, none⟩)] zsl R1 fun W1 F1 NN old => (zvt  (dn ih) (B_bxp.out.old old) (hla HL)).at NN R1).mono ?_
 rintro e W2 ⟨rfl, N⟩
 have H := ak N
 replace c_bxp := N.box B_bxp.out
 clear N HN
 go_wp2_with fail
 go_end0
 exact ⟨rfl, (BK.out _ _ _ _ _ _ (zbb D1 G H))⟩
theorem zly  {k : Nat} {bxp : Nat}  (ih : ∀ i, i < k → IH B T tv pb i) (hb_bxp : Box pb W0 F0 bxp (.pointer (some ⟨pb, 0, none⟩))) (hlow : low.length + k ≤ 10000000) : Does B T tv pb (k + 1) .fieldDeclB 279 #[.pointer (some ⟨bxp, 0, none⟩)] low kd tx W0 F0 := by
 intro i hi m W s q hm N hr
 obtain ⟨j, rfl, H, E, G, HL, RUN⟩ := zah N hr (by omega)
 replace ih : ∀ i, i < j + 1 → IH B T tv pb i := fun i h => ih i (by omega)
 have B_bxp := ak hb_bxp
 have c_bxp := N.box hb_bxp
 clear N hr hlow hb_bxp
 go_enter Tryz.func279, Tryz.ntmps279
 go_wp2_with fail
 replace E := ak (zbh E.out)
 refine (zat H.out (by omega)).mono ?_
 rintro e W1 ⟨rfl, N⟩
 replace H := ak N
 replace c_bxp := N.box B_bxp.out
 clear N
 go_wp2_with fail
 replace E := ak (zbh E.out)
 refine (zag H.out (by omega) (⟨#[58]⟩ : ByteArray)).mono ?_
 rintro e W2 ⟨rfl, N⟩
 replace H := ak N
 replace c_bxp := N.box B_bxp.out
 clear N
 go_wp2_with fail
 obtain ⟨p3, e, d⟩ := zu E.out
 have R := ak e
 replace E := ak (d)
 clear e d
 refine (mth (ij ih).typeExpr HL H R).mono ?_
 rintro e W4 ⟨rfl, N⟩
 replace H := ak N
 replace c_bxp := N.box B_bxp.out
 clear N
 go_wp2_with fail
 go_end0
 exact zb2 ⟨zaw E.out⟩ H
theorem zvm  {k : Nat} {bxp : Nat} {bxk : Nat}  (ih : ∀ i, i < k → IH B T tv pb i) (hb_bxp : Box pb W0 F0 bxp (.pointer (some ⟨pb, 0, none⟩))) (hb_bxk : Box pb W0 F0 bxk (.int .i64 4)) (hlow : low.length + k ≤ 10000000) : Does B T tv pb (k + 1) (.dataE 4) 277 #[.pointer (some ⟨bxp, 0, none⟩), .pointer (some ⟨bxk, 0, none⟩)] low kd tx W0 F0 := by
 intro i hi m W s q hm N hr
 obtain ⟨j, rfl, H, E, G, HL, RUN⟩ := zah N hr (by omega)
 replace ih : ∀ i, i < j + 1 → IH B T tv pb i := fun i h => ih i (by omega)
 have B_bxp := ak hb_bxp
 have c_bxp := N.box hb_bxp
 have B_bxk := ak hb_bxk
 have c_bxk := N.box hb_bxk
 clear N hr hlow hb_bxp hb_bxk
 go_enter Tryz.func277, Tryz.ntmps277
 go_wp2_with fail
 refine (za4 H.out).mono ?_
 rintro e W2 ⟨rfl, N2⟩
 rcases zbv H.out with b1 | b1
 ·rw [b1]
  replace H := ak N2
  replace c_bxp := N2.box B_bxp.out
  replace c_bxk := N2.box B_bxk.out
  clear N2
  replace E := ak (if_t b1 E.out)
  clear b1
  go_wp2_with fail
  replace E := ak (if_y trivial E.out)
  obtain ⟨p3, e, d⟩ := zai E.out
  have R3 := ak e
  have D3 := ak d
  clear e d E
  refine (zba H HL #[] #[.pointer (some ⟨bxp, 0, none⟩)] zjl R3 fun W1 F1 NN old => (zly  (dn ih) (B_bxp.out.old old) (hla HL)).at NN R3).mono ?_
  rintro e W4 ⟨rfl, N⟩
  replace H := ak N
  replace c_bxp := N.box B_bxp.out
  replace c_bxk := N.box B_bxk.out
  clear N
  go_wp2_with fail
  go_end0
  exact zb2 D3 H
 ·rw [b1]
  replace H := ak N2
  replace c_bxp := N2.box B_bxp.out
  replace c_bxk := N2.box B_bxk.out
  clear N2
  replace E := ak (if_f b1 E.out)
  clear b1
  go_wp2_with fail
  go_end0
  exact zb2 ⟨zab E.out⟩ H
theorem zn7  {k : Nat}  (ih : ∀ i, i < k → IH B T tv pb i) : Meth B T tv pb k (.dataType 4) 224 #[.pointer (some ⟨pb, 0, none⟩), .int .i64 4] (fun _ => .tuple #[]) := by
 intro m low kd tx W0 F0 W s q hm hlow N hr
 obtain ⟨j, rfl, H, E, G, HL, RUN⟩ := zah N hr hlow
 clear N hr hlow
 go_enter Tryz.func224, Tryz.ntmps224
 go_wp2_with fail
 obtain ⟨WB, FB, hWB, hsz, BK, B_bxp, B_bxk, HN, c_bxp, c_bxk⟩ := zen H (.pointer (some ⟨pb, 0, none⟩)) 184 (.int .i64 4) 3
 rw [hWB]
 try rw [hsz]
 clear hsz hWB H
 replace E := ak (zbh E.out)
 refine (zbl HN.out (by omega)).mono ?_
 rintro e W1 ⟨rfl, N⟩
 have H := ak N
 replace c_bxp := N.box B_bxp.out
 replace c_bxk := N.box B_bxk.out
 clear N HN
 go_wp2_with fail
 obtain ⟨p2, e, d⟩ := zu E.out
 have R := ak e
 replace E := ak (d)
 clear e d
 refine (mth (ij ih).typeParams HL H R).mono ?_
 rintro e W3 ⟨rfl, N⟩
 replace H := ak N
 replace c_bxp := N.box B_bxp.out
 replace c_bxk := N.box B_bxk.out
 clear N
 go_wp2_with fail
 replace E := ak (zbh E.out)
 refine (zag H.out (by omega) (⟨#[123]⟩ : ByteArray)).mono ?_
 rintro e W4 ⟨rfl, N⟩
 replace H := ak N
 replace c_bxp := N.box B_bxp.out
 replace c_bxk := N.box B_bxk.out
 clear N
 go_wp2_with fail
 obtain ⟨p5, e, d⟩ := zu E.out
 have R := ak e
 replace E := ak (d)
 clear e d
 refine (zdm 277 #[] #[.pointer (some ⟨W.heap.size, 0, none⟩), .pointer (some ⟨W.heap.size + 1, 0, none⟩)] zha (by have := HL.out; omega) ((zvm  (dn ih) B_bxp.out B_bxk.out (hl_ HL)).mono (by omega)) H.out R.out).mono ?_
 rintro e W6 ⟨rfl, N⟩
 replace H := ak N
 replace c_bxp := N.box B_bxp.out
 replace c_bxk := N.box B_bxk.out
 clear N
 go_wp2_with fail
 go_end0
 exact ⟨rfl, (BK.out _ _ _ _ _ _ (zbb ⟨zaw E.out⟩ G H))⟩
theorem zir  {k : Nat} {bxp : Nat}  (ih : ∀ i, i < k → IH B T tv pb i) (hb_bxp : Box pb W0 F0 bxp (.pointer (some ⟨pb, 0, none⟩))) (hlow : low.length + k ≤ 10000000) : Does B T tv pb (k + 1) .variantDeclB 280 #[.pointer (some ⟨bxp, 0, none⟩)] low kd tx W0 F0 := by
 intro i hi m W s q hm N hr
 obtain ⟨j, rfl, H, E, G, HL, RUN⟩ := zah N hr (by omega)
 replace ih : ∀ i, i < j + 1 → IH B T tv pb i := fun i h => ih i (by omega)
 have B_bxp := ak hb_bxp
 have c_bxp := N.box hb_bxp
 clear N hr hlow hb_bxp
 go_enter Tryz.func280, Tryz.ntmps280
 go_wp2_with fail
 refine (zat H.out (by omega)).mono ?_
 rintro e W1 ⟨rfl, N⟩
 replace H := ak N
 replace c_bxp := N.box B_bxp.out
 clear N
 go_wp2_with fail
 refine (zbm H.out (by omega) [(⟨#[40]⟩ : ByteArray)] (by simp)).mono ?_
 rintro e W3 ⟨rfl, N3⟩
 rcases zac H.out [(⟨#[40]⟩ : ByteArray)] with b2 | b2
 ·rw [zby b2] at N3
  rw [b2]
  replace H := ak N3
  replace c_bxp := N3.box B_bxp.out
  clear N3
  replace E := ak (if_t b2 E.out)
  clear b2
  go_wp2_with fail
  refine (zdm 229 #[.pointer (some ⟨pb, 0, none⟩)] #[] zco (by have := HL.out; omega) (Meth.does (k := j) (fun i hi => (ih i (by omega)).typeExpr) (by have := HL.out; omega) (Nat.le_refl _)) H.out E.out).mono ?_
  rintro e W4 ⟨rfl, N⟩
  replace H := ak N
  replace c_bxp := N.box B_bxp.out
  clear N
  go_wp2_with fail
  go_end0
  exact ⟨⟨_, rfl⟩, _, H.out⟩
 ·rw [zbz b2] at N3
  rw [b2]
  replace H := ak N3
  replace c_bxp := N3.box B_bxp.out
  clear N3
  replace E := ak (if_f b2 E.out)
  clear b2
  go_wp2_with fail
  go_end0
  exact zb2 ⟨zab E.out⟩ H
theorem zvl  {k : Nat} {bxp : Nat} {bxk : Nat}  (ih : ∀ i, i < k → IH B T tv pb i) (hb_bxp : Box pb W0 F0 bxp (.pointer (some ⟨pb, 0, none⟩))) (hb_bxk : Box pb W0 F0 bxk (.int .i64 5)) (hlow : low.length + k ≤ 10000000) : Does B T tv pb (k + 1) (.dataE 5) 277 #[.pointer (some ⟨bxp, 0, none⟩), .pointer (some ⟨bxk, 0, none⟩)] low kd tx W0 F0 := by
 intro i hi m W s q hm N hr
 obtain ⟨j, rfl, H, E, G, HL, RUN⟩ := zah N hr (by omega)
 replace ih : ∀ i, i < j + 1 → IH B T tv pb i := fun i h => ih i (by omega)
 have B_bxp := ak hb_bxp
 have c_bxp := N.box hb_bxp
 have B_bxk := ak hb_bxk
 have c_bxk := N.box hb_bxk
 clear N hr hlow hb_bxp hb_bxk
 go_enter Tryz.func277, Tryz.ntmps277
 go_wp2_with fail
 refine (za4 H.out).mono ?_
 rintro e W2 ⟨rfl, N2⟩
 rcases zbv H.out with b1 | b1
 ·rw [b1]
  replace H := ak N2
  replace c_bxp := N2.box B_bxp.out
  replace c_bxk := N2.box B_bxk.out
  clear N2
  replace E := ak (if_t b1 E.out)
  clear b1
  go_wp2_with fail
  replace E := ak (if_n (by decide) E.out)
  obtain ⟨p3, e, d⟩ := zai E.out
  have R3 := ak e
  have D3 := ak d
  clear e d E
  refine (zba H HL #[] #[.pointer (some ⟨bxp, 0, none⟩)] zjk R3 fun W1 F1 NN old => (zir  (dn ih) (B_bxp.out.old old) (hla HL)).at NN R3).mono ?_
  rintro e W4 ⟨rfl, N⟩
  replace H := ak N
  replace c_bxp := N.box B_bxp.out
  replace c_bxk := N.box B_bxk.out
  clear N
  go_wp2_with fail
  go_end0
  exact zb2 D3 H
 ·rw [b1]
  replace H := ak N2
  replace c_bxp := N2.box B_bxp.out
  replace c_bxk := N2.box B_bxk.out
  clear N2
  replace E := ak (if_f b1 E.out)
  clear b1
  go_wp2_with fail
  go_end0
  exact zb2 ⟨zab E.out⟩ H
theorem zn6  {k : Nat}  (ih : ∀ i, i < k → IH B T tv pb i) : Meth B T tv pb k (.dataType 5) 224 #[.pointer (some ⟨pb, 0, none⟩), .int .i64 5] (fun _ => .tuple #[]) := by
 intro m low kd tx W0 F0 W s q hm hlow N hr
 obtain ⟨j, rfl, H, E, G, HL, RUN⟩ := zah N hr hlow
 clear N hr hlow
 go_enter Tryz.func224, Tryz.ntmps224
 go_wp2_with fail
 obtain ⟨WB, FB, hWB, hsz, BK, B_bxp, B_bxk, HN, c_bxp, c_bxk⟩ := zen H (.pointer (some ⟨pb, 0, none⟩)) 184 (.int .i64 5) 3
 rw [hWB]
 try rw [hsz]
 clear hsz hWB H
 replace E := ak (zbh E.out)
 refine (zbl HN.out (by omega)).mono ?_
 rintro e W1 ⟨rfl, N⟩
 have H := ak N
 replace c_bxp := N.box B_bxp.out
 replace c_bxk := N.box B_bxk.out
 clear N HN
 go_wp2_with fail
 obtain ⟨p2, e, d⟩ := zu E.out
 have R := ak e
 replace E := ak (d)
 clear e d
 refine (mth (ij ih).typeParams HL H R).mono ?_
 rintro e W3 ⟨rfl, N⟩
 replace H := ak N
 replace c_bxp := N.box B_bxp.out
 replace c_bxk := N.box B_bxk.out
 clear N
 go_wp2_with fail
 replace E := ak (zbh E.out)
 refine (zag H.out (by omega) (⟨#[123]⟩ : ByteArray)).mono ?_
 rintro e W4 ⟨rfl, N⟩
 replace H := ak N
 replace c_bxp := N.box B_bxp.out
 replace c_bxk := N.box B_bxk.out
 clear N
 go_wp2_with fail
 obtain ⟨p5, e, d⟩ := zu E.out
 have R := ak e
 replace E := ak (d)
 clear e d
 refine (zdm 277 #[] #[.pointer (some ⟨W.heap.size, 0, none⟩), .pointer (some ⟨W.heap.size + 1, 0, none⟩)] zha (by have := HL.out; omega) ((zvl  (dn ih) B_bxp.out B_bxk.out (hl_ HL)).mono (by omega)) H.out R.out).mono ?_
 rintro e W6 ⟨rfl, N⟩
 replace H := ak N
 replace c_bxp := N.box B_bxp.out
 replace c_bxk := N.box B_bxk.out
 clear N
 go_wp2_with fail
 go_end0
 exact ⟨rfl, (BK.out _ _ _ _ _ _ (zbb ⟨zaw E.out⟩ G H))⟩
theorem zzs  {k : Nat}  (ih : ∀ i, i < k → IH B T tv pb i) : Meth B T tv pb k .expr 230 #[.pointer (some ⟨pb, 0, none⟩)] (fun _ => .tuple #[]) := by
 intro m low kd tx W0 F0 W s q hm hlow N hr
 obtain ⟨j, rfl, H, E, G, HL, RUN⟩ := zah N hr hlow
 clear N hr hlow
 go_enter Tryz.func230, Tryz.ntmps230
 go_wp2_with fail
 refine (mth ((ij ih).binary 0 (by omega)) HL H E).mono ?_
 rintro e W1 ⟨rfl, N⟩
 replace H := ak N
 clear N
 go_wp2_with fail
 go_end0
 exact ⟨rfl, H.out⟩
theorem znm  {k : Nat}  (ih : ∀ i, i < k → IH B T tv pb i) : Meth B T tv pb k (.function false) 223 #[.pointer (some ⟨pb, 0, none⟩), .bool false] (fun _ => .tuple #[]) := by
 intro m low kd tx W0 F0 W s q hm hlow N hr
 obtain ⟨j, rfl, H, E, G, HL, RUN⟩ := zah N hr hlow
 clear N hr hlow
 go_enter Tryz.func223, Tryz.ntmps223
 go_wp2_with fail
 replace E := ak (zbh E.out)
 refine (zbl H.out (by omega)).mono ?_
 rintro e W1 ⟨rfl, N⟩
 replace H := ak N
 clear N
 go_wp2_with fail
 obtain ⟨p2, e, d⟩ := zu E.out
 have R := ak e
 replace E := ak (d)
 clear e d
 refine (mth (ij ih).typeParams HL H R).mono ?_
 rintro e W3 ⟨rfl, N⟩
 replace H := ak N
 clear N
 go_wp2_with fail
 replace E := ak (zbh E.out)
 refine (zag H.out (by omega) (⟨#[40]⟩ : ByteArray)).mono ?_
 rintro e W4 ⟨rfl, N⟩
 replace H := ak N
 clear N
 go_wp2_with fail
 obtain ⟨p5, e, d⟩ := zu E.out
 have R := ak e
 replace E := ak (d)
 clear e d
 refine (mth ((ij ih).params (⟨#[41]⟩ : ByteArray)) HL H R).mono ?_
 rintro e W6 ⟨rfl, N⟩
 replace H := ak N
 clear N
 go_wp2_with fail
 obtain ⟨p7, e, d⟩ := zu E.out
 have R := ak e
 replace E := ak (d)
 clear e d
 refine (zgi 229 #[.pointer (some ⟨pb, 0, none⟩)] #[] zco (Meth.does (k := j) (fun i hi => (ih i (by omega)).typeExpr) (by have := HL.out; omega) (Nat.le_refl _)) H.out R.out).mono ?_
 rintro e W8 ⟨rfl, N⟩
 replace H := ak N
 clear N
 go_wp2_with fail
 obtain ⟨p9, e9, d9⟩ := zu E.out
 have X9 := ak (z04 e9)
 have Y9 := ak d9
 clear e9 d9 E
 refine (zbm H.out (by omega) [(⟨#[59]⟩ : ByteArray)] (by simp)).mono ?_
 rintro e W11 ⟨rfl, N11⟩
 rcases zac H.out [(⟨#[59]⟩ : ByteArray)] with b10 | b10
 ·rw [zby b10] at N11
  rw [b10]
  replace H := ak N11
  clear N11
  have E := ak (if_t b10 X9.out)
  clear X9 b10
  go_wp2_with fail
  refine (zeg H.out (by omega)).mono ?_
  rintro e W12 ⟨rfl, N⟩
  replace H := ak N
  clear N
  go_wp2_with fail
  have hp13 := zab E.out
  have E13 := ak (by have h := Y9.out; rw [hp13] at h; exact h)
  clear hp13 E Y9
  go_end0
  exact ⟨rfl, (zbb ⟨zaw E13.out⟩ G H)⟩
 ·rw [zbz b10] at N11
  rw [b10]
  replace H := ak N11
  clear N11
  have E := ak (if_f b10 X9.out)
  clear X9 b10
  go_wp2_with fail
  refine (mth (ij ih).block HL H E).mono ?_
  rintro e W14 ⟨rfl, N⟩
  replace H := ak N
  clear N
  go_wp2_with fail
  go_end0
  exact ⟨rfl, (zbb ⟨zaw Y9.out⟩ G H)⟩
theorem znl  {k : Nat}  (ih : ∀ i, i < k → IH B T tv pb i) : Meth B T tv pb k (.function true) 223 #[.pointer (some ⟨pb, 0, none⟩), .bool true] (fun _ => .tuple #[]) := by
 intro m low kd tx W0 F0 W s q hm hlow N hr
 obtain ⟨j, rfl, H, E, G, HL, RUN⟩ := zah N hr hlow
 clear N hr hlow
 go_enter Tryz.func223, Tryz.ntmps223
 go_wp2_with fail
 replace E := ak (zbh E.out)
 refine (zbl H.out (by omega)).mono ?_
 rintro e W1 ⟨rfl, N⟩
 replace H := ak N
 clear N
 go_wp2_with fail
 obtain ⟨p2, e, d⟩ := zu E.out
 have R := ak e
 replace E := ak (d)
 clear e d
 refine (mth (ij ih).typeParams HL H R).mono ?_
 rintro e W3 ⟨rfl, N⟩
 replace H := ak N
 clear N
 go_wp2_with fail
 replace E := ak (zbh E.out)
 refine (zag H.out (by omega) (⟨#[40]⟩ : ByteArray)).mono ?_
 rintro e W4 ⟨rfl, N⟩
 replace H := ak N
 clear N
 go_wp2_with fail
 obtain ⟨p5, e, d⟩ := zu E.out
 have R := ak e
 replace E := ak (d)
 clear e d
 refine (mth ((ij ih).params (⟨#[41]⟩ : ByteArray)) HL H R).mono ?_
 rintro e W6 ⟨rfl, N⟩
 replace H := ak N
 clear N
 go_wp2_with fail
 obtain ⟨p7, e, d⟩ := zu E.out
 have R := ak e
 replace E := ak (d)
 clear e d
 refine (zgi 229 #[.pointer (some ⟨pb, 0, none⟩)] #[] zco (Meth.does (k := j) (fun i hi => (ih i (by omega)).typeExpr) (by have := HL.out; omega) (Nat.le_refl _)) H.out R.out).mono ?_
 rintro e W8 ⟨rfl, N⟩
 replace H := ak N
 clear N
 go_wp2_with fail
 replace E := ak (show sqL [run T j .block] _ = some q from E.out)
 obtain ⟨p9, e, d⟩ := zu E.out
 have R := ak e
 replace E := ak (d)
 clear e d
 refine (mth (ij ih).block HL H R).mono ?_
 rintro e W10 ⟨rfl, N⟩
 replace H := ak N
 clear N
 go_wp2_with fail
 go_end0
 exact ⟨rfl, (zbb ⟨zaw E.out⟩ G H)⟩
theorem zxw  {k : Nat} {bxp : Nat}  (ih : ∀ i, i < k → IH B T tv pb i) (hb_bxp : Box pb W0 F0 bxp (.pointer (some ⟨pb, 0, none⟩))) (hlow : low.length + k ≤ 10000000) : Does B T tv pb (k + 1) .elseB 373 #[.pointer (some ⟨bxp, 0, none⟩)] low kd tx W0 F0 := by
 intro i hi m W s q hm N hr
 obtain ⟨j, rfl, H, E, G, HL, RUN⟩ := zah N hr (by omega)
 replace ih : ∀ i, i < j + 1 → IH B T tv pb i := fun i h => ih i (by omega)
 have B_bxp := ak hb_bxp
 have c_bxp := N.box hb_bxp
 clear N hr hlow hb_bxp
 go_enter Tryz.func373, Tryz.ntmps373
 go_wp2_with fail
 refine (zbk H.out [(⟨#[105, 102]⟩ : ByteArray)] (by simp)).mono ?_
 rintro e W2 ⟨rfl, N2⟩
 rcases zac H.out [(⟨#[105, 102]⟩ : ByteArray)] with b1 | b1
 ·rw [b1]
  replace H := ak N2
  replace c_bxp := N2.box B_bxp.out
  clear N2
  replace E := ak (if_t b1 E.out)
  clear b1
  go_wp2_with fail
  refine (mth (ij ih).ifExpr HL H E).mono ?_
  rintro e W3 ⟨rfl, N⟩
  replace H := ak N
  replace c_bxp := N.box B_bxp.out
  clear N
  go_wp2_with fail
  go_end0
  exact ⟨⟨_, rfl⟩, _, H.out⟩
 ·rw [b1]
  replace H := ak N2
  replace c_bxp := N2.box B_bxp.out
  clear N2
  replace E := ak (if_f b1 E.out)
  clear b1
  go_wp2_with fail
  refine (mth (ij ih).block HL H E).mono ?_
  rintro e W4 ⟨rfl, N⟩
  replace H := ak N
  replace c_bxp := N.box B_bxp.out
  clear N
  go_wp2_with fail
  go_end0
  exact ⟨⟨_, rfl⟩, _, H.out⟩
theorem z00  {k : Nat} {bxp : Nat}  (ih : ∀ i, i < k → IH B T tv pb i) (hb_bxp : Box pb W0 F0 bxp (.pointer (some ⟨pb, 0, none⟩))) (hlow : low.length + k ≤ 10000000) : Does B T tv pb (k + 1) .ifB 372 #[.pointer (some ⟨bxp, 0, none⟩)] low kd tx W0 F0 := by
 intro i hi m W s q hm N hr
 obtain ⟨j, rfl, H, E, G, HL, RUN⟩ := zah N hr (by omega)
 replace ih : ∀ i, i < j + 1 → IH B T tv pb i := fun i h => ih i (by omega)
 have B_bxp := ak hb_bxp
 have c_bxp := N.box hb_bxp
 clear N hr hlow hb_bxp
 go_enter Tryz.func372, Tryz.ntmps372
 go_wp2_with fail
 replace E := ak (zbh E.out)
 refine (zat H.out (by omega)).mono ?_
 rintro e W1 ⟨rfl, N⟩
 replace H := ak N
 replace c_bxp := N.box B_bxp.out
 clear N
 go_wp2_with fail
 obtain ⟨p2, e, d⟩ := zu E.out
 have R := ak e
 replace E := ak (d)
 clear e d
 refine (mth (ij ih).expr HL H R).mono ?_
 rintro e W3 ⟨rfl, N⟩
 replace H := ak N
 replace c_bxp := N.box B_bxp.out
 clear N
 go_wp2_with fail
 obtain ⟨p4, e, d⟩ := zu E.out
 have R := ak e
 replace E := ak (d)
 clear e d
 refine (mth (ij ih).block HL H R).mono ?_
 rintro e W5 ⟨rfl, N⟩
 replace H := ak N
 replace c_bxp := N.box B_bxp.out
 clear N
 go_wp2_with fail
 obtain ⟨p6, e, d⟩ := zu E.out
 have R := ak e
 replace E := ak (d)
 clear e d
 refine (zgi 373 #[] #[.pointer (some ⟨bxp, 0, none⟩)] zl5 ((zxw  (dn ih) B_bxp.out (hl_ HL)).mono (by omega)) H.out R.out).mono ?_
 rintro e W7 ⟨rfl, N⟩
 replace H := ak N
 replace c_bxp := N.box B_bxp.out
 clear N
 go_wp2_with fail
 go_end0
 exact zb2 ⟨zaw E.out⟩ H
theorem zu3  {k : Nat}  (ih : ∀ i, i < k → IH B T tv pb i) : Meth B T tv pb k .ifExpr 360 #[.pointer (some ⟨pb, 0, none⟩)] (fun _ => .tuple #[]) := by
 intro m low kd tx W0 F0 W s q hm hlow N hr
 obtain ⟨j, rfl, H, E, G, HL, RUN⟩ := zah N hr hlow
 clear N hr hlow
 go_enter Tryz.func360, Tryz.ntmps360
 go_wp2_with fail
 obtain ⟨WB, FB, hWB, hsz, BK, B_bxp, HN, c_bxp⟩ := zeo H (.pointer (some ⟨pb, 0, none⟩)) 184
 rw [hWB]
 try rw [hsz]
 clear hsz hWB H
 obtain ⟨p1, e, d⟩ := zai E.out
 have R1 := ak e
 have D1 := ak d
 clear e d E
 refine (zba HN HL #[] #[.pointer (some ⟨W.heap.size, 0, none⟩)] zpy R1 fun W1 F1 NN old => (z00  (dn ih) (B_bxp.out.old old) (hla HL)).at NN R1).mono ?_
 rintro e W2 ⟨rfl, N⟩
 have H := ak N
 replace c_bxp := N.box B_bxp.out
 clear N HN
 go_wp2_with fail
 go_end0
 exact ⟨rfl, (BK.out _ _ _ _ _ _ (zbb D1 G H))⟩
end Go.Proofs.YtmoelofaojgjfaaGreatDoor.Par
namespace Go.Proofs.YtmoelofaojgjfaaGreatDoor.Par
open Go.RowKit Go.Proofs.YtmoelofaojgjfaaGreatDoorW.PrintWords Go.Proofs.YtmoelofaojgjfaaGreatDoorW.PrintLast
variable {B : Nat} {T : List Tok} {tv : Value} {pb : Nat} {m : Nat} {low : List Tree} {kd : Int} {tx : ByteArray} {W0 : World} {F0 : List Nat} {W : World} {s : St}
theorem Now.cut {ks : List Tree} {t : Tree} (N : Now B T tv pb m low kd tx W0 F0 W s) (hs : s = (s.1, ks ++ [t])) :
  ∃ sb scap kg kcap, W.cell? ⟨pb, 2, none⟩ = some (.slice (some ⟨sb, 0, none⟩) (low.length + 1) scap) ∧ W.cell? ⟨sb, low.length * 3 + 2, none⟩ = some (.slice (some ⟨kg, 0, none⟩) (ks.length + 1) kcap) ∧ (∀ i, W.frozen? ⟨sb, i, none⟩ = false) ∧
   ks.length + 1 ≤ kcap ∧ sb ≠ pb ∧ sb < W.heap.size ∧ low.length ≤ 10000000 ∧ ks.length ≤ 100000 + m ∧
   ∀ W' : World, W'.os = W.os → W'.tape = W.tape → W'.output = W.output → W'.heap = (W.setCell ⟨sb, low.length * 3 + 2, none⟩ (.slice (some ⟨kg, 0, none⟩) ks.length kcap)).heap → Now B T tv pb m low kd tx W0 F0 W' (s.1, ks) := by
 obtain ⟨F, h1, h2⟩ := N.st
 have e2 : s.2 = ks ++ [t] := congrArg Prod.snd hs
 have hk := N.kids
 have hpo := N.pos
 have hle := N.len
 rw [e2] at h1 hk
 simp only [List.length_append, List.length_singleton] at hk
 obtain ⟨sb, scap, kg, kcap, hv, F1, Ft, p1, hc1, hc2, ⟨n1, n2, n3, l1, l2, l3⟩, hfz, c0, _, _, hF, hcut⟩ := h1.cutTop
 refine ⟨sb, scap, kg, kcap, (zf p1 2).trans rfl, c0, hfz, hc2, n1, l1, N.low, by omega, fun W' g1 g2 g3 g4 => ?_⟩
 obtain ⟨q1, q2, q3⟩ := hcut W' g1 g2 g3 (by rw [g4]; simp [World.setCell]) (fun g hg hne => by rw [g4]; exact Below.heap_setCell W ⟨sb, low.length * 3 + 2, none⟩ _ g hne) (by rw [g4])
 exact ⟨⟨F1, q1, h2.trans q3⟩, hpo, hle, N.low, by show ks.length ≤ s.1 + m; omega⟩
theorem zyh {p : Bool × St} {q : Bool × St} (h : (match p.2.2.getLast? with | none => none | some _ => some (false, zes T (p.2.1, p.2.2.dropLast))) = some q) : ∃ ks t, p.2 = (p.2.1, ks ++ [t]) ∧ q = (false, zes T (p.2.1, ks)) := by
 cases hg : p.2.2.getLast? with
 | none =>
  rw [hg] at h
  cases h
 | some t =>
  rw [hg] at h
  have hd : p.2.2 = p.2.2.dropLast ++ [t] := by
   have hne : p.2.2 ≠ [] := by
    rintro e
    rw [e] at hg
    cases hg
   have h3 := List.dropLast_concat_getLast hne
   rw [List.getLast?_eq_some_getLast hne] at hg
   cases hg
   exact h3.symm
  exact ⟨p.2.2.dropLast, t, Prod.ext rfl hd, zab h⟩
end Go.Proofs.YtmoelofaojgjfaaGreatDoor.Par
namespace Go.Proofs.YtmoelofaojgjfaaGreatDoor.Par
open Go.RowKit Go.Proofs.YtmoelofaojgjfaaGreatDoorW.PrintWords Go.Proofs.YtmoelofaojgjfaaGreatDoorW.PrintLast
variable {P : Program}
theorem zjw (w : World) (t ti ty e : TypeId) (i : TypeInfo) (z : Value) (ht : P.underlying t = some (.slice e)) {k : IntKind} (hti : P.underlying ti = some (.int k)) (hi : P.info? e = some i) (hz : i.zero = some z) (hzs : z.cells.size = i.size) (hs0 : 0 < i.size)
  (b : Addr) (n cap : Nat) (xs : List Value) (hlo : xs.length = n * i.size) (holds : ∀ j v, xs[j]? = some v → w.cell? (b.add j) = some v) (m : Nat) (hm : 0 < m) (hcap : cap < n + m) (hbytes : (n + m) * i.bytes ≤ 140737488355328) (hb0 : 0 < i.bytes) :
  (Builtin.append_ #[t, ti] ty #[.slice (some b) n cap, .int .i64 (m : Int)]).run P w =
   .ok (.slice (some ⟨w.heap.size, 0, none⟩) (n + m) (grownCap w (n + m) cap e)) (w.drew.alloc (.cells (xs.toArray ++ Builtin.zeroCells z.cells m ++ Builtin.zeroCells z.cells (grownCap w (n + m) cap e - (n + m))) e)) := by
 have hle : n + m ≤ 140737488355328 := Nat.le_trans (Nat.le_mul_of_pos_right _ hb0) hbytes
 have hw : IntKind.i64.wrap (m : Int) = m := by rw [IntKind.wrap_i64]; omega
 have hneg : ¬ ((m : Int) < 0) := by omega
 have hmb : m * i.bytes ≤ 140737488355328 := Nat.le_trans (Nat.mul_le_mul_right _ (Nat.le_add_left m n)) hbytes
 have hbig : ¬ (281474976710656 < (m : Int) * (i.bytes : Int)) := by
  rw [← Int.natCast_mul]
  omega
 have hn : ¬ (n + m ≤ cap) := by omega
 have h63' : ¬ (9223372036854775807 < ((n : Int) + (m : Int))) := by omega
 have hfit := growslice_fits hcap hbytes
 have h48' : ¬ (281474976710656 < Builtin.nextslicecap (n + m) cap * i.bytes) := by omega
 have hmz : ¬ (m = 0 ∨ i.size = 0) := by omega
 have hmz' : ¬ (m * i.size = 0) := Nat.mul_ne_zero (by omega) (by omega)
 have hfo := run_firstCells_some (P := P) w.drew i.size n b n cap xs hlo (by simpa using holds)
 simp [Builtin.append_, run_underlying ht, run_underlying hti, sizeOf, typeInfo, zeroValue, hi, hz, asInt, asIntOf, hw, hneg, hbig, hn, h63', h48', Question.forced, hfo, hmz, hmz', newRow, grownCap]
theorem zhq (w : World) (dT sT ty elem : TypeId) (i : TypeInfo) (g o dLen dCap : Nat) (a : Addr) (sLen sCap : Nat) (cur : Array Value) (t : TypeId) (cs : List Value) (hu : P.underlying dT = some (.slice elem)) (hi : P.info? elem = some i)
  (hg : w.heap[g]? = some (.cells cur t (0, 0))) (hn : cs.length = Nat.min sLen dLen * i.size) (hsrc : ∀ j v, cs[j]? = some v → w.cell? (a.add j) = some v) (hfit : o + cs.length ≤ cur.size) (h1 : ∀ v ∈ cs, v.oneCell' = true) :
  (Builtin.copy_ #[dT, sT] ty #[.slice (some ⟨g, o, none⟩) dLen dCap, .slice (some a) sLen sCap]).run P w = .ok (goInt (Nat.min sLen dLen)) (w.setRow g (cur.toList.take o ++ cs ++ cur.toList.drop (o + cs.length)).toArray) := by
 have hl := run_firstCells_some (P := P) w i.size (Nat.min sLen dLen) a sLen sCap cs hn hsrc
 have hst := run_storeCells_at P g o t cs 0 cur w hg (by simpa using hfit) h1
 simp only [Nat.add_zero] at hst
 simp only [Nat.min_def] at hl hn
 simp [Builtin.copy_, run_underlying hu, Builtin.lenOf, sizeOf, typeInfo, hi, Nat.min_def, hl, hst]
end Go.Proofs.YtmoelofaojgjfaaGreatDoor.Par
namespace Go.Proofs.YtmoelofaojgjfaaGreatDoor.Par
open Go.RowKit Go.Proofs.YtmoelofaojgjfaaGreatDoorW.PrintWords Go.Proofs.YtmoelofaojgjfaaGreatDoorW.PrintLast
variable {P : Program}
variable {ops : Array Oper} {rest : List Oper} {o : Oper} {a : Act} {Q : Exit → Act → World → Prop} {K : Act → World → Prop}
theorem zhn (w : World) (hgd : o.guard = none) (s x : Operand) (t ti e : TypeId) (z : Value) (size bytes : Nat) (ho : o.op = .call { callee := .builtin .append, args := #[s, x], argTypes := #[t, ti] }) (ht : P.underlying t = some (.slice e)) {k : IntKind} (hti : P.underlying ti = some (.int k))
  (hinfo : (P.info? e).map (fun i => (i.zero, i.size, i.bytes)) = some (some z, size, bytes)) (hzs : z.cells.size = size) (hs0 : 0 < size) (hb0 : 0 < bytes)
  (b : Addr) (n cap : Nat) (xs : List Value) (hs : a.eval s = .slice (some b) n cap) (hlo : xs.length = n * size) (holds : ∀ j v, xs[j]? = some v → w.cell? (b.add j) = some v) (m : Nat) (hx : a.eval x = .int .i64 (m : Int)) (hm : 0 < m) (hcap : cap < n + m) (hbytes : (n + m) * bytes ≤ 140737488355328)
  (h : wpList P ops Q rest (a.put o.dst (.slice (some ⟨w.heap.size, 0, none⟩) (n + m) (grownCap w (n + m) cap e))) (w.drew.alloc (.cells (xs.toArray ++ Builtin.zeroCells z.cells m ++ Builtin.zeroCells z.cells (grownCap w (n + m) cap e - (n + m))) e))) : wpList P ops Q (o :: rest) a w := by
 obtain ⟨i0, hi, hzz⟩ := Option.map_eq_some_iff.1 hinfo
 simp only [Prod.mk.injEq] at hzz
 obtain ⟨hz0, hz1, hz2⟩ := hzz
 subst hz1
 subst hz2
 refine wpList_plain hgd fun K hK => ?_
 have hrun := zjw (P := P) w t ti o.type e i0 z ht hti hi hz0 hzs hs0 b n cap xs hlo holds m hm hcap hbytes hb0
 unfold Oper.wp
 simp only [execOp, ho, resolve, invoke, builtin, Sem.run_bind, Sem.run_pure, Result.andThen_ok, List.map_toArray, List.map_cons, List.map_nil, hs, hx, hrun]
 exact hK _ _ h
theorem zi0 (w : World) (hw : Region.wanted o (yielded ops a.tmps) = true) (d s : Operand) (dT sT : TypeId) (ho : o.op = .call { callee := .builtin .copy, args := #[d, s], argTypes := #[dT, sT] }) (elem : TypeId) (hu : P.underlying dT = some (.slice elem)) (size : Nat) (hsz : (P.info? elem).map (·.size) = some size)
  (g off dLen dCap : Nat) (ad : Addr) (sLen sCap : Nat) (hd : a.eval d = .slice (some ⟨g, off, none⟩) dLen dCap) (hs : a.eval s = .slice (some ad) sLen sCap)
  (cur : Array Value) (t : TypeId) (hg : w.heap[g]? = some (.cells cur t (0, 0))) (cs : List Value) (hn : cs.length = Nat.min sLen dLen * size)
  (hsrc : ∀ j v, cs[j]? = some v → w.cell? (ad.add j) = some v) (hfit : off + cs.length ≤ cur.size) (h1 : ∀ v ∈ cs, v.oneCell' = true)
  (h : K (a.put o.dst (goInt (Nat.min sLen dLen))) (w.setRow g (cur.toList.take off ++ cs ++ cur.toList.drop (off + cs.length)).toArray)) :
  if Region.wanted o (yielded ops a.tmps) = true then Oper.wp P o a w K Q else K (a.put o.dst undef) w := by
 obtain ⟨i0, hi, hzz⟩ := Option.map_eq_some_iff.1 hsz
 subst hzz
 rw [if_pos hw]
 have hrun := zhq (P := P) w dT sT o.type elem i0 g off dLen dCap ad sLen sCap cur t cs hu hi hg hn hsrc hfit h1
 unfold Oper.wp
 simp only [execOp, ho, resolve, invoke, builtin, Sem.run_bind, Sem.run_pure, Result.andThen_ok, List.map_toArray, List.map_cons, List.map_nil, hd, hs, hrun]
 exact h
end Go.Proofs.YtmoelofaojgjfaaGreatDoor.Par
namespace Go.Proofs.YtmoelofaojgjfaaGreatDoor.Par
open Go.RowKit Go.Proofs.YtmoelofaojgjfaaGreatDoorW.PrintWords Go.Proofs.YtmoelofaojgjfaaGreatDoorW.PrintLast
theorem z0m (w : World) (args : Array Value) : (callFunc 320 args).run Tryz.prog w = ((Extern.SlicesOverlaps.overlaps #[126, 126] #[4] args).run Tryz.prog w).andThen fun v w' => .ok (.value v) w' := by
 exact run_callFunc_extern Tryz.func320 (by kernel_rfl) (by kernel_rfl) (by kernel_rfl) (e := Extern.SlicesOverlaps.overlaps #[126, 126] #[4]) (by kernel_rfl) args w
theorem zxl : (Tryz.prog.info? 128).map (·.size) = some 3 := by kernel_rfl
abbrev Z0 : List Value := [.int .i64 0, .string ⟨#[]⟩, .slice none 0 0]
theorem zyi : ∀ u ∈ Z0, u.oneCell' = true := by intro u hu; simp only [List.mem_cons, List.not_mem_nil, or_false] at hu; rcases hu with rfl | rfl | rfl <;> rfl
theorem zgw {W : World} {g : Nat} {cs : List Value} {o : Nat} (h : ∀ j v, cs[j]? = some v → W.cell? ⟨g, o + j, none⟩ = some v) : ∀ j v, cs[j]? = some v → W.cell? ((⟨g, o, none⟩ : Addr).add j) = some v := fun j v hv => by
 rw [Addr.add_lit]
 exact h j v hv
theorem zni {B : Nat} {W : World} {kg kcap n gv : Nat} {xs : List Value} {a b c : Value} (hown : W.ownsRow B 128 3 (.slice (some ⟨kg, 0, none⟩) (n + 1) kcap) (n + 1) (xs ++ [a, b, c])) (hv : W.heap[gv]? = some (.cells #[.int .i64 0, .string ⟨#[]⟩, .slice none 0 0] 128 (0, 0))) (hne : gv ≠ kg) (hn : n ≤ 1000000000) (ha : ∀ u ∈ [a, b, c], u.oneCell' = true) :
  Calls Tryz.prog 284 #[.slice (some ⟨kg, 0, none⟩) (n + 1) kcap, .int .i64 (n : Int), .slice (some ⟨gv, 0, none⟩) 1 1] W fun e W' => ∃ v1, e = .returned v1 ∧ W'.ownsRow B 128 3 v1 (n + 2) (xs ++ ([.int .i64 0, .string ⟨#[]⟩, .slice none 0 0] ++ [a, b, c])) ∧ W.grownBy W' (some kg) ∧ (v1.ownBlock = some kg ∨ ∃ b, v1.ownBlock = some b ∧ W.heap.size ≤ b) := by
 have HO := ak hown
 have HV := ak hv
 have HA := ak ha
 have i0 : (0 : Int) ≤ (n : Int) := by omega
 have i1 : (n : Int) ≤ (n : Int) + 1 := by omega
 have i2 : ((n : Int) == (n : Int) + 1) = false := beq_eq_false_iff_ne.2 (by omega)
 have i3 : (n : Int) ≤ ((n + 1 : Nat) : Int) := by omega
 have w1 : IntKind.i64.wrap ((n : Int) + 1 + 1) = (n : Int) + 1 + 1 := by rw [IntKind.wrap_i64]; omega
 have hcp := zli hown
 have i4 : (n : Int) ≤ (kcap : Int) := by omega
 clear hown hv ha
 go_enter Tryz.func284, Tryz.ntmps284
 have HX := ak (show xs.length = n * 3 ∧ ∀ j v, xs[j]? = some v → W.cell? ((⟨kg, 0, none⟩ : Addr).add j) = some v from ⟨by have := HO.out.1; simp only [List.length_append, List.length_cons, List.length_nil] at this; omega, fun j v hv => HO.out.cells (g := kg) rfl j v (by rw [List.getElem?_append_left (List.getElem?_eq_some_iff.1 hv).1]; exact hv)⟩)
 by_cases hc : kcap < n + 2
 ·have hcd : decide ((kcap : Int) < (n : Int) + 1 + 1) = true := decide_eq_true (by omega)
  have hcd' : (kcap : Int) < (n : Int) + 1 + 1 := by omega
  have e2 : (n : Int) + 1 + 1 - (n : Int) = 2 := by omega
  have hge := grownCap_ge W (n + 2) kcap 128
  obtain ⟨gc, hgc⟩ : ∃ gc, Hid (grownCap W (n + 2) kcap 128 = gc) := ⟨_, rfl⟩
  rw [show grownCap W (n + 2) kcap 128 = gc from hgc] at hge
  have i5 : (n : Int) ≤ (gc : Int) := by omega
  have i6 : (n : Int) ≤ (n : Int) + 2 := by omega
  have i7 : (n : Int) + 1 ≤ (gc : Int) := by omega
  have i8 : (n : Int) + 1 ≤ (n : Int) + 2 := by omega
  have i9 : (0 : Int) ≤ (n : Int) + 1 := by omega
  have i10 : ¬ gc = n + 1 := by omega
  have i11 : ¬ kcap = n := by omega
  have i12 : ¬ gc = n := by omega
  have w0 : IntKind.i64.wrap ((n : Int) + 1) = (n : Int) + 1 := by rw [IntKind.wrap_i64]; omega
  have w2 : ((n : Int) + 1).toNat = n + 1 := by omega
  go_wp2_with (first | (at_builtin; refine zhn W rfl (.tmp 34) (.tmp 39) 126 3 128 (.agg #[.int .i64 0, .string ⟨#[]⟩, .slice none 0 0]) 3 48 rfl Tryz.underlying126 Tryz.underlying3 zsa rfl (by decide) (by decide) ⟨kg, 0, none⟩ n kcap xs rfl HX.out.1 HX.out.2 2 rfl (by decide) hc (by omega) ?_; rw [show grownCap W (n + 2) kcap 128 = gc from hgc]) | (at_builtin; fail))
  obtain ⟨i0, hi, hsz⟩ := Option.map_eq_some_iff.1 zxl
  obtain ⟨W2, hW2⟩ : ∃ W2, (W.alloc (Obj.cells (xs.toArray ++ (Builtin.zeroCells #[Value.int IntKind.i64 0, Value.string { data := #[] }, Value.slice none 0 0] 2 ++ Builtin.zeroCells #[Value.int IntKind.i64 0, Value.string { data := #[] }, Value.slice none 0 0] (gc - (n + 2)))) 128)).drew = W2 := ⟨_, rfl⟩
  have hb2 : W2.heap[W.heap.size]? = some (.cells (xs.toArray ++ (Builtin.zeroCells #[Value.int IntKind.i64 0, Value.string { data := #[] }, Value.slice none 0 0] 2 ++ Builtin.zeroCells #[Value.int IntKind.i64 0, Value.string { data := #[] }, Value.slice none 0 0] (gc - (n + 2)))) 128 (0, 0)) := by rw [← hW2]; exact zdp (zaj W _)
  have hbel : Below W.heap.size W W2 := by rw [← hW2]; exact zae (zh (Below.refl _ _) _)
  have hz2 : Builtin.zeroCells #[Value.int IntKind.i64 0, Value.string { data := #[] }, Value.slice none 0 0] 2 = (Z0 ++ Z0).toArray := by kernel_rfl
  obtain ⟨rest, hrest⟩ : ∃ rest, Builtin.zeroCells #[Value.int IntKind.i64 0, Value.string { data := #[] }, Value.slice none 0 0] (gc - (n + 2)) = rest.toArray := ⟨(Builtin.zeroCells #[Value.int IntKind.i64 0, Value.string { data := #[] }, Value.slice none 0 0] (gc - (n + 2))).toList, by simp⟩
  have hrl : rest.length = (gc - (n + 2)) * 3 := by
   have := congrArg Array.size hrest
   rw [size_zeroCells] at this
   simpa using this.symm
  rw [hz2, hrest] at hb2
  rw [hW2]
  have hxl := HX.out.1
  have hlv : gv < W.heap.size := za8 HV.out
  have hv2 : W2.heap[gv]? = some (.cells #[.int .i64 0, .string ⟨#[]⟩, .slice none 0 0] 128 (0, 0)) := (hbel.block gv hlv).trans HV.out
  have hrun := zhq (P := Tryz.prog) W2 126 126 3 128 i0 W.heap.size (n * 3) 2 (gc - n) ⟨gv, 0, none⟩ 1 1 (xs.toArray ++ ((Z0 ++ Z0).toArray ++ rest.toArray)) 128 Z0 Tryz.underlying126 hi hb2 (by rw [hsz]; rfl) (zgw (fun j v hj => by rw [Nat.zero_add]; exact (zf hv2 j).trans (by simpa [Z0] using hj))) (by simp [Z0]; omega) zyi
  rw [hrun]
  obtain ⟨W3, hW3⟩ : ∃ W3, W2.setRow W.heap.size (((xs.toArray ++ ((Z0 ++ Z0).toArray ++ rest.toArray)).toList.take (n * 3) ++ Z0 ++ (xs.toArray ++ ((Z0 ++ Z0).toArray ++ rest.toArray)).toList.drop (n * 3 + Z0.length))).toArray = W3 := ⟨_, rfl⟩
  have hb3 : W3.heap[W.heap.size]? = some (.cells (xs ++ (Z0 ++ (Z0 ++ rest))).toArray 128 (0, 0)) := by
   rw [← hW3, setRow_heap W2 W.heap.size _ _ 128 _ hb2]
   congr 3
   simp only [Array.toList_append, List.append_assoc]
   rw [List.take_left' hxl, show (xs ++ (Z0 ++ (Z0 ++ rest))).drop (n * 3 + Z0.length) = Z0 ++ rest by rw [← hxl, ← List.length_append, ← List.append_assoc, List.drop_left]]
  have hg3 : ∀ g, g < W.heap.size → W3.heap[g]? = W.heap[g]? := fun g hg => by
   rw [← hW3, setRow_other W2 W.heap.size g _ (by omega)]
   exact hbel.block g hg
  have hbel3 : Below W.heap.size W W3 := by rw [← hW3]; exact below_setRow hbel (Nat.le_refl _) _
  rw [hW3]
  have H3 := ak (And.intro hb3 (And.intro hbel3 (And.intro hrl hsz)))
  have HI0 := ak hi
  clear hW2 hb2 hbel hz2 hrest hrl hxl hlv hv2 hrun hW3 hb3 hg3 hbel3 hi hsz
  have HS := ak (show ∀ j v, [a, b, c][j]? = some v → W3.drew.cell? ((⟨kg, n * 3, none⟩ : Addr).add j) = some v from zgw (fun j v hj => by
   have hkl : kg < W.heap.size := by
    rcases HO.out.2 with ⟨h0, _⟩ | ⟨g', cap', cur', he, _, hg', _⟩
    ·cases h0
    ·simp only [Value.slice.injEq, Option.some.injEq, Addr.mk.injEq, and_true] at he
     rw [he.1]
     exact za8 hg'
   have hc0 := HO.out.cells (g := kg) rfl (n * 3 + j) v (by rw [List.getElem?_append_right (by rw [HX.out.1]; omega), HX.out.1, Nat.add_sub_cancel_left]; exact hj)
   rw [Addr.add_lit, Nat.zero_add] at hc0
   exact (World.cell?_of_block (H3.out.2.1.block kg hkl)).trans hc0))
  go_wp2_with fail
  refine zc7 (ds := []) (S := (fun _ => True)) #[false, false, false, false, false, false, false, false, false] (by kernel_rfl) rfl rfl trivial (fun hS => ?_)
  refine take_ (i := 0) (N := some 46) (v := .slice (some ⟨W.heap.size, 0, none⟩) (n + 2) gc) #[true, false, false, false, false, false, false, false, false] rfl rfl (by kernel_rfl) (fun _ _ _ h => h) (Or.inl ⟨by kernel_rfl, by intro w' z1; go_simp⟩) hS rfl ?_
  simp only [Act.put, sia, List.set]
  refine take_ (i := 1) (N := some 47) (v := .int .i64 (n : Int)) #[true, true, false, false, false, false, false, false, false] rfl rfl (by kernel_rfl) (fun _ _ _ h => h) (Or.inl ⟨by kernel_rfl, by intro w' z1; go_simp⟩) hS rfl ?_
  simp only [Act.put, sia, List.set]
  refine take_ (i := 2) (N := some 48) (v := .int .i64 1) #[true, true, true, false, false, false, false, false, false] rfl rfl (by kernel_rfl) (fun _ _ _ h => h) (Or.inl ⟨by kernel_rfl, by intro w' z1; go_simp⟩) hS rfl ?_
  simp only [Act.put, sia, List.set]
  refine take_ (i := 3) (N := some 49) (v := .int .i64 ((n : Int) + 1)) #[true, true, true, true, false, false, false, false, false] rfl rfl (by kernel_rfl) (fun _ _ _ h => h) (Or.inl ⟨by kernel_rfl, by intro w' z1; go_simp⟩) hS rfl ?_
  simp only [Act.put, sia, List.set]
  refine take_ (i := 4) (N := some 50) (v := .slice (some ⟨W.heap.size, (n + 1) * 3, none⟩) 1 (gc - (n + 1))) #[true, true, true, true, true, false, false, false, false] rfl rfl (by kernel_rfl) (fun _ _ _ h => h) (Or.inl ⟨by kernel_rfl, by intro w' z1; go_simp⟩) hS rfl ?_
  simp only [Act.put, sia, List.set]
  refine take_ (i := 5) (N := some 51) (v := .slice (some ⟨kg, 0, none⟩) (n + 1) kcap) #[true, true, true, true, true, true, false, false, false] rfl rfl (by kernel_rfl) (fun _ _ _ h => h) (Or.inl ⟨by kernel_rfl, by intro w' z1; go_simp⟩) hS rfl ?_
  simp only [Act.put, sia, List.set]
  refine take_ (i := 6) (N := some 52) (v := .int .i64 (n : Int)) #[true, true, true, true, true, true, true, false, false] rfl rfl (by kernel_rfl) (fun _ _ _ h => h) (Or.inl ⟨by kernel_rfl, by intro w' z1; go_simp⟩) hS rfl ?_
  simp only [Act.put, sia, List.set]
  refine take_ (i := 7) (N := some 53) (v := .slice (some ⟨kg, n * 3, none⟩) 1 (kcap - n)) #[true, true, true, true, true, true, true, true, false] rfl rfl (by kernel_rfl) (fun _ _ _ h => h) (Or.inl ⟨by kernel_rfl, by intro w' z1; go_simp⟩) hS rfl ?_
  simp only [Act.put, sia, List.set]
  refine one_ (i := 8) (N := some 54) #[true, true, true, true, true, true, true, true, true] rfl rfl (by kernel_rfl) (by simp) (fun K hK => ?_)
  refine zi0 W3.drew (by kernel_rfl) (.tmp 50) (.tmp 53) 126 126 rfl 128 Tryz.underlying126 3 zxl W.heap.size ((n + 1) * 3) 1 (gc - (n + 1)) ⟨kg, n * 3, none⟩ 1 (kcap - n) rfl rfl (xs ++ (Z0 ++ (Z0 ++ rest))).toArray 128 H3.out.1 [a, b, c] rfl HS.out (by have := HX.out.1; simp only [List.size_toArray, List.length_append, List.length_cons, List.length_nil]; omega) HA.out ?_
  refine hK.out _ _ trivial (fun hS => ?_)
  clear hK
  try simp only [Act.put, sia, List.set]
  refine zq (by kernel_rfl) ?_ _
  generalize hW4 : World.setRow W3.drew W.heap.size _ = W4
  have HW4 := ak hW4
  clear hW4
  go_wp2_with fail
  obtain ⟨hb3, hbel3, hrl, hsz⟩ := H3.out
  have hxl := HX.out.1
  go_ret
  have hb4 : W4.heap[W.heap.size]? = some (.cells (xs ++ (Z0 ++ ([a, b, c] ++ rest))).toArray 128 (0, 0)) := by
   rw [← HW4.out, setRow_heap W3.drew W.heap.size _ _ 128 _ hb3]
   congr 3
   have hl1 : (xs ++ Z0).length = (n + 1) * 3 := by rw [List.length_append, hxl]; show n * 3 + 3 = _; omega
   rw [show xs ++ (Z0 ++ (Z0 ++ rest)) = (xs ++ Z0) ++ (Z0 ++ rest) by simp only [List.append_assoc], List.take_left' hl1]
   rw [show ((xs ++ Z0) ++ (Z0 ++ rest)).drop ((n + 1) * 3 + [a, b, c].length) = rest by rw [← hl1, show [a, b, c].length = Z0.length from rfl, ← List.length_append, ← List.append_assoc, List.drop_left]]
   simp only [List.append_assoc]
  have hbel4 : Below W.heap.size W W4 := by rw [← HW4.out]; exact below_setRow (zae hbel3) (Nat.le_refl _) _
  refine ⟨_, rfl, ⟨?_, .inr ⟨W.heap.size, gc, _, rfl, ?_, hb4, hge, ?_, ?_, ?_⟩⟩, ⟨hbel4.os, hbel4.tape, hbel4.output, hbel4.size, fun k hk _ => hbel4.block k hk⟩, .inr ⟨_, rfl, Nat.le_refl _⟩⟩
  ·simp only [List.length_append, List.length_cons, List.length_nil, hxl]
   omega
  ·obtain ⟨_, _, e1, b1, b2, _⟩ := zdz HO.out
   omega
  ·rw [← show grownCap W (n + 2) kcap 128 = gc from hgc]
   exact grownCap_le_maxLen W (n + 2) kcap 128 (by simp only [maxLen]; omega)
  ·simp only [List.size_toArray, List.length_append, List.length_cons, List.length_nil, hxl, hrl]
   omega
  ·show List.take ((n + 2) * 3) (xs ++ (Z0 ++ ([a, b, c] ++ rest))) = _
   rw [show xs ++ (Z0 ++ ([a, b, c] ++ rest)) = (xs ++ ([Value.int .i64 0, .string ⟨#[]⟩, .slice none 0 0] ++ [a, b, c])) ++ rest by simp only [List.append_assoc]]
   exact List.take_left' (by simp only [List.length_append, List.length_cons, List.length_nil, hxl]; omega)
 ·have hcd : decide ((kcap : Int) < (n : Int) + 1 + 1) = false := decide_eq_false (by omega)
  have hcd' : ¬ (kcap : Int) < (n : Int) + 1 + 1 := by omega
  obtain ⟨cur, hbg, hkg, hkm, hks, hkt⟩ : ∃ cur : Array Value, B ≤ kg ∧ W.heap[kg]? = some (.cells cur 128 (0, 0)) ∧ kcap ≤ maxLen ∧ cur.size = kcap * 3 ∧ cur.toList.take ((n + 1) * 3) = xs ++ [a, b, c] := by
   rcases HO.out.2 with ⟨h0, _⟩ | ⟨g', cap', cur', he, h2, h3, h4, h5, h6, h7⟩
   ·cases h0
   ·simp only [Value.slice.injEq, Option.some.injEq, Addr.mk.injEq, and_true] at he
    obtain ⟨rfl, _, rfl⟩ := he
    exact ⟨cur', h2, h3, h5, h6, h7⟩
  have HK := ak (And.intro hbg (And.intro hkg (And.intro hkm (And.intro hks hkt))))
  have hov : ∀ T U, (callFunc 320 #[.slice (some ⟨gv, 0, none⟩) 1 T, .slice (some ⟨kg, (n + 1) * 3, none⟩) 1 U]).run Tryz.prog W = .ok (.value (.bool false)) W := by
   intro T U
   rw [z0m]
   have := Lib.run_overlaps_apart (P := Tryz.prog) W 126 4 128 Tryz.underlying126 3 (fun w => by kernel_rfl) ⟨gv, 0, none⟩ ⟨kg, (n + 1) * 3, none⟩ 1 T 1 U hne 128 128 3 cur.size (by simp [World.shape?, HV.out]) (by simp [World.shape?, hkg]) (by omega) (zl HV.out 0) (zl HV.out 3)
   rw [this]
   rfl
  have i6 : (n : Int) + 1 + 1 ≤ (kcap : Int) := by omega
  have i7 : (n : Int) + 1 ≤ (kcap : Int) := by omega
  have i8 : (n : Int) + 1 ≤ (n : Int) + 1 + 1 := by omega
  have i9 : (0 : Int) ≤ (n : Int) + 1 := by omega
  have i9' : (0 : Int) ≤ (n : Int) + 1 + 1 := by omega
  have i10 : ¬ kcap = n + 1 := by omega
  have i11 : ¬ kcap = n := by omega
  have i13 : (n : Int) ≤ (n : Int) + 1 + 1 := by omega
  have w0 : IntKind.i64.wrap ((n : Int) + 1) = (n : Int) + 1 := by rw [IntKind.wrap_i64]; omega
  have w2 : ((n : Int) + 1).toNat = n + 1 := by omega
  have w3 : ((n : Int) + 1 + 1).toNat = n + 1 + 1 := by omega
  clear hbg hkg hkm hks hkt
  have HS := ak (show ∀ j v, [a, b, c][j]? = some v → W.drew.cell? ((⟨kg, n * 3, none⟩ : Addr).add j) = some v from zgw (fun j v hj => by
   have hc0 := HO.out.cells (g := kg) rfl (n * 3 + j) v (by rw [List.getElem?_append_right (by rw [HX.out.1]; omega), HX.out.1, Nat.add_sub_cancel_left]; exact hj)
   rw [Addr.add_lit, Nat.zero_add] at hc0
   exact hc0))
  have j1 : (n + 1 + 1 - n) = 2 := by omega
  have j2 : (n + 1 + 1 - (n + 1)) = 1 := by omega
  go_wp2_with fail
  refine zc7 (ds := []) (S := (fun _ => True)) #[false, false, false, false, false, false, false, false, false] (by kernel_rfl) rfl rfl trivial (fun hS => ?_)
  refine take_ (i := 0) (N := some 69) (v := .slice (some ⟨kg, 0, none⟩) (n + 1 + 1) kcap) #[true, false, false, false, false, false, false, false, false] rfl rfl (by kernel_rfl) (fun _ _ _ h => h) (Or.inl ⟨by kernel_rfl, by intro w' z1; go_simp⟩) hS rfl ?_
  simp only [Act.put, sia, List.set]
  refine take_ (i := 1) (N := some 70) (v := .int .i64 (n : Int)) #[true, true, false, false, false, false, false, false, false] rfl rfl (by kernel_rfl) (fun _ _ _ h => h) (Or.inl ⟨by kernel_rfl, by intro w' z1; go_simp⟩) hS rfl ?_
  simp only [Act.put, sia, List.set]
  refine take_ (i := 2) (N := some 71) (v := .int .i64 1) #[true, true, true, false, false, false, false, false, false] rfl rfl (by kernel_rfl) (fun _ _ _ h => h) (Or.inl ⟨by kernel_rfl, by intro w' z1; go_simp⟩) hS rfl ?_
  simp only [Act.put, sia, List.set]
  refine take_ (i := 3) (N := some 72) (v := .int .i64 ((n : Int) + 1)) #[true, true, true, true, false, false, false, false, false] rfl rfl (by kernel_rfl) (fun _ _ _ h => h) (Or.inl ⟨by kernel_rfl, by intro w' z1; go_simp⟩) hS rfl ?_
  simp only [Act.put, sia, List.set]
  refine take_ (i := 4) (N := some 73) (v := .slice (some ⟨kg, (n + 1) * 3, none⟩) 1 (kcap - (n + 1))) #[true, true, true, true, true, false, false, false, false] rfl rfl (by kernel_rfl) (fun _ _ _ h => h) (Or.inl ⟨by kernel_rfl, by intro w' z1; go_simp⟩) hS rfl ?_
  simp only [Act.put, sia, List.set]
  refine take_ (i := 5) (N := some 74) (v := .slice (some ⟨kg, 0, none⟩) (n + 1 + 1) kcap) #[true, true, true, true, true, true, false, false, false] rfl rfl (by kernel_rfl) (fun _ _ _ h => h) (Or.inl ⟨by kernel_rfl, by intro w' z1; go_simp⟩) hS rfl ?_
  simp only [Act.put, sia, List.set]
  refine take_ (i := 6) (N := some 75) (v := .int .i64 (n : Int)) #[true, true, true, true, true, true, true, false, false] rfl rfl (by kernel_rfl) (fun _ _ _ h => h) (Or.inl ⟨by kernel_rfl, by intro w' z1; go_simp⟩) hS rfl ?_
  simp only [Act.put, sia, List.set]
  refine take_ (i := 7) (N := some 76) (v := .slice (some ⟨kg, n * 3, none⟩) 2 (kcap - n)) #[true, true, true, true, true, true, true, true, false] rfl rfl (by kernel_rfl) (fun _ _ _ h => h) (Or.inl ⟨by kernel_rfl, by intro w' z1; go_simp⟩) hS rfl ?_
  simp only [Act.put, sia, List.set]
  refine one_ (i := 8) (N := some 77) #[true, true, true, true, true, true, true, true, true] rfl rfl (by kernel_rfl) (by simp) (fun K hK => ?_)
  refine zi0 W.drew (by kernel_rfl) (.tmp 73) (.tmp 76) 126 126 rfl 128 Tryz.underlying126 3 zxl kg ((n + 1) * 3) 1 (kcap - (n + 1)) ⟨kg, n * 3, none⟩ 2 (kcap - n) rfl rfl cur 128 HK.out.2.1 [a, b, c] rfl HS.out (by have := HK.out.2.2.2.1; simp only [List.length_cons, List.length_nil]; omega) HA.out ?_
  refine hK.out _ _ trivial (fun hS => ?_)
  clear hK
  try simp only [Act.put, sia, List.set]
  refine zq (by kernel_rfl) ?_ _
  generalize hW4 : World.setRow W.drew kg _ = W4
  have HW4 := ak hW4
  clear hW4
  go_wp2_with fail
  obtain ⟨hbg, hkg, hkm, hks, hkt⟩ := HK.out
  have hxl := HX.out.1
  obtain ⟨rest, hrest⟩ : ∃ rest, rest = cur.toList.drop ((n + 1) * 3 + [a, b, c].length) := ⟨_, rfl⟩
  have hrl : rest.length = (kcap - (n + 2)) * 3 := by
   rw [hrest, List.length_drop, Array.length_toList, hks]
   show kcap * 3 - ((n + 1) * 3 + 3) = _
   omega
  have hb4 : W4.heap[kg]? = some (.cells (xs ++ ([a, b, c] ++ ([a, b, c] ++ rest))).toArray 128 (0, 0)) := by
   rw [← HW4.out, setRow_heap W.drew kg _ _ 128 _ hkg, hkt, ← hrest]
   congr 3
   simp only [List.append_assoc]
  have hg4 : ∀ g, g ≠ kg → W4.heap[g]? = W.heap[g]? := fun g hg => by
   rw [← HW4.out]
   exact setRow_other W.drew kg g _ hg
  have hsz4 : W4.heap.size = W.heap.size := by
   rw [← HW4.out]
   simp [World.setRow]
  have ho4 : W4.os = W.os ∧ W4.tape = W.tape ∧ W4.output = W.output := by
   rw [← HW4.out]
   exact ⟨rfl, rfl, rfl⟩
  have hv4 := (hg4 gv hne).trans HV.out
  obtain ⟨i0, hi, hsz⟩ := Option.map_eq_some_iff.1 zxl
  have hrun := zhq (P := Tryz.prog) W4 126 126 3 128 i0 kg (n * 3) 2 (kcap - n) ⟨gv, 0, none⟩ 1 1 (xs ++ ([a, b, c] ++ ([a, b, c] ++ rest))).toArray 128 Z0 Tryz.underlying126 hi hb4 (by rw [hsz]; rfl) (zgw (fun j v hj => by rw [Nat.zero_add]; exact (zf hv4 j).trans (by simpa [Z0] using hj))) (by simp only [List.size_toArray, List.length_append, List.length_cons, List.length_nil, hxl]; omega) zyi
  rw [hrun]
  generalize hW5 : World.setRow W4 kg _ = W5
  have HW5 := ak hW5
  have HK5 := ak (And.intro hb4 (And.intro hg4 (And.intro hsz4 (And.intro ho4 hrl))))
  clear hW5 hbg hkg hkm hks hkt hb4 hg4 hsz4 ho4 hv4 hi hsz hrun hrest hrl hxl
  go_wp2_with fail
  go_ret
  obtain ⟨hbg, hkg, hkm, hks, hkt⟩ := HK.out
  obtain ⟨hb4, hg4, hsz4, ho4, hrl⟩ := HK5.out
  have hxl := HX.out.1
  have hb5 : W5.heap[kg]? = some (.cells (xs ++ (Z0 ++ ([a, b, c] ++ rest))).toArray 128 (0, 0)) := by
   rw [← HW5.out, setRow_heap W4 kg _ _ 128 _ hb4]
   congr 3
   show List.take (n * 3) (xs ++ ([a, b, c] ++ ([a, b, c] ++ rest))) ++ Z0 ++ List.drop (n * 3 + Z0.length) (xs ++ ([a, b, c] ++ ([a, b, c] ++ rest))) = _
   rw [List.take_left' hxl, show (xs ++ ([a, b, c] ++ ([a, b, c] ++ rest))).drop (n * 3 + Z0.length) = [a, b, c] ++ rest by rw [← hxl, show Z0.length = [a, b, c].length from rfl, ← List.length_append, ← List.append_assoc, List.drop_left]]
   simp only [List.append_assoc]
  have hg5 : ∀ g, g ≠ kg → W5.heap[g]? = W.heap[g]? := fun g hg => by
   rw [← HW5.out, setRow_other W4 kg g _ hg]
   exact hg4 g hg
  refine ⟨_, rfl, ⟨?_, .inr ⟨kg, kcap, _, rfl, hbg, hb5, by omega, hkm, ?_, ?_⟩⟩, ⟨by rw [← HW5.out]; exact ho4.1, by rw [← HW5.out]; exact ho4.2.1, by rw [← HW5.out]; exact ho4.2.2, by rw [← HW5.out]; simp [World.setRow, hsz4], fun k _ hk => hg5 k (fun e => hk (by rw [e]))⟩, .inl rfl⟩
  ·simp only [List.length_append, List.length_cons, List.length_nil, hxl]
   omega
  ·simp only [List.size_toArray, List.length_append, List.length_cons, List.length_nil, hxl, hrl]
   omega
  ·show List.take ((n + 2) * 3) (xs ++ (Z0 ++ ([a, b, c] ++ rest))) = _
   rw [show xs ++ (Z0 ++ ([a, b, c] ++ rest)) = (xs ++ ([Value.int .i64 0, .string ⟨#[]⟩, .slice none 0 0] ++ [a, b, c])) ++ rest by simp only [List.append_assoc]]
   exact List.take_left' (by simp only [List.length_append, List.length_cons, List.length_nil, hxl]; omega)
theorem PS.kids_mem {tp te B : Nat} {T : List Tok} {tv : Value} {pb : Nat} {W W1 : World} {pos : Nat} {low : List Tree} {kd : Int} {tx : ByteArray} {ks ks' : List Tree} {sb scap : Nat} {hd v1 : Value} {c1 cs' : List Value} {F1 Fs : List Nat}
  (h : PS tp te B T tv pb W pos (low ++ [.mk kd tx ks]) (sb :: (F1 ++ (own1 hd ++ Fs))))
  (hpb : W.heap[pb]? = some (.cells #[tv, .int .i64 (pos : Int), .slice (some ⟨sb, 0, none⟩) (low.length + 1) scap] tp (0, 0)))
  (ho : W.ownsRow B te 3 (.slice (some ⟨sb, 0, none⟩) (low.length + 1) scap) (low.length + 1) (c1 ++ [.int .i64 kd, .string tx, hd])) (hlow : TL W B te low c1 F1) (hks : TL W B te ks' cs' Fs)
  (hv : W1.ownsRow B te 3 v1 ks'.length cs') (hat : v1.ownBlock = hd.ownBlock ∨ ∃ b, v1.ownBlock = some b ∧ W.heap.size ≤ b)
  (ho1 : W1.os = W.os) (ho2 : W1.tape = W.tape) (ho3 : W1.output = W.output) (hsz : W.heap.size ≤ W1.heap.size) (hkp : ∀ g, g < W.heap.size → some g ≠ hd.ownBlock → W1.heap[g]? = W.heap[g]?) :
  ∃ F', PS tp te B T tv pb (W1.setCell ⟨sb, low.length * 3 + 2, none⟩ v1) pos (low ++ [.mk kd tx ks']) F' ∧ Fr pb (sb :: (F1 ++ (own1 hd ++ Fs))) F' W (W1.setCell ⟨sb, low.length * 3 + 2, none⟩ v1) := by
 obtain ⟨Ft, hFt⟩ : ∃ Ft : List Nat, Ft = [] := ⟨[], rfl⟩
 have hN : ((sb :: (F1 ++ (own1 hd ++ Fs))) ++ Ft).Nodup := by rw [hFt, List.append_nil]; exact h.nd
 have hpt : pb ∉ Ft := by rw [hFt]; simp
 have main : ∃ F', PS tp te B T tv pb (W1.setCell ⟨sb, low.length * 3 + 2, none⟩ v1) pos (low ++ [.mk kd tx ks']) F' ∧ Fr pb ((sb :: (F1 ++ (own1 hd ++ Fs))) ++ Ft) F' W (W1.setCell ⟨sb, low.length * 3 + 2, none⟩ v1) := by
  have hc1 := zf3 low c1 F1 hlow
  have nd := hN
  rw [zbn] at nd
  obtain ⟨nF, nT, nX⟩ := nd
  rw [List.nodup_cons] at nF
  have nF2 := zbn.1 nF.2
  have nF3 := zbn.1 nF2.2.1
  have bF : ∀ g ∈ sb :: (F1 ++ (own1 hd ++ Fs)), B ≤ g ∧ g < W.heap.size := h.rowsGe
  have bT : ∀ g ∈ Ft, B ≤ g ∧ g < W.heap.size := fun g hg => by rw [hFt] at hg; cases hg
  have hpbs : pb < W.heap.size := (Array.getElem?_eq_some_iff.1 hpb).1
  have hpF := h.pbF
  have hsbh : some sb ≠ hd.ownBlock := fun e => nF.1 (List.mem_append_right _ (List.mem_append_left _ (zas.2 e.symm)))
  have hsb1 : sb < W.heap.size := (bF sb List.mem_cons_self).2
  have hsbv : some sb ≠ v1.ownBlock := by
   rcases hat with e | ⟨b, e, hb⟩
   ·rw [e]
    exact hsbh
   ·rw [e]
    intro hh
    injection hh with hh
    omega
  have hkeep : ∀ g, g < W.heap.size → some g ≠ hd.ownBlock → g ≠ sb → (W1.setCell ⟨sb, low.length * 3 + 2, none⟩ v1).heap[g]? = W.heap[g]? := fun g h1 h2 h3 => (Below.heap_setCell W1 ⟨sb, low.length * 3 + 2, none⟩ v1 g h3).trans (hkp g h1 h2)
  have hne : ∀ g, g ∈ F1 ∨ g ∈ Fs ∨ g ∈ Ft → some g ≠ hd.ownBlock ∧ g ≠ sb := by
   intro g hg
   refine ⟨fun e => ?_, fun e => ?_⟩
   ·have hm : g ∈ own1 hd := zas.2 e.symm
    rcases hg with hg | hg | hg
    ·exact nF2.2.2 g hg (List.mem_append_left _ hm)
    ·exact nF3.2.2 g hm hg
    ·exact nX g (List.mem_cons_of_mem _ (List.mem_append_right _ (List.mem_append_left _ hm))) hg
   ·subst e
    rcases hg with hg | hg | hg
    ·exact nF.1 (List.mem_append_left _ hg)
    ·exact nF.1 (List.mem_append_right _ (List.mem_append_right _ hg))
    ·exact nX g List.mem_cons_self hg
  have hin : ∀ g, g ∈ F1 ∨ g ∈ Fs ∨ g ∈ Ft → g < W.heap.size := by
   rintro g (hg | hg | hg)
   ·exact (bF g (List.mem_cons_of_mem _ (List.mem_append_left _ hg))).2
   ·exact (bF g (List.mem_cons_of_mem _ (List.mem_append_right _ (List.mem_append_right _ hg)))).2
   ·exact (bT g hg).2
  have k1 : ∀ g ∈ F1, (W1.setCell ⟨sb, low.length * 3 + 2, none⟩ v1).heap[g]? = W.heap[g]? := fun g hg => hkeep g (hin g (.inl hg)) (hne g (.inl hg)).1 (hne g (.inl hg)).2
  have k2 : ∀ g ∈ Fs, (W1.setCell ⟨sb, low.length * 3 + 2, none⟩ v1).heap[g]? = W.heap[g]? := fun g hg => hkeep g (hin g (.inr (.inl hg))) (hne g (.inr (.inl hg))).1 (hne g (.inr (.inl hg))).2
  have k3 : ∀ g ∈ Ft, (W1.setCell ⟨sb, low.length * 3 + 2, none⟩ v1).heap[g]? = W.heap[g]? := fun g hg => hkeep g (hin g (.inr (.inr hg))) (hne g (.inr (.inr hg))).1 (hne g (.inr (.inr hg))).2
  have hostk : W1.ownsRow B te 3 (.slice (some ⟨sb, 0, none⟩) (low.length + 1) scap) (low.length + 1) (c1 ++ [.int .i64 kd, .string tx, hd]) := za7 ho (fun g hg => by
   have : g = sb := by simpa [own1, Value.ownBlock] using hg
   subst this
   exact hkp g hsb1 hsbh)
  have hset := zcr hostk (low.length * 3 + 2) v1
  have hxs : (c1 ++ [Value.int .i64 kd, .string tx, hd]).set (low.length * 3 + 2) v1 = c1 ++ [.int .i64 kd, .string tx, v1] := by
   rw [List.set_append, if_neg (by omega), hc1]
   congr 1
   have : low.length * 3 + 2 - low.length * 3 = 2 := by omega
   rw [this]
   rfl
  rw [hxs] at hset
  have hnode : TR (W1.setCell ⟨sb, low.length * 3 + 2, none⟩ v1) B te ks' v1 (own1 v1 ++ (Fs ++ Ft)) :=
   ⟨cs', Fs ++ Ft, zm0 hv hsbv v1 _, rfl, by rw [hFt, List.append_nil]; exact zc1 ks' cs' Fs hks k2⟩
  have hstk : TR (W1.setCell ⟨sb, low.length * 3 + 2, none⟩ v1) B te (low ++ [.mk kd tx ks']) (.slice (some ⟨sb, 0, none⟩) (low.length + 1) scap) (sb :: (F1 ++ (own1 v1 ++ (Fs ++ Ft)))) := by
   refine ⟨c1 ++ [.int .i64 kd, .string tx, v1], F1 ++ (own1 v1 ++ (Fs ++ Ft)), ?_, by simp [own1, Value.ownBlock], zeq low _ c1 _ F1 _ (zc1 low c1 F1 hlow k1) (zoo (zih.2 ⟨v1, rfl, hnode⟩))⟩
   rw [List.length_append, List.length_singleton]
   exact hset
  have hv1 : ∀ g ∈ own1 v1, g ∈ own1 hd ∨ W.heap.size ≤ g := by
   intro g hg
   rcases hat with e | ⟨b, e, hb⟩
   ·left
    rw [zas] at hg ⊢
    rw [← e]
    exact hg
   ·right
    rw [zas, e] at hg
    injection hg with hg
    omega
  have hnew : (sb :: (F1 ++ (own1 v1 ++ (Fs ++ Ft)))).Nodup := by
   rw [List.nodup_cons, zbn, zbn, zbn]
   refine ⟨fun hh => ?_, nF2.1, ⟨zhr _, ⟨nF3.2.1, nT, fun x hx hx2 => nX x (List.mem_cons_of_mem _ (List.mem_append_right _ (List.mem_append_right _ hx))) hx2⟩, fun x hx hx2 => ?_⟩, fun x hx hx2 => ?_⟩
   ·rcases List.mem_append.1 hh with hh | hh
    ·exact nF.1 (List.mem_append_left _ hh)
    ·rcases List.mem_append.1 hh with hh | hh
     ·exact hsbv (zas.1 hh).symm
     ·rcases List.mem_append.1 hh with hh | hh
      ·exact nF.1 (List.mem_append_right _ (List.mem_append_right _ hh))
      ·exact nX sb List.mem_cons_self hh
   ·have hlt : x < W.heap.size := by
     rcases List.mem_append.1 hx2 with hh | hh
     ·exact hin x (.inr (.inl hh))
     ·exact hin x (.inr (.inr hh))
    rcases hv1 x hx with h1 | h1
    ·rcases List.mem_append.1 hx2 with hh | hh
     ·exact nF3.2.2 x h1 hh
     ·exact nX x (List.mem_cons_of_mem _ (List.mem_append_right _ (List.mem_append_left _ h1))) hh
    ·omega
   ·have hlt := hin x (.inl hx)
    rcases List.mem_append.1 hx2 with hh | hh
    ·rcases hv1 x hh with h1 | h1
     ·exact nF2.2.2 x hx (List.mem_append_left _ h1)
     ·omega
    ·rcases List.mem_append.1 hh with hh | hh
     ·exact nF2.2.2 x hx (List.mem_append_right _ hh)
     ·exact nX x (List.mem_cons_of_mem _ (List.mem_append_left _ hx)) hh
  have hmem : ∀ g ∈ sb :: (F1 ++ (own1 v1 ++ (Fs ++ Ft))), g ∈ (sb :: (F1 ++ (own1 hd ++ Fs))) ++ Ft ∨ W.heap.size ≤ g := by
   intro g hg
   rcases List.mem_cons.1 hg with rfl | hg
   ·exact .inl (List.mem_append_left _ List.mem_cons_self)
   ·rcases List.mem_append.1 hg with hg | hg
    ·exact .inl (List.mem_append_left _ (List.mem_cons_of_mem _ (List.mem_append_left _ hg)))
    ·rcases List.mem_append.1 hg with hg | hg
     ·rcases hv1 g hg with h1 | h1
      ·exact .inl (List.mem_append_left _ (List.mem_cons_of_mem _ (List.mem_append_right _ (List.mem_append_left _ h1))))
      ·exact .inr h1
     ·rcases List.mem_append.1 hg with hg | hg
      ·exact .inl (List.mem_append_left _ (List.mem_cons_of_mem _ (List.mem_append_right _ (List.mem_append_right _ hg))))
      ·exact .inl (List.mem_append_right _ hg)
  have hfr : Fr pb ((sb :: (F1 ++ (own1 hd ++ Fs))) ++ Ft) (sb :: (F1 ++ (own1 v1 ++ (Fs ++ Ft)))) W (W1.setCell ⟨sb, low.length * 3 + 2, none⟩ v1) := by
   refine ⟨ho1, ho2, ho3, by simpa [World.setCell] using hsz, fun g h1 h2 h3 => ?_, hmem⟩
   refine hkeep g h1 (fun e => h3 (List.mem_append_left _ (List.mem_cons_of_mem _ (List.mem_append_right _ (List.mem_append_left _ (zas.2 e.symm)))))) (fun e => h3 (List.mem_append_left _ (by rw [e]; exact List.mem_cons_self)))
  have hpbn : pb ∉ sb :: (F1 ++ (own1 v1 ++ (Fs ++ Ft))) := by
   intro hh
   rcases hmem pb hh with h1 | h1
   ·rcases List.mem_append.1 h1 with h1 | h1
    ·exact hpF h1
    ·exact hpt h1
   ·omega
  obtain ⟨Wt, t1, t2, t3⟩ := h.tok
  refine ⟨_, ⟨⟨_, ?_, hstk⟩, hnew, hpbn, h.ge, Wt, t1, t2, ?_⟩, hfr⟩
  ·rw [hkeep pb hpbs (fun e => hpF (List.mem_cons_of_mem _ (List.mem_append_right _ (List.mem_append_left _ (zas.2 e.symm))))) (fun e => hpF (by rw [e]; exact List.mem_cons_self)), hpb]
  ·refine t3.trans ((hfr.below h.ge (fun g hg => ?_) (by have := h.ge; omega)).mono t1)
   rcases List.mem_append.1 hg with hg | hg
   ·exact (bF g hg).1
   ·exact (bT g hg).1
 rw [hFt, List.append_nil] at main
 exact main
end Go.Proofs.YtmoelofaojgjfaaGreatDoor.Par
namespace Go.Proofs.YtmoelofaojgjfaaGreatDoor.Par
open Go.RowKit Go.Proofs.YtmoelofaojgjfaaGreatDoorW.PrintWords Go.Proofs.YtmoelofaojgjfaaGreatDoorW.PrintLast
variable {B : Nat} {T : List Tok} {tv : Value} {pb : Nat} {m : Nat} {low : List Tree} {kd : Int} {tx : ByteArray} {W0 : World} {F0 : List Nat} {W : World} {s : St}
theorem zzo {p : Bool × St} (h : (match s.2.getLast? with | none => none | some t => some (false, (s.1, s.2.dropLast ++ [.mk 0 zj [], t]))) = some p) : ∃ ks t, s = (s.1, ks ++ [t]) ∧ p = (false, (s.1, ks ++ [.mk 0 zj [], t])) := by
 cases hg : s.2.getLast? with
 | none =>
  rw [hg] at h
  cases h
 | some t =>
  rw [hg] at h
  have hd : s.2 = s.2.dropLast ++ [t] := by
   have hne : s.2 ≠ [] := by
    rintro e
    rw [e] at hg
    cases hg
   have h3 := List.dropLast_concat_getLast hne
   rw [List.getLast?_eq_some_getLast hne] at hg
   cases hg
   exact h3.symm
  exact ⟨s.2.dropLast, t, Prod.ext rfl hd, zab h⟩
theorem Now.kidsAt {ks : List Tree} {t : Tree} (N : Now B T tv pb m low kd tx W0 F0 W s) (hs : s = (s.1, ks ++ [t])) :
  ∃ sb scap kg kcap xs hv, W.cell? ⟨pb, 2, none⟩ = some (.slice (some ⟨sb, 0, none⟩) (low.length + 1) scap) ∧ W.cell? ⟨sb, low.length * 3 + 2, none⟩ = some (.slice (some ⟨kg, 0, none⟩) (ks.length + 1) kcap) ∧ (∀ i, W.frozen? ⟨sb, i, none⟩ = false) ∧
   W.ownsRow B 128 3 (.slice (some ⟨kg, 0, none⟩) (ks.length + 1) kcap) (ks.length + 1) (xs ++ [.int .i64 t.kind, .string t.text, hv]) ∧ (∃ A c, hv = .slice A t.kids.length c) ∧
   sb ≠ kg ∧ sb < W.heap.size ∧ kg < W.heap.size ∧ low.length ≤ 10000000 ∧ ks.length ≤ 100000 + m ∧
   ∀ (Wd W1 : World) v1, Below W.heap.size W Wd → W1.ownsRow B 128 3 v1 (ks.length + 2) (xs ++ ([.int .i64 0, .string ⟨#[]⟩, .slice none 0 0] ++ [.int .i64 t.kind, .string t.text, hv])) → Wd.grownBy W1 (some kg) → (v1.ownBlock = some kg ∨ ∃ b, v1.ownBlock = some b ∧ Wd.heap.size ≤ b) →
    Now B T tv pb (m + 1) low kd tx W0 F0 (W1.setCell ⟨sb, low.length * 3 + 2, none⟩ v1) (s.1, ks ++ [.mk 0 zj [], t]) := by
 obtain ⟨F, h1, h2⟩ := N.st
 have e2 : s.2 = ks ++ [t] := congrArg Prod.snd hs
 have hk := N.kids
 have hpo := N.pos
 have hle := N.len
 rw [e2] at h1 hk
 simp only [List.length_append, List.length_singleton] at hk
 obtain ⟨sb, scap, hd, c1, F1, cs, Fs, p1, p2, p3, p4, p5, rfl⟩ := h1.top
 obtain ⟨ca, cb, Fa, Fb, rfl, rfl, k3, k4⟩ := zmb p5
 obtain ⟨hv, rfl, k5⟩ := zmd k4
 rw [List.length_append, List.length_singleton] at p4
 obtain ⟨kg, kcap, rfl, n1, n2, n3, n4, n5, n6⟩ := zdz p4
 obtain ⟨_, _, e1, m1, m2, m3, m4, m5, m6⟩ := zdz p2
 simp only [Value.slice.injEq, Option.some.injEq, Addr.mk.injEq, and_true] at e1
 obtain ⟨rfl, _, rfl⟩ := e1
 have hO : own1 (Value.slice (some ⟨kg, 0, none⟩) (ks.length + 1) kcap) = [kg] := by simp [own1, Value.ownBlock]
 have nd1 := List.nodup_cons.1 h1.nd
 have hks : sb ≠ kg := fun e => nd1.1 (by rw [e, hO]; exact List.mem_append_right _ (List.mem_append_left _ (by simp)))
 have hbd := h1.rowsGe
 refine ⟨sb, scap, kg, kcap, ca, hv, (zf p1 2).trans rfl, m5, m6, p4, (by obtain ⟨_, _, q, _⟩ := k5; exact za3 q), hks, m2, n2, N.low, by omega, fun Wd W1 v1 hbel hown hgr hat => ?_⟩
 have kW : ∀ g, g < W.heap.size → Wd.heap[g]? = W.heap[g]? := hbel.block
 have hTL : TL W B 128 (ks ++ [.mk 0 zj [], t]) (ca ++ ([.int .i64 0, .string ⟨#[]⟩, .slice none 0 0] ++ [.int .i64 t.kind, .string t.text, hv])) (Fa ++ Fb) := by
  refine zeq ks _ ca _ Fa _ k3 ?_
  simp only [TL]
  exact ⟨[.int .i64 0, .string ⟨#[]⟩, .slice none 0 0], [.int .i64 t.kind, .string t.text, hv], [], Fb, rfl, rfl, zmc, [.int .i64 t.kind, .string t.text, hv], [], Fb, [], by simp, by simp, k4, rfl, rfl⟩
 obtain ⟨F', f1, f2⟩ := PS.kids_mem (W := Wd) (W1 := W1) (ks' := ks ++ [.mk 0 zj [], t]) (cs' := ca ++ ([.int .i64 0, .string ⟨#[]⟩, .slice none 0 0] ++ [.int .i64 t.kind, .string t.text, hv])) (v1 := v1) (h1.below hbel) ((kW pb (za8 p1)).trans p1)
  (za7 p2 (fun g hg => kW g (zax p2 g hg).2.1)) (zc1 low c1 F1 p3 (fun g hg => kW g (zfn low c1 F1 p3 g hg).2.1)) (zc1 _ _ _ hTL (fun g hg => kW g (zfn _ _ _ hTL g hg).2.1))
  (by rw [List.length_append]; exact hown) hat hgr.os hgr.tape hgr.output hgr.size (fun g g1 g2 => hgr.block g g1 (fun e => g2 (by rw [e]; rfl)))
 exact ⟨⟨F', f1, h2.trans ((Fr.of_below hbel).trans f2)⟩, hpo, hle, N.low, by simp; omega⟩
end Go.Proofs.YtmoelofaojgjfaaGreatDoor.Par
namespace Go.Proofs.YtmoelofaojgjfaaGreatDoor.Par
open Go.RowKit Go.Proofs.YtmoelofaojgjfaaGreatDoorW.PrintWords Go.Proofs.YtmoelofaojgjfaaGreatDoorW.PrintLast
variable {B : Nat} {T : List Tok} {tv : Value} {pb : Nat} {low : List Tree} {kd : Int} {tx : ByteArray} {W0 : World} {F0 : List Nat}
theorem zxn  {k : Nat}  (ih : ∀ i, i < k → IH B T tv pb i) : Meth B T tv pb k .implS 227 #[.pointer (some ⟨pb, 0, none⟩)] (fun _ => .tuple #[]) := by
 intro m low kd tx W0 F0 W s q hm hlow N hr
 obtain ⟨j, rfl, H, E, G, HL, RUN⟩ := zah N hr hlow
 clear N hr hlow
 go_enter Tryz.func227, Tryz.ntmps227
 go_wp2_with fail
 obtain ⟨p1, e, d⟩ := zu E.out
 have R := ak e
 replace E := ak (d)
 clear e d
 refine (mth (ij ih).typeParams HL H R).mono ?_
 rintro e W2 ⟨rfl, N⟩
 replace H := ak N
 clear N
 go_wp2_with fail
 obtain ⟨p3, e, d⟩ := zu E.out
 have R := ak e
 replace E := ak (d)
 clear e d
 refine (mth (ij ih).typeExpr HL H R).mono ?_
 rintro e W4 ⟨rfl, N⟩
 replace H := ak N
 clear N
 go_wp2_with fail
 obtain ⟨p5, e5, d5⟩ := zu E.out
 have X5 := ak e5
 have Y5 := ak d5
 clear e5 d5 E
 refine (zbm H.out (by omega) [(⟨#[102, 111, 114]⟩ : ByteArray)] (by simp)).mono ?_
 rintro e W7 ⟨rfl, N7⟩
 rcases zac H.out [(⟨#[102, 111, 114]⟩ : ByteArray)] with b6 | b6
 ·rw [zby b6] at N7
  rw [b6]
  replace H := ak N7
  clear N7
  have E := ak (if_t b6 X5.out)
  clear X5 b6
  go_wp2_with fail
  refine (mth (ij ih).typeExpr HL H E).mono ?_
  rintro e W8 ⟨rfl, N⟩
  replace H := ak N
  clear N
  go_wp2_with fail
  obtain ⟨p9, e, d⟩ := zu Y5.out
  have R := ak e
  have E := ak (d)
  clear Y5 e d
  refine (mth (ij ih).members HL H R).mono ?_
  rintro e W10 ⟨rfl, N⟩
  replace H := ak N
  clear N
  go_wp2_with fail
  go_end0
  exact ⟨rfl, (zbb ⟨zaw E.out⟩ G H)⟩
 ·rw [zbz b6] at N7
  rw [b6]
  replace H := ak N7
  clear N7
  have E := ak (if_f b6 X5.out)
  clear X5 b6
  go_wp2_with fail
  obtain ⟨ks, t, hs, hp11⟩ := zzo E.out
  have D11 := ak hp11
  clear hp11 E
  obtain ⟨sb, scap, kg, kcap, xs, hv, o2, o4, hfz, hown, ⟨hvA, hvc, rfl⟩, hsk, hsl, hkl, hlw, hkl2, hkids⟩ := H.out.kidsAt hs
  have HK := ak (And.intro hkids hown)
  have hfz0 := hfz (low.length * 3 + 2)
  have hl1 : IntKind.i64.wrap (((low.length : Nat) : Int) + 1 - 1) = ((low.length : Nat) : Int) := by rw [IntKind.wrap_i64]; omega
  have hl2 : IntKind.i64.wrap (((low.length + 1 : Nat) : Int) - 1) = ((low.length : Nat) : Int) := by rw [IntKind.wrap_i64]; omega
  have hl3 : IntKind.i64.wrap ((low.length : Nat) : Int) = ((low.length : Nat) : Int) := by rw [IntKind.wrap_i64]; omega
  have hk1 : IntKind.i64.wrap (((ks.length : Nat) : Int) + 1 - 1) = ((ks.length : Nat) : Int) := by rw [IntKind.wrap_i64]; omega
  have hk2 : IntKind.i64.wrap (((ks.length + 1 : Nat) : Int) - 1) = ((ks.length : Nat) : Int) := by rw [IntKind.wrap_i64]; omega
  have hk3 : IntKind.i64.wrap ((ks.length : Nat) : Int) = ((ks.length : Nat) : Int) := by rw [IntKind.wrap_i64]; omega
  have i0 : (0 : Int) ≤ ((low.length : Nat) : Int) := by omega
  have i1 : ((low.length : Nat) : Int) < ((low.length + 1 : Nat) : Int) := by omega
  have i2 : ((low.length : Nat) : Int) < ((low.length : Nat) : Int) + 1 := by omega
  clear hs hkids hown hfz
  go_region_held3 (fun w' => w'.cell? ⟨pb, 2, none⟩ = some (.slice (some ⟨sb, 0, none⟩) (low.length + 1) scap)) (go_keep) (fail)
  go_wp2_with fail
  obtain ⟨Wd, hWd⟩ : ∃ Wd, (W7.alloc (Obj.cells #[Value.int IntKind.i64 0, Value.string { data := #[] }, Value.slice none 0 0] 128)).drew = Wd := ⟨_, rfl⟩
  have HB := ak (show Below W7.heap.size W7 Wd by rw [← hWd]; exact zae (zh (Below.refl _ _) _))
  have HV := ak (show Wd.heap[W7.heap.size]? = some (.cells #[.int .i64 0, .string ⟨#[]⟩, .slice none 0 0] 128 (0, 0)) by rw [← hWd]; exact zdp (zaj W7 _))
  have q4 : Wd.cell? ⟨sb, low.length * 3 + 2, none⟩ = some (.slice (some ⟨kg, 0, none⟩) (ks.length + 1) kcap) := (World.cell?_of_block (HB.out.block sb hsl)).trans o4
  have q5 : Wd.frozen? ⟨sb, low.length * 3 + 2, none⟩ = false := (World.frozen?_of_block (HB.out.block sb hsl)).trans hfz0
  rw [hWd]
  clear hWd o2 o4 hfz0
  refine (zni (xs := xs) (a := .int .i64 t.kind) (b := .string t.text) (c := .slice hvA t.kids.length hvc) (za7 HK.out.2 (fun g hg => (HB.out.block g (zax HK.out.2 g hg).2.1))) HV.out (by omega) (by omega) (by intro u hu; simp only [List.mem_cons, List.not_mem_nil, or_false] at hu; rcases hu with rfl | rfl | rfl <;> rfl)).mono ?_
  rintro e W70 ⟨v1, rfl, hown, hg, hat⟩
  have HG := ak (And.intro hown (And.intro hg hat))
  have r0 : W70.cell? ⟨sb, low.length * 3 + 2, none⟩ = some (.slice (some ⟨kg, 0, none⟩) (ks.length + 1) kcap) := (World.cell?_of_block (hg.block sb (by have := HB.out.size; omega) (fun e => hsk (Option.some.inj e)))).trans q4
  have r4 : W70.frozen? ⟨sb, low.length * 3 + 2, none⟩ = false := (World.frozen?_of_block (hg.block sb (by have := HB.out.size; omega) (fun e => hsk (Option.some.inj e)))).trans q5
  obtain ⟨v1A, v1c, rfl⟩ := za3 hown
  clear hown hg hat
  go_wp2_with fail
  obtain ⟨hown, hg, hat⟩ := HG.out
  have N90 := HK.out.1 Wd W70 _ HB.out hown hg hat
  have H90 := ak N90
  generalize W70.setCell ⟨sb, low.length * 3 + 2, none⟩ _ = W90 at H90 ⊢
  clear hown hg hat N90 r0 r4 q4 q5
  go_wp2_with fail
  have hp12 := D11.out
  have E12 := ak (by have h := Y5.out; rw [hp12] at h; exact h)
  clear hp12 D11 Y5
  obtain ⟨p13, e, d⟩ := zu E12.out
  have R := ak e
  have E := ak (d)
  clear E12 e d
  refine (mth (ij ih).members HL H90 R).mono ?_
  rintro e W14 ⟨rfl, N⟩
  have H := ak N
  clear N H90
  go_wp2_with fail
  go_end0
  exact ⟨rfl, (zbb ⟨zaw E.out⟩ G H)⟩
theorem zqq (kind : Int) {k : Nat} {bxp : Nat} {bxk : Nat} (hk1 : 2 ≤ kind) (hk2 : kind ≤ 9) (ih : ∀ i, i < k → IH B T tv pb i) (hb_bxp : Box pb W0 F0 bxp (.pointer (some ⟨pb, 0, none⟩))) (hb_bxk : Box pb W0 F0 bxk (.int .i64 kind)) (hlow : low.length + k ≤ 10000000) : Does B T tv pb (k + 1) (.itemB kind) 147 #[.pointer (some ⟨bxp, 0, none⟩), .pointer (some ⟨bxk, 0, none⟩)] low kd tx W0 F0 := by
 intro i hi m W s q hm N hr
 obtain ⟨j, rfl, H, E, G, HL, RUN⟩ := zah N hr (by omega)
 replace ih : ∀ i, i < j + 1 → IH B T tv pb i := fun i h => ih i (by omega)
 have B_bxp := ak hb_bxp
 have c_bxp := N.box hb_bxp
 have B_bxk := ak hb_bxk
 have c_bxk := N.box hb_bxk
 clear N hr hlow hb_bxp hb_bxk
 go_enter Tryz.func147, Tryz.ntmps147
 go_wp2_with fail
 replace E := ak (zbh E.out)
 refine (zbm H.out (by omega) [(⟨#[112, 117, 98]⟩ : ByteArray)] (by simp)).mono ?_
 rintro e W1 ⟨rfl, N⟩
 replace H := ak N
 replace c_bxp := N.box B_bxp.out
 replace c_bxk := N.box B_bxk.out
 clear N
 go_wp2_with fail
 replace E := ak (zbh E.out)
 refine (zat H.out (by omega)).mono ?_
 rintro e W2 ⟨rfl, N⟩
 replace H := ak N
 replace c_bxp := N.box B_bxp.out
 replace c_bxk := N.box B_bxk.out
 clear N
 go_wp2_with fail
 obtain ⟨p3, e, d⟩ := zu E.out
 have R := ak e
 replace E := ak (d)
 clear e d
 refine (mth ((ij ih).itemBody kind hk1 hk2) HL H R).mono ?_
 rintro e W4 ⟨rfl, N⟩
 replace H := ak N
 replace c_bxp := N.box B_bxp.out
 replace c_bxk := N.box B_bxk.out
 clear N
 go_wp2_with fail
 go_end0
 exact zb2 ⟨zaw E.out⟩ H
end Go.Proofs.YtmoelofaojgjfaaGreatDoor.Par
namespace Go.Proofs.YtmoelofaojgjfaaGreatDoor.Par
open Go.RowKit Go.Proofs.YtmoelofaojgjfaaGreatDoorW.PrintWords Go.Proofs.YtmoelofaojgjfaaGreatDoorW.PrintLast
theorem zqt (x : ByteArray) : ∀ (zs : List ByteArray) (i : Nat), Lib.idxFromS zs x i = match zs.findIdx? (fun z => decide (z = x)) with
  | some k => ((i + k : Nat) : Int)
  | none => -1
 | [], i => by simp [Lib.idxFromS]
 | z :: zs, i => by
  unfold Lib.idxFromS
  rw [List.findIdx?_cons]
  by_cases h : z = x
  ·simp [h]
  ·rw [zqt x zs (i + 1)]
   rw [if_neg h]
   simp only [h, decide_false]
   cases zs.findIdx? (fun z => decide (z = x)) with
   | none => rfl
   | some k =>
    show ((i + 1 + k : Nat) : Int) = ((i + (k + 1) : Nat) : Int)
    congr 1
    omega
def zec : List ByteArray := [(⟨#[117, 115, 101]⟩ : ByteArray), (⟨#[102, 110]⟩ : ByteArray), (⟨#[115, 116, 114, 117, 99, 116]⟩ : ByteArray), (⟨#[101, 110, 117, 109]⟩ : ByteArray), (⟨#[116, 114, 97, 105, 116]⟩ : ByteArray), (⟨#[105, 109, 112, 108]⟩ : ByteArray), (⟨#[99, 111, 110, 115, 116]⟩ : ByteArray), (⟨#[109, 97, 99, 114, 111]⟩ : ByteArray)]
theorem zm5 (x : ByteArray) : zb0 x = match zec.findIdx? (fun z => decide (z = x)) with
  | some i => 2 + (i : Int)
  | none => 0 := rfl
theorem zh2 (x : ByteArray) : zb0 x = 0 ∨ (2 ≤ zb0 x ∧ zb0 x ≤ 9) := by
 rw [zm5]
 cases h : zec.findIdx? (fun z => decide (z = x)) with
 | none => exact .inl rfl
 | some i =>
  have := (List.findIdx?_eq_some_iff_findIdx_eq.1 h).1
  have hl : zec.length = 8 := rfl
  right
  show 2 ≤ 2 + (i : Int) ∧ 2 + (i : Int) ≤ 9
  omega
def zfe : ByteArray := ⟨#[117, 115, 101, 32, 102, 110, 32, 115, 116, 114, 117, 99, 116, 32, 101, 110, 117, 109, 32, 116, 114, 97, 105, 116, 32, 105, 109, 112, 108, 32, 99, 111, 110, 115, 116, 32, 109, 97, 99, 114, 111]⟩
theorem zi8 : (Lib.fields zfe.data.toList).map (fun l => Value.string ⟨l.toArray⟩) = zec.map Value.string := by kernel_rfl
theorem zm4 : (Lib.fields zfe.data.toList).length = 8 := by kernel_rfl
theorem zjz : ∀ (j : Nat) b, zfe.data.toList[j]? = some b → b.toNat < 128 := by
 have h : zfe.data.toList.all (fun b => decide (b.toNat < 128)) = true := by kernel_rfl
 intro j b hb
 exact odt (List.all_eq_true.1 h b (List.mem_of_getElem? hb))
theorem zln : zfe.size < 4294967281 := by
 have : zfe.size = 41 := by kernel_rfl
 omega
theorem zuz {T : List Tok} {r : NT → St → Ans} {s : St} {q : Bool × St} (h : step T r .item s = some q) {n : Nat} (hn : (if atT T s.1 [(⟨#[112, 117, 98]⟩ : ByteArray)] = true then zb1 T s.1 else s.1) = n) {tk : Int} {tt : ByteArray} (h1 : (zal T n).1 = tk) (h2 : (zal T n).2 = tt) :
  ((zb0 tt = 0 ∨ tk ≠ 104) → r .skipToItem s = some q) ∧ (¬ (zb0 tt = 0 ∨ tk ≠ 104) → zbt (zb0 tt) (r (.itemB (zb0 tt))) s = some q) := by
 subst hn h1 h2
 change (if _ then _ else _) = _ at h
 constructor
 ·intro hc
  rwa [if_pos hc] at h
 ·intro hc
  rwa [if_neg hc] at h
theorem zr5 (tx : ByteArray) (W : World) (h : Spc W) : Calls Tryz.prog 144 #[.string tx] W fun e W' => e = .returned (.int .i64 (zb0 tx)) ∧ Below W.heap.size W W' := by
 go_enter Tryz.func144, Tryz.ntmps144
 have H := ak h
 clear h
 go_wp2_with fail
 refine (Tryz.strings_Fields zfe W zln zjz H.out).mono ?_
 rintro e W1 ⟨rfl, rfl⟩
 rw [zi8, zm4]
 go_wp2_with fail
 refine (Tryz.slices_Index_string W.heap.size 0 8 8 zec tx _ (by decide) (by decide) (fun j hj => ?_)).mono ?_
 ·have h1 := zf (zaj W (Obj.cells (zec.map Value.string).toArray 9)) (0 + j)
  refine h1.trans ?_
  rw [Nat.zero_add]
  have : j = 0 ∨ j = 1 ∨ j = 2 ∨ j = 3 ∨ j = 4 ∨ j = 5 ∨ j = 6 ∨ j = 7 := by
   have hl : zec.length = 8 := rfl
   omega
  rcases this with rfl | rfl | rfl | rfl | rfl | rfl | rfl | rfl <;> rfl
 rintro e W2 ⟨rfl, rfl⟩
 have hidx := zqt tx zec 0
 have hk := zm5 tx
 have hft : List.take 8 zec = zec := rfl
 obtain ⟨r, hr⟩ : ∃ r, Hid (Lib.idxOfS (List.take 8 zec) tx = r) := ⟨_, rfl⟩
 rw [show Lib.idxOfS (List.take 8 zec) tx = r from hr]
 have hr2 : r = match zec.findIdx? (fun z => decide (z = tx)) with
  | some k => ((0 + k : Nat) : Int)
  | none => -1 := by rw [← show Lib.idxOfS (List.take 8 zec) tx = r from hr, hft]; exact hidx
 cases hf : zec.findIdx? (fun z => decide (z = tx)) with
 | none =>
  rw [hf] at hr2 hk
  simp only at hr2 hk
  subst hr2
  have HK := ak hk
  clear hidx hk hft hr hf
  go_wp2_with fail
  go_ret
  exact ⟨by rw [HK.out]; rfl, zh (Below.refl _ _) _⟩
 | some i =>
  have hi8 := (List.findIdx?_eq_some_iff_findIdx_eq.1 hf).1
  have hl : zec.length = 8 := rfl
  rw [hf] at hr2 hk
  simp only [Nat.zero_add] at hr2 hk
  subst hr2
  have HK := ak hk
  have n0 : ¬ ((i : Int) < 0) := by omega
  have n1 : decide ((i : Int) < 0) = false := decide_eq_false (by omega)
  have n2 : IntKind.i64.wrap (2 + (i : Int)) = 2 + (i : Int) := by rw [IntKind.wrap_i64]; omega
  clear hidx hk hft hr hf hl hi8
  go_wp2_with fail
  go_ret
  exact ⟨by rw [HK.out]; first | rfl | (congr 2), zh (Below.refl _ _) _⟩
end Go.Proofs.YtmoelofaojgjfaaGreatDoor.Par
namespace Go.Proofs.YtmoelofaojgjfaaGreatDoor.Par
open Go.RowKit Go.Proofs.YtmoelofaojgjfaaGreatDoorW.PrintWords Go.Proofs.YtmoelofaojgjfaaGreatDoorW.PrintLast
variable {B : Nat} {T : List Tok} {tv : Value} {pb : Nat} {m : Nat} {low : List Tree} {kd : Int} {tx : ByteArray} {WB : World} {FB : List Nat} {WC : World} {FC : List Nat} {W : World} {s : St}
theorem Now.enter3 (N : Now B T tv pb m low kd tx WB FB W s) {W1 : World} (h : Below W.heap.size W W1) : ∃ F, Now B T tv pb m low kd tx W1 F W1 s ∧ (∀ b, W.heap.size ≤ b → b < W1.heap.size → zer pb W1 F b) ∧ (∀ b, zer pb WB FB b → zer pb W1 F b ∧ W1.heap[b]? = WB.heap[b]?) ∧ Fr pb FB F WB W1 ∧
  ∀ W' m' low' kd' tx' s', Now B T tv pb m' low' kd' tx' W1 F W' s' → Now B T tv pb m' low' kd' tx' WB FB W' s' := by
 obtain ⟨F, h1, h2⟩ := N.st
 have hpl : pb < W.heap.size := by
  obtain ⟨_, g, _⟩ := h1.obj
  exact za8 g
 refine ⟨F, ⟨⟨F, h1.below h, Fr.refl _ _ _⟩, N.pos, N.len, N.low, N.kids⟩, fun b h3 h4 => ⟨h4, by omega, fun hh => ?_⟩, fun b a => ?_, h2.trans (Fr.of_below h), fun W' m' low' kd' tx' s' N' => ?_⟩
 ·have := (h1.rowsGe b hh).2
  omega
 ·have a2 := N.apart h2 a
  refine ⟨⟨Nat.lt_of_lt_of_le a2.lt h.size, a2.ne, a2.nin⟩, ?_⟩
  rw [h.block b a2.lt]
  exact N.keep a
 ·obtain ⟨F', k1, k2⟩ := N'.st
  exact ⟨⟨F', k1, (h2.trans (Fr.of_below h)).trans k2⟩, N'.pos, N'.len, N'.low, N'.kids⟩
theorem Now.baseLe (N : Now B T tv pb m low kd tx WB FB W s) : B ≤ W.heap.size := by
 obtain ⟨F, h1, _⟩ := N.st
 obtain ⟨_, g, _⟩ := h1.obj
 have := za8 g
 have := h1.ge
 omega
theorem zqo (N : Now B T tv pb m low kd tx WB FB W s) (x : ByteArray) : Calls Tryz.prog 144 #[.string x] W (NowP B T tv pb m low kd tx WB FB (.int .i64 (zb0 x)) s) := by
 obtain ⟨F, h1, h2⟩ := N.st
 refine (zr5 x W h1.spc).mono ?_
 rintro e W' ⟨rfl, hb⟩
 exact ⟨rfl, N.below hb⟩
theorem Now.poke2 (N : Now B T tv pb m low kd tx WC FC W s) {b : Nat} (a : zer pb WC FC b) (hfr : Fr pb FB FC WB WC) (hb : WB.heap.size ≤ b) (hB : B ≤ b) {v0 v1 x y : Value} {t : TypeId} (hc : W.heap[b]? = some (.cells #[x, y] t (0, 0))) :
  ∃ F, Now B T tv pb m low kd tx ((W.setCell ⟨b, 0, none⟩ v0).setCell ⟨b, 1, none⟩ v1) F ((W.setCell ⟨b, 0, none⟩ v0).setCell ⟨b, 1, none⟩ v1) s ∧ Box2 pb ((W.setCell ⟨b, 0, none⟩ v0).setCell ⟨b, 1, none⟩ v1) F b v0 v1 ∧ Old pb WB FB ((W.setCell ⟨b, 0, none⟩ v0).setCell ⟨b, 1, none⟩ v1) F ∧
   ∀ W' m' low' kd' tx' s', Now B T tv pb m' low' kd' tx' ((W.setCell ⟨b, 0, none⟩ v0).setCell ⟨b, 1, none⟩ v1) F W' s' → Now B T tv pb m' low' kd' tx' WB FB W' s' := by
 obtain ⟨F, h1, h2⟩ := N.st
 have a2 := N.apart h2 a
 have hk : ∀ g, g ≠ b → ((W.setCell ⟨b, 0, none⟩ v0).setCell ⟨b, 1, none⟩ v1).heap[g]? = W.heap[g]? := fun g hg => (Below.heap_setCell _ ⟨b, 1, none⟩ v1 g hg).trans (Below.heap_setCell _ ⟨b, 0, none⟩ v0 g hg)
 have hsz : ((W.setCell ⟨b, 0, none⟩ v0).setCell ⟨b, 1, none⟩ v1).heap.size = W.heap.size := by simp [World.setCell]
 have hfrB : Fr pb FB F WB W := hfr.trans h2
 have hfrB' : Fr pb FB F WB ((W.setCell ⟨b, 0, none⟩ v0).setCell ⟨b, 1, none⟩ v1) := ⟨hfrB.os, hfrB.tape, hfrB.output, by rw [hsz]; exact hfrB.size, fun g k1 k2 k3 => (hk g (by omega)).trans (hfrB.kept g k1 k2 k3), hfrB.rows⟩
 have hP : PS 186 128 B T tv pb ((W.setCell ⟨b, 0, none⟩ v0).setCell ⟨b, 1, none⟩ v1) s.1 (low ++ [.mk kd tx s.2]) F := by
  obtain ⟨sv, g1, g2⟩ := h1.obj
  have htk := h1.tokBelow (W' := ((W.setCell ⟨b, 0, none⟩ v0).setCell ⟨b, 1, none⟩ v1)) (G := [b]) (G' := []) ⟨rfl, rfl, rfl, by rw [hsz]; exact Nat.le_refl _, fun g k1 k2 k3 => hk g (by simpa using k3), fun g hg => by cases hg⟩
  refine ⟨⟨sv, (hk pb (fun e => a2.ne e.symm)).trans g1, zeb g2 (fun g hg => hk g (fun e => a2.nin (e ▸ hg)))⟩, h1.nd, h1.pbF, h1.ge, ?_⟩
  exact htk (fun g hg => by simp at hg; omega)
 refine ⟨F, ⟨⟨F, hP, Fr.refl _ _ _⟩, N.pos, N.len, N.low, N.kids⟩, ⟨⟨by rw [hsz]; exact a2.lt, a2.ne, a2.nin⟩, t, ?_⟩, fun b' a' => ?_, fun W' m' low' kd' tx' s' N' => ?_⟩
 ·exact zfm (zfm hc 0 v0 rfl) 1 v1 rfl
 ·have hne : b' ≠ b := by have := a'.lt; omega
  have hlt := Nat.lt_of_lt_of_le a'.lt hfrB.size
  refine ⟨⟨by rw [hsz]; exact hlt, a'.ne, fun hh => ?_⟩, ?_⟩
  ·rcases hfrB.rows b' hh with k | k
   ·exact a'.nin k
   ·have := a'.lt
    omega
  ·rw [hk b' hne]
   exact hfrB.kept b' a'.lt a'.ne a'.nin
 ·obtain ⟨F', k1, k2⟩ := N'.st
  exact ⟨⟨F', k1, hfrB'.trans k2⟩, N'.pos, N'.len, N'.low, N'.kids⟩
end Go.Proofs.YtmoelofaojgjfaaGreatDoor.Par
namespace Go.Proofs.YtmoelofaojgjfaaGreatDoor.Par
open Go.RowKit Go.Proofs.YtmoelofaojgjfaaGreatDoorW.PrintWords Go.Proofs.YtmoelofaojgjfaaGreatDoorW.PrintLast
variable {B : Nat} {T : List Tok} {tv : Value} {pb : Nat} {low : List Tree} {kd : Int} {tx : ByteArray} {W0 : World} {F0 : List Nat}
theorem zzi  {k : Nat}  (ih : ∀ i, i < k → IH B T tv pb i) : Meth B T tv pb k .item 97 #[.pointer (some ⟨pb, 0, none⟩)] (fun _ => .tuple #[]) := by
 intro m low kd tx W0 F0 W s q hm hlow N hr
 obtain ⟨j, rfl, H, E, G, HL, RUN⟩ := zah N hr hlow
 clear N hr hlow
 go_enter Tryz.func97, Tryz.ntmps97
 go_wp2_with fail
 obtain ⟨WB, FB, hWB, hsz, BK, B_bxp, HN, c_bxp⟩ := zeo H (.pointer (some ⟨pb, 0, none⟩)) 184
 rw [hWB]
 try rw [hsz]
 clear hsz hWB H
 refine (zii HN.out).mono ?_
 rintro e W1 ⟨rfl, N1⟩
 obtain ⟨tk, htk⟩ : ∃ tk, Hid ((zal T s.1).1 = tk) := ⟨_, rfl⟩
 obtain ⟨tt, htt⟩ : ∃ tt, Hid ((zal T s.1).2 = tt) := ⟨_, rfl⟩
 rw [show (zal T s.1).1 = tk from htk, show (zal T s.1).2 = tt from htt]
 have HTK := ak (show (zal T s.1).1 = tk from htk)
 have HTT := ak (show (zal T s.1).2 = tt from htt)
 have H1 := ak N1
 have NBLE := ak N1.baseLe
 have NBSZ := ak N1.size
 have c1_bxp := N1.box B_bxp.out
 clear htk htt N1 HN c_bxp
 have ca := fun o => (World.cell?_alloc_some W1 ⟨W.heap.size, 0, none⟩ o (by rw [c1_bxp]; rfl)).trans c1_bxp
 go_wp2_with fail
 obtain ⟨WB2, hWB2⟩ : ∃ WB2, (W1.alloc (.cells #[.int .i64 tk, .string tt] 154)) = WB2 := ⟨_, rfl⟩
 have hbl2 : Below W1.heap.size W1 WB2 := by rw [← hWB2]; exact (zh (Below.refl _ _) _)
 have hx2 : WB2.heap[W1.heap.size]? = some (.cells #[.int .i64 tk, .string tt] 154 (0, 0)) := by rw [← hWB2]; exact zaj W1 _
 obtain ⟨FB2, NB2, hnew2, old2, fr2, hback2⟩ := H1.out.enter3 hbl2
 have FR := ak fr2
 clear fr2
 have BK2 := ak hback2
 have B2_bxp := ak (B_bxp.out.old old2)
 have B2_bxt := ak (show Box2 pb WB2 FB2 W1.heap.size (.int .i64 tk) (.string tt) from ⟨hnew2 _ (Nat.le_refl _) (za8 hx2), _, hx2⟩)
 have H2 := ak NB2
 have c2_bxp := NB2.box B2_bxp.out
 obtain ⟨c2_bxt0, c2_bxt1⟩ := NB2.box2 B2_bxt.out
 have hsz2 : W1.heap.size + 1 = WB2.heap.size := by rw [← hWB2]; simp only [World.size_alloc]
 rw [hWB2]
 try rw [hsz2]
 clear hsz2 hWB2 hbl2 hnew2 old2 hback2 hx2 NB2 H1 c1_bxp ca
 rcases zac H2.out [(⟨#[112, 117, 98]⟩ : ByteArray)] with b3 | b3
 ·refine (zbk H2.out [(⟨#[112, 117, 98]⟩ : ByteArray)] (by simp)).mono ?_
  rintro e W4 ⟨rfl, N4⟩
  rw [b3]
  have H4 := ak N4
  have c4_bxp := N4.box B2_bxp.out
  obtain ⟨c4_bxt0, c4_bxt1⟩ := N4.box2 B2_bxt.out
  clear N4 H2 c2_bxp c2_bxt0 c2_bxt1
  have HN := ak (show (if atT T s.1 [(⟨#[112, 117, 98]⟩ : ByteArray)] = true then zb1 T s.1 else s.1) = zb1 T s.1 by rw [if_pos b3])
  clear b3
  go_wp2_with fail
  refine (zew H4.out).mono ?_
  rintro e W5 ⟨qb5, rfl, N5, L5⟩
  have H5 := ak (And.intro N5 L5)
  have c5_bxp := N5.box B2_bxp.out
  obtain ⟨c5_bxt0, c5_bxt1⟩ := N5.box2 B2_bxt.out
  clear N5 L5 H4 c4_bxp c4_bxt0 c4_bxt1
  go_wp2_with fail
  refine (ztt H5.out.1 H5.out.2).mono ?_
  rintro e W6 ⟨rfl, N6⟩
  obtain ⟨tk2, htk⟩ : ∃ tk, Hid ((zal T (zb1 T s.1)).1 = tk) := ⟨_, rfl⟩
  obtain ⟨tt2, htt⟩ : ∃ tt, Hid ((zal T (zb1 T s.1)).2 = tt) := ⟨_, rfl⟩
  rw [show (zal T (zb1 T s.1)).1 = tk2 from htk, show (zal T (zb1 T s.1)).2 = tt2 from htt]
  have HTK2 := ak (show (zal T (zb1 T s.1)).1 = tk2 from htk)
  have HTT2 := ak (show (zal T (zb1 T s.1)).2 = tt2 from htt)
  obtain ⟨ty, hc5⟩ : ∃ t, W6.heap[W1.heap.size]? = some (.cells #[.int .i64 tk, .string tt] t (0, 0)) := by obtain ⟨t, h⟩ := B2_bxt.out.cell; exact ⟨t, (N6.keep B2_bxt.out.apart).trans h⟩
  obtain ⟨F6, P1, P2, P3, P4⟩ := N6.poke2 B2_bxt.out.apart FR.out (by have := NBSZ.out; exact this) NBLE.out (v0 := .int .i64 tk2) (v1 := .string tt2) hc5
  have HP6 := ak (And.intro P1 (And.intro P2 (And.intro P3 P4)))
  have z0 := zl hc5 0
  have z1 := zl hc5 1
  have c6_bxp := N6.box B2_bxp.out
  obtain ⟨c6_bxt0, c6_bxt1⟩ := N6.box2 B2_bxt.out
  clear htk htt P1 P2 P3 P4 hc5 N6 H5 c5_bxp c5_bxt0 c5_bxt1
  go_wp2_with fail
  obtain ⟨W60, hW60⟩ : ∃ W60, (W6.setCell ⟨W1.heap.size, 0, none⟩ (.int .i64 tk2)).setCell ⟨W1.heap.size, 1, none⟩ (.string tt2) = W60 := ⟨_, rfl⟩
  obtain ⟨P1, P2, P3, P4⟩ := HP6.out
  rw [hW60] at P1 P2 P3 P4 ⊢
  have H60 := ak P1
  have B60_bxt := ak P2
  have B60_bxp := ak (B_bxp.out.old P3)
  have BK60 := ak P4
  have c60_bxp := P1.box B60_bxp.out
  obtain ⟨c60_bxt0, c60_bxt1⟩ := P1.box2 B60_bxt.out
  clear P1 P2 P3 P4 hW60 HP6 z0 z1 c6_bxp c6_bxt0 c6_bxt1
  refine (zqo H60.out tt2).mono ?_
  rintro e W7 ⟨rfl, N7⟩
  obtain ⟨kv, hkv⟩ : ∃ kv, Hid (zb0 tt2 = kv) := ⟨_, rfl⟩
  rw [show zb0 tt2 = kv from hkv]
  have HKV := ak (show zb0 tt2 = kv from hkv)
  have hrg := zh2 tt2
  rw [show zb0 tt2 = kv from hkv] at hrg
  have HI := ak (zuz E.out (n := (zb1 T s.1)) HN.out HTK2.out HTT2.out)
  have H7 := ak N7
  have c7_bxp := N7.box B60_bxp.out
  obtain ⟨c7_bxt0, c7_bxt1⟩ := N7.box2 B60_bxt.out
  clear hkv N7 H60 c60_bxp c60_bxt0 c60_bxt1
  have ca_c7_bxp := fun o => (World.cell?_alloc_some W7 ⟨W.heap.size, 0, none⟩ o (by rw [c7_bxp]; rfl)).trans c7_bxp
  have ca_c7_bxt0 := fun o => (World.cell?_alloc_some W7 ⟨W1.heap.size, 0, none⟩ o (by rw [c7_bxt0]; rfl)).trans c7_bxt0
  have ca_c7_bxt1 := fun o => (World.cell?_alloc_some W7 ⟨W1.heap.size, 1, none⟩ o (by rw [c7_bxt1]; rfl)).trans c7_bxt1
  by_cases hk0 : kv = 0
  ·subst hk0
   go_wp2_with fail
   refine ((ih j (by omega)).skipToItem _ _ _ _ _ _ _ _ _ (by omega) (by have := HL.out; omega) (H7.out.below (zh (Below.refl _ _) _)) (HI.out.1 (.inl HKV.out))).mono ?_
   rintro e W8 ⟨rfl, N8⟩
   have H8 := ak N8
   clear N8
   go_wp2_with fail
   go_end0
   exact ⟨rfl, (BK.out _ _ _ _ _ _ (BK60.out _ _ _ _ _ _ H8.out))⟩
  ·have fk0 : (kv == 0) = false := beq_eq_false_iff_ne.2 hk0
   have HK12 := ak (show 2 ≤ kv ∧ kv ≤ 9 by rcases hrg with h | h; exact absurd h hk0; exact h)
   have HK0 := ak hk0
   clear hrg hk0
   by_cases ht4 : tk2 = 104
   ·subst ht4
    go_wp2_with fail
    have EN := ak (HI.out.2 (by rintro (h | h); exact HK0.out (HKV.out ▸ h); exact h rfl))
    have EM := ak (by have h := EN.out; rw [HKV.out] at h; exact h)
    clear EN
    obtain ⟨WB9, FB9, hWB, hsz, BK9, O9, X9, H⟩ := zi5 H7 #[.int .i64 kv] 3
    have B_bxp := ak (B60_bxp.out.old O9.out)
    have B_bxt := ak (B60_bxt.out.old O9.out)
    have B_bxk := ak (show Box pb WB9 FB9 W7.heap.size (.int .i64 kv) from ⟨X9.out.1, _, X9.out.2⟩)
    have c_bxp := H.out.box B_bxp.out
    obtain ⟨c_bxt0, c_bxt1⟩ := H.out.box2 B_bxt.out
    have c_bxk := H.out.box B_bxk.out
    clear c7_bxp c7_bxt0 c7_bxt1 ca_c7_bxp ca_c7_bxt0 ca_c7_bxt1 H7
    rw [hWB]
    try rw [hsz]
    clear hsz hWB O9 X9
    obtain ⟨p10, e, d⟩ := zai EM.out
    have R10 := ak e
    have D10 := ak d
    clear e d EM
    refine (zba H HL #[] #[.pointer (some ⟨W.heap.size, 0, none⟩), .pointer (some ⟨W7.heap.size, 0, none⟩)] zn4 R10 fun W1 F1 NN old => (zqq kv (hk1 := HK12.out.1) (hk2 := HK12.out.2) (dn ih) (B_bxp.out.old old) (B_bxk.out.old old) (hla HL)).at NN R10).mono ?_
    rintro e W11 ⟨rfl, N⟩
    replace H := ak N
    replace c_bxp := N.box B_bxp.out
    clear c_bxt0 c_bxt1
    obtain ⟨c_bxt0, c_bxt1⟩ := N.box2 B_bxt.out
    replace c_bxk := N.box B_bxk.out
    clear N
    go_wp2_with fail
    go_end0
    exact ⟨rfl, (BK.out _ _ _ _ _ _ (BK60.out _ _ _ _ _ _ (BK9.out _ _ _ _ _ _ (zbb D10 G H))))⟩
   ·have f4 : (tk2 == 104) = false := beq_eq_false_iff_ne.2 ht4
    have f5 : (tk2 != 104) = true := by rw [bne, f4]; rfl
    have HT4 := ak ht4
    clear ht4
    go_wp2_with fail
    refine ((ih j (by omega)).skipToItem _ _ _ _ _ _ _ _ _ (by omega) (by have := HL.out; omega) (H7.out.below (zh (Below.refl _ _) _)) (HI.out.1 (.inr HT4.out))).mono ?_
    rintro e W12 ⟨rfl, N12⟩
    have H12 := ak N12
    clear N12
    go_wp2_with fail
    go_end0
    exact ⟨rfl, (BK.out _ _ _ _ _ _ (BK60.out _ _ _ _ _ _ H12.out))⟩
 ·refine (zbk H2.out [(⟨#[112, 117, 98]⟩ : ByteArray)] (by simp)).mono ?_
  rintro e W13 ⟨rfl, N13⟩
  rw [b3]
  have H13 := ak N13
  have c13_bxp := N13.box B2_bxp.out
  obtain ⟨c13_bxt0, c13_bxt1⟩ := N13.box2 B2_bxt.out
  clear N13 H2 c2_bxp c2_bxt0 c2_bxt1
  have HN := ak (show (if atT T s.1 [(⟨#[112, 117, 98]⟩ : ByteArray)] = true then zb1 T s.1 else s.1) = s.1 by rw [if_neg (by rw [b3]; simp)])
  clear b3
  go_wp2_with fail
  refine (zqo H13.out tt).mono ?_
  rintro e W14 ⟨rfl, N14⟩
  obtain ⟨kv, hkv⟩ : ∃ kv, Hid (zb0 tt = kv) := ⟨_, rfl⟩
  rw [show zb0 tt = kv from hkv]
  have HKV := ak (show zb0 tt = kv from hkv)
  have hrg := zh2 tt
  rw [show zb0 tt = kv from hkv] at hrg
  have HI := ak (zuz E.out (n := s.1) HN.out HTK.out HTT.out)
  have H14 := ak N14
  have c14_bxp := N14.box B2_bxp.out
  obtain ⟨c14_bxt0, c14_bxt1⟩ := N14.box2 B2_bxt.out
  clear hkv N14 H13 c13_bxp c13_bxt0 c13_bxt1
  have ca_c14_bxp := fun o => (World.cell?_alloc_some W14 ⟨W.heap.size, 0, none⟩ o (by rw [c14_bxp]; rfl)).trans c14_bxp
  have ca_c14_bxt0 := fun o => (World.cell?_alloc_some W14 ⟨W1.heap.size, 0, none⟩ o (by rw [c14_bxt0]; rfl)).trans c14_bxt0
  have ca_c14_bxt1 := fun o => (World.cell?_alloc_some W14 ⟨W1.heap.size, 1, none⟩ o (by rw [c14_bxt1]; rfl)).trans c14_bxt1
  by_cases hk0 : kv = 0
  ·subst hk0
   go_wp2_with fail
   refine ((ih j (by omega)).skipToItem _ _ _ _ _ _ _ _ _ (by omega) (by have := HL.out; omega) (H14.out.below (zh (Below.refl _ _) _)) (HI.out.1 (.inl HKV.out))).mono ?_
   rintro e W15 ⟨rfl, N15⟩
   have H15 := ak N15
   clear N15
   go_wp2_with fail
   go_end0
   exact ⟨rfl, (BK.out _ _ _ _ _ _ (BK2.out _ _ _ _ _ _ H15.out))⟩
  ·have fk0 : (kv == 0) = false := beq_eq_false_iff_ne.2 hk0
   have HK12 := ak (show 2 ≤ kv ∧ kv ≤ 9 by rcases hrg with h | h; exact absurd h hk0; exact h)
   have HK0 := ak hk0
   clear hrg hk0
   by_cases ht4 : tk = 104
   ·subst ht4
    go_wp2_with fail
    have EN := ak (HI.out.2 (by rintro (h | h); exact HK0.out (HKV.out ▸ h); exact h rfl))
    have EM := ak (by have h := EN.out; rw [HKV.out] at h; exact h)
    clear EN
    obtain ⟨WB16, FB16, hWB, hsz, BK16, O16, X16, H⟩ := zi5 H14 #[.int .i64 kv] 3
    have B_bxp := ak (B2_bxp.out.old O16.out)
    have B_bxt := ak (B2_bxt.out.old O16.out)
    have B_bxk := ak (show Box pb WB16 FB16 W14.heap.size (.int .i64 kv) from ⟨X16.out.1, _, X16.out.2⟩)
    have c_bxp := H.out.box B_bxp.out
    obtain ⟨c_bxt0, c_bxt1⟩ := H.out.box2 B_bxt.out
    have c_bxk := H.out.box B_bxk.out
    clear c14_bxp c14_bxt0 c14_bxt1 ca_c14_bxp ca_c14_bxt0 ca_c14_bxt1 H14
    rw [hWB]
    try rw [hsz]
    clear hsz hWB O16 X16
    obtain ⟨p17, e, d⟩ := zai EM.out
    have R17 := ak e
    have D17 := ak d
    clear e d EM
    refine (zba H HL #[] #[.pointer (some ⟨W.heap.size, 0, none⟩), .pointer (some ⟨W14.heap.size, 0, none⟩)] zn4 R17 fun W1 F1 NN old => (zqq kv (hk1 := HK12.out.1) (hk2 := HK12.out.2) (dn ih) (B_bxp.out.old old) (B_bxk.out.old old) (hla HL)).at NN R17).mono ?_
    rintro e W18 ⟨rfl, N⟩
    replace H := ak N
    replace c_bxp := N.box B_bxp.out
    clear c_bxt0 c_bxt1
    obtain ⟨c_bxt0, c_bxt1⟩ := N.box2 B_bxt.out
    replace c_bxk := N.box B_bxk.out
    clear N
    go_wp2_with fail
    go_end0
    exact ⟨rfl, (BK.out _ _ _ _ _ _ (BK2.out _ _ _ _ _ _ (BK16.out _ _ _ _ _ _ (zbb D17 G H))))⟩
   ·have f4 : (tk == 104) = false := beq_eq_false_iff_ne.2 ht4
    have f5 : (tk != 104) = true := by rw [bne, f4]; rfl
    have HT4 := ak ht4
    clear ht4
    go_wp2_with fail
    refine ((ih j (by omega)).skipToItem _ _ _ _ _ _ _ _ _ (by omega) (by have := HL.out; omega) (H14.out.below (zh (Below.refl _ _) _)) (HI.out.1 (.inr HT4.out))).mono ?_
    rintro e W19 ⟨rfl, N19⟩
    have H19 := ak N19
    clear N19
    go_wp2_with fail
    go_end0
    exact ⟨rfl, (BK.out _ _ _ _ _ _ (BK2.out _ _ _ _ _ _ H19.out))⟩
theorem znh  {k : Nat}  (ih : ∀ i, i < k → IH B T tv pb i) : Meth B T tv pb k (.itemBody 2) 150 #[.pointer (some ⟨pb, 0, none⟩), .int .i64 2] (fun _ => .tuple #[]) := by
 intro m low kd tx W0 F0 W s q hm hlow N hr
 obtain ⟨j, rfl, H, E, G, HL, RUN⟩ := zah N hr hlow
 clear N hr hlow
 go_enter Tryz.func150, Tryz.ntmps150
 go_wp2_with fail
 refine (mth (ij ih).useS HL H E).mono ?_
 rintro e W1 ⟨rfl, N⟩
 replace H := ak N
 clear N
 go_wp2_with fail
 go_end0
 exact ⟨rfl, H.out⟩
theorem zng  {k : Nat}  (ih : ∀ i, i < k → IH B T tv pb i) : Meth B T tv pb k (.itemBody 3) 150 #[.pointer (some ⟨pb, 0, none⟩), .int .i64 3] (fun _ => .tuple #[]) := by
 intro m low kd tx W0 F0 W s q hm hlow N hr
 obtain ⟨j, rfl, H, E, G, HL, RUN⟩ := zah N hr hlow
 clear N hr hlow
 go_enter Tryz.func150, Tryz.ntmps150
 go_wp2_with fail
 refine (mth ((ij ih).function true) HL H E).mono ?_
 rintro e W1 ⟨rfl, N⟩
 replace H := ak N
 clear N
 go_wp2_with fail
 go_end0
 exact ⟨rfl, H.out⟩
theorem znf  {k : Nat}  (ih : ∀ i, i < k → IH B T tv pb i) : Meth B T tv pb k (.itemBody 4) 150 #[.pointer (some ⟨pb, 0, none⟩), .int .i64 4] (fun _ => .tuple #[]) := by
 intro m low kd tx W0 F0 W s q hm hlow N hr
 obtain ⟨j, rfl, H, E, G, HL, RUN⟩ := zah N hr hlow
 clear N hr hlow
 go_enter Tryz.func150, Tryz.ntmps150
 go_wp2_with fail
 refine (mth ((ij ih).dataType 4 (.inl rfl)) HL H E).mono ?_
 rintro e W1 ⟨rfl, N⟩
 replace H := ak N
 clear N
 go_wp2_with fail
 go_end0
 exact ⟨rfl, H.out⟩
theorem zne  {k : Nat}  (ih : ∀ i, i < k → IH B T tv pb i) : Meth B T tv pb k (.itemBody 5) 150 #[.pointer (some ⟨pb, 0, none⟩), .int .i64 5] (fun _ => .tuple #[]) := by
 intro m low kd tx W0 F0 W s q hm hlow N hr
 obtain ⟨j, rfl, H, E, G, HL, RUN⟩ := zah N hr hlow
 clear N hr hlow
 go_enter Tryz.func150, Tryz.ntmps150
 go_wp2_with fail
 refine (mth ((ij ih).dataType 5 (.inr rfl)) HL H E).mono ?_
 rintro e W1 ⟨rfl, N⟩
 replace H := ak N
 clear N
 go_wp2_with fail
 go_end0
 exact ⟨rfl, H.out⟩
theorem znd  {k : Nat}  (ih : ∀ i, i < k → IH B T tv pb i) : Meth B T tv pb k (.itemBody 6) 150 #[.pointer (some ⟨pb, 0, none⟩), .int .i64 6] (fun _ => .tuple #[]) := by
 intro m low kd tx W0 F0 W s q hm hlow N hr
 obtain ⟨j, rfl, H, E, G, HL, RUN⟩ := zah N hr hlow
 clear N hr hlow
 go_enter Tryz.func150, Tryz.ntmps150
 go_wp2_with fail
 replace E := ak (zbh E.out)
 refine (zbl H.out (by omega)).mono ?_
 rintro e W1 ⟨rfl, N⟩
 replace H := ak N
 clear N
 go_wp2_with fail
 obtain ⟨p2, e, d⟩ := zu E.out
 have R := ak e
 replace E := ak (d)
 clear e d
 refine (mth (ij ih).members HL H R).mono ?_
 rintro e W3 ⟨rfl, N⟩
 replace H := ak N
 clear N
 go_wp2_with fail
 go_end0
 exact ⟨rfl, (zbb ⟨zaw E.out⟩ G H)⟩
theorem znc  {k : Nat}  (ih : ∀ i, i < k → IH B T tv pb i) : Meth B T tv pb k (.itemBody 7) 150 #[.pointer (some ⟨pb, 0, none⟩), .int .i64 7] (fun _ => .tuple #[]) := by
 intro m low kd tx W0 F0 W s q hm hlow N hr
 obtain ⟨j, rfl, H, E, G, HL, RUN⟩ := zah N hr hlow
 clear N hr hlow
 go_enter Tryz.func150, Tryz.ntmps150
 go_wp2_with fail
 refine (mth (ij ih).implS HL H E).mono ?_
 rintro e W1 ⟨rfl, N⟩
 replace H := ak N
 clear N
 go_wp2_with fail
 go_end0
 exact ⟨rfl, H.out⟩
theorem znb  {k : Nat}  (ih : ∀ i, i < k → IH B T tv pb i) : Meth B T tv pb k (.itemBody 8) 150 #[.pointer (some ⟨pb, 0, none⟩), .int .i64 8] (fun _ => .tuple #[]) := by
 intro m low kd tx W0 F0 W s q hm hlow N hr
 obtain ⟨j, rfl, H, E, G, HL, RUN⟩ := zah N hr hlow
 clear N hr hlow
 go_enter Tryz.func150, Tryz.ntmps150
 go_wp2_with fail
 replace E := ak (zbh E.out)
 refine (zbl H.out (by omega)).mono ?_
 rintro e W1 ⟨rfl, N⟩
 replace H := ak N
 clear N
 go_wp2_with fail
 replace E := ak (zbh E.out)
 refine (zag H.out (by omega) (⟨#[58]⟩ : ByteArray)).mono ?_
 rintro e W2 ⟨rfl, N⟩
 replace H := ak N
 clear N
 go_wp2_with fail
 obtain ⟨p3, e, d⟩ := zu E.out
 have R := ak e
 replace E := ak (d)
 clear e d
 refine (mth (ij ih).typeExpr HL H R).mono ?_
 rintro e W4 ⟨rfl, N⟩
 replace H := ak N
 clear N
 go_wp2_with fail
 replace E := ak (zbh E.out)
 refine (zag H.out (by omega) (⟨#[61]⟩ : ByteArray)).mono ?_
 rintro e W5 ⟨rfl, N⟩
 replace H := ak N
 clear N
 go_wp2_with fail
 obtain ⟨p6, e, d⟩ := zu E.out
 have R := ak e
 replace E := ak (d)
 clear e d
 refine (mth (ij ih).expr HL H R).mono ?_
 rintro e W7 ⟨rfl, N⟩
 replace H := ak N
 clear N
 go_wp2_with fail
 replace E := ak (zbh E.out)
 refine (zag H.out (by omega) (⟨#[59]⟩ : ByteArray)).mono ?_
 rintro e W8 ⟨rfl, N⟩
 replace H := ak N
 clear N
 go_wp2_with fail
 go_end0
 exact ⟨rfl, (zbb ⟨zaw E.out⟩ G H)⟩
theorem zna  {k : Nat}  (ih : ∀ i, i < k → IH B T tv pb i) : Meth B T tv pb k (.itemBody 9) 150 #[.pointer (some ⟨pb, 0, none⟩), .int .i64 9] (fun _ => .tuple #[]) := by
 intro m low kd tx W0 F0 W s q hm hlow N hr
 obtain ⟨j, rfl, H, E, G, HL, RUN⟩ := zah N hr hlow
 clear N hr hlow
 go_enter Tryz.func150, Tryz.ntmps150
 go_wp2_with fail
 replace E := ak (zbh E.out)
 refine (zbl H.out (by omega)).mono ?_
 rintro e W1 ⟨rfl, N⟩
 replace H := ak N
 clear N
 go_wp2_with fail
 replace E := ak (zbh E.out)
 refine (zag H.out (by omega) (⟨#[40]⟩ : ByteArray)).mono ?_
 rintro e W2 ⟨rfl, N⟩
 replace H := ak N
 clear N
 go_wp2_with fail
 obtain ⟨p3, e, d⟩ := zu E.out
 have R := ak e
 replace E := ak (d)
 clear e d
 refine (mth ((ij ih).params (⟨#[41]⟩ : ByteArray)) HL H R).mono ?_
 rintro e W4 ⟨rfl, N⟩
 replace H := ak N
 clear N
 go_wp2_with fail
 replace E := ak (zbh E.out)
 refine (zag H.out (by omega) (⟨#[61]⟩ : ByteArray)).mono ?_
 rintro e W5 ⟨rfl, N⟩
 replace H := ak N
 clear N
 go_wp2_with fail
 obtain ⟨p6, e, d⟩ := zu E.out
 have R := ak e
 replace E := ak (d)
 clear e d
 refine (mth (ij ih).expr HL H R).mono ?_
 rintro e W7 ⟨rfl, N⟩
 replace H := ak N
 clear N
 go_wp2_with fail
 replace E := ak (zbh E.out)
 refine (zag H.out (by omega) (⟨#[59]⟩ : ByteArray)).mono ?_
 rintro e W8 ⟨rfl, N⟩
 replace H := ak N
 clear N
 go_wp2_with fail
 go_end0
 exact ⟨rfl, (zbb ⟨zaw E.out⟩ G H)⟩
theorem zvi  {k : Nat}   (ih : ∀ i, i < k → IH B T tv pb i)  (hlow : low.length + k ≤ 10000000) : Does B T tv pb (k + 1) .emptyB 379 #[] low kd tx W0 F0 := by
 intro i hi m W s q hm N hr
 obtain ⟨j, rfl, H, E, G, HL, RUN⟩ := zah N hr (by omega)
 replace ih : ∀ i, i < j + 1 → IH B T tv pb i := fun i h => ih i (by omega)
 clear N hr hlow
 go_enter Tryz.func379, Tryz.ntmps379
 go_wp2_with fail
 go_end0
 exact zb2 ⟨zab E.out⟩ H
theorem zus  {k : Nat}  (ih : ∀ i, i < k → IH B T tv pb i) : Meth B T tv pb k .lambda 363 #[.pointer (some ⟨pb, 0, none⟩)] (fun _ => .tuple #[]) := by
 intro m low kd tx W0 F0 W s q hm hlow N hr
 obtain ⟨j, rfl, H, E, G, HL, RUN⟩ := zah N hr hlow
 clear N hr hlow
 go_enter Tryz.func363, Tryz.ntmps363
 go_wp2_with fail
 refine (zbk H.out [(⟨#[124, 124]⟩ : ByteArray)] (by simp)).mono ?_
 rintro e W2 ⟨rfl, N2⟩
 rcases zac H.out [(⟨#[124, 124]⟩ : ByteArray)] with b1 | b1
 ·rw [b1]
  replace H := ak N2
  clear N2
  replace E := ak (if_t b1 E.out)
  clear b1
  go_wp2_with fail
  replace E := ak (zbh E.out)
  refine (zat H.out (by omega)).mono ?_
  rintro e W3 ⟨rfl, N⟩
  replace H := ak N
  clear N
  go_wp2_with fail
  obtain ⟨p4, e, d⟩ := zu E.out
  have X4 := ak e
  replace E := ak (d)
  clear e d
  obtain ⟨p5, e, d⟩ := zai X4.out
  have R5 := ak e
  have D5 := ak d
  clear e d X4
  refine (zba H HL #[] #[] zpx R5 fun W1 F1 NN old => (zvi  (dn ih)  (hla HL)).at NN R5).mono ?_
  rintro e W6 ⟨rfl, N⟩
  replace H := ak N
  clear N
  go_wp2_with fail
  have E5a := E.out
  rw [D5.out] at E5a
  replace E := ak (E5a)
  clear E5a
  obtain ⟨p7, e, d⟩ := zu E.out
  have R := ak e
  replace E := ak (d)
  clear e d
  refine (mth (ij ih).expr HL H R).mono ?_
  rintro e W8 ⟨rfl, N⟩
  replace H := ak N
  clear N
  go_wp2_with fail
  go_end0
  exact ⟨rfl, (zbb ⟨zaw E.out⟩ G H)⟩
 ·rw [b1]
  replace H := ak N2
  clear N2
  replace E := ak (if_f b1 E.out)
  clear b1
  go_wp2_with fail
  replace E := ak (zbh E.out)
  refine (zat H.out (by omega)).mono ?_
  rintro e W9 ⟨rfl, N⟩
  replace H := ak N
  clear N
  go_wp2_with fail
  obtain ⟨p10, e, d⟩ := zu E.out
  have R := ak e
  replace E := ak (d)
  clear e d
  refine (mth ((ij ih).params (⟨#[124]⟩ : ByteArray)) HL H R).mono ?_
  rintro e W11 ⟨rfl, N⟩
  replace H := ak N
  clear N
  go_wp2_with fail
  obtain ⟨p12, e, d⟩ := zu E.out
  have R := ak e
  replace E := ak (d)
  clear e d
  refine (mth (ij ih).expr HL H R).mono ?_
  rintro e W13 ⟨rfl, N⟩
  replace H := ak N
  clear N
  go_wp2_with fail
  go_end0
  exact ⟨rfl, (zbb ⟨zaw E.out⟩ G H)⟩
theorem zze  {k : Nat}  (ih : ∀ i, i < k → IH B T tv pb i) : Meth B T tv pb k .letS 341 #[.pointer (some ⟨pb, 0, none⟩)] (fun _ => .tuple #[]) := by
 intro m low kd tx W0 F0 W s q hm hlow N hr
 obtain ⟨j, rfl, H, E, G, HL, RUN⟩ := zah N hr hlow
 clear N hr hlow
 go_enter Tryz.func341, Tryz.ntmps341
 go_wp2_with fail
 replace E := ak (zbh E.out)
 refine (zat H.out (by omega)).mono ?_
 rintro e W1 ⟨rfl, N⟩
 replace H := ak N
 clear N
 go_wp2_with fail
 obtain ⟨p2, e, d⟩ := zu E.out
 have R := ak e
 replace E := ak (d)
 clear e d
 refine (mth (ij ih).pattern HL H R).mono ?_
 rintro e W3 ⟨rfl, N⟩
 replace H := ak N
 clear N
 go_wp2_with fail
 obtain ⟨p4, e, d⟩ := zu E.out
 have R := ak e
 replace E := ak (d)
 clear e d
 refine (zgi 229 #[.pointer (some ⟨pb, 0, none⟩)] #[] zco (Meth.does (k := j) (fun i hi => (ih i (by omega)).typeExpr) (by have := HL.out; omega) (Nat.le_refl _)) H.out R.out).mono ?_
 rintro e W5 ⟨rfl, N⟩
 replace H := ak N
 clear N
 go_wp2_with fail
 replace E := ak (zbh E.out)
 refine (zag H.out (by omega) (⟨#[61]⟩ : ByteArray)).mono ?_
 rintro e W6 ⟨rfl, N⟩
 replace H := ak N
 clear N
 go_wp2_with fail
 obtain ⟨p7, e, d⟩ := zu E.out
 have R := ak e
 replace E := ak (d)
 clear e d
 refine (mth (ij ih).expr HL H R).mono ?_
 rintro e W8 ⟨rfl, N⟩
 replace H := ak N
 clear N
 go_wp2_with fail
 replace E := ak (zbh E.out)
 refine (zag H.out (by omega) (⟨#[59]⟩ : ByteArray)).mono ?_
 rintro e W9 ⟨rfl, N⟩
 replace H := ak N
 clear N
 go_wp2_with fail
 go_end0
 exact ⟨rfl, (zbb ⟨zaw E.out⟩ G H)⟩
theorem zz8  {k : Nat} {bxp : Nat}  (ih : ∀ i, i < k → IH B T tv pb i) (hb_bxp : Box pb W0 F0 bxp (.pointer (some ⟨pb, 0, none⟩))) (hlow : low.length + k ≤ 10000000) : Does B T tv pb (k + 1) .armB 376 #[.pointer (some ⟨bxp, 0, none⟩)] low kd tx W0 F0 := by
 intro i hi m W s q hm N hr
 obtain ⟨j, rfl, H, E, G, HL, RUN⟩ := zah N hr (by omega)
 replace ih : ∀ i, i < j + 1 → IH B T tv pb i := fun i h => ih i (by omega)
 have B_bxp := ak hb_bxp
 have c_bxp := N.box hb_bxp
 clear N hr hlow hb_bxp
 go_enter Tryz.func376, Tryz.ntmps376
 go_wp2_with fail
 obtain ⟨p1, e, d⟩ := zu E.out
 have R := ak e
 replace E := ak (d)
 clear e d
 refine (mth (ij ih).pattern HL H R).mono ?_
 rintro e W2 ⟨rfl, N⟩
 replace H := ak N
 replace c_bxp := N.box B_bxp.out
 clear N
 go_wp2_with fail
 replace E := ak (zbh E.out)
 refine (zag H.out (by omega) (⟨#[61, 62]⟩ : ByteArray)).mono ?_
 rintro e W3 ⟨rfl, N⟩
 replace H := ak N
 replace c_bxp := N.box B_bxp.out
 clear N
 go_wp2_with fail
 obtain ⟨p4, e, d⟩ := zu E.out
 have R := ak e
 replace E := ak (d)
 clear e d
 refine (mth (ij ih).expr HL H R).mono ?_
 rintro e W5 ⟨rfl, N⟩
 replace H := ak N
 replace c_bxp := N.box B_bxp.out
 clear N
 go_wp2_with fail
 go_end0
 exact zb2 ⟨zaw E.out⟩ H
end Go.Proofs.YtmoelofaojgjfaaGreatDoor.Par
namespace Go.Proofs.YtmoelofaojgjfaaGreatDoor.Par
open Go.RowKit Go.Proofs.YtmoelofaojgjfaaGreatDoorW.PrintWords Go.Proofs.YtmoelofaojgjfaaGreatDoorW.PrintLast
variable {B : Nat} {T : List Tok} {tv : Value} {pb : Nat} {m : Nat} {low : List Tree} {kd : Int} {tx : ByteArray} {W0 : World} {F0 : List Nat} {W : World} {s : St}
theorem zvz (N : Now B T tv pb m low kd tx W0 F0 W s) : Calls Tryz.prog 375 #[.pointer (some ⟨pb, 0, none⟩)] W (NowP B T tv pb m low kd tx W0 F0 (.bool (patT T s.1)) s) := by
 have H0 := ak N
 have hu98 := Tryz.underlying154
 clear N
 go_enter Tryz.func375, Tryz.ntmps375
 go_wp2_with fail
 refine (za4 H0.out).mono ?_
 rintro e W1 ⟨rfl, N1⟩
 have H1 := ak N1
 clear N1
 rcases zbv H1.out with hid | hid
 ·rw [hid]
  have HI := ak hid
  clear hid
  go_wp2_with fail
  go_ret
  exact ⟨by unfold patT; rw [HI.out]; rfl, H1.out⟩
 ·rw [hid]
  have HI := ak hid
  clear hid
  go_wp2_with fail
  refine (zii H1.out).mono ?_
  rintro e W2 ⟨rfl, N2⟩
  obtain ⟨tk, htk⟩ : ∃ tk, Hid ((zal T s.1).1 = tk) := ⟨_, rfl⟩
  obtain ⟨tt, htt⟩ : ∃ tt, Hid ((zal T s.1).2 = tt) := ⟨_, rfl⟩
  rw [show (zal T s.1).1 = tk from htk, show (zal T s.1).2 = tt from htt]
  have HTK := ak (show (zal T s.1).1 = tk from htk)
  have H2 := ak N2
  clear N2 htk htt
  have hfd := zpr tk tt
  by_cases k1 : tk = 105
  ·subst k1
   go_wp2_with fail
   go_ret
   exact ⟨by unfold patT; rw [HI.out, HTK.out]; rfl, H2.out⟩
  ·have f1 : (tk == 105) = false := beq_eq_false_iff_ne.2 k1
   have K1 := ak k1
   clear k1
   go_wp2_with fail
   refine (zbk H2.out [(⟨#[116, 114, 117, 101]⟩ : ByteArray), (⟨#[102, 97, 108, 115, 101]⟩ : ByteArray), (⟨#[109, 117, 116]⟩ : ByteArray)] (by simp)).mono ?_
   rintro e W3 ⟨rfl, N3⟩
   have H3 := ak N3
   clear N3
   have HP := ak (show patT T s.1 = atT T s.1 [(⟨#[116, 114, 117, 101]⟩ : ByteArray), (⟨#[102, 97, 108, 115, 101]⟩ : ByteArray), (⟨#[109, 117, 116]⟩ : ByteArray)] by unfold patT; rw [HI.out, decide_eq_false (by rw [HTK.out]; exact K1.out)]; rfl)
   rw [← HP.out]
   rcases zmy H3.out with hpt | hpt <;> rw [hpt] <;> have HPT := ak hpt <;> clear hpt
   ·go_wp2_with fail
    go_ret
    exact ⟨by rw [HPT.out]; rfl, H3.out⟩
   ·go_wp2_with fail
    go_ret
    exact ⟨by rw [HPT.out]; rfl, H3.out⟩
end Go.Proofs.YtmoelofaojgjfaaGreatDoor.Par
namespace Go.Proofs.YtmoelofaojgjfaaGreatDoor.Par
open Go.RowKit Go.Proofs.YtmoelofaojgjfaaGreatDoorW.PrintWords Go.Proofs.YtmoelofaojgjfaaGreatDoorW.PrintLast
variable {B : Nat} {T : List Tok} {tv : Value} {pb : Nat} {low : List Tree} {kd : Int} {tx : ByteArray} {W0 : World} {F0 : List Nat}
theorem zz6  {k : Nat} {bxp : Nat}  (ih : ∀ i, i < k → IH B T tv pb i) (hb_bxp : Box pb W0 F0 bxp (.pointer (some ⟨pb, 0, none⟩))) (hlow : low.length + k ≤ 10000000) : Does B T tv pb (k + 1) .armE 374 #[.pointer (some ⟨bxp, 0, none⟩)] low kd tx W0 F0 := by
 intro i hi m W s q hm N hr
 obtain ⟨j, rfl, H, E, G, HL, RUN⟩ := zah N hr (by omega)
 replace ih : ∀ i, i < j + 1 → IH B T tv pb i := fun i h => ih i (by omega)
 have B_bxp := ak hb_bxp
 have c_bxp := N.box hb_bxp
 clear N hr hlow hb_bxp
 go_enter Tryz.func374, Tryz.ntmps374
 go_wp2_with fail
 refine (zvz H.out).mono ?_
 rintro e W2 ⟨rfl, N2⟩
 rcases zmy H.out with b1 | b1
 ·rw [b1]
  replace H := ak N2
  replace c_bxp := N2.box B_bxp.out
  clear N2
  replace E := ak (if_t b1 E.out)
  clear b1
  go_wp2_with fail
  obtain ⟨p3, e, d⟩ := zai E.out
  have R3 := ak e
  have D3 := ak d
  clear e d E
  refine (zba H HL #[] #[.pointer (some ⟨bxp, 0, none⟩)] zn3 R3 fun W1 F1 NN old => (zz8  (dn ih) (B_bxp.out.old old) (hla HL)).at NN R3).mono ?_
  rintro e W4 ⟨rfl, N⟩
  replace H := ak N
  replace c_bxp := N.box B_bxp.out
  clear N
  go_wp2_with fail
  go_end0
  exact zb2 D3 H
 ·rw [b1]
  replace H := ak N2
  replace c_bxp := N2.box B_bxp.out
  clear N2
  replace E := ak (if_f b1 E.out)
  clear b1
  go_wp2_with fail
  go_end0
  exact zb2 ⟨zab E.out⟩ H
theorem zun  {k : Nat}  (ih : ∀ i, i < k → IH B T tv pb i) : Meth B T tv pb k .matchS 361 #[.pointer (some ⟨pb, 0, none⟩)] (fun _ => .tuple #[]) := by
 intro m low kd tx W0 F0 W s q hm hlow N hr
 obtain ⟨j, rfl, H, E, G, HL, RUN⟩ := zah N hr hlow
 clear N hr hlow
 go_enter Tryz.func361, Tryz.ntmps361
 go_wp2_with fail
 obtain ⟨WB, FB, hWB, hsz, BK, B_bxp, HN, c_bxp⟩ := zeo H (.pointer (some ⟨pb, 0, none⟩)) 184
 rw [hWB]
 try rw [hsz]
 clear hsz hWB H
 replace E := ak (zbh E.out)
 refine (zat HN.out (by omega)).mono ?_
 rintro e W1 ⟨rfl, N⟩
 have H := ak N
 replace c_bxp := N.box B_bxp.out
 clear N HN
 go_wp2_with fail
 obtain ⟨p2, e, d⟩ := zu E.out
 have R := ak e
 replace E := ak (d)
 clear e d
 refine (mth (ij ih).expr HL H R).mono ?_
 rintro e W3 ⟨rfl, N⟩
 replace H := ak N
 replace c_bxp := N.box B_bxp.out
 clear N
 go_wp2_with fail
 replace E := ak (zbh E.out)
 refine (zag H.out (by omega) (⟨#[123]⟩ : ByteArray)).mono ?_
 rintro e W4 ⟨rfl, N⟩
 replace H := ak N
 replace c_bxp := N.box B_bxp.out
 clear N
 go_wp2_with fail
 obtain ⟨p5, e, d⟩ := zu E.out
 have R := ak e
 replace E := ak (d)
 clear e d
 refine (zdm 374 #[] #[.pointer (some ⟨W.heap.size, 0, none⟩)] zsk (by have := HL.out; omega) ((zz6  (dn ih) B_bxp.out (hl_ HL)).mono (by omega)) H.out R.out).mono ?_
 rintro e W6 ⟨rfl, N⟩
 replace H := ak N
 replace c_bxp := N.box B_bxp.out
 clear N
 go_wp2_with fail
 go_end0
 exact ⟨rfl, (BK.out _ _ _ _ _ _ (zbb ⟨zaw E.out⟩ G H))⟩
theorem zry  {k : Nat} {bxp : Nat}  (ih : ∀ i, i < k → IH B T tv pb i) (hb_bxp : Box pb W0 F0 bxp (.pointer (some ⟨pb, 0, none⟩))) (hlow : low.length + k ≤ 10000000) : Does B T tv pb (k + 1) .methodB 282 #[.pointer (some ⟨bxp, 0, none⟩)] low kd tx W0 F0 := by
 intro i hi m W s q hm N hr
 obtain ⟨j, rfl, H, E, G, HL, RUN⟩ := zah N hr (by omega)
 replace ih : ∀ i, i < j + 1 → IH B T tv pb i := fun i h => ih i (by omega)
 have B_bxp := ak hb_bxp
 have c_bxp := N.box hb_bxp
 clear N hr hlow hb_bxp
 go_enter Tryz.func282, Tryz.ntmps282
 go_wp2_with fail
 replace E := ak (zbh E.out)
 refine (zat H.out (by omega)).mono ?_
 rintro e W1 ⟨rfl, N⟩
 replace H := ak N
 replace c_bxp := N.box B_bxp.out
 clear N
 go_wp2_with fail
 obtain ⟨p2, e, d⟩ := zu E.out
 have R := ak e
 replace E := ak (d)
 clear e d
 refine (mth ((ij ih).function false) HL H R).mono ?_
 rintro e W3 ⟨rfl, N⟩
 replace H := ak N
 replace c_bxp := N.box B_bxp.out
 clear N
 go_wp2_with fail
 go_end0
 exact zb2 ⟨zaw E.out⟩ H
end Go.Proofs.YtmoelofaojgjfaaGreatDoor.Par
