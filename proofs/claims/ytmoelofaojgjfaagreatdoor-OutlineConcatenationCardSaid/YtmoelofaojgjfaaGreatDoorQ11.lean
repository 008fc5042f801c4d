/- Packed texts, part 11: contracts and plain lemmas towards outlineConcatenation_holds. -/
import Derived.Test.YtmoelofaojgjfaaGreatDoorQ10
import Derived.Test.YtmoelofaojgjfaaGreatDoorRows
import Derived.Test.YtmoelofaojgjfaaGreatDoorCards
import Derived.Test.YtmoelofaojgjfaaGreatDoorTie
import Derived.WalkKit
import Derived.ProofKit
import Derived.OpenShut
import Derived.ShutString
import Derived.ChangeOld
import Derived.Below
import Derived.SizedLaws
import Derived.LaidMore
import Derived.Stop.Joined
import Derived.Stop.LaidErr
import Derived.Lib.LaidTab
import Derived.SevenTiedAt
set_option maxHeartbeats 8000000
set_option maxRecDepth 1000000
set_option linter.unusedVariables false
set_option linter.unusedSimpArgs false
namespace Go.Proofs.YtmoelofaojgjfaaGreatDoor.outlineConcatenation
open Go.ChangeShapes Go.WideShapes Go.ChangeAt Go.RowKit Go.Proofs.YtmoelofaojgjfaaGreatDoorW.PrintWords Go.Proofs.YtmoelofaojgjfaaGreatDoor.PA
open Go.ChangeMaps (open_string shut_string)
theorem own : ownKnob Tryz.prog.godebug = none := by kernel_rfl
theorem zzf : laidOutB Tryz.prog = true := by kernel_rfl
def zr2 : List (String × DataW Unit) := [("math/bits.deBruijn32tab", Rows.laid_math_bits_deBruijn32tab), ("math/bits.deBruijn64tab", Rows.laid_math_bits_deBruijn64tab), ("internal/strconv.uint64pow10", Rows.laid_internal_strconv_uint64pow10), ("strconv.ErrRange", Rows.laid_strconv_ErrRange), ("strconv.ErrSyntax", Rows.laid_strconv_ErrSyntax), ("unicode.White_Space", Rows.laid_unicode_White_Space), ("strings.asciiSpace", Rows.laid_strings_asciiSpace)]
theorem zxx (os : Os) (args : Array Value) : laidMetH Tryz.prog zr2 ((World.doorLaid Tryz.prog 86 os).forCall (fun _ _ => 0) ⟨#[], args, []⟩).memory :=
 laidMetH_of_parts3 (fuel := 8) (laidMet_of_run' 8 (by kernel_rfl) (by kernel_rfl)) (by kernel_rfl) (by kernel_rfl)
theorem star : "*" ++ "errors.errorString" = "*errors.errorString" := by decide
theorem zx9 (u : TypeId) (h : Tryz.prog.typeName? 3 u = some "*errors.errorString") : u = 363 :=
 typeName_ptr_named (nm := "errors.errorString") (by rw [star]; kernel_rfl) (by kernel_rfl) (by decide) u (by rw [star]; exact h)
theorem zsd {W : World} (h : laidMetH Tryz.prog zr2 W) : Par.Gw W := by
 rw [MakeChecks.laidMetH_plain _ _ _ (by kernel_rfl)] at h
 have hL : laidMet Tryz.prog zr2 W := h
 clear h
 obtain ⟨a0, s0, hv0, _⟩ := laid_sentinel (g := 4) (ti := 121) (tp := 363) (te := 365) (ts := 9) (hL.tail.tail.tail) (by kernel_rfl) (by kernel_rfl) Tryz.underlying121 zx9 Tryz.underlying363 Tryz.underlying365 rfl rfl Tryz.underlying9 (by kernel_rfl) (by kernel_rfl)
 obtain ⟨a1, s1, hv1, _⟩ := laid_sentinel (g := 3) (ti := 121) (tp := 363) (te := 365) (ts := 9) (hL.tail.tail.tail.tail) (by kernel_rfl) (by kernel_rfl) Tryz.underlying121 zx9 Tryz.underlying363 Tryz.underlying365 rfl rfl Tryz.underlying9 (by kernel_rfl) (by kernel_rfl)
 have c0 := World.var?_cell (show Tryz.prog.globalNamed "strconv.ErrRange" = some 4 by kernel_rfl) hv0 0
 have c1 := World.var?_cell (show Tryz.prog.globalNamed "strconv.ErrSyntax" = some 3 by kernel_rfl) hv1 0
 replace c0 : W.cell? ⟨4, 0, none⟩ = some (.iface 363 (.pointer (some a0))) := by simpa using c0
 replace c1 : W.cell? ⟨3, 0, none⟩ = some (.iface 363 (.pointer (some a1))) := by simpa using c1
 exact ⟨Lib.tabIs_of_head (g := 1) (t := 300) (e := 5) (by kernel_rfl) (by kernel_rfl) Tryz.underlying300 Tryz.underlying5 (by kernel_rfl) (by kernel_rfl) (hL.tail.tail.tail.tail.tail.tail), ⟨⟨_, _, c0⟩, ⟨_, _, c1⟩, World.block_lt_of_cell? W _ c0, World.block_lt_of_cell? W _ c1⟩⟩
theorem lifted (os : Os) (started : os.Started) (H : Type) (enc : TypeId × Value → H) :
  ReturnsInHanded {} Tryz.checked os 3 .any (fun w args => (Rows.outlineConcatenationSpec.pre enc Tryz.prog Tryz.f3 [] false w args ∧ laidMetH Tryz.prog zr2 w) ∧ sizedMet enc Tryz.prog Tryz.f3 (OpenSpec.ofChange Rows.outlineConcatenationSpec) false w args) (Rows.outlineConcatenationSpec.post enc Tryz.prog Tryz.f3 false true false false) := by
 refine returnsInHanded_of_change_and (C := Tryz.checked) (X := fun w _ => laidMetH Tryz.prog zr2 w) (fun _ _ _ hh h => h.of_heap hh) own started (by kernel_rfl) Tryz.func3
  (ChangeSpec.witness_shaped (enc := enc) (C := Tryz.checked) (os := os) (X := fun w _ => laidMetH Tryz.prog zr2 w) false (World.doorLaid Tryz.prog 86 os) #[.string ByteArray.empty, .string ByteArray.empty] 8 rfl (World.shaped_of_RefB (by kernel_rfl) (by kernel_rfl)) (by kernel_rfl) (by kernel_rfl) (by kernel_rfl) (zxx os _)) ?_
 intro W base args ds gs before hval0 hW hcnd hsz0 hL _
 have hsz : (DataW.weightsEach Tryz.prog (Tryz.f3.params.toList ++ Rows.outlineConcatenationSpec.plain.varTypes Tryz.prog) (ds ++ gs)).all (· ≤ reachBytes) = true := hsz0
 have hval : ∀ (j : Nat) t v, Tryz.f3.params[j]? = some t → args[j]? = some v → Value.okWide Tryz.prog W .any base t v := hval0
 have hW' := hW
 obtain ⟨p, q, hA0, hV, rfl, hfz, hnd⟩ := hW
 have hA : DataW.TrodAll enc Tryz.prog W 0 (fun _ => true) true Tryz.f3.params.toList args.toList ds p := hA0
 rw [Tryz.params3] at hA hval hsz
 obtain ⟨v0, vs0, d0, ds0, p0, q0, hargs, rfl, rfl, h0, r0⟩ := trodAll_cons hA
 obtain ⟨v1, vs1, d1, ds1, p1, q1, rfl, rfl, rfl, h1, r1⟩ := trodAll_cons r0
 obtain ⟨rfl, rfl, rfl⟩ := trodAll_nil r1
 obtain rfl : args = #[v0, v1] := by cases args; simp_all
 obtain ⟨rfl, rfl⟩ := trodVars_none hV
 obtain ⟨a0, rfl, rfl, rfl, y0⟩ := open_string Tryz.underlying9 (hval 0 9 v0 rfl rfl) h0
 have w0 : a0.size ≤ 140737488351232 := by
  have z := sized_string hsz (j := 0) (t := 9) rfl rfl
  rw [Array.length_toList] at z
  exact z
 obtain ⟨a1, rfl, rfl, rfl, y1⟩ := open_string Tryz.underlying9 (hval 1 9 v1 rfl rfl) h1
 have w1 : a1.size ≤ 140737488351232 := by
  have z := sized_string hsz (j := 1) (t := 9) rfl rfl
  rw [Array.length_toList] at z
  exact z
 clear hA0 hval0 hsz0 hsz
 refine (Par.ze8 a0 a1 w0 w1 W (zsd hL)).mono fun e W' ⟨he, bel⟩ => ?_
 subst he
 exact ⟨_, rfl, _, _, _, [], _, [], hW', trodAll_mk1 (shut_bool Tryz.underlying4 _), (trodAll_cons_mk (shut_string Tryz.underlying9 y0) (trodAll_cons_mk (shut_string Tryz.underlying9 y1) trodAll_mk0)), rfl, bel.frame _, fun h => by cases h⟩
theorem band {a b : Bool} (h : a = true) (k : b = true) : (a && b) = true := by rw [h, k]; rfl
theorem q0 : (Rows.outlineConcatenationRow.wf (OpenSpec.ofChange Rows.outlineConcatenationSpec)) = true := by kernel_rfl
theorem q1 : (mapsRowed Tryz.prog) = true := by kernel_rfl
theorem q2 : (Rows.outlineConcatenationRow.inPlace == Tryz.prog.inPlace 3) = true := by kernel_rfl
theorem q3 : (Rows.outlineConcatenationRow.unfollowed == Tryz.prog.unfollowed 3) = true := by kernel_rfl
theorem q4 : (Rows.outlineConcatenationRow.recurses == Tryz.prog.recurses 3) = true := by kernel_rfl
theorem q5 : (Rows.outlineConcatenationRow.named == Tryz.prog.varsNamed 3) = true := by kernel_rfl
theorem q6 : (Tryz.prog.stopsHeard) = true := by kernel_rfl
theorem q7 : (Tryz.prog.mayEnter) = true := by kernel_rfl
theorem q8 : (Rows.outlineConcatenationRow.lifted == Tryz.prog.liftsFinal) = true := by kernel_rfl
theorem q9 : (Tryz.prog.make == some Rows.outlineConcatenationRow.make) = true := by kernel_rfl
theorem q10 : (Rows.outlineConcatenationRow.plainKeys == Tryz.prog.plainKeys) = true := by kernel_rfl
theorem z1f : joinedFacts Tryz.prog 3 Tryz.f3 Rows.outlineConcatenationSpec Rows.outlineConcatenationRow = true := by
 unfold joinedFacts
 repeat' (with_reducible refine band ?_ ?_)
 all_goals first
  | (with_reducible exact zzf)
  | (with_reducible exact q0)
  | (with_reducible exact q1)
  | (with_reducible exact q2)
  | (with_reducible exact q3)
  | (with_reducible exact q4)
  | (with_reducible exact q5)
  | (with_reducible exact q6)
  | (with_reducible exact q7)
  | (with_reducible exact q8)
  | (with_reducible exact q9)
  | (with_reducible exact q10)
  | kernel_rfl
theorem named : Tryz.prog.funcNamed Rows.outlineConcatenationRow.func = some 3 := by kernel_rfl
theorem over : Rows.outlineConcatenationRow.holds Tryz.pinned (OpenSpec.ofChange Rows.outlineConcatenationSpec) :=
 OpenClaim.holds_of_wide 3 Tryz.f3 rfl rfl rfl rfl rfl rfl rfl ⟨rfl, rfl, rfl, rfl, rfl⟩ rfl rfl rfl rfl rfl named Tryz.func3 z1f
  (odt (by kernel_rfl)) (by unfold Func.isWrapper; first | (rw [if_pos (by decide +kernel)]; kernel_rfl) | (rw [if_neg (by decide +kernel)]; exact ⟨rfl, rfl⟩))
  (fun os started H enc _ => lifted os started H enc)
theorem k0 : Rows.outlineConcatenationRow.wfByText (OpenSpec.ofChange Rows.outlineConcatenationSpec) = true := by kernel_rfl
theorem k1 : Tryz.prog.mainIs = some (((true, "ad094bdc0434c35dbf97df11c8f94dcea20a0701750466039d085e06667e5027") : Bool × String).1, ((true, "ad094bdc0434c35dbf97df11c8f94dcea20a0701750466039d085e06667e5027") : Bool × String).2.toList) := by kernel_rfl
theorem k2 : true = Tryz.prog.looks [] := by kernel_rfl
theorem k3 : false = Rows.outlineConcatenationRow.goesBy Tryz.prog := by kernel_rfl
theorem k4 : ([9, 9].all fun u => !Tryz.prog.wantsStandIn u) = true := by kernel_rfl
theorem card : Rows.OutlineConcatenationCardSaid :=
 Claim7.holds_tied_plain_at .later [] [.data, .data, .data, .sentinel, .sentinel, .listed, .data] true (true, "ad094bdc0434c35dbf97df11c8f94dcea20a0701750466039d085e06667e5027") true
  over (fun _ h => by cases h) k0 (fun _ h => by cases h) outlineConcatenation_row_tie rfl ⟨rfl, rfl⟩ k1 rfl
  (fun f fn hf hfn => by
   obtain rfl : f = 3 := Option.some.inj (named.symm.trans hf) |>.symm
   obtain rfl : fn = Tryz.f3 := (Option.some.inj (Tryz.func3.symm.trans hfn)).symm
   exact ⟨k2, fun j t ht => by
    rw [Tryz.params3] at ht
    have hm : t ∈ [9, 9] := by simpa using Array.mem_of_getElem? ht
    exact (show Tryz.prog.wantsStandIn t = false by simpa using List.all_eq_true.1 k4 t hm)⟩)
  k3
end Go.Proofs.YtmoelofaojgjfaaGreatDoor.outlineConcatenation
namespace Go.Proofs.YtmoelofaojgjfaaGreatDoor
theorem outlineConcatenation_holds : Rows.OutlineConcatenationCardSaid := outlineConcatenation.card
end Go.Proofs.YtmoelofaojgjfaaGreatDoor
