/- TexteditTransformDisjoint: the row, out of the plain law and of the walked function. Conditions: none but those of the form (each string and slice within the reach). -/
import Derived.Test.YtlhaeonjobcdbaaRows
import Derived.Test.YtlhaeonjobcdbaaWOpening
import Derived.Test.YtlhaeonjobcdbaaTextTD
import Derived.WalkKit
import Derived.ProofKit
import Derived.OpenShut
import Derived.ShutString
import Derived.ChangeOld
import Derived.Below
import Derived.SizedLaws
namespace Go.Proofs.Ytlhaeonjobcdbaa.texteditTransformDisjoint
open Go.ChangeShapes Go.WideShapes Go.ChangeAt Go.RowKit Go.Proofs.YtlhaeonjobcdbaaW.PrintWords Go.Proofs.YtlhaeonjobcdbaaW.Opening Go.Proofs.Ytlhaeonjobcdbaa.PA
open Go.ChangeMaps (open_string shut_string)
set_option linter.unusedVariables false
theorem own : ownKnob Try.prog.godebug = none := by kernel_rfl
theorem laidOut : laidOutB Try.prog = true := by kernel_rfl
set_option maxRecDepth 100000 in
theorem lifted (os : Os) (started : os.Started) (H : Type) (enc : TypeId × Value → H) :
    ReturnsInHanded {} Try.checked os 9 .any (Rows.texteditTransformDisjointSpec.pre6 enc Try.prog Try.f9 Rows.texteditTransformDisjointRow.domain false) (Rows.texteditTransformDisjointSpec.post enc Try.prog Try.f9 false true false false) := by
  refine returnsInHanded_of_change_sized (C := Try.checked) own started (by kernel_rfl) Try.func9
    (ChangeSpec.witness6 (enc := enc) (C := Try.checked) false ⟨#[], #[.string ByteArray.empty, .slice none 0 0, .slice none 0 0], []⟩ 8 (by kernel_rfl) (by kernel_rfl) (by kernel_rfl) (by kernel_rfl)) ?_
  intro W base args ds gs before hval0 hW hcnd hsz0 _
  have hsz : (DataW.weightsEach Try.prog (Try.f9.params.toList ++ Rows.texteditTransformDisjointSpec.plain.varTypes Try.prog) (ds ++ gs)).all (· ≤ reachBytes) = true := hsz0
  have hval : ∀ (j : Nat) t v, Try.f9.params[j]? = some t → args[j]? = some v → Value.okWide Try.prog W .any base t v := hval0
  have hW' := hW
  obtain ⟨p, q, hA0, hV, rfl, hfz, hnd⟩ := hW
  have hA : DataW.TrodAll enc Try.prog W 0 (fun _ => true) true Try.f9.params.toList args.toList ds p := hA0
  rw [Try.params9] at hA hval hsz
  obtain ⟨v0, vs0, d0, ds0, p0, q0, hargs, rfl, rfl, h0, r0⟩ := trodAll_cons hA
  obtain ⟨v1, vs1, d1, ds1, p1, q1, rfl, rfl, rfl, h1, r1⟩ := trodAll_cons r0
  obtain ⟨v2, vs2, d2, ds2, p2, q2, rfl, rfl, rfl, h2, r2⟩ := trodAll_cons r1
  obtain ⟨rfl, rfl, rfl⟩ := trodAll_nil r2
  obtain rfl : args = #[v0, v1, v2] := by cases args; simp_all
  obtain ⟨rfl, rfl⟩ := trodVars_none hV
  obtain ⟨a0, rfl, rfl, rfl, y0⟩ := open_string Try.underlying9 (hval 0 9 v0 rfl rfl) h0
  have w0 : a0.size ≤ 140737488351232 := by
    have z := sized_string hsz (j := 0) (t := 9) rfl rfl
    rw [Array.length_toList] at z
    exact z
  obtain ⟨a1, len1, cap1, rfl⟩ := okWide_slice Try.underlying22 (hval 1 22 v1 rfl rfl)
  have k1 := h1
  have lt1 : ∀ x ∈ p1, x.block < W.heap.size := by obtain ⟨m, hm⟩ := k1; exact DataW.trod_lt m _ _ _ hm
  obtain ⟨l1, rfl, c1, hC1, y1, hB1⟩ := open_arg (d := k43) (Opn.struct (d := (Kd.pair (Kd.int .i64) (Kd.pair (Kd.int .i64) Kd.string))) Try.underlying43 (f := fun x : S43 => (x.f0, x.f1, x.f2)) (fun x => (⟨x.1, x.2.1, x.2.2⟩ : S43)) (fun _ => rfl) (OpnF.cons (Opn.int Try.underlying3 (by kernel_rfl)) rfl (OpnF.cons (Opn.int Try.underlying3 (by kernel_rfl)) rfl (OpnF.one (Opn.string Try.underlying9 (by kernel_rfl)) rfl) rfl) rfl) (by kernel_rfl)) Try.underlying22 hsz (j := 1) (t := 22) rfl rfl h1
  obtain ⟨a2, len2, cap2, rfl⟩ := okWide_slice Try.underlying22 (hval 2 22 v2 rfl rfl)
  have k2 := h2
  have lt2 : ∀ x ∈ p2, x.block < W.heap.size := by obtain ⟨m, hm⟩ := k2; exact DataW.trod_lt m _ _ _ hm
  obtain ⟨l2, rfl, c2, hC2, y2, hB2⟩ := open_arg (d := k43) (Opn.struct (d := (Kd.pair (Kd.int .i64) (Kd.pair (Kd.int .i64) Kd.string))) Try.underlying43 (f := fun x : S43 => (x.f0, x.f1, x.f2)) (fun x => (⟨x.1, x.2.1, x.2.2⟩ : S43)) (fun _ => rfl) (OpnF.cons (Opn.int Try.underlying3 (by kernel_rfl)) rfl (OpnF.cons (Opn.int Try.underlying3 (by kernel_rfl)) rfl (OpnF.one (Opn.string Try.underlying9 (by kernel_rfl)) rfl) rfl) rfl) (by kernel_rfl)) Try.underlying22 hsz (j := 2) (t := 22) rfl rfl h2
  clear hA0 hval0 hsz0 hsz
  obtain ⟨k, hk⟩ := TexteditTransformDisjoint_pure a0 l1 l2 w0 (by rw [show Try.prog.bytesOf 43 = 32 from by kernel_rfl] at y1; exact y1) hB1 (by rw [show Try.prog.bytesOf 43 = 32 from by kernel_rfl] at y2; exact y2) hB2
  refine (glossatorkeep4_TexteditTransformDisjoint.calls k a0 _ _ l1 _ _ l2 true W hC1 c1 hC2 c2 hk).mono fun e W' ⟨he, bel0⟩ => ?_
  have bel : Below W.heap.size W W' := bel0
  subst he
  exact ⟨_, rfl, _, _, _, [], _, [], hW', trodAll_mk1 (shut_bool Try.underlying4 _), (trodAll_cons_mk (shut_string Try.underlying9 y0) (trodAll_cons_mk (Below.trod laidOut (by kernel_rfl) (of_decide_eq_true (by kernel_rfl)) k1 bel lt1) (trodAll_cons_mk (Below.trod laidOut (by kernel_rfl) (of_decide_eq_true (by kernel_rfl)) k2 bel lt2) trodAll_mk0))), rfl, bel.frame _, fun h => by cases h⟩
theorem over : Rows.texteditTransformDisjointRow.holds Try.pinned (OpenSpec.ofChange Rows.texteditTransformDisjointSpec) :=
  OpenClaim.holds_of_wide 9 Try.f9 rfl rfl rfl rfl rfl rfl rfl ⟨rfl, rfl, rfl, rfl, rfl⟩ rfl rfl rfl rfl rfl (by kernel_rfl) Try.func9 (by kernel_rfl)
    (of_decide_eq_true (by kernel_rfl)) (by unfold Func.isWrapper; first | (rw [if_pos (by decide +kernel)]; kernel_rfl) | (rw [if_neg (by decide +kernel)]; exact ⟨rfl, rfl⟩))
    (fun os started H enc _ => lifted os started H enc)
theorem proved : Rows.TexteditTransformDisjointSaid := over
#print axioms proved
end Go.Proofs.Ytlhaeonjobcdbaa.texteditTransformDisjoint
namespace Go.Proofs.Ytlhaeonjobcdbaa
/-- The row, under a short name, for the claim. -/
theorem texteditTransformDisjoint_holds : Rows.TexteditTransformDisjointSaid := texteditTransformDisjoint.proved
end Go.Proofs.Ytlhaeonjobcdbaa
