-- WRITTEN BY drv.py (a program of this session's, over the kit's print program): Lean checks it.
import Derived.Test.YtldhhomeifjbeaaPAx0
import Derived.Test.YtldhhomeifjbeaaPAx5
namespace Go.Proofs.Ytldhhomeifjbeaa.PA
open Go.RowKit Go.Proofs.YtldhhomeifjbeaaW.PrintWords Go.Proofs.YtldhhomeifjbeaaW.PrintLast Go.Proofs.YtldhhomeifjbeaaW.PrintMore
attribute [local go_sem] max2_int min2_int max_two min_two max_three min_three max_four min_four   -- for this text's walks alone
set_option linter.unusedVariables false
set_option linter.unusedSimpArgs false

/-! ### fuzzy_EqualFold: function 13 -/
def fuzzy_EqualFold.f (a0 : Int) (a1 : Int) : Option (Bool) := (fuzzy_lower.f a0).bind fun t117 => ((fuzzy_lower.f a1).bind fun t118 => (some (t117 == t118)))
set_option maxHeartbeats 8000000 in
set_option maxRecDepth 100000 in
theorem fuzzy_EqualFold.calls (a0 : Int) (a1 : Int) (r : Bool) (w : World) (h : fuzzy_EqualFold.f a0 a1 = some r) :
    Calls Try.prog 13 #[.int .u8 a0, .int .u8 a1] w fun e w' => e = .returned (.bool r) ∧ Drawn0 w w' := by
  have H : ((fuzzy_lower.f a0).bind fun t117 => ((fuzzy_lower.f a1).bind fun t118 => (some (t117 == t118)))) = some r := h
  clear h
  replace H := Option.bind_eq_some_iff.mp H
  obtain ⟨t117, A30, H⟩ := H
  replace H : ((fuzzy_lower.f a1).bind fun t118 => (some (t117 == t118))) = some r := H
  have A3 := Aside0.mk A30
  clear A30
  replace H := Option.bind_eq_some_iff.mp H
  obtain ⟨t118, A40, H⟩ := H
  replace H : (some (t117 == t118)) = some r := H
  have A4 := Aside0.mk A40
  clear A40
  obtain rfl := Option.some.inj H
  go_enter Try.func13, Try.ntmps13
  go_wp2_with (first | ((with_reducible refine gate_callee (f := 21) rfl ?_); refine goesL_ (some 6) rfl rfl Try.func21 (by kernel_rfl) rfl #[.int .u8 a0] rfl (by (try simp only [List.map_toArray, List.map_cons, List.map_nil]); first | done | rfl | (simp only [List.length_drop, List.length_take]; rfl)) ?_; (with_reducible refine (fuzzy_lower.calls a0 t117 _ A3.out).mono ?_); rintro e w' ⟨rfl, ⟨nd, rfl⟩⟩; refine ⟨_, rfl, ?_⟩) | ((with_reducible refine gate_callee (f := 21) rfl ?_); refine goesL_ (some 8) rfl rfl Try.func21 (by kernel_rfl) rfl #[.int .u8 a1] rfl (by (try simp only [List.map_toArray, List.map_cons, List.map_nil]); first | done | rfl | (simp only [List.length_drop, List.length_take]; rfl)) ?_; (with_reducible refine (fuzzy_lower.calls a1 t118 _ A4.out).mono ?_); rintro e w' ⟨rfl, ⟨nd, rfl⟩⟩; refine ⟨_, rfl, ?_⟩))
  go_ret
  exact ⟨by first | rfl | (simp; done) | (simp [*]; done), by repeat (first | exact Drawn0.refl _ | apply Drawn0.step)⟩

end Go.Proofs.Ytldhhomeifjbeaa.PA
