/- The closure 'flush' of textedit.canonical: what one call of it does to the three variables that it holds, walked. Conditions: those variables and their rows are the caller's own; the sizes are small. -/
import Derived.Test.YtlhaeonjobcdbaaTrace
namespace Go.Proofs.Ytlhaeonjobcdbaa.PA
open Go.RowKit Go.Proofs.YtlhaeonjobcdbaaW.PrintWords Go.Proofs.YtlhaeonjobcdbaaW.PrintLast
set_option linter.unusedVariables false

theorem infoE : (Try.prog.info? 43).map (fun i => (i.zero, i.size, i.bytes)) = some (some (.agg #[.int .i64 0, .int .i64 0, .string ⟨#[]⟩]), 3, 32) := by kernel_rfl
def toI (l : List UInt8) : List Int := l.map fun b => (b.toNat : Int)

/-- The three variables of canonical that flush holds: where it starts, the bytes that wait, the edits. -/
structure FS (B bS bP bO : Nat) (st : Int) (pend : List UInt8) (outs : List S43) (w : World) : Prop where
  hB : B ≤ bS ∧ B ≤ bP ∧ B ≤ bO ∧ B ≤ w.heap.size
  hS : w.heap[bS]? = some (.cells #[.int .i64 st] 3 (0, 0))
  hP : ∃ pv, w.heap[bP]? = some (.cells #[pv] 51 (0, 0)) ∧ Kd.R (Kd.int .u8) 5 w B (fun _ => True) pv (toI pend)
  hO : ∃ ov, w.heap[bO]? = some (.cells #[ov] 22 (0, 0)) ∧ Kd.R k43 43 w B (fun _ => True) ov outs

theorem set_same {w : World} {g : Nat} {v : Value} {t : TypeId} (h : w.heap[g]? = some (.cells #[v] t (0, 0))) (u : Value) : (w.setCell ⟨g, 0, none⟩ u).heap[g]? = some (.cells #[u] t (0, 0)) := by
  simp [World.setCell, Array.getElem?_modify, h]
theorem set_far {w : World} {g g' : Nat} {o : Obj} (h : w.heap[g]? = some o) (hne : g ≠ g') (u : Value) : (w.setCell ⟨g', 0, none⟩ u).heap[g]? = some o := (Below.heap_setCell w ⟨g', 0, none⟩ u g hne).trans h
theorem ne_of_types {w : World} {g g' : Nat} {v v' : Value} {t t' : TypeId} (h : w.heap[g]? = some (.cells #[v] t (0, 0))) (h' : w.heap[g']? = some (.cells #[v'] t' (0, 0))) (hne : t ≠ t') : g ≠ g' := by
  rintro rfl
  rw [h] at h'
  injection h' with h'
  injection h' with _ h2 _
  exact hne h2
theorem FS_end {B bS bP bO : Nat} {w : World} {s0 p0 ov : Value} {outs : List S43} (hB : B ≤ bS ∧ B ≤ bP ∧ B ≤ bO ∧ B ≤ w.heap.size) (hS : w.heap[bS]? = some (.cells #[s0] 3 (0, 0))) (hP : w.heap[bP]? = some (.cells #[p0] 51 (0, 0))) (hO : w.heap[bO]? = some (.cells #[ov] 22 (0, 0)))
    (hR : Kd.R k43 43 w B (fun _ => True) ov outs) (en : Int) : FS B bS bP bO (en + 1) [] outs ((w.setCell ⟨bS, 0, none⟩ (.int .i64 (en + 1))).setCell ⟨bP, 0, none⟩ (.slice none 0 0)) := by
  have n1 := ne_of_types hS hP (by decide)
  have n2 := ne_of_types hS hO (by decide)
  have n3 := ne_of_types hP hO (by decide)
  have q1 := set_same hS (.int .i64 (en + 1))
  have q2 := set_far hP (Ne.symm n1) (.int .i64 (en + 1))
  have q3 := set_far hO (Ne.symm n2) (.int .i64 (en + 1))
  have r1 := Kd.R_set hR hS (by decide) 0 (.int .i64 (en + 1))
  refine ⟨⟨hB.1, hB.2.1, hB.2.2.1, ?_⟩, set_far q1 n1 _, ⟨_, set_same q2 _, Kd.R_nil _ _ _ _ _⟩, ⟨ov, set_far q3 (Ne.symm n3) _, Kd.R_set r1 q2 (by decide) 0 _⟩⟩
  have : ((w.setCell ⟨bS, 0, none⟩ (.int .i64 (en + 1))).setCell ⟨bP, 0, none⟩ (.slice none 0 0)).heap.size = w.heap.size := by simp [World.setCell]
  omega

set_option maxHeartbeats 8000000 in
set_option maxRecDepth 100000 in
theorem flush_none (B bS bP bO : Nat) (st en : Int) (outs : List S43) (w : World) (h : FS B bS bP bO st [] outs w) (hle : en ≤ st) (he0 : 0 ≤ en) (heL : en ≤ 2000) :
    Calls Try.prog 34 #[.int .i64 en, .pointer (some ⟨bS, 0, none⟩), .pointer (some ⟨bP, 0, none⟩), .pointer (some ⟨bO, 0, none⟩)] w fun e w' => e = .returned (.tuple #[]) ∧ FS B bS bP bO (en + 1) [] outs w' ∧ Below B w w' := by
  obtain ⟨hB, hS, ⟨pv, hP, hPR⟩, ⟨ov, hO, hOR⟩⟩ := h
  have cS : w.cell? ⟨bS, 0, none⟩ = some (.int .i64 st) := (blk_cell hS 0).trans rfl
  have fS : w.frozen? ⟨bS, 0, none⟩ = false := blk_frozen hS 0
  obtain ⟨AP, cP, rfl, hcl, hPC⟩ := Kd.R_reads hPR
  have cP' : w.cell? ⟨bP, 0, none⟩ = some (.slice AP 0 cP) := (blk_cell hP 0).trans rfl
  have fP : w.frozen? ⟨bP, 0, none⟩ = false := blk_frozen hP 0
  have hfin := FS_end hB hS hP hO hOR en
  have hbel : Below B w ((w.setCell ⟨bS, 0, none⟩ (.int .i64 (en + 1))).setCell ⟨bP, 0, none⟩ (.slice none 0 0)) := ((Below.refl B w).setCell (p := ⟨bS, 0, none⟩) hB.1 _).setCell (p := ⟨bP, 0, none⟩) hB.2.1 _
  have hnP : bS ≠ bP := ne_of_types hS hP (by decide)
  have fP2 : (w.setCell ⟨bS, 0, none⟩ (.int .i64 (en + 1))).frozen? ⟨bP, 0, none⟩ = false := blk_frozen (set_far hP (Ne.symm hnP) _) 0
  have cP2 : (w.setCell ⟨bS, 0, none⟩ (.int .i64 (en + 1))).cell? ⟨bP, 0, none⟩ = some (.slice AP 0 cP) := (blk_cell (set_far hP (Ne.symm hnP) _) 0).trans rfl
  have HF := Aside0.mk hfin
  have HB := Aside0.mk hbel
  have hlt : decide (st < en) = false := decide_eq_false (by omega)
  clear hfin hbel hS hP hO hOR hPR hPC hcl hB hnP
  go_enter Try.func34, Try.ntmps34
  go_wp2
  go_end0
  exact ⟨rfl, HF.out, HB.out⟩

theorem keptK {α : Type} {d : Kd α} {q : Nat} {W wA : World} {base : Nat} {ok : Nat → Prop} {v : Value} {xs : List α} (HO : d.R q W base ok v xs) {g t : Nat} {cells : Array Value} {fr : Nat × Nat} (hb : W.heap[g]? = some (.cells cells t fr)) (ht : q ≠ t) (hg : W.grownBy wA v.ownBlock) : wA.heap[g]? = some (.cells cells t fr) := by
  obtain ⟨h0, inner, ho, hr⟩ := HO
  refine (hg.block g (heap_lt hb) (fun e => ?_)).trans hb
  obtain ⟨c2, hc2⟩ := own_typed ho g e.symm
  rw [hc2] at hb
  injection hb with hb
  injection hb with _ h2 _
  exact ht h2
theorem strOfNums_toI (l : List UInt8) : strOfNums (toI l) = ⟨l.toArray⟩ := by
  unfold strOfNums toI
  rw [List.map_map]
  congr 2
  conv => rhs; rw [← List.map_id l]
  exact List.map_congr_left (fun b _ => by simp)
theorem toI_length (l : List UInt8) : (toI l).length = l.length := List.length_map _

set_option maxHeartbeats 8000000 in
set_option maxRecDepth 100000 in
theorem flush_some (B bS bP bO : Nat) (st en : Int) (pend : List UInt8) (outs : List S43) (w : World) (h : FS B bS bP bO st pend outs w) (hc : st < en ∨ pend ≠ []) (he0 : 0 ≤ en) (heL : en ≤ 2000) (hol : outs.length ≤ 4000) :
    Calls Try.prog 34 #[.int .i64 en, .pointer (some ⟨bS, 0, none⟩), .pointer (some ⟨bP, 0, none⟩), .pointer (some ⟨bO, 0, none⟩)] w fun e w' => e = .returned (.tuple #[]) ∧ FS B bS bP bO (en + 1) [] (outs ++ [⟨st, en, ⟨pend.toArray⟩⟩]) w' ∧ Below B w w' := by
  obtain ⟨hB, hS, ⟨pv, hP, hPR⟩, ⟨ov, hO, hOR⟩⟩ := h
  have cS : w.cell? ⟨bS, 0, none⟩ = some (.int .i64 st) := (blk_cell hS 0).trans rfl
  have cO : w.cell? ⟨bO, 0, none⟩ = some ov := (blk_cell hO 0).trans rfl
  obtain ⟨AP, cP, rfl, hcl, hPC⟩ := Kd.R_reads hPR
  rw [toI_length] at hcl hPC hP
  have cP' : w.cell? ⟨bP, 0, none⟩ = some (.slice AP pend.length cP) := (blk_cell hP 0).trans rfl
  have hcv : (convert 51 9 (.slice AP pend.length cP)).run Try.prog w = .ok (.string ⟨pend.toArray⟩) w := by
    have := string_of_reads (P := Try.prog) (w := w) (src := 51) (dst := 9) (e := 5) (A := AP) (n := pend.length) (c := cP) (xs := toI pend) Try.underlying51 Try.underlying5 Try.underlying9 (Kd.reads_of_C (d := (0 : Int)) hPC)
    rw [strOfNums_toI] at this
    exact this
  have HH := Aside0.mk (And.intro hB (And.intro hS (And.intro hP (And.intro hO hOR))))
  have HC := Aside0.mk hc
  clear hB hS hP hO hOR hPR hPC hcl
  have key : ∀ (v1 : Value) (w1 : World), Kd.R k43 43 w1 B (fun _ => True) v1 (outs ++ [⟨st, en, ⟨pend.toArray⟩⟩]) → Below B w w1 → w.grownBy w1 ov.ownBlock →
      ∃ wX : World, wX = w1.setCell ⟨bO, 0, none⟩ v1 ∧ w1.frozen? ⟨bO, 0, none⟩ = false ∧ w1.cell? ⟨bO, 0, none⟩ = some ov ∧ wX.frozen? ⟨bS, 0, none⟩ = false ∧ wX.cell? ⟨bS, 0, none⟩ = some (.int .i64 st) ∧ (wX.setCell ⟨bS, 0, none⟩ (.int .i64 (en + 1))).frozen? ⟨bP, 0, none⟩ = false ∧ (wX.setCell ⟨bS, 0, none⟩ (.int .i64 (en + 1))).cell? ⟨bP, 0, none⟩ = some (.slice AP pend.length cP) ∧
        Aside0 (FS B bS bP bO (en + 1) [] (outs ++ [⟨st, en, ⟨pend.toArray⟩⟩]) ((wX.setCell ⟨bS, 0, none⟩ (.int .i64 (en + 1))).setCell ⟨bP, 0, none⟩ (.slice none 0 0)) ∧ Below B w ((wX.setCell ⟨bS, 0, none⟩ (.int .i64 (en + 1))).setCell ⟨bP, 0, none⟩ (.slice none 0 0))) := by
    intro v1 w1 hR1 hb1 hg
    obtain ⟨hB, hS, hP, hO, hOR⟩ := HH.out
    have kS := keptK hOR hS (by decide) hg
    have kP := keptK hOR hP (by decide) hg
    have kO := keptK hOR hO (by decide) hg
    have nSO := ne_of_types kS kO (by decide)
    have nPO := ne_of_types kP kO (by decide)
    have nPS := ne_of_types kP kS (by decide)
    have xS := set_far kS nSO v1
    have xP := set_far kP nPO v1
    have xO := set_same kO v1
    have xR := Kd.R_set hR1 kO (by decide) 0 v1
    have yP := set_far xP nPS (.int .i64 (en + 1))
    refine ⟨_, rfl, blk_frozen kO 0, (blk_cell kO 0).trans rfl, blk_frozen xS 0, (blk_cell xS 0).trans rfl, blk_frozen yP 0, (blk_cell yP 0).trans rfl, ⟨FS_end ⟨hB.1, hB.2.1, hB.2.2.1, ?_⟩ xS xP xO xR en, ?_⟩⟩
    · have h1 : (w1.setCell ⟨bO, 0, none⟩ v1).heap.size = w1.heap.size := by simp [World.setCell]
      have := hb1.size
      omega
    · exact ((hb1.setCell (p := ⟨bO, 0, none⟩) hB.2.2.1 _).setCell (p := ⟨bS, 0, none⟩) hB.1 _).setCell (p := ⟨bP, 0, none⟩) hB.2.1 _
  have KEY := Aside0.mk key
  clear key
  by_cases hlt : st < en
  all_goals
    have hpos : Aside0 (st < en ∨ 0 < pend.length) := ⟨by
      rcases HC.out with h | h
      · exact .inl h
      · exact .inr (List.length_pos_iff.2 h)⟩
    first
      | (have hd : decide (st < en) = true := decide_eq_true hlt; clear hlt)
      | (have hd : decide (st < en) = false := decide_eq_false hlt; have hp1 : decide (0 < pend.length) = true := decide_eq_true (hpos.out.resolve_left hlt); have hp2 : decide ((0 : Int) < (pend.length : Int)) = true := decide_eq_true (by have := hpos.out.resolve_left hlt; omega); clear hlt)
    go_enter Try.func34, Try.ntmps34
    go_wp2_with (at_builtin; refine Kd.R_append k43 (w0 := w) B rfl (.tmp 13) (.tmp 19) 22 43 (.agg #[.int .i64 0, .int .i64 0, .string ⟨#[]⟩]) 32 rfl Try.underlying22 infoE rfl (by decide) (by omega) ov outs ⟨st, en, ⟨pend.toArray⟩⟩ [.int .i64 st, .int .i64 en, .string ⟨pend.toArray⟩] (fun _ => True) (fun _ => False) rfl rfl (k43_mkM _ _ _ (⟨st, en, ⟨pend.toArray⟩⟩ : S43)) (fun _ h => h.elim) (fun _ _ => trivial) HH.out.2.2.2.2 (Below.refl B w) HH.out.1.2.2.2 (by omega) ?_; intro v1 w1 ho hb hg hat; obtain ⟨Av, cv, hv⟩ := Kd.R_slice ho; rw [List.length_append, List.length_singleton] at hv; subst hv; obtain ⟨wX, hX, q1, q2, q3, q4, q5, q6, q7⟩ := KEY.out _ w1 ho hb hg; subst hX; clear ho hb hg hat)
    go_end0
    exact ⟨rfl, q7.out.1, q7.out.2⟩
end Go.Proofs.Ytlhaeonjobcdbaa.PA
