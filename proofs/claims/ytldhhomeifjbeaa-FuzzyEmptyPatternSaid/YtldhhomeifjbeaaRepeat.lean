/- slices.Repeat at one -1, and a make of n one-cell elements as a law: what one call lays. Conditions: small numbers. -/
import Derived.Test.YtldhhomeifjbeaaPFuzzyScoreOptimalx1
import Derived.Laws.CopyOwn
import Derived.OwnWalk
import Derived.Deep.RegionLaw
import Derived.Deep.RegionHeld3
namespace Go.Proofs.Ytldhhomeifjbeaa.PA
open Go.RowKit Go.Proofs.YtldhhomeifjbeaaW.PrintWords Go.Proofs.YtldhhomeifjbeaaW.PrintLast
set_option linter.unusedVariables false
set_option linter.unusedSimpArgs false

theorem infoI : (Try.prog.info? 3).map (fun i => (i.zero, i.size, i.bytes)) = some (some (.int .i64 0), 1, 8) := by kernel_rfl
theorem infoR : (Try.prog.info? 22).map (fun i => (i.zero, i.size, i.bytes)) = some (some (.slice none 0 0), 1, 24) := by kernel_rfl
theorem made_one (z : Value) (hz : z.cells = #[z]) (n : Nat) : madeCells z.cells n = Array.replicate n z := by
  rw [hz]
  unfold madeCells
  apply Array.ext
  · simp
  · intro i h1 h2
    have : i % 1 = 0 := Nat.mod_one i
    simp [this]
/-- 'make([]T, n)' of one-cell elements: the new block, whole. -/
theorem wpList_make_raw {P : Program} (w : World) {ops : Array Oper} {rest : List Oper} {o : Oper} {a : Act} {Q : Exit → Act → World → Prop}
    (hg : o.guard = none) (l c : Operand) (t : TypeId) (hop : o.op = Op.makeSlice t l c) (e : TypeId) (z : Value) (bytes : Nat) (h1 : P.underlying t = some (.slice e)) (hinfo : (P.info? e).map (fun i => (i.zero, i.size, i.bytes)) = some (some z, 1, bytes)) (hz : z.cells = #[z])
    (n : Nat) (hl : a.eval l = .int .i64 (n : Int)) (hc : a.eval c = .int .i64 (n : Int)) (b1 : n ≤ 1000) (b2 : bytes ≤ 1000) (B : Nat) (w0 : World) (hb : Below B w0 w) (hBw : B ≤ w.heap.size)
    (hK : ∀ w', w'.heap[w.heap.size]? = some (.cells (Array.replicate n z) e (0, 0)) → Below w.heap.size w w' → Below B w0 w' → w'.heap.size = w.heap.size + 1 → wpList P ops Q rest (a.put o.dst (.slice (some ⟨w.heap.size, 0, none⟩) n n)) w') :
    wpList P ops Q (o :: rest) a w := by
  refine wpList_plain hg fun K hK' => ?_
  obtain ⟨i, hi, hz0, hz1, hz2⟩ := info_parts hinfo
  have hbm : (i.bytes : Int) * (n : Int) ≤ 281474976710656 := by
    rw [hz2]
    have : bytes * n ≤ 1000 * 1000 := Nat.mul_le_mul b2 b1
    have h : ((bytes * n : Nat) : Int) ≤ 281474976710656 := by omega
    rwa [Int.natCast_mul] at h
  have hr := run_make (P := P) w t e i z h1 hi hz0 .i64 .i64 n n (by omega) (by omega) hbm (by omega)
  rw [hz1, Nat.mul_one, Int.toNat_natCast, made_one z hz] at hr
  unfold Oper.wp
  simp [execOp, hop, hl, hc, hr, Result.andThen]
  exact hK' _ _ (hK _ (heap_alloc_new w (.cells (Array.replicate n z) e)) ((Below.refl _ _).alloc (Nat.le_refl _) _) (hb.alloc hBw _) (Array.size_push ..))

theorem copy_one {w : World} {ad : Addr} {v0 : Value} {n : Nat} (h : w.cell? ad = some v0) : ∀ (j : Nat) (v : Value), (List.replicate (Nat.min 1 n) v0)[j]? = some v → w.cell? (ad.add j) = some v := by
  intro j v hj
  obtain ⟨hl, hv⟩ := List.getElem?_eq_some_iff.1 hj
  rw [List.length_replicate] at hl
  rw [List.getElem_replicate] at hv
  have : j = 0 := by have : Nat.min 1 n ≤ 1 := Nat.min_le_left 1 n; omega
  subst this
  subst hv
  exact h

def rowN (n m : Nat) : List Value := List.replicate m (.int .i64 (-1)) ++ List.replicate (n - m) (.int .i64 0)
theorem rowN_length {n m : Nat} (h : m ≤ n) : (rowN n m).length = n := by unfold rowN; rw [List.length_append, List.length_replicate, List.length_replicate]; omega
theorem splice_rep (n m c : Nat) (h : m + c ≤ n) : splice (rowN n m) m (List.replicate c (.int .i64 (-1))) = rowN n (m + c) := by
  unfold splice rowN
  rw [List.length_replicate, List.take_append_of_le_length (by rw [List.length_replicate]; omega), List.take_of_length_le (by rw [List.length_replicate]; omega), List.drop_append, List.drop_of_length_le (by rw [List.length_replicate]; omega), List.nil_append, List.length_replicate, List.drop_replicate, ← List.append_assoc, List.replicate_append_replicate, show n - m - (m + c - m) = n - (m + c) by omega]
theorem splice_rep0 (n : Nat) : some (Obj.cells (splice (List.replicate n (Value.int .i64 0)) 0 (List.replicate (Nat.min 1 n) (.int .i64 (-1)))).toArray 3 (0, 0)) = some (.cells (rowN n (Nat.min 1 n)).toArray 3 (0, 0)) := by
  have h := splice_rep n 0 (Nat.min 1 n) (by have : Nat.min 1 n ≤ n := Nat.min_le_right 1 n; omega)
  have h0 : rowN n 0 = List.replicate n (Value.int .i64 0) := by unfold rowN; simp
  rw [h0, Nat.zero_add] at h
  rw [h]
theorem rowN_src {w : World} {g n m : Nat} (h : w.heap[g]? = some (.cells (rowN n m).toArray 3 (0, 0))) : ∀ (j : Nat) (v : Value), (List.replicate (Nat.min m (n - m)) (Value.int .i64 (-1)))[j]? = some v → w.cell? (Addr.add ⟨g, 0, none⟩ j) = some v := by
  intro j v hj
  obtain ⟨hl, hv⟩ := List.getElem?_eq_some_iff.1 hj
  rw [List.length_replicate] at hl
  rw [List.getElem_replicate] at hv
  have : Nat.min m (n - m) ≤ m := Nat.min_le_left _ _
  have hc : w.cell? ⟨g, j, none⟩ = (rowN n m).toArray[j]? := by simp [World.cell?, h]
  subst hv
  have e : Addr.add ⟨g, 0, none⟩ j = ⟨g, j, none⟩ := by by_cases hj0 : j = 0 <;> simp [Addr.add, hj0]
  rw [e]
  refine hc.trans ?_
  unfold rowN
  rw [List.getElem?_toArray, List.getElem?_append_left (by rw [List.length_replicate]; omega), List.getElem?_replicate]
  rw [if_pos (by omega)]

theorem heap_drewN {w : World} {g : Nat} {o : Obj} (h : w.heap[g]? = some o) (k : Nat) : (w.drewN k).heap[g]? = some o := by simpa using h

set_option maxHeartbeats 4000000 in
set_option maxRecDepth 100000 in
theorem repeat_calls (n : Nat) (hn : n ≤ 30) (ad : Addr) (w : World) (h : w.cell? ad = some (.int .i64 (-1))) :
    Calls Try.prog 23 #[.slice (some ad) 1 1, .int .i64 n] w fun e w' => ∃ g, e = .returned (.slice (some ⟨g, 0, none⟩) n n) ∧ w.heap.size ≤ g ∧ w'.heap[g]? = some (.cells (Array.replicate n (.int .i64 (-1))) 3 (0, 0)) ∧ Below w.heap.size w w' := by
  have hm : PFuzzyScoreOptimal.bits_Mul.f 1 (n : Int) = some (0, (n : Int)) := by
    have : ∀ m : Fin 31, PFuzzyScoreOptimal.bits_Mul.f 1 (m.val : Int) = some (0, (m.val : Int)) := by decide +kernel
    exact this ⟨n, by omega⟩
  have HM := Aside0.mk hm
  have hd0 : decide ((n : Int) < 0) = false := decide_eq_false (by omega)
  have HB0 := Aside0.mk (Below.refl w.heap.size w)
  clear hm
  go_enter Try.func23, Try.ntmps23
  go_wp2_with fail
  refine (PFuzzyScoreOptimal.bits_Mul.calls 1 (n : Int) 0 (n : Int) _ HM.out).mono ?_
  rintro e w1 ⟨rfl, nd, rfl⟩
  have hbd : Below w.heap.size w (w.drewN nd) := by apply pw_below_drewN; exact HB0.out
  have HBD := Aside0.mk hbd
  have HA := Aside0.mk ((hbd.cell (World.block_lt_of_cell? w _ h)).trans h)
  clear hbd
  have hsz : (w.drewN nd).heap.size = w.heap.size := by simp
  go_wp2_with (first | (at_make; refine wpList_make_raw _ rfl _ _ 22 rfl 3 (.int .i64 0) 8 Try.underlying22 infoI rfl n rfl rfl (by omega) (by omega) w.heap.size w HBD.out HBD.out.size ?_; intro w2 hg2 hb2 hB2 hs2; rw [hsz] at hg2; have HG2 := Aside0.mk hg2; have HA2 := Aside0.mk ((hb2.cell (World.block_lt_of_cell? _ _ HA.out)).trans HA.out); have HB2 := Aside0.mk hB2; clear hg2 hb2 hB2 hs2) | (refine wpList_copy_splice rfl (.tmp 31) (.tmp 32) 22 22 rfl 3 Try.underlying22 (by kernel_rfl) _ _ _ _ _ _ rfl rfl w.heap.size 0 (List.replicate n (.int .i64 0)) 3 (by rw [HG2.out, List.toArray_replicate]) (List.replicate (Nat.min 1 n) (.int .i64 (-1))) (by rw [List.length_replicate]) (fun _ => ⟨rfl, ad, rfl, copy_one HA2.out⟩) (by rw [List.length_replicate, List.length_replicate]; have : Nat.min 1 n ≤ n := Nat.min_le_right 1 n; omega) (by intro v hv; rw [(List.mem_replicate.1 hv).2]; rfl) w.heap.size w HB2.out (Nat.le_refl _) ?_; intro w3 hg3 hb3; have HG3 := Aside0.mk hg3; have HB3 := Aside0.mk hb3; clear hg3 hb3))
  have H0 : Aside0 (w3.heap[w.heap.size]? = some (.cells (rowN n (Nat.min 1 n)).toArray 3 (0, 0)) ∧ Below w.heap.size w w3) := ⟨by rw [HG3.out]; exact splice_rep0 n, HB3.out⟩
  clear HG3 HB3 HG2 HA2 HB2 HM HA HBD HB0 hsz hd0
  go_loopw [8] (fun i wx => ∃ m, m ≤ n ∧ (n = 0 ∨ 1 ≤ m) ∧ i = .int .i64 (m : Nat) ∧ Aside0 (wx.heap[w.heap.size]? = some (.cells (rowN n m).toArray 3 (0, 0)) ∧ Below w.heap.size w wx)) (fun i _ => n - (intOf i).toNat)
  case atStart => exact ⟨_, Nat.min_le_right 1 n, by have := Nat.le_min (a := 1) (b := 1) (c := n); omega, rfl, H0⟩
  case round =>
    obtain ⟨m, hmn, hm1, rfl, HR⟩ := hrel
    clear H0
    by_cases hlt : m < n
    · have hnm : (n = m) = False := eq_false (by omega)
      have hml : Nat.min m (n - m) ≤ n - m := Nat.min_le_right _ _
      have hm1' : 1 ≤ Nat.min m (n - m) := Nat.le_min.2 ⟨by omega, by omega⟩
      go_upto_region 9 with fail
      go_region_held3 (fun w' => w' = wr ∨ True) (exact .inr trivial) ((refine step_copy_splice (by rfl) (.tmp 41) (.tmp 44) 22 22 (by rfl) 3 Try.underlying22 (by kernel_rfl) (some ⟨w.heap.size, m, none⟩) (some ⟨w.heap.size, 0, none⟩) (n - m) (n - m) m n (by first | rfl | (simp; done)) (by first | rfl | (simp; done)) w.heap.size m (rowN n m) 3 (heap_drewN HR.out.1 _) (List.replicate (Nat.min m (n - m)) (.int .i64 (-1))) (by rw [List.length_replicate]) (fun _ => ⟨rfl, _, rfl, rowN_src (heap_drewN HR.out.1 _)⟩) (by rw [List.length_replicate, rowN_length hmn]; have : Nat.min m (n - m) ≤ n - m := Nat.min_le_right _ _; omega) (by intro v hv; rw [(List.mem_replicate.1 hv).2]; rfl) w.heap.size w (by apply pw_below_drewN; exact HR.out.2) (Nat.le_refl _) ?_; intro w4 hg4 hb4; have H4 := Aside0.mk (And.intro hg4.out hb4); clear hg4 hb4))
      have hw : IntKind.i64.wrap ((m : Int) + (Nat.min m (n - m) : Nat)) = ((m + Nat.min m (n - m) : Nat) : Int) := by rw [IntKind.wrap_i64]; omega
      go_wp2
      rw [hw]
      go_roundw
      case rel => exact ⟨m + Nat.min m (n - m), by omega, .inr (by omega), by go_num, ⟨by rw [H4.out.1, splice_rep n m _ (by omega)], H4.out.2⟩⟩
      case measure => simp [intOf]; omega
    · obtain rfl : m = n := by omega
      have hfin : wr.heap[w.heap.size]? = some (.cells (Array.replicate m (.int .i64 (-1))) 3 (0, 0)) := by
        rw [HR.out.1]
        unfold rowN
        rw [Nat.sub_self]
        simp
      have HF := Aside0.mk hfin
      clear hfin
      go_wp2
      go_ret
      exact ⟨_, rfl, Nat.le_refl _, HF.out, HR.out.2⟩
end Go.Proofs.Ytldhhomeifjbeaa.PA
