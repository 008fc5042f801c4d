/- Packed texts, part 5: contracts and plain lemmas towards outlineProperlyNested_holds. -/
import Derived.Test.YtkijamagbgigmaaGreatDoorQ4
import Derived.StillTailTactics
import Derived.Deep.RegionHeld3
set_option maxHeartbeats 8000000
set_option maxRecDepth 1000000
set_option linter.unusedVariables false
set_option linter.unusedSimpArgs false
namespace Go.Proofs.YtkijamagbgigmaaGreatDoor.Par
open Go.RowKit Go.Proofs.YtkijamagbgigmaaGreatDoorW.PrintWords Go.Proofs.YtkijamagbgigmaaGreatDoorW.PrintLast
theorem ov_run (w : World) (args : Array Value) : (callFunc 163 args).run Tryz.prog w = ((Extern.SlicesOverlaps.overlaps #[51, 51] #[4] args).run Tryz.prog w).andThen fun v w' => .ok (.value v) w' := by
 exact run_callFunc_extern Tryz.func163 (by kernel_rfl) (by kernel_rfl) (by kernel_rfl) (e := Extern.SlicesOverlaps.overlaps #[51, 51] #[4]) (by kernel_rfl) args w
theorem infoS : (Tryz.prog.info? 53).map (·.size) = some 3 := by kernel_rfl
abbrev Z0 : List Value := [.int .i64 0, .string ⟨#[]⟩, .slice none 0 0]
theorem Z0_one : ∀ u ∈ Z0, u.oneCell' = true := by intro u hu; simp only [List.mem_cons, List.not_mem_nil, or_false] at hu; rcases hu with rfl | rfl | rfl <;> rfl
theorem src_cells {W : World} {g : Nat} {cs : List Value} {o : Nat} (h : ∀ j v, cs[j]? = some v → W.cell? ⟨g, o + j, none⟩ = some v) : ∀ j v, cs[j]? = some v → W.cell? ((⟨g, o, none⟩ : Addr).add j) = some v := fun j v hv => by
 rw [Addr.add_lit]
 exact h j v hv
theorem insert_calls {B : Nat} {W : World} {kg kcap n gv : Nat} {xs : List Value} {a b c : Value} (hown : W.ownsRow B 53 3 (.slice (some ⟨kg, 0, none⟩) (n + 1) kcap) (n + 1) (xs ++ [a, b, c])) (hv : W.heap[gv]? = some (.cells #[.int .i64 0, .string ⟨#[]⟩, .slice none 0 0] 53 (0, 0))) (hne : gv ≠ kg) (hn : n ≤ 1000000000) (ha : ∀ u ∈ [a, b, c], u.oneCell' = true) :
  Calls Tryz.prog 140 #[.slice (some ⟨kg, 0, none⟩) (n + 1) kcap, .int .i64 (n : Int), .slice (some ⟨gv, 0, none⟩) 1 1] W fun e W' => ∃ v1, e = .returned v1 ∧ W'.ownsRow B 53 3 v1 (n + 2) (xs ++ ([.int .i64 0, .string ⟨#[]⟩, .slice none 0 0] ++ [a, b, c])) ∧ W.grownBy W' (some kg) ∧ (v1.ownBlock = some kg ∨ ∃ b, v1.ownBlock = some b ∧ W.heap.size ≤ b) := by
 have HO := ak hown
 have HV := ak hv
 have HA := ak ha
 have i0 : (0 : Int) ≤ (n : Int) := by omega
 have i1 : (n : Int) ≤ (n : Int) + 1 := by omega
 have i2 : ((n : Int) == (n : Int) + 1) = false := beq_eq_false_iff_ne.2 (by omega)
 have i3 : (n : Int) ≤ ((n + 1 : Nat) : Int) := by omega
 have w1 : IntKind.i64.wrap ((n : Int) + 1 + 1) = (n : Int) + 1 + 1 := by rw [IntKind.wrap_i64]; omega
 have hcp := own_cap hown
 have i4 : (n : Int) ≤ (kcap : Int) := by omega
 clear hown hv ha
 go_enter Tryz.func140, Tryz.ntmps140
 have HX := ak (show xs.length = n * 3 ∧ ∀ j v, xs[j]? = some v → W.cell? ((⟨kg, 0, none⟩ : Addr).add j) = some v from ⟨by have := HO.out.1; simp only [List.length_append, List.length_cons, List.length_nil] at this; omega, fun j v hv => HO.out.cells (g := kg) rfl j v (by rw [List.getElem?_append_left (List.getElem?_eq_some_iff.1 hv).1]; exact hv)⟩)
 by_cases hc : kcap < n + 2
 ·have hcd : decide ((kcap : Int) < (n : Int) + 1 + 1) = true := decide_eq_true (by omega)
  have hcd' : (kcap : Int) < (n : Int) + 1 + 1 := by omega
  have e2 : (n : Int) + 1 + 1 - (n : Int) = 2 := by omega
  have hge := grownCap_ge W (n + 2) kcap 53
  obtain ⟨gc, hgc⟩ : ∃ gc, Hid (grownCap W (n + 2) kcap 53 = gc) := ⟨_, rfl⟩
  rw [show grownCap W (n + 2) kcap 53 = gc from hgc] at hge
  have i5 : (n : Int) ≤ (gc : Int) := by omega
  have i6 : (n : Int) ≤ (n : Int) + 2 := by omega
  have i7 : (n : Int) + 1 ≤ (gc : Int) := by omega
  have i8 : (n : Int) + 1 ≤ (n : Int) + 2 := by omega
  have i9 : (0 : Int) ≤ (n : Int) + 1 := by omega
  have i10 : ¬ gc = n + 1 := by omega
  have i11 : ¬ kcap = n := by omega
  have i12 : ¬ gc = n := by omega
  have w0 : IntKind.i64.wrap ((n : Int) + 1) = (n : Int) + 1 := by rw [IntKind.wrap_i64]; omega
  have w2 : ((n : Int) + 1).toNat = n + 1 := by omega
  go_wp2_with (first | (at_builtin; refine wpList_zeros_grow W rfl (.tmp 34) (.tmp 39) 51 3 53 (.agg #[.int .i64 0, .string ⟨#[]⟩, .slice none 0 0]) 3 48 rfl Tryz.underlying51 Tryz.underlying3 infoT rfl (by decide) (by decide) ⟨kg, 0, none⟩ n kcap xs rfl HX.out.1 HX.out.2 2 rfl (by decide) hc (by omega) ?_; rw [show grownCap W (n + 2) kcap 53 = gc from hgc]) | (at_builtin; fail))
  obtain ⟨i0, hi, hsz⟩ := Option.map_eq_some_iff.1 infoS
  obtain ⟨W2, hW2⟩ : ∃ W2, (W.alloc (Obj.cells (xs.toArray ++ (Builtin.zeroCells #[Value.int IntKind.i64 0, Value.string { data := #[] }, Value.slice none 0 0] 2 ++ Builtin.zeroCells #[Value.int IntKind.i64 0, Value.string { data := #[] }, Value.slice none 0 0] (gc - (n + 2)))) 53)).drew = W2 := ⟨_, rfl⟩
  have hb2 : W2.heap[W.heap.size]? = some (.cells (xs.toArray ++ (Builtin.zeroCells #[Value.int IntKind.i64 0, Value.string { data := #[] }, Value.slice none 0 0] 2 ++ Builtin.zeroCells #[Value.int IntKind.i64 0, Value.string { data := #[] }, Value.slice none 0 0] (gc - (n + 2)))) 53 (0, 0)) := by rw [← hW2]; exact blk_drew (blk_new W _)
  have hbel : Below W.heap.size W W2 := by rw [← hW2]; exact below_drew (below_alloc (Below.refl _ _) _)
  have hz2 : Builtin.zeroCells #[Value.int IntKind.i64 0, Value.string { data := #[] }, Value.slice none 0 0] 2 = (Z0 ++ Z0).toArray := by kernel_rfl
  obtain ⟨rest, hrest⟩ : ∃ rest, Builtin.zeroCells #[Value.int IntKind.i64 0, Value.string { data := #[] }, Value.slice none 0 0] (gc - (n + 2)) = rest.toArray := ⟨(Builtin.zeroCells #[Value.int IntKind.i64 0, Value.string { data := #[] }, Value.slice none 0 0] (gc - (n + 2))).toList, by simp⟩
  have hrl : rest.length = (gc - (n + 2)) * 3 := by
   have := congrArg Array.size hrest
   rw [size_zeroCells] at this
   simpa using this.symm
  rw [hz2, hrest] at hb2
  rw [hW2]
  have hxl := HX.out.1
  have hlv : gv < W.heap.size := blk_lt HV.out
  have hv2 : W2.heap[gv]? = some (.cells #[.int .i64 0, .string ⟨#[]⟩, .slice none 0 0] 53 (0, 0)) := (hbel.block gv hlv).trans HV.out
  have hrun := run_copy_k (P := Tryz.prog) W2 51 51 3 53 i0 W.heap.size (n * 3) 2 (gc - n) ⟨gv, 0, none⟩ 1 1 (xs.toArray ++ ((Z0 ++ Z0).toArray ++ rest.toArray)) 53 Z0 Tryz.underlying51 hi hb2 (by rw [hsz]; rfl) (src_cells (fun j v hj => by rw [Nat.zero_add]; exact (blk_cell hv2 j).trans (by simpa [Z0] using hj))) (by simp [Z0]; omega) Z0_one
  rw [hrun]
  obtain ⟨W3, hW3⟩ : ∃ W3, W2.setRow W.heap.size (((xs.toArray ++ ((Z0 ++ Z0).toArray ++ rest.toArray)).toList.take (n * 3) ++ Z0 ++ (xs.toArray ++ ((Z0 ++ Z0).toArray ++ rest.toArray)).toList.drop (n * 3 + Z0.length))).toArray = W3 := ⟨_, rfl⟩
  have hb3 : W3.heap[W.heap.size]? = some (.cells (xs ++ (Z0 ++ (Z0 ++ rest))).toArray 53 (0, 0)) := by
   rw [← hW3, setRow_heap W2 W.heap.size _ _ 53 _ hb2]
   congr 3
   simp only [Array.toList_append, List.append_assoc]
   rw [List.take_left' hxl, show (xs ++ (Z0 ++ (Z0 ++ rest))).drop (n * 3 + Z0.length) = Z0 ++ rest by rw [← hxl, ← List.length_append, ← List.append_assoc, List.drop_left]]
  have hg3 : ∀ g, g < W.heap.size → W3.heap[g]? = W.heap[g]? := fun g hg => by
   rw [← hW3, setRow_other W2 W.heap.size g _ (by omega)]
   exact hbel.block g hg
  have hbel3 : Below W.heap.size W W3 := by rw [← hW3]; exact below_setRow hbel (Nat.le_refl _) _
  rw [hW3]
  have H3 := ak (And.intro hb3 (And.intro hbel3 (And.intro hrl hsz)))
  have HI0 := ak hi
  clear hW2 hb2 hbel hz2 hrest hrl hxl hlv hv2 hrun hW3 hb3 hg3 hbel3 hi hsz
  have HS := ak (show ∀ j v, [a, b, c][j]? = some v → W3.drew.cell? ((⟨kg, n * 3, none⟩ : Addr).add j) = some v from src_cells (fun j v hj => by
   have hkl : kg < W.heap.size := by
    rcases HO.out.2 with ⟨h0, _⟩ | ⟨g', cap', cur', he, _, hg', _⟩
    ·cases h0
    ·simp only [Value.slice.injEq, Option.some.injEq, Addr.mk.injEq, and_true] at he
     rw [he.1]
     exact blk_lt hg'
   have hc0 := HO.out.cells (g := kg) rfl (n * 3 + j) v (by rw [List.getElem?_append_right (by rw [HX.out.1]; omega), HX.out.1, Nat.add_sub_cancel_left]; exact hj)
   rw [Addr.add_lit, Nat.zero_add] at hc0
   exact (World.cell?_of_block (H3.out.2.1.block kg hkl)).trans hc0))
  go_wp2_with fail
  refine start_ (ds := []) (S := (fun _ => True)) #[false, false, false, false, false, false, false, false, false] (by kernel_rfl) rfl rfl trivial (fun hS => ?_)
  refine take_ (i := 0) (N := some 46) (v := .slice (some ⟨W.heap.size, 0, none⟩) (n + 2) gc) #[true, false, false, false, false, false, false, false, false] rfl rfl (by kernel_rfl) (fun _ _ _ h => h) (Or.inl ⟨by kernel_rfl, by intro w' z1; go_simp⟩) hS rfl ?_
  simp only [Act.put, sia, List.set]
  refine take_ (i := 1) (N := some 47) (v := .int .i64 (n : Int)) #[true, true, false, false, false, false, false, false, false] rfl rfl (by kernel_rfl) (fun _ _ _ h => h) (Or.inl ⟨by kernel_rfl, by intro w' z1; go_simp⟩) hS rfl ?_
  simp only [Act.put, sia, List.set]
  refine take_ (i := 2) (N := some 48) (v := .int .i64 1) #[true, true, true, false, false, false, false, false, false] rfl rfl (by kernel_rfl) (fun _ _ _ h => h) (Or.inl ⟨by kernel_rfl, by intro w' z1; go_simp⟩) hS rfl ?_
  simp only [Act.put, sia, List.set]
  refine take_ (i := 3) (N := some 49) (v := .int .i64 ((n : Int) + 1)) #[true, true, true, true, false, false, false, false, false] rfl rfl (by kernel_rfl) (fun _ _ _ h => h) (Or.inl ⟨by kernel_rfl, by intro w' z1; go_simp⟩) hS rfl ?_
  simp only [Act.put, sia, List.set]
  refine take_ (i := 4) (N := some 50) (v := .slice (some ⟨W.heap.size, (n + 1) * 3, none⟩) 1 (gc - (n + 1))) #[true, true, true, true, true, false, false, false, false] rfl rfl (by kernel_rfl) (fun _ _ _ h => h) (Or.inl ⟨by kernel_rfl, by intro w' z1; go_simp⟩) hS rfl ?_
  simp only [Act.put, sia, List.set]
  refine take_ (i := 5) (N := some 51) (v := .slice (some ⟨kg, 0, none⟩) (n + 1) kcap) #[true, true, true, true, true, true, false, false, false] rfl rfl (by kernel_rfl) (fun _ _ _ h => h) (Or.inl ⟨by kernel_rfl, by intro w' z1; go_simp⟩) hS rfl ?_
  simp only [Act.put, sia, List.set]
  refine take_ (i := 6) (N := some 52) (v := .int .i64 (n : Int)) #[true, true, true, true, true, true, true, false, false] rfl rfl (by kernel_rfl) (fun _ _ _ h => h) (Or.inl ⟨by kernel_rfl, by intro w' z1; go_simp⟩) hS rfl ?_
  simp only [Act.put, sia, List.set]
  refine take_ (i := 7) (N := some 53) (v := .slice (some ⟨kg, n * 3, none⟩) 1 (kcap - n)) #[true, true, true, true, true, true, true, true, false] rfl rfl (by kernel_rfl) (fun _ _ _ h => h) (Or.inl ⟨by kernel_rfl, by intro w' z1; go_simp⟩) hS rfl ?_
  simp only [Act.put, sia, List.set]
  refine one_ (i := 8) (N := some 54) #[true, true, true, true, true, true, true, true, true] rfl rfl (by kernel_rfl) (by simp) (fun K hK => ?_)
  refine step_copy_k W3.drew (by kernel_rfl) (.tmp 50) (.tmp 53) 51 51 rfl 53 Tryz.underlying51 3 infoS W.heap.size ((n + 1) * 3) 1 (gc - (n + 1)) ⟨kg, n * 3, none⟩ 1 (kcap - n) rfl rfl (xs ++ (Z0 ++ (Z0 ++ rest))).toArray 53 H3.out.1 [a, b, c] rfl HS.out (by have := HX.out.1; simp only [List.size_toArray, List.length_append, List.length_cons, List.length_nil]; omega) HA.out ?_
  refine hK.out _ _ trivial (fun hS => ?_)
  clear hK
  try simp only [Act.put, sia, List.set]
  refine wpAnyLast_done (by kernel_rfl) ?_ _
  generalize hW4 : World.setRow W3.drew W.heap.size _ = W4
  have HW4 := ak hW4
  clear hW4
  go_wp2_with fail
  obtain ⟨hb3, hbel3, hrl, hsz⟩ := H3.out
  have hxl := HX.out.1
  go_ret
  have hb4 : W4.heap[W.heap.size]? = some (.cells (xs ++ (Z0 ++ ([a, b, c] ++ rest))).toArray 53 (0, 0)) := by
   rw [← HW4.out, setRow_heap W3.drew W.heap.size _ _ 53 _ hb3]
   congr 3
   have hl1 : (xs ++ Z0).length = (n + 1) * 3 := by rw [List.length_append, hxl]; show n * 3 + 3 = _; omega
   rw [show xs ++ (Z0 ++ (Z0 ++ rest)) = (xs ++ Z0) ++ (Z0 ++ rest) by simp only [List.append_assoc], List.take_left' hl1]
   rw [show ((xs ++ Z0) ++ (Z0 ++ rest)).drop ((n + 1) * 3 + [a, b, c].length) = rest by rw [← hl1, show [a, b, c].length = Z0.length from rfl, ← List.length_append, ← List.append_assoc, List.drop_left]]
   simp only [List.append_assoc]
  have hbel4 : Below W.heap.size W W4 := by rw [← HW4.out]; exact below_setRow (below_drew hbel3) (Nat.le_refl _) _
  refine ⟨_, rfl, ⟨?_, .inr ⟨W.heap.size, gc, _, rfl, ?_, hb4, hge, ?_, ?_, ?_⟩⟩, ⟨hbel4.os, hbel4.tape, hbel4.output, hbel4.size, fun k hk _ => hbel4.block k hk⟩, .inr ⟨_, rfl, Nat.le_refl _⟩⟩
  ·simp only [List.length_append, List.length_cons, List.length_nil, hxl]
   omega
  ·obtain ⟨_, _, e1, b1, b2, _⟩ := own_new HO.out
   omega
  ·rw [← show grownCap W (n + 2) kcap 53 = gc from hgc]
   exact grownCap_le_maxLen W (n + 2) kcap 53 (by simp only [maxLen]; omega)
  ·simp only [List.size_toArray, List.length_append, List.length_cons, List.length_nil, hxl, hrl]
   omega
  ·show List.take ((n + 2) * 3) (xs ++ (Z0 ++ ([a, b, c] ++ rest))) = _
   rw [show xs ++ (Z0 ++ ([a, b, c] ++ rest)) = (xs ++ ([Value.int .i64 0, .string ⟨#[]⟩, .slice none 0 0] ++ [a, b, c])) ++ rest by simp only [List.append_assoc]]
   exact List.take_left' (by simp only [List.length_append, List.length_cons, List.length_nil, hxl]; omega)
 ·have hcd : decide ((kcap : Int) < (n : Int) + 1 + 1) = false := decide_eq_false (by omega)
  have hcd' : ¬ (kcap : Int) < (n : Int) + 1 + 1 := by omega
  obtain ⟨cur, hbg, hkg, hkm, hks, hkt⟩ : ∃ cur : Array Value, B ≤ kg ∧ W.heap[kg]? = some (.cells cur 53 (0, 0)) ∧ kcap ≤ maxLen ∧ cur.size = kcap * 3 ∧ cur.toList.take ((n + 1) * 3) = xs ++ [a, b, c] := by
   rcases HO.out.2 with ⟨h0, _⟩ | ⟨g', cap', cur', he, h2, h3, h4, h5, h6, h7⟩
   ·cases h0
   ·simp only [Value.slice.injEq, Option.some.injEq, Addr.mk.injEq, and_true] at he
    obtain ⟨rfl, _, rfl⟩ := he
    exact ⟨cur', h2, h3, h5, h6, h7⟩
  have HK := ak (And.intro hbg (And.intro hkg (And.intro hkm (And.intro hks hkt))))
  have hov : ∀ T U, (callFunc 163 #[.slice (some ⟨gv, 0, none⟩) 1 T, .slice (some ⟨kg, (n + 1) * 3, none⟩) 1 U]).run Tryz.prog W = .ok (.value (.bool false)) W := by
   intro T U
   rw [ov_run]
   have := Lib.run_overlaps_apart (P := Tryz.prog) W 51 4 53 Tryz.underlying51 3 (fun w => by kernel_rfl) ⟨gv, 0, none⟩ ⟨kg, (n + 1) * 3, none⟩ 1 T 1 U hne 53 53 3 cur.size (by simp [World.shape?, HV.out]) (by simp [World.shape?, hkg]) (by omega) (blk_frozen HV.out 0) (blk_frozen HV.out 3)
   rw [this]
   rfl
  have i6 : (n : Int) + 1 + 1 ≤ (kcap : Int) := by omega
  have i7 : (n : Int) + 1 ≤ (kcap : Int) := by omega
  have i8 : (n : Int) + 1 ≤ (n : Int) + 1 + 1 := by omega
  have i9 : (0 : Int) ≤ (n : Int) + 1 := by omega
  have i9' : (0 : Int) ≤ (n : Int) + 1 + 1 := by omega
  have i10 : ¬ kcap = n + 1 := by omega
  have i11 : ¬ kcap = n := by omega
  have i13 : (n : Int) ≤ (n : Int) + 1 + 1 := by omega
  have w0 : IntKind.i64.wrap ((n : Int) + 1) = (n : Int) + 1 := by rw [IntKind.wrap_i64]; omega
  have w2 : ((n : Int) + 1).toNat = n + 1 := by omega
  have w3 : ((n : Int) + 1 + 1).toNat = n + 1 + 1 := by omega
  clear hbg hkg hkm hks hkt
  have HS := ak (show ∀ j v, [a, b, c][j]? = some v → W.drew.cell? ((⟨kg, n * 3, none⟩ : Addr).add j) = some v from src_cells (fun j v hj => by
   have hc0 := HO.out.cells (g := kg) rfl (n * 3 + j) v (by rw [List.getElem?_append_right (by rw [HX.out.1]; omega), HX.out.1, Nat.add_sub_cancel_left]; exact hj)
   rw [Addr.add_lit, Nat.zero_add] at hc0
   exact hc0))
  have j1 : (n + 1 + 1 - n) = 2 := by omega
  have j2 : (n + 1 + 1 - (n + 1)) = 1 := by omega
  go_wp2_with fail
  refine start_ (ds := []) (S := (fun _ => True)) #[false, false, false, false, false, false, false, false, false] (by kernel_rfl) rfl rfl trivial (fun hS => ?_)
  refine take_ (i := 0) (N := some 69) (v := .slice (some ⟨kg, 0, none⟩) (n + 1 + 1) kcap) #[true, false, false, false, false, false, false, false, false] rfl rfl (by kernel_rfl) (fun _ _ _ h => h) (Or.inl ⟨by kernel_rfl, by intro w' z1; go_simp⟩) hS rfl ?_
  simp only [Act.put, sia, List.set]
  refine take_ (i := 1) (N := some 70) (v := .int .i64 (n : Int)) #[true, true, false, false, false, false, false, false, false] rfl rfl (by kernel_rfl) (fun _ _ _ h => h) (Or.inl ⟨by kernel_rfl, by intro w' z1; go_simp⟩) hS rfl ?_
  simp only [Act.put, sia, List.set]
  refine take_ (i := 2) (N := some 71) (v := .int .i64 1) #[true, true, true, false, false, false, false, false, false] rfl rfl (by kernel_rfl) (fun _ _ _ h => h) (Or.inl ⟨by kernel_rfl, by intro w' z1; go_simp⟩) hS rfl ?_
  simp only [Act.put, sia, List.set]
  refine take_ (i := 3) (N := some 72) (v := .int .i64 ((n : Int) + 1)) #[true, true, true, true, false, false, false, false, false] rfl rfl (by kernel_rfl) (fun _ _ _ h => h) (Or.inl ⟨by kernel_rfl, by intro w' z1; go_simp⟩) hS rfl ?_
  simp only [Act.put, sia, List.set]
  refine take_ (i := 4) (N := some 73) (v := .slice (some ⟨kg, (n + 1) * 3, none⟩) 1 (kcap - (n + 1))) #[true, true, true, true, true, false, false, false, false] rfl rfl (by kernel_rfl) (fun _ _ _ h => h) (Or.inl ⟨by kernel_rfl, by intro w' z1; go_simp⟩) hS rfl ?_
  simp only [Act.put, sia, List.set]
  refine take_ (i := 5) (N := some 74) (v := .slice (some ⟨kg, 0, none⟩) (n + 1 + 1) kcap) #[true, true, true, true, true, true, false, false, false] rfl rfl (by kernel_rfl) (fun _ _ _ h => h) (Or.inl ⟨by kernel_rfl, by intro w' z1; go_simp⟩) hS rfl ?_
  simp only [Act.put, sia, List.set]
  refine take_ (i := 6) (N := some 75) (v := .int .i64 (n : Int)) #[true, true, true, true, true, true, true, false, false] rfl rfl (by kernel_rfl) (fun _ _ _ h => h) (Or.inl ⟨by kernel_rfl, by intro w' z1; go_simp⟩) hS rfl ?_
  simp only [Act.put, sia, List.set]
  refine take_ (i := 7) (N := some 76) (v := .slice (some ⟨kg, n * 3, none⟩) 2 (kcap - n)) #[true, true, true, true, true, true, true, true, false] rfl rfl (by kernel_rfl) (fun _ _ _ h => h) (Or.inl ⟨by kernel_rfl, by intro w' z1; go_simp⟩) hS rfl ?_
  simp only [Act.put, sia, List.set]
  refine one_ (i := 8) (N := some 77) #[true, true, true, true, true, true, true, true, true] rfl rfl (by kernel_rfl) (by simp) (fun K hK => ?_)
  refine step_copy_k W.drew (by kernel_rfl) (.tmp 73) (.tmp 76) 51 51 rfl 53 Tryz.underlying51 3 infoS kg ((n + 1) * 3) 1 (kcap - (n + 1)) ⟨kg, n * 3, none⟩ 2 (kcap - n) rfl rfl cur 53 HK.out.2.1 [a, b, c] rfl HS.out (by have := HK.out.2.2.2.1; simp only [List.length_cons, List.length_nil]; omega) HA.out ?_
  refine hK.out _ _ trivial (fun hS => ?_)
  clear hK
  try simp only [Act.put, sia, List.set]
  refine wpAnyLast_done (by kernel_rfl) ?_ _
  generalize hW4 : World.setRow W.drew kg _ = W4
  have HW4 := ak hW4
  clear hW4
  go_wp2_with fail
  obtain ⟨hbg, hkg, hkm, hks, hkt⟩ := HK.out
  have hxl := HX.out.1
  obtain ⟨rest, hrest⟩ : ∃ rest, rest = cur.toList.drop ((n + 1) * 3 + [a, b, c].length) := ⟨_, rfl⟩
  have hrl : rest.length = (kcap - (n + 2)) * 3 := by
   rw [hrest, List.length_drop, Array.length_toList, hks]
   show kcap * 3 - ((n + 1) * 3 + 3) = _
   omega
  have hb4 : W4.heap[kg]? = some (.cells (xs ++ ([a, b, c] ++ ([a, b, c] ++ rest))).toArray 53 (0, 0)) := by
   rw [← HW4.out, setRow_heap W.drew kg _ _ 53 _ hkg, hkt, ← hrest]
   congr 3
   simp only [List.append_assoc]
  have hg4 : ∀ g, g ≠ kg → W4.heap[g]? = W.heap[g]? := fun g hg => by
   rw [← HW4.out]
   exact setRow_other W.drew kg g _ hg
  have hsz4 : W4.heap.size = W.heap.size := by
   rw [← HW4.out]
   simp [World.setRow]
  have ho4 : W4.os = W.os ∧ W4.tape = W.tape ∧ W4.output = W.output := by
   rw [← HW4.out]
   exact ⟨rfl, rfl, rfl⟩
  have hv4 := (hg4 gv hne).trans HV.out
  obtain ⟨i0, hi, hsz⟩ := Option.map_eq_some_iff.1 infoS
  have hrun := run_copy_k (P := Tryz.prog) W4 51 51 3 53 i0 kg (n * 3) 2 (kcap - n) ⟨gv, 0, none⟩ 1 1 (xs ++ ([a, b, c] ++ ([a, b, c] ++ rest))).toArray 53 Z0 Tryz.underlying51 hi hb4 (by rw [hsz]; rfl) (src_cells (fun j v hj => by rw [Nat.zero_add]; exact (blk_cell hv4 j).trans (by simpa [Z0] using hj))) (by simp only [List.size_toArray, List.length_append, List.length_cons, List.length_nil, hxl]; omega) Z0_one
  rw [hrun]
  generalize hW5 : World.setRow W4 kg _ = W5
  have HW5 := ak hW5
  have HK5 := ak (And.intro hb4 (And.intro hg4 (And.intro hsz4 (And.intro ho4 hrl))))
  clear hW5 hbg hkg hkm hks hkt hb4 hg4 hsz4 ho4 hv4 hi hsz hrun hrest hrl hxl
  go_wp2_with fail
  go_ret
  obtain ⟨hbg, hkg, hkm, hks, hkt⟩ := HK.out
  obtain ⟨hb4, hg4, hsz4, ho4, hrl⟩ := HK5.out
  have hxl := HX.out.1
  have hb5 : W5.heap[kg]? = some (.cells (xs ++ (Z0 ++ ([a, b, c] ++ rest))).toArray 53 (0, 0)) := by
   rw [← HW5.out, setRow_heap W4 kg _ _ 53 _ hb4]
   congr 3
   show List.take (n * 3) (xs ++ ([a, b, c] ++ ([a, b, c] ++ rest))) ++ Z0 ++ List.drop (n * 3 + Z0.length) (xs ++ ([a, b, c] ++ ([a, b, c] ++ rest))) = _
   rw [List.take_left' hxl, show (xs ++ ([a, b, c] ++ ([a, b, c] ++ rest))).drop (n * 3 + Z0.length) = [a, b, c] ++ rest by rw [← hxl, show Z0.length = [a, b, c].length from rfl, ← List.length_append, ← List.append_assoc, List.drop_left]]
   simp only [List.append_assoc]
  have hg5 : ∀ g, g ≠ kg → W5.heap[g]? = W.heap[g]? := fun g hg => by
   rw [← HW5.out, setRow_other W4 kg g _ hg]
   exact hg4 g hg
  refine ⟨_, rfl, ⟨?_, .inr ⟨kg, kcap, _, rfl, hbg, hb5, by omega, hkm, ?_, ?_⟩⟩, ⟨by rw [← HW5.out]; exact ho4.1, by rw [← HW5.out]; exact ho4.2.1, by rw [← HW5.out]; exact ho4.2.2, by rw [← HW5.out]; simp [World.setRow, hsz4], fun k _ hk => hg5 k (fun e => hk (by rw [e]))⟩, .inl rfl⟩
  ·simp only [List.length_append, List.length_cons, List.length_nil, hxl]
   omega
  ·simp only [List.size_toArray, List.length_append, List.length_cons, List.length_nil, hxl, hrl]
   omega
  ·show List.take ((n + 2) * 3) (xs ++ (Z0 ++ ([a, b, c] ++ rest))) = _
   rw [show xs ++ (Z0 ++ ([a, b, c] ++ rest)) = (xs ++ ([Value.int .i64 0, .string ⟨#[]⟩, .slice none 0 0] ++ [a, b, c])) ++ rest by simp only [List.append_assoc]]
   exact List.take_left' (by simp only [List.length_append, List.length_cons, List.length_nil, hxl]; omega)
theorem PS.kids_mem {tp te B : Nat} {T : List Tok} {tv : Value} {pb : Nat} {W W1 : World} {pos : Nat} {low : List Tree} {kd : Int} {tx : ByteArray} {ks ks' : List Tree} {sb scap : Nat} {hd v1 : Value} {c1 cs' : List Value} {F1 Fs : List Nat}
  (h : PS tp te B T tv pb W pos (low ++ [.mk kd tx ks]) (sb :: (F1 ++ (own1 hd ++ Fs))))
  (hpb : W.heap[pb]? = some (.cells #[tv, .int .i64 (pos : Int), .slice (some ⟨sb, 0, none⟩) (low.length + 1) scap] tp (0, 0)))
  (ho : W.ownsRow B te 3 (.slice (some ⟨sb, 0, none⟩) (low.length + 1) scap) (low.length + 1) (c1 ++ [.int .i64 kd, .string tx, hd])) (hlow : TL W B te low c1 F1) (hks : TL W B te ks' cs' Fs)
  (hv : W1.ownsRow B te 3 v1 ks'.length cs') (hat : v1.ownBlock = hd.ownBlock ∨ ∃ b, v1.ownBlock = some b ∧ W.heap.size ≤ b)
  (ho1 : W1.os = W.os) (ho2 : W1.tape = W.tape) (ho3 : W1.output = W.output) (hsz : W.heap.size ≤ W1.heap.size) (hkp : ∀ g, g < W.heap.size → some g ≠ hd.ownBlock → W1.heap[g]? = W.heap[g]?) :
  ∃ F', PS tp te B T tv pb (W1.setCell ⟨sb, low.length * 3 + 2, none⟩ v1) pos (low ++ [.mk kd tx ks']) F' ∧ Fr pb (sb :: (F1 ++ (own1 hd ++ Fs))) F' W (W1.setCell ⟨sb, low.length * 3 + 2, none⟩ v1) := by
 obtain ⟨Ft, hFt⟩ : ∃ Ft : List Nat, Ft = [] := ⟨[], rfl⟩
 have hN : ((sb :: (F1 ++ (own1 hd ++ Fs))) ++ Ft).Nodup := by rw [hFt, List.append_nil]; exact h.nd
 have hpt : pb ∉ Ft := by rw [hFt]; simp
 have main : ∃ F', PS tp te B T tv pb (W1.setCell ⟨sb, low.length * 3 + 2, none⟩ v1) pos (low ++ [.mk kd tx ks']) F' ∧ Fr pb ((sb :: (F1 ++ (own1 hd ++ Fs))) ++ Ft) F' W (W1.setCell ⟨sb, low.length * 3 + 2, none⟩ v1) := by
  have hc1 := TL_len low c1 F1 hlow
  have nd := hN
  rw [nodup_app] at nd
  obtain ⟨nF, nT, nX⟩ := nd
  rw [List.nodup_cons] at nF
  have nF2 := nodup_app.1 nF.2
  have nF3 := nodup_app.1 nF2.2.1
  have bF : ∀ g ∈ sb :: (F1 ++ (own1 hd ++ Fs)), B ≤ g ∧ g < W.heap.size := h.rowsGe
  have bT : ∀ g ∈ Ft, B ≤ g ∧ g < W.heap.size := fun g hg => by rw [hFt] at hg; cases hg
  have hpbs : pb < W.heap.size := (Array.getElem?_eq_some_iff.1 hpb).1
  have hpF := h.pbF
  have hsbh : some sb ≠ hd.ownBlock := fun e => nF.1 (List.mem_append_right _ (List.mem_append_left _ (own1_mem.2 e.symm)))
  have hsb1 : sb < W.heap.size := (bF sb List.mem_cons_self).2
  have hsbv : some sb ≠ v1.ownBlock := by
   rcases hat with e | ⟨b, e, hb⟩
   ·rw [e]
    exact hsbh
   ·rw [e]
    intro hh
    injection hh with hh
    omega
  have hkeep : ∀ g, g < W.heap.size → some g ≠ hd.ownBlock → g ≠ sb → (W1.setCell ⟨sb, low.length * 3 + 2, none⟩ v1).heap[g]? = W.heap[g]? := fun g h1 h2 h3 => (Below.heap_setCell W1 ⟨sb, low.length * 3 + 2, none⟩ v1 g h3).trans (hkp g h1 h2)
  have hne : ∀ g, g ∈ F1 ∨ g ∈ Fs ∨ g ∈ Ft → some g ≠ hd.ownBlock ∧ g ≠ sb := by
   intro g hg
   refine ⟨fun e => ?_, fun e => ?_⟩
   ·have hm : g ∈ own1 hd := own1_mem.2 e.symm
    rcases hg with hg | hg | hg
    ·exact nF2.2.2 g hg (List.mem_append_left _ hm)
    ·exact nF3.2.2 g hm hg
    ·exact nX g (List.mem_cons_of_mem _ (List.mem_append_right _ (List.mem_append_left _ hm))) hg
   ·subst e
    rcases hg with hg | hg | hg
    ·exact nF.1 (List.mem_append_left _ hg)
    ·exact nF.1 (List.mem_append_right _ (List.mem_append_right _ hg))
    ·exact nX g List.mem_cons_self hg
  have hin : ∀ g, g ∈ F1 ∨ g ∈ Fs ∨ g ∈ Ft → g < W.heap.size := by
   rintro g (hg | hg | hg)
   ·exact (bF g (List.mem_cons_of_mem _ (List.mem_append_left _ hg))).2
   ·exact (bF g (List.mem_cons_of_mem _ (List.mem_append_right _ (List.mem_append_right _ hg)))).2
   ·exact (bT g hg).2
  have k1 : ∀ g ∈ F1, (W1.setCell ⟨sb, low.length * 3 + 2, none⟩ v1).heap[g]? = W.heap[g]? := fun g hg => hkeep g (hin g (.inl hg)) (hne g (.inl hg)).1 (hne g (.inl hg)).2
  have k2 : ∀ g ∈ Fs, (W1.setCell ⟨sb, low.length * 3 + 2, none⟩ v1).heap[g]? = W.heap[g]? := fun g hg => hkeep g (hin g (.inr (.inl hg))) (hne g (.inr (.inl hg))).1 (hne g (.inr (.inl hg))).2
  have k3 : ∀ g ∈ Ft, (W1.setCell ⟨sb, low.length * 3 + 2, none⟩ v1).heap[g]? = W.heap[g]? := fun g hg => hkeep g (hin g (.inr (.inr hg))) (hne g (.inr (.inr hg))).1 (hne g (.inr (.inr hg))).2
  have hostk : W1.ownsRow B te 3 (.slice (some ⟨sb, 0, none⟩) (low.length + 1) scap) (low.length + 1) (c1 ++ [.int .i64 kd, .string tx, hd]) := own_kept ho (fun g hg => by
   have : g = sb := by simpa [own1, Value.ownBlock] using hg
   subst this
   exact hkp g hsb1 hsbh)
  have hset := own_set hostk (low.length * 3 + 2) v1
  have hxs : (c1 ++ [Value.int .i64 kd, .string tx, hd]).set (low.length * 3 + 2) v1 = c1 ++ [.int .i64 kd, .string tx, v1] := by
   rw [List.set_append, if_neg (by omega), hc1]
   congr 1
   have : low.length * 3 + 2 - low.length * 3 = 2 := by omega
   rw [this]
   rfl
  rw [hxs] at hset
  have hnode : TR (W1.setCell ⟨sb, low.length * 3 + 2, none⟩ v1) B te ks' v1 (own1 v1 ++ (Fs ++ Ft)) :=
   ⟨cs', Fs ++ Ft, own_ne hv hsbv v1 _, rfl, by rw [hFt, List.append_nil]; exact TL_kept ks' cs' Fs hks k2⟩
  have hstk : TR (W1.setCell ⟨sb, low.length * 3 + 2, none⟩ v1) B te (low ++ [.mk kd tx ks']) (.slice (some ⟨sb, 0, none⟩) (low.length + 1) scap) (sb :: (F1 ++ (own1 v1 ++ (Fs ++ Ft)))) := by
   refine ⟨c1 ++ [.int .i64 kd, .string tx, v1], F1 ++ (own1 v1 ++ (Fs ++ Ft)), ?_, by simp [own1, Value.ownBlock], TL_append low _ c1 _ F1 _ (TL_kept low c1 F1 hlow k1) (TL_one (TC_mk.2 ⟨v1, rfl, hnode⟩))⟩
   rw [List.length_append, List.length_singleton]
   exact hset
  have hv1 : ∀ g ∈ own1 v1, g ∈ own1 hd ∨ W.heap.size ≤ g := by
   intro g hg
   rcases hat with e | ⟨b, e, hb⟩
   ·left
    rw [own1_mem] at hg ⊢
    rw [← e]
    exact hg
   ·right
    rw [own1_mem, e] at hg
    injection hg with hg
    omega
  have hnew : (sb :: (F1 ++ (own1 v1 ++ (Fs ++ Ft)))).Nodup := by
   rw [List.nodup_cons, nodup_app, nodup_app, nodup_app]
   refine ⟨fun hh => ?_, nF2.1, ⟨own1_nodup _, ⟨nF3.2.1, nT, fun x hx hx2 => nX x (List.mem_cons_of_mem _ (List.mem_append_right _ (List.mem_append_right _ hx))) hx2⟩, fun x hx hx2 => ?_⟩, fun x hx hx2 => ?_⟩
   ·rcases List.mem_append.1 hh with hh | hh
    ·exact nF.1 (List.mem_append_left _ hh)
    ·rcases List.mem_append.1 hh with hh | hh
     ·exact hsbv (own1_mem.1 hh).symm
     ·rcases List.mem_append.1 hh with hh | hh
      ·exact nF.1 (List.mem_append_right _ (List.mem_append_right _ hh))
      ·exact nX sb List.mem_cons_self hh
   ·have hlt : x < W.heap.size := by
     rcases List.mem_append.1 hx2 with hh | hh
     ·exact hin x (.inr (.inl hh))
     ·exact hin x (.inr (.inr hh))
    rcases hv1 x hx with h1 | h1
    ·rcases List.mem_append.1 hx2 with hh | hh
     ·exact nF3.2.2 x h1 hh
     ·exact nX x (List.mem_cons_of_mem _ (List.mem_append_right _ (List.mem_append_left _ h1))) hh
    ·omega
   ·have hlt := hin x (.inl hx)
    rcases List.mem_append.1 hx2 with hh | hh
    ·rcases hv1 x hh with h1 | h1
     ·exact nF2.2.2 x hx (List.mem_append_left _ h1)
     ·omega
    ·rcases List.mem_append.1 hh with hh | hh
     ·exact nF2.2.2 x hx (List.mem_append_right _ hh)
     ·exact nX x (List.mem_cons_of_mem _ (List.mem_append_left _ hx)) hh
  have hmem : ∀ g ∈ sb :: (F1 ++ (own1 v1 ++ (Fs ++ Ft))), g ∈ (sb :: (F1 ++ (own1 hd ++ Fs))) ++ Ft ∨ W.heap.size ≤ g := by
   intro g hg
   rcases List.mem_cons.1 hg with rfl | hg
   ·exact .inl (List.mem_append_left _ List.mem_cons_self)
   ·rcases List.mem_append.1 hg with hg | hg
    ·exact .inl (List.mem_append_left _ (List.mem_cons_of_mem _ (List.mem_append_left _ hg)))
    ·rcases List.mem_append.1 hg with hg | hg
     ·rcases hv1 g hg with h1 | h1
      ·exact .inl (List.mem_append_left _ (List.mem_cons_of_mem _ (List.mem_append_right _ (List.mem_append_left _ h1))))
      ·exact .inr h1
     ·rcases List.mem_append.1 hg with hg | hg
      ·exact .inl (List.mem_append_left _ (List.mem_cons_of_mem _ (List.mem_append_right _ (List.mem_append_right _ hg))))
      ·exact .inl (List.mem_append_right _ hg)
  have hfr : Fr pb ((sb :: (F1 ++ (own1 hd ++ Fs))) ++ Ft) (sb :: (F1 ++ (own1 v1 ++ (Fs ++ Ft)))) W (W1.setCell ⟨sb, low.length * 3 + 2, none⟩ v1) := by
   refine ⟨ho1, ho2, ho3, by simpa [World.setCell] using hsz, fun g h1 h2 h3 => ?_, hmem⟩
   refine hkeep g h1 (fun e => h3 (List.mem_append_left _ (List.mem_cons_of_mem _ (List.mem_append_right _ (List.mem_append_left _ (own1_mem.2 e.symm)))))) (fun e => h3 (List.mem_append_left _ (by rw [e]; exact List.mem_cons_self)))
  have hpbn : pb ∉ sb :: (F1 ++ (own1 v1 ++ (Fs ++ Ft))) := by
   intro hh
   rcases hmem pb hh with h1 | h1
   ·rcases List.mem_append.1 h1 with h1 | h1
    ·exact hpF h1
    ·exact hpt h1
   ·omega
  obtain ⟨Wt, t1, t2, t3⟩ := h.tok
  refine ⟨_, ⟨⟨_, ?_, hstk⟩, hnew, hpbn, h.ge, Wt, t1, t2, ?_⟩, hfr⟩
  ·rw [hkeep pb hpbs (fun e => hpF (List.mem_cons_of_mem _ (List.mem_append_right _ (List.mem_append_left _ (own1_mem.2 e.symm))))) (fun e => hpF (by rw [e]; exact List.mem_cons_self)), hpb]
  ·refine t3.trans ((hfr.below h.ge (fun g hg => ?_) (by have := h.ge; omega)).mono t1)
   rcases List.mem_append.1 hg with hg | hg
   ·exact (bF g hg).1
   ·exact (bT g hg).1
 rw [hFt, List.append_nil] at main
 exact main
end Go.Proofs.YtkijamagbgigmaaGreatDoor.Par
namespace Go.Proofs.YtkijamagbgigmaaGreatDoor.Par
open Go.RowKit Go.Proofs.YtkijamagbgigmaaGreatDoorW.PrintWords Go.Proofs.YtkijamagbgigmaaGreatDoorW.PrintLast
variable {B : Nat} {T : List Tok} {tv : Value} {pb : Nat} {m : Nat} {low : List Tree} {kd : Int} {tx : ByteArray} {W0 : World} {F0 : List Nat} {W : World} {s : St}
theorem impl_in {p : Bool × St} (h : (match s.2.getLast? with | none => none | some t => some (false, (s.1, s.2.dropLast ++ [.mk 0 noText [], t]))) = some p) : ∃ ks t, s = (s.1, ks ++ [t]) ∧ p = (false, (s.1, ks ++ [.mk 0 noText [], t])) := by
 cases hg : s.2.getLast? with
 | none =>
  rw [hg] at h
  cases h
 | some t =>
  rw [hg] at h
  have hd : s.2 = s.2.dropLast ++ [t] := by
   have hne : s.2 ≠ [] := by
    rintro e
    rw [e] at hg
    cases hg
   have h3 := List.dropLast_concat_getLast hne
   rw [List.getLast?_eq_some_getLast hne] at hg
   cases hg
   exact h3.symm
  exact ⟨s.2.dropLast, t, Prod.ext rfl hd, some_in h⟩
theorem Now.kidsAt {ks : List Tree} {t : Tree} (N : Now B T tv pb m low kd tx W0 F0 W s) (hs : s = (s.1, ks ++ [t])) :
  ∃ sb scap kg kcap xs hv, W.cell? ⟨pb, 2, none⟩ = some (.slice (some ⟨sb, 0, none⟩) (low.length + 1) scap) ∧ W.cell? ⟨sb, low.length * 3 + 2, none⟩ = some (.slice (some ⟨kg, 0, none⟩) (ks.length + 1) kcap) ∧ (∀ i, W.frozen? ⟨sb, i, none⟩ = false) ∧
   W.ownsRow B 53 3 (.slice (some ⟨kg, 0, none⟩) (ks.length + 1) kcap) (ks.length + 1) (xs ++ [.int .i64 t.kind, .string t.text, hv]) ∧ (∃ A c, hv = .slice A t.kids.length c) ∧
   sb ≠ kg ∧ sb < W.heap.size ∧ kg < W.heap.size ∧ low.length ≤ 10000000 ∧ ks.length ≤ 100000 + m ∧
   ∀ (Wd W1 : World) v1, Below W.heap.size W Wd → W1.ownsRow B 53 3 v1 (ks.length + 2) (xs ++ ([.int .i64 0, .string ⟨#[]⟩, .slice none 0 0] ++ [.int .i64 t.kind, .string t.text, hv])) → Wd.grownBy W1 (some kg) → (v1.ownBlock = some kg ∨ ∃ b, v1.ownBlock = some b ∧ Wd.heap.size ≤ b) →
    Now B T tv pb (m + 1) low kd tx W0 F0 (W1.setCell ⟨sb, low.length * 3 + 2, none⟩ v1) (s.1, ks ++ [.mk 0 noText [], t]) := by
 obtain ⟨F, h1, h2⟩ := N.st
 have e2 : s.2 = ks ++ [t] := congrArg Prod.snd hs
 have hk := N.kids
 have hpo := N.pos
 have hle := N.len
 rw [e2] at h1 hk
 simp only [List.length_append, List.length_singleton] at hk
 obtain ⟨sb, scap, hd, c1, F1, cs, Fs, p1, p2, p3, p4, p5, rfl⟩ := h1.top
 obtain ⟨ca, cb, Fa, Fb, rfl, rfl, k3, k4⟩ := TL_last p5
 obtain ⟨hv, rfl, k5⟩ := TC_cells k4
 rw [List.length_append, List.length_singleton] at p4
 obtain ⟨kg, kcap, rfl, n1, n2, n3, n4, n5, n6⟩ := own_new p4
 obtain ⟨_, _, e1, m1, m2, m3, m4, m5, m6⟩ := own_new p2
 simp only [Value.slice.injEq, Option.some.injEq, Addr.mk.injEq, and_true] at e1
 obtain ⟨rfl, _, rfl⟩ := e1
 have hO : own1 (Value.slice (some ⟨kg, 0, none⟩) (ks.length + 1) kcap) = [kg] := by simp [own1, Value.ownBlock]
 have nd1 := List.nodup_cons.1 h1.nd
 have hks : sb ≠ kg := fun e => nd1.1 (by rw [e, hO]; exact List.mem_append_right _ (List.mem_append_left _ (by simp)))
 have hbd := h1.rowsGe
 refine ⟨sb, scap, kg, kcap, ca, hv, (blk_cell p1 2).trans rfl, m5, m6, p4, (by obtain ⟨_, _, q, _⟩ := k5; exact own_slice q), hks, m2, n2, N.low, by omega, fun Wd W1 v1 hbel hown hgr hat => ?_⟩
 have kW : ∀ g, g < W.heap.size → Wd.heap[g]? = W.heap[g]? := hbel.block
 have hTL : TL W B 53 (ks ++ [.mk 0 noText [], t]) (ca ++ ([.int .i64 0, .string ⟨#[]⟩, .slice none 0 0] ++ [.int .i64 t.kind, .string t.text, hv])) (Fa ++ Fb) := by
  refine TL_append ks _ ca _ Fa _ k3 ?_
  simp only [TL]
  exact ⟨[.int .i64 0, .string ⟨#[]⟩, .slice none 0 0], [.int .i64 t.kind, .string t.text, hv], [], Fb, rfl, rfl, TC_leaf, [.int .i64 t.kind, .string t.text, hv], [], Fb, [], by simp, by simp, k4, rfl, rfl⟩
 obtain ⟨F', f1, f2⟩ := PS.kids_mem (W := Wd) (W1 := W1) (ks' := ks ++ [.mk 0 noText [], t]) (cs' := ca ++ ([.int .i64 0, .string ⟨#[]⟩, .slice none 0 0] ++ [.int .i64 t.kind, .string t.text, hv])) (v1 := v1) (h1.below hbel) ((kW pb (blk_lt p1)).trans p1)
  (own_kept p2 (fun g hg => kW g (own_bound p2 g hg).2.1)) (TL_kept low c1 F1 p3 (fun g hg => kW g (TL_bound low c1 F1 p3 g hg).2.1)) (TL_kept _ _ _ hTL (fun g hg => kW g (TL_bound _ _ _ hTL g hg).2.1))
  (by rw [List.length_append]; exact hown) hat hgr.os hgr.tape hgr.output hgr.size (fun g g1 g2 => hgr.block g g1 (fun e => g2 (by rw [e]; rfl)))
 exact ⟨⟨F', f1, h2.trans ((Fr.of_below hbel).trans f2)⟩, hpo, hle, N.low, by simp; omega⟩
end Go.Proofs.YtkijamagbgigmaaGreatDoor.Par
namespace Go.Proofs.YtkijamagbgigmaaGreatDoor.Par
open Go.RowKit Go.Proofs.YtkijamagbgigmaaGreatDoorW.PrintWords Go.Proofs.YtkijamagbgigmaaGreatDoorW.PrintLast
variable {B : Nat} {T : List Tok} {tv : Value} {pb : Nat} {low : List Tree} {kd : Int} {tx : ByteArray} {W0 : World} {F0 : List Nat}
theorem implS_go  {k : Nat}  (ih : ∀ i, i < k → IH B T tv pb i) : Meth B T tv pb k .implS 105 #[.pointer (some ⟨pb, 0, none⟩)] (fun _ => .tuple #[]) := by
 intro m low kd tx W0 F0 W s q hm hlow N hr
 obtain ⟨j, rfl, h1, h2, h3⟩ := run_some hr
 have H0 := ak (N.fit h1)
 have E0 := ak h2
 have G := ak h3
 have HL := ak hlow
 have RUN := ak hr
 clear N h1 h2 h3 hr hlow
 go_enter Tryz.func105, Tryz.ntmps105
 go_wp2_with fail
 obtain ⟨p1, e1, d1⟩ := sq_cons E0.out
 have R1 := ak e1
 have E2 := ak (d1)
 clear E0 e1 d1
 refine ((ih j (by omega)).typeParams _ _ _ _ _ _ _ _ _ (by omega) (by have := HL.out; omega) H0.out R1.out).mono ?_
 rintro e W3 ⟨rfl, N3⟩
 have H3 := ak N3
 clear N3 H0
 go_wp2_with fail
 obtain ⟨p4, e4, d4⟩ := sq_cons E2.out
 have R4 := ak e4
 have E5 := ak (d4)
 clear E2 e4 d4
 refine ((ih j (by omega)).typeExpr _ _ _ _ _ _ _ _ _ (by omega) (by have := HL.out; omega) H3.out R4.out).mono ?_
 rintro e W6 ⟨rfl, N6⟩
 have H6 := ak N6
 clear N6 H3
 go_wp2_with fail
 obtain ⟨p7, e7, d7⟩ := sq_cons E5.out
 have X7 := ak e7
 have Y7 := ak d7
 clear e7 d7 E5
 refine (accept_lit H6.out (by omega) [(⟨#[102, 111, 114]⟩ : ByteArray)] (by simp)).mono ?_
 rintro e W9 ⟨rfl, N9⟩
 rcases at_cases H6.out [(⟨#[102, 111, 114]⟩ : ByteArray)] with b8 | b8
 ·rw [acceptS_t b8] at N9
  rw [b8]
  have H9 := ak N9
  clear N9 H6
  have E10 := ak (if_t b8 X7.out)
  clear X7 b8
  go_wp2_with fail
  refine ((ih j (by omega)).typeExpr _ _ _ _ _ _ _ _ _ (by omega) (by have := HL.out; omega) H9.out E10.out).mono ?_
  rintro e W11 ⟨rfl, N11⟩
  have H11 := ak N11
  clear N11 H9
  go_wp2_with fail
  obtain ⟨p12, e12, d12⟩ := sq_cons Y7.out
  have R12 := ak e12
  have E13 := ak (d12)
  clear Y7 e12 d12
  refine ((ih j (by omega)).members _ _ _ _ _ _ _ _ _ (by omega) (by have := HL.out; omega) H11.out R12.out).mono ?_
  rintro e W14 ⟨rfl, N14⟩
  have H14 := ak N14
  clear N14 H11
  go_wp2_with fail
  go_end0
  obtain hq := sq_nil E13.out
  have hf := G.out
  rw [hq] at hf ⊢
  exact ⟨rfl, (H14.out.fit hf)⟩
 ·rw [acceptS_f b8] at N9
  rw [b8]
  have H9 := ak N9
  clear N9 H6
  have E15 := ak (if_f b8 X7.out)
  clear X7 b8
  go_wp2_with fail
  obtain ⟨ks, t, hs, hp16⟩ := impl_in E15.out
  have D16 := ak hp16
  clear hp16 E15
  obtain ⟨sb, scap, kg, kcap, xs, hv, o2, o4, hfz, hown, ⟨hvA, hvc, rfl⟩, hsk, hsl, hkl, hlw, hkl2, hkids⟩ := H9.out.kidsAt hs
  have HK := ak (And.intro hkids hown)
  have hfz0 := hfz (low.length * 3 + 2)
  have hl1 : IntKind.i64.wrap (((low.length : Nat) : Int) + 1 - 1) = ((low.length : Nat) : Int) := by rw [IntKind.wrap_i64]; omega
  have hl2 : IntKind.i64.wrap (((low.length + 1 : Nat) : Int) - 1) = ((low.length : Nat) : Int) := by rw [IntKind.wrap_i64]; omega
  have hl3 : IntKind.i64.wrap ((low.length : Nat) : Int) = ((low.length : Nat) : Int) := by rw [IntKind.wrap_i64]; omega
  have hk1 : IntKind.i64.wrap (((ks.length : Nat) : Int) + 1 - 1) = ((ks.length : Nat) : Int) := by rw [IntKind.wrap_i64]; omega
  have hk2 : IntKind.i64.wrap (((ks.length + 1 : Nat) : Int) - 1) = ((ks.length : Nat) : Int) := by rw [IntKind.wrap_i64]; omega
  have hk3 : IntKind.i64.wrap ((ks.length : Nat) : Int) = ((ks.length : Nat) : Int) := by rw [IntKind.wrap_i64]; omega
  have i0 : (0 : Int) ≤ ((low.length : Nat) : Int) := by omega
  have i1 : ((low.length : Nat) : Int) < ((low.length + 1 : Nat) : Int) := by omega
  have i2 : ((low.length : Nat) : Int) < ((low.length : Nat) : Int) + 1 := by omega
  clear hs hkids hown hfz
  go_region_held3 (fun w' => w'.cell? ⟨pb, 2, none⟩ = some (.slice (some ⟨sb, 0, none⟩) (low.length + 1) scap)) (go_keep) (fail)
  go_wp2_with fail
  obtain ⟨Wd, hWd⟩ : ∃ Wd, (W9.alloc (Obj.cells #[Value.int IntKind.i64 0, Value.string { data := #[] }, Value.slice none 0 0] 53)).drew = Wd := ⟨_, rfl⟩
  have HB := ak (show Below W9.heap.size W9 Wd by rw [← hWd]; exact below_drew (below_alloc (Below.refl _ _) _))
  have HV := ak (show Wd.heap[W9.heap.size]? = some (.cells #[.int .i64 0, .string ⟨#[]⟩, .slice none 0 0] 53 (0, 0)) by rw [← hWd]; exact blk_drew (blk_new W9 _))
  have q4 : Wd.cell? ⟨sb, low.length * 3 + 2, none⟩ = some (.slice (some ⟨kg, 0, none⟩) (ks.length + 1) kcap) := (World.cell?_of_block (HB.out.block sb hsl)).trans o4
  have q5 : Wd.frozen? ⟨sb, low.length * 3 + 2, none⟩ = false := (World.frozen?_of_block (HB.out.block sb hsl)).trans hfz0
  rw [hWd]
  clear hWd o2 o4 hfz0
  refine (insert_calls (xs := xs) (a := .int .i64 t.kind) (b := .string t.text) (c := .slice hvA t.kids.length hvc) (own_kept HK.out.2 (fun g hg => (HB.out.block g (own_bound HK.out.2 g hg).2.1))) HV.out (by omega) (by omega) (by intro u hu; simp only [List.mem_cons, List.not_mem_nil, or_false] at hu; rcases hu with rfl | rfl | rfl <;> rfl)).mono ?_
  rintro e W70 ⟨v1, rfl, hown, hg, hat⟩
  have HG := ak (And.intro hown (And.intro hg hat))
  have r0 : W70.cell? ⟨sb, low.length * 3 + 2, none⟩ = some (.slice (some ⟨kg, 0, none⟩) (ks.length + 1) kcap) := (World.cell?_of_block (hg.block sb (by have := HB.out.size; omega) (fun e => hsk (Option.some.inj e)))).trans q4
  have r4 : W70.frozen? ⟨sb, low.length * 3 + 2, none⟩ = false := (World.frozen?_of_block (hg.block sb (by have := HB.out.size; omega) (fun e => hsk (Option.some.inj e)))).trans q5
  obtain ⟨v1A, v1c, rfl⟩ := own_slice hown
  clear hown hg hat
  go_wp2_with fail
  obtain ⟨hown, hg, hat⟩ := HG.out
  have N90 := HK.out.1 Wd W70 _ HB.out hown hg hat
  have H90 := ak N90
  generalize W70.setCell ⟨sb, low.length * 3 + 2, none⟩ _ = W90 at H90 ⊢
  clear hown hg hat N90 r0 r4 q4 q5
  go_wp2_with fail
  have hp17 := D16.out
  have E17 := ak (by have h := Y7.out; rw [hp17] at h; exact h)
  clear hp17 D16 Y7
  obtain ⟨p18, e18, d18⟩ := sq_cons E17.out
  have R18 := ak e18
  have E19 := ak (d18)
  clear E17 e18 d18
  refine ((ih j (by omega)).members _ _ _ _ _ _ _ _ _ (by omega) (by have := HL.out; omega) H90.out R18.out).mono ?_
  rintro e W20 ⟨rfl, N20⟩
  have H20 := ak N20
  clear N20 H90
  go_wp2_with fail
  go_end0
  obtain hq := sq_nil E19.out
  have hf := G.out
  rw [hq] at hf ⊢
  exact ⟨rfl, (H20.out.fit hf)⟩
theorem itemB_do (kind : Int) {k : Nat} {bxp : Nat} {bxk : Nat} (hk1 : 2 ≤ kind) (hk2 : kind ≤ 9) (ih : ∀ i, i < k → IH B T tv pb i) (hb_bxp : Box pb W0 F0 bxp (.pointer (some ⟨pb, 0, none⟩))) (hb_bxk : Box pb W0 F0 bxk (.int .i64 kind)) (hlow : low.length + k ≤ 10000000) : Does B T tv pb (k + 1) (.itemB kind) 57 #[.pointer (some ⟨bxp, 0, none⟩), .pointer (some ⟨bxk, 0, none⟩)] low kd tx W0 F0 := by
 intro i hi m W s q hm N hr
 obtain ⟨j, rfl, h1, h2, h3⟩ := run_some hr
 have H0 := ak (N.fit h1)
 have E0 := ak h2
 have G := ak h3
 have HL := ak (show low.length + (j + 1) ≤ 10000000 by omega)
 have B_bxp := ak hb_bxp
 have c0_bxp := N.box hb_bxp
 have B_bxk := ak hb_bxk
 have c0_bxk := N.box hb_bxk
 clear N h1 h2 h3 hr hlow hb_bxp hb_bxk
 go_enter Tryz.func57, Tryz.ntmps57
 go_wp2_with fail
 have E1 := ak (sq_st E0.out)
 clear E0
 refine (accept_lit H0.out (by omega) [(⟨#[112, 117, 98]⟩ : ByteArray)] (by simp)).mono ?_
 rintro e W2 ⟨rfl, N2⟩
 have H2 := ak N2
 have c2_bxp := N2.box B_bxp.out
 have c2_bxk := N2.box B_bxk.out
 clear N2 H0 c0_bxp c0_bxk
 go_wp2_with fail
 have E3 := ak (sq_st E1.out)
 clear E1
 refine (bump_now H2.out (by omega)).mono ?_
 rintro e W4 ⟨rfl, N4⟩
 have H4 := ak N4
 have c4_bxp := N4.box B_bxp.out
 have c4_bxk := N4.box B_bxk.out
 clear N4 H2 c2_bxp c2_bxk
 go_wp2_with fail
 obtain ⟨p5, e5, d5⟩ := sq_cons E3.out
 have R5 := ak e5
 have E6 := ak (d5)
 clear E3 e5 d5
 refine ((ih j (by omega)).itemBody kind hk1 hk2 _ _ _ _ _ _ _ _ _ (by omega) (by have := HL.out; omega) H4.out R5.out).mono ?_
 rintro e W7 ⟨rfl, N7⟩
 have H7 := ak N7
 have c7_bxp := N7.box B_bxp.out
 have c7_bxk := N7.box B_bxk.out
 clear N7 H4 c4_bxp c4_bxk
 go_wp2_with fail
 go_end0
 obtain hq := sq_nil E6.out
 have hf := G.out
 rw [hq] at hf ⊢
 exact ⟨⟨_, rfl⟩, _, (H7.out.fit hf)⟩
end Go.Proofs.YtkijamagbgigmaaGreatDoor.Par
namespace Go.Proofs.YtkijamagbgigmaaGreatDoor.Par
open Go.RowKit Go.Proofs.YtkijamagbgigmaaGreatDoorW.PrintWords Go.Proofs.YtkijamagbgigmaaGreatDoorW.PrintLast
theorem idx_said (x : ByteArray) : ∀ (zs : List ByteArray) (i : Nat), Lib.idxFromS zs x i = match zs.findIdx? (fun z => decide (z = x)) with
  | some k => ((i + k : Nat) : Int)
  | none => -1
 | [], i => by simp [Lib.idxFromS]
 | z :: zs, i => by
  unfold Lib.idxFromS
  rw [List.findIdx?_cons]
  by_cases h : z = x
  ·simp [h]
  ·rw [idx_said x zs (i + 1)]
   rw [if_neg h]
   simp only [h, decide_false]
   cases zs.findIdx? (fun z => decide (z = x)) with
   | none => rfl
   | some k =>
    show ((i + 1 + k : Nat) : Int) = ((i + (k + 1) : Nat) : Int)
    congr 1
    omega
def kindKw : List ByteArray := [(⟨#[117, 115, 101]⟩ : ByteArray), (⟨#[102, 110]⟩ : ByteArray), (⟨#[115, 116, 114, 117, 99, 116]⟩ : ByteArray), (⟨#[101, 110, 117, 109]⟩ : ByteArray), (⟨#[116, 114, 97, 105, 116]⟩ : ByteArray), (⟨#[105, 109, 112, 108]⟩ : ByteArray), (⟨#[99, 111, 110, 115, 116]⟩ : ByteArray), (⟨#[109, 97, 99, 114, 111]⟩ : ByteArray)]
theorem kindOf_eq (x : ByteArray) : kindOf x = match kindKw.findIdx? (fun z => decide (z = x)) with
  | some i => 2 + (i : Int)
  | none => 0 := rfl
theorem kindOf_range (x : ByteArray) : kindOf x = 0 ∨ (2 ≤ kindOf x ∧ kindOf x ≤ 9) := by
 rw [kindOf_eq]
 cases h : kindKw.findIdx? (fun z => decide (z = x)) with
 | none => exact .inl rfl
 | some i =>
  have := (List.findIdx?_eq_some_iff_findIdx_eq.1 h).1
  have hl : kindKw.length = 8 := rfl
  right
  show 2 ≤ 2 + (i : Int) ∧ 2 + (i : Int) ≤ 9
  omega
def kindText : ByteArray := ⟨#[117, 115, 101, 32, 102, 110, 32, 115, 116, 114, 117, 99, 116, 32, 101, 110, 117, 109, 32, 116, 114, 97, 105, 116, 32, 105, 109, 112, 108, 32, 99, 111, 110, 115, 116, 32, 109, 97, 99, 114, 111]⟩
theorem kindText_fields : (Lib.fields kindText.data.toList).map (fun l => Value.string ⟨l.toArray⟩) = kindKw.map Value.string := by kernel_rfl
theorem kindText_len : (Lib.fields kindText.data.toList).length = 8 := by kernel_rfl
theorem kindText_ascii : ∀ (j : Nat) b, kindText.data.toList[j]? = some b → b.toNat < 128 := by
 have h : kindText.data.toList.all (fun b => decide (b.toNat < 128)) = true := by kernel_rfl
 intro j b hb
 exact odt (List.all_eq_true.1 h b (List.mem_of_getElem? hb))
theorem kindText_size : kindText.size < 4294967281 := by
 have : kindText.size = 41 := by kernel_rfl
 omega
theorem item_in {T : List Tok} {r : NT → St → Ans} {s : St} {q : Bool × St} (h : step T r .item s = some q) {n : Nat} (hn : (if atT T s.1 [(⟨#[112, 117, 98]⟩ : ByteArray)] = true then lookT T s.1 else s.1) = n) {tk : Int} {tt : ByteArray} (h1 : (peekT T n).1 = tk) (h2 : (peekT T n).2 = tt) :
  ((kindOf tt = 0 ∨ tk ≠ 104) → r .skipToItem s = some q) ∧ (¬ (kindOf tt = 0 ∨ tk ≠ 104) → nodeM (kindOf tt) (r (.itemB (kindOf tt))) s = some q) := by
 subst hn h1 h2
 change (if _ then _ else _) = _ at h
 constructor
 ·intro hc
  rwa [if_pos hc] at h
 ·intro hc
  rwa [if_neg hc] at h
theorem kind_calls (tx : ByteArray) (W : World) (h : Spc W) : Calls Tryz.prog 54 #[.string tx] W fun e W' => e = .returned (.int .i64 (kindOf tx)) ∧ Below W.heap.size W W' := by
 go_enter Tryz.func54, Tryz.ntmps54
 have H := ak h
 clear h
 go_wp2_with fail
 refine (Tryz.strings_Fields kindText W kindText_size kindText_ascii H.out).mono ?_
 rintro e W1 ⟨rfl, rfl⟩
 rw [kindText_fields, kindText_len]
 go_wp2_with fail
 refine (Tryz.slices_Index_string W.heap.size 0 8 8 kindKw tx _ (by decide) (by decide) (fun j hj => ?_)).mono ?_
 ·have h1 := blk_cell (blk_new W (Obj.cells (kindKw.map Value.string).toArray 9)) (0 + j)
  refine h1.trans ?_
  rw [Nat.zero_add]
  have : j = 0 ∨ j = 1 ∨ j = 2 ∨ j = 3 ∨ j = 4 ∨ j = 5 ∨ j = 6 ∨ j = 7 := by
   have hl : kindKw.length = 8 := rfl
   omega
  rcases this with rfl | rfl | rfl | rfl | rfl | rfl | rfl | rfl <;> rfl
 rintro e W2 ⟨rfl, rfl⟩
 have hidx := idx_said tx kindKw 0
 have hk := kindOf_eq tx
 have hft : List.take 8 kindKw = kindKw := rfl
 obtain ⟨r, hr⟩ : ∃ r, Hid (Lib.idxOfS (List.take 8 kindKw) tx = r) := ⟨_, rfl⟩
 rw [show Lib.idxOfS (List.take 8 kindKw) tx = r from hr]
 have hr2 : r = match kindKw.findIdx? (fun z => decide (z = tx)) with
  | some k => ((0 + k : Nat) : Int)
  | none => -1 := by rw [← show Lib.idxOfS (List.take 8 kindKw) tx = r from hr, hft]; exact hidx
 cases hf : kindKw.findIdx? (fun z => decide (z = tx)) with
 | none =>
  rw [hf] at hr2 hk
  simp only at hr2 hk
  subst hr2
  have HK := ak hk
  clear hidx hk hft hr hf
  go_wp2_with fail
  go_ret
  exact ⟨by rw [HK.out]; rfl, below_alloc (Below.refl _ _) _⟩
 | some i =>
  have hi8 := (List.findIdx?_eq_some_iff_findIdx_eq.1 hf).1
  have hl : kindKw.length = 8 := rfl
  rw [hf] at hr2 hk
  simp only [Nat.zero_add] at hr2 hk
  subst hr2
  have HK := ak hk
  have n0 : ¬ ((i : Int) < 0) := by omega
  have n1 : decide ((i : Int) < 0) = false := decide_eq_false (by omega)
  have n2 : IntKind.i64.wrap (2 + (i : Int)) = 2 + (i : Int) := by rw [IntKind.wrap_i64]; omega
  clear hidx hk hft hr hf hl hi8
  go_wp2_with fail
  go_ret
  exact ⟨by rw [HK.out]; first | rfl | (congr 2), below_alloc (Below.refl _ _) _⟩
end Go.Proofs.YtkijamagbgigmaaGreatDoor.Par
namespace Go.Proofs.YtkijamagbgigmaaGreatDoor.Par
open Go.RowKit Go.Proofs.YtkijamagbgigmaaGreatDoorW.PrintWords Go.Proofs.YtkijamagbgigmaaGreatDoorW.PrintLast
variable {B : Nat} {T : List Tok} {tv : Value} {pb : Nat} {m : Nat} {low : List Tree} {kd : Int} {tx : ByteArray} {WB : World} {FB : List Nat} {WC : World} {FC : List Nat} {W : World} {s : St}
theorem Now.enter3 (N : Now B T tv pb m low kd tx WB FB W s) {W1 : World} (h : Below W.heap.size W W1) : ∃ F, Now B T tv pb m low kd tx W1 F W1 s ∧ (∀ b, W.heap.size ≤ b → b < W1.heap.size → Apart pb W1 F b) ∧ (∀ b, Apart pb WB FB b → Apart pb W1 F b ∧ W1.heap[b]? = WB.heap[b]?) ∧ Fr pb FB F WB W1 ∧
  ∀ W' m' low' kd' tx' s', Now B T tv pb m' low' kd' tx' W1 F W' s' → Now B T tv pb m' low' kd' tx' WB FB W' s' := by
 obtain ⟨F, h1, h2⟩ := N.st
 have hpl : pb < W.heap.size := by
  obtain ⟨_, g, _⟩ := h1.obj
  exact blk_lt g
 refine ⟨F, ⟨⟨F, h1.below h, Fr.refl _ _ _⟩, N.pos, N.len, N.low, N.kids⟩, fun b h3 h4 => ⟨h4, by omega, fun hh => ?_⟩, fun b a => ?_, h2.trans (Fr.of_below h), fun W' m' low' kd' tx' s' N' => ?_⟩
 ·have := (h1.rowsGe b hh).2
  omega
 ·have a2 := N.apart h2 a
  refine ⟨⟨Nat.lt_of_lt_of_le a2.lt h.size, a2.ne, a2.nin⟩, ?_⟩
  rw [h.block b a2.lt]
  exact N.keep a
 ·obtain ⟨F', k1, k2⟩ := N'.st
  exact ⟨⟨F', k1, (h2.trans (Fr.of_below h)).trans k2⟩, N'.pos, N'.len, N'.low, N'.kids⟩
theorem Now.baseLe (N : Now B T tv pb m low kd tx WB FB W s) : B ≤ W.heap.size := by
 obtain ⟨F, h1, _⟩ := N.st
 obtain ⟨_, g, _⟩ := h1.obj
 have := blk_lt g
 have := h1.ge
 omega
theorem kind_now (N : Now B T tv pb m low kd tx WB FB W s) (x : ByteArray) : Calls Tryz.prog 54 #[.string x] W (NowP B T tv pb m low kd tx WB FB (.int .i64 (kindOf x)) s) := by
 obtain ⟨F, h1, h2⟩ := N.st
 refine (kind_calls x W h1.spc).mono ?_
 rintro e W' ⟨rfl, hb⟩
 exact ⟨rfl, N.below hb⟩
theorem Now.poke2 (N : Now B T tv pb m low kd tx WC FC W s) {b : Nat} (a : Apart pb WC FC b) (hfr : Fr pb FB FC WB WC) (hb : WB.heap.size ≤ b) (hB : B ≤ b) {v0 v1 x y : Value} {t : TypeId} (hc : W.heap[b]? = some (.cells #[x, y] t (0, 0))) :
  ∃ F, Now B T tv pb m low kd tx ((W.setCell ⟨b, 0, none⟩ v0).setCell ⟨b, 1, none⟩ v1) F ((W.setCell ⟨b, 0, none⟩ v0).setCell ⟨b, 1, none⟩ v1) s ∧ Box2 pb ((W.setCell ⟨b, 0, none⟩ v0).setCell ⟨b, 1, none⟩ v1) F b v0 v1 ∧ Old pb WB FB ((W.setCell ⟨b, 0, none⟩ v0).setCell ⟨b, 1, none⟩ v1) F ∧
   ∀ W' m' low' kd' tx' s', Now B T tv pb m' low' kd' tx' ((W.setCell ⟨b, 0, none⟩ v0).setCell ⟨b, 1, none⟩ v1) F W' s' → Now B T tv pb m' low' kd' tx' WB FB W' s' := by
 obtain ⟨F, h1, h2⟩ := N.st
 have a2 := N.apart h2 a
 have hk : ∀ g, g ≠ b → ((W.setCell ⟨b, 0, none⟩ v0).setCell ⟨b, 1, none⟩ v1).heap[g]? = W.heap[g]? := fun g hg => (Below.heap_setCell _ ⟨b, 1, none⟩ v1 g hg).trans (Below.heap_setCell _ ⟨b, 0, none⟩ v0 g hg)
 have hsz : ((W.setCell ⟨b, 0, none⟩ v0).setCell ⟨b, 1, none⟩ v1).heap.size = W.heap.size := by simp [World.setCell]
 have hfrB : Fr pb FB F WB W := hfr.trans h2
 have hfrB' : Fr pb FB F WB ((W.setCell ⟨b, 0, none⟩ v0).setCell ⟨b, 1, none⟩ v1) := ⟨hfrB.os, hfrB.tape, hfrB.output, by rw [hsz]; exact hfrB.size, fun g k1 k2 k3 => (hk g (by omega)).trans (hfrB.kept g k1 k2 k3), hfrB.rows⟩
 have hP : PS 76 53 B T tv pb ((W.setCell ⟨b, 0, none⟩ v0).setCell ⟨b, 1, none⟩ v1) s.1 (low ++ [.mk kd tx s.2]) F := by
  obtain ⟨sv, g1, g2⟩ := h1.obj
  have htk := h1.tokBelow (W' := ((W.setCell ⟨b, 0, none⟩ v0).setCell ⟨b, 1, none⟩ v1)) (G := [b]) (G' := []) ⟨rfl, rfl, rfl, by rw [hsz]; exact Nat.le_refl _, fun g k1 k2 k3 => hk g (by simpa using k3), fun g hg => by cases hg⟩
  refine ⟨⟨sv, (hk pb (fun e => a2.ne e.symm)).trans g1, TR_kept g2 (fun g hg => hk g (fun e => a2.nin (e ▸ hg)))⟩, h1.nd, h1.pbF, h1.ge, ?_⟩
  exact htk (fun g hg => by simp at hg; omega)
 refine ⟨F, ⟨⟨F, hP, Fr.refl _ _ _⟩, N.pos, N.len, N.low, N.kids⟩, ⟨⟨by rw [hsz]; exact a2.lt, a2.ne, a2.nin⟩, t, ?_⟩, fun b' a' => ?_, fun W' m' low' kd' tx' s' N' => ?_⟩
 ·exact blk_put (blk_put hc 0 v0 rfl) 1 v1 rfl
 ·have hne : b' ≠ b := by have := a'.lt; omega
  have hlt := Nat.lt_of_lt_of_le a'.lt hfrB.size
  refine ⟨⟨by rw [hsz]; exact hlt, a'.ne, fun hh => ?_⟩, ?_⟩
  ·rcases hfrB.rows b' hh with k | k
   ·exact a'.nin k
   ·have := a'.lt
    omega
  ·rw [hk b' hne]
   exact hfrB.kept b' a'.lt a'.ne a'.nin
 ·obtain ⟨F', k1, k2⟩ := N'.st
  exact ⟨⟨F', k1, hfrB'.trans k2⟩, N'.pos, N'.len, N'.low, N'.kids⟩
end Go.Proofs.YtkijamagbgigmaaGreatDoor.Par
namespace Go.Proofs.YtkijamagbgigmaaGreatDoor.Par
open Go.RowKit Go.Proofs.YtkijamagbgigmaaGreatDoorW.PrintWords Go.Proofs.YtkijamagbgigmaaGreatDoorW.PrintLast
variable {B : Nat} {T : List Tok} {tv : Value} {pb : Nat} {low : List Tree} {kd : Int} {tx : ByteArray} {W0 : World} {F0 : List Nat}
theorem item_go  {k : Nat}  (ih : ∀ i, i < k → IH B T tv pb i) : Meth B T tv pb k .item 32 #[.pointer (some ⟨pb, 0, none⟩)] (fun _ => .tuple #[]) := by
 intro m low kd tx W0 F0 W s q hm hlow N hr
 obtain ⟨j, rfl, h1, h2, h3⟩ := run_some hr
 have H0 := ak (N.fit h1)
 have E0 := ak h2
 have G := ak h3
 have HL := ak hlow
 have RUN := ak hr
 clear N h1 h2 h3 hr hlow
 go_enter Tryz.func32, Tryz.ntmps32
 go_wp2_with fail
 obtain ⟨WB, hWB⟩ : ∃ WB, (W.alloc (.cells #[.pointer (some ⟨pb, 0, none⟩)] 74)) = WB := ⟨_, rfl⟩
 have hbl : Below W.heap.size W WB := by rw [← hWB]; exact (below_alloc (Below.refl _ _) _)
 have hx_bxp : WB.heap[W.heap.size]? = some (.cells #[.pointer (some ⟨pb, 0, none⟩)] 74 (0, 0)) := by
  rw [← hWB]
  exact blk_new W _
 obtain ⟨FB, NB, hnew, holdb, hback⟩ := H0.out.enter hbl
 have BK := ak hback
 have hb_bxp : Box pb WB FB (W.heap.size) (.pointer (some ⟨pb, 0, none⟩)) := ⟨hnew _ (by omega) (blk_lt hx_bxp), _, hx_bxp⟩
 have B_bxp := ak hb_bxp
 have HN := ak NB
 have c0_bxp := NB.box hb_bxp
 rw [hWB]
 have hsz : W.heap.size + 1 = WB.heap.size := by rw [← hWB]; simp only [World.size_alloc]
 try rw [hsz]
 clear hsz hWB hbl hnew holdb hback NB H0 hb_bxp hx_bxp
 refine (peek_now HN.out).mono ?_
 rintro e W1 ⟨rfl, N1⟩
 obtain ⟨tk, htk⟩ : ∃ tk, Hid ((peekT T s.1).1 = tk) := ⟨_, rfl⟩
 obtain ⟨tt, htt⟩ : ∃ tt, Hid ((peekT T s.1).2 = tt) := ⟨_, rfl⟩
 rw [show (peekT T s.1).1 = tk from htk, show (peekT T s.1).2 = tt from htt]
 have HTK := ak (show (peekT T s.1).1 = tk from htk)
 have HTT := ak (show (peekT T s.1).2 = tt from htt)
 have H1 := ak N1
 have NBLE := ak N1.baseLe
 have NBSZ := ak N1.size
 have c1_bxp := N1.box B_bxp.out
 clear htk htt N1 HN c0_bxp
 have ca := fun o => (World.cell?_alloc_some W1 ⟨W.heap.size, 0, none⟩ o (by rw [c1_bxp]; rfl)).trans c1_bxp
 go_wp2_with fail
 obtain ⟨WB2, hWB2⟩ : ∃ WB2, (W1.alloc (.cells #[.int .i64 tk, .string tt] 98)) = WB2 := ⟨_, rfl⟩
 have hbl2 : Below W1.heap.size W1 WB2 := by rw [← hWB2]; exact (below_alloc (Below.refl _ _) _)
 have hx2 : WB2.heap[W1.heap.size]? = some (.cells #[.int .i64 tk, .string tt] 98 (0, 0)) := by rw [← hWB2]; exact blk_new W1 _
 obtain ⟨FB2, NB2, hnew2, old2, fr2, hback2⟩ := H1.out.enter3 hbl2
 have FR := ak fr2
 clear fr2
 have BK2 := ak hback2
 have B2_bxp := ak (B_bxp.out.old old2)
 have B2_bxt := ak (show Box2 pb WB2 FB2 W1.heap.size (.int .i64 tk) (.string tt) from ⟨hnew2 _ (Nat.le_refl _) (blk_lt hx2), _, hx2⟩)
 have H2 := ak NB2
 have c2_bxp := NB2.box B2_bxp.out
 obtain ⟨c2_bxt0, c2_bxt1⟩ := NB2.box2 B2_bxt.out
 have hsz2 : W1.heap.size + 1 = WB2.heap.size := by rw [← hWB2]; simp only [World.size_alloc]
 rw [hWB2]
 try rw [hsz2]
 clear hsz2 hWB2 hbl2 hnew2 old2 hback2 hx2 NB2 H1 c1_bxp ca
 rcases at_cases H2.out [(⟨#[112, 117, 98]⟩ : ByteArray)] with b3 | b3
 ·refine (at_lit H2.out [(⟨#[112, 117, 98]⟩ : ByteArray)] (by simp)).mono ?_
  rintro e W4 ⟨rfl, N4⟩
  rw [b3]
  have H4 := ak N4
  have c4_bxp := N4.box B2_bxp.out
  obtain ⟨c4_bxt0, c4_bxt1⟩ := N4.box2 B2_bxt.out
  clear N4 H2 c2_bxp c2_bxt0 c2_bxt1
  have HN := ak (show (if atT T s.1 [(⟨#[112, 117, 98]⟩ : ByteArray)] = true then lookT T s.1 else s.1) = lookT T s.1 by rw [if_pos b3])
  clear b3
  go_wp2_with fail
  refine (look_now H4.out).mono ?_
  rintro e W5 ⟨qb5, rfl, N5, L5⟩
  have H5 := ak (And.intro N5 L5)
  have c5_bxp := N5.box B2_bxp.out
  obtain ⟨c5_bxt0, c5_bxt1⟩ := N5.box2 B2_bxt.out
  clear N5 L5 H4 c4_bxp c4_bxt0 c4_bxt1
  go_wp2_with fail
  refine (peek_look H5.out.1 H5.out.2).mono ?_
  rintro e W6 ⟨rfl, N6⟩
  obtain ⟨tk2, htk⟩ : ∃ tk, Hid ((peekT T (lookT T s.1)).1 = tk) := ⟨_, rfl⟩
  obtain ⟨tt2, htt⟩ : ∃ tt, Hid ((peekT T (lookT T s.1)).2 = tt) := ⟨_, rfl⟩
  rw [show (peekT T (lookT T s.1)).1 = tk2 from htk, show (peekT T (lookT T s.1)).2 = tt2 from htt]
  have HTK2 := ak (show (peekT T (lookT T s.1)).1 = tk2 from htk)
  have HTT2 := ak (show (peekT T (lookT T s.1)).2 = tt2 from htt)
  obtain ⟨ty, hc5⟩ : ∃ t, W6.heap[W1.heap.size]? = some (.cells #[.int .i64 tk, .string tt] t (0, 0)) := by obtain ⟨t, h⟩ := B2_bxt.out.cell; exact ⟨t, (N6.keep B2_bxt.out.apart).trans h⟩
  obtain ⟨F6, P1, P2, P3, P4⟩ := N6.poke2 B2_bxt.out.apart FR.out (by have := NBSZ.out; exact this) NBLE.out (v0 := .int .i64 tk2) (v1 := .string tt2) hc5
  have HP6 := ak (And.intro P1 (And.intro P2 (And.intro P3 P4)))
  have z0 := blk_frozen hc5 0
  have z1 := blk_frozen hc5 1
  have c6_bxp := N6.box B2_bxp.out
  obtain ⟨c6_bxt0, c6_bxt1⟩ := N6.box2 B2_bxt.out
  clear htk htt P1 P2 P3 P4 hc5 N6 H5 c5_bxp c5_bxt0 c5_bxt1
  go_wp2_with fail
  obtain ⟨W60, hW60⟩ : ∃ W60, (W6.setCell ⟨W1.heap.size, 0, none⟩ (.int .i64 tk2)).setCell ⟨W1.heap.size, 1, none⟩ (.string tt2) = W60 := ⟨_, rfl⟩
  obtain ⟨P1, P2, P3, P4⟩ := HP6.out
  rw [hW60] at P1 P2 P3 P4 ⊢
  have H60 := ak P1
  have B60_bxt := ak P2
  have B60_bxp := ak (B_bxp.out.old P3)
  have BK60 := ak P4
  have c60_bxp := P1.box B60_bxp.out
  obtain ⟨c60_bxt0, c60_bxt1⟩ := P1.box2 B60_bxt.out
  clear P1 P2 P3 P4 hW60 HP6 z0 z1 c6_bxp c6_bxt0 c6_bxt1
  refine (kind_now H60.out tt2).mono ?_
  rintro e W7 ⟨rfl, N7⟩
  obtain ⟨kv, hkv⟩ : ∃ kv, Hid (kindOf tt2 = kv) := ⟨_, rfl⟩
  rw [show kindOf tt2 = kv from hkv]
  have HKV := ak (show kindOf tt2 = kv from hkv)
  have hrg := kindOf_range tt2
  rw [show kindOf tt2 = kv from hkv] at hrg
  have HI := ak (item_in E0.out (n := (lookT T s.1)) HN.out HTK2.out HTT2.out)
  have H7 := ak N7
  have c7_bxp := N7.box B60_bxp.out
  obtain ⟨c7_bxt0, c7_bxt1⟩ := N7.box2 B60_bxt.out
  clear hkv N7 H60 c60_bxp c60_bxt0 c60_bxt1
  have ca_c7_bxp := fun o => (World.cell?_alloc_some W7 ⟨W.heap.size, 0, none⟩ o (by rw [c7_bxp]; rfl)).trans c7_bxp
  have ca_c7_bxt0 := fun o => (World.cell?_alloc_some W7 ⟨W1.heap.size, 0, none⟩ o (by rw [c7_bxt0]; rfl)).trans c7_bxt0
  have ca_c7_bxt1 := fun o => (World.cell?_alloc_some W7 ⟨W1.heap.size, 1, none⟩ o (by rw [c7_bxt1]; rfl)).trans c7_bxt1
  by_cases hk0 : kv = 0
  ·subst hk0
   go_wp2_with fail
   refine ((ih j (by omega)).skipToItem _ _ _ _ _ _ _ _ _ (by omega) (by have := HL.out; omega) (H7.out.below (below_alloc (Below.refl _ _) _)) (HI.out.1 (.inl HKV.out))).mono ?_
   rintro e W8 ⟨rfl, N8⟩
   have H8 := ak N8
   clear N8
   go_wp2_with fail
   go_end0
   exact ⟨rfl, (BK.out _ _ _ _ _ _ (BK60.out _ _ _ _ _ _ H8.out))⟩
  ·have fk0 : (kv == 0) = false := beq_eq_false_iff_ne.2 hk0
   have HK12 := ak (show 2 ≤ kv ∧ kv ≤ 9 by rcases hrg with h | h; exact absurd h hk0; exact h)
   have HK0 := ak hk0
   clear hrg hk0
   by_cases ht4 : tk2 = 104
   ·subst ht4
    go_wp2_with fail
    have EN := ak (HI.out.2 (by rintro (h | h); exact HK0.out (HKV.out ▸ h); exact h rfl))
    have EM := ak (by have h := EN.out; rw [HKV.out] at h; exact h)
    clear EN
    obtain ⟨WB9, hWB9⟩ : ∃ WB9, (W7.alloc (.cells #[.int .i64 kv] 3)) = WB9 := ⟨_, rfl⟩
    have hbl9 : Below W7.heap.size W7 WB9 := by rw [← hWB9]; exact (below_alloc (Below.refl _ _) _)
    have hx9 : WB9.heap[W7.heap.size]? = some (.cells #[.int .i64 kv] 3 (0, 0)) := by rw [← hWB9]; exact blk_new W7 _
    obtain ⟨FB9, NB9, hnew9, old9, hback9⟩ := H7.out.enter2 hbl9
    have BK9 := ak hback9
    have B9_bxp := ak (B60_bxp.out.old old9)
    have B9_bxt := ak (B60_bxt.out.old old9)
    have B9_bxk := ak (show Box pb WB9 FB9 W7.heap.size (.int .i64 kv) from ⟨hnew9 _ (Nat.le_refl _) (blk_lt hx9), _, hx9⟩)
    have H9 := ak NB9
    have c9_bxp := NB9.box B9_bxp.out
    obtain ⟨c9_bxt0, c9_bxt1⟩ := NB9.box2 B9_bxt.out
    have c9_bxk := NB9.box B9_bxk.out
    have hsz9 : W7.heap.size + 1 = WB9.heap.size := by rw [← hWB9]; simp only [World.size_alloc]
    rw [hWB9]
    try rw [hsz9]
    clear hsz9 hWB9 hbl9 hnew9 old9 hback9 hx9 NB9 H7 c7_bxp c7_bxt0 c7_bxt1 ca_c7_bxp ca_c7_bxt0 ca_c7_bxt1
    obtain ⟨p10, e10, d10⟩ := node_in EM.out
    have R10 := ak e10
    have D10 := ak d10
    clear e10 d10 EM
    refine (node_now H9.out (by omega) (by have := HL.out; omega) (kv) 57 #[] #[.pointer (some ⟨W.heap.size, 0, none⟩), .pointer (some ⟨W7.heap.size, 0, none⟩)] p10.2 en_item_1 (fit_iff.1 (run_fit R10.out)).1 (fun W1 F1 NN old => itemB_do kv (hk1 := HK12.out.1) (hk2 := HK12.out.2) (k := j) (fun i hi => ih i (by omega)) (B9_bxp.out.old old) (B9_bxk.out.old old) (by rw [List.length_append, List.length_singleton]; have := HL.out; omega) j (by omega) _ _ _ _ (by omega) NN R10.out)).mono ?_
    rintro e W11 ⟨rfl, N11⟩
    have H11 := ak N11
    have c11_bxp := N11.box B9_bxp.out
    obtain ⟨c11_bxt0, c11_bxt1⟩ := N11.box2 B9_bxt.out
    have c11_bxk := N11.box B9_bxk.out
    clear N11 H9 c9_bxp c9_bxt0 c9_bxt1 c9_bxk
    go_wp2_with fail
    go_end0
    obtain hq := D10.out
    have hf := G.out
    rw [hq] at hf ⊢
    exact ⟨rfl, (BK.out _ _ _ _ _ _ (BK60.out _ _ _ _ _ _ (BK9.out _ _ _ _ _ _ (H11.out.fit hf))))⟩
   ·have f4 : (tk2 == 104) = false := beq_eq_false_iff_ne.2 ht4
    have f5 : (tk2 != 104) = true := by rw [bne, f4]; rfl
    have HT4 := ak ht4
    clear ht4
    go_wp2_with fail
    refine ((ih j (by omega)).skipToItem _ _ _ _ _ _ _ _ _ (by omega) (by have := HL.out; omega) (H7.out.below (below_alloc (Below.refl _ _) _)) (HI.out.1 (.inr HT4.out))).mono ?_
    rintro e W12 ⟨rfl, N12⟩
    have H12 := ak N12
    clear N12
    go_wp2_with fail
    go_end0
    exact ⟨rfl, (BK.out _ _ _ _ _ _ (BK60.out _ _ _ _ _ _ H12.out))⟩
 ·refine (at_lit H2.out [(⟨#[112, 117, 98]⟩ : ByteArray)] (by simp)).mono ?_
  rintro e W13 ⟨rfl, N13⟩
  rw [b3]
  have H13 := ak N13
  have c13_bxp := N13.box B2_bxp.out
  obtain ⟨c13_bxt0, c13_bxt1⟩ := N13.box2 B2_bxt.out
  clear N13 H2 c2_bxp c2_bxt0 c2_bxt1
  have HN := ak (show (if atT T s.1 [(⟨#[112, 117, 98]⟩ : ByteArray)] = true then lookT T s.1 else s.1) = s.1 by rw [if_neg (by rw [b3]; simp)])
  clear b3
  go_wp2_with fail
  refine (kind_now H13.out tt).mono ?_
  rintro e W14 ⟨rfl, N14⟩
  obtain ⟨kv, hkv⟩ : ∃ kv, Hid (kindOf tt = kv) := ⟨_, rfl⟩
  rw [show kindOf tt = kv from hkv]
  have HKV := ak (show kindOf tt = kv from hkv)
  have hrg := kindOf_range tt
  rw [show kindOf tt = kv from hkv] at hrg
  have HI := ak (item_in E0.out (n := s.1) HN.out HTK.out HTT.out)
  have H14 := ak N14
  have c14_bxp := N14.box B2_bxp.out
  obtain ⟨c14_bxt0, c14_bxt1⟩ := N14.box2 B2_bxt.out
  clear hkv N14 H13 c13_bxp c13_bxt0 c13_bxt1
  have ca_c14_bxp := fun o => (World.cell?_alloc_some W14 ⟨W.heap.size, 0, none⟩ o (by rw [c14_bxp]; rfl)).trans c14_bxp
  have ca_c14_bxt0 := fun o => (World.cell?_alloc_some W14 ⟨W1.heap.size, 0, none⟩ o (by rw [c14_bxt0]; rfl)).trans c14_bxt0
  have ca_c14_bxt1 := fun o => (World.cell?_alloc_some W14 ⟨W1.heap.size, 1, none⟩ o (by rw [c14_bxt1]; rfl)).trans c14_bxt1
  by_cases hk0 : kv = 0
  ·subst hk0
   go_wp2_with fail
   refine ((ih j (by omega)).skipToItem _ _ _ _ _ _ _ _ _ (by omega) (by have := HL.out; omega) (H14.out.below (below_alloc (Below.refl _ _) _)) (HI.out.1 (.inl HKV.out))).mono ?_
   rintro e W15 ⟨rfl, N15⟩
   have H15 := ak N15
   clear N15
   go_wp2_with fail
   go_end0
   exact ⟨rfl, (BK.out _ _ _ _ _ _ (BK2.out _ _ _ _ _ _ H15.out))⟩
  ·have fk0 : (kv == 0) = false := beq_eq_false_iff_ne.2 hk0
   have HK12 := ak (show 2 ≤ kv ∧ kv ≤ 9 by rcases hrg with h | h; exact absurd h hk0; exact h)
   have HK0 := ak hk0
   clear hrg hk0
   by_cases ht4 : tk = 104
   ·subst ht4
    go_wp2_with fail
    have EN := ak (HI.out.2 (by rintro (h | h); exact HK0.out (HKV.out ▸ h); exact h rfl))
    have EM := ak (by have h := EN.out; rw [HKV.out] at h; exact h)
    clear EN
    obtain ⟨WB16, hWB16⟩ : ∃ WB16, (W14.alloc (.cells #[.int .i64 kv] 3)) = WB16 := ⟨_, rfl⟩
    have hbl16 : Below W14.heap.size W14 WB16 := by rw [← hWB16]; exact (below_alloc (Below.refl _ _) _)
    have hx16 : WB16.heap[W14.heap.size]? = some (.cells #[.int .i64 kv] 3 (0, 0)) := by rw [← hWB16]; exact blk_new W14 _
    obtain ⟨FB16, NB16, hnew16, old16, hback16⟩ := H14.out.enter2 hbl16
    have BK16 := ak hback16
    have B16_bxp := ak (B2_bxp.out.old old16)
    have B16_bxt := ak (B2_bxt.out.old old16)
    have B16_bxk := ak (show Box pb WB16 FB16 W14.heap.size (.int .i64 kv) from ⟨hnew16 _ (Nat.le_refl _) (blk_lt hx16), _, hx16⟩)
    have H16 := ak NB16
    have c16_bxp := NB16.box B16_bxp.out
    obtain ⟨c16_bxt0, c16_bxt1⟩ := NB16.box2 B16_bxt.out
    have c16_bxk := NB16.box B16_bxk.out
    have hsz16 : W14.heap.size + 1 = WB16.heap.size := by rw [← hWB16]; simp only [World.size_alloc]
    rw [hWB16]
    try rw [hsz16]
    clear hsz16 hWB16 hbl16 hnew16 old16 hback16 hx16 NB16 H14 c14_bxp c14_bxt0 c14_bxt1 ca_c14_bxp ca_c14_bxt0 ca_c14_bxt1
    obtain ⟨p17, e17, d17⟩ := node_in EM.out
    have R17 := ak e17
    have D17 := ak d17
    clear e17 d17 EM
    refine (node_now H16.out (by omega) (by have := HL.out; omega) (kv) 57 #[] #[.pointer (some ⟨W.heap.size, 0, none⟩), .pointer (some ⟨W14.heap.size, 0, none⟩)] p17.2 en_item_1 (fit_iff.1 (run_fit R17.out)).1 (fun W1 F1 NN old => itemB_do kv (hk1 := HK12.out.1) (hk2 := HK12.out.2) (k := j) (fun i hi => ih i (by omega)) (B16_bxp.out.old old) (B16_bxk.out.old old) (by rw [List.length_append, List.length_singleton]; have := HL.out; omega) j (by omega) _ _ _ _ (by omega) NN R17.out)).mono ?_
    rintro e W18 ⟨rfl, N18⟩
    have H18 := ak N18
    have c18_bxp := N18.box B16_bxp.out
    obtain ⟨c18_bxt0, c18_bxt1⟩ := N18.box2 B16_bxt.out
    have c18_bxk := N18.box B16_bxk.out
    clear N18 H16 c16_bxp c16_bxt0 c16_bxt1 c16_bxk
    go_wp2_with fail
    go_end0
    obtain hq := D17.out
    have hf := G.out
    rw [hq] at hf ⊢
    exact ⟨rfl, (BK.out _ _ _ _ _ _ (BK2.out _ _ _ _ _ _ (BK16.out _ _ _ _ _ _ (H18.out.fit hf))))⟩
   ·have f4 : (tk == 104) = false := beq_eq_false_iff_ne.2 ht4
    have f5 : (tk != 104) = true := by rw [bne, f4]; rfl
    have HT4 := ak ht4
    clear ht4
    go_wp2_with fail
    refine ((ih j (by omega)).skipToItem _ _ _ _ _ _ _ _ _ (by omega) (by have := HL.out; omega) (H14.out.below (below_alloc (Below.refl _ _) _)) (HI.out.1 (.inr HT4.out))).mono ?_
    rintro e W19 ⟨rfl, N19⟩
    have H19 := ak N19
    clear N19
    go_wp2_with fail
    go_end0
    exact ⟨rfl, (BK.out _ _ _ _ _ _ (BK2.out _ _ _ _ _ _ H19.out))⟩
theorem itemBody2_go  {k : Nat}  (ih : ∀ i, i < k → IH B T tv pb i) : Meth B T tv pb k (.itemBody 2) 60 #[.pointer (some ⟨pb, 0, none⟩), .int .i64 2] (fun _ => .tuple #[]) := by
 intro m low kd tx W0 F0 W s q hm hlow N hr
 obtain ⟨j, rfl, h1, h2, h3⟩ := run_some hr
 have H0 := ak (N.fit h1)
 have E0 := ak h2
 have G := ak h3
 have HL := ak hlow
 have RUN := ak hr
 clear N h1 h2 h3 hr hlow
 go_enter Tryz.func60, Tryz.ntmps60
 go_wp2_with fail
 refine ((ih j (by omega)).useS _ _ _ _ _ _ _ _ _ (by omega) (by have := HL.out; omega) H0.out E0.out).mono ?_
 rintro e W1 ⟨rfl, N1⟩
 have H1 := ak N1
 clear N1 H0
 go_wp2_with fail
 go_end0
 exact ⟨rfl, H1.out⟩
theorem itemBody3_go  {k : Nat}  (ih : ∀ i, i < k → IH B T tv pb i) : Meth B T tv pb k (.itemBody 3) 60 #[.pointer (some ⟨pb, 0, none⟩), .int .i64 3] (fun _ => .tuple #[]) := by
 intro m low kd tx W0 F0 W s q hm hlow N hr
 obtain ⟨j, rfl, h1, h2, h3⟩ := run_some hr
 have H0 := ak (N.fit h1)
 have E0 := ak h2
 have G := ak h3
 have HL := ak hlow
 have RUN := ak hr
 clear N h1 h2 h3 hr hlow
 go_enter Tryz.func60, Tryz.ntmps60
 go_wp2_with fail
 refine ((ih j (by omega)).function true _ _ _ _ _ _ _ _ _ (by omega) (by have := HL.out; omega) H0.out E0.out).mono ?_
 rintro e W1 ⟨rfl, N1⟩
 have H1 := ak N1
 clear N1 H0
 go_wp2_with fail
 go_end0
 exact ⟨rfl, H1.out⟩
theorem itemBody4_go  {k : Nat}  (ih : ∀ i, i < k → IH B T tv pb i) : Meth B T tv pb k (.itemBody 4) 60 #[.pointer (some ⟨pb, 0, none⟩), .int .i64 4] (fun _ => .tuple #[]) := by
 intro m low kd tx W0 F0 W s q hm hlow N hr
 obtain ⟨j, rfl, h1, h2, h3⟩ := run_some hr
 have H0 := ak (N.fit h1)
 have E0 := ak h2
 have G := ak h3
 have HL := ak hlow
 have RUN := ak hr
 clear N h1 h2 h3 hr hlow
 go_enter Tryz.func60, Tryz.ntmps60
 go_wp2_with fail
 refine ((ih j (by omega)).dataType 4 (.inl rfl) _ _ _ _ _ _ _ _ _ (by omega) (by have := HL.out; omega) H0.out E0.out).mono ?_
 rintro e W1 ⟨rfl, N1⟩
 have H1 := ak N1
 clear N1 H0
 go_wp2_with fail
 go_end0
 exact ⟨rfl, H1.out⟩
theorem itemBody5_go  {k : Nat}  (ih : ∀ i, i < k → IH B T tv pb i) : Meth B T tv pb k (.itemBody 5) 60 #[.pointer (some ⟨pb, 0, none⟩), .int .i64 5] (fun _ => .tuple #[]) := by
 intro m low kd tx W0 F0 W s q hm hlow N hr
 obtain ⟨j, rfl, h1, h2, h3⟩ := run_some hr
 have H0 := ak (N.fit h1)
 have E0 := ak h2
 have G := ak h3
 have HL := ak hlow
 have RUN := ak hr
 clear N h1 h2 h3 hr hlow
 go_enter Tryz.func60, Tryz.ntmps60
 go_wp2_with fail
 refine ((ih j (by omega)).dataType 5 (.inr rfl) _ _ _ _ _ _ _ _ _ (by omega) (by have := HL.out; omega) H0.out E0.out).mono ?_
 rintro e W1 ⟨rfl, N1⟩
 have H1 := ak N1
 clear N1 H0
 go_wp2_with fail
 go_end0
 exact ⟨rfl, H1.out⟩
theorem itemBody6_go  {k : Nat}  (ih : ∀ i, i < k → IH B T tv pb i) : Meth B T tv pb k (.itemBody 6) 60 #[.pointer (some ⟨pb, 0, none⟩), .int .i64 6] (fun _ => .tuple #[]) := by
 intro m low kd tx W0 F0 W s q hm hlow N hr
 obtain ⟨j, rfl, h1, h2, h3⟩ := run_some hr
 have H0 := ak (N.fit h1)
 have E0 := ak h2
 have G := ak h3
 have HL := ak hlow
 have RUN := ak hr
 clear N h1 h2 h3 hr hlow
 go_enter Tryz.func60, Tryz.ntmps60
 go_wp2_with fail
 have E1 := ak (sq_st E0.out)
 clear E0
 refine (expectId_now H0.out (by omega)).mono ?_
 rintro e W2 ⟨rfl, N2⟩
 have H2 := ak N2
 clear N2 H0
 go_wp2_with fail
 obtain ⟨p3, e3, d3⟩ := sq_cons E1.out
 have R3 := ak e3
 have E4 := ak (d3)
 clear E1 e3 d3
 refine ((ih j (by omega)).members _ _ _ _ _ _ _ _ _ (by omega) (by have := HL.out; omega) H2.out R3.out).mono ?_
 rintro e W5 ⟨rfl, N5⟩
 have H5 := ak N5
 clear N5 H2
 go_wp2_with fail
 go_end0
 obtain hq := sq_nil E4.out
 have hf := G.out
 rw [hq] at hf ⊢
 exact ⟨rfl, (H5.out.fit hf)⟩
theorem itemBody7_go  {k : Nat}  (ih : ∀ i, i < k → IH B T tv pb i) : Meth B T tv pb k (.itemBody 7) 60 #[.pointer (some ⟨pb, 0, none⟩), .int .i64 7] (fun _ => .tuple #[]) := by
 intro m low kd tx W0 F0 W s q hm hlow N hr
 obtain ⟨j, rfl, h1, h2, h3⟩ := run_some hr
 have H0 := ak (N.fit h1)
 have E0 := ak h2
 have G := ak h3
 have HL := ak hlow
 have RUN := ak hr
 clear N h1 h2 h3 hr hlow
 go_enter Tryz.func60, Tryz.ntmps60
 go_wp2_with fail
 refine ((ih j (by omega)).implS _ _ _ _ _ _ _ _ _ (by omega) (by have := HL.out; omega) H0.out E0.out).mono ?_
 rintro e W1 ⟨rfl, N1⟩
 have H1 := ak N1
 clear N1 H0
 go_wp2_with fail
 go_end0
 exact ⟨rfl, H1.out⟩
theorem itemBody8_go  {k : Nat}  (ih : ∀ i, i < k → IH B T tv pb i) : Meth B T tv pb k (.itemBody 8) 60 #[.pointer (some ⟨pb, 0, none⟩), .int .i64 8] (fun _ => .tuple #[]) := by
 intro m low kd tx W0 F0 W s q hm hlow N hr
 obtain ⟨j, rfl, h1, h2, h3⟩ := run_some hr
 have H0 := ak (N.fit h1)
 have E0 := ak h2
 have G := ak h3
 have HL := ak hlow
 have RUN := ak hr
 clear N h1 h2 h3 hr hlow
 go_enter Tryz.func60, Tryz.ntmps60
 go_wp2_with fail
 have E1 := ak (sq_st E0.out)
 clear E0
 refine (expectId_now H0.out (by omega)).mono ?_
 rintro e W2 ⟨rfl, N2⟩
 have H2 := ak N2
 clear N2 H0
 go_wp2_with fail
 have E3 := ak (sq_st E1.out)
 clear E1
 refine (expect_now H2.out (by omega) (⟨#[58]⟩ : ByteArray)).mono ?_
 rintro e W4 ⟨rfl, N4⟩
 have H4 := ak N4
 clear N4 H2
 go_wp2_with fail
 obtain ⟨p5, e5, d5⟩ := sq_cons E3.out
 have R5 := ak e5
 have E6 := ak (d5)
 clear E3 e5 d5
 refine ((ih j (by omega)).typeExpr _ _ _ _ _ _ _ _ _ (by omega) (by have := HL.out; omega) H4.out R5.out).mono ?_
 rintro e W7 ⟨rfl, N7⟩
 have H7 := ak N7
 clear N7 H4
 go_wp2_with fail
 have E8 := ak (sq_st E6.out)
 clear E6
 refine (expect_now H7.out (by omega) (⟨#[61]⟩ : ByteArray)).mono ?_
 rintro e W9 ⟨rfl, N9⟩
 have H9 := ak N9
 clear N9 H7
 go_wp2_with fail
 obtain ⟨p10, e10, d10⟩ := sq_cons E8.out
 have R10 := ak e10
 have E11 := ak (d10)
 clear E8 e10 d10
 refine ((ih j (by omega)).expr _ _ _ _ _ _ _ _ _ (by omega) (by have := HL.out; omega) H9.out R10.out).mono ?_
 rintro e W12 ⟨rfl, N12⟩
 have H12 := ak N12
 clear N12 H9
 go_wp2_with fail
 have E13 := ak (sq_st E11.out)
 clear E11
 refine (expect_now H12.out (by omega) (⟨#[59]⟩ : ByteArray)).mono ?_
 rintro e W14 ⟨rfl, N14⟩
 have H14 := ak N14
 clear N14 H12
 go_wp2_with fail
 go_end0
 obtain hq := sq_nil E13.out
 have hf := G.out
 rw [hq] at hf ⊢
 exact ⟨rfl, (H14.out.fit hf)⟩
theorem itemBody9_go  {k : Nat}  (ih : ∀ i, i < k → IH B T tv pb i) : Meth B T tv pb k (.itemBody 9) 60 #[.pointer (some ⟨pb, 0, none⟩), .int .i64 9] (fun _ => .tuple #[]) := by
 intro m low kd tx W0 F0 W s q hm hlow N hr
 obtain ⟨j, rfl, h1, h2, h3⟩ := run_some hr
 have H0 := ak (N.fit h1)
 have E0 := ak h2
 have G := ak h3
 have HL := ak hlow
 have RUN := ak hr
 clear N h1 h2 h3 hr hlow
 go_enter Tryz.func60, Tryz.ntmps60
 go_wp2_with fail
 have E1 := ak (sq_st E0.out)
 clear E0
 refine (expectId_now H0.out (by omega)).mono ?_
 rintro e W2 ⟨rfl, N2⟩
 have H2 := ak N2
 clear N2 H0
 go_wp2_with fail
 have E3 := ak (sq_st E1.out)
 clear E1
 refine (expect_now H2.out (by omega) (⟨#[40]⟩ : ByteArray)).mono ?_
 rintro e W4 ⟨rfl, N4⟩
 have H4 := ak N4
 clear N4 H2
 go_wp2_with fail
 obtain ⟨p5, e5, d5⟩ := sq_cons E3.out
 have R5 := ak e5
 have E6 := ak (d5)
 clear E3 e5 d5
 refine ((ih j (by omega)).params (⟨#[41]⟩ : ByteArray) _ _ _ _ _ _ _ _ _ (by omega) (by have := HL.out; omega) H4.out R5.out).mono ?_
 rintro e W7 ⟨rfl, N7⟩
 have H7 := ak N7
 clear N7 H4
 go_wp2_with fail
 have E8 := ak (sq_st E6.out)
 clear E6
 refine (expect_now H7.out (by omega) (⟨#[61]⟩ : ByteArray)).mono ?_
 rintro e W9 ⟨rfl, N9⟩
 have H9 := ak N9
 clear N9 H7
 go_wp2_with fail
 obtain ⟨p10, e10, d10⟩ := sq_cons E8.out
 have R10 := ak e10
 have E11 := ak (d10)
 clear E8 e10 d10
 refine ((ih j (by omega)).expr _ _ _ _ _ _ _ _ _ (by omega) (by have := HL.out; omega) H9.out R10.out).mono ?_
 rintro e W12 ⟨rfl, N12⟩
 have H12 := ak N12
 clear N12 H9
 go_wp2_with fail
 have E13 := ak (sq_st E11.out)
 clear E11
 refine (expect_now H12.out (by omega) (⟨#[59]⟩ : ByteArray)).mono ?_
 rintro e W14 ⟨rfl, N14⟩
 have H14 := ak N14
 clear N14 H12
 go_wp2_with fail
 go_end0
 obtain hq := sq_nil E13.out
 have hf := G.out
 rw [hq] at hf ⊢
 exact ⟨rfl, (H14.out.fit hf)⟩
theorem emptyB_do  {k : Nat}   (ih : ∀ i, i < k → IH B T tv pb i)  (hlow : low.length + k ≤ 10000000) : Does B T tv pb (k + 1) .emptyB 218 #[] low kd tx W0 F0 := by
 intro i hi m W s q hm N hr
 obtain ⟨j, rfl, h1, h2, h3⟩ := run_some hr
 have H0 := ak (N.fit h1)
 have E0 := ak h2
 have G := ak h3
 have HL := ak (show low.length + (j + 1) ≤ 10000000 by omega)
 clear N h1 h2 h3 hr hlow
 go_enter Tryz.func218, Tryz.ntmps218
 go_wp2_with fail
 go_end0
 obtain hq := some_in E0.out
 have hf := G.out
 rw [hq] at hf ⊢
 exact ⟨⟨_, rfl⟩, _, (H0.out.fit hf)⟩
theorem lambda_go  {k : Nat}  (ih : ∀ i, i < k → IH B T tv pb i) : Meth B T tv pb k .lambda 202 #[.pointer (some ⟨pb, 0, none⟩)] (fun _ => .tuple #[]) := by
 intro m low kd tx W0 F0 W s q hm hlow N hr
 obtain ⟨j, rfl, h1, h2, h3⟩ := run_some hr
 have H0 := ak (N.fit h1)
 have E0 := ak h2
 have G := ak h3
 have HL := ak hlow
 have RUN := ak hr
 clear N h1 h2 h3 hr hlow
 go_enter Tryz.func202, Tryz.ntmps202
 go_wp2_with fail
 refine (at_lit H0.out [(⟨#[124, 124]⟩ : ByteArray)] (by simp)).mono ?_
 rintro e W2 ⟨rfl, N2⟩
 rcases at_cases H0.out [(⟨#[124, 124]⟩ : ByteArray)] with b1 | b1
 ·rw [b1]
  have H2 := ak N2
  clear N2 H0
  have E3 := ak (if_t b1 E0.out)
  clear E0 b1
  go_wp2_with fail
  have E4 := ak (sq_st E3.out)
  clear E3
  refine (bump_now H2.out (by omega)).mono ?_
  rintro e W5 ⟨rfl, N5⟩
  have H5 := ak N5
  clear N5 H2
  go_wp2_with fail
  obtain ⟨p6, e6, d6⟩ := sq_cons E4.out
  have X6 := ak e6
  have E7 := ak (d6)
  clear E4 e6 d6
  obtain ⟨p8, e8, d8⟩ := node_in X6.out
  have R8 := ak e8
  have D8 := ak d8
  clear e8 d8 X6
  refine (node_now H5.out (by omega) (by have := HL.out; omega) (12) 218 #[] #[] p8.2 en_lambda_1 (fit_iff.1 (run_fit R8.out)).1 (fun W1 F1 NN old => emptyB_do  (k := j) (fun i hi => ih i (by omega))  (by rw [List.length_append, List.length_singleton]; have := HL.out; omega) j (by omega) _ _ _ _ (by omega) NN R8.out)).mono ?_
  rintro e W9 ⟨rfl, N9⟩
  have H9 := ak N9
  clear N9 H5
  go_wp2_with fail
  have E8a := E7.out
  rw [D8.out] at E8a
  have E10 := ak (E8a)
  clear E7 E8a
  obtain ⟨p11, e11, d11⟩ := sq_cons E10.out
  have R11 := ak e11
  have E12 := ak (d11)
  clear E10 e11 d11
  refine ((ih j (by omega)).expr _ _ _ _ _ _ _ _ _ (by omega) (by have := HL.out; omega) H9.out R11.out).mono ?_
  rintro e W13 ⟨rfl, N13⟩
  have H13 := ak N13
  clear N13 H9
  go_wp2_with fail
  go_end0
  obtain hq := sq_nil E12.out
  have hf := G.out
  rw [hq] at hf ⊢
  exact ⟨rfl, (H13.out.fit hf)⟩
 ·rw [b1]
  have H2 := ak N2
  clear N2 H0
  have E14 := ak (if_f b1 E0.out)
  clear E0 b1
  go_wp2_with fail
  have E15 := ak (sq_st E14.out)
  clear E14
  refine (bump_now H2.out (by omega)).mono ?_
  rintro e W16 ⟨rfl, N16⟩
  have H16 := ak N16
  clear N16 H2
  go_wp2_with fail
  obtain ⟨p17, e17, d17⟩ := sq_cons E15.out
  have R17 := ak e17
  have E18 := ak (d17)
  clear E15 e17 d17
  refine ((ih j (by omega)).params (⟨#[124]⟩ : ByteArray) _ _ _ _ _ _ _ _ _ (by omega) (by have := HL.out; omega) H16.out R17.out).mono ?_
  rintro e W19 ⟨rfl, N19⟩
  have H19 := ak N19
  clear N19 H16
  go_wp2_with fail
  obtain ⟨p20, e20, d20⟩ := sq_cons E18.out
  have R20 := ak e20
  have E21 := ak (d20)
  clear E18 e20 d20
  refine ((ih j (by omega)).expr _ _ _ _ _ _ _ _ _ (by omega) (by have := HL.out; omega) H19.out R20.out).mono ?_
  rintro e W22 ⟨rfl, N22⟩
  have H22 := ak N22
  clear N22 H19
  go_wp2_with fail
  go_end0
  obtain hq := sq_nil E21.out
  have hf := G.out
  rw [hq] at hf ⊢
  exact ⟨rfl, (H22.out.fit hf)⟩
theorem letS_go  {k : Nat}  (ih : ∀ i, i < k → IH B T tv pb i) : Meth B T tv pb k .letS 181 #[.pointer (some ⟨pb, 0, none⟩)] (fun _ => .tuple #[]) := by
 intro m low kd tx W0 F0 W s q hm hlow N hr
 obtain ⟨j, rfl, h1, h2, h3⟩ := run_some hr
 have H0 := ak (N.fit h1)
 have E0 := ak h2
 have G := ak h3
 have HL := ak hlow
 have RUN := ak hr
 clear N h1 h2 h3 hr hlow
 go_enter Tryz.func181, Tryz.ntmps181
 go_wp2_with fail
 have E1 := ak (sq_st E0.out)
 clear E0
 refine (bump_now H0.out (by omega)).mono ?_
 rintro e W2 ⟨rfl, N2⟩
 have H2 := ak N2
 clear N2 H0
 go_wp2_with fail
 obtain ⟨p3, e3, d3⟩ := sq_cons E1.out
 have R3 := ak e3
 have E4 := ak (d3)
 clear E1 e3 d3
 refine ((ih j (by omega)).pattern _ _ _ _ _ _ _ _ _ (by omega) (by have := HL.out; omega) H2.out R3.out).mono ?_
 rintro e W5 ⟨rfl, N5⟩
 have H5 := ak N5
 clear N5 H2
 go_wp2_with fail
 obtain ⟨p6, e6, d6⟩ := sq_cons E4.out
 have R6 := ak e6
 have E7 := ak (d6)
 clear E4 e6 d6
 refine (opt_now 107 #[.pointer (some ⟨pb, 0, none⟩)] #[] en_typeExpr (Meth.does (k := j) (fun i hi => (ih i (by omega)).typeExpr) (by have := HL.out; omega) (Nat.le_refl _)) H5.out R6.out).mono ?_
 rintro e W8 ⟨rfl, N8⟩
 have H8 := ak N8
 clear N8 H5
 go_wp2_with fail
 have E9 := ak (sq_st E7.out)
 clear E7
 refine (expect_now H8.out (by omega) (⟨#[61]⟩ : ByteArray)).mono ?_
 rintro e W10 ⟨rfl, N10⟩
 have H10 := ak N10
 clear N10 H8
 go_wp2_with fail
 obtain ⟨p11, e11, d11⟩ := sq_cons E9.out
 have R11 := ak e11
 have E12 := ak (d11)
 clear E9 e11 d11
 refine ((ih j (by omega)).expr _ _ _ _ _ _ _ _ _ (by omega) (by have := HL.out; omega) H10.out R11.out).mono ?_
 rintro e W13 ⟨rfl, N13⟩
 have H13 := ak N13
 clear N13 H10
 go_wp2_with fail
 have E14 := ak (sq_st E12.out)
 clear E12
 refine (expect_now H13.out (by omega) (⟨#[59]⟩ : ByteArray)).mono ?_
 rintro e W15 ⟨rfl, N15⟩
 have H15 := ak N15
 clear N15 H13
 go_wp2_with fail
 go_end0
 obtain hq := sq_nil E14.out
 have hf := G.out
 rw [hq] at hf ⊢
 exact ⟨rfl, (H15.out.fit hf)⟩
theorem armB_do  {k : Nat} {bxp : Nat}  (ih : ∀ i, i < k → IH B T tv pb i) (hb_bxp : Box pb W0 F0 bxp (.pointer (some ⟨pb, 0, none⟩))) (hlow : low.length + k ≤ 10000000) : Does B T tv pb (k + 1) .armB 215 #[.pointer (some ⟨bxp, 0, none⟩)] low kd tx W0 F0 := by
 intro i hi m W s q hm N hr
 obtain ⟨j, rfl, h1, h2, h3⟩ := run_some hr
 have H0 := ak (N.fit h1)
 have E0 := ak h2
 have G := ak h3
 have HL := ak (show low.length + (j + 1) ≤ 10000000 by omega)
 have B_bxp := ak hb_bxp
 have c0_bxp := N.box hb_bxp
 clear N h1 h2 h3 hr hlow hb_bxp
 go_enter Tryz.func215, Tryz.ntmps215
 go_wp2_with fail
 obtain ⟨p1, e1, d1⟩ := sq_cons E0.out
 have R1 := ak e1
 have E2 := ak (d1)
 clear E0 e1 d1
 refine ((ih j (by omega)).pattern _ _ _ _ _ _ _ _ _ (by omega) (by have := HL.out; omega) H0.out R1.out).mono ?_
 rintro e W3 ⟨rfl, N3⟩
 have H3 := ak N3
 have c3_bxp := N3.box B_bxp.out
 clear N3 H0 c0_bxp
 go_wp2_with fail
 have E4 := ak (sq_st E2.out)
 clear E2
 refine (expect_now H3.out (by omega) (⟨#[61, 62]⟩ : ByteArray)).mono ?_
 rintro e W5 ⟨rfl, N5⟩
 have H5 := ak N5
 have c5_bxp := N5.box B_bxp.out
 clear N5 H3 c3_bxp
 go_wp2_with fail
 obtain ⟨p6, e6, d6⟩ := sq_cons E4.out
 have R6 := ak e6
 have E7 := ak (d6)
 clear E4 e6 d6
 refine ((ih j (by omega)).expr _ _ _ _ _ _ _ _ _ (by omega) (by have := HL.out; omega) H5.out R6.out).mono ?_
 rintro e W8 ⟨rfl, N8⟩
 have H8 := ak N8
 have c8_bxp := N8.box B_bxp.out
 clear N8 H5 c5_bxp
 go_wp2_with fail
 go_end0
 obtain hq := sq_nil E7.out
 have hf := G.out
 rw [hq] at hf ⊢
 exact ⟨⟨_, rfl⟩, _, (H8.out.fit hf)⟩
end Go.Proofs.YtkijamagbgigmaaGreatDoor.Par
namespace Go.Proofs.YtkijamagbgigmaaGreatDoor.Par
open Go.RowKit Go.Proofs.YtkijamagbgigmaaGreatDoorW.PrintWords Go.Proofs.YtkijamagbgigmaaGreatDoorW.PrintLast
variable {B : Nat} {T : List Tok} {tv : Value} {pb : Nat} {m : Nat} {low : List Tree} {kd : Int} {tx : ByteArray} {W0 : World} {F0 : List Nat} {W : World} {s : St}
theorem atPat_now (N : Now B T tv pb m low kd tx W0 F0 W s) : Calls Tryz.prog 214 #[.pointer (some ⟨pb, 0, none⟩)] W (NowP B T tv pb m low kd tx W0 F0 (.bool (patT T s.1)) s) := by
 have H0 := ak N
 have hu98 := Tryz.underlying98
 clear N
 go_enter Tryz.func214, Tryz.ntmps214
 go_wp2_with fail
 refine (ident_now H0.out).mono ?_
 rintro e W1 ⟨rfl, N1⟩
 have H1 := ak N1
 clear N1
 rcases id_cases H1.out with hid | hid
 ·rw [hid]
  have HI := ak hid
  clear hid
  go_wp2_with fail
  go_ret
  exact ⟨by unfold patT; rw [HI.out]; rfl, H1.out⟩
 ·rw [hid]
  have HI := ak hid
  clear hid
  go_wp2_with fail
  refine (peek_now H1.out).mono ?_
  rintro e W2 ⟨rfl, N2⟩
  obtain ⟨tk, htk⟩ : ∃ tk, Hid ((peekT T s.1).1 = tk) := ⟨_, rfl⟩
  obtain ⟨tt, htt⟩ : ∃ tt, Hid ((peekT T s.1).2 = tt) := ⟨_, rfl⟩
  rw [show (peekT T s.1).1 = tk from htk, show (peekT T s.1).2 = tt from htt]
  have HTK := ak (show (peekT T s.1).1 = tk from htk)
  have H2 := ak N2
  clear N2 htk htt
  have hfd := field98 tk tt
  by_cases k1 : tk = 105
  ·subst k1
   go_wp2_with fail
   go_ret
   exact ⟨by unfold patT; rw [HI.out, HTK.out]; rfl, H2.out⟩
  ·have f1 : (tk == 105) = false := beq_eq_false_iff_ne.2 k1
   have K1 := ak k1
   clear k1
   go_wp2_with fail
   refine (at_lit H2.out [(⟨#[116, 114, 117, 101]⟩ : ByteArray), (⟨#[102, 97, 108, 115, 101]⟩ : ByteArray), (⟨#[109, 117, 116]⟩ : ByteArray)] (by simp)).mono ?_
   rintro e W3 ⟨rfl, N3⟩
   have H3 := ak N3
   clear N3
   have HP := ak (show patT T s.1 = atT T s.1 [(⟨#[116, 114, 117, 101]⟩ : ByteArray), (⟨#[102, 97, 108, 115, 101]⟩ : ByteArray), (⟨#[109, 117, 116]⟩ : ByteArray)] by unfold patT; rw [HI.out, decide_eq_false (by rw [HTK.out]; exact K1.out)]; rfl)
   rw [← HP.out]
   rcases pat_cases H3.out with hpt | hpt <;> rw [hpt] <;> have HPT := ak hpt <;> clear hpt
   ·go_wp2_with fail
    go_ret
    exact ⟨by rw [HPT.out]; rfl, H3.out⟩
   ·go_wp2_with fail
    go_ret
    exact ⟨by rw [HPT.out]; rfl, H3.out⟩
end Go.Proofs.YtkijamagbgigmaaGreatDoor.Par
namespace Go.Proofs.YtkijamagbgigmaaGreatDoor.Par
open Go.RowKit Go.Proofs.YtkijamagbgigmaaGreatDoorW.PrintWords Go.Proofs.YtkijamagbgigmaaGreatDoorW.PrintLast
variable {B : Nat} {T : List Tok} {tv : Value} {pb : Nat} {low : List Tree} {kd : Int} {tx : ByteArray} {W0 : World} {F0 : List Nat}
theorem armE_do  {k : Nat} {bxp : Nat}  (ih : ∀ i, i < k → IH B T tv pb i) (hb_bxp : Box pb W0 F0 bxp (.pointer (some ⟨pb, 0, none⟩))) (hlow : low.length + k ≤ 10000000) : Does B T tv pb (k + 1) .armE 213 #[.pointer (some ⟨bxp, 0, none⟩)] low kd tx W0 F0 := by
 intro i hi m W s q hm N hr
 obtain ⟨j, rfl, h1, h2, h3⟩ := run_some hr
 have H0 := ak (N.fit h1)
 have E0 := ak h2
 have G := ak h3
 have HL := ak (show low.length + (j + 1) ≤ 10000000 by omega)
 have B_bxp := ak hb_bxp
 have c0_bxp := N.box hb_bxp
 clear N h1 h2 h3 hr hlow hb_bxp
 go_enter Tryz.func213, Tryz.ntmps213
 go_wp2_with fail
 refine (atPat_now H0.out).mono ?_
 rintro e W2 ⟨rfl, N2⟩
 rcases pat_cases H0.out with b1 | b1
 ·rw [b1]
  have H2 := ak N2
  have c2_bxp := N2.box B_bxp.out
  clear N2 H0 c0_bxp
  have E3 := ak (if_t b1 E0.out)
  clear E0 b1
  go_wp2_with fail
  obtain ⟨p4, e4, d4⟩ := node_in E3.out
  have R4 := ak e4
  have D4 := ak d4
  clear e4 d4 E3
  refine (node_now H2.out (by omega) (by have := HL.out; omega) (36) 215 #[] #[.pointer (some ⟨bxp, 0, none⟩)] p4.2 en_match_1_1 (fit_iff.1 (run_fit R4.out)).1 (fun W1 F1 NN old => armB_do  (k := j) (fun i hi => ih i (by omega)) (B_bxp.out.old old) (by rw [List.length_append, List.length_singleton]; have := HL.out; omega) j (by omega) _ _ _ _ (by omega) NN R4.out)).mono ?_
  rintro e W5 ⟨rfl, N5⟩
  have H5 := ak N5
  have c5_bxp := N5.box B_bxp.out
  clear N5 H2 c2_bxp
  go_wp2_with fail
  go_end0
  obtain hq := D4.out
  have hf := G.out
  rw [hq] at hf ⊢
  exact ⟨⟨_, rfl⟩, _, (H5.out.fit hf)⟩
 ·rw [b1]
  have H2 := ak N2
  have c2_bxp := N2.box B_bxp.out
  clear N2 H0 c0_bxp
  have E6 := ak (if_f b1 E0.out)
  clear E0 b1
  go_wp2_with fail
  go_end0
  obtain hq := some_in E6.out
  have hf := G.out
  rw [hq] at hf ⊢
  exact ⟨⟨_, rfl⟩, _, (H2.out.fit hf)⟩
theorem matchS_go  {k : Nat}  (ih : ∀ i, i < k → IH B T tv pb i) : Meth B T tv pb k .matchS 200 #[.pointer (some ⟨pb, 0, none⟩)] (fun _ => .tuple #[]) := by
 intro m low kd tx W0 F0 W s q hm hlow N hr
 obtain ⟨j, rfl, h1, h2, h3⟩ := run_some hr
 have H0 := ak (N.fit h1)
 have E0 := ak h2
 have G := ak h3
 have HL := ak hlow
 have RUN := ak hr
 clear N h1 h2 h3 hr hlow
 go_enter Tryz.func200, Tryz.ntmps200
 go_wp2_with fail
 obtain ⟨WB, hWB⟩ : ∃ WB, (W.alloc (.cells #[.pointer (some ⟨pb, 0, none⟩)] 74)) = WB := ⟨_, rfl⟩
 have hbl : Below W.heap.size W WB := by rw [← hWB]; exact (below_alloc (Below.refl _ _) _)
 have hx_bxp : WB.heap[W.heap.size]? = some (.cells #[.pointer (some ⟨pb, 0, none⟩)] 74 (0, 0)) := by
  rw [← hWB]
  exact blk_new W _
 obtain ⟨FB, NB, hnew, holdb, hback⟩ := H0.out.enter hbl
 have BK := ak hback
 have hb_bxp : Box pb WB FB (W.heap.size) (.pointer (some ⟨pb, 0, none⟩)) := ⟨hnew _ (by omega) (blk_lt hx_bxp), _, hx_bxp⟩
 have B_bxp := ak hb_bxp
 have HN := ak NB
 have c0_bxp := NB.box hb_bxp
 rw [hWB]
 have hsz : W.heap.size + 1 = WB.heap.size := by rw [← hWB]; simp only [World.size_alloc]
 try rw [hsz]
 clear hsz hWB hbl hnew holdb hback NB H0 hb_bxp hx_bxp
 have E1 := ak (sq_st E0.out)
 clear E0
 refine (bump_now HN.out (by omega)).mono ?_
 rintro e W2 ⟨rfl, N2⟩
 have H2 := ak N2
 have c2_bxp := N2.box B_bxp.out
 clear N2 HN c0_bxp
 go_wp2_with fail
 obtain ⟨p3, e3, d3⟩ := sq_cons E1.out
 have R3 := ak e3
 have E4 := ak (d3)
 clear E1 e3 d3
 refine ((ih j (by omega)).expr _ _ _ _ _ _ _ _ _ (by omega) (by have := HL.out; omega) H2.out R3.out).mono ?_
 rintro e W5 ⟨rfl, N5⟩
 have H5 := ak N5
 have c5_bxp := N5.box B_bxp.out
 clear N5 H2 c2_bxp
 go_wp2_with fail
 have E6 := ak (sq_st E4.out)
 clear E4
 refine (expect_now H5.out (by omega) (⟨#[123]⟩ : ByteArray)).mono ?_
 rintro e W7 ⟨rfl, N7⟩
 have H7 := ak N7
 have c7_bxp := N7.box B_bxp.out
 clear N7 H5 c5_bxp
 go_wp2_with fail
 obtain ⟨p8, e8, d8⟩ := sq_cons E6.out
 have R8 := ak e8
 have E9 := ak (d8)
 clear E6 e8 d8
 refine (list_now 213 #[] #[.pointer (some ⟨W.heap.size, 0, none⟩)] en_match_1 (by have := HL.out; omega) ((armE_do  (k := j) (fun i hi => ih i (by omega)) B_bxp.out (by have := HL.out; omega)).mono (by omega)) H7.out R8.out).mono ?_
 rintro e W10 ⟨rfl, N10⟩
 have H10 := ak N10
 have c10_bxp := N10.box B_bxp.out
 clear N10 H7 c7_bxp
 go_wp2_with fail
 go_end0
 obtain hq := sq_nil E9.out
 have hf := G.out
 rw [hq] at hf ⊢
 exact ⟨rfl, (BK.out _ _ _ _ _ _ (H10.out.fit hf))⟩
theorem methodB_do  {k : Nat} {bxp : Nat}  (ih : ∀ i, i < k → IH B T tv pb i) (hb_bxp : Box pb W0 F0 bxp (.pointer (some ⟨pb, 0, none⟩))) (hlow : low.length + k ≤ 10000000) : Does B T tv pb (k + 1) .methodB 138 #[.pointer (some ⟨bxp, 0, none⟩)] low kd tx W0 F0 := by
 intro i hi m W s q hm N hr
 obtain ⟨j, rfl, h1, h2, h3⟩ := run_some hr
 have H0 := ak (N.fit h1)
 have E0 := ak h2
 have G := ak h3
 have HL := ak (show low.length + (j + 1) ≤ 10000000 by omega)
 have B_bxp := ak hb_bxp
 have c0_bxp := N.box hb_bxp
 clear N h1 h2 h3 hr hlow hb_bxp
 go_enter Tryz.func138, Tryz.ntmps138
 go_wp2_with fail
 have E1 := ak (sq_st E0.out)
 clear E0
 refine (bump_now H0.out (by omega)).mono ?_
 rintro e W2 ⟨rfl, N2⟩
 have H2 := ak N2
 have c2_bxp := N2.box B_bxp.out
 clear N2 H0 c0_bxp
 go_wp2_with fail
 obtain ⟨p3, e3, d3⟩ := sq_cons E1.out
 have R3 := ak e3
 have E4 := ak (d3)
 clear E1 e3 d3
 refine ((ih j (by omega)).function false _ _ _ _ _ _ _ _ _ (by omega) (by have := HL.out; omega) H2.out R3.out).mono ?_
 rintro e W5 ⟨rfl, N5⟩
 have H5 := ak N5
 have c5_bxp := N5.box B_bxp.out
 clear N5 H2 c2_bxp
 go_wp2_with fail
 go_end0
 obtain hq := sq_nil E4.out
 have hf := G.out
 rw [hq] at hf ⊢
 exact ⟨⟨_, rfl⟩, _, (H5.out.fit hf)⟩
theorem assocB_do  {k : Nat} {bxp : Nat}  (ih : ∀ i, i < k → IH B T tv pb i) (hb_bxp : Box pb W0 F0 bxp (.pointer (some ⟨pb, 0, none⟩))) (hlow : low.length + k ≤ 10000000) : Does B T tv pb (k + 1) .assocB 139 #[.pointer (some ⟨bxp, 0, none⟩)] low kd tx W0 F0 := by
 intro i hi m W s q hm N hr
 obtain ⟨j, rfl, h1, h2, h3⟩ := run_some hr
 have H0 := ak (N.fit h1)
 have E0 := ak h2
 have G := ak h3
 have HL := ak (show low.length + (j + 1) ≤ 10000000 by omega)
 have B_bxp := ak hb_bxp
 have c0_bxp := N.box hb_bxp
 clear N h1 h2 h3 hr hlow hb_bxp
 go_enter Tryz.func139, Tryz.ntmps139
 go_wp2_with fail
 have E1 := ak (sq_st E0.out)
 clear E0
 refine (bump_now H0.out (by omega)).mono ?_
 rintro e W2 ⟨rfl, N2⟩
 have H2 := ak N2
 have c2_bxp := N2.box B_bxp.out
 clear N2 H0 c0_bxp
 go_wp2_with fail
 have E3 := ak (sq_st E1.out)
 clear E1
 refine (expectId_now H2.out (by omega)).mono ?_
 rintro e W4 ⟨rfl, N4⟩
 have H4 := ak N4
 have c4_bxp := N4.box B_bxp.out
 clear N4 H2 c2_bxp
 go_wp2_with fail
 obtain ⟨p5, e5, d5⟩ := sq_cons E3.out
 have R5 := ak e5
 have E6 := ak (d5)
 clear E3 e5 d5
 refine (opt_now 107 #[.pointer (some ⟨pb, 0, none⟩)] #[] en_typeExpr (Meth.does (k := j) (fun i hi => (ih i (by omega)).typeExpr) (by have := HL.out; omega) (Nat.le_refl _)) H4.out R5.out).mono ?_
 rintro e W7 ⟨rfl, N7⟩
 have H7 := ak N7
 have c7_bxp := N7.box B_bxp.out
 clear N7 H4 c4_bxp
 go_wp2_with fail
 have E8 := ak (sq_st E6.out)
 clear E6
 refine (expect_now H7.out (by omega) (⟨#[59]⟩ : ByteArray)).mono ?_
 rintro e W9 ⟨rfl, N9⟩
 have H9 := ak N9
 have c9_bxp := N9.box B_bxp.out
 clear N9 H7 c7_bxp
 go_wp2_with fail
 go_end0
 obtain hq := sq_nil E8.out
 have hf := G.out
 rw [hq] at hf ⊢
 exact ⟨⟨_, rfl⟩, _, (H9.out.fit hf)⟩
theorem members_go  {k : Nat}  (ih : ∀ i, i < k → IH B T tv pb i) : Meth B T tv pb k .members 104 #[.pointer (some ⟨pb, 0, none⟩)] (fun _ => .tuple #[]) := by
 intro m low kd tx W0 F0 W s q hm hlow N hr
 obtain ⟨j, rfl, h1, h2, h3⟩ := run_some hr
 have H0 := ak (N.fit h1)
 have E0 := ak h2
 have G := ak h3
 have HL := ak hlow
 have RUN := ak hr
 clear N h1 h2 h3 hr hlow
 go_enter Tryz.func104, Tryz.ntmps104
 go_wp2_with fail
 obtain ⟨WB, hWB⟩ : ∃ WB, (W.alloc (.cells #[.pointer (some ⟨pb, 0, none⟩)] 74)) = WB := ⟨_, rfl⟩
 have hbl : Below W.heap.size W WB := by rw [← hWB]; exact (below_alloc (Below.refl _ _) _)
 have hx_bxp : WB.heap[W.heap.size]? = some (.cells #[.pointer (some ⟨pb, 0, none⟩)] 74 (0, 0)) := by
  rw [← hWB]
  exact blk_new W _
 obtain ⟨FB, NB, hnew, holdb, hback⟩ := H0.out.enter hbl
 have BK := ak hback
 have hb_bxp : Box pb WB FB (W.heap.size) (.pointer (some ⟨pb, 0, none⟩)) := ⟨hnew _ (by omega) (blk_lt hx_bxp), _, hx_bxp⟩
 have B_bxp := ak hb_bxp
 have HN := ak NB
 have c0_bxp := NB.box hb_bxp
 rw [hWB]
 have hsz : W.heap.size + 1 = WB.heap.size := by rw [← hWB]; simp only [World.size_alloc]
 try rw [hsz]
 clear hsz hWB hbl hnew holdb hback NB H0 hb_bxp hx_bxp
 have E1 := ak (sq_st E0.out)
 clear E0
 refine (expect_now HN.out (by omega) (⟨#[123]⟩ : ByteArray)).mono ?_
 rintro e W2 ⟨rfl, N2⟩
 have H2 := ak N2
 have c2_bxp := N2.box B_bxp.out
 clear N2 HN c0_bxp
 go_wp2_with fail
 obtain ⟨p3, e3, d3⟩ := sq_cons E1.out
 have L3 := ak e3
 have Y3 := ak d3
 clear e3 d3 E1
 go_loopg [] j (fun g wr => ∃ pl s1, Now B T tv pb 10000000 low kd tx WB FB wr s1 ∧ run T g .membersLoop s1 = some pl ∧ pl.2 = p3.2 ∧ g ≤ j)
 case atStart =>
  obtain ⟨_, _, g1, _, _⟩ := run_some L3.out
  exact ⟨_, _, H2.out.fit g1, L3.out, rfl, Nat.le_refl _⟩
 case round =>
  obtain ⟨pl4, s4, N4, hr4, hpl4, hg4⟩ := hrel
  obtain ⟨i4, rfl, f1, f2, f3⟩ := run_some hr4
  have H4 := ak N4
  have E4 := ak f2
  have PL4 := ak hpl4
  have hi4 := ak hg4
  have c4_bxp := N4.box B_bxp.out
  clear N4 hr4 hpl4 hg4 f1 f2 f3 H2 c2_bxp
  go_wp2_with fail
  refine (at_lit H4.out [(⟨#[116, 121, 112, 101]⟩ : ByteArray), (⟨#[102, 110]⟩ : ByteArray)] (by simp)).mono ?_
  rintro e W6 ⟨rfl, N6⟩
  rcases at_cases H4.out [(⟨#[116, 121, 112, 101]⟩ : ByteArray), (⟨#[102, 110]⟩ : ByteArray)] with b5 | b5
  ·rw [b5]
   have H6 := ak N6
   have c6_bxp := N6.box B_bxp.out
   clear N6 H4 c4_bxp
   have E7 := ak (if_t b5 E4.out)
   clear E4 b5
   go_wp2_with fail
   obtain ⟨p8, e8, d8⟩ := bind_in E7.out
   have X8 := ak e8
   have Y8 := ak d8
   clear e8 d8 E7
   refine (at_lit H6.out [(⟨#[102, 110]⟩ : ByteArray)] (by simp)).mono ?_
   rintro e W10 ⟨rfl, N10⟩
   rcases at_cases H6.out [(⟨#[102, 110]⟩ : ByteArray)] with b9 | b9
   ·rw [b9]
    have H10 := ak N10
    have c10_bxp := N10.box B_bxp.out
    clear N10 H6 c6_bxp
    have E11 := ak (if_t b9 X8.out)
    clear X8 b9
    go_wp2_with fail
    obtain ⟨p12, e12, d12⟩ := node_in E11.out
    have R12 := ak e12
    have D12 := ak d12
    clear e12 d12 E11
    refine (node_now H10.out (by omega) (by have := HL.out; have := hi4.out; omega) (3) 138 #[] #[.pointer (some ⟨W.heap.size, 0, none⟩)] p12.2 en_members_1 (fit_iff.1 (run_fit R12.out)).1 (fun W1 F1 NN old => methodB_do  (k := i4) (fun i hi => ih i (by have := hi4.out; omega)) (B_bxp.out.old old) (by rw [List.length_append, List.length_singleton]; have := HL.out; have := hi4.out; omega) i4 (by omega) _ _ _ _ (by omega) NN R12.out)).mono ?_
    rintro e W13 ⟨rfl, N13⟩
    have H13 := ak N13
    have c13_bxp := N13.box B_bxp.out
    clear N13 H10 c10_bxp
    go_wp2_with fail
    have hp14 := D12.out
    have E14 := ak (by have h := Y8.out; rw [hp14] at h; exact h)
    clear hp14 D12 Y8
    go_roundg i4
    case rel =>
     obtain ⟨_, _, g1, _, _⟩ := run_some E14.out
     exact ⟨_, _, H13.out.fit g1, E14.out, PL4.out, by have := hi4.out; omega⟩
    case measure => omega
   ·rw [b9]
    have H10 := ak N10
    have c10_bxp := N10.box B_bxp.out
    clear N10 H6 c6_bxp
    have E15 := ak (if_f b9 X8.out)
    clear X8 b9
    go_wp2_with fail
    obtain ⟨p16, e16, d16⟩ := node_in E15.out
    have R16 := ak e16
    have D16 := ak d16
    clear e16 d16 E15
    refine (node_now H10.out (by omega) (by have := HL.out; have := hi4.out; omega) (16) 139 #[] #[.pointer (some ⟨W.heap.size, 0, none⟩)] p16.2 en_members_2 (fit_iff.1 (run_fit R16.out)).1 (fun W1 F1 NN old => assocB_do  (k := i4) (fun i hi => ih i (by have := hi4.out; omega)) (B_bxp.out.old old) (by rw [List.length_append, List.length_singleton]; have := HL.out; have := hi4.out; omega) i4 (by omega) _ _ _ _ (by omega) NN R16.out)).mono ?_
    rintro e W17 ⟨rfl, N17⟩
    have H17 := ak N17
    have c17_bxp := N17.box B_bxp.out
    clear N17 H10 c10_bxp
    go_wp2_with fail
    have hp18 := D16.out
    have E18 := ak (by have h := Y8.out; rw [hp18] at h; exact h)
    clear hp18 D16 Y8
    go_roundg i4
    case rel =>
     obtain ⟨_, _, g1, _, _⟩ := run_some E18.out
     exact ⟨_, _, H17.out.fit g1, E18.out, PL4.out, by have := hi4.out; omega⟩
    case measure => omega
  ·rw [b5]
   have H6 := ak N6
   have c6_bxp := N6.box B_bxp.out
   clear N6 H4 c4_bxp
   have E19 := ak (if_f b5 E4.out)
   clear E4 b5
   go_wp2_with fail
   have hq20 : p3.2 = _ := PL4.out.symm.trans (congrArg Prod.snd (some_in E19.out))
   have E20 := ak (by have h := Y3.out; rw [hq20] at h; exact h)
   clear hq20 E19
   have E21 := ak (sq_st E20.out)
   clear E20
   refine (expect_now H6.out (by omega) (⟨#[125]⟩ : ByteArray)).mono ?_
   rintro e W22 ⟨rfl, N22⟩
   have H22 := ak N22
   have c22_bxp := N22.box B_bxp.out
   clear N22 H6 c6_bxp
   go_wp2_with fail
   go_end0
   obtain hq := sq_nil E21.out
   have hf := G.out
   rw [hq] at hf ⊢
   exact ⟨rfl, (BK.out _ _ _ _ _ _ (H22.out.fit hf))⟩
theorem paramB_do  {k : Nat} {bxp : Nat}  (ih : ∀ i, i < k → IH B T tv pb i) (hb_bxp : Box pb W0 F0 bxp (.pointer (some ⟨pb, 0, none⟩))) (hlow : low.length + k ≤ 10000000) : Does B T tv pb (k + 1) .paramB 148 #[.pointer (some ⟨bxp, 0, none⟩)] low kd tx W0 F0 := by
 intro i hi m W s q hm N hr
 obtain ⟨j, rfl, h1, h2, h3⟩ := run_some hr
 have H0 := ak (N.fit h1)
 have E0 := ak h2
 have G := ak h3
 have HL := ak (show low.length + (j + 1) ≤ 10000000 by omega)
 have B_bxp := ak hb_bxp
 have c0_bxp := N.box hb_bxp
 clear N h1 h2 h3 hr hlow hb_bxp
 go_enter Tryz.func148, Tryz.ntmps148
 go_wp2_with fail
 have E1 := ak (sq_st E0.out)
 clear E0
 refine (bump_now H0.out (by omega)).mono ?_
 rintro e W2 ⟨rfl, N2⟩
 have H2 := ak N2
 have c2_bxp := N2.box B_bxp.out
 clear N2 H0 c0_bxp
 go_wp2_with fail
 obtain ⟨p3, e3, d3⟩ := sq_cons E1.out
 have R3 := ak e3
 have E4 := ak (d3)
 clear E1 e3 d3
 refine (opt_now 107 #[.pointer (some ⟨pb, 0, none⟩)] #[] en_typeExpr (Meth.does (k := j) (fun i hi => (ih i (by omega)).typeExpr) (by have := HL.out; omega) (Nat.le_refl _)) H2.out R3.out).mono ?_
 rintro e W5 ⟨rfl, N5⟩
 have H5 := ak N5
 have c5_bxp := N5.box B_bxp.out
 clear N5 H2 c2_bxp
 go_wp2_with fail
 go_end0
 obtain hq := sq_nil E4.out
 have hf := G.out
 rw [hq] at hf ⊢
 exact ⟨⟨_, rfl⟩, _, (H5.out.fit hf)⟩
theorem paramE_do  {k : Nat} {bxp : Nat}  (ih : ∀ i, i < k → IH B T tv pb i) (hb_bxp : Box pb W0 F0 bxp (.pointer (some ⟨pb, 0, none⟩))) (hlow : low.length + k ≤ 10000000) : Does B T tv pb (k + 1) .paramE 147 #[.pointer (some ⟨bxp, 0, none⟩)] low kd tx W0 F0 := by
 intro i hi m W s q hm N hr
 obtain ⟨j, rfl, h1, h2, h3⟩ := run_some hr
 have H0 := ak (N.fit h1)
 have E0 := ak h2
 have G := ak h3
 have HL := ak (show low.length + (j + 1) ≤ 10000000 by omega)
 have B_bxp := ak hb_bxp
 have c0_bxp := N.box hb_bxp
 clear N h1 h2 h3 hr hlow hb_bxp
 go_enter Tryz.func147, Tryz.ntmps147
 go_wp2_with fail
 refine (ident_now H0.out).mono ?_
 rintro e W2 ⟨rfl, N2⟩
 rcases id_cases H0.out with b1 | b1
 ·rw [b1]
  have H2 := ak N2
  have c2_bxp := N2.box B_bxp.out
  clear N2 H0 c0_bxp
  have E3 := ak (if_t b1 E0.out)
  clear E0 b1
  go_wp2_with fail
  obtain ⟨p4, e4, d4⟩ := node_in E3.out
  have R4 := ak e4
  have D4 := ak d4
  clear e4 d4 E3
  refine (node_now H2.out (by omega) (by have := HL.out; omega) (13) 148 #[] #[.pointer (some ⟨bxp, 0, none⟩)] p4.2 en_params_1_1_1 (fit_iff.1 (run_fit R4.out)).1 (fun W1 F1 NN old => paramB_do  (k := j) (fun i hi => ih i (by omega)) (B_bxp.out.old old) (by rw [List.length_append, List.length_singleton]; have := HL.out; omega) j (by omega) _ _ _ _ (by omega) NN R4.out)).mono ?_
  rintro e W5 ⟨rfl, N5⟩
  have H5 := ak N5
  have c5_bxp := N5.box B_bxp.out
  clear N5 H2 c2_bxp
  go_wp2_with fail
  go_end0
  obtain hq := D4.out
  have hf := G.out
  rw [hq] at hf ⊢
  exact ⟨⟨_, rfl⟩, _, (H5.out.fit hf)⟩
 ·rw [b1]
  have H2 := ak N2
  have c2_bxp := N2.box B_bxp.out
  clear N2 H0 c0_bxp
  have E6 := ak (if_f b1 E0.out)
  clear E0 b1
  go_wp2_with fail
  go_end0
  obtain hq := some_in E6.out
  have hf := G.out
  rw [hq] at hf ⊢
  exact ⟨⟨_, rfl⟩, _, (H2.out.fit hf)⟩
theorem paramsB_do (closing : ByteArray) {k : Nat} {bxp : Nat} {bxc : Nat}  (ih : ∀ i, i < k → IH B T tv pb i) (hb_bxp : Box pb W0 F0 bxp (.pointer (some ⟨pb, 0, none⟩))) (hb_bxc : Box pb W0 F0 bxc (.string closing)) (hlow : low.length + k ≤ 10000000) : Does B T tv pb (k + 1) (.paramsB closing) 146 #[.pointer (some ⟨bxp, 0, none⟩), .pointer (some ⟨bxc, 0, none⟩)] low kd tx W0 F0 := by
 intro i hi m W s q hm N hr
 obtain ⟨j, rfl, h1, h2, h3⟩ := run_some hr
 have H0 := ak (N.fit h1)
 have E0 := ak h2
 have G := ak h3
 have HL := ak (show low.length + (j + 1) ≤ 10000000 by omega)
 have B_bxp := ak hb_bxp
 have c0_bxp := N.box hb_bxp
 have B_bxc := ak hb_bxc
 have c0_bxc := N.box hb_bxc
 clear N h1 h2 h3 hr hlow hb_bxp hb_bxc
 go_enter Tryz.func146, Tryz.ntmps146
 go_wp2_with fail
 refine (list_now 147 #[] #[.pointer (some ⟨bxp, 0, none⟩)] en_params_1_1 (by have := HL.out; omega) ((paramE_do  (k := j) (fun i hi => ih i (by omega)) B_bxp.out (by have := HL.out; omega)).mono (by omega)) H0.out E0.out).mono ?_
 rintro e W1 ⟨rfl, N1⟩
 have H1 := ak N1
 have c1_bxp := N1.box B_bxp.out
 have c1_bxc := N1.box B_bxc.out
 clear N1 H0 c0_bxp c0_bxc
 go_wp2_with fail
 go_end0
 exact ⟨⟨_, rfl⟩, _, H1.out⟩
theorem params_go (closing : ByteArray) {k : Nat}  (ih : ∀ i, i < k → IH B T tv pb i) : Meth B T tv pb k (.params closing) 109 #[.pointer (some ⟨pb, 0, none⟩), .string closing] (fun _ => .tuple #[]) := by
 intro m low kd tx W0 F0 W s q hm hlow N hr
 obtain ⟨j, rfl, h1, h2, h3⟩ := run_some hr
 have H0 := ak (N.fit h1)
 have E0 := ak h2
 have G := ak h3
 have HL := ak hlow
 have RUN := ak hr
 clear N h1 h2 h3 hr hlow
 go_enter Tryz.func109, Tryz.ntmps109
 go_wp2_with fail
 obtain ⟨WB, hWB⟩ : ∃ WB, ((W.alloc (.cells #[.pointer (some ⟨pb, 0, none⟩)] 74)).alloc (.cells #[.string closing] 9)) = WB := ⟨_, rfl⟩
 have hbl : Below W.heap.size W WB := by rw [← hWB]; exact (below_alloc (below_alloc (Below.refl _ _) _) _)
 have hx_bxp : WB.heap[W.heap.size]? = some (.cells #[.pointer (some ⟨pb, 0, none⟩)] 74 (0, 0)) := by
  rw [← hWB]
  exact blk_alloc (blk_new W _) _
 have hx_bxc : WB.heap[W.heap.size + 1]? = some (.cells #[.string closing] 9 (0, 0)) := by
  rw [← hWB]
  have hn := blk_new (W.alloc (.cells #[.pointer (some ⟨pb, 0, none⟩)] 74)) (.cells #[.string closing] 9)
  simp only [World.size_alloc] at hn
  exact hn
 obtain ⟨FB, NB, hnew, holdb, hback⟩ := H0.out.enter hbl
 have BK := ak hback
 have hb_bxp : Box pb WB FB (W.heap.size) (.pointer (some ⟨pb, 0, none⟩)) := ⟨hnew _ (by omega) (blk_lt hx_bxp), _, hx_bxp⟩
 have B_bxp := ak hb_bxp
 have hb_bxc : Box pb WB FB (W.heap.size + 1) (.string closing) := ⟨hnew _ (by omega) (blk_lt hx_bxc), _, hx_bxc⟩
 have B_bxc := ak hb_bxc
 have HN := ak NB
 have c0_bxp := NB.box hb_bxp
 have c0_bxc := NB.box hb_bxc
 rw [hWB]
 have hsz : W.heap.size + 1 + 1 = WB.heap.size := by rw [← hWB]; simp only [World.size_alloc]
 try rw [hsz]
 clear hsz hWB hbl hnew holdb hback NB H0 hb_bxp hb_bxc hx_bxp hx_bxc
 obtain ⟨p1, e1, d1⟩ := node_in E0.out
 have R1 := ak e1
 have D1 := ak d1
 clear e1 d1 E0
 refine (node_now HN.out (by omega) (by have := HL.out; omega) (12) 146 #[] #[.pointer (some ⟨W.heap.size, 0, none⟩), .pointer (some ⟨W.heap.size + 1, 0, none⟩)] p1.2 en_params_1 (fit_iff.1 (run_fit R1.out)).1 (fun W1 F1 NN old => paramsB_do closing (k := j) (fun i hi => ih i (by omega)) (B_bxp.out.old old) (B_bxc.out.old old) (by rw [List.length_append, List.length_singleton]; have := HL.out; omega) j (by omega) _ _ _ _ (by omega) NN R1.out)).mono ?_
 rintro e W2 ⟨rfl, N2⟩
 have H2 := ak N2
 have c2_bxp := N2.box B_bxp.out
 have c2_bxc := N2.box B_bxc.out
 clear N2 HN c0_bxp c0_bxc
 go_wp2_with fail
 go_end0
 obtain hq := D1.out
 have hf := G.out
 rw [hq] at hf ⊢
 exact ⟨rfl, (BK.out _ _ _ _ _ _ (H2.out.fit hf))⟩
theorem segBF_do  {k : Nat} {bxp : Nat} {bxt : Nat}  (ih : ∀ i, i < k → IH B T tv pb i) (hb_bxp : Box pb W0 F0 bxp (.pointer (some ⟨pb, 0, none⟩))) (hb_bxt : Box pb W0 F0 bxt (.bool false)) (hlow : low.length + k ≤ 10000000) : Does B T tv pb (k + 1) (.segB false) 166 #[.pointer (some ⟨bxp, 0, none⟩), .pointer (some ⟨bxt, 0, none⟩)] low kd tx W0 F0 := by
 intro i hi m W s q hm N hr
 obtain ⟨j, rfl, h1, h2, h3⟩ := run_some hr
 have H0 := ak (N.fit h1)
 have E0 := ak h2
 have G := ak h3
 have HL := ak (show low.length + (j + 1) ≤ 10000000 by omega)
 have B_bxp := ak hb_bxp
 have c0_bxp := N.box hb_bxp
 have B_bxt := ak hb_bxt
 have c0_bxt := N.box hb_bxt
 clear N h1 h2 h3 hr hlow hb_bxp hb_bxt
 go_enter Tryz.func166, Tryz.ntmps166
 go_wp2_with fail
 have E1 := ak (sq_st E0.out)
 clear E0
 refine (expectId_now H0.out (by omega)).mono ?_
 rintro e W2 ⟨rfl, N2⟩
 have H2 := ak N2
 have c2_bxp := N2.box B_bxp.out
 have c2_bxt := N2.box B_bxt.out
 clear N2 H0 c0_bxp c0_bxt
 go_wp2_with fail
 have E3 := ak (show sqL [] _ = some q from sq_drop E1.out)
 clear E1
 go_end0
 obtain hq := sq_nil E3.out
 have hf := G.out
 rw [hq] at hf ⊢
 exact ⟨⟨_, rfl⟩, _, (H2.out.fit hf)⟩
theorem pathBF_do  {k : Nat} {bxp : Nat} {bxt : Nat}  (ih : ∀ i, i < k → IH B T tv pb i) (hb_bxp : Box pb W0 F0 bxp (.pointer (some ⟨pb, 0, none⟩))) (hb_bxt : Box pb W0 F0 bxt (.bool false)) (hlow : low.length + k ≤ 10000000) : Does B T tv pb (k + 1) (.pathB false) 165 #[.pointer (some ⟨bxp, 0, none⟩), .pointer (some ⟨bxt, 0, none⟩)] low kd tx W0 F0 := by
 intro i hi m W s q hm N hr
 obtain ⟨j, rfl, h1, h2, h3⟩ := run_some hr
 have H0 := ak (N.fit h1)
 have E0 := ak h2
 have G := ak h3
 have HL := ak (show low.length + (j + 1) ≤ 10000000 by omega)
 have B_bxp := ak hb_bxp
 have c0_bxp := N.box hb_bxp
 have B_bxt := ak hb_bxt
 have c0_bxt := N.box hb_bxt
 clear N h1 h2 h3 hr hlow hb_bxp hb_bxt
 go_enter Tryz.func165, Tryz.ntmps165
 go_wp2_with fail
 have L1 := ak E0.out
 clear E0
 go_loopg [2] j (fun g v wr => ∃ b pl s1, v = .bool b ∧ Now B T tv pb 10000000 low kd tx W0 F0 wr s1 ∧ run T g (.pathLoop false b) s1 = some pl ∧ pl.2 = q.2 ∧ g ≤ j)
 case atStart =>
  obtain ⟨_, _, g1, _, _⟩ := run_some L1.out
  exact ⟨true, _, _, rfl, H0.out.fit g1, L1.out, rfl, Nat.le_refl _⟩
 case round =>
  obtain ⟨b2, pl2, s2, rfl, N2, hr2, hpl2, hg2⟩ := hrel
  obtain ⟨i2, rfl, f1, f2, f3⟩ := run_some hr2
  have H2 := ak N2
  have PL2 := ak hpl2
  have hi2 := ak hg2
  have c2_bxp := N2.box B_bxp.out
  have c2_bxt := N2.box B_bxt.out
  clear N2 hr2 hpl2 hg2 f1 f3 H0 c0_bxp c0_bxt
  cases b2
  ·have E2 := ak f2
   clear f2
   go_wp2_with fail
   refine (accept_lit H2.out (by omega) [(⟨#[58, 58]⟩ : ByteArray)] (by simp)).mono ?_
   rintro e W4 ⟨rfl, N4⟩
   rcases at_cases H2.out [(⟨#[58, 58]⟩ : ByteArray)] with b3 | b3
   ·rw [acceptS_t b3] at N4
    rw [b3]
    have H4 := ak N4
    have c4_bxp := N4.box B_bxp.out
    have c4_bxt := N4.box B_bxt.out
    clear N4 H2 c2_bxp c2_bxt
    have E5 := ak (if_t b3 E2.out)
    clear E2 b3
    go_wp2_with fail
    obtain ⟨p6, e6, d6⟩ := sq_cons E5.out
    have X6 := ak e6
    have E7 := ak (d6)
    clear E5 e6 d6
    obtain ⟨p8, e8, d8⟩ := node_in X6.out
    have R8 := ak e8
    have D8 := ak d8
    clear e8 d8 X6
    refine (node_now H4.out (by omega) (by have := HL.out; have := hi2.out; omega) (18) 166 #[] #[.pointer (some ⟨bxp, 0, none⟩), .pointer (some ⟨bxt, 0, none⟩)] p8.2 en_path_1_1 (fit_iff.1 (run_fit R8.out)).1 (fun W1 F1 NN old => segBF_do  (k := i2) (fun i hi => ih i (by have := hi2.out; omega)) (B_bxp.out.old old) (B_bxt.out.old old) (by rw [List.length_append, List.length_singleton]; have := HL.out; have := hi2.out; omega) i2 (by omega) _ _ _ _ (by omega) NN R8.out)).mono ?_
    rintro e W9 ⟨rfl, N9⟩
    have H9 := ak N9
    have c9_bxp := N9.box B_bxp.out
    have c9_bxt := N9.box B_bxt.out
    clear N9 H4 c4_bxp c4_bxt
    go_wp2_with fail
    have E8a := E7.out
    rw [D8.out] at E8a
    have E10 := ak (E8a)
    clear E7 E8a
    go_roundg i2
    case rel =>
     obtain ⟨pn, en1, en2⟩ := sq_cons E10.out
     obtain ⟨_, _, g1, _, _⟩ := run_some en1
     exact ⟨false, _, _, rfl, H9.out.fit g1, en1, by rw [← PL2.out, sq_nil en2], by have := hi2.out; omega⟩
    case measure => omega
   ·rw [acceptS_f b3] at N4
    rw [b3]
    have H4 := ak N4
    have c4_bxp := N4.box B_bxp.out
    have c4_bxt := N4.box B_bxt.out
    clear N4 H2 c2_bxp c2_bxt
    have E11 := ak (if_f b3 E2.out)
    clear E2 b3
    go_wp2_with fail
    have hq12 : q.2 = _ := PL2.out.symm.trans (congrArg Prod.snd (some_in E11.out))
    have E12 := ak hq12
    clear hq12 E11
    go_end0
    obtain hq := E12.out
    have hf := G.out
    rw [hq] at hf ⊢
    exact ⟨⟨_, rfl⟩, _, (H4.out.fit hf)⟩
  ·have E2 := ak f2
   clear f2
   go_wp2_with fail
   obtain ⟨p13, e13, d13⟩ := sq_cons E2.out
   have X13 := ak e13
   have E14 := ak (d13)
   clear E2 e13 d13
   obtain ⟨p15, e15, d15⟩ := node_in X13.out
   have R15 := ak e15
   have D15 := ak d15
   clear e15 d15 X13
   refine (node_now H2.out (by omega) (by have := HL.out; have := hi2.out; omega) (18) 166 #[] #[.pointer (some ⟨bxp, 0, none⟩), .pointer (some ⟨bxt, 0, none⟩)] p15.2 en_path_1_1 (fit_iff.1 (run_fit R15.out)).1 (fun W1 F1 NN old => segBF_do  (k := i2) (fun i hi => ih i (by have := hi2.out; omega)) (B_bxp.out.old old) (B_bxt.out.old old) (by rw [List.length_append, List.length_singleton]; have := HL.out; have := hi2.out; omega) i2 (by omega) _ _ _ _ (by omega) NN R15.out)).mono ?_
   rintro e W16 ⟨rfl, N16⟩
   have H16 := ak N16
   have c16_bxp := N16.box B_bxp.out
   have c16_bxt := N16.box B_bxt.out
   clear N16 H2 c2_bxp c2_bxt
   go_wp2_with fail
   have E15a := E14.out
   rw [D15.out] at E15a
   have E17 := ak (E15a)
   clear E14 E15a
   go_roundg i2
   case rel =>
    obtain ⟨pn, en1, en2⟩ := sq_cons E17.out
    obtain ⟨_, _, g1, _, _⟩ := run_some en1
    exact ⟨false, _, _, rfl, H16.out.fit g1, en1, by rw [← PL2.out, sq_nil en2], by have := hi2.out; omega⟩
   case measure => omega
theorem pathF_go  {k : Nat}  (ih : ∀ i, i < k → IH B T tv pb i) : Meth B T tv pb k (.path false) 143 #[.pointer (some ⟨pb, 0, none⟩), .bool false] (fun _ => .tuple #[]) := by
 intro m low kd tx W0 F0 W s q hm hlow N hr
 obtain ⟨j, rfl, h1, h2, h3⟩ := run_some hr
 have H0 := ak (N.fit h1)
 have E0 := ak h2
 have G := ak h3
 have HL := ak hlow
 have RUN := ak hr
 clear N h1 h2 h3 hr hlow
 go_enter Tryz.func143, Tryz.ntmps143
 go_wp2_with fail
 obtain ⟨WB, hWB⟩ : ∃ WB, ((W.alloc (.cells #[.pointer (some ⟨pb, 0, none⟩)] 74)).alloc (.cells #[.bool false] 4)) = WB := ⟨_, rfl⟩
 have hbl : Below W.heap.size W WB := by rw [← hWB]; exact (below_alloc (below_alloc (Below.refl _ _) _) _)
 have hx_bxp : WB.heap[W.heap.size]? = some (.cells #[.pointer (some ⟨pb, 0, none⟩)] 74 (0, 0)) := by
  rw [← hWB]
  exact blk_alloc (blk_new W _) _
 have hx_bxt : WB.heap[W.heap.size + 1]? = some (.cells #[.bool false] 4 (0, 0)) := by
  rw [← hWB]
  have hn := blk_new (W.alloc (.cells #[.pointer (some ⟨pb, 0, none⟩)] 74)) (.cells #[.bool false] 4)
  simp only [World.size_alloc] at hn
  exact hn
 obtain ⟨FB, NB, hnew, holdb, hback⟩ := H0.out.enter hbl
 have BK := ak hback
 have hb_bxp : Box pb WB FB (W.heap.size) (.pointer (some ⟨pb, 0, none⟩)) := ⟨hnew _ (by omega) (blk_lt hx_bxp), _, hx_bxp⟩
 have B_bxp := ak hb_bxp
 have hb_bxt : Box pb WB FB (W.heap.size + 1) (.bool false) := ⟨hnew _ (by omega) (blk_lt hx_bxt), _, hx_bxt⟩
 have B_bxt := ak hb_bxt
 have HN := ak NB
 have c0_bxp := NB.box hb_bxp
 have c0_bxt := NB.box hb_bxt
 rw [hWB]
 have hsz : W.heap.size + 1 + 1 = WB.heap.size := by rw [← hWB]; simp only [World.size_alloc]
 try rw [hsz]
 clear hsz hWB hbl hnew holdb hback NB H0 hb_bxp hb_bxt hx_bxp hx_bxt
 obtain ⟨p1, e1, d1⟩ := node_in E0.out
 have R1 := ak e1
 have D1 := ak d1
 clear e1 d1 E0
 refine (node_now HN.out (by omega) (by have := HL.out; omega) (17) 165 #[] #[.pointer (some ⟨W.heap.size, 0, none⟩), .pointer (some ⟨W.heap.size + 1, 0, none⟩)] p1.2 en_path_1 (fit_iff.1 (run_fit R1.out)).1 (fun W1 F1 NN old => pathBF_do  (k := j) (fun i hi => ih i (by omega)) (B_bxp.out.old old) (B_bxt.out.old old) (by rw [List.length_append, List.length_singleton]; have := HL.out; omega) j (by omega) _ _ _ _ (by omega) NN R1.out)).mono ?_
 rintro e W2 ⟨rfl, N2⟩
 have H2 := ak N2
 have c2_bxp := N2.box B_bxp.out
 have c2_bxt := N2.box B_bxt.out
 clear N2 HN c0_bxp c0_bxt
 go_wp2_with fail
 go_end0
 obtain hq := D1.out
 have hf := G.out
 rw [hq] at hf ⊢
 exact ⟨rfl, (BK.out _ _ _ _ _ _ (H2.out.fit hf))⟩
theorem segBT_do  {k : Nat} {bxp : Nat} {bxt : Nat}  (ih : ∀ i, i < k → IH B T tv pb i) (hb_bxp : Box pb W0 F0 bxp (.pointer (some ⟨pb, 0, none⟩))) (hb_bxt : Box pb W0 F0 bxt (.bool true)) (hlow : low.length + k ≤ 10000000) : Does B T tv pb (k + 1) (.segB true) 166 #[.pointer (some ⟨bxp, 0, none⟩), .pointer (some ⟨bxt, 0, none⟩)] low kd tx W0 F0 := by
 intro i hi m W s q hm N hr
 obtain ⟨j, rfl, h1, h2, h3⟩ := run_some hr
 have H0 := ak (N.fit h1)
 have E0 := ak h2
 have G := ak h3
 have HL := ak (show low.length + (j + 1) ≤ 10000000 by omega)
 have B_bxp := ak hb_bxp
 have c0_bxp := N.box hb_bxp
 have B_bxt := ak hb_bxt
 have c0_bxt := N.box hb_bxt
 clear N h1 h2 h3 hr hlow hb_bxp hb_bxt
 go_enter Tryz.func166, Tryz.ntmps166
 go_wp2_with fail
 have E1 := ak (sq_st E0.out)
 clear E0
 refine (expectId_now H0.out (by omega)).mono ?_
 rintro e W2 ⟨rfl, N2⟩
 have H2 := ak N2
 have c2_bxp := N2.box B_bxp.out
 have c2_bxt := N2.box B_bxt.out
 clear N2 H0 c0_bxp c0_bxt
 go_wp2_with fail
 obtain ⟨p3, e3, d3⟩ := sq_cons E1.out
 have X3 := ak (fix_tt e3)
 have Y3 := ak d3
 clear e3 d3 E1
 refine (accept_lit H2.out (by omega) [(⟨#[60]⟩ : ByteArray)] (by simp)).mono ?_
 rintro e W5 ⟨rfl, N5⟩
 rcases at_cases H2.out [(⟨#[60]⟩ : ByteArray)] with b4 | b4
 ·rw [acceptS_t b4] at N5
  rw [b4]
  have H5 := ak N5
  have c5_bxp := N5.box B_bxp.out
  have c5_bxt := N5.box B_bxt.out
  clear N5 H2 c2_bxp c2_bxt
  have E6 := ak (if_t b4 X3.out)
  clear X3 b4
  go_wp2_with fail
  refine (list_now 107 #[.pointer (some ⟨pb, 0, none⟩)] #[] en_typeExpr (by have := HL.out; omega) (Meth.does (k := j) (fun i hi => (ih i (by omega)).typeExpr) (by have := HL.out; omega) (Nat.le_refl _)) H5.out E6.out).mono ?_
  rintro e W7 ⟨rfl, N7⟩
  have H7 := ak N7
  have c7_bxp := N7.box B_bxp.out
  have c7_bxt := N7.box B_bxt.out
  clear N7 H5 c5_bxp c5_bxt
  go_wp2_with fail
  go_end0
  obtain hq := sq_nil Y3.out
  have hf := G.out
  rw [hq] at hf ⊢
  exact ⟨⟨_, rfl⟩, _, (H7.out.fit hf)⟩
 ·rw [acceptS_f b4] at N5
  rw [b4]
  have H5 := ak N5
  have c5_bxp := N5.box B_bxp.out
  have c5_bxt := N5.box B_bxt.out
  clear N5 H2 c2_bxp c2_bxt
  have E8 := ak (if_f b4 X3.out)
  clear X3 b4
  go_wp2_with fail
  have hp9 := some_in E8.out
  have E9 := ak (by have h := Y3.out; rw [hp9] at h; exact h)
  clear hp9 E8 Y3
  go_end0
  obtain hq := sq_nil E9.out
  have hf := G.out
  rw [hq] at hf ⊢
  exact ⟨⟨_, rfl⟩, _, (H5.out.fit hf)⟩
theorem pathBT_do  {k : Nat} {bxp : Nat} {bxt : Nat}  (ih : ∀ i, i < k → IH B T tv pb i) (hb_bxp : Box pb W0 F0 bxp (.pointer (some ⟨pb, 0, none⟩))) (hb_bxt : Box pb W0 F0 bxt (.bool true)) (hlow : low.length + k ≤ 10000000) : Does B T tv pb (k + 1) (.pathB true) 165 #[.pointer (some ⟨bxp, 0, none⟩), .pointer (some ⟨bxt, 0, none⟩)] low kd tx W0 F0 := by
 intro i hi m W s q hm N hr
 obtain ⟨j, rfl, h1, h2, h3⟩ := run_some hr
 have H0 := ak (N.fit h1)
 have E0 := ak h2
 have G := ak h3
 have HL := ak (show low.length + (j + 1) ≤ 10000000 by omega)
 have B_bxp := ak hb_bxp
 have c0_bxp := N.box hb_bxp
 have B_bxt := ak hb_bxt
 have c0_bxt := N.box hb_bxt
 clear N h1 h2 h3 hr hlow hb_bxp hb_bxt
 go_enter Tryz.func165, Tryz.ntmps165
 go_wp2_with fail
 have L1 := ak E0.out
 clear E0
 go_loopg [2] j (fun g v wr => ∃ b pl s1, v = .bool b ∧ Now B T tv pb 10000000 low kd tx W0 F0 wr s1 ∧ run T g (.pathLoop true b) s1 = some pl ∧ pl.2 = q.2 ∧ g ≤ j)
 case atStart =>
  obtain ⟨_, _, g1, _, _⟩ := run_some L1.out
  exact ⟨true, _, _, rfl, H0.out.fit g1, L1.out, rfl, Nat.le_refl _⟩
 case round =>
  obtain ⟨b2, pl2, s2, rfl, N2, hr2, hpl2, hg2⟩ := hrel
  obtain ⟨i2, rfl, f1, f2, f3⟩ := run_some hr2
  have H2 := ak N2
  have PL2 := ak hpl2
  have hi2 := ak hg2
  have c2_bxp := N2.box B_bxp.out
  have c2_bxt := N2.box B_bxt.out
  clear N2 hr2 hpl2 hg2 f1 f3 H0 c0_bxp c0_bxt
  cases b2
  ·have E2 := ak f2
   clear f2
   go_wp2_with fail
   refine (accept_lit H2.out (by omega) [(⟨#[58, 58]⟩ : ByteArray)] (by simp)).mono ?_
   rintro e W4 ⟨rfl, N4⟩
   rcases at_cases H2.out [(⟨#[58, 58]⟩ : ByteArray)] with b3 | b3
   ·rw [acceptS_t b3] at N4
    rw [b3]
    have H4 := ak N4
    have c4_bxp := N4.box B_bxp.out
    have c4_bxt := N4.box B_bxt.out
    clear N4 H2 c2_bxp c2_bxt
    have E5 := ak (if_t b3 E2.out)
    clear E2 b3
    go_wp2_with fail
    obtain ⟨p6, e6, d6⟩ := sq_cons E5.out
    have X6 := ak e6
    have E7 := ak (d6)
    clear E5 e6 d6
    obtain ⟨p8, e8, d8⟩ := node_in X6.out
    have R8 := ak e8
    have D8 := ak d8
    clear e8 d8 X6
    refine (node_now H4.out (by omega) (by have := HL.out; have := hi2.out; omega) (18) 166 #[] #[.pointer (some ⟨bxp, 0, none⟩), .pointer (some ⟨bxt, 0, none⟩)] p8.2 en_path_1_1 (fit_iff.1 (run_fit R8.out)).1 (fun W1 F1 NN old => segBT_do  (k := i2) (fun i hi => ih i (by have := hi2.out; omega)) (B_bxp.out.old old) (B_bxt.out.old old) (by rw [List.length_append, List.length_singleton]; have := HL.out; have := hi2.out; omega) i2 (by omega) _ _ _ _ (by omega) NN R8.out)).mono ?_
    rintro e W9 ⟨rfl, N9⟩
    have H9 := ak N9
    have c9_bxp := N9.box B_bxp.out
    have c9_bxt := N9.box B_bxt.out
    clear N9 H4 c4_bxp c4_bxt
    go_wp2_with fail
    have E8a := E7.out
    rw [D8.out] at E8a
    have E10 := ak (E8a)
    clear E7 E8a
    go_roundg i2
    case rel =>
     obtain ⟨pn, en1, en2⟩ := sq_cons E10.out
     obtain ⟨_, _, g1, _, _⟩ := run_some en1
     exact ⟨false, _, _, rfl, H9.out.fit g1, en1, by rw [← PL2.out, sq_nil en2], by have := hi2.out; omega⟩
    case measure => omega
   ·rw [acceptS_f b3] at N4
    rw [b3]
    have H4 := ak N4
    have c4_bxp := N4.box B_bxp.out
    have c4_bxt := N4.box B_bxt.out
    clear N4 H2 c2_bxp c2_bxt
    have E11 := ak (if_f b3 E2.out)
    clear E2 b3
    go_wp2_with fail
    have hq12 : q.2 = _ := PL2.out.symm.trans (congrArg Prod.snd (some_in E11.out))
    have E12 := ak hq12
    clear hq12 E11
    go_end0
    obtain hq := E12.out
    have hf := G.out
    rw [hq] at hf ⊢
    exact ⟨⟨_, rfl⟩, _, (H4.out.fit hf)⟩
  ·have E2 := ak f2
   clear f2
   go_wp2_with fail
   obtain ⟨p13, e13, d13⟩ := sq_cons E2.out
   have X13 := ak e13
   have E14 := ak (d13)
   clear E2 e13 d13
   obtain ⟨p15, e15, d15⟩ := node_in X13.out
   have R15 := ak e15
   have D15 := ak d15
   clear e15 d15 X13
   refine (node_now H2.out (by omega) (by have := HL.out; have := hi2.out; omega) (18) 166 #[] #[.pointer (some ⟨bxp, 0, none⟩), .pointer (some ⟨bxt, 0, none⟩)] p15.2 en_path_1_1 (fit_iff.1 (run_fit R15.out)).1 (fun W1 F1 NN old => segBT_do  (k := i2) (fun i hi => ih i (by have := hi2.out; omega)) (B_bxp.out.old old) (B_bxt.out.old old) (by rw [List.length_append, List.length_singleton]; have := HL.out; have := hi2.out; omega) i2 (by omega) _ _ _ _ (by omega) NN R15.out)).mono ?_
   rintro e W16 ⟨rfl, N16⟩
   have H16 := ak N16
   have c16_bxp := N16.box B_bxp.out
   have c16_bxt := N16.box B_bxt.out
   clear N16 H2 c2_bxp c2_bxt
   go_wp2_with fail
   have E15a := E14.out
   rw [D15.out] at E15a
   have E17 := ak (E15a)
   clear E14 E15a
   go_roundg i2
   case rel =>
    obtain ⟨pn, en1, en2⟩ := sq_cons E17.out
    obtain ⟨_, _, g1, _, _⟩ := run_some en1
    exact ⟨false, _, _, rfl, H16.out.fit g1, en1, by rw [← PL2.out, sq_nil en2], by have := hi2.out; omega⟩
   case measure => omega
theorem pathT_go  {k : Nat}  (ih : ∀ i, i < k → IH B T tv pb i) : Meth B T tv pb k (.path true) 143 #[.pointer (some ⟨pb, 0, none⟩), .bool true] (fun _ => .tuple #[]) := by
 intro m low kd tx W0 F0 W s q hm hlow N hr
 obtain ⟨j, rfl, h1, h2, h3⟩ := run_some hr
 have H0 := ak (N.fit h1)
 have E0 := ak h2
 have G := ak h3
 have HL := ak hlow
 have RUN := ak hr
 clear N h1 h2 h3 hr hlow
 go_enter Tryz.func143, Tryz.ntmps143
 go_wp2_with fail
 obtain ⟨WB, hWB⟩ : ∃ WB, ((W.alloc (.cells #[.pointer (some ⟨pb, 0, none⟩)] 74)).alloc (.cells #[.bool true] 4)) = WB := ⟨_, rfl⟩
 have hbl : Below W.heap.size W WB := by rw [← hWB]; exact (below_alloc (below_alloc (Below.refl _ _) _) _)
 have hx_bxp : WB.heap[W.heap.size]? = some (.cells #[.pointer (some ⟨pb, 0, none⟩)] 74 (0, 0)) := by
  rw [← hWB]
  exact blk_alloc (blk_new W _) _
 have hx_bxt : WB.heap[W.heap.size + 1]? = some (.cells #[.bool true] 4 (0, 0)) := by
  rw [← hWB]
  have hn := blk_new (W.alloc (.cells #[.pointer (some ⟨pb, 0, none⟩)] 74)) (.cells #[.bool true] 4)
  simp only [World.size_alloc] at hn
  exact hn
 obtain ⟨FB, NB, hnew, holdb, hback⟩ := H0.out.enter hbl
 have BK := ak hback
 have hb_bxp : Box pb WB FB (W.heap.size) (.pointer (some ⟨pb, 0, none⟩)) := ⟨hnew _ (by omega) (blk_lt hx_bxp), _, hx_bxp⟩
 have B_bxp := ak hb_bxp
 have hb_bxt : Box pb WB FB (W.heap.size + 1) (.bool true) := ⟨hnew _ (by omega) (blk_lt hx_bxt), _, hx_bxt⟩
 have B_bxt := ak hb_bxt
 have HN := ak NB
 have c0_bxp := NB.box hb_bxp
 have c0_bxt := NB.box hb_bxt
 rw [hWB]
 have hsz : W.heap.size + 1 + 1 = WB.heap.size := by rw [← hWB]; simp only [World.size_alloc]
 try rw [hsz]
 clear hsz hWB hbl hnew holdb hback NB H0 hb_bxp hb_bxt hx_bxp hx_bxt
 obtain ⟨p1, e1, d1⟩ := node_in E0.out
 have R1 := ak e1
 have D1 := ak d1
 clear e1 d1 E0
 refine (node_now HN.out (by omega) (by have := HL.out; omega) (17) 165 #[] #[.pointer (some ⟨W.heap.size, 0, none⟩), .pointer (some ⟨W.heap.size + 1, 0, none⟩)] p1.2 en_path_1 (fit_iff.1 (run_fit R1.out)).1 (fun W1 F1 NN old => pathBT_do  (k := j) (fun i hi => ih i (by omega)) (B_bxp.out.old old) (B_bxt.out.old old) (by rw [List.length_append, List.length_singleton]; have := HL.out; omega) j (by omega) _ _ _ _ (by omega) NN R1.out)).mono ?_
 rintro e W2 ⟨rfl, N2⟩
 have H2 := ak N2
 have c2_bxp := N2.box B_bxp.out
 have c2_bxt := N2.box B_bxt.out
 clear N2 HN c0_bxp c0_bxt
 go_wp2_with fail
 go_end0
 obtain hq := D1.out
 have hf := G.out
 rw [hq] at hf ⊢
 exact ⟨rfl, (BK.out _ _ _ _ _ _ (H2.out.fit hf))⟩
theorem mutB_do  {k : Nat} {bxp : Nat}  (ih : ∀ i, i < k → IH B T tv pb i) (hb_bxp : Box pb W0 F0 bxp (.pointer (some ⟨pb, 0, none⟩))) (hlow : low.length + k ≤ 10000000) : Does B T tv pb (k + 1) .mutB 209 #[.pointer (some ⟨bxp, 0, none⟩)] low kd tx W0 F0 := by
 intro i hi m W s q hm N hr
 obtain ⟨j, rfl, h1, h2, h3⟩ := run_some hr
 have H0 := ak (N.fit h1)
 have E0 := ak h2
 have G := ak h3
 have HL := ak (show low.length + (j + 1) ≤ 10000000 by omega)
 have B_bxp := ak hb_bxp
 have c0_bxp := N.box hb_bxp
 clear N h1 h2 h3 hr hlow hb_bxp
 go_enter Tryz.func209, Tryz.ntmps209
 go_wp2_with fail
 have E1 := ak (sq_st E0.out)
 clear E0
 refine (bump_now H0.out (by omega)).mono ?_
 rintro e W2 ⟨rfl, N2⟩
 have H2 := ak N2
 have c2_bxp := N2.box B_bxp.out
 clear N2 H0 c0_bxp
 go_wp2_with fail
 have E3 := ak (sq_st E1.out)
 clear E1
 refine (expectId_now H2.out (by omega)).mono ?_
 rintro e W4 ⟨rfl, N4⟩
 have H4 := ak N4
 have c4_bxp := N4.box B_bxp.out
 clear N4 H2 c2_bxp
 go_wp2_with fail
 go_end0
 obtain hq := sq_nil E3.out
 have hf := G.out
 rw [hq] at hf ⊢
 exact ⟨⟨_, rfl⟩, _, (H4.out.fit hf)⟩
theorem variantB_do  {k : Nat} {bxp : Nat}  (ih : ∀ i, i < k → IH B T tv pb i) (hb_bxp : Box pb W0 F0 bxp (.pointer (some ⟨pb, 0, none⟩))) (hlow : low.length + k ≤ 10000000) : Does B T tv pb (k + 1) .variantB 210 #[.pointer (some ⟨bxp, 0, none⟩)] low kd tx W0 F0 := by
 intro i hi m W s q hm N hr
 obtain ⟨j, rfl, h1, h2, h3⟩ := run_some hr
 have H0 := ak (N.fit h1)
 have E0 := ak h2
 have G := ak h3
 have HL := ak (show low.length + (j + 1) ≤ 10000000 by omega)
 have B_bxp := ak hb_bxp
 have c0_bxp := N.box hb_bxp
 clear N h1 h2 h3 hr hlow hb_bxp
 go_enter Tryz.func210, Tryz.ntmps210
 go_wp2_with fail
 obtain ⟨p1, e1, d1⟩ := sq_cons E0.out
 have R1 := ak e1
 have E2 := ak (d1)
 clear E0 e1 d1
 refine ((ih j (by omega)).path false _ _ _ _ _ _ _ _ _ (by omega) (by have := HL.out; omega) H0.out R1.out).mono ?_
 rintro e W3 ⟨rfl, N3⟩
 have H3 := ak N3
 have c3_bxp := N3.box B_bxp.out
 clear N3 H0 c0_bxp
 go_wp2_with fail
 obtain ⟨p4, e4, d4⟩ := sq_cons E2.out
 have X4 := ak e4
 have Y4 := ak d4
 clear e4 d4 E2
 refine (accept_lit H3.out (by omega) [(⟨#[40]⟩ : ByteArray)] (by simp)).mono ?_
 rintro e W6 ⟨rfl, N6⟩
 rcases at_cases H3.out [(⟨#[40]⟩ : ByteArray)] with b5 | b5
 ·rw [acceptS_t b5] at N6
  rw [b5]
  have H6 := ak N6
  have c6_bxp := N6.box B_bxp.out
  clear N6 H3 c3_bxp
  have E7 := ak (if_t b5 X4.out)
  clear X4 b5
  go_wp2_with fail
  refine (list_now 195 #[.pointer (some ⟨pb, 0, none⟩)] #[] en_pattern (by have := HL.out; omega) (Meth.does (k := j) (fun i hi => (ih i (by omega)).pattern) (by have := HL.out; omega) (Nat.le_refl _)) H6.out E7.out).mono ?_
  rintro e W8 ⟨rfl, N8⟩
  have H8 := ak N8
  have c8_bxp := N8.box B_bxp.out
  clear N8 H6 c6_bxp
  go_wp2_with fail
  go_end0
  obtain hq := sq_nil Y4.out
  have hf := G.out
  rw [hq] at hf ⊢
  exact ⟨⟨_, rfl⟩, _, (H8.out.fit hf)⟩
 ·rw [acceptS_f b5] at N6
  rw [b5]
  have H6 := ak N6
  have c6_bxp := N6.box B_bxp.out
  clear N6 H3 c3_bxp
  have E9 := ak (if_f b5 X4.out)
  clear X4 b5
  go_wp2_with fail
  have hp10 := some_in E9.out
  have E10 := ak (by have h := Y4.out; rw [hp10] at h; exact h)
  clear hp10 E9 Y4
  go_end0
  obtain hq := sq_nil E10.out
  have hf := G.out
  rw [hq] at hf ⊢
  exact ⟨⟨_, rfl⟩, _, (H6.out.fit hf)⟩
end Go.Proofs.YtkijamagbgigmaaGreatDoor.Par
