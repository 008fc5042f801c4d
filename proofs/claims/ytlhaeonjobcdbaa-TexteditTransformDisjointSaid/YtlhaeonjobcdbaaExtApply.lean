/- textedit.Apply: what it answers, walked. Conditions: none. -/
import Derived.Test.YtlhaeonjobcdbaaBuilder
import Derived.Test.YtlhaeonjobcdbaaTextPlain1
import Derived.Test.YtlhaeonjobcdbaaPAx12
import Derived.StillTailTactics
namespace Go.Proofs.Ytlhaeonjobcdbaa.PA
open Go.RowKit Go.Proofs.YtlhaeonjobcdbaaW.PrintWords Go.Proofs.YtlhaeonjobcdbaaW.PrintLast
set_option linter.unusedVariables false

def applyOk (a0 : ByteArray) (l1 : List S43) : Bool := okL (a0.size : Int) (-1) l1 && decide ((a0.size : Int) + total l1 ≤ 2000) && decide ((a0.size : Int) ≤ 2000)
def textedit_Apply.f (k : Nat) (a0 : ByteArray) (l1 : List S43) : Option (ByteArray × Int) :=
  (textedit_Validate.f k a0 l1).bind fun t => if t = 0 then (if applyOk a0 l1 = true then some (⟨(app id (bs a0) 0 l1).toArray⟩, 0) else none) else some (⟨#[]⟩, t)
theorem textedit_Apply.mono : ∀ a0 a1 k, LeO (textedit_Apply.f k a0 a1) (textedit_Apply.f (k + 1) a0 a1) := by
  intro a0 a1 k
  unfold textedit_Apply.f
  exact LeO.bind (textedit_Validate.mono _ _ _) (fun _ => LeO.refl _)

theorem applyOk_iff {a0 : ByteArray} {l1 : List S43} : applyOk a0 l1 = true ↔ okL (a0.size : Int) (-1) l1 = true ∧ (a0.size : Int) + total l1 ≤ 2000 ∧ (a0.size : Int) ≤ 2000 := by
  simp [applyOk, and_assoc]
theorem hr_below {w w1 : World} {A : Option Addr} {n : Nat} {l : List S43} (h : Kd.C k43 w A n l) (hb : Below w.heap.size w w1) : Kd.C k43 w1 A n l := Kd.C_below h hb
theorem hr_below2 {w w1 : World} {A : Option Addr} {n : Nat} {l : List S43} (h : Kd.C k43 w A n l) (hb : Below w.heap.size w w1) : Kd.C k43 w1 A n l := Kd.C_below h hb
theorem newBuilder (w : World) : Lib.IsBuilderF 53 5 w.heap.size w.heap.size (Lib.byteCells []) (w.alloc (.cells #[.pointer none, .slice none 0 0] 53)) :=
  .inl ⟨Nat.le_refl _, .slice none 0 0, heap_alloc_new w _, ⟨rfl, .inl ⟨rfl, rfl⟩⟩, by simp [Value.ownBlock]⟩

theorem isBuilder_alloc {T e B b : Nat} {bs : List Value} {w : World} (h : Lib.IsBuilderF T e B b bs w) (o : Obj) : Lib.IsBuilderF T e B b bs (w.alloc o) := h.elim (fun x => .inl (x.alloc o)) (fun x => .inr (x.alloc o))
theorem isBuilder_drew {T e B b : Nat} {bs : List Value} {w : World} (h : Lib.IsBuilderF T e B b bs w) : Lib.IsBuilderF T e B b bs w.drew := h.elim (fun x => .inl x.drew) (fun x => .inr x.drew)
theorem isBuilder_lt {T e B b : Nat} {bs : List Value} {w : World} (h : Lib.IsBuilderF T e B b bs w) : b < w.heap.size := h.elim (fun x => x.lt) (fun x => x.lt)
theorem apply_box (w1 wr : World) (e : S43) (pre : List UInt8) (hI : Lib.IsBuilderF 53 5 w1.heap.size w1.heap.size (Lib.byteCells pre) wr) (hB : Below w1.heap.size w1 wr) :
    ∃ W2 : World, W2 = wr.alloc (.cells #[.int .i64 e.f0, .int .i64 e.f1, .string e.f2] 43) ∧ W2.drew.cell? ⟨wr.heap.size, 0, none⟩ = some (.int .i64 e.f0) ∧ W2.drew.cell? ⟨wr.heap.size, 1, none⟩ = some (.int .i64 e.f1) ∧ W2.drew.cell? ⟨wr.heap.size, 2, none⟩ = some (.string e.f2) ∧ Aside0 (Lib.IsBuilderF 53 5 w1.heap.size w1.heap.size (Lib.byteCells pre) W2.drew) ∧ Aside0 (Below w1.heap.size w1 W2.drew) ∧ Aside0 (w1.heap.size < wr.heap.size ∧ W2.drew.heap.size = wr.heap.size + 1 ∧ W2.drew.heap[wr.heap.size]? = some (.cells #[.int .i64 e.f0, .int .i64 e.f1, .string e.f2] 43 (0, 0))) := by
  have hn : (wr.alloc (.cells #[.int .i64 e.f0, .int .i64 e.f1, .string e.f2] 43)).heap[wr.heap.size]? = some (.cells #[.int .i64 e.f0, .int .i64 e.f1, .string e.f2] 43 (0, 0)) := heap_alloc_new wr _
  exact ⟨_, rfl, (Lib.cell_of_heap hn 0).trans rfl, (Lib.cell_of_heap hn 1).trans rfl, (Lib.cell_of_heap hn 2).trans rfl, ⟨isBuilder_drew (isBuilder_alloc hI _)⟩, ⟨(hB.alloc hB.size _).drew⟩, ⟨isBuilder_lt hI, show (wr.heap.push _).size = _ from Array.size_push .., hn⟩⟩

theorem bs_append (x y : ByteArray) : bs (x ++ y) = bs x ++ bs y := by
  unfold bs
  rw [ByteArray.data_append, Array.toList_append]
theorem bs_extract (x : ByteArray) (a b : Nat) : bs (x.extract a b) = ((bs x).take b).drop a := by
  unfold bs
  rw [ByteArray.data_extract, Array.toList_extract, List.extract_eq_take_drop, List.drop_take]
theorem byteCells_append (l : List UInt8) (s : ByteArray) : Lib.byteCells (l ++ bs s) = Lib.byteCells l ++ Lib.strCells s := by
  unfold Lib.byteCells Lib.strCells bs
  exact List.map_append
theorem apply_step (a0 : ByteArray) (l1 rest : List S43) (e : S43) (pre : List UInt8) (o : Int) (hk1 : okL (a0.size : Int) (-1) l1 = true) (hk2 : (a0.size : Int) + total l1 ≤ 2000) (ho0 : 0 ≤ o) (hoe : o ≤ e.f0) (o2 : e.f0 ≤ e.f1) (o3 : e.f1 ≤ (a0.size : Int))
    (happ : pre ++ app id (bs a0) o (e :: rest) = app id (bs a0) 0 l1) :
    pre.length + (a0.extract o.toNat e.f0.toNat ++ e.f2).size ≤ 2000 ∧ (pre ++ bs (a0.extract o.toNat e.f0.toNat ++ e.f2)) ++ app id (bs a0) e.f1 rest = app id (bs a0) 0 l1 := by
  have h2 : (pre ++ bs (a0.extract o.toNat e.f0.toNat ++ e.f2)) ++ app id (bs a0) e.f1 rest = app id (bs a0) 0 l1 := by
    rw [← happ, bs_append, bs_extract]
    simp only [app, List.map_id, List.append_assoc]
  refine ⟨?_, h2⟩
  have hl := app_length id (bs a0) l1 0 (-1) (by rw [bs_length]; exact hk1) (by omega) (by omega) (by omega)
  rw [← h2, bs_length] at hl
  simp only [List.length_append, bs_length] at hl
  omega

theorem apply_end (a0 : ByteArray) (l1 : List S43) (pre : List UInt8) (o : Int) (hk1 : okL (a0.size : Int) (-1) l1 = true) (hk2 : (a0.size : Int) + total l1 ≤ 2000) (ho0 : 0 ≤ o) (hoL : o ≤ (a0.size : Int))
    (happ : pre ++ app id (bs a0) o ([] : List S43) = app id (bs a0) 0 l1) :
    pre.length + (a0.extract o.toNat a0.size).size ≤ 2000 ∧ pre ++ bs (a0.extract o.toNat a0.size) = app id (bs a0) 0 l1 := by
  have h2 : pre ++ bs (a0.extract o.toNat a0.size) = app id (bs a0) 0 l1 := by
    rw [← happ, bs_extract]
    simp only [app]
    rw [List.take_of_length_le (by rw [bs_length]; omega)]
  refine ⟨?_, h2⟩
  have hl := app_length id (bs a0) l1 0 (-1) (by rw [bs_length]; exact hk1) (by omega) (by omega) (by omega)
  rw [← h2, bs_length] at hl
  simp only [List.length_append, bs_length] at hl
  omega

set_option maxHeartbeats 4000000 in
set_option maxRecDepth 100000 in
theorem textedit_Apply.calls (k : Nat) (a0 : ByteArray) (A1 : Option Addr) (c1 : Nat) (l1 : List S43) (r1 : ByteArray) (r2 : Int) (w : World) (hr1 : Kd.C k43 w A1 l1.length l1) (hc1 : l1.length ≤ c1) (h : textedit_Apply.f k a0 l1 = some (r1, r2)) :
    Calls Try.prog 12 #[.string a0, .slice A1 l1.length c1] w fun e w' => e = .returned (.tuple #[.string r1, .int .i64 r2]) ∧ Below w.heap.size w w' := by
  have hu := Try.underlying43
  have HR := Aside0.mk hr1
  have HC := Aside0.mk hc1
  clear hr1 hc1
  unfold textedit_Apply.f at h
  cases hv : textedit_Validate.f k a0 l1 with
  | none => rw [hv] at h; cases h
  | some t =>
    rw [hv] at h
    have HV := Aside0.mk hv
    clear hv
    simp only [Option.bind_some] at h
    by_cases ht : t = 0
    · subst ht
      rw [if_pos rfl] at h
      split at h
      · rename_i hok
        simp only [Option.some.injEq, Prod.mk.injEq] at h
        obtain ⟨h1, rfl⟩ := h
        have H1 := Aside0.mk h1
        have HO := Aside0.mk hok
        clear h1 hok
        go_enter Try.func12, Try.ntmps12
        go_wp2_with (go_at_call 20; refine (textedit_Validate.calls k a0 _ _ l1 0 _ HR.out HC.out HV.out).mono ?_; rintro e w1 ⟨rfl, hb1⟩)
        have hwc := hr_below HR.out hb1
        have HR1 := Aside0.mk hwc
        clear hwc
        have HB1 := Aside0.mk hb1
        clear hb1
        have hbig : l1.length ≤ 9223372036854775807 := HR1.out.2.1
        obtain ⟨hk1, hk2, hk3⟩ := applyOk_iff.1 HO.out
        have hbld : Aside0 (Lib.IsBuilderF 53 5 w1.heap.size w1.heap.size (Lib.byteCells []) (w1.alloc (.cells #[.pointer none, .slice none 0 0] 53))) := ⟨newBuilder w1⟩
        have hbe : Aside0 (Below w1.heap.size w1 (w1.alloc (.cells #[.pointer none, .slice none 0 0] 53))) := ⟨(Below.refl _ _).alloc (Nat.le_refl _) _⟩
        have hl0 : l1.length = 0 ∨ 0 < l1.length := by omega
        go_loopw [8, 19] (fun off i wr => ∃ (j : Nat) (o : Int), j ≤ l1.length ∧ i = .int .i64 j ∧ off = .int .i64 o ∧ 0 ≤ o ∧ o ≤ (a0.size : Int) ∧ Aside0 (∃ (p : Int) (pre : List UInt8), o ≤ p + 1 ∧ okL (a0.size : Int) p (l1.drop j) = true ∧ pre ++ app id (bs a0) o (l1.drop j) = app id (bs a0) 0 l1 ∧ Lib.IsBuilderF 53 5 w1.heap.size w1.heap.size (Lib.byteCells pre) wr) ∧ Aside0 (Below w1.heap.size w1 wr)) (fun _ i _ => l1.length - (intOf i).toNat)
        case atStart => exact ⟨0, 0, Nat.zero_le _, rfl, rfl, by omega, by omega, ⟨-1, [], by omega, by simpa using hk1, by simp, hbld.out⟩, hbe⟩
        case round =>
          obtain ⟨j, o, hj, rfl, rfl, ho0, hoL, HI, HBr⟩ := hrel
          clear hbld hbe
          by_cases hlt : j < l1.length
          · obtain ⟨p, pre, hp, hok, happ, hib⟩ := HI.out
            clear HI
            have hgd : rd_T43 l1 (j : Int) = l1[j] := by
              unfold rd_T43
              rw [Int.toNat_natCast, List.getD_eq_getElem?_getD, List.getElem?_eq_getElem hlt]
              rfl
            rw [List.drop_eq_getElem_cons hlt] at hok happ
            obtain ⟨ad, rfl, hx0, hx1, hx2⟩ := at_T43 (hr_below2 HR1.out HBr.out) (j : Int) (by omega) (by omega)
            rw [hgd, Int.toNat_natCast] at hx0 hx1 hx2
            generalize l1[j] = e at *
            rw [okL_cons] at hok
            obtain ⟨o1, o2, o3, o4⟩ := hok
            have HA := Aside0.mk happ
            have HI := Aside0.mk hib
            have O4 := Aside0.mk o4
            clear happ hib o4 hgd
            have hoe : o ≤ e.f0 := by omega
            have hfL : e.f0 ≤ (a0.size : Int) := by omega
            have hf0 : 0 ≤ e.f0 := by omega
            go_wp2
            obtain ⟨W2, hW2, hg0, hg1, hg2, hI2, hB2, hsz⟩ : ∃ W2 : World, W2 = wr.alloc (.cells #[.int .i64 e.f0, .int .i64 e.f1, .string e.f2] 43) ∧ W2.drew.cell? ⟨wr.heap.size, 0, none⟩ = some (.int .i64 e.f0) ∧ W2.drew.cell? ⟨wr.heap.size, 1, none⟩ = some (.int .i64 e.f1) ∧ W2.drew.cell? ⟨wr.heap.size, 2, none⟩ = some (.string e.f2) ∧ Aside0 (Lib.IsBuilderF 53 5 w1.heap.size w1.heap.size (Lib.byteCells pre) W2.drew) ∧ Aside0 (Below w1.heap.size w1 W2.drew) ∧ Aside0 (w1.heap.size < wr.heap.size ∧ W2.drew.heap.size = wr.heap.size + 1 ∧ W2.drew.heap[wr.heap.size]? = some (.cells #[.int .i64 e.f0, .int .i64 e.f1, .string e.f2] 43 (0, 0))) :=
              apply_box w1 wr e pre HI.out HBr.out
            rw [← hW2]
            clear hW2 HI HBr hx0 hx1 hx2
            refine wp_region_still_tail 8 (by kernel_rfl) (by kernel_rfl) ?_
            simp only [List.take_succ_cons, List.take_zero, List.drop_succ_cons, List.drop_zero]
            change wpStill _ _ W2.drew (fun a' => wpList _ _ _ _ a' W2.drew) _ _
            generalize W2.drew = W3 at *
            obtain ⟨hsz1, hst⟩ := apply_step a0 l1 (l1.drop (j + 1)) e pre o hk1 hk2 ho0 hoe o2 o3 HA.out
            have hcat : ∀ W : World, (Op.stringOp .add (a0.extract o.toNat e.f0.toNat) e.f2).run Try.prog W = .ok (.string (a0.extract o.toNat e.f0.toNat ++ e.f2)) W := fun W => run_string_add_sum W _ _ (by rw [ByteArray.size_append] at hsz1; omega)
            have HST := Aside0.mk hst
            have HS1 := Aside0.mk hsz1
            clear hst hsz1 HA
            repeat still_step
            refine wpStill_nil ?_
            clear hcat
            generalize a0.extract o.toNat e.f0.toNat ++ e.f2 = piece at *
            go_wp2_with (go_at_call 24; refine (Bld.WriteString_k w1.heap.size w1.heap.size (Lib.byteCells pre) piece _ hI2.out (by rw [Lib.byteCells_length]; have := HS1.out; omega) hB2.out.size).mono ?_; rintro e' w' ⟨rfl, hb', hB', hO'⟩; have he' : w'.heap[wr.heap.size]? = some (.cells #[.int .i64 e.f0, .int .i64 e.f1, .string e.f2] 43 (0, 0)) := (hO' _ _ hsz.out.2.2 (by have := hsz.out.1; simp; omega) (fun c fz h => by cases h)); have hf1 : w'.cell? ⟨wr.heap.size, 1, none⟩ = some (.int .i64 e.f1) := ((Lib.cell_of_heap he' 1).trans rfl); have HbI := Aside0.mk hb'; have HbB := Aside0.mk hB'; clear he' hO' hb' hB')
            go_roundw
            case rel => exact ⟨j + 1, e.f1, by omega, by go_num, rfl, by omega, by omega, ⟨e.f1, pre ++ bs piece, by omega, O4.out, HST.out, .inr (by rw [byteCells_append]; exact HbI.out)⟩, ⟨hB2.out.trans (HbB.out)⟩⟩
            case measure => simp [intOf]; omega
          · obtain ⟨p, pre, hp, hok, happ, hib⟩ := HI.out
            rw [List.drop_eq_nil_of_le (by omega)] at happ
            obtain ⟨hsz1, hst⟩ := apply_end a0 l1 pre o hk1 hk2 ho0 hoL happ
            have HST := Aside0.mk hst
            have HS1 := Aside0.mk hsz1
            have HI2 := Aside0.mk hib
            clear HI hst hsz1 happ hib hok
            go_wp2_with fail
            refine (Bld.WriteString_k w1.heap.size w1.heap.size (Lib.byteCells pre) (a0.extract o.toNat a0.size) wr HI2.out (by rw [Lib.byteCells_length]; have := HS1.out; omega) HBr.out.size).mono ?_
            rintro e' w' ⟨rfl, hb', hB', hO'⟩
            rw [← byteCells_append, HST.out] at hb'
            have HBA := Aside0.mk hb'
            have HBB := Aside0.mk (HBr.out.trans hB')
            clear hb' hB' hO' HI2 HBr
            go_wp2_with fail
            refine (Try.Builder_String_any_k w1.heap.size w1.heap.size _ _ (.inr HBA.out) HBB.out.size).mono ?_
            rintro e'' w'' ⟨rfl, _, hB'', _⟩
            have HBC := Aside0.mk (HBB.out.trans hB'')
            clear hB''
            go_wp2
            go_ret2
            exact ⟨by rw [H1.out]; rfl, HB1.out.trans (HBC.out.mono HB1.out.size)⟩
      · cases h
    · rw [if_neg ht] at h
      simp only [Option.some.injEq, Prod.mk.injEq] at h
      obtain ⟨rfl, rfl⟩ := h
      have htb : (t == 0) = false := by simpa using ht
      have htb2 : (t != 0) = true := by simpa using ht
      clear ht
      go_enter Try.func12, Try.ntmps12
      go_wp2_with (go_at_call 20; refine (textedit_Validate.calls k a0 _ _ l1 t _ HR.out HC.out HV.out).mono ?_; rintro e w1 ⟨rfl, hb1⟩)
      go_ret2
      exact ⟨rfl, hb1⟩
end Go.Proofs.Ytlhaeonjobcdbaa.PA
