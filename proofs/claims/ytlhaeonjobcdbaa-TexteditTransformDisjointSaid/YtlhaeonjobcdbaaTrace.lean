/- textedit.trace: the bytes of a source with their own offsets, walked. Conditions: the source has at most 2000 bytes. The walk began as what the print program wrote for this function (my drv.py), with one turn of mine at its end; the plain law is mine. -/
import Derived.Test.YtlhaeonjobcdbaaApplyTraced
namespace Go.Proofs.Ytlhaeonjobcdbaa.PA
open Go.RowKit Go.Proofs.YtlhaeonjobcdbaaW.PrintWords Go.Proofs.YtlhaeonjobcdbaaW.PrintLast Go.Proofs.YtlhaeonjobcdbaaW.PrintMore
attribute [local go_sem] max2_int min2_int max_two min_two max_three min_three max_four min_four   -- for this text's walks alone
set_option linter.unusedVariables false
set_option linter.unusedSimpArgs false

/-! ### textedit_trace: function 30 -/
def textedit_trace.l0 : Nat → ByteArray → List (S71) → Int → Int → Option ((List (S71)))
  | 0, _, _, _, _ => none
  | k + 1, x0, x3, x9, x10 => if x10 < x9 then (if 0 ≤ x10 then (if x10 < (x0.size : Int) then (if x10 < (x3.length : Int) then (textedit_trace.l0 k x0 (x3.set (x10 : Int).toNat (⟨bt x0 x10, x10⟩ : S71)) x9 (wrap64 (x10 + 1))) else (none)) else (none)) else (none)) else (some x3)
def textedit_trace.f (k : Nat) (a0 : ByteArray) : Option ((List (S71))) := if 0 ≤ (a0.size : Int) then (if ((a0.size : Int) : Int).toNat ≤ 17592186044416 then ((some (List.replicate ((a0.size : Int) : Int).toNat z71 : List (S71))).bind fun y101 => (textedit_trace.l0 k a0 y101 (y101.length : Int) 0)) else (none)) else (none)
theorem textedit_trace.mono_l : ∀ k, (∀ y0 y1 y2 y3, LeO (textedit_trace.l0 k y0 y1 y2 y3) (textedit_trace.l0 (k + 1) y0 y1 y2 y3))
  | 0 => fun _ _ _ _ r h => by simp [textedit_trace.l0] at h
  | k + 1 => by
    have ih0 := textedit_trace.mono_l k
    · intro y0 y1 y2 y3
      unfold textedit_trace.l0
      repeat' first
      | (with_reducible exact ih0 _ _ _ _)
      | (with_reducible exact LeO.refl _)
      | (with_reducible exact LeO.none _)
      | (with_reducible refine LeO.ite ?_ ?_)
      | (with_reducible refine LeO.bind ?_ (fun _ => ?_))
      | exact ih0 _ _ _ _
      | exact LeO.none _
      | refine LeO.ite ?_ ?_
      | refine LeO.bind ?_ (fun _ => ?_)
theorem textedit_trace.mono : ∀ a0 k, LeO (textedit_trace.f k a0) (textedit_trace.f (k + 1) a0) := by
  intro a0 k
  have ih0 := textedit_trace.mono_l k
  unfold textedit_trace.f
  repeat' first
      | (with_reducible exact ih0 _ _ _ _)
      | (with_reducible exact LeO.refl _)
      | (with_reducible exact LeO.none _)
      | (with_reducible refine LeO.ite ?_ ?_)
      | (with_reducible refine LeO.bind ?_ (fun _ => ?_))
      | exact ih0 _ _ _ _
      | exact LeO.none _
      | refine LeO.ite ?_ ?_
      | refine LeO.bind ?_ (fun _ => ?_)
set_option maxHeartbeats 8000000 in
set_option maxRecDepth 100000 in
theorem textedit_trace.calls (k : Nat) (a0 : ByteArray) (r : List (S71)) (w : World) (h : textedit_trace.f k a0 = some r) :
    Calls Try.prog 30 #[.string a0] w fun e w' => ∃ v0_ : Value, e = .returned (v0_) ∧ Kd.R k71 71 w' w.heap.size (fun _ => True) v0_ r ∧ Below w.heap.size w w' := by
  have huTT := Try.underlying71
  have HB := Aside0.mk (Below.refl w.heap.size w)
  have H : (if 0 ≤ (a0.size : Int) then (if ((a0.size : Int) : Int).toNat ≤ 17592186044416 then ((some (List.replicate ((a0.size : Int) : Int).toNat z71 : List (S71))).bind fun y101 => (textedit_trace.l0 k a0 y101 (y101.length : Int) 0)) else (none)) else (none)) = some r := h
  clear h
  by_cases c2 : 0 ≤ (a0.size : Int)
  · rw [if_pos c2] at H
    have c2b0 := eq_true c2
    have c2b1 : decide (0 ≤ (a0.size : Int)) = true := decide_eq_true c2
    clear c2
    by_cases c3 : ((a0.size : Int) : Int).toNat ≤ 17592186044416
    · rw [if_pos c3] at H
      have c3b0 := eq_true c3
      have c3b1 : decide (((a0.size : Int) : Int).toNat ≤ 17592186044416) = true := decide_eq_true c3
      clear c3
      obtain ⟨y101, hy101⟩ : ∃ y_ : List (S71), y_ = (List.replicate ((a0.size : Int) : Int).toNat z71) := ⟨_, rfl⟩
      replace H : (textedit_trace.l0 k a0 y101 (y101.length : Int) 0) = some r := by first | (rw [hy101]; with_reducible exact H) | (have H2_ := (Option.bind_some _ _).symm.trans H; rw [hy101]; with_reducible exact H2_) | (have H2_ := (Option.bind_some _ _).symm.trans H; with_reducible exact H2_) | with_reducible exact H | (rw [hy101]; exact H) | exact H
      have Ny101 := Aside0.mk hy101
      clear hy101
      have H' := Aside0.mk H
      clear H
      go_enter Try.func30, Try.ntmps30
      go_wp2_with (first | ((with_reducible refine gate_dst (N := 7) rfl ?_); refine Kd.R_make k71 _ 71 rfl (N := 7) rfl 62 _ _ rfl (a0.size : Int) rfl rfl Try.underlying62 (.agg #[(.int .u8 0), (.int .i64 0)]) 16 infoT rfl (by decide) (by omega) z71 (ok := fun _ => True) (okp := fun _ => True) (k71_mkM _ _ _ z71 ) (fun _ hk => hk) trivial (of_decide_eq_true (by first | (with_reducible assumption) | assumption)) (Nat.le_trans (Nat.mul_le_mul_right _ (of_decide_eq_true (by first | (with_reducible assumption) | assumption) : (a0.size : Int).toNat ≤ 17592186044416)) (by omega)) (Below.refl _ _) (Nat.le_refl _) ?_; intro v102 w4 ho5 hb hg_ hnew_; clear hg_ hnew_; (first | rw [← Ny101.out] at ho5 | (simp only [Int.reduceToNat] at ho5; rw [← Ny101.out] at ho5)); have n0_ := Aside0.mk (Kd.R_lower ho5 (below_size (by repeat (first | (with_reducible first | exact HB.out | apply below_alloc | apply pw_below_drewN | apply below_drew1) | exact HB.out)))); have n1_ := Aside0.mk (below_step (by repeat (first | (with_reducible first | exact HB.out | apply below_alloc | apply pw_below_drewN | apply below_drew1) | exact HB.out)) hb); clear HB; have HO103 := n0_; have HB := n1_; clear n0_ n1_; clear hb ho5; obtain ⟨Ao6, co6, eo6⟩ := Kd.R_slice HO103.out; subst eo6))
      go_loopg [10] k (fun kq v10 w' => ∃ (x3_1 : List (S71)) (x10_1 : Int), v10 = .int .i64 x10_1 ∧ Aside0 (textedit_trace.l0 kq a0 x3_1 (y101.length : Int) x10_1 = some r) ∧ Aside0 (kq ≤ k) ∧ Aside0 (Kd.R k71 71 w' w.heap.size (fun _ => True) (.slice Ao6 y101.length co6) x3_1) ∧ Aside0 (Below w.heap.size w w'))
      case atStart => exact ⟨(y101), (0), (by first | rfl | (simp; done) | (simp [*]; done)), H', ⟨Nat.le_refl _⟩, ⟨by (with_reducible repeat (first | apply Kd.R_alloc | apply Kd.R_drewN | apply Kd.R_drew)); exact HO103.out⟩, ⟨by repeat (first | (with_reducible first | exact HB.out | apply below_alloc | apply pw_below_drewN | apply below_drew1) | exact HB.out)⟩⟩
      case round =>
        clear H'
        try clear c2
        try clear c2b0
        try clear c2b1
        try clear p2
        try clear c3
        try clear c3b0
        try clear c3b1
        obtain ⟨x3_1, x10_1, rfl, HA, HK1, HO_3, HB⟩ := hrel
        have hl3_1 := (Kd.R_reads' HO_3.out).1
        rw [hl3_1] at HO_3
        (try simp only [hl3_1])
        cases gk with
        | zero => exact absurd HA.out (by simp [textedit_trace.l0])
        | succ k1 =>
          have H := HA.out
          clear HA
          simp only [textedit_trace.l0] at H
          by_cases c7 : x10_1 < (y101.length : Int)
          · rw [if_pos c7] at H
            have c7b0 : decide (x10_1 < (y101.length : Int)) = true := decide_eq_true c7
            clear c7
            by_cases c8 : 0 ≤ x10_1
            · rw [if_pos c8] at H
              have c8b0 : decide (0 ≤ x10_1) = true := decide_eq_true c8
              clear c8
              by_cases c9 : x10_1 < (a0.size : Int)
              · rw [if_pos c9] at H
                have c9b0 : decide (x10_1 < (a0.size : Int)) = true := decide_eq_true c9
                clear c9
                by_cases c11 : x10_1 < (x3_1.length : Int)
                · rw [if_pos c11] at H
                  have c11b0 : decide (x10_1 < (x3_1.length : Int)) = true := decide_eq_true c11
                  clear c11
                  obtain ⟨y104, hy104⟩ : ∃ y_ : List (S71), y_ = (x3_1.set (x10_1 : Int).toNat (⟨bt a0 x10_1, x10_1⟩ : S71)) := ⟨_, rfl⟩
                  replace H : (textedit_trace.l0 k1 a0 y104 (y101.length : Int) (wrap64 (x10_1 + 1))) = some r := by first | (rw [hy104]; with_reducible exact H) | (have H2_ := (Option.bind_some _ _).symm.trans H; rw [hy104]; with_reducible exact H2_) | (have H2_ := (Option.bind_some _ _).symm.trans H; with_reducible exact H2_) | with_reducible exact H | (rw [hy104]; exact H) | exact H
                  have Ny104 := Aside0.mk hy104
                  clear hy104
                  have H' := Aside0.mk H
                  clear H
                  have p10 : 0 ≤ (x10_1 : Int) := of_decide_eq_true (by first | (with_reducible assumption) | assumption)
                  have q10 : x10_1 < (a0.size : Int) := of_decide_eq_true (by first | (with_reducible assumption) | assumption)
                  have hx10 := bt_at a0 x10_1
                  replace p10 := eq_true p10
                  replace q10 := eq_true q10
                  have p12 : 0 ≤ (x10_1 : Int) := of_decide_eq_true (by first | (with_reducible assumption) | assumption)
                  have q12 : (x10_1 : Int) < ((x3_1.length : Int) : Int) := of_decide_eq_true (by first | (with_reducible assumption) | assumption)
                  obtain ⟨go12, co12, eo12, gb12, gl12, cl12, HG12⟩ := Kd.R_form HO_3.out (by omega)
                  (first | cases eo12 | (injection eo12 with ea_ en_ ec_; (first | subst ea_ | (injection ea_ with ea_; subst ea_)); subst ec_; clear en_))
                  have GB12 := Aside0.mk gb12
                  have GG12 := Aside0.mk HG12
                  clear gb12 gl12 HG12
                  obtain ⟨ce12, hcl12, hM12, hcc12, hfr12⟩ := Kd.R_elem HO_3.out z71 (x10_1 : Int) p12 q12
                  obtain rfl := k71_openM hM12
                  have hx12_0 : wr.cell? ⟨go12, (x10_1 : Int).toNat * 2, none⟩ = some (.int .u8 ((rd_T71 x3_1 x10_1).f0)) := hcc12 0 _ rfl
                  have hx12_1 : wr.cell? ⟨go12, (x10_1 : Int).toNat * 2 + 1, none⟩ = some (.int .i64 ((rd_T71 x3_1 x10_1).f1)) := hcc12 1 _ rfl
                  have hf12_0 : wr.frozen? ⟨go12, (x10_1 : Int).toNat * 2, none⟩ = false := hfr12 0
                  have hf12_1 : wr.frozen? ⟨go12, (x10_1 : Int).toNat * 2 + 1, none⟩ = false := hfr12 1
                  clear hcl12 hcc12 hfr12 hM12
                  replace p12 := eq_true p12
                  replace q12 := eq_true q12
                  have HX13 := Aside0.mk (show Kd.R k71 71 wr w.heap.size (fun _ => True) (.slice (some ⟨go12, 0, none⟩) x3_1.length co6) x3_1 from (by (with_reducible repeat (first | apply Kd.R_alloc | apply Kd.R_drewN | apply Kd.R_drew)); exact HO_3.out))
                  obtain ⟨ce13, hcl13, hM13, hcc13, hfr13⟩ := Kd.R_elem HX13.out z71 (x10_1 : Int) (of_decide_eq_true (by first | (with_reducible assumption) | assumption)) (by have h_ : (x10_1 : Int) < ((x3_1.length : Int) : Int) := of_decide_eq_true (by first | (with_reducible assumption) | assumption); first | exact h_ | (have e_ := (Kd.R_reads' HO_3.out).1; omega) | simpa using h_)
                  obtain rfl := k71_openM hM13
                  have HP13 := Kd.R_seg HX13.out (x10_1 : Int) (of_decide_eq_true (by first | (with_reducible assumption) | assumption)) (by have h_ : (x10_1 : Int) < ((x3_1.length : Int) : Int) := of_decide_eq_true (by first | (with_reducible assumption) | assumption); first | exact h_ | (have e_ := (Kd.R_reads' HO_3.out).1; omega) | simpa using h_) (seg := [.int .u8 (bt a0 x10_1), .int .i64 x10_1]) (j := 0) hcl13 hcc13 (show 2 ≤ 2 from by decide) (x' := (⟨bt a0 x10_1, x10_1⟩ : S71)) (k71_mkM _ _ _ (⟨bt a0 x10_1, x10_1⟩ : S71) ) (fun _ hk => hk)
                  have hx13_0 := hcc13 0 _ rfl
                  (try simp only [show (k71).sz = 2 from rfl, Nat.mul_one, Nat.add_zero] at hx13_0)
                  have hf13_0 := hfr13 0
                  (try simp only [show (k71).sz = 2 from rfl, Nat.mul_one, Nat.add_zero] at hf13_0)
                  have hx13_1 := hcc13 1 _ rfl
                  (try simp only [show (k71).sz = 2 from rfl, Nat.mul_one, Nat.add_zero] at hx13_1)
                  have hf13_1 := hfr13 1
                  (try simp only [show (k71).sz = 2 from rfl, Nat.mul_one, Nat.add_zero] at hf13_1)
                  clear hcl13 hcc13 hfr13 hM13
                  go_wp2_with (first | ((with_reducible refine gate_store (t := 71) (p := 20) rfl ?_); refine store_event (t := 71) (p := 20) (v := ?vo_w14) (w1 := ((wr.setCell ⟨go12, (x10_1 : Int).toNat * 2, none⟩ (.int .u8 (bt a0 x10_1))).setCell ⟨go12, (x10_1 : Int).toNat * 2 + 1, none⟩ (.int .i64 x10_1))) ?hg ?ho ?hn ?hr ?_; (case ho => rfl); (case hg => rfl); (case hn => rfl); (case hr => first | (go_simp; done) | (go_simp; rfl)); intro w14 hw; have hg : wr.grownBy w14 (some go12) := (by rw [hw]; exact HP13.2); have hp_ : Kd.R k71 71 w14 w.heap.size (fun _ => True) (.slice (some ⟨go12, 0, none⟩) x3_1.length co6) y104 := (by rw [hw, Ny104.out]; exact HP13.1); clear HP13; have n0_ := Aside0.mk (hp_); have n1_ := Aside0.mk ((by rw [hw]; exact below_set (below_set (HB.out) GB12.out) GB12.out : Below w.heap.size w w14)); clear HO_3; clear HB; have HO_3 := n0_; have HB := n1_; clear n0_ n1_; clear hg hw hp_))
                  (try simp only [← hl3_1])
                  go_roundg k1
                  case measure => have := HK1.out; omega
                  case rel => exact ⟨(y104), (wrap64 (x10_1 + 1)), (by first | rfl | (simp; done) | (simp [*]; done)), H', ⟨by have := HK1.out; omega⟩, ⟨by (try simp only [hl3_1]); (with_reducible repeat (first | apply Kd.R_alloc | apply Kd.R_drewN | apply Kd.R_drew)); exact HO_3.out⟩, ⟨by repeat (first | (with_reducible first | exact HB.out | apply below_alloc | apply pw_below_drewN | apply below_drew1) | exact HB.out)⟩⟩
                · rw [if_neg c11] at H
                  exact absurd H (by simp)
              · rw [if_neg c9] at H
                exact absurd H (by simp)
            · rw [if_neg c8] at H
              exact absurd H (by simp)
          · rw [if_neg c7] at H
            have c7b0 : decide (x10_1 < (y101.length : Int)) = false := decide_eq_false c7
            clear c7
            try rw [hl3_1] at c7b0
            have c7b1 : decide (x10_1 < (x3_1.length : Int)) = false := by rw [← hl3_1]; exact decide_eq_false (by have := of_decide_eq_false c7b0; omega)
            clear hl3_1
            obtain rfl := Option.some.inj H
            go_wp2
            go_ret
            exact ⟨_, by first | rfl | (simp [errW_none, errW_some] <;> rfl) | (simp [*, errW_none, errW_some] <;> rfl), by (with_reducible repeat (first | apply Kd.R_alloc | apply Kd.R_drewN | apply Kd.R_drew)); exact HO_3.out, by repeat (first | (with_reducible first | exact HB.out | apply below_alloc | apply pw_below_drewN | apply below_drew1) | exact HB.out)⟩
    · rw [if_neg c3] at H
      exact absurd H (by simp)
  · rw [if_neg c2] at H
    exact absurd H (by simp)


theorem trace_l0 (a0 : ByteArray) (hs : a0.size ≤ 2000) (d : Nat) : ∀ (k : Nat) (xs : List S71) (i : Nat), a0.size - i = d → i ≤ a0.size → d < k → xs.length = a0.size → xs.take i = ((traceP (bs a0)).map encT).take i →
    textedit_trace.l0 k a0 xs (a0.size : Int) (i : Int) = some ((traceP (bs a0)).map encT) := by
  have hfl : ((traceP (bs a0)).map encT).length = a0.size := by rw [List.length_map, traceP_length, bs_length]
  induction d with
  | zero =>
    intro k xs i hd hi hk hl ht
    obtain ⟨k, rfl⟩ : ∃ m, k = m + 1 := ⟨k - 1, by omega⟩
    simp only [textedit_trace.l0]
    rw [if_neg (by omega)]
    rw [List.take_of_length_le (by omega), List.take_of_length_le (by omega)] at ht
    rw [ht]
  | succ d ih =>
    intro k xs i hd hi hk hl ht
    obtain ⟨k, rfl⟩ : ∃ m, k = m + 1 := ⟨k - 1, by omega⟩
    simp only [textedit_trace.l0]
    rw [if_pos (by omega), if_pos (by omega), if_pos (by omega), if_pos (by omega), Int.toNat_natCast]
    have hw : wrap64 ((i : Int) + 1) = ((i + 1 : Nat) : Int) := by unfold wrap64; omega
    rw [hw]
    refine ih k _ (i + 1) (by omega) (by omega) (by omega) (by rw [List.length_set]; exact hl) ?_
    have hib : i < (bs a0).length := by rw [bs_length]; omega
    have hgi : ((traceP (bs a0)).map encT)[i]? = some ⟨bt a0 (i : Int), (i : Int)⟩ := by
      rw [List.getElem?_map, traceP_get, List.getElem?_eq_getElem hib]
      have hb : bt a0 (i : Int) = (((bs a0)[i]'hib).toNat : Int) := by
        unfold bt
        rw [dif_pos (by rw [Int.toNat_natCast]; omega)]
        rfl
      rw [hb]
      rfl
    apply List.ext_getElem?
    intro m
    by_cases hm : m < i + 1
    · rw [List.getElem?_take_of_lt hm, List.getElem?_take_of_lt hm]
      by_cases hmi : m = i
      · subst hmi
        rw [List.getElem?_set_self (by omega), hgi]
      · rw [List.getElem?_set_ne (by omega)]
        have : (xs.take i)[m]? = (((traceP (bs a0)).map encT).take i)[m]? := by rw [ht]
        rwa [List.getElem?_take_of_lt (by omega), List.getElem?_take_of_lt (by omega)] at this
    · rw [List.getElem?_take_eq_none (by omega), List.getElem?_take_eq_none (by omega)]
theorem trace_f (a0 : ByteArray) (hs : a0.size ≤ 2000) : textedit_trace.f (a0.size + 1) a0 = some ((traceP (bs a0)).map encT) := by
  unfold textedit_trace.f
  rw [if_pos (by omega), if_pos (by omega)]
  simp only [Option.bind_some, List.length_replicate, Int.toNat_natCast]
  exact trace_l0 a0 hs a0.size (a0.size + 1) _ 0 (by omega) (by omega) (by omega) (by simp) (by simp)
theorem trace_calls (a0 : ByteArray) (hs : a0.size ≤ 2000) (w : World) :
    Calls Try.prog 30 #[.string a0] w fun e w' => ∃ v, e = .returned v ∧ Kd.R k71 71 w' w.heap.size (fun _ => True) v ((traceP (bs a0)).map encT) ∧ Below w.heap.size w w' :=
  textedit_trace.calls (a0.size + 1) a0 _ w (trace_f a0 hs)
end Go.Proofs.Ytlhaeonjobcdbaa.PA
