/- Packed texts, part 8: contracts and plain lemmas towards outlineConcatenation_holds. -/
import Derived.Test.YtmoelofaojgjfaaGreatDoorQ7
import Derived.Maps.AppendAt
import Derived.Lib.FrozenHead2
import Derived.WalkKit
import Derived.RowKit3
import Derived.WideLaws
import Derived.Lib.OthersKept
import Derived.Lib.SmallJoins
import Derived.Shelf.Strings.BuilderK
import Derived.StillTailTactics
set_option maxHeartbeats 8000000
set_option maxRecDepth 1000000
set_option linter.unusedVariables false
set_option linter.unusedSimpArgs false
namespace Go.Proofs.YtmoelofaojgjfaaGreatDoor.Par
variable {T : List Tok} {r : NT → St → Ans} {s : St}
theorem z11 (kind : Int) (h : ∀ id, loc kind [] id = true) : ∀ (a : Bool) (ks : List Int) (id : Bool), K .bump a ks id = true → loc kind ks id = true := zhk kind h
theorem ziv (hT : T.length ≤ 2000) {x : NT} (H : Can T r (mu T x s)) (hs : s.1 ≤ T.length) (kind : Int) (hne : eofT T s.1 = false) (hk : 1 ≤ zan T x s.1) (hkk : kind < 100) (hK : ∀ id, loc kind [] id = true) (hx : repl x = false) (hz : 1 ≤ Zc T x s.1) (hg : Gc T x s.1 ≤ 28) (hKx : ∀ id, K x false [kind] id = true) (hf : ze4 x = false) :
  ∃ q, zbt kind (r .bump) s = some q ∧ zaz T x s q := by
 obtain ⟨q, t, e, a, k, z⟩ := zgj hT H kind .bump (Nat.le_refl _) hs (.inr (show zan T .bump s.1 < _ from Nat.lt_of_lt_of_le (show zan T .bump s.1 < 1 from Nat.zero_lt_one) hk)) (fun _ => zb8 _ _ hne rfl trivial) rfl hkk (z11 kind hK)
 exact ⟨_, e, zy hx a hz hg (by rw [k]; exact hKx _) (fun _ => by simp) (fun h => by rw [hf] at h; cases h)⟩
theorem zdd (hT : T.length ≤ 2000) {x : NT} (H : Can T r (mu T x s)) (hs : s.1 ≤ T.length) (kind : Int) (y : NT) (hk : zan T y s.1 < zan T x s.1) (hy : ∀ ks, Need T y (s.1, ks)) (hre : repl y = false) (hkk : kind < 100)
  (hK : ∀ a ks id, K y a ks id = true → loc kind ks id = true) (hx : repl x = false) (hz : Zc T y s.1 + 1 ≤ Zc T x s.1 ∨ ze4 y = true) (hg : Gc T x s.1 ≤ Gc T y s.1 - 1) (hKx : ∀ id, K x false [kind] id = true) (hf : ze4 x = true → ze4 y = true) : ∃ q, zbt kind (r y) s = some q ∧ zaz T x s q := by
 obtain ⟨q, t, e, a, k, z⟩ := zgj hT H kind y (Nat.le_refl _) hs (.inr hk) hy hre hkk hK
 rcases hz with hz | hz
 ·exact ⟨(false, q), e, zy hx a hz hg (by rw [k]; exact hKx _) (fun _ => by simp) (fun h => z (hf h))⟩
 ·exact ⟨(false, q), e, zy hx (a.fwd (z hz)) (zc0 _ _ _) hg (by rw [k]; exact hKx _) (fun _ => by simp) (fun h => z (hf h))⟩
theorem zdy {x : NT} (H : Can T r (mu T x s)) (hr : room T x s) (hs : s.1 ≤ T.length) (y : NT) (hk : zan T y s.1 < zan T x s.1) (hy : Need T y s) (hre : repl y = false) (hx : repl x = false) (hz : Zc T y s.1 ≤ Zc T x s.1 ∨ ze4 y = true) (hg : Gc T x s.1 ≤ Gc T y s.1)
  (hK : ∀ a ks id, K y a ks id = true → K x a ks id = true) (hsg : zi1 x = true → zi1 y = true) (hf : ze4 x = true → ze4 y = true) : ∃ q, r y s = some q ∧ zaz T x s q := by
 obtain ⟨q1, e1, g1⟩ := call H hr y (Adv.refl hs) (odt rfl) (odt rfl) (.inr hk) hy
 exact ⟨q1, e1, g1.as hre hx hz hg hK hsg (fun h => g1.fwd (hf h))⟩
theorem zqi {k : Int} (h : isE k = true) : ∀ (a : Bool) (ks : List Int) (id : Bool), oneK (eqK k) ks = true → oneK isE ks = true := by
 intro a ks id hk
 obtain ⟨d, rfl, pd⟩ := zv hk
 have : d = k := by simpa [eqK] using pd
 subst this
 exact h
theorem zua {k : Int} (h : isTy k = true) : ∀ (a : Bool) (ks : List Int) (id : Bool), oneK (eqK k) ks = true → oneK isTy ks = true := by
 intro a ks id hk
 obtain ⟨d, rfl, pd⟩ := zv hk
 have : d = k := by simpa [eqK] using pd
 subst this
 exact h
theorem zrk (hT : T.length ≤ 2000) (hG : zaf T) (H : Can T r (mu T .primary s)) (hs : s.1 ≤ T.length) (hr : room T .primary s) : ∃ q, step T r .primary s = some q ∧ zaz T .primary s q := by
 simp only [step]
 split
 ·rename_i h
  exact ziv hT H hs 27 (zgh h (by decide)) (show 1 ≤ 10 by decide) (by decide) (fun _ => rfl) rfl (odt rfl) (odt rfl) (fun _ => rfl) rfl
 split
 ·rename_i h
  exact ziv hT H hs 29 (zgh h (by decide)) (show 1 ≤ 10 by decide) (by decide) (fun _ => rfl) rfl (odt rfl) (odt rfl) (fun _ => rfl) rfl
 split
 ·rename_i h
  exact ziv hT H hs 28 (za1 h) (show 1 ≤ 10 by decide) (by decide) (fun _ => rfl) rfl (odt rfl) (odt rfl) (fun _ => rfl) rfl
 split
 ·obtain ⟨q1, e1, g1⟩ := call H hr (.path false) (Adv.refl hs) (odt rfl) (odt rfl) (.inr (by simp [zan, rank])) (zap _ _ rfl rfl trivial)
  obtain ⟨n1, a1, k1, w1⟩ := g1.add rfl
  rw [e1, Option.bind_some]
  obtain ⟨c, kc, pc⟩ := zv (show oneK (eqK 17) (nk n1) = true from k1)
  have hc : c = 17 := by simpa [eqK] using pc
  subst hc
  split
  ·rename_i hm
   rw [Bool.and_eq_true] at hm
   obtain ⟨q, t, e, a, k, z1, z⟩ := zyr hT H 42 .macroB a1 (w1 rfl) kc (by decide) (.inr (by simp [zan, rank])) (fun _ => ⟨fun _ => za1 hm.1, fun h => (by cases h), hm.2⟩) rfl (by decide) (fun _ ks _ h => by
    show zcd (eqK 17) isE (17 :: ks) = true
    have h2 : ks.all isE = true := h
    simp only [zcd, h2]
    rfl)
   exact ⟨_, e, zy rfl a (odt rfl) (odt rfl) (by rw [k]; rfl) (fun _ => by simp) (fun h => (by cases h))⟩
  ·exact ⟨_, rfl, zy rfl a1 (odt rfl) (odt rfl) (by rw [kc]; rfl) (fun _ => w1 rfl) (fun h => (by cases h))⟩
 split
 ·rename_i h
  exact zdd hT H hs 60 .parenB (by simp [zan, rank]) (fun _ => zb8 _ _ (za1 h) rfl trivial) rfl (by decide) (fun _ _ _ h => h) rfl (.inr rfl) (odt rfl) (fun _ => rfl) (fun h => (by cases h))
 split
 ·rename_i h
  exact zdy H hr hs .block (by simp [zan, rank, h]) (zap _ _ rfl rfl trivial) rfl rfl (.inl (by simp only [Zc, h, if_true]; decide)) (by simp only [Gc, h, if_true]; decide) (zqi (by decide)) (fun _ => rfl) (fun h => (by cases h))
 split
 ·rename_i h
  exact zdy H hr hs .ifExpr (by simp [zan, rank]) (zb8 _ _ (za1 h) rfl trivial) rfl rfl (.inr rfl) (odt rfl) (zqi (by decide)) (fun _ => rfl) (fun h => (by cases h))
 split
 ·rename_i h
  exact zdd hT H hs 35 .matchS (by simp [zan, rank]) (fun _ => zb8 _ _ (za1 h) rfl trivial) rfl (by decide) (fun _ _ _ h => h) rfl (.inr rfl) (odt rfl) (fun _ => rfl) (fun h => (by cases h))
 split
 ·rename_i h
  exact zdd hT H hs 33 .structS (by simp [zan, rank]) (fun _ => zb8 _ _ (za1 h) rfl trivial) rfl (by decide) (fun _ _ _ h => h) rfl (.inr rfl) (odt rfl) (fun _ => rfl) (fun h => (by cases h))
 split
 ·rename_i h
  exact zdd hT H hs 38 .lambda (by simp [zan, rank]) (fun _ => zb8 _ _ (za1 h) rfl trivial) rfl (by decide) (fun _ _ _ h => h) rfl (.inr rfl) (odt rfl) (fun _ => rfl) (fun h => (by cases h))
 ·exact ⟨_, rfl, zy rfl (zf0 hs) (odt rfl) (odt rfl) rfl (fun _ => by simp) (fun h => (by cases h))⟩
theorem zu2 (hT : T.length ≤ 2000) (H : Can T r (mu T .ifExpr s)) (hn : Need T .ifExpr s) (hs : s.1 ≤ T.length) : ∃ q, step T r .ifExpr s = some q ∧ zaz T .ifExpr s q :=
 zdd hT H hs 37 .ifB (by simp [zan, rank]) (fun _ => zb8 _ _ (hn.c rfl) rfl trivial) rfl (by decide) (fun _ _ _ h => h) rfl (.inr rfl) (odt rfl) (fun _ => rfl) (fun _ => rfl)
theorem zxv (H : Can T r (mu T .elseB s)) (hs : s.1 ≤ T.length) (hr : room T .elseB s) : ∃ q, step T r .elseB s = some q ∧ zaz T .elseB s q := by
 simp only [step]
 split
 ·rename_i h
  exact zdy H hr hs .ifExpr (by simp [zan, rank]) (zb8 _ _ (za1 h) rfl trivial) rfl rfl (.inr rfl) (odt rfl) (fun _ ks _ h => by
   obtain ⟨d, rfl, pd⟩ := zv (show oneK (eqK 37) ks = true from h)
   show zp6 d = true
   unfold zp6
   rw [show decide (d = 37) = true from pd]
   simp) (fun _ => rfl) (fun h => (by cases h))
 ·exact zdy H hr hs .block (by simp only [zan, rank]; split <;> omega) (zap _ _ rfl rfl trivial) rfl rfl (.inl (zx2 _ _)) (zx3 _ _) (fun _ ks _ h => by
   obtain ⟨d, rfl, pd⟩ := zv (show oneK (eqK 21) ks = true from h)
   show zp6 d = true
   unfold zp6
   rw [show decide (d = 21) = true from pd]
   simp) (fun _ => rfl) (fun h => (by cases h))
theorem zz5 (hT : T.length ≤ 2000) (H : Can T r (mu T .armE s)) (hs : s.1 ≤ T.length) : ∃ q, step T r .armE s = some q ∧ zaz T .armE s q := by
 simp only [step]
 split
 ·exact zdd hT H hs 36 .armB (by simp [zan, rank]) (fun _ => zap _ _ rfl rfl trivial) rfl (by decide) (fun _ _ _ h => h) rfl (.inl (odt rfl)) (odt rfl) (fun _ => rfl) (fun h => (by cases h))
 ·exact ⟨_, rfl, adv0 rfl hs _ rfl rfl (odt rfl) (odt rfl)⟩
theorem zxh (hT : T.length ≤ 2000) (H : Can T r (mu T .initE s)) (hs : s.1 ≤ T.length) : ∃ q, step T r .initE s = some q ∧ zaz T .initE s q := by
 simp only [step]
 split
 ·rename_i h
  exact zdd hT H hs 34 .initB (by simp [zan, rank]) (fun _ => ⟨fun _ => zej h, fun _ => h, trivial⟩) rfl (by decide) (fun _ _ _ h => h) rfl (.inr rfl) (odt rfl) (fun _ => rfl) (fun h => (by cases h))
 ·exact ⟨_, rfl, adv0 rfl hs _ rfl rfl (odt rfl) (odt rfl)⟩
theorem zmi (hT : T.length ≤ 2000) (H : Can T r (mu T .typeParam s)) (hs : s.1 ≤ T.length) : ∃ q, step T r .typeParam s = some q ∧ zaz T .typeParam s q := by
 simp only [step]
 split
 ·rename_i h
  exact zdd hT H hs 11 .typeParamB (by simp [zan, rank]) (fun _ => ⟨fun _ => zej h, fun _ => h, trivial⟩) rfl (by decide) (fun _ _ _ h => h) rfl (.inr rfl) (odt rfl) (fun _ => rfl) (fun h => (by cases h))
 ·exact ⟨_, rfl, adv0 rfl hs _ rfl rfl (odt rfl) (odt rfl)⟩
theorem zt2 (hT : T.length ≤ 2000) (H : Can T r (mu T .paramE s)) (hs : s.1 ≤ T.length) : ∃ q, step T r .paramE s = some q ∧ zaz T .paramE s q := by
 simp only [step]
 split
 ·rename_i h
  exact zdd hT H hs 13 .paramB (by simp [zan, rank]) (fun _ => ⟨fun _ => zej h, fun _ => h, trivial⟩) rfl (by decide) (fun _ _ _ h => h) rfl (.inr rfl) (odt rfl) (fun _ => rfl) (fun h => (by cases h))
 ·exact ⟨_, rfl, adv0 rfl hs _ rfl rfl (odt rfl) (odt rfl)⟩
theorem zxz (hT : T.length ≤ 2000) {kind : Int} (H : Can T r (mu T (.dataE kind) s)) (hn : Need T (.dataE kind) s) (hs : s.1 ≤ T.length) : ∃ q, step T r (.dataE kind) s = some q ∧ zaz T (.dataE kind) s q := by
 have hk : kind = 4 ∨ kind = 5 := hn.x
 simp only [step]
 split
 ·rename_i h
  rcases hk with rfl | rfl
  ·rw [if_pos rfl]
   exact zdd hT H hs 14 .fieldDeclB (by simp [zan, rank]) (fun _ => ⟨fun _ => zej h, fun _ => h, trivial⟩) rfl (by decide) (fun _ _ _ h => h) rfl (.inr rfl) (odt rfl) (fun _ => rfl) (fun h => (by cases h))
  ·rw [if_neg (by decide)]
   exact zdd hT H hs 15 .variantDeclB (by simp [zan, rank]) (fun _ => ⟨fun _ => zej h, fun _ => h, trivial⟩) rfl (by decide) (fun _ _ _ h => h) rfl (.inr rfl) (odt rfl) (fun _ => rfl) (fun h => (by cases h))
 ·exact ⟨_, rfl, adv0 rfl hs _ rfl rfl (odt rfl) (odt rfl)⟩
theorem zur (hT : T.length ≤ 2000) (hG : zaf T) (H : Can T r (mu T .lambda s)) (hn : Need T .lambda s) (hs : s.1 ≤ T.length) (hr : room T .lambda s) : ∃ q, step T r .lambda s = some q ∧ zaz T .lambda s q := by
 obtain ⟨n1, a1, k1, i1, z1, l1⟩ := zak hG hs (hn.c rfl)
 have hp : ∃ q, (if atT T s.1 [(⟨#[124, 124]⟩ : ByteArray)] = true then zbt 12 (r .emptyB) (zz T s) else r (.params (⟨#[124]⟩ : ByteArray)) (zz T s)) = some q ∧ ∃ n2, Adv T (zz T s) q.2 2 10 n2 ∧ nk n2 = [12] := by
  split
  ·obtain ⟨q, t, e, a, k, z⟩ := zgj hT H 12 .emptyB (s' := zz T s) a1.le a1.len (.inl z1) (fun _ => zap _ _ rfl rfl trivial) rfl (by decide) (zhk 12 (fun _ => rfl))
   exact ⟨_, e, _, a.more (odt rfl) (odt rfl), k⟩
  ·obtain ⟨q2, e2, g2⟩ := call H hr (.params (⟨#[124]⟩ : ByteArray)) a1 (odt rfl) (odt rfl) (.inl z1) (zap _ _ rfl rfl trivial)
   obtain ⟨n2, a2, k2, w2⟩ := g2.add rfl
   obtain ⟨c, kc, pc⟩ := zv (show oneK (eqK 12) (nk n2) = true from k2)
   have hc : c = 12 := by simpa [eqK] using pc
   subst hc
   exact ⟨q2, e2, n2, a2, kc⟩
 obtain ⟨q2, e2, n2, a2, k2⟩ := hp
 have A2 := a1.trans a2
 have f2 := Nat.lt_of_lt_of_le z1 a2.le
 obtain ⟨q3, e3, g3⟩ := call H hr .expr A2 (odt rfl) (odt rfl) (.inl f2) (zap _ _ rfl rfl trivial)
 obtain ⟨n3, a3, k3, w3⟩ := g3.add rfl
 obtain ⟨c, kc, pc⟩ := zv (show oneK isE (nk n3) = true from k3)
 have he : step T r .lambda s = some (false, q3.2) := by
  simp only [step]
  split
  ·rename_i h
   rw [if_pos h] at e2
   simp only [sqL, st, Option.bind_some, e2, e3]
  ·rename_i h
   rw [if_neg h] at e2
   simp only [sqL, st, Option.bind_some, e2, e3]
 refine ⟨_, he, zy rfl (A2.trans a3) (odt rfl) (odt rfl) ?_ (fun h => (by cases h)) (fun _ => Nat.lt_of_lt_of_le f2 a3.le)⟩
 simp only [zr, k1, k2, kc]
 simp [K, twoK, eqK, pc]
theorem zvh (hs : s.1 ≤ T.length) : ∃ q, step T r .emptyB s = some q ∧ zaz T .emptyB s q := ⟨_, rfl, adv0 rfl hs _ rfl rfl (odt rfl) (odt rfl)⟩
theorem zrn (hT : T.length ≤ 2000) (H : Can T r (mu T .pattern s)) (hs : s.1 ≤ T.length) : ∃ q, step T r .pattern s = some q ∧ zaz T .pattern s q := by
 simp only [step]
 split
 ·rename_i h
  exact zdd hT H hs 44 .mutB (by simp [zan, rank]) (fun _ => zb8 _ _ (za1 h) rfl trivial) rfl (by decide) (zhk 44 (fun _ => rfl)) rfl (.inr rfl) (odt rfl) (fun _ => rfl) (fun h => (by cases h))
 split
 ·rename_i h
  rw [Bool.and_eq_true] at h
  exact ziv hT H hs 43 (zej h.1) (show 1 ≤ 6 by decide) (by decide) (fun _ => rfl) rfl (odt rfl) (odt rfl) (fun _ => rfl) rfl
 split
 ·rename_i h
  rw [Bool.and_eq_true] at h
  exact ziv hT H hs 44 (zej h.1) (show 1 ≤ 6 by decide) (by decide) (fun _ => rfl) rfl (odt rfl) (odt rfl) (fun _ => rfl) rfl
 split
 ·exact zdd hT H hs 45 .variantB (by simp [zan, rank]) (fun _ => zap _ _ rfl rfl trivial) rfl (by decide) (fun _ _ _ h => h) rfl (.inl (odt rfl)) (odt rfl) (fun _ => rfl) (fun h => (by cases h))
 split
 ·rename_i h
  exact ziv hT H hs 27 (zgh h (by decide)) (show 1 ≤ 6 by decide) (by decide) (fun _ => rfl) rfl (odt rfl) (odt rfl) (fun _ => rfl) rfl
 split
 ·rename_i h
  exact ziv hT H hs 28 (za1 h) (show 1 ≤ 6 by decide) (by decide) (fun _ => rfl) rfl (odt rfl) (odt rfl) (fun _ => rfl) rfl
 ·exact ⟨_, rfl, zy rfl (zf0 hs) (odt rfl) (odt rfl) rfl (fun _ => by simp) (fun h => (by cases h))⟩
theorem zoq (hG : zaf T) (H : Can T r (mu T .variantB s)) (hs : s.1 ≤ T.length) (hr : room T .variantB s) : ∃ q, step T r .variantB s = some q ∧ zaz T .variantB s q := by
 obtain ⟨q1, e1, g1⟩ := call H hr (.path false) (Adv.refl hs) (odt rfl) (odt rfl) (.inr (by simp [zan, rank])) (zap _ _ rfl rfl trivial)
 obtain ⟨n1, a1, k1, w1⟩ := g1.add rfl
 obtain ⟨c, kc, pc⟩ := zv (show oneK (eqK 17) (nk n1) = true from k1)
 simp only [step, sqL, e1, Option.bind_some]
 split
 ·rename_i h
  obtain ⟨n2, a2, k2, i2, z2, l2⟩ := zak hG a1.len (za1 h)
  have A2 := a1.trans a2
  obtain ⟨q3, e3, g3⟩ := call H hr (.list (⟨#[41]⟩ : ByteArray) .pattern) A2 (odt rfl) (odt rfl) (.inl (Nat.lt_of_le_of_lt a1.le z2)) (zap _ _ rfl rfl rfl)
  obtain ⟨n3, a3, k3, w3⟩ := g3.add rfl
  rw [e3, Option.bind_some]
  refine ⟨_, rfl, zy rfl (A2.trans a3) (odt rfl) (odt rfl) ?_ (fun h => (by cases h)) (fun h => (by cases h))⟩
  simp only [zr, k2, kc, List.append_nil, List.singleton_append]
  show zcd (eqK 17) isP (c :: nk n3) = true
  simp only [zcd, pc, Bool.true_and]
  exact zok k3 (fun _ h => z0u h)
 ·rw [Option.bind_some]
  refine ⟨_, rfl, zy rfl a1 (odt rfl) (odt rfl) ?_ (fun h => (by cases h)) (fun h => (by cases h))⟩
  rw [kc]
  show zcd (eqK 17) isP [c] = true
  simp only [zcd, pc]
  rfl
theorem zzc (hG : zaf T) {cl : ByteArray} {e : NT} (H : Can T r (mu T (.list cl e) s)) (hn : Need T (.list cl e) s) (hs : s.1 ≤ T.length) (hr : room T (.list cl e) s) : ∃ q, step T r (.list cl e) s = some q ∧ zaz T (.list cl e) s q := by
 obtain ⟨q1, e1, g1⟩ := call H hr (.listLoop cl e) (Adv.refl hs) (odt rfl) (odt rfl) (.inr (by simp [zan, rank])) (zap _ _ rfl rfl hn.x)
 obtain ⟨n1, a1, k1, w1⟩ := g1.add rfl
 obtain ⟨n2, a2, k2, z2⟩ := zaq hG cl a1.len
 refine ⟨(false, zx T cl q1.2), by simp only [step, sqL, st, e1, Option.bind_some], zy rfl (a1.trans a2) (odt rfl) (odt rfl) ?_ (fun h => (by cases h)) (fun h => (by cases h))⟩
 simp only [zr, k2, List.append_nil]
 exact k1
theorem zvj {e : NT} (h : zh4 e = true) (s : St) : Need T e s := by
 cases e <;> first | (cases h; done) | exact zap _ _ rfl rfl trivial | skip
 rename_i kind
 have h2 : (decide (kind = 4) || decide (kind = 5)) = true := h
 refine zap _ _ rfl rfl ?_
 show kind = 4 ∨ kind = 5
 simpa using h2
theorem zvk {e : NT} (h : zh4 e = true) : repl e = false ∧ (∀ T p, Zc T e p ≤ 10 ∧ 13 ≤ Gc T e p) ∧ zi1 e = true ∧ ∀ T p, zan T e p < 25 := by
 cases e <;> first | (cases h; done) | exact ⟨rfl, fun _ _ => by simp [Zc, Gc], rfl, fun _ _ => by simp [zan, rank]⟩
theorem z1d {e : NT} (h : zh4 e = true) {a : Bool} {ks : List Int} {id : Bool} (k : K e a ks id = true) : ks.all (orK (zj6 e) 46) = true := by
 have one : ∀ p : Int → Bool, oneK p ks = true → ks.all (orK p 46) = true := by
  intro p hp
  obtain ⟨d, rfl, pd⟩ := zv hp
  simp [orK, pd]
 have opt : ∀ p : Int → Bool, optK p ks = true → ks.all (orK p 46) = true := by
  intro p hp
  match ks, hp with
  | [], _ => rfl
  | [d], hp => simp only [optK] at hp; simp [orK, hp]
 cases e <;> first | (cases h; done) | exact one _ k | exact opt _ k
theorem zpd (hG : zaf T) {cl : ByteArray} {e : NT} (H : Can T r (mu T (.listLoop cl e) s)) (hn : Need T (.listLoop cl e) s) (hs : s.1 ≤ T.length) (hr : room T (.listLoop cl e) s) : ∃ q, step T r (.listLoop cl e) s = some q ∧ zaz T (.listLoop cl e) s q := by
 have he : zh4 e = true := hn.x
 obtain ⟨m1, m2, m3, m4⟩ := zvk he
 simp only [step]
 split
 ·rename_i hc
  simp only [Bool.and_eq_true, Bool.not_eq_true'] at hc
  obtain ⟨q1, e1, g1⟩ := call H hr e (Adv.refl hs) (odt rfl) (odt rfl) (.inr (m4 _ _)) (zvj he s)
  obtain ⟨n1, a1, k1, w1⟩ := g1.add m1
  have w1 := w1 m3
  obtain ⟨mz, mg⟩ := m2 T s.1
  have k1 := z1d he k1
  rw [e1, Option.bind_some]
  have hs2 : ∃ n2, Adv T s (if q1.2.1 = s.1 then zes T q1.2 else if atT T q1.2.1 [cl] = true then q1.2 else zx T (⟨#[44]⟩ : ByteArray) q1.2) (-100) 12 n2 ∧ (nk n2).all (orK (zj6 e) 46) = true ∧ s.1 < (if q1.2.1 = s.1 then zes T q1.2 else if atT T q1.2.1 [cl] = true then q1.2 else zx T (⟨#[44]⟩ : ByteArray) q1.2).1 := by
   split
   ·rename_i heq
    obtain ⟨u1, u2⟩ := zol (T := T) hG a1.len
    have u3 := u2 (by rw [heq]; exact hc.1.2)
    have A2 := a1.trans u1
    refine ⟨_, (A2.fwd (by omega)).more (by omega) (by omega), ?_, by omega⟩
    rw [zr, List.all_append, k1]
    show (orK (zj6 e) 46 46 && true) = true
    simp [orK]
   ·rename_i hne
    have f1 : s.1 < q1.2.1 := by have := a1.le; omega
    split
    ·exact ⟨n1, (a1.fwd f1).more (by omega) (by omega), k1, f1⟩
    ·obtain ⟨n3, a3, k3, z3⟩ := zaq hG (⟨#[44]⟩ : ByteArray) a1.len
     have A2 := a1.trans a3
     refine ⟨_, (A2.fwd (Nat.lt_of_lt_of_le f1 a3.le)).more (by omega) (by omega), ?_, Nat.lt_of_lt_of_le f1 a3.le⟩
     rw [zr, k3, List.append_nil]
     exact k1
  obtain ⟨n2, A2, k2, f2⟩ := hs2
  obtain ⟨q3, e3, g3⟩ := call H hr (.listLoop cl e) A2 (odt rfl) (odt rfl) (.inl f2) (zap _ _ rfl rfl hn.x)
  obtain ⟨n3, a3, k3, w3⟩ := g3.add rfl
  refine ⟨q3, e3, zy rfl (A2.trans a3) (odt rfl) (odt rfl) ?_ (fun h => (by cases h)) (fun h => (by cases h))⟩
  rw [zr]
  show (nk n2 ++ nk n3).all _ = true
  rw [List.all_append, k2]
  exact k3
 ·exact ⟨_, rfl, adv0 rfl hs _ rfl rfl (odt rfl) (odt rfl)⟩
theorem zuv {t : ByteArray} (h : zb0 t ≠ 0) : 2 ≤ zb0 t ∧ zb0 t ≤ 9 := by
 unfold zb0 at h ⊢
 split at h
 ·rename_i i hi
  have h2 : i < 8 := by
   have := List.findIdx?_eq_some_iff_getElem.1 hi
   obtain ⟨h3, _⟩ := this
   simpa using h3
  omega
 ·exact absurd rfl h
theorem zw7 {kind : Int} (h1 : 2 ≤ kind) (h2 : kind ≤ 9) : isIt kind = true := by
 have : kind = 2 ∨ kind = 3 ∨ kind = 4 ∨ kind = 5 ∨ kind = 6 ∨ kind = 7 ∨ kind = 8 ∨ kind = 9 := by omega
 rcases this with rfl | rfl | rfl | rfl | rfl | rfl | rfl | rfl <;> rfl
theorem zzh (hT : T.length ≤ 2000) (H : Can T r (mu T .item s)) (hn : Need T .item s) (hs : s.1 ≤ T.length) (hr : room T .item s) : ∃ q, step T r .item s = some q ∧ zaz T .item s q := by
 have hne := hn.c rfl
 simp only [step]
 generalize zal T (if atT T s.1 [(⟨#[112, 117, 98]⟩ : ByteArray)] = true then zb1 T s.1 else s.1) = tk
 split
 ·exact zdy H hr hs .skipToItem (by simp [zan, rank]) (zb8 _ _ hne rfl trivial) rfl rfl (.inr rfl) (odt rfl) (fun _ ks _ h => by
   obtain ⟨d, rfl, pd⟩ := zv (show oneK (eqK 46) ks = true from h)
   have : d = 46 := by simpa [eqK] using pd
   subst this
   rfl) (fun _ => rfl) (fun _ => rfl)
 ·rename_i h
  rw [not_or] at h
  obtain ⟨h1, h2⟩ := zuv h.1
  exact zdd hT H hs _ (.itemB _) (by simp [zan, rank]) (fun _ => zb8 _ _ hne rfl ⟨h1, h2⟩) rfl (by omega) (fun _ _ _ h => h) rfl (.inr rfl) (odt rfl) (fun _ => zw7 h1 h2) (fun _ => rfl)
theorem zxe (hG : zaf T) {kind : Int} (H : Can T r (mu T (.itemB kind) s)) (hn : Need T (.itemB kind) s) (hs : s.1 ≤ T.length) (hr : room T (.itemB kind) s) : ∃ q, step T r (.itemB kind) s = some q ∧ zaz T (.itemB kind) s q := by
 have hne := hn.c rfl
 have h1 : ∃ n1, Adv T s (zz T (zbq T s [(⟨#[112, 117, 98]⟩ : ByteArray)])) (-100) 29 n1 ∧ nk n1 = [] ∧ s.1 < (zz T (zbq T s [(⟨#[112, 117, 98]⟩ : ByteArray)])).1 := by
  unfold zbq
  split
  ·rename_i h
   obtain ⟨n1, a1, k1, i1, z1, l1⟩ := zak hG hs (za1 h)
   obtain ⟨n2, a2, k2, i2, z2, l2⟩ := zcw hG a1.len
   exact ⟨_, (a1.trans a2).more (by decide) (by decide), by rw [zr, k1, k2]; rfl, Nat.lt_of_lt_of_le z1 a2.le⟩
  ·obtain ⟨n1, a1, k1, i1, z1, l1⟩ := zak hG hs hne
   exact ⟨_, a1, k1, z1⟩
 obtain ⟨n1, a1, k1, f1⟩ := h1
 obtain ⟨q2, e2, g2⟩ := call H hr (.itemBody kind) a1 (odt rfl) (odt rfl) (.inl f1) (zap _ _ rfl rfl hn.x)
 obtain ⟨n2, a2, k2, w2⟩ := g2.add rfl
 have hid : ∀ (ks : List Int) (i j : Bool), 2 ≤ kind → kind ≤ 9 → loc kind ks i = true → loc kind ks j = true := by
  intro ks i j h1 h2 h
  have : kind = 2 ∨ kind = 3 ∨ kind = 4 ∨ kind = 5 ∨ kind = 6 ∨ kind = 7 ∨ kind = 8 ∨ kind = 9 := by omega
  rcases this with rfl | rfl | rfl | rfl | rfl | rfl | rfl | rfl <;> exact h
 refine ⟨(false, q2.2), by simp only [step, sqL, st, e2, Option.bind_some], zy rfl (a1.trans a2) (odt rfl) (odt rfl) ?_ (fun h => (by cases h)) (fun _ => Nat.lt_of_lt_of_le f1 a2.le)⟩
 rw [zr, k1]
 obtain ⟨hx1, hx2⟩ := (show 2 ≤ kind ∧ kind ≤ 9 from hn.x)
 exact hid _ _ _ hx1 hx2 k2
theorem zlc (hT : T.length ≤ 2000) (H : Can T r (mu T .skipToItem s)) (hn : Need T .skipToItem s) (hs : s.1 ≤ T.length) : ∃ q, step T r .skipToItem s = some q ∧ zaz T .skipToItem s q :=
 zdd hT H hs 46 .skipB (by simp [zan, rank]) (fun _ => zb8 _ _ (hn.c rfl) rfl trivial) rfl (by decide) (zhk 46 (fun _ => rfl)) rfl (.inr rfl) (odt rfl) (fun _ => rfl) (fun _ => rfl)
theorem zwk (hG : zaf T) (H : Can T r (mu T .skipB s)) (hn : Need T .skipB s) (hs : s.1 ≤ T.length) (hr : room T .skipB s) : ∃ q, step T r .skipB s = some q ∧ zaz T .skipB s q := by
 obtain ⟨n1, a1, k1, i1, z1, l1⟩ := zak hG hs (hn.c rfl)
 obtain ⟨q2, e2, g2⟩ := call H hr .skipLoop a1 (odt rfl) (odt rfl) (.inl z1) (zap _ _ rfl rfl trivial)
 obtain ⟨n2, a2, k2, w2⟩ := g2.add rfl
 refine ⟨(false, q2.2), by simp only [step, sqL, st, e2, Option.bind_some], zy rfl (a1.trans a2) (odt rfl) (odt rfl) ?_ (fun h => (by cases h)) (fun _ => Nat.lt_of_lt_of_le z1 a2.le)⟩
 rw [zr, k1]
 exact k2
theorem zo5 (hG : zaf T) (H : Can T r (mu T .skipLoop s)) (hs : s.1 ≤ T.length) (hr : room T .skipLoop s) : ∃ q, step T r .skipLoop s = some q ∧ zaz T .skipLoop s q := by
 simp only [step]
 split
 ·rename_i hc
  simp only [Bool.and_eq_true, Bool.not_eq_true'] at hc
  obtain ⟨n1, a1, k1, i1, z1, l1⟩ := zak hG hs hc.1
  obtain ⟨q2, e2, g2⟩ := call H hr .skipLoop a1 (odt rfl) (odt rfl) (.inl z1) (zap _ _ rfl rfl trivial)
  obtain ⟨n2, a2, k2, w2⟩ := g2.add rfl
  refine ⟨q2, e2, zy rfl (a1.trans a2) (odt rfl) (odt rfl) ?_ (fun h => (by cases h)) (fun h => (by cases h))⟩
  rw [zr, k1]
  exact k2
 ·exact ⟨_, rfl, adv0 rfl hs _ rfl rfl (odt rfl) (odt rfl)⟩
theorem zys (hT : T.length ≤ 2000) (hG : zaf T) (H : Can T r (mu T .useS s)) (hs : s.1 ≤ T.length) : ∃ q, step T r .useS s = some q ∧ zaz T .useS s q := by
 obtain ⟨q, e, g⟩ := body hT H .usePathB (p := s.1) (ks := []) (by simp) (Nat.le_refl _) hs (.inr (by simp [zan, rank])) (zap _ _ rfl rfl trivial)
 obtain ⟨n1, a1, k1, w1⟩ := g.add rfl
 have A1 := Adv.node (ks := s.2) 17 a1 (by decide) (show loc 17 (nk n1) (zb6 n1) = true from k1)
 have kk : nk [Tree.mk 17 zj n1] = [17] := rfl
 have hstep : step T r .useS s = some (false, zx T (⟨#[59]⟩ : ByteArray) (if q.1 = true then zz T (zz T (q.2.1, s.2 ++ [.mk 17 zj q.2.2])) else if atT T q.2.1 [(⟨#[97, 115]⟩ : ByteArray)] = true then zao T (zz T (q.2.1, s.2 ++ [.mk 17 zj q.2.2])) else (q.2.1, s.2 ++ [.mk 17 zj q.2.2]))) := by
  simp only [step, zud, e, Option.bind_some]
 have h2 : ∃ n2, Adv T (q.2.1, s.2 ++ [.mk 17 zj q.2.2]) (if q.1 = true then zz T (zz T (q.2.1, s.2 ++ [.mk 17 zj q.2.2])) else if atT T q.2.1 [(⟨#[97, 115]⟩ : ByteArray)] = true then zao T (zz T (q.2.1, s.2 ++ [.mk 17 zj q.2.2])) else (q.2.1, s.2 ++ [.mk 17 zj q.2.2])) 1 28 n2 ∧ nk n2 = [] := by
  split
  ·obtain ⟨n2, a2, k2, i2, z2, l2⟩ := zcw (T := T) hG A1.len
   obtain ⟨n3, a3, k3, i3, z3, l3⟩ := zcw hG a2.len
   exact ⟨_, (a2.trans a3).more (by decide) (by decide), by rw [zr, k2, k3]; rfl⟩
  split
  ·obtain ⟨n2, a2, k2, i2, z2, l2⟩ := zcw (T := T) hG A1.len
   obtain ⟨n3, a3, k3, z3⟩ := zbx hG a2.len
   exact ⟨_, (a2.trans a3).more (by decide) (by decide), by rw [zr, k2, k3]; rfl⟩
  ·exact ⟨[], (Adv.refl A1.len).more (by decide) (by decide), rfl⟩
 obtain ⟨n2, a2, k2⟩ := h2
 have A2 := A1.trans a2
 obtain ⟨n3, a3, k3, z3⟩ := zaq hG (⟨#[59]⟩ : ByteArray) A2.len
 refine ⟨_, hstep, zy rfl (A2.trans a3) (odt rfl) (odt rfl) ?_ (fun h => (by cases h)) (fun h => (by cases h))⟩
 rw [zr, zr, k2, k3]
 rfl
theorem znt (a : Bool) (ks : List Int) (id : Bool) (h : K .expectId a ks id = true) : loc 18 ks id = true := by
 rw [zqv h]
 rfl
theorem zor (hT : T.length ≤ 2000) (H : Can T r (mu T .usePathB s)) (hs : s.1 ≤ T.length) (hr : room T .usePathB s) : ∃ q, step T r .usePathB s = some q ∧ zaz T .usePathB s q := by
 obtain ⟨q1, t1, e1, a1, k1, z1⟩ := zgj hT H 18 .expectId (Nat.le_refl _) hs (.inr (by simp [zan, rank])) (fun _ => zap _ _ rfl rfl trivial) rfl (by decide) znt
 obtain ⟨q2, e2, g2⟩ := call H hr .useLoop a1 (odt rfl) (odt rfl) (.inr (by simp [zan, rank])) (zap _ _ rfl rfl trivial)
 obtain ⟨n2, a2, k2, w2⟩ := g2.add rfl
 refine ⟨q2, by simp only [step, e1, Option.bind_some, e2], zy rfl (a1.trans a2) (odt rfl) (odt rfl) ?_ (fun h => (by cases h)) (fun h => (by cases h))⟩
 rw [zr, k1]
 have k2 : (nk n2).all (eqK 18) = true := k2
 show (!(18 :: nk n2).isEmpty && (18 :: nk n2).all (eqK 18)) = true
 rw [List.all_cons, k2]
 rfl
theorem zq6 (hT : T.length ≤ 2000) (hG : zaf T) (H : Can T r (mu T .useLoop s)) (hs : s.1 ≤ T.length) (hr : room T .useLoop s) : ∃ q, step T r .useLoop s = some q ∧ zaz T .useLoop s q := by
 simp only [step]
 split
 ·rename_i h
  split
  ·exact ⟨_, rfl, adv0 rfl hs _ rfl rfl (odt rfl) (odt rfl)⟩
  ·obtain ⟨n1, a1, k1, i1, z1, l1⟩ := zak hG hs (za1 h)
   obtain ⟨q2, t2, e2, a2, k2, z2⟩ := zgj hT H 18 .expectId (s' := zz T s) a1.le a1.len (.inl z1) (fun _ => zap _ _ rfl rfl trivial) rfl (by decide) znt
   have A2 := a1.trans a2
   obtain ⟨q3, e3, g3⟩ := call H hr .useLoop A2 (odt rfl) (odt rfl) (.inl (Nat.lt_of_lt_of_le z1 a2.le)) (zap _ _ rfl rfl trivial)
   obtain ⟨n3, a3, k3, w3⟩ := g3.add rfl
   rw [e2, Option.bind_some]
   refine ⟨q3, e3, zy rfl (A2.trans a3) (odt rfl) (odt rfl) ?_ (fun h => (by cases h)) (fun h => (by cases h))⟩
   rw [zr, zr, k1, k2]
   have k3 : (nk n3).all (eqK 18) = true := k3
   show (18 :: nk n3).all (eqK 18) = true
   rw [List.all_cons, k3]
   rfl
 ·exact ⟨_, rfl, adv0 rfl hs _ rfl rfl (odt rfl) (odt rfl)⟩
theorem zk5 (hT : T.length ≤ 2000) (H : Can T r (mu T .typeParams s)) (hs : s.1 ≤ T.length) : ∃ q, step T r .typeParams s = some q ∧ zaz T .typeParams s q :=
 zdd hT H hs 10 .typeParamsB (by simp [zan, rank]) (fun _ => zap _ _ rfl rfl trivial) rfl (by decide) (fun _ _ _ h => h) rfl (.inl (odt rfl)) (odt rfl) (fun _ => rfl) (fun h => (by cases h))
theorem zjt (hG : zaf T) (H : Can T r (mu T .typeParamsB s)) (hs : s.1 ≤ T.length) (hr : room T .typeParamsB s) : ∃ q, step T r .typeParamsB s = some q ∧ zaz T .typeParamsB s q := by
 simp only [step]
 split
 ·rename_i h
  obtain ⟨n1, a1, k1, i1, z1, l1⟩ := zak hG hs (za1 h)
  obtain ⟨q2, e2, g2⟩ := call H hr (.list (⟨#[62]⟩ : ByteArray) .typeParam) a1 (odt rfl) (odt rfl) (.inl z1) (zap _ _ rfl rfl rfl)
  obtain ⟨n2, a2, k2, w2⟩ := g2.add rfl
  refine ⟨q2, e2, zy rfl (a1.trans a2) (odt rfl) (odt rfl) ?_ (fun h => (by cases h)) (fun h => (by cases h))⟩
  rw [zr, k1]
  exact k2
 ·exact ⟨_, rfl, adv0 rfl hs _ rfl rfl (odt rfl) (odt rfl)⟩
theorem zk7 (hG : zaf T) (H : Can T r (mu T .typeParamB s)) (hn : Need T .typeParamB s) (hs : s.1 ≤ T.length) (hr : room T .typeParamB s) : ∃ q, step T r .typeParamB s = some q ∧ zaz T .typeParamB s q := by
 obtain ⟨n1, a1, k1, i1, z1, l1⟩ := zak hG hs (hn.c rfl)
 have i1 : zb6 n1 = true := i1.trans (hn.i rfl)
 simp only [step]
 split
 ·obtain ⟨n2, a2, k2, i2, z2, l2⟩ := zcw hG a1.len
  have A2 := a1.trans a2
  have f2 := Nat.lt_of_lt_of_le z1 a2.le
  obtain ⟨q3, e3, g3⟩ := call H hr (.path true) A2 (odt rfl) (odt rfl) (.inl f2) (zap _ _ rfl rfl trivial)
  obtain ⟨n3, a3, k3, w3⟩ := g3.add rfl
  obtain ⟨c, kc, pc⟩ := zv (show oneK (eqK 17) (nk n3) = true from k3)
  have A3 := A2.trans a3
  obtain ⟨q4, e4, g4⟩ := call H hr .boundLoop A3 (odt rfl) (odt rfl) (.inl (Nat.lt_of_lt_of_le f2 a3.le)) (zap _ _ rfl rfl trivial)
  obtain ⟨n4, a4, k4, w4⟩ := g4.add rfl
  have k4 : (nk n4).all (eqK 17) = true := k4
  refine ⟨(false, q4.2), by simp only [sqL, e3, e4, Option.bind_some], zy rfl (A3.trans a4) (odt rfl) (odt rfl) ?_ (fun h => (by cases h)) (fun _ => Nat.lt_of_lt_of_le (Nat.lt_of_lt_of_le f2 a3.le) a4.le)⟩
  simp only [zr, k1, k2, kc, zaa, i1, List.nil_append, List.singleton_append, Bool.true_or]
  show ((c :: nk n4).all (eqK 17) && true) = true
  rw [List.all_cons, pc, k4]
  rfl
 ·refine ⟨_, rfl, zy rfl a1 (odt rfl) (odt rfl) ?_ (fun h => (by cases h)) (fun _ => z1)⟩
  rw [k1, i1]
  rfl
theorem zof (hG : zaf T) (H : Can T r (mu T .boundLoop s)) (hs : s.1 ≤ T.length) (hr : room T .boundLoop s) : ∃ q, step T r .boundLoop s = some q ∧ zaz T .boundLoop s q := by
 simp only [step]
 split
 ·rename_i h
  obtain ⟨n1, a1, k1, i1, z1, l1⟩ := zak hG hs (za1 h)
  obtain ⟨q2, e2, g2⟩ := call H hr (.path true) a1 (odt rfl) (odt rfl) (.inl z1) (zap _ _ rfl rfl trivial)
  obtain ⟨n2, a2, k2, w2⟩ := g2.add rfl
  obtain ⟨c, kc, pc⟩ := zv (show oneK (eqK 17) (nk n2) = true from k2)
  have A2 := a1.trans a2
  obtain ⟨q3, e3, g3⟩ := call H hr .boundLoop A2 (odt rfl) (odt rfl) (.inl (Nat.lt_of_lt_of_le z1 a2.le)) (zap _ _ rfl rfl trivial)
  obtain ⟨n3, a3, k3, w3⟩ := g3.add rfl
  refine ⟨(false, q3.2), by simp only [sqL, e2, e3, Option.bind_some], zy rfl (A2.trans a3) (odt rfl) (odt rfl) ?_ (fun h => (by cases h)) (fun h => (by cases h))⟩
  simp only [zr, k1, kc, List.nil_append, List.singleton_append]
  have k3 : (nk n3).all (eqK 17) = true := k3
  show (c :: nk n3).all (eqK 17) = true
  rw [List.all_cons, pc, k3]
  rfl
 ·exact ⟨_, rfl, adv0 rfl hs _ rfl rfl (odt rfl) (odt rfl)⟩
theorem zt0 (hT : T.length ≤ 2000) {cl : ByteArray} (H : Can T r (mu T (.params cl) s)) (hs : s.1 ≤ T.length) : ∃ q, step T r (.params cl) s = some q ∧ zaz T (.params cl) s q :=
 zdd hT H hs 12 (.paramsB cl) (by simp [zan, rank]) (fun _ => zap _ _ rfl rfl trivial) rfl (by decide) (fun _ _ _ h => h) rfl (.inl (odt rfl)) (odt rfl) (fun _ => rfl) (fun h => (by cases h))
theorem zrq {cl : ByteArray} (H : Can T r (mu T (.paramsB cl) s)) (hs : s.1 ≤ T.length) (hr : room T (.paramsB cl) s) : ∃ q, step T r (.paramsB cl) s = some q ∧ zaz T (.paramsB cl) s q :=
 zdy H hr hs (.list cl .paramE) (by simp [zan, rank]) (zap _ _ rfl rfl rfl) rfl rfl (.inl (odt rfl)) (odt rfl) (fun _ _ _ h => h) (fun h => (by cases h)) (fun h => (by cases h))
theorem zpn (hG : zaf T) {nb : Bool} (H : Can T r (mu T (.function nb) s)) (hs : s.1 ≤ T.length) (hr : room T (.function nb) s) : ∃ q, step T r (.function nb) s = some q ∧ zaz T (.function nb) s q := by
 obtain ⟨n1, a1, k1, z1⟩ := zbx hG hs
 obtain ⟨q2, e2, g2⟩ := call H hr .typeParams a1 (odt rfl) (odt rfl) (.inr (by simp [zan, rank])) (zap _ _ rfl rfl trivial)
 obtain ⟨n2, a2, k2, w2⟩ := g2.add rfl
 obtain ⟨c2, kc2, pc2⟩ := zv (show oneK (eqK 10) (nk n2) = true from k2)
 have A2 := a1.trans a2
 obtain ⟨n3, a3, k3, z3⟩ := zaq hG (⟨#[40]⟩ : ByteArray) A2.len
 have A3 := A2.trans a3
 obtain ⟨q4, e4, g4⟩ := call H hr (.params (⟨#[41]⟩ : ByteArray)) A3 (odt rfl) (odt rfl) (.inr (by simp [zan, rank])) (zap _ _ rfl rfl trivial)
 obtain ⟨n4, a4, k4, w4⟩ := g4.add rfl
 obtain ⟨c4, kc4, pc4⟩ := zv (show oneK (eqK 12) (nk n4) = true from k4)
 have A4 := A3.trans a4
 obtain ⟨q5, e5, g5⟩ := call H hr (.opt (⟨#[45, 62]⟩ : ByteArray) .typeExpr) A4 (odt rfl) (odt rfl) (.inr (by simp [zan, rank])) (zap _ _ rfl rfl rfl)
 obtain ⟨n5, a5, k5, w5⟩ := g5.add rfl
 obtain ⟨c5, kc5, pc5⟩ := zv (show oneK (orK isTy 0) (nk n5) = true from k5)
 have A5 := A4.trans a5
 have hend : ∃ q, (if nb = false ∧ atT T q5.2.1 [(⟨#[59]⟩ : ByteArray)] = true then some (false, ze0 (zz T q5.2)) else r .block q5.2) = some q ∧ ∃ n6 c6, Adv T q5.2 q.2 4 13 n6 ∧ nk n6 = [c6] ∧ (decide (c6 = 21) || decide (c6 = 0)) = true := by
  split
  ·obtain ⟨n6, a6, k6, i6, z6, l6⟩ := zcw hG a5.len
   have a7 := zf8 a6.len
   exact ⟨_, rfl, _, 0, (a6.trans a7).more (by decide) (by decide), by rw [zr, k6]; rfl, rfl⟩
  ·obtain ⟨q6, e6, g6⟩ := call H hr .block A5 (odt rfl) (odt rfl) (.inr (by simp only [zan, rank]; split <;> omega)) (zap _ _ rfl rfl trivial)
   obtain ⟨n6, a6, k6, w6⟩ := g6.add rfl
   obtain ⟨c6, kc6, pc6⟩ := zv (show oneK (eqK 21) (nk n6) = true from k6)
   exact ⟨q6, e6, n6, c6, a6.more (zx2 _ _) (zx3 _ _), kc6, by rw [show decide (c6 = 21) = true from pc6]; rfl⟩
 obtain ⟨q6, e6, n6, c6, a6, kc6, pc6⟩ := hend
 refine ⟨(false, q6.2), by simp only [step, sqL, st, e2, e4, e5, e6, Option.bind_some], zy rfl (A5.trans a6) (odt rfl) (odt rfl) ?_ (fun h => (by cases h)) (fun h => (by cases h))⟩
 simp only [zr, k1, kc2, k3, kc4, kc5, kc6, List.nil_append, List.singleton_append, List.cons_append, List.append_nil]
 show fnK [c2, c4, c5, c6] = true
 simp only [fnK, pc6, Bool.and_true]
 rw [show decide (c2 = 10) = true from pc2, show decide (c4 = 12) = true from pc4, show (isTy c5 || decide (c5 = 0)) = true from pc5]
 rfl
theorem ziq (hG : zaf T) (H : Can T r (mu T .variantDeclB s)) (hn : Need T .variantDeclB s) (hs : s.1 ≤ T.length) (hr : room T .variantDeclB s) : ∃ q, step T r .variantDeclB s = some q ∧ zaz T .variantDeclB s q := by
 obtain ⟨n1, a1, k1, i1, z1, l1⟩ := zak hG hs (hn.c rfl)
 have i1 : zb6 n1 = true := i1.trans (hn.i rfl)
 simp only [step]
 split
 ·obtain ⟨n2, a2, k2, i2, z2, l2⟩ := zcw hG a1.len
  have A2 := a1.trans a2
  have f2 := Nat.lt_of_lt_of_le z1 a2.le
  obtain ⟨q3, e3, g3⟩ := call H hr (.list (⟨#[41]⟩ : ByteArray) .typeExpr) A2 (odt rfl) (odt rfl) (.inl f2) (zap _ _ rfl rfl rfl)
  obtain ⟨n3, a3, k3, w3⟩ := g3.add rfl
  refine ⟨q3, e3, zy rfl (A2.trans a3) (odt rfl) (odt rfl) ?_ (fun h => (by cases h)) (fun _ => Nat.lt_of_lt_of_le f2 a3.le)⟩
  simp only [zr, k1, k2, zaa, i1, List.nil_append, Bool.true_or]
  show ((nk n3).all isTy && true) = true
  rw [zok (q := isTy) k3 (fun _ h => zpk h)]
  rfl
 ·refine ⟨_, rfl, zy rfl a1 (odt rfl) (odt rfl) ?_ (fun h => (by cases h)) (fun _ => z1)⟩
  rw [k1, i1]
  rfl
theorem zjy (hT : T.length ≤ 2000) (H : Can T r (mu T .membersLoop s)) (hs : s.1 ≤ T.length) (hr : room T .membersLoop s) : ∃ q, step T r .membersLoop s = some q ∧ zaz T .membersLoop s q := by
 simp only [step]
 split
 ·rename_i h
  have hne := za1 h
  have h1 : ∃ q t c, (if atT T s.1 [(⟨#[102, 110]⟩ : ByteArray)] = true then zbt 3 (r .methodB) s else zbt 16 (r .assocB) s) = some (false, q) ∧ Adv T s q 0 18 [t] ∧ nk [t] = [c] ∧ memK c = true ∧ s.1 < q.1 := by
   split
   ·obtain ⟨q, t, e, a, k, z⟩ := zgj hT H 3 .methodB (Nat.le_refl _) hs (.inr (by simp [zan, rank])) (fun _ => zb8 _ _ hne rfl trivial) rfl (by decide) (fun _ _ _ h => h)
    exact ⟨q, t, 3, e, (a.fwd (z rfl)).more (by decide) (odt rfl), k, rfl, z rfl⟩
   ·obtain ⟨q, t, e, a, k, z⟩ := zgj hT H 16 .assocB (Nat.le_refl _) hs (.inr (by simp [zan, rank])) (fun _ => zb8 _ _ hne rfl trivial) rfl (by decide) (fun _ _ _ h => h)
    exact ⟨q, t, 16, e, (a.fwd (z rfl)).more (by decide) (odt rfl), k, rfl, z rfl⟩
  obtain ⟨q1, t, c, e1, a1, k1, p1, f1⟩ := h1
  have A1 := a1.fwd f1
  obtain ⟨q2, e2, g2⟩ := call H hr .membersLoop A1 (odt rfl) (odt rfl) (.inl f1) (zap _ _ rfl rfl trivial)
  obtain ⟨n2, a2, k2, w2⟩ := g2.add rfl
  rw [e1, Option.bind_some]
  refine ⟨q2, e2, zy rfl (A1.trans a2) (odt rfl) (odt rfl) ?_ (fun h => (by cases h)) (fun h => (by cases h))⟩
  rw [zr, k1]
  have k2 : (nk n2).all memK = true := k2
  show (c :: nk n2).all memK = true
  rw [List.all_cons, p1, k2]
  rfl
 ·exact ⟨_, rfl, adv0 rfl hs _ rfl rfl (odt rfl) (odt rfl)⟩
theorem zxm (hG : zaf T) (H : Can T r (mu T .implS s)) (hs : s.1 ≤ T.length) (hr : room T .implS s) : ∃ q, step T r .implS s = some q ∧ zaz T .implS s q := by
 obtain ⟨q1, e1, g1⟩ := call H hr .typeParams (Adv.refl hs) (odt rfl) (odt rfl) (.inr (by simp [zan, rank])) (zap _ _ rfl rfl trivial)
 obtain ⟨n1, a1, k1, w1⟩ := g1.add rfl
 obtain ⟨c1, kc1, pc1⟩ := zv (show oneK (eqK 10) (nk n1) = true from k1)
 obtain ⟨q2, e2, g2⟩ := call H hr .typeExpr a1 (odt rfl) (odt rfl) (.inr (by simp [zan, rank])) (zap _ _ rfl rfl trivial)
 obtain ⟨n2, a2, k2, w2⟩ := g2.add rfl
 obtain ⟨c2, kc2, pc2⟩ := zv (show oneK isTy (nk n2) = true from k2)
 have A2 := a1.trans a2
 have h3 : ∃ q, (if atT T q2.2.1 [(⟨#[102, 111, 114]⟩ : ByteArray)] = true then r .typeExpr (zz T q2.2) else (match q2.2.2.getLast? with
   | none => none
   | some t => some (false, (q2.2.1, q2.2.2.dropLast ++ [.mk 0 zj [], t])))) = some q ∧ ∃ n3 b c, Adv T s q.2 5 21 (n1 ++ n3) ∧ nk n3 = [b, c] ∧ (isTy b || decide (b = 0)) = true ∧ isTy c = true := by
  split
  ·rename_i h
   obtain ⟨n4, a4, k4, i4, z4, l4⟩ := zak hG A2.len (za1 h)
   have A4 := A2.trans a4
   obtain ⟨q5, e5, g5⟩ := call H hr .typeExpr A4 (odt rfl) (odt rfl) (.inl (Nat.lt_of_le_of_lt A2.le z4)) (zap _ _ rfl rfl trivial)
   obtain ⟨n5, a5, k5, w5⟩ := g5.add rfl
   obtain ⟨c5, kc5, pc5⟩ := zv (show oneK isTy (nk n5) = true from k5)
   refine ⟨q5, e5, n2 ++ (n4 ++ n5), c2, c5, ?_, by simp only [zr, kc2, k4, kc5]; rfl, by rw [pc2]; rfl, pc5⟩
   have A5 := A4.trans a5
   rw [List.append_assoc, List.append_assoc] at A5
   exact A5.more (odt rfl) (odt rfl)
  ·match n2, w2 rfl, kc2, a2, A2 with
   | [], _, h, _, _ => cases h
   | [t], _, h, a2, A2 =>
    have hrow : q2.2.2 = (s.2 ++ n1) ++ [t] := by rw [a2.row, a1.row]
    rw [hrow, List.getLast?_concat]
    simp only [List.dropLast_concat]
    refine ⟨_, rfl, [.mk 0 zj [], t], 0, c2, ⟨A2.le, A2.len, by simp, zfx (zf4 A2.ok) ⟨znj, (zjc A2.ok).1, trivial⟩, ?_, ?_⟩, ?_, rfl, pc2⟩
    ·have := A2.toks
     rw [zet] at this ⊢
     simp only [zd5, List.append_nil] at this ⊢
     rw [show zfs (.mk 0 zj []) = [] by decide, List.nil_append]
     exact this
    ·have h6 := A2.few
     rw [zfj] at h6 ⊢
     simp only [cntL, cntT] at h6 ⊢
     rcases h6 with ⟨b1, b2⟩ | ⟨b1, b2⟩
     ·have b2' : ((cntL n1 + (cntT t + 0) : Nat) : Int) ≤ 4 := b2
      exact .inl ⟨b1, by omega⟩
     ·have b2' : ((cntL n1 + (cntT t + 0) : Nat) : Int) + 22 ≤ 30 * ((q2.2.1 : Int) - (s.1 : Int)) := b2
      refine .inr ⟨b1, ?_⟩
      show _ ≤ 30 * ((q2.2.1 : Int) - (s.1 : Int))
      omega
    ·have h5 : nk [Tree.mk 0 zj [], t] = 0 :: nk [t] := rfl
     rw [h5, h]
   | _ :: _ :: _, h, _, _, _ => simp at h
 obtain ⟨q3, e3, n3, b, c, A3, k3, pb, pc⟩ := h3
 obtain ⟨q4, e4, g4⟩ := call H hr .members A3 (odt rfl) (odt rfl) (.inr (by simp [zan, rank])) (zap _ _ rfl rfl trivial)
 obtain ⟨n4, a4, k4, w4⟩ := g4.add rfl
 have k4 : (nk n4).all memK = true := k4
 refine ⟨(false, q4.2), by
  simp only [step, sqL, e1, e2, Option.bind_some]
  refine (congrArg (fun z => Option.bind z _) e3).trans ?_
  simp only [Option.bind_some, e4], zy rfl (A3.trans a4) (odt rfl) (odt rfl) ?_ (fun h => (by cases h)) (fun h => (by cases h))⟩
 simp only [zr, kc1, k3, List.cons_append, List.nil_append, List.singleton_append]
 show zsb (c1 :: b :: c :: nk n4) = true
 simp only [zsb, pb, pc, Bool.and_true]
 rw [show decide (c1 = 10) = true from pc1]
 exact k4
theorem zy7 (hT : T.length ≤ 2000) {ty : Bool} (H : Can T r (mu T (.path ty) s)) (hs : s.1 ≤ T.length) : ∃ q, step T r (.path ty) s = some q ∧ zaz T (.path ty) s q :=
 zdd hT H hs 17 (.pathB ty) (by simp [zan, rank]) (fun _ => zap _ _ rfl rfl trivial) rfl (by decide) (fun _ _ _ h => h) rfl (.inl (odt rfl)) (odt rfl) (fun _ => rfl) (fun h => (by cases h))
theorem zwv {ty : Bool} (H : Can T r (mu T (.pathB ty) s)) (hs : s.1 ≤ T.length) (hr : room T (.pathB ty) s) : ∃ q, step T r (.pathB ty) s = some q ∧ zaz T (.pathB ty) s q :=
 zdy H hr hs (.pathLoop ty true) (by simp [zan, rank]) (zap _ _ rfl rfl trivial) rfl rfl (.inl (odt rfl)) (odt rfl) (fun _ ks _ h => by
  have h2 : ((!true || !ks.isEmpty) && ks.all (eqK 18)) = true := h
  show (!ks.isEmpty && ks.all (eqK 18)) = true
  simpa using h2) (fun h => (by cases h)) (fun h => (by cases h))
theorem zo9 (hT : T.length ≤ 2000) (hG : zaf T) {ty first : Bool} (H : Can T r (mu T (.pathLoop ty first) s)) (hs : s.1 ≤ T.length) (hr : room T (.pathLoop ty first) s) : ∃ q, step T r (.pathLoop ty first) s = some q ∧ zaz T (.pathLoop ty first) s q := by
 simp only [step]
 split
 ·rename_i hf
  subst hf
  obtain ⟨q2, t2, e2, a2, k2, z2⟩ := zgj hT H 18 (.segB ty) (Nat.le_refl _) hs (.inr (by simp [zan, rank])) (fun _ => zap _ _ rfl rfl trivial) rfl (by decide) (fun _ _ _ h => h)
  obtain ⟨q3, e3, g3⟩ := call H hr (.pathLoop ty false) a2 (odt rfl) (odt rfl) (.inr (by simp [zan, rank])) (zap _ _ rfl rfl trivial)
  obtain ⟨n3, a3, k3, w3⟩ := g3.add rfl
  refine ⟨(false, q3.2), by simp only [sqL, e2, e3, Option.bind_some], zy rfl (a2.trans a3) (odt rfl) (odt rfl) ?_ (fun h => (by cases h)) (fun h => (by cases h))⟩
  rw [zr, k2]
  have k3 : ((!false || !(nk n3).isEmpty) && (nk n3).all (eqK 18)) = true := k3
  rw [Bool.and_eq_true] at k3
  show ((!true || !(18 :: nk n3).isEmpty) && (18 :: nk n3).all (eqK 18)) = true
  rw [List.all_cons, k3.2]
  rfl
 ·rename_i hf
  have hf : first = false := by simpa using hf
  subst hf
  split
  ·rename_i h
   obtain ⟨n1, a1, k1, i1, z1, l1⟩ := zak hG hs (za1 h)
   obtain ⟨q2, t2, e2, a2, k2, z2⟩ := zgj hT H 18 (.segB ty) (s' := zz T s) a1.le a1.len (.inl z1) (fun _ => zap _ _ rfl rfl trivial) rfl (by decide) (fun _ _ _ h => h)
   have A2 := a1.trans a2
   obtain ⟨q3, e3, g3⟩ := call H hr (.pathLoop ty false) A2 (odt rfl) (odt rfl) (.inl (Nat.lt_of_lt_of_le z1 a2.le)) (zap _ _ rfl rfl trivial)
   obtain ⟨n3, a3, k3, w3⟩ := g3.add rfl
   refine ⟨(false, q3.2), by simp only [sqL, e2, e3, Option.bind_some], zy rfl (A2.trans a3) (odt rfl) (odt rfl) ?_ (fun h => (by cases h)) (fun h => (by cases h))⟩
   rw [zr, zr, k1, k2]
   have k3 : ((!false || !(nk n3).isEmpty) && (nk n3).all (eqK 18)) = true := k3
   rw [Bool.and_eq_true] at k3
   show ((!false || !(18 :: nk n3).isEmpty) && (18 :: nk n3).all (eqK 18)) = true
   rw [List.all_cons, k3.2]
   rfl
  ·exact ⟨_, rfl, adv0 rfl hs _ rfl rfl (odt rfl) (odt rfl)⟩
theorem zy3 (hG : zaf T) {ty : Bool} (H : Can T r (mu T (.segB ty) s)) (hs : s.1 ≤ T.length) (hr : room T (.segB ty) s) : ∃ q, step T r (.segB ty) s = some q ∧ zaz T (.segB ty) s q := by
 obtain ⟨n1, a1, k1, z1⟩ := zbx hG hs
 simp only [step, sqL, st, Option.bind_some]
 split
 ·rename_i h
  obtain ⟨n2, a2, k2, i2, z2, l2⟩ := zak hG a1.len (za1 h.2)
  have A2 := a1.trans a2
  obtain ⟨q3, e3, g3⟩ := call H hr (.list (⟨#[62]⟩ : ByteArray) .typeExpr) A2 (odt rfl) (odt rfl) (.inl (Nat.lt_of_le_of_lt a1.le z2)) (zap _ _ rfl rfl rfl)
  obtain ⟨n3, a3, k3, w3⟩ := g3.add rfl
  rw [e3, Option.bind_some]
  refine ⟨_, rfl, zy rfl (A2.trans a3) (odt rfl) (odt rfl) ?_ (fun h => (by cases h)) (fun h => (by cases h))⟩
  simp only [zr, k1, k2, List.nil_append]
  exact zok (q := isTy) k3 (fun _ h => zpk h)
 ·rw [Option.bind_some]
  exact ⟨_, rfl, zy rfl a1 (odt rfl) (odt rfl) (by rw [k1]; rfl) (fun h => (by cases h)) (fun h => (by cases h))⟩
theorem zov (hT : T.length ≤ 2000) (H : Can T r (mu T .typeExpr s)) (hs : s.1 ≤ T.length) (hr : room T .typeExpr s) : ∃ q, step T r .typeExpr s = some q ∧ zaz T .typeExpr s q := by
 simp only [step]
 split
 ·rename_i h
  exact zdd hT H hs 19 .refB (by simp [zan, rank]) (fun _ => zb8 _ _ (za1 h) rfl trivial) rfl (by decide) (fun _ _ _ h => h) rfl (.inr rfl) (odt rfl) (fun _ => rfl) (fun h => (by cases h))
 split
 ·rename_i h
  exact zdd hT H hs 20 .funcTypeB (by simp [zan, rank]) (fun _ => zb8 _ _ (za1 h) rfl trivial) rfl (by decide) (fun _ _ _ h => h) rfl (.inr rfl) (odt rfl) (fun _ => rfl) (fun h => (by cases h))
 split
 ·exact zdy H hr hs (.path true) (by simp [zan, rank]) (zap _ _ rfl rfl trivial) rfl rfl (.inl (odt rfl)) (odt rfl) (zua (by decide)) (fun _ => rfl) (fun h => (by cases h))
 ·exact ⟨_, rfl, zy rfl (zf0 hs) (odt rfl) (odt rfl) rfl (fun _ => by simp) (fun h => (by cases h))⟩
theorem zz4 (hG : zaf T) (hn : Need T .bump s) (hs : s.1 ≤ T.length) : ∃ q, step T r .bump s = some q ∧ zaz T .bump s q := by
 obtain ⟨n1, a1, k1, i1, z1, l1⟩ := zak hG hs (hn.c rfl)
 exact ⟨_, rfl, zy rfl a1 (odt rfl) (odt rfl) (by rw [k1]; rfl) (fun h => (by cases h)) (fun _ => z1)⟩
theorem zps (hG : zaf T) (hs : s.1 ≤ T.length) : ∃ q, step T r .expectId s = some q ∧ zaz T .expectId s q := by
 obtain ⟨n1, a1, k1, z1⟩ := zbx hG hs
 exact ⟨_, rfl, zy rfl a1 (odt rfl) (odt rfl) (by rw [k1]; rfl) (fun h => (by cases h)) (fun h => (by cases h))⟩
theorem z0n (hG : zaf T) {x : ByteArray} {e : NT} (H : Can T r (mu T (.opt x e) s)) (hn : Need T (.opt x e) s) (hs : s.1 ≤ T.length) (hr : room T (.opt x e) s) : ∃ q, step T r (.opt x e) s = some q ∧ zaz T (.opt x e) s q := by
 have he : z0v e = true := hn.x
 simp only [step]
 split
 ·rename_i h
  obtain ⟨n1, a1, k1, i1, z1, l1⟩ := zak hG hs (za1 h)
  have hm : repl e = false ∧ (∀ p, Zc T e p ≤ 4 ∧ 13 ≤ Gc T e p) ∧ ze4 e = false ∧ zw5 e = false ∧ zw4 T e (zz T s) := by cases e <;> first | (cases he; done) | exact ⟨rfl, fun _ => by simp [Zc, Gc], rfl, rfl, trivial⟩
  obtain ⟨q2, e2, g2⟩ := call H hr e a1 (odt rfl) (odt rfl) (.inl z1) (zap _ _ hm.2.2.1 hm.2.2.2.1 hm.2.2.2.2)
  obtain ⟨n2, a2, k2, w2⟩ := g2.add hm.1
  have hzg := hm.2.1 (zz T s).1
  refine ⟨q2, e2, zy rfl (a1.trans a2) (by show _ ≤ (1 : Int); omega) (by show (25 : Int) ≤ _; omega) ?_ (fun h => (by cases h)) (fun h => (by cases h))⟩
  rw [zr, k1]
  have h3 : oneK (zj6 e) (nk n2) = true := by cases e <;> first | (cases he; done) | exact k2
  obtain ⟨c, kc, pc⟩ := zv h3
  rw [kc]
  show orK (zj6 e) 0 c = true
  unfold orK
  rw [pc]
  rfl
 ·refine ⟨_, rfl, zy rfl (zf8 hs) (odt rfl) (odt rfl) ?_ (fun h => (by cases h)) (fun h => (by cases h))⟩
  show orK (zj6 e) 0 0 = true
  simp [orK]
theorem zxd (H : Can T r (mu T .items s)) (hs : s.1 ≤ T.length) (hr : room T .items s) : ∃ q, step T r .items s = some q ∧ zaz T .items s q := by
 simp only [step]
 split
 ·exact ⟨_, rfl, adv0 rfl hs _ rfl rfl (odt rfl) (odt rfl)⟩
 ·rename_i h
  have h : eofT T s.1 = false := by simpa using h
  obtain ⟨q1, e1, g1⟩ := call H hr .item (Adv.refl hs) (odt rfl) (odt rfl) (.inr (by simp [zan, rank])) (zb8 _ _ h rfl trivial)
  obtain ⟨n1, a1, k1, w1⟩ := g1.add rfl
  have f1 := g1.fwd rfl
  obtain ⟨c, kc, pc⟩ := zv (show oneK isIt (nk n1) = true from k1)
  have A1 := a1.fwd f1
  obtain ⟨q2, e2, g2⟩ := call H hr .items A1 (odt rfl) (odt rfl) (.inl f1) (zap _ _ rfl rfl trivial)
  obtain ⟨n2, a2, k2, w2⟩ := g2.add rfl
  rw [e1, Option.bind_some]
  refine ⟨q2, e2, zy rfl (A1.trans a2) (odt rfl) (odt rfl) ?_ (fun h => (by cases h)) (fun h => (by cases h))⟩
  rw [zr, kc]
  have k2 : (nk n2).all isIt = true := k2
  show (c :: nk n2).all isIt = true
  rw [List.all_cons, pc, k2]
  rfl
theorem zph (hG : zaf T) {kind : Int} (H : Can T r (mu T (.itemBody kind) s)) (hn : Need T (.itemBody kind) s) (hs : s.1 ≤ T.length) (hr : room T (.itemBody kind) s) : ∃ q, step T r (.itemBody kind) s = some q ∧ zaz T (.itemBody kind) s q := by
 have hx : 2 ≤ kind ∧ kind ≤ 9 := hn.x
 have : kind = 2 ∨ kind = 3 ∨ kind = 4 ∨ kind = 5 ∨ kind = 6 ∨ kind = 7 ∨ kind = 8 ∨ kind = 9 := by omega
 rcases this with rfl | rfl | rfl | rfl | rfl | rfl | rfl | rfl
 ·exact zdy H hr hs .useS (by simp [zan, rank]) (zap _ _ rfl rfl trivial) rfl rfl (.inl (odt rfl)) (odt rfl) (fun _ _ _ h => h) (fun h => (by cases h)) (fun h => (by cases h))
 ·exact zdy H hr hs (.function true) (by simp [zan, rank]) (zap _ _ rfl rfl trivial) rfl rfl (.inl (odt rfl)) (odt rfl) (fun _ _ _ h => h) (fun h => (by cases h)) (fun h => (by cases h))
 ·exact zdy H hr hs (.dataType 4) (by simp [zan, rank]) (zap _ _ rfl rfl (.inl rfl)) rfl rfl (.inl (odt rfl)) (odt rfl) (fun _ _ _ h => h) (fun h => (by cases h)) (fun h => (by cases h))
 ·exact zdy H hr hs (.dataType 5) (by simp [zan, rank]) (zap _ _ rfl rfl (.inr rfl)) rfl rfl (.inl (odt rfl)) (odt rfl) (fun _ _ _ h => h) (fun h => (by cases h)) (fun h => (by cases h))
 ·obtain ⟨n1, a1, k1, z1⟩ := zbx hG hs
  obtain ⟨q2, e2, g2⟩ := call H hr .members a1 (odt rfl) (odt rfl) (.inr (by simp [zan, rank])) (zap _ _ rfl rfl trivial)
  obtain ⟨n2, a2, k2, w2⟩ := g2.add rfl
  refine ⟨(false, q2.2), show sqL [st (zao T), r .members] s = _ by simp only [sqL, st, e2, Option.bind_some], zy rfl (a1.trans a2) (odt rfl) (odt rfl) ?_ (fun h => (by cases h)) (fun h => (by cases h))⟩
  rw [zr, k1]
  exact k2
 ·exact zdy H hr hs .implS (by simp [zan, rank]) (zap _ _ rfl rfl trivial) rfl rfl (.inl (odt rfl)) (odt rfl) (fun _ _ _ h => h) (fun h => (by cases h)) (fun h => (by cases h))
 ·obtain ⟨n1, a1, k1, z1⟩ := zbx hG hs
  obtain ⟨n2, a2, k2, z2⟩ := zaq hG (⟨#[58]⟩ : ByteArray) a1.len
  have A2 := a1.trans a2
  obtain ⟨q3, e3, g3⟩ := call H hr .typeExpr A2 (odt rfl) (odt rfl) (.inr (by simp [zan, rank])) (zap _ _ rfl rfl trivial)
  obtain ⟨n3, a3, k3, w3⟩ := g3.add rfl
  obtain ⟨c3, kc3, pc3⟩ := zv (show oneK isTy (nk n3) = true from k3)
  have A3 := A2.trans a3
  obtain ⟨n4, a4, k4, z4⟩ := zaq hG (⟨#[61]⟩ : ByteArray) A3.len
  have A4 := A3.trans a4
  obtain ⟨q5, e5, g5⟩ := call H hr .expr A4 (odt rfl) (odt rfl) (.inr (by simp [zan, rank])) (zap _ _ rfl rfl trivial)
  obtain ⟨n5, a5, k5, w5⟩ := g5.add rfl
  obtain ⟨c5, kc5, pc5⟩ := zv (show oneK isE (nk n5) = true from k5)
  have A5 := A4.trans a5
  obtain ⟨n6, a6, k6, z6⟩ := zaq hG (⟨#[59]⟩ : ByteArray) A5.len
  refine ⟨(false, zx T (⟨#[59]⟩ : ByteArray) q5.2), show sqL [st (zao T), st (zx T (⟨#[58]⟩ : ByteArray)), r .typeExpr, st (zx T (⟨#[61]⟩ : ByteArray)), r .expr, st (zx T (⟨#[59]⟩ : ByteArray))] s = _ by simp only [sqL, st, e3, e5, Option.bind_some], zy rfl (A5.trans a6) (odt rfl) (odt rfl) ?_ (fun h => (by cases h)) (fun h => (by cases h))⟩
  simp only [zr, k1, k2, kc3, k4, kc5, k6, List.nil_append, List.append_nil, List.singleton_append]
  show twoK isTy isE [c3, c5] = true
  simp [twoK, pc3, pc5]
 ·obtain ⟨n1, a1, k1, z1⟩ := zbx hG hs
  obtain ⟨n2, a2, k2, z2⟩ := zaq hG (⟨#[40]⟩ : ByteArray) a1.len
  have A2 := a1.trans a2
  obtain ⟨q3, e3, g3⟩ := call H hr (.params (⟨#[41]⟩ : ByteArray)) A2 (odt rfl) (odt rfl) (.inr (by simp [zan, rank])) (zap _ _ rfl rfl trivial)
  obtain ⟨n3, a3, k3, w3⟩ := g3.add rfl
  obtain ⟨c3, kc3, pc3⟩ := zv (show oneK (eqK 12) (nk n3) = true from k3)
  have A3 := A2.trans a3
  obtain ⟨n4, a4, k4, z4⟩ := zaq hG (⟨#[61]⟩ : ByteArray) A3.len
  have A4 := A3.trans a4
  obtain ⟨q5, e5, g5⟩ := call H hr .expr A4 (odt rfl) (odt rfl) (.inr (by simp [zan, rank])) (zap _ _ rfl rfl trivial)
  obtain ⟨n5, a5, k5, w5⟩ := g5.add rfl
  obtain ⟨c5, kc5, pc5⟩ := zv (show oneK isE (nk n5) = true from k5)
  have A5 := A4.trans a5
  obtain ⟨n6, a6, k6, z6⟩ := zaq hG (⟨#[59]⟩ : ByteArray) A5.len
  refine ⟨(false, zx T (⟨#[59]⟩ : ByteArray) q5.2), show sqL [st (zao T), st (zx T (⟨#[40]⟩ : ByteArray)), r (.params (⟨#[41]⟩ : ByteArray)), st (zx T (⟨#[61]⟩ : ByteArray)), r .expr, st (zx T (⟨#[59]⟩ : ByteArray))] s = _ by simp only [sqL, st, e3, e5, Option.bind_some], zy rfl (A5.trans a6) (odt rfl) (odt rfl) ?_ (fun h => (by cases h)) (fun h => (by cases h))⟩
  simp only [zr, k1, k2, kc3, k4, kc5, k6, List.nil_append, List.append_nil, List.singleton_append]
  show twoK (eqK 12) isE [c3, c5] = true
  simp [twoK, pc3, pc5]
theorem zy0 (hT : T.length ≤ 2000) (hG : zaf T) (x : NT) (H : Can T r (mu T x s)) (hn : Need T x s) (hs : s.1 ≤ T.length) (hr : room T x s) : ∃ q, step T r x s = some q ∧ zaz T x s q := by
 cases x with
 | block => exact zx0 hT H hs
 | blockB => exact zvs hG H hs hr
 | stmts => exact zwg H hs hr
 | statement => exact zmn hT hG H hn hs hr
 | letS => exact zzd hT hG H hn hs hr
 | whileB => exact zs9 hT hG H hn hs hr
 | returnS => exact zrh hG H hn hs hr
 | assignB => exact zs4 hT hG H hn hs hr
 | exprStmtB bl => exact znr hG hs
 | expr => exact zzr H hs hr
 | binary l => exact zvw H hn hs hr
 | binLoop l => exact zs0 hT H hn hs hr
 | binRhs l => exact zvx hT hG H hn hs hr
 | unary => exact zwb hT H hs hr
 | unaryB => exact ztc hT hG H hn hs hr
 | borrowB => exact zsn hT hG H hn hs hr
 | arguments => exact zoi hT hG H hn hs hr
 | postf => exact zwp hT H hn hs hr
 | mcallB => exact zuk hT hG H hn hs hr
 | fieldB => exact zu9 hT hG H hn hs hr
 | primary => exact zrk hT hG H hs hr
 | macroB => exact zuo hT hG H hn hs hr
 | parenB => exact zty hT hG H hn hs hr
 | ifExpr => exact zu2 hT H hn hs
 | ifB => exact z0z hT hG H hn hs hr
 | elseB => exact zxv H hs hr
 | matchS => exact zum hT hG H hn hs hr
 | armE => exact zz5 hT H hs
 | armB => exact zz7 hT hG H hn hs hr
 | structS => exact zq9 hT hG H hn hs hr
 | initE => exact zxh hT H hs
 | initB => exact zxj hT hG H hn hs hr
 | lambda => exact zur hT hG H hn hs hr
 | emptyB => exact zvh hs
 | pattern => exact zrn hT H hs
 | mutB => exact zzb hT hG H hn hs hr
 | variantB => exact zoq hG H hs hr
 | list cl e => exact zzc hG H hn hs hr
 | listLoop cl e => exact zpd hG H hn hs hr
 | item => exact zzh hT H hn hs hr
 | itemB kind => exact zxe hG H hn hs hr
 | skipToItem => exact zlc hT H hn hs
 | skipB => exact zwk hG H hn hs hr
 | skipLoop => exact zo5 hG H hs hr
 | itemBody kind => exact zph hG H hn hs hr
 | useS => exact zys hT hG H hs
 | usePathB => exact zor hT H hs hr
 | useLoop => exact zq6 hT hG H hs hr
 | typeParams => exact zk5 hT H hs
 | typeParamsB => exact zjt hG H hs hr
 | typeParam => exact zmi hT H hs
 | typeParamB => exact zk7 hG H hn hs hr
 | boundLoop => exact zof hG H hs hr
 | params cl => exact zt0 hT H hs
 | paramsB cl => exact zrq H hs hr
 | paramE => exact zt2 hT H hs
 | paramB => exact zt4 hT hG H hn hs hr
 | function nb => exact zpn hG H hs hr
 | dataType kind => exact zpz hT hG H hn hs hr
 | dataE kind => exact zxz hT H hn hs
 | fieldDeclB => exact zlx hT hG H hn hs hr
 | variantDeclB => exact ziq hG H hn hs hr
 | members => exact zrz hT hG H hn hs hr
 | membersLoop => exact zjy hT H hs hr
 | methodB => exact zrx hT hG H hn hs hr
 | assocB => exact zv0 hT hG H hn hs hr
 | implS => exact zxm hG H hs hr
 | path ty => exact zy7 hT H hs
 | pathB ty => exact zwv H hs hr
 | pathLoop ty first => exact zo9 hT hG H hs hr
 | segB ty => exact zy3 hG H hs hr
 | typeExpr => exact zov hT H hs hr
 | refB => exact zy5 hT hG H hn hs hr
 | funcTypeB => exact znn hT hG H hn hs hr
 | bump => exact zz4 hG hn hs
 | expectId => exact zps hG hs
 | opt x e => exact z0n hG H hn hs hr
 | items => exact zxd H hs hr
end Go.Proofs.YtmoelofaojgjfaaGreatDoor.Par
namespace Go.Proofs.YtmoelofaojgjfaaGreatDoor.Par
theorem zu4 {T : List Tok} {x : NT} {s : St} {q : Bool × St} (h : zaz T x s q) (hr : room T x s) : fit T q.2 = true := by
 have hlen : q.2.1 ≤ T.length ∧ q.2.2.length ≤ s.2.length + 30 * (T.length - s.1) + 100 := by
  cases hp : repl x with
  | false =>
   obtain ⟨ns, a, k, w⟩ := h.add hp
   have h1 := a.lenLe (by have := z12 T x s.1; omega) (by have := z16 T x s.1; omega)
   have h2 := a.len
   have h3 := a.le
   refine ⟨a.len, ?_⟩
   rw [a.row, List.length_append]
   omega
  | true =>
   obtain ⟨pre, t, t', R⟩ := h.rep hp
   refine ⟨R.len, ?_⟩
   rw [R.now, R.was, List.length_append, List.length_append, List.length_singleton, List.length_singleton]
   omega
 unfold room at hr
 unfold fit
 simp only [Bool.and_eq_true, decide_eq_true_eq]
 omega
theorem zvr (T : List Tok) (hT : T.length ≤ 2000) (hG : zaf T) : ∀ k, Can T (run T k) k
 | 0 => fun y s' _ _ h _ => by omega
 | k + 1 => by
  intro y s hn hs hm hr
  have ih := zvr T hT hG k
  obtain ⟨q, e, g⟩ := zy0 hT hG y (fun y' s' a b c d => ih y' s' a b (by omega) d) hn hs hr
  refine ⟨q, ?_, g⟩
  unfold run
  have h1 : fit T s = true := by
   unfold room at hr
   unfold fit
   simp only [Bool.and_eq_true, decide_eq_true_eq]
   omega
  rw [if_pos h1, e, Option.bind_some, if_pos (zu4 g hr)]
theorem zuy (T : List Tok) (hT : T.length ≤ 2000) (hG : zaf T) : ∃ q, run T 250000 .items (0, []) = some q ∧ zaz T .items (0, []) q := by
 refine zvr T hT hG 250000 .items (0, []) (zap _ _ rfl rfl trivial) (Nat.zero_le _) ?_ ?_
 ·show 100 * (T.length - 0) + 33 < 250000
  omega
 ·show 0 + 2000 * (T.length - 0) + 20 * 33 ≤ 5000000
  omega
end Go.Proofs.YtmoelofaojgjfaaGreatDoor.Par
namespace Go.Proofs.YtmoelofaojgjfaaGreatDoor.Par
open Go.RowKit
theorem zsg (l : List UInt8) : 101 ≤ (Lex.first l).2 ∧ (Lex.first l).2 ≤ 108 := by
 unfold Lex.first
 split
 ·simp
 split
 ·simp
 split
 ·split <;> simp
 split
 ·simp
 split
 ·unfold Lex.zc9
  split <;> simp
 split
 ·simp
 split <;> simp
theorem zoz {l : List UInt8} {n : Nat} (h : n ≤ l.length) : (Lex.zc6 l n).size = n := by
 simp only [Lex.zc6, ByteArray.size, List.size_toArray, List.length_take]
 omega
theorem zo0 {l : List UInt8} {n : Nat} : (Lex.zc6 l n).data.toList = l.take n := by simp [Lex.zc6]
theorem zdx : ∀ (n : Nat) (l : List UInt8), l.length ≤ n → zaf (Lex.zbd l)
 | 0, l, h => by
  have : l = [] := List.eq_nil_of_length_eq_zero (by omega)
  subst this
  intro t ht
  rw [Lex.zdw] at ht
  cases ht
 | n + 1, l, h => by
  intro t ht
  by_cases hl : l = []
  ·subst hl
   rw [Lex.zdw] at ht
   cases ht
  ·have h1 := Lex.zfg hl
   rw [Lex.zcm hl] at ht
   rcases List.mem_cons.1 ht with rfl | ht
   ·obtain ⟨k1, k2⟩ := zsg l
    refine ⟨k1, k2, ?_⟩
    show (Lex.zc6 l (Lex.first l).1).size ≠ 0
    rw [zoz h1.2]
    omega
   ·exact zdx n (l.drop (Lex.first l).1) (by rw [List.length_drop]; omega) t ht
theorem ziu : ∀ (n : Nat) (l : List UInt8), l.length ≤ n → (Lex.zbd l).flatMap (fun t => t.2.data.toList) = l
 | 0, l, h => by
  have : l = [] := List.eq_nil_of_length_eq_zero (by omega)
  subst this
  rfl
 | n + 1, l, h => by
  by_cases hl : l = []
  ·subst hl
   rfl
  ·have h1 := Lex.zfg hl
   rw [Lex.zcm hl, List.flatMap_cons, ziu n _ (by rw [List.length_drop]; omega), zo0, List.take_append_drop]
theorem zm8 {T : List Tok} : ∀ (k : Nat) {s : St} {q : Bool × St}, run T k .items s = some q → eofT T q.2.1 = true
 | 0, s, q, h => by cases h
 | k + 1, s, q, h => by
  obtain ⟨j, hj, h1, h2, h3⟩ := zad h
  injection hj with hj
  subst hj
  simp only [step] at h2
  split at h2
  ·rename_i he
   cases h2
   exact he
  ·obtain ⟨q1, h4, h5⟩ := Option.bind_eq_some_iff.1 h2
   exact zm8 k h5
def zg0 (T : List Tok) : St := match run T 250000 .items (0, []) with
 | some q => zbc T q.2
 | none => (0, [])
def zam (l : List UInt8) : List Tree := (zg0 (Lex.zbd l)).2
theorem zwi {T : List Tok} (hT : zaf T) {s : St} (hs : s.1 ≤ T.length) (h : eofT T s.1 = true) : (zbc T s).1 = T.length := by
 have h1 : s.1 ≤ (zbc T s).1 ∧ (zbc T s).1 ≤ T.length := ⟨by simp [zbc], z0h T s.1 hs⟩
 have h2 := zmq (T := T) s
 cases hg : T[(zbc T s).1]? with
 | none =>
  have := List.getElem?_eq_none_iff.1 hg
  omega
 | some t =>
  rw [hg] at h2
  unfold eofT at h
  rw [h2.1] at h
  have h4 : t.1 = 100 := by simpa using h
  have hlt := (List.getElem?_eq_some_iff.1 hg).1
  have ht := (List.getElem?_eq_some_iff.1 hg).2
  have htm : t ∈ T := ht ▸ List.getElem_mem hlt
  have := (hT t htm).1
  omega
structure zyo (T : List Tok) (ks : List Tree) : Prop where
 good : zfp ks
 toks : zd5 ks = T
 items : (nk ks).all isIt = true
 few : cntL ks ≤ 30 * T.length
theorem zdl (T : List Tok) (hT : T.length ≤ 2000) (hG : zaf T) : ∃ q, run T 250000 .items (0, []) = some q ∧ zg0 T = zbc T q.2 ∧ zyo T (zg0 T).2 := by
 obtain ⟨q, h1, h2⟩ := zuy T hT hG
 obtain ⟨ns, a, k, _⟩ := h2.add rfl
 obtain ⟨ms, b, kb, ib, lb⟩ := zqz hG a.len
 have hp : zg0 T = zbc T q.2 := by
  unfold zg0
  rw [h1]
 have A := a.trans b
 have he := zwi hG a.len (zm8 _ h1)
 have hr : (zbc T q.2).2 = ns ++ ms := by simpa using A.row
 refine ⟨q, h1, hp, ?_⟩
 rw [hp, hr]
 refine ⟨A.ok, ?_, ?_, ?_⟩
 ·have := A.toks
  rw [this, he]
  simp
 ·rw [zr, kb, List.append_nil]
  exact k
 ·have h5 := A.few
  rw [he] at h5
  have e : ((((0 : Nat), ([] : List Tree)) : St).1 : Int) = 0 := rfl
  rw [e] at h5
  rcases h5 with ⟨b1, b2⟩ | ⟨b1, b2⟩
  ·have b2' : (cntL (ns ++ ms) : Int) ≤ 0 := b2
   omega
  ·have b2' : (cntL (ns ++ ms) : Int) + 17 ≤ 30 * ((T.length : Int) - 0) := b2
   omega
theorem zd7 {l : List UInt8} (h : l.length ≤ 2000) : zyo (Lex.zbd l) (zam l) := by
 obtain ⟨q, _, _, h3⟩ := zdl (Lex.zbd l) (Nat.le_trans (Lex.zdc _ l (Nat.le_refl _)) h) (zdx _ l (Nat.le_refl _))
 exact h3
theorem zrp {s : ByteArray} (hs : s.size ≤ 2000) (w : World) (h : Spc w) :
  Calls Tryz.prog 57 #[.string s] w fun e w' => ∃ v F, e = .returned (.tuple #[.agg #[.int .i64 1, .string ⟨#[]⟩, v], .int .i64 0]) ∧ TR w' w.heap.size 128 (zam s.data.toList) v F ∧ F.Nodup ∧ Below w.heap.size w w' := by
 have hl : s.data.toList.length ≤ 2000 := by simpa using hs
 obtain ⟨q, h1, h2, _⟩ := zdl (Lex.zbd s.data.toList) (Nat.le_trans (Lex.zdc _ _ (Nat.le_refl _)) hl) (zdx _ _ (Nat.le_refl _))
 have := zpa hs w h (k := 250000) (by decide) h1
 unfold zam
 rw [h2]
 exact this
end Go.Proofs.YtmoelofaojgjfaaGreatDoor.Par
namespace Go.Proofs.YtmoelofaojgjfaaGreatDoor.Par
open Go.RowKit Go.Proofs.YtmoelofaojgjfaaGreatDoorW.PrintWords Go.Proofs.YtmoelofaojgjfaaGreatDoorW.PrintLast
abbrev Nd := PA.S63
abbrev Dg := PA.S109
structure BSt where
 off : Nat
 ds : List Dg
def zbr (code a b : Int) (s : BSt) : BSt := ⟨s.off, s.ds ++ [⟨code, 0, a, b, zj⟩]⟩
def zay (n : Nd) (a b : Int) : Nd := ⟨n.f0, n.f1, n.f2, if n.f4 < 0 then a else n.f3, b, n.f5, n.f6⟩
def zg2 : List Int := [2, 3, 4, 5, 6, 8, 9, 11, 13, 14, 15, 16, 18, 31, 32, 34, 44]
def zg6 (k : Int) : Bool := zg2.contains k
def zcc (n : Nd) (text : ByteArray) (start : Nat) (s : BSt) : Nd × BSt :=
 (if zg6 n.f0 = true ∧ n.f5 < 0 then ⟨n.f0, n.f1, text, n.f3, n.f4, (start : Int), n.f6⟩ else n, if 30 < text.size then zbr 5 start s.off s else s)
def intP (text : ByteArray) (start : Nat) (s : BSt) : Int × BSt := match Lib.atoiAll text.data.toList with
 | .ok v => if 2147483647 < v then (2147483647, zbr 4 start s.off s) else (v, s)
 | _ => (2147483647, zbr 4 start s.off s)
def unqP (l : List UInt8) (start : Nat) : Nat → Nat → List UInt8 → BSt → List UInt8 × BSt
 | 0, _, acc, s => (acc, s)
 | f + 1, i, acc, s => if i + 1 < l.length then
   (if (l.getD i 0).toNat = 92 then
    unqP l start f (i + 2) (acc ++ [if (l.getD (i + 1) 0).toNat = 110 then 10 else l.getD (i + 1) 0])
     (if (l.getD (i + 1) 0).toNat = 110 ∨ (l.getD (i + 1) 0).toNat = 34 ∨ (l.getD (i + 1) 0).toNat = 92 then s else zbr 6 ((start : Int) + i) ((start : Int) + i + 2) s)
   else unqP l start f (i + 1) (acc ++ [l.getD i 0]) s)
  else (acc, s)
def zca (text : ByteArray) (start : Nat) (s : BSt) : ByteArray × BSt := ((⟨(unqP text.data.toList start text.size 1 [] s).1.toArray⟩ : ByteArray), (unqP text.data.toList start text.size 1 [] s).2)
def za2 (n : Nd) (text : ByteArray) : Nd :=
 if text = (⟨#[112, 117, 98]⟩ : ByteArray) then ⟨n.f0, Go.bits .or .i64 n.f1 1, n.f2, n.f3, n.f4, n.f5, n.f6⟩
 else if text = (⟨#[109, 117, 116]⟩ : ByteArray) then ⟨n.f0, Go.bits .or .i64 n.f1 1, n.f2, n.f3, n.f4, n.f5, n.f6⟩
 else if text = (⟨#[42]⟩ : ByteArray) ∧ n.f0 = 2 then ⟨n.f0, Go.bits .or .i64 n.f1 2, n.f2, n.f3, n.f4, n.f5, n.f6⟩
 else if text = (⟨#[116, 114, 117, 101]⟩ : ByteArray) ∧ n.f0 = 28 then ⟨n.f0, 1, n.f2, n.f3, n.f4, n.f5, n.f6⟩
 else if (n.f0 = 39 ∨ n.f0 = 40) ∧ n.f2 = zj then ⟨n.f0, n.f1, text, n.f3, n.f4, n.f5, n.f6⟩
 else n
def za6 (n : Nd) (k : Int) (text : ByteArray) (s0 : BSt) : Nd × BSt :=
 if k = 101 ∨ k = 102 then (n, ⟨s0.off + text.size, s0.ds⟩)
 else if k = 108 then (if text = zj then (n, zbr 1 s0.off s0.off ⟨s0.off + text.size, s0.ds⟩)
  else (zay n s0.off (s0.off + text.size : Nat), zbr 3 s0.off (s0.off + text.size : Nat) ⟨s0.off + text.size, s0.ds⟩))
 else if k = 103 then (zay (zcc n text s0.off ⟨s0.off + text.size, s0.ds⟩).1 s0.off (s0.off + text.size : Nat), (zcc n text s0.off ⟨s0.off + text.size, s0.ds⟩).2)
 else if k = 105 then (zay ⟨n.f0, (intP text s0.off ⟨s0.off + text.size, s0.ds⟩).1, n.f2, n.f3, n.f4, n.f5, n.f6⟩ s0.off (s0.off + text.size : Nat), (intP text s0.off ⟨s0.off + text.size, s0.ds⟩).2)
 else if k = 106 then (zay ⟨n.f0, n.f1, (zca text s0.off ⟨s0.off + text.size, s0.ds⟩).1, n.f3, n.f4, n.f5, n.f6⟩ s0.off (s0.off + text.size : Nat), (zca text s0.off ⟨s0.off + text.size, s0.ds⟩).2)
 else (zay (za2 n text) s0.off (s0.off + text.size : Nat), ⟨s0.off + text.size, s0.ds⟩)
def zbe (src : ByteArray) (n : Nd) (s : BSt) : Nd × BSt :=
 if n.f0 = 60 then (match n.f6 with
  | c :: _ => (⟨c.f0, c.f1, c.f2, n.f3, n.f4, c.f5, c.f6⟩, s)
  | [] => (n, s))
 else if n.f0 = 46 then (⟨46, 0, src.extract n.f3.toNat n.f4.toNat, n.f3, n.f4, -1, []⟩, zbr (if n.f3 = n.f4 then 1 else 2) n.f3 n.f4 s)
 else (n, s)
def endP (n : Nd) : Nd := ⟨n.f0, n.f1, n.f2, n.f3, max n.f4 n.f3, n.f5, n.f6⟩
def zdh (n c : Nd) : Nd := ⟨n.f0, n.f1, n.f2, (zay n c.f3 c.f4).f3, (zay n c.f3 c.f4).f4, n.f5, n.f6 ++ [c]⟩
mutual
def zbg (src : ByteArray) : Tree → BSt → Nd × BSt
 | .mk k _ ks, s => zbe src (endP (zbf src ks ⟨k, 0, zj, s.off, -1, -1, []⟩ s).1) (zbf src ks ⟨k, 0, zj, s.off, -1, -1, []⟩ s).2
def zbf (src : ByteArray) : List Tree → Nd → BSt → Nd × BSt
 | [], n, s => (n, s)
 | t :: ts, n, s =>
  if 100 ≤ t.kind then zbf src ts (za6 n t.kind t.text s).1 (za6 n t.kind t.text s).2
  else zbf src ts (zdh n (zbg src t s).1) (zbg src t s).2
end
def zbo (ds : List Dg) : List Value := ds.flatMap fun d => [.int .i64 d.f0, .int .i64 d.f1, .int .i64 d.f2, .int .i64 d.f3, .string d.f4]
theorem zez (ds : List Dg) : (zbo ds).length = ds.length * 5 := by
 induction ds with
 | nil => rfl
 | cons t T ih => simp [zbo] at ih ⊢; omega
theorem zgf (a b : List Dg) : zbo (a ++ b) = zbo a ++ zbo b := by simp [zbo]
def Ty (W : World) (t : TypeId) (g : Nat) : Prop := ∃ c fr, W.heap[g]? = some (.cells c t fr)
theorem Ty.of {W : World} {t : TypeId} {g : Nat} {c : Array Value} {fr : Nat × Nat} (h : W.heap[g]? = some (.cells c t fr)) : Ty W t g := ⟨c, fr, h⟩
theorem Ty.ne {W : World} {t t' : TypeId} {g : Nat} {c : Array Value} {fr : Nat × Nat} (h : W.heap[g]? = some (.cells c t fr)) (hne : t ≠ t') : ¬ Ty W t' g := by
 rintro ⟨c', fr', h'⟩
 rw [h] at h'
 injection h' with h'
 injection h' with _ h2
 exact hne h2
structure Glb (N0 : Nat) (W : World) : Prop where
 rng : ∃ te pe, W.cell? ⟨4, 0, none⟩ = some (.iface te pe)
 syn : ∃ te pe, W.cell? ⟨3, 0, none⟩ = some (.iface te pe)
 lo : 4 < N0 ∧ 3 < N0
theorem Glb.keep {N0 : Nat} {W W' : World} (h : Glb N0 W) (hb : ∀ g, g < N0 → g < W.heap.size → W'.heap[g]? = W.heap[g]?) : Glb N0 W' := by
 obtain ⟨te, pe, h1⟩ := h.rng
 obtain ⟨te2, pe2, h2⟩ := h.syn
 exact ⟨⟨te, pe, (World.cell?_of_block (hb _ h.lo.1 (World.block_lt_of_cell? W _ h1))).trans h1⟩, ⟨te2, pe2, (World.cell?_of_block (hb _ h.lo.2 (World.block_lt_of_cell? W _ h2))).trans h2⟩, h.lo⟩
structure BS (N0 bb : Nat) (src : ByteArray) (W : World) (s : BSt) : Prop where
 obj : ∃ dv, W.heap[bb]? = some (.cells #[.string src, .int .i64 (s.off : Int), dv] 133 (0, 0)) ∧ W.ownsRow N0 109 5 dv s.ds.length (zbo s.ds)
 ge : N0 ≤ bb
 glb : Glb N0 W
structure BFr (N0 bb : Nat) (G : Nat → Prop) (W W' : World) : Prop where
 os : W'.os = W.os
 tape : W'.tape = W.tape
 output : W'.output = W.output
 size : W.heap.size ≤ W'.heap.size
 kept : ∀ g, g < W.heap.size → g ≠ bb → ¬ G g → (g < N0 ∨ ¬ Ty W 109 g) → W'.heap[g]? = W.heap[g]?
theorem BFr.of_below {N0 bb : Nat} {G : Nat → Prop} {W W' : World} (h : Below W.heap.size W W') : BFr N0 bb G W W' := ⟨h.os, h.tape, h.output, h.size, fun g hg _ _ _ => h.block g hg⟩
theorem BFr.refl (N0 bb : Nat) (G : Nat → Prop) (W : World) : BFr N0 bb G W W := .of_below (Below.refl _ _)
theorem BFr.trans {N0 bb : Nat} {G : Nat → Prop} {W W1 W2 : World} (h : BFr N0 bb G W W1) (k : BFr N0 bb G W1 W2) : BFr N0 bb G W W2 := by
 refine ⟨k.os.trans h.os, k.tape.trans h.tape, k.output.trans h.output, Nat.le_trans h.size k.size, fun g h1 h2 h3 h4 => ?_⟩
 have e := h.kept g h1 h2 h3 h4
 rw [k.kept g (Nat.lt_of_lt_of_le h1 h.size) h2 h3 ?_, e]
 rcases h4 with h4 | h4
 ·exact .inl h4
 ·refine .inr (fun hh => h4 ?_)
  obtain ⟨c, fr, hc⟩ := hh
  exact ⟨c, fr, e.symm.trans hc⟩
theorem BFr.mono {N0 bb : Nat} {G G' : Nat → Prop} {W W' : World} (h : BFr N0 bb G W W') (hg : ∀ g, g < W.heap.size → G g → G' g) : BFr N0 bb G' W W' := ⟨h.os, h.tape, h.output, h.size, fun g h1 h2 h3 h4 => h.kept g h1 h2 (fun hh => h3 (hg g h1 hh)) h4⟩
theorem BFr.below {N0 bb : Nat} {G : Nat → Prop} {W W' : World} (h : BFr N0 bb G W W') {B : Nat} (hB : B ≤ N0) (hb : N0 ≤ bb) (hG : ∀ g, G g → N0 ≤ g) (hs : B ≤ W.heap.size) : Below B W W' :=
 ⟨h.os, h.tape, h.output, h.size, fun g hg => h.kept g (by omega) (by omega) (fun hh => by have := hG g hh; omega) (.inl (by omega))⟩
theorem BFr.blk {N0 bb : Nat} {G : Nat → Prop} {W W' : World} (h : BFr N0 bb G W W') {g : Nat} {c : Array Value} {t : TypeId} {fr : Nat × Nat} (hg : W.heap[g]? = some (.cells c t fr)) (hne : g ≠ bb) (hG : ¬ G g) (ht : t ≠ 109) : W'.heap[g]? = some (.cells c t fr) :=
 (h.kept g (za8 hg) hne hG (.inr (Ty.ne hg ht))).trans hg
theorem BS.below {N0 bb : Nat} {src : ByteArray} {W W' : World} {s : BSt} (h : BS N0 bb src W s) (hb : Below W.heap.size W W') : BS N0 bb src W' s := by
 obtain ⟨dv, h1, h2⟩ := h.obj
 exact ⟨⟨dv, (hb.block _ (za8 h1)).trans h1, za7 h2 (fun g hg => hb.block g (zax h2 g hg).2.1)⟩, h.ge, h.glb.keep (fun g _ hg => hb.block g hg)⟩
theorem BS.far {N0 bb : Nat} {src : ByteArray} {W : World} {s : BSt} (h : BS N0 bb src W s) {g : Nat} {c : Array Value} {t : TypeId} {fr : Nat × Nat} (hg : W.heap[g]? = some (.cells c t fr)) (h1 : t ≠ 109) (h2 : g ≠ bb) (h3 : N0 ≤ g) (i : Nat) (v : Value) : BS N0 bb src (W.setCell ⟨g, i, none⟩ v) s := by
 obtain ⟨dv, k1, k2⟩ := h.obj
 refine ⟨⟨dv, (Below.heap_setCell W ⟨g, i, none⟩ v bb (fun e => h2 e.symm)).trans k1, za7 k2 (fun b hb => Below.heap_setCell W ⟨g, i, none⟩ v b ?_)⟩, h.ge, h.glb.keep (fun b hb _ => Below.heap_setCell W ⟨g, i, none⟩ v b (fun e => by have e2 : b = g := e; omega))⟩
 rintro rfl
 obtain ⟨_, _, cur, hc⟩ := zax k2 _ hb
 exact Ty.ne hg h1 ⟨_, _, hc⟩
theorem BFr.far {N0 bb : Nat} {G : Nat → Prop} {W W' : World} (h : BFr N0 bb G W W') {g : Nat} (hg : G g ∨ W.heap.size ≤ g) (i : Nat) (v : Value) : BFr N0 bb G W (W'.setCell ⟨g, i, none⟩ v) := by
 refine ⟨h.os, h.tape, h.output, by simpa [World.setCell] using h.size, fun b h1 h2 h3 h4 => ?_⟩
 rw [Below.heap_setCell W' ⟨g, i, none⟩ v b (fun e => by
  subst e
  rcases hg with hg | hg
  ·exact h3 hg
  ·have : b < W.heap.size := h1
   omega)]
 exact h.kept b h1 h2 h3 h4
theorem BS.cells {N0 bb : Nat} {src : ByteArray} {W : World} {s : BSt} (h : BS N0 bb src W s) : W.cell? ⟨bb, 0, none⟩ = some (.string src) ∧ W.cell? ⟨bb, 1, none⟩ = some (.int .i64 (s.off : Int)) ∧ W.frozen? ⟨bb, 1, none⟩ = false ∧ W.frozen? ⟨bb, 2, none⟩ = false := by
 obtain ⟨dv, h1, h2⟩ := h.obj
 exact ⟨(zf h1 0).trans rfl, (zf h1 1).trans rfl, zl h1 1, zl h1 2⟩
theorem z0y : (Tryz.prog.info? 109).map (fun i => (i.zero, i.size, i.bytes)) = some (some (.agg #[.int .i64 0, .int .i64 0, .int .i64 0, .int .i64 0, .string ⟨#[]⟩]), 5, 48) := by kernel_rfl
abbrev NoG : Nat → Prop := fun _ => False
theorem BS.grown {N0 bb : Nat} {src : ByteArray} {W W1 : World} {s : BSt} {dv v1 : Value} {d : Dg} (h : BS N0 bb src W s) (h1 : W.heap[bb]? = some (.cells #[.string src, .int .i64 (s.off : Int), dv] 133 (0, 0))) (h2 : W.ownsRow N0 109 5 dv s.ds.length (zbo s.ds))
  (hv : W1.ownsRow N0 109 5 v1 (s.ds.length + 1) (zbo s.ds ++ zbo [d])) (hg : W.grownBy W1 dv.ownBlock) :
  BS N0 bb src (W1.setCell ⟨bb, 2, none⟩ v1) ⟨s.off, s.ds ++ [d]⟩ ∧ BFr N0 bb NoG W (W1.setCell ⟨bb, 2, none⟩ v1) := by
 have hne : ∀ k, dv.ownBlock = some k → N0 ≤ k ∧ Ty W 109 k := fun k hk => by
  obtain ⟨b1, b2, cur, b3⟩ := zax h2 k (zas.2 hk)
  exact ⟨b1, _, _, b3⟩
 have hbb : some bb ≠ dv.ownBlock := fun e => Ty.ne h1 (by decide) (hne bb e.symm).2
 have hb1 := zog h1 hg hbb
 refine ⟨⟨⟨v1, ?_, ?_⟩, h.ge, h.glb.keep (fun b hb1 hb2 => ?_)⟩, hg.os, hg.tape, hg.output, by simpa [World.setCell] using hg.size, fun g g1 g2 g3 g4 => ?_⟩
 ·simpa using zbw hb1 2 v1
 ·rw [List.length_append, List.length_singleton, zgf]
  refine za7 hv (fun g hg => Below.heap_setCell W1 ⟨bb, 2, none⟩ v1 g ?_)
  rintro rfl
  obtain ⟨_, _, cur, hc⟩ := zax hv _ hg
  exact Ty.ne hb1 (by decide) ⟨_, _, hc⟩
 ·rw [Below.heap_setCell W1 ⟨bb, 2, none⟩ v1 b (fun e => by have e2 : b = bb := e; have := h.ge; omega)]
  refine hg.block b hb2 (fun e => ?_)
  have := (hne b e.symm).1
  omega
 ·rw [Below.heap_setCell W1 ⟨bb, 2, none⟩ v1 g g2]
  refine hg.block g g1 (fun e => ?_)
  obtain ⟨k1, k2⟩ := hne g e.symm
  rcases g4 with g4 | g4
  ·omega
  ·exact g4 k2
theorem zcj {N0 bb : Nat} {src : ByteArray} {W : World} {s : BSt} (code a b : Int) (h : BS N0 bb src W s) (hN : N0 ≤ W.heap.size) (hl : s.ds.length ≤ 100000000) :
  Calls Tryz.prog 153 #[.pointer (some ⟨bb, 0, none⟩), .int .i64 code, .int .i64 a, .int .i64 b] W fun e W' => e = .returned (.tuple #[]) ∧ BS N0 bb src W' (zbr code a b s) ∧ BFr N0 bb NoG W W' := by
 obtain ⟨dv, h1, h2⟩ := h.obj
 obtain ⟨dA, dc, rfl⟩ := Par.za3 h2
 have H := ak (And.intro h (And.intro h1 h2))
 have o2 : W.cell? ⟨bb, 2, none⟩ = some (.slice dA s.ds.length dc) := (zf h1 2).trans rfl
 have f2 : W.frozen? ⟨bb, 2, none⟩ = false := zl h1 2
 have hbb := za8 h1
 have HNE := ak (show some bb ≠ (Value.slice dA s.ds.length dc).ownBlock from fun e => by
  obtain ⟨_, _, cur, hc⟩ := zax h2 bb (zas.2 e.symm)
  exact Ty.ne h1 (by decide) ⟨_, _, hc⟩)
 clear h h1 h2
 go_enter Tryz.func153, Tryz.ntmps153
 obtain ⟨iT, hiT, hzT⟩ := Option.map_eq_some_iff.1 z0y
 simp only [Prod.mk.injEq] at hzT
 have hOW := ak (Par.za7 (W' := W.alloc (Obj.cells #[Value.int IntKind.i64 code, Value.int IntKind.i64 0, Value.int IntKind.i64 a, Value.int IntKind.i64 b, Value.string { data := #[] }] 109)) H.out.2.2 (fun g hg => (zh (Below.refl W.heap.size W) _).block g (Par.zax H.out.2.2 g hg).2.1))
 have hNW := ak (World.news_of_block (zaj W (Obj.cells #[Value.int IntKind.i64 code, Value.int IntKind.i64 0, Value.int IntKind.i64 a, Value.int IntKind.i64 b, Value.string { data := #[] }] 109)))
 go_wp2_with ((at_builtin; refine wpList_append_own_at _ rfl (.tmp 12) (.tmp 17) 64 rfl N0 109 iT (.agg #[.int .i64 0, .int .i64 0, .int .i64 0, .int .i64 0, .string ⟨#[]⟩]) 5 48 Tryz.underlying64 hiT hzT.1 hzT.2.1 hzT.2.2 rfl (by decide) _ s.ds.length (zbo s.ds) rfl hOW.out _ 1 1 [.int .i64 code, .int .i64 0, .int .i64 a, .int .i64 b, .string ⟨#[]⟩] rfl rfl hNW.out (by intro u hu; simp only [List.mem_cons, List.not_mem_nil, or_false] at hu; rcases hu with rfl | rfl | rfl | rfl | rfl <;> rfl) (by simp only [maxLen]; omega) (by omega) (by simp only [World.size_alloc]; omega) ?_; intro v2 w2 hown2 hgr2 hnil2 hat2; obtain ⟨vA2, vc2, rfl⟩ := Par.za3 hown2; have rb := zog (za5 H.out.2.1 _) hgr2 HNE.out; have r2 : w2.cell? ⟨bb, 2, none⟩ = some (.slice dA s.ds.length dc) := (zf rb 2).trans rfl; have rf : w2.frozen? ⟨bb, 2, none⟩ = false := zl rb 2; have HW2 := ak (And.intro hown2 hgr2); clear hown2 hgr2 hnil2 hat2 rb))
 go_end0
 have hb0 : Below W.heap.size W (W.alloc (Obj.cells #[Value.int IntKind.i64 code, Value.int IntKind.i64 0, Value.int IntKind.i64 a, Value.int IntKind.i64 b, Value.string { data := #[] }] 109)) := zh (Below.refl _ _) _
 have h0 := H.out.1.below hb0
 obtain ⟨g1, g2⟩ := BS.grown (d := ⟨code, 0, a, b, zj⟩) h0 (za5 H.out.2.1 _) hOW.out HW2.out.1 HW2.out.2
 exact ⟨rfl, g1, (BFr.of_below hb0).trans g2⟩
abbrev NB (W : World) (g : Nat) (n : Nd) (hd : Value) : Prop := W.heap[g]? = some (.cells #[.int .i64 n.f0, .int .i64 n.f1, .string n.f2, .int .i64 n.f3, .int .i64 n.f4, .int .i64 n.f5, hd] 63 (0, 0))
structure Only (g : Nat) (W W' : World) : Prop where
 os : W'.os = W.os
 tape : W'.tape = W.tape
 output : W'.output = W.output
 size : W.heap.size ≤ W'.heap.size
 kept : ∀ k, k < W.heap.size → k ≠ g → W'.heap[k]? = W.heap[k]?
theorem Only.refl (g : Nat) (W : World) : Only g W W := ⟨rfl, rfl, rfl, Nat.le_refl _, fun _ _ _ => rfl⟩
theorem Only.trans {g : Nat} {W W1 W2 : World} (h : Only g W W1) (k : Only g W1 W2) : Only g W W2 := ⟨k.os.trans h.os, k.tape.trans h.tape, k.output.trans h.output, Nat.le_trans h.size k.size, fun b h1 h2 => (k.kept b (Nat.lt_of_lt_of_le h1 h.size) h2).trans (h.kept b h1 h2)⟩
theorem Only.set {g : Nat} {W W1 : World} (h : Only g W W1) (i : Nat) (v : Value) : Only g W (W1.setCell ⟨g, i, none⟩ v) := ⟨h.os, h.tape, h.output, by simpa [World.setCell] using h.size, fun b h1 h2 => (Below.heap_setCell W1 ⟨g, i, none⟩ v b h2).trans (h.kept b h1 h2)⟩
theorem Only.below {g : Nat} {W W1 : World} (h : Below W.heap.size W W1) : Only g W W1 := ⟨h.os, h.tape, h.output, h.size, fun b h1 _ => h.block b h1⟩
theorem Only.bfr {g : Nat} {W W' : World} (h : Only g W W') (N0 bb : Nat) : BFr N0 bb (fun k => k = g) W W' := ⟨h.os, h.tape, h.output, h.size, fun k h1 _ h3 _ => h.kept k h1 h3⟩
theorem BS.only {N0 bb g : Nat} {src : ByteArray} {W W' : World} {s : BSt} (h : BS N0 bb src W s) (o : Only g W W') (hge : N0 ≤ g) (hb : g ≠ bb) (ht : ¬ Ty W 109 g) : BS N0 bb src W' s := by
 obtain ⟨dv, h1, h2⟩ := h.obj
 refine ⟨⟨dv, (o.kept bb (za8 h1) (fun e => hb e.symm)).trans h1, za7 h2 (fun k hk => ?_)⟩, h.ge, h.glb.keep (fun b b1 b2 => o.kept b b2 (by omega))⟩
 obtain ⟨_, k2, cur, k3⟩ := zax h2 k hk
 refine o.kept k k2 ?_
 rintro rfl
 exact ht ⟨_, _, k3⟩
theorem zfr {a : ByteArray} (l : List UInt8) (h : a ≠ ⟨l.toArray⟩) : (a.toList == l) = false := by
 rw [beq_eq_false_iff_ne]
 intro e
 rw [Go.ByteArray.toList_eq] at e
 exact h (ByteArray.ext (Array.ext' (by simpa using e)))
theorem zdg {g : Nat} {W : World} {n : Nd} {hd : Value} (a b : Int) (h : NB W g n hd) :
  Calls Tryz.prog 100 #[.pointer (some ⟨g, 0, none⟩), .int .i64 a, .int .i64 b] W fun e W' => e = .returned (.tuple #[]) ∧ NB W' g (zay n a b) hd ∧ Only g W W' := by
 obtain ⟨k, v, tx, s, e, ns, ch⟩ := n
 have c4 : W.cell? ⟨g, 4, none⟩ = some (.int .i64 e) := (zf h 4).trans rfl
 have c3 : W.cell? ⟨g, 3, none⟩ = some (.int .i64 s) := (zf h 3).trans rfl
 have f3 := zl h 3
 have f4 := zl h 4
 have H := ak h
 clear h
 by_cases he : e < 0
 ·have hd1 : decide (e < 0) = true := decide_eq_true he
  have HE := ak he
  clear he
  go_enter Tryz.func100, Tryz.ntmps100
  go_wp2_with fail
  go_end0
  refine ⟨rfl, ?_, ((Only.refl _ _).set _ _).set _ _⟩
  have h := zbw (zbw H.out 3 (.int .i64 a)) 4 (.int .i64 b)
  simpa [NB, zay, HE.out] using h
 ·have hd1 : decide (e < 0) = false := decide_eq_false he
  have HE := ak he
  clear he
  go_enter Tryz.func100, Tryz.ntmps100
  go_wp2_with fail
  go_end0
  refine ⟨rfl, ?_, (Only.refl _ _).set _ _⟩
  have h := zbw H.out 4 (.int .i64 b)
  simpa [NB, zay, show ¬ e < 0 by have := HE.out; omega] using h
theorem zdu {a b : Int} (h : a ≠ b) : (a == b) = false := beq_eq_false_iff_ne.mpr h
theorem zle {g : Nat} {W : World} {n : Nd} {hd : Value} (text : ByteArray) (h : NB W g n hd) :
  Calls Tryz.prog 157 #[.pointer (some ⟨g, 0, none⟩), .string text] W fun e W' => e = .returned (.tuple #[]) ∧ NB W' g (za2 n text) hd ∧ Only g W W' := by
 obtain ⟨k, v, tx, s, e, ns, ch⟩ := n
 have c0 : W.cell? ⟨g, 0, none⟩ = some (.int .i64 k) := (zf h 0).trans rfl
 have c1 : W.cell? ⟨g, 1, none⟩ = some (.int .i64 v) := (zf h 1).trans rfl
 have c2 : W.cell? ⟨g, 2, none⟩ = some (.string tx) := (zf h 2).trans rfl
 have f1 := zl h 1
 have f2 := zl h 2
 have H := ak h
 clear h
 by_cases t1 : text = (⟨#[112, 117, 98]⟩ : ByteArray)
 ·subst t1
  go_enter Tryz.func157, Tryz.ntmps157
  go_wp2_with fail
  go_end0
  refine ⟨rfl, ?_, (Only.refl _ _).set _ _⟩
  have h := zbw H.out 1 (.int .i64 (Go.bits .or .i64 v 1))
  simpa [NB, za2] using h
 by_cases t2 : text = (⟨#[109, 117, 116]⟩ : ByteArray)
 ·subst t2
  go_enter Tryz.func157, Tryz.ntmps157
  go_wp2_with fail
  go_end0
  refine ⟨rfl, ?_, (Only.refl _ _).set _ _⟩
  have h := zbw H.out 1 (.int .i64 (Go.bits .or .i64 v 1))
  simpa [NB, za2] using h
 have b1 := zfr [112, 117, 98] t1
 have b2 := zfr [109, 117, 116] t2
 have T1 := ak t1
 have T2 := ak t2
 clear t1 t2
 by_cases t3 : text = (⟨#[42]⟩ : ByteArray)
 ·subst t3
  by_cases k2 : k = 2
  ·subst k2
   go_enter Tryz.func157, Tryz.ntmps157
   go_wp2_with fail
   go_end0
   refine ⟨rfl, ?_, (Only.refl _ _).set _ _⟩
   have h := zbw H.out 1 (.int .i64 (Go.bits .or .i64 v 2))
   simpa [NB, za2, zj] using h
  have m2 := zdu k2
  have K2 := ak k2
  clear k2
  by_cases k39 : k = 39
  ·subst k39
   by_cases e0 : tx = zj
   ·subst e0
    have e1 : zj.toList = [] := by decide +kernel
    go_enter Tryz.func157, Tryz.ntmps157
    go_wp2_with fail
    go_end0
    refine ⟨rfl, ?_, (Only.refl _ _).set _ _⟩
    have h := zbw H.out 2 (.string (⟨#[42]⟩ : ByteArray))
    simpa [NB, za2, K2.out] using h
   ·have e1 := zfr [] e0
    have E0 := ak e0
    clear e0
    go_enter Tryz.func157, Tryz.ntmps157
    go_wp2_with fail
    go_end0
    refine ⟨rfl, ?_, by repeat (first | exact Only.refl _ _ | apply Only.set)⟩
    have h := H.out
    simpa [NB, za2, K2.out, E0.out] using h
  by_cases k40 : k = 40
  ·subst k40
   by_cases e0 : tx = zj
   ·subst e0
    have e1 : zj.toList = [] := by decide +kernel
    go_enter Tryz.func157, Tryz.ntmps157
    go_wp2_with fail
    go_end0
    refine ⟨rfl, ?_, (Only.refl _ _).set _ _⟩
    have h := zbw H.out 2 (.string (⟨#[42]⟩ : ByteArray))
    simpa [NB, za2, K2.out] using h
   ·have e1 := zfr [] e0
    have E0 := ak e0
    clear e0
    go_enter Tryz.func157, Tryz.ntmps157
    go_wp2_with fail
    go_end0
    refine ⟨rfl, ?_, by repeat (first | exact Only.refl _ _ | apply Only.set)⟩
    have h := H.out
    simpa [NB, za2, K2.out, E0.out] using h
  have m39 := zdu k39
  have m40 := zdu k40
  have K39 := ak k39
  have K40 := ak k40
  clear k39 k40
  go_enter Tryz.func157, Tryz.ntmps157
  go_wp2_with fail
  go_end0
  refine ⟨rfl, ?_, by repeat (first | exact Only.refl _ _ | apply Only.set)⟩
  have h := H.out
  simpa [NB, za2, K2.out, K39.out, K40.out] using h
 have b3 := zfr [42] t3
 have T3 := ak t3
 clear t3
 by_cases t4 : text = (⟨#[116, 114, 117, 101]⟩ : ByteArray)
 ·subst t4
  by_cases k2 : k = 28
  ·subst k2
   go_enter Tryz.func157, Tryz.ntmps157
   go_wp2_with fail
   go_end0
   refine ⟨rfl, ?_, (Only.refl _ _).set _ _⟩
   have h := zbw H.out 1 (.int .i64 1)
   simpa [NB, za2, zj] using h
  have m2 := zdu k2
  have K2 := ak k2
  clear k2
  by_cases k39 : k = 39
  ·subst k39
   by_cases e0 : tx = zj
   ·subst e0
    have e1 : zj.toList = [] := by decide +kernel
    go_enter Tryz.func157, Tryz.ntmps157
    go_wp2_with fail
    go_end0
    refine ⟨rfl, ?_, (Only.refl _ _).set _ _⟩
    have h := zbw H.out 2 (.string (⟨#[116, 114, 117, 101]⟩ : ByteArray))
    simpa [NB, za2, K2.out] using h
   ·have e1 := zfr [] e0
    have E0 := ak e0
    clear e0
    go_enter Tryz.func157, Tryz.ntmps157
    go_wp2_with fail
    go_end0
    refine ⟨rfl, ?_, by repeat (first | exact Only.refl _ _ | apply Only.set)⟩
    have h := H.out
    simpa [NB, za2, K2.out, E0.out] using h
  by_cases k40 : k = 40
  ·subst k40
   by_cases e0 : tx = zj
   ·subst e0
    have e1 : zj.toList = [] := by decide +kernel
    go_enter Tryz.func157, Tryz.ntmps157
    go_wp2_with fail
    go_end0
    refine ⟨rfl, ?_, (Only.refl _ _).set _ _⟩
    have h := zbw H.out 2 (.string (⟨#[116, 114, 117, 101]⟩ : ByteArray))
    simpa [NB, za2, K2.out] using h
   ·have e1 := zfr [] e0
    have E0 := ak e0
    clear e0
    go_enter Tryz.func157, Tryz.ntmps157
    go_wp2_with fail
    go_end0
    refine ⟨rfl, ?_, by repeat (first | exact Only.refl _ _ | apply Only.set)⟩
    have h := H.out
    simpa [NB, za2, K2.out, E0.out] using h
  have m39 := zdu k39
  have m40 := zdu k40
  have K39 := ak k39
  have K40 := ak k40
  clear k39 k40
  go_enter Tryz.func157, Tryz.ntmps157
  go_wp2_with fail
  go_end0
  refine ⟨rfl, ?_, by repeat (first | exact Only.refl _ _ | apply Only.set)⟩
  have h := H.out
  simpa [NB, za2, K2.out, K39.out, K40.out] using h
 have b4 := zfr [116, 114, 117, 101] t4
 have T4 := ak t4
 clear t4
 by_cases k39 : k = 39
 ·subst k39
  by_cases e0 : tx = zj
  ·subst e0
   have e1 : zj.toList = [] := by decide +kernel
   go_enter Tryz.func157, Tryz.ntmps157
   go_wp2_with fail
   go_end0
   refine ⟨rfl, ?_, (Only.refl _ _).set _ _⟩
   have h := zbw H.out 2 (.string text)
   simpa [NB, za2, T1.out, T2.out, T3.out, T4.out] using h
  ·have e1 := zfr [] e0
   have E0 := ak e0
   clear e0
   go_enter Tryz.func157, Tryz.ntmps157
   go_wp2_with fail
   go_end0
   refine ⟨rfl, ?_, by repeat (first | exact Only.refl _ _ | apply Only.set)⟩
   have h := H.out
   simpa [NB, za2, T1.out, T2.out, T3.out, T4.out, E0.out] using h
 by_cases k40 : k = 40
 ·subst k40
  by_cases e0 : tx = zj
  ·subst e0
   have e1 : zj.toList = [] := by decide +kernel
   go_enter Tryz.func157, Tryz.ntmps157
   go_wp2_with fail
   go_end0
   refine ⟨rfl, ?_, (Only.refl _ _).set _ _⟩
   have h := zbw H.out 2 (.string text)
   simpa [NB, za2, T1.out, T2.out, T3.out, T4.out] using h
  ·have e1 := zfr [] e0
   have E0 := ak e0
   clear e0
   go_enter Tryz.func157, Tryz.ntmps157
   go_wp2_with fail
   go_end0
   refine ⟨rfl, ?_, by repeat (first | exact Only.refl _ _ | apply Only.set)⟩
   have h := H.out
   simpa [NB, za2, T1.out, T2.out, T3.out, T4.out, E0.out] using h
 have m39 := zdu k39
 have m40 := zdu k40
 have K39 := ak k39
 have K40 := ak k40
 clear k39 k40
 go_enter Tryz.func157, Tryz.ntmps157
 go_wp2_with fail
 go_end0
 refine ⟨rfl, ?_, by repeat (first | exact Only.refl _ _ | apply Only.set)⟩
 have h := H.out
 simpa [NB, za2, T1.out, T2.out, T3.out, T4.out, K39.out, K40.out] using h
theorem zzk {W : World} {g : Nat} {t : TypeId} {fr : Nat × Nat} (l : List Int) (h : W.heap[g]? = some (.cells (l.map (fun z => Value.int .i64 z)).toArray t (0, 0))) : ∀ j, j < l.length → W.cell? ⟨g, 0 + j, none⟩ = some (.int .i64 (l.getD j 0)) := by
 intro j hj
 rw [Nat.zero_add, zf h j]
 simp [List.getElem?_eq_getElem hj, List.getD_eq_getElem?_getD]
theorem zg5 (k : Int) (W : World) : Calls Tryz.prog 233 #[.int .i64 k] W fun e W' => e = .returned (.bool (zg6 k)) ∧ Below W.heap.size W W' := by
 go_enter Tryz.func233, Tryz.ntmps233
 go_wp2_with fail
 refine (Tryz.slices_Contains_int _ 0 17 17 zg2 k _ (by decide) (by decide) (zzk (fr := (0, 0)) zg2 (zaj W _))).mono ?_
 rintro e W1 ⟨rfl, rfl⟩
 rw [show (zg2.take 17).contains k = zg6 k from rfl]
 go_wp2_with fail
 go_ret
 exact ⟨rfl, zh (Below.refl _ _) _⟩
structure zyl (N0 bb g : Nat) : Prop where
 ge : N0 ≤ g
 ne : g ≠ bb
theorem NB.ty {W : World} {g : Nat} {n : Nd} {hd : Value} (h : NB W g n hd) : ¬ Ty W 109 g := Ty.ne h (by decide)
theorem zif {N0 bb g : Nat} {src : ByteArray} {W : World} {s : BSt} {n : Nd} {hd : Value} (text : ByteArray) (start : Nat) (h : BS N0 bb src W s) (hn : NB W g n hd) (hg : zyl N0 bb g) (hN : N0 ≤ W.heap.size) (hl : s.ds.length ≤ 10000000) :
  Calls Tryz.prog 154 #[.pointer (some ⟨bb, 0, none⟩), .pointer (some ⟨g, 0, none⟩), .string text, .int .i64 (start : Int)] W fun e W' => e = .returned (.tuple #[]) ∧ NB W' g (zcc n text start s).1 hd ∧ BS N0 bb src W' (zcc n text start s).2 ∧ BFr N0 bb (fun k => k = g) W W' := by
 by_cases hlong : 30 < text.size
 ·have i1 : decide ((30 : Int) < (text.size : Int)) = true := decide_eq_true (by omega)
  have i2 : (30 : Int) < (text.size : Int) := by omega
  have HP := ak (And.intro h hn)
  have HL := ak hlong
  obtain ⟨c0, c1, c2, c3⟩ := h.cells
  clear h hn hlong
  go_enter Tryz.func154, Tryz.ntmps154
  go_wp2_with fail
  refine (zcj _ _ _ HP.out.1 hN (by omega)).mono ?_
  rintro e W1 ⟨rfl, h1, f1⟩
  have n1 := f1.blk HP.out.2 hg.ne (fun h => h) (by decide)
  have H1 := ak (And.intro h1 (And.intro (f1.mono (G' := fun k => k = g) (fun _ _ h => h.elim)) n1))
  have d0 : W1.cell? ⟨g, 0, none⟩ = some (.int .i64 n.f0) := (zf n1 0).trans rfl
  clear h1 f1 n1 c0 c1 c2 c3 i1 i2
  go_wp2_with fail
  refine (zg5 _ _).mono ?_
  rintro e W2 ⟨rfl, hb2⟩
  have h2 := H1.out.1.below hb2
  have f2 := H1.out.2.1.trans (BFr.of_below (N0 := N0) (bb := bb) (G := fun k => k = g) hb2)
  have n2 := zep H1.out.2.2 hb2
  have d2 : W2.cell? ⟨g, 2, none⟩ = some (.string n.f2) := (zf n2 2).trans rfl
  have d5 : W2.cell? ⟨g, 5, none⟩ = some (.int .i64 n.f5) := (zf n2 5).trans rfl
  have e2 := zl n2 2
  have e5 := zl n2 5
  have H2 := ak (And.intro h2 (And.intro f2 n2))
  clear h2 f2 n2 hb2 d0
  cases hh : zg6 n.f0
  ·have HH := ak hh
   clear hh
   go_wp2_with fail
   go_end0
   refine ⟨rfl, ?_, ?_, H2.out.2.1⟩
   ·have h := H2.out.2.2
    simpa [NB, zcc, HH.out] using h
   ·have h := H2.out.1
    simpa [zcc, show 30 < text.size from HL.out] using h
  ·by_cases h5 : n.f5 < 0
   ·have j1 : decide (n.f5 < 0) = true := decide_eq_true h5
    have HH := ak (And.intro hh h5)
    clear hh h5
    go_wp2_with fail
    go_end0
    have k1 := zbw (zbw H2.out.2.2 2 (.string text)) 5 (.int .i64 (start : Int))
    refine ⟨rfl, ?_, ?_, (H2.out.2.1.far (.inl rfl) _ _).far (.inl rfl) _ _⟩
    ·simpa [NB, zcc, HH.out.1, HH.out.2] using k1
    ·have o := ((Only.refl g W2).set 2 (.string text)).set 5 (.int .i64 (start : Int))
     have h := H2.out.1.only o hg.ge hg.ne (NB.ty H2.out.2.2)
     simpa [zcc, show 30 < text.size from HL.out] using h
   ·have j1 : decide (n.f5 < 0) = false := decide_eq_false h5
    have HH := ak (And.intro hh h5)
    clear hh h5
    go_wp2_with fail
    go_end0
    refine ⟨rfl, ?_, ?_, H2.out.2.1⟩
    ·have h := H2.out.2.2
     simpa [NB, zcc, HH.out.1, show ¬ n.f5 < 0 by have := HH.out.2; omega] using h
    ·have h := H2.out.1
     simpa [zcc, show 30 < text.size from HL.out] using h
 ·have i1 : decide ((30 : Int) < (text.size : Int)) = false := decide_eq_false (by omega)
  have i2 : ¬ (30 : Int) < (text.size : Int) := by omega
  have HL := ak (show text.size ≤ 30 by omega)
  have d0 : W.cell? ⟨g, 0, none⟩ = some (.int .i64 n.f0) := (zf hn 0).trans rfl
  have H1 := ak (And.intro h (And.intro (BFr.refl N0 bb (fun k => k = g) W) hn))
  clear h hn hlong
  go_enter Tryz.func154, Tryz.ntmps154
  go_wp2_with fail
  refine (zg5 _ _).mono ?_
  rintro e W2 ⟨rfl, hb2⟩
  have h2 := H1.out.1.below hb2
  have f2 := H1.out.2.1.trans (BFr.of_below (N0 := N0) (bb := bb) (G := fun k => k = g) hb2)
  have n2 := zep H1.out.2.2 hb2
  have d2 : W2.cell? ⟨g, 2, none⟩ = some (.string n.f2) := (zf n2 2).trans rfl
  have d5 : W2.cell? ⟨g, 5, none⟩ = some (.int .i64 n.f5) := (zf n2 5).trans rfl
  have e2 := zl n2 2
  have e5 := zl n2 5
  have H2 := ak (And.intro h2 (And.intro f2 n2))
  clear h2 f2 n2 hb2 d0
  cases hh : zg6 n.f0
  ·have HH := ak hh
   clear hh
   go_wp2_with fail
   go_end0
   refine ⟨rfl, ?_, ?_, H2.out.2.1⟩
   ·have h := H2.out.2.2
    simpa [NB, zcc, HH.out] using h
   ·have h := H2.out.1
    simpa [zcc, show ¬ 30 < text.size by have := HL.out; omega] using h
  ·by_cases h5 : n.f5 < 0
   ·have j1 : decide (n.f5 < 0) = true := decide_eq_true h5
    have HH := ak (And.intro hh h5)
    clear hh h5
    go_wp2_with fail
    go_end0
    have k1 := zbw (zbw H2.out.2.2 2 (.string text)) 5 (.int .i64 (start : Int))
    refine ⟨rfl, ?_, ?_, (H2.out.2.1.far (.inl rfl) _ _).far (.inl rfl) _ _⟩
    ·simpa [NB, zcc, HH.out.1, HH.out.2] using k1
    ·have o := ((Only.refl g W2).set 2 (.string text)).set 5 (.int .i64 (start : Int))
     have h := H2.out.1.only o hg.ge hg.ne (NB.ty H2.out.2.2)
     simpa [zcc, show ¬ 30 < text.size by have := HL.out; omega] using h
   ·have j1 : decide (n.f5 < 0) = false := decide_eq_false h5
    have HH := ak (And.intro hh h5)
    clear hh h5
    go_wp2_with fail
    go_end0
    refine ⟨rfl, ?_, ?_, H2.out.2.1⟩
    ·have h := H2.out.2.2
     simpa [NB, zcc, HH.out.1, show ¬ n.f5 < 0 by have := HH.out.2; omega] using h
    ·have h := H2.out.1
     simpa [zcc, show ¬ 30 < text.size by have := HL.out; omega] using h
theorem zs2 {N0 : Nat} (text : ByteArray) (W : World) (hs : text.size ≤ 100000) (hG : Glb N0 W) :
  Calls Tryz.prog 234 #[.string text] W fun e W' => (∃ v er, e = .returned (.tuple #[.int .i64 v, er]) ∧ ((Lib.atoiAll text.data.toList = .ok v ∧ er = .nilIface) ∨ ((∀ x, Lib.atoiAll text.data.toList ≠ .ok x) ∧ ∃ t N, er = .iface t (.pointer (some ⟨N, 0, none⟩))))) ∧ Below W.heap.size W W' := by
 rcases h : Lib.atoiAll text.data.toList with v | _ | _
 ·refine (Tryz.strconv_Atoi_ok text (by omega) v h W).mono ?_
  rintro e W' ⟨rfl, hw⟩
  refine ⟨⟨v, .nilIface, rfl, .inl ⟨rfl, rfl⟩⟩, ?_⟩
  rcases hw with rfl | ⟨t, rfl⟩
  ·exact Below.refl _ _
  ·exact zp3 (Below.refl _ _) (Nat.le_refl _) _ _
 ·obtain ⟨te, pe, hv⟩ := hG.syn
  refine (Tryz.strconv_Atoi_syntax text (by omega) h _ W hv (.inr ⟨te, pe, rfl⟩)).mono ?_
  rintro e W' ⟨N, rfl, _, _, hb⟩
  exact ⟨⟨_, _, rfl, .inr ⟨fun x hx => (by cases hx), _, N, rfl⟩⟩, hb⟩
 ·obtain ⟨te, pe, hv⟩ := hG.rng
  refine (Tryz.strconv_Atoi_range text (by omega) h _ W hv (.inr ⟨te, pe, rfl⟩)).mono ?_
  rintro e W' ⟨N, rfl, _, _, hb⟩
  exact ⟨⟨_, _, rfl, .inr ⟨fun x hx => (by cases hx), _, N, rfl⟩⟩, hb⟩
theorem zlr {N0 bb : Nat} {src : ByteArray} {W : World} {s : BSt} (text : ByteArray) (start : Nat) (h : BS N0 bb src W s) (hN : N0 ≤ W.heap.size) (hl : s.ds.length ≤ 10000000) (hs : text.size ≤ 100000) :
  Calls Tryz.prog 155 #[.pointer (some ⟨bb, 0, none⟩), .string text, .int .i64 (start : Int)] W fun e W' => e = .returned (.int .i64 (intP text start s).1) ∧ BS N0 bb src W' (intP text start s).2 ∧ BFr N0 bb NoG W W' := by
 have HP := ak h
 clear h
 go_enter Tryz.func155, Tryz.ntmps155
 go_wp2_with fail
 refine (zs2 text W hs HP.out.glb).mono ?_
 rintro e W1 ⟨⟨v, er, rfl, hv⟩, hb⟩
 have h1 := HP.out.below hb
 have f1 : BFr N0 bb NoG W W1 := BFr.of_below hb
 have hN1 : N0 ≤ W1.heap.size := Nat.le_trans hN hb.size
 obtain ⟨c0, c1, c2, c3⟩ := h1.cells
 have H1 := ak (And.intro h1 f1)
 clear h1 f1 hb
 rcases hv with ⟨hv, rfl⟩ | ⟨hv, t, N, rfl⟩
 ·have HV := ak hv
  clear hv
  by_cases hbig : 2147483647 < v
  ·have j1 : decide ((2147483647 : Int) < v) = true := decide_eq_true hbig
   have HB := ak hbig
   clear hbig
   go_wp2_with fail
   refine (zcj _ _ _ H1.out.1 hN1 (by omega)).mono ?_
   rintro e W2 ⟨rfl, h2, f2⟩
   have H2 := ak (And.intro h2 (H1.out.2.trans f2))
   clear h2 f2 c0 c1 c2 c3
   go_wp2_with fail
   go_ret
   refine ⟨?_, ?_, H2.out.2⟩
   ·simp [intP, HV.out, HB.out]
   ·have h := H2.out.1
    simpa [intP, HV.out, HB.out] using h
  ·have j1 : decide ((2147483647 : Int) < v) = false := decide_eq_false hbig
   have HB := ak (show v ≤ 2147483647 by omega)
   clear hbig
   go_wp2_with fail
   go_ret
   have hb : ¬ 2147483647 < v := by have := HB.out; omega
   refine ⟨?_, ?_, H1.out.2⟩
   ·simp [intP, HV.out, hb]
   ·have h := H1.out.1
    simpa [intP, HV.out, hb] using h
 ·have HV := ak hv
  clear hv
  go_wp2_with fail
  refine (zcj _ _ _ H1.out.1 hN1 (by omega)).mono ?_
  rintro e W2 ⟨rfl, h2, f2⟩
  have H2 := ak (And.intro h2 (H1.out.2.trans f2))
  clear h2 f2 c0 c1 c2 c3
  go_wp2_with fail
  go_ret
  have hx : intP text start s = (2147483647, zbr 4 start s.off s) := by
   unfold intP
   have := HV.out
   split
   ·rename_i x hx
    exact absurd hx (this x)
   ·rfl
  rw [hx]
  exact ⟨rfl, H2.out.1, H2.out.2⟩
end Go.Proofs.YtmoelofaojgjfaaGreatDoor.Par
namespace Go.Proofs.YtmoelofaojgjfaaGreatDoor.Bld
open Go.RowKit Go.Shelf
theorem sizeBuilder : (Tryz.prog.info? 119).map (·.size) = some 2 := by kernel_rfl
theorem liesBuilder : liesAt Tryz.prog Tryz.prog.depth 119 (2 / Tryz.prog.cellsOf 119) 0 119 1 = true := by kernel_rfl
theorem infoByte : (Tryz.prog.info? 5).map (fun i => (i.zero, i.size, i.bytes)) = some (some (.int .u8 0), 1, 1) := by kernel_rfl
theorem zj7 (b : Nat) (w : World) (h0 : w.cell? ⟨b, 0, none⟩ = some (.pointer (some ⟨b, 0, none⟩))) :
  Calls Tryz.prog 93 #[.pointer (some ⟨b, 0, none⟩)] w fun e w' => e = .returned (.tuple #[]) ∧ w' = w := by
 obtain ⟨j, hj, _⟩ := Option.map_eq_some_iff.1 sizeBuilder
 have u1 := run_underlying Tryz.underlying119
 have u2 := run_underlying Tryz.underlying116
 have u3 := run_underlying Tryz.underlying231
 go_enter Tryz.func93, Tryz.ntmps93
 go_wp2
 rw [Lib.run_neq_ptr_same w _ Tryz.underlying116 hj]
 go_wp2
 go_end0
 exact ⟨rfl, rfl⟩
theorem zjm (b : Nat) (w : World) (h0 : w.cell? ⟨b, 0, none⟩ = some (.pointer none)) (hsh : w.shape? b = some (119, 2)) (hfz : w.frozen? ⟨b, 0, none⟩ = false) :
  Calls Tryz.prog 93 #[.pointer (some ⟨b, 0, none⟩)] w fun e w' => e = .returned (.tuple #[]) ∧ w' = w.setCell ⟨b, 0, none⟩ (.pointer (some ⟨b, 0, none⟩)) := by
 obtain ⟨j, hj, hjs⟩ := Option.map_eq_some_iff.1 sizeBuilder
 have u1 := run_underlying Tryz.underlying119
 have u2 := run_underlying Tryz.underlying116
 have u3 := run_underlying Tryz.underlying231
 go_enter Tryz.func93, Tryz.ntmps93
 go_wp2
 rw [Lib.run_to_unsafe w ⟨b, 0, none⟩ Tryz.underlying116 Tryz.underlying231 hj (by rw [hjs]; decide) hsh (Nat.zero_lt_succ 1)]
 simp only [Result.andThen]
 rw [Oper.upon_value]
 go_wp2
 rw [run_callFunc_extern Tryz.func140 (by kernel_rfl) (by kernel_rfl) (by kernel_rfl) (e := Extern.AbiNoEscape.same) (by kernel_rfl)]
 rw [Lib.run_noEscape]
 simp only [Result.andThen]
 rw [Oper.upon_value]
 go_wp2
 rw [Lib.run_from_unsafe w ⟨b, 0, none⟩ Tryz.underlying231 Tryz.underlying116 hj hsh liesBuilder]
 simp only [Result.andThen]
 rw [Oper.upon_value]
 go_wp2
 go_end0
 exact ⟨rfl, rfl⟩
theorem zp1 (B b : Nat) (bs : List Value) (w : World) (h : Lib.IsBuilderF 119 5 B b bs w) :
  Calls Tryz.prog 93 #[.pointer (some ⟨b, 0, none⟩)] w fun e w' => e = .returned (.tuple #[]) ∧ (Lib.BuilderAtF 119 5 B b (.pointer (some ⟨b, 0, none⟩)) bs w' ∧ Below B w w' ∧ Lib.OthersKept 5 (some b) w w') := by
 rcases h with h | h
 ·refine (zjm b w h.cell0 h.shape h.frozen0).mono ?_
  rintro e w' ⟨rfl, rfl⟩
  exact ⟨rfl, h.used _, (Below.refl B w).setCell (p := ⟨b, 0, none⟩) h.1 _, (Lib.OthersKept.refl _ _ w).setCell ⟨b, 0, none⟩ rfl _⟩
 ·refine (zj7 b w h.cell0).mono ?_
  rintro e w' ⟨rfl, rfl⟩
  exact ⟨rfl, h, Below.refl B _, Lib.OthersKept.refl _ _ _⟩
theorem WriteByte_k (B b : Nat) (bs : List Value) (c : Int) (w : World) (h : Lib.IsBuilderF 119 5 B b bs w) (hlen : bs.length + 1 ≤ 140737488355328) (hBw : B ≤ w.heap.size) :
  Calls Tryz.prog 235 #[.pointer (some ⟨b, 0, none⟩), .int .u8 c] w fun e w' => e = .returned .nilIface ∧ (Lib.BuilderAtF 119 5 B b (.pointer (some ⟨b, 0, none⟩)) (bs ++ [.int .u8 c]) w' ∧ Below B w w' ∧ Lib.OthersKept 5 (some b) w w') := by
 obtain ⟨i0, hi, hz0, hz1, hz2⟩ := info_parts infoByte
 have u1 := run_underlying Tryz.underlying119
 have u2 := run_underlying Tryz.underlying116
 have u3 := run_underlying Tryz.underlying117
 go_enter Tryz.func235, Tryz.ntmps235
 go_wp2_with (go_at_call 93; refine (zp1 B b bs _ h).mono ?_)
 rintro e w1 ⟨rfl, h1, hb1, hk1⟩
 obtain ⟨hB, v, hbk, hown, hne⟩ := h1
 have c0 : w1.cell? ⟨b, 0, none⟩ = some (.pointer (some ⟨b, 0, none⟩)) := by rw [Lib.cell_of_heap hbk]; rfl
 have c1 : w1.cell? ⟨b, 1, none⟩ = some v := by rw [Lib.cell_of_heap hbk]; rfl
 have hlt : b < w1.heap.size := by
  rcases Nat.lt_or_ge b w1.heap.size with h' | h'
  ·exact h'
  ·simp [Array.getElem?_eq_none h'] at hbk
 have hown1 := hown.alloc (.cells #[.int .u8 c] 5)
 go_wp2_with (at_builtin; go_loud (refine wpList_append_ownF _ rfl _ _ 117 rfl B 5 i0 (.int .u8 0) 1 1 Tryz.underlying117 hi hz0 hz1 hz2 rfl (by decide) _ _ _ rfl hown1 _ 1 1 [.int .u8 c] rfl rfl (cell_one_new _ _ _) (by intro u hu; simp only [List.mem_cons, List.not_mem_nil, or_false] at hu; rcases hu with rfl; rfl) ?c3 ?c4 ?c5 ?_))
 case c3 => unfold maxLen; omega
 case c4 => omega
 case c5 => have := hb1.size; simp only [World.size_alloc]; omega
 intro v' w2 hown' hgrow _
 have hb2 : w2.heap[b]? = some (.cells #[.pointer (some ⟨b, 0, none⟩), v] 119 (0, 0)) := by
  rw [hgrow.block b (by simp only [World.size_alloc]; omega) (fun e => hne e.symm)]
  exact (Below.heap_alloc w1 _ b hlt).trans hbk
 have d0 : w2.cell? ⟨b, 0, none⟩ = some (.pointer (some ⟨b, 0, none⟩)) := by rw [Lib.cell_of_heap hb2]; rfl
 have d1 : w2.cell? ⟨b, 1, none⟩ = some v := by rw [Lib.cell_of_heap hb2]; rfl
 have f1 : w2.frozen? ⟨b, 1, none⟩ = false := Lib.frozen_of_heap hb2 1
 obtain ⟨ao, n', cap, rfl⟩ : ∃ ao n' cap, v' = .slice ao n' cap := by
  rcases hown'.2 with ⟨hv, _⟩ | ⟨g, cap, cur, fz, hv, _⟩
  ·exact ⟨_, _, _, hv⟩
  ·exact ⟨_, _, _, hv⟩
 go_wp2
 go_ret
 refine ⟨rfl, ?_, ?_, ((hk1.alloc _).grown hgrow (Lib.ownsRowF_kind hown1)).setCell ⟨b, 1, none⟩ rfl _⟩
 ·exact Lib.BuilderAtF.put (T := 119) (e := 5) hB hb2 (bs' := bs ++ [.int .u8 c]) (by simpa using hown') (by decide)
 ·exact (((hb1.alloc (by have := hb1.size; omega) _).grown hgrow (by have := hb1.size; simp only [World.size_alloc]; omega) (fun k hk => (hown.lt k hk).1)).setCell (p := ⟨b, 1, none⟩) hB _)
end Go.Proofs.YtmoelofaojgjfaaGreatDoor.Bld
namespace Go.Proofs.YtmoelofaojgjfaaGreatDoor.Par
open Go.RowKit Go.Proofs.YtmoelofaojgjfaaGreatDoorW.PrintWords Go.Proofs.YtmoelofaojgjfaaGreatDoorW.PrintLast
abbrev TB : TypeId := 119
theorem zoe {B b : Nat} {bs : List Value} {W W' : World} (h : Lib.IsBuilderF TB 5 B b bs W) (hk : ∀ g, g < W.heap.size → (g = b ∨ Ty W 5 g) → W'.heap[g]? = W.heap[g]?) : Lib.IsBuilderF TB 5 B b bs W' := by
 have one : ∀ p, Lib.BuilderAtF TB 5 B b p bs W → Lib.BuilderAtF TB 5 B b p bs W' := by
  rintro p ⟨h1, v, h2, ⟨h3, h4⟩, h5⟩
  refine ⟨h1, v, (hk b (za8 h2) (.inl rfl)).trans h2, ⟨h3, ?_⟩, h5⟩
  rcases h4 with h4 | ⟨g, cap, cur, fz, rfl, k1, k2, k3⟩
  ·exact .inl h4
  ·exact .inr ⟨g, cap, cur, fz, rfl, k1, (hk g (za8 k2) (.inr ⟨_, _, k2⟩)).trans k2, k3⟩
 rcases h with h | h
 ·exact .inl (one _ h)
 ·exact .inr (one _ h)
theorem zfl {B b : Nat} {bs : List Value} {W : World} (h : Lib.IsBuilderF TB 5 B b bs W) : B ≤ b ∧ Ty W TB b := by
 rcases h with ⟨h1, v, h2, _⟩ | ⟨h1, v, h2, _⟩
 ·exact ⟨h1, _, _, h2⟩
 ·exact ⟨h1, _, _, h2⟩
theorem BS.others {N0 bb b B : Nat} {src : ByteArray} {W W' : World} {s : BSt} (h : BS N0 bb src W s) (hb : bb ≠ b) (hB : N0 ≤ B) (ht : ¬ Ty W 109 b) (hbel : Below B W W') (ho : Lib.OthersKept 5 (some b) W W') : BS N0 bb src W' s := by
 obtain ⟨dv, h1, h2⟩ := h.obj
 refine ⟨⟨dv, ho bb _ h1 (by simpa using hb) (fun c fz e => by injection e with _ e2; exact absurd e2 (by decide)), za7 h2 (fun k hk => ?_)⟩, h.ge, h.glb.keep (fun g g1 _ => hbel.block g (by omega))⟩
 obtain ⟨_, _, cur, k3⟩ := zax h2 k hk
 rw [k3]
 refine ho k _ k3 ?_ (fun c fz e => by injection e with _ e2; exact absurd e2 (by decide))
 simp only [ne_eq, Option.some.injEq]
 rintro rfl
 exact ht ⟨_, _, k3⟩
theorem zka (l : List UInt8) (c : UInt8) : Lib.byteCells l ++ [Value.int .u8 (c.toNat : Int)] = Lib.byteCells (l ++ [c]) := by simp [Lib.byteCells]
structure Unq (N0 bb : Nat) (src : ByteArray) (text : ByteArray) (start : Nat) (s0 : BSt) (W : World) (wr : World) (i : Nat) : Prop where
 go : ∃ f acc s1, Lib.IsBuilderF TB 5 W.heap.size W.heap.size (Lib.byteCells acc) wr ∧ BS N0 bb src wr s1 ∧ unqP text.data.toList start f i acc s1 = unqP text.data.toList start text.size 1 [] s0 ∧ text.size + 1 ≤ f + i ∧ acc.length ≤ i ∧ s1.ds.length ≤ s0.ds.length + i ∧ s1.off = s0.off
 fr : BFr N0 bb NoG W wr
 i : 1 ≤ i ∧ i ≤ text.size + 1
theorem zg7 {t : ByteArray} {i : Nat} (h : i < t.size) : t.data.toList.getD i 0 = t[i] := by
 rw [List.getD_eq_getElem?_getD, List.getElem?_eq_getElem (by simpa using h)]
 rfl
theorem zgs {N0 bb : Nat} {src : ByteArray} {text : ByteArray} {start : Nat} {s0 s1 : BSt} {W w1 w2 : World} {f i' : Nat} {acc : List UInt8} {c : UInt8} (hbl : bb < W.heap.size) (hN : N0 ≤ W.heap.size) (hb : Lib.IsBuilderF TB 5 W.heap.size W.heap.size (Lib.byteCells acc) w1) (h : BS N0 bb src w1 s1) (fr : BFr N0 bb NoG W w1)
  (post : Lib.BuilderAtF TB 5 W.heap.size W.heap.size (.pointer (some ⟨W.heap.size, 0, none⟩)) (Lib.byteCells acc ++ [.int .u8 (c.toNat : Int)]) w2 ∧ Below W.heap.size w1 w2 ∧ Lib.OthersKept 5 (some W.heap.size) w1 w2)
  (eq : unqP text.data.toList start f i' (acc ++ [c]) s1 = unqP text.data.toList start text.size 1 [] s0) (hf : text.size + 1 ≤ f + i') (ha : acc.length + 1 ≤ i') (hd : s1.ds.length ≤ s0.ds.length + i') (ho : s1.off = s0.off) (hi : 1 ≤ i' ∧ i' ≤ text.size + 1) : Unq N0 bb src text start s0 W w2 i' := by
 obtain ⟨p1, p2, p3⟩ := post
 obtain ⟨_, tb⟩ := zfl hb
 obtain ⟨cc, fz, tb⟩ := tb
 refine ⟨⟨f, acc ++ [c], s1, .inr (zka acc c ▸ p1), h.others (by omega) hN (Ty.ne tb (by decide)) p2 p3, eq, hf, by rw [List.length_append, List.length_singleton]; exact ha, hd, ho⟩, ⟨p2.os.trans fr.os, p2.tape.trans fr.tape, p2.output.trans fr.output, Nat.le_trans fr.size p2.size, fun g g1 g2 g3 g4 => (p2.block g g1).trans (fr.kept g g1 g2 g3 g4)⟩, hi⟩
theorem zyv (l : List UInt8) (start f i : Nat) (acc : List UInt8) (s : BSt) (h : ¬ i + 1 < l.length) : unqP l start f i acc s = (acc, s) := by
 cases f with
 | zero => rfl
 | succ f => unfold unqP; rw [if_neg h]
theorem ztb {l : List UInt8} {start f i : Nat} {acc : List UInt8} {s : BSt} (h : i + 1 < l.length) (hf : 0 < f) (hc : (l.getD i 0).toNat ≠ 92) : unqP l start f i acc s = unqP l start (f - 1) (i + 1) (acc ++ [l.getD i 0]) s := by
 obtain ⟨g, rfl⟩ : ∃ g, f = g + 1 := ⟨f - 1, by omega⟩
 rw [unqP, if_pos h, if_neg hc]
 rfl
theorem zyu {l : List UInt8} {start f i : Nat} {acc : List UInt8} {s : BSt} (h : i + 1 < l.length) (hf : 0 < f) (hc : (l.getD i 0).toNat = 92) : unqP l start f i acc s = unqP l start (f - 1) (i + 2) (acc ++ [if (l.getD (i + 1) 0).toNat = 110 then 10 else l.getD (i + 1) 0]) (if (l.getD (i + 1) 0).toNat = 110 ∨ (l.getD (i + 1) 0).toNat = 34 ∨ (l.getD (i + 1) 0).toNat = 92 then s else zbr 6 ((start : Int) + i) ((start : Int) + i + 2) s) := by
 obtain ⟨g, rfl⟩ : ∃ g, f = g + 1 := ⟨f - 1, by omega⟩
 rw [unqP, if_pos h, if_pos hc]
 rfl
theorem zk3 {N0 bb : Nat} {src : ByteArray} {W : World} {s : BSt} (text : ByteArray) (start : Nat) (h : BS N0 bb src W s) (hN : N0 ≤ W.heap.size) (hl : s.ds.length ≤ 10000000) (hs : text.size ≤ 100000) (hst : start ≤ 100000) :
  Calls Tryz.prog 156 #[.pointer (some ⟨bb, 0, none⟩), .string text, .int .i64 (start : Int)] W fun e W' => e = .returned (.string (zca text start s).1) ∧ BS N0 bb src W' (zca text start s).2 ∧ BFr N0 bb NoG W W' := by
 have hbl : bb < W.heap.size := by obtain ⟨dv, h1, _⟩ := h.obj; exact za8 h1
 have HP := ak h
 clear h
 have ni : IntKind.i64.wrap ((text.size : Int) - 1) = (text.size : Int) - 1 := by rw [IntKind.wrap_i64]; omega
 go_enter Tryz.func156, Tryz.ntmps156
 go_wp2_with fail
 go_loopw [8] (fun z wr => ∃ i : Nat, z = .int .i64 (i : Int) ∧ zar (Unq N0 bb src text start s W wr i)) (fun z wr => (text.size + 1 - (intOf z).toNat))
 case atStart =>
  refine ⟨1, rfl, ⟨⟨text.size, [], s, ?_, HP.out.below (zh (Below.refl _ _) _), rfl, by omega, Nat.zero_le _, by omega, rfl⟩, BFr.of_below (zh (Below.refl _ _) _), by omega⟩⟩
  refine .inl ⟨Nat.le_refl _, .slice none 0 0, zaj W _, ⟨rfl, .inl ⟨rfl, rfl⟩⟩, by simp [Value.ownBlock]⟩
 case round =>
  obtain ⟨i, rfl, HU⟩ := hrel
  have hi := HU.out.i
  by_cases hlt : i + 1 < text.size
  ·have i1 : decide ((i : Int) < (text.size : Int) - 1) = true := decide_eq_true (by omega)
   have i0 : (0 : Int) ≤ (i : Int) := by omega
   have i2 : (i : Int) < (text.size : Int) := by omega
   have w1 : IntKind.i64.wrap ((i : Int) + 1) = (i : Int) + 1 := by rw [IntKind.wrap_i64]; omega
   have lt : i + 1 < text.data.toList.length := by simpa using hlt
   obtain ⟨⟨f, acc, s1, u1, u2, u3, u4, u5, u6, u7⟩, ufr, ui⟩ := HU.out
   have HSZ := ufr.size
   have hsb : W.heap.size < wr.heap.size := by
    obtain ⟨_, cc, fz, tb⟩ := zfl u1
    exact za8 tb
   have HA := ak (show text.size + 1 ≤ f + i ∧ acc.length ≤ i ∧ s1.ds.length ≤ s.ds.length + i ∧ s1.off = s.off from ⟨u4, u5, u6, u7⟩)
   have HF := ak ufr
   have HB := ak (show Lib.IsBuilderF TB 5 W.heap.size W.heap.size (Lib.byteCells acc) wr ∧ BS N0 bb src wr s1 ∧ W.heap.size ≤ wr.heap.size from ⟨u1, u2, ufr.size⟩)
   have hf0 : 0 < f := by omega
   have e3 := u3
   clear u1 u2 u3 u4 u5 u6 u7 ufr
   by_cases h92 : text[i].toNat = 92
   ·have c92 : ((text[i].toNat : Int) == 92) = true := by simp [h92]
    have E0 := zyu (start := start) (acc := acc) (s := s1) lt hf0 (by rw [zg7 (by omega)]; exact h92)
    rw [zg7 (show i + 1 < text.size from hlt)] at E0
    have i3 : (i : Int) + 1 < (text.size : Int) := by omega
    have i4 : (0 : Int) ≤ (i : Int) + 1 := by omega
    have w2 : IntKind.i64.wrap ((i : Int) + 1 + 1) = (i : Int) + 1 + 1 := by rw [IntKind.wrap_i64]; omega
    have ac2 : (((i : Int) + 1).toNat) = i + 1 := by omega
    by_cases h110 : text[i + 1].toNat = 110
    ·have d1 : ((text[i + 1].toNat : Int) == 110) = true := by simp [h110]
     rw [if_pos h110, if_pos (.inl h110)] at E0
     have E := ak (E0.symm.trans e3)
     clear E0 e3
     go_wp2_with fail
     refine (Bld.WriteByte_k _ _ _ _ _ HB.out.1 (by rw [Lib.byteCells_length]; have := HA.out.2.1; omega) HB.out.2.2).mono ?_
     rintro e w2 ⟨rfl, post⟩
     have HN := ak (zgs (c := 10) hbl hN HB.out.1 HB.out.2.1 HF.out post E.out (by have := HA.out; omega) (by have := HA.out; omega) (by have := HA.out;  omega) (by have := HA.out; exact this.2.2.2) (by omega))
     clear post
     go_wp2_with fail
     refine ⟨⟨i + 2, rfl, HN⟩, ?_⟩
     simp only [intOf]
     omega
    ·have d1 : ((text[i + 1].toNat : Int) == 110) = false := by simp [h110]; omega
     rw [if_neg h110] at E0
     by_cases h34 : text[i + 1].toNat = 34
     ·have d2 : ((text[i + 1].toNat : Int) == 34) = true := by simp [h34]
      rw [if_pos (.inr (.inl h34)), show text[i + 1] = 34 from UInt8.toNat_inj.1 h34] at E0
      have E := ak (E0.symm.trans e3)
      clear E0 e3
      go_wp2_with fail
      refine (Bld.WriteByte_k _ _ _ _ _ HB.out.1 (by rw [Lib.byteCells_length]; have := HA.out.2.1; omega) HB.out.2.2).mono ?_
      rintro e w2 ⟨rfl, post⟩
      have HN := ak (zgs (c := 34) hbl hN HB.out.1 HB.out.2.1 HF.out post E.out (by have := HA.out; omega) (by have := HA.out; omega) (by have := HA.out;  omega) (by have := HA.out; exact this.2.2.2) (by omega))
      clear post
      go_wp2_with fail
      refine ⟨⟨i + 2, rfl, HN⟩, ?_⟩
      simp only [intOf]
      omega
     ·have d2 : ((text[i + 1].toNat : Int) == 34) = false := by simp [h34]; omega
      by_cases h92b : text[i + 1].toNat = 92
      ·have d3 : ((text[i + 1].toNat : Int) == 92) = true := by simp [h92b]
       rw [if_pos (.inr (.inr h92b)), show text[i + 1] = 92 from UInt8.toNat_inj.1 h92b] at E0
       have E := ak (E0.symm.trans e3)
       clear E0 e3
       go_wp2_with fail
       refine (Bld.WriteByte_k _ _ _ _ _ HB.out.1 (by rw [Lib.byteCells_length]; have := HA.out.2.1; omega) HB.out.2.2).mono ?_
       rintro e w2 ⟨rfl, post⟩
       have HN := ak (zgs (c := 92) hbl hN HB.out.1 HB.out.2.1 HF.out post E.out (by have := HA.out; omega) (by have := HA.out; omega) (by have := HA.out;  omega) (by have := HA.out; exact this.2.2.2) (by omega))
       clear post
       go_wp2_with fail
       refine ⟨⟨i + 2, rfl, HN⟩, ?_⟩
       simp only [intOf]
       omega
      ·have d3 : ((text[i + 1].toNat : Int) == 92) = false := by simp [h92b]; omega
       rw [if_neg (by rintro (h | h | h) <;> contradiction)] at E0
       have E := ak (E0.symm.trans e3)
       clear E0 e3
       have x1 : IntKind.i64.wrap ((start : Int) + ((i : Int) + 1)) = (start : Int) + ((i : Int) + 1) := by rw [IntKind.wrap_i64]; omega
       have x2 : IntKind.i64.wrap ((start : Int) + ((i : Int) + 1) - 1) = (start : Int) + (i : Int) := by rw [IntKind.wrap_i64]; omega
       have x3 : IntKind.i64.wrap ((start : Int) + ((i : Int) + 1) + 1) = (start : Int) + (i : Int) + 2 := by rw [IntKind.wrap_i64]; omega
       go_wp2_with fail
       refine (zcj _ _ _ HB.out.2.1 (by omega) (by have := HA.out; omega)).mono ?_
       rintro e w3 ⟨rfl, r1, r2⟩
       have hb3 : Lib.IsBuilderF TB 5 W.heap.size W.heap.size (Lib.byteCells acc) w3 := zoe HB.out.1 (fun g g1 g2 => by
        rcases g2 with rfl | ⟨cc, fz, g2⟩
        ·obtain ⟨cc, fz, tb⟩ := (zfl HB.out.1).2
         exact r2.kept _ g1 (by omega) (fun h => h) (.inr (Ty.ne tb (by decide)))
        ·exact r2.kept _ g1 (fun e => by
          subst e
          obtain ⟨dv, k1, _⟩ := HB.out.2.1.obj
          exact Ty.ne k1 (by decide) ⟨cc, fz, g2⟩) (fun h => h) (.inr (Ty.ne g2 (by decide))))
       have HB3 := ak (show Lib.IsBuilderF TB 5 W.heap.size W.heap.size (Lib.byteCells acc) w3 ∧ BS N0 bb src w3 (zbr 6 ((start : Int) + i) ((start : Int) + i + 2) s1) ∧ W.heap.size ≤ w3.heap.size from ⟨hb3, r1, Nat.le_trans HB.out.2.2 r2.size⟩)
       have HF3 := ak (HF.out.trans r2)
       clear hb3 r1 r2
       go_wp2_with fail
       refine (Bld.WriteByte_k _ _ _ _ _ HB3.out.1 (by rw [Lib.byteCells_length]; have := HA.out.2.1; omega) HB3.out.2.2).mono ?_
       rintro e w4 ⟨rfl, post⟩
       have HN := ak (zgs (c := text[i + 1]) hbl hN HB3.out.1 HB3.out.2.1 HF3.out post E.out (by have := HA.out; omega) (by have := HA.out; omega) (by have := HA.out; simp only [zbr, List.length_append, List.length_singleton]; omega) (by have := HA.out; exact this.2.2.2) (by omega))
       clear post
       go_wp2_with fail
       refine ⟨⟨i + 2, rfl, HN⟩, ?_⟩
       simp only [intOf]
       omega
   ·have c92 : ((text[i].toNat : Int) == 92) = false := by simp [h92]; omega
    have E0 := ztb (start := start) (acc := acc) (s := s1) lt hf0 (by rw [zg7 (by omega)]; exact h92)
    rw [zg7 (show i < text.size by omega)] at E0
    have E := ak (E0.symm.trans e3)
    clear E0 e3
    go_wp2_with fail
    refine (Bld.WriteByte_k _ _ _ _ _ HB.out.1 (by rw [Lib.byteCells_length]; have := HA.out.2.1; omega) HB.out.2.2).mono ?_
    rintro e w2 ⟨rfl, post⟩
    have HN := ak (zgs (c := text[i]) hbl hN HB.out.1 HB.out.2.1 HF.out post E.out (by have := HA.out; omega) (by have := HA.out; omega) (by have := HA.out;  omega) (by have := HA.out; exact this.2.2.2) (by omega))
    clear post
    go_wp2_with fail
    refine ⟨⟨i + 1, rfl, HN⟩, ?_⟩
    simp only [intOf]
    omega
  ·have i1 : decide ((i : Int) < (text.size : Int) - 1) = false := decide_eq_false (by omega)
   obtain ⟨⟨f, acc, s1, u1, u2, u3, u4, u5, u6, u7⟩, ufr, ui⟩ := HU.out
   have HF := ak ufr
   have HB := ak (And.intro u1 u2)
   rw [zyv _ _ _ _ _ _ (by simpa using hlt)] at u3
   have E := ak u3
   have hsz := ufr.size
   clear u1 u2 u3 u4 u5 u6 u7 ufr
   go_wp2_with fail
   refine (Tryz.Builder_String_any_k _ _ acc _ HB.out.1 hsz).mono ?_
   rintro e w2 ⟨rfl, _, b1, b2⟩
   have tb := (zfl HB.out.1).2
   obtain ⟨cc, fz, tb⟩ := tb
   have h2 := HB.out.2.others (b := W.heap.size) (by omega) hN (Ty.ne tb (by decide)) b1 b2
   have HR := ak (And.intro h2 (show BFr N0 bb NoG W w2 from ⟨b1.os.trans HF.out.os, b1.tape.trans HF.out.tape, b1.output.trans HF.out.output, Nat.le_trans HF.out.size b1.size, fun g g1 g2 g3 g4 => (b1.block g g1).trans (HF.out.kept g g1 g2 g3 g4)⟩))
   clear h2 b1 b2 tb
   go_wp2_with fail
   go_ret
   have e1 : zca text start s = (⟨acc.toArray⟩, s1) := by unfold zca; rw [← E.out]
   rw [e1]
   exact ⟨rfl, HR.out⟩
theorem BS.setOff {N0 bb : Nat} {src : ByteArray} {W : World} {s : BSt} (h : BS N0 bb src W s) (n : Nat) : BS N0 bb src (W.setCell ⟨bb, 1, none⟩ (.int .i64 (n : Int))) ⟨n, s.ds⟩ ∧ BFr N0 bb NoG W (W.setCell ⟨bb, 1, none⟩ (.int .i64 (n : Int))) := by
 obtain ⟨dv, h1, h2⟩ := h.obj
 refine ⟨⟨⟨dv, by simpa using zbw h1 1 (.int .i64 (n : Int)), za7 h2 (fun g hg => Below.heap_setCell W ⟨bb, 1, none⟩ _ g ?_)⟩, h.ge, h.glb.keep (fun g hg _ => Below.heap_setCell W ⟨bb, 1, none⟩ _ g (fun e => by have e2 : g = bb := e; have := h.ge; omega))⟩, rfl, rfl, rfl, by simp [World.setCell], fun g g1 g2 _ _ => Below.heap_setCell W ⟨bb, 1, none⟩ _ g g2⟩
 rintro rfl
 obtain ⟨_, _, cur, hc⟩ := zax h2 _ hg
 exact Ty.ne h1 (by decide) ⟨_, _, hc⟩
theorem z1c {a : ByteArray} (h : a ≠ zj) : a.toList.isEmpty = false := by
 have h2 := zfr [] h
 cases hl : a.toList with
 | nil => rw [hl] at h2; exact absurd h2 (by decide)
 | cons _ _ => rfl
theorem zqr (text : ByteArray) (start : Nat) (s : BSt) : (intP text start s).2.off = s.off := by
 unfold intP
 split
 ·split <;> rfl
 ·rfl
theorem zkr (n : Nd) (text : ByteArray) (start : Nat) (s : BSt) : (zcc n text start s).2.off = s.off := by
 show (if 30 < text.size then zbr 5 start s.off s else s).off = s.off
 split <;> rfl
theorem zk4 (l : List UInt8) (start : Nat) : ∀ (f i : Nat) (acc : List UInt8) (s : BSt), (unqP l start f i acc s).2.off = s.off
 | 0, i, acc, s => rfl
 | f + 1, i, acc, s => by
  unfold unqP
  split
  ·split
   ·rw [zk4 l start f]
    split <;> rfl
   ·exact zk4 l start f _ _ _
  ·rfl
theorem zhy (text : ByteArray) (start : Nat) (s : BSt) : (zca text start s).2.off = s.off := zk4 _ _ _ _ _ _
theorem zox {N0 bb g : Nat} {src : ByteArray} {W : World} {s : BSt} {n : Nd} {hd : Value} (k : Int) (text : ByteArray) (tA : Option Addr) (tn tc : Nat) (h : BS N0 bb src W s) (hn : NB W g n hd) (hg : zyl N0 bb g) (hN : N0 ≤ W.heap.size) (hl : s.ds.length ≤ 1000000) (hs : s.off + text.size ≤ 100000) :
  Calls Tryz.prog 99 #[.pointer (some ⟨bb, 0, none⟩), .pointer (some ⟨g, 0, none⟩), .agg #[.int .i64 k, .string text, .slice tA tn tc]] W fun e W' => e = .returned (.tuple #[]) ∧ NB W' g (za6 n k text s).1 hd ∧ BS N0 bb src W' (za6 n k text s).2 ∧ BFr N0 bb (fun k => k = g) W W' := by
 obtain ⟨W1, hW1⟩ : ∃ W1, W.alloc (.cells #[.int .i64 k, .string text, .slice tA tn tc] 128) = W1 := ⟨_, rfl⟩
 have hb1 : Below W.heap.size W W1 := by rw [← hW1]; exact zh (Below.refl _ _) _
 have h1 := h.below hb1
 have n1 := zep hn hb1
 have tb : W1.heap[W.heap.size]? = some (.cells #[.int .i64 k, .string text, .slice tA tn tc] 128 (0, 0)) := by rw [← hW1]; exact zaj W _
 have hbl : bb < W.heap.size := by obtain ⟨dv, h1, _⟩ := h.obj; exact za8 h1
 have H1 := ak (And.intro h1 (And.intro n1 (And.intro tb hb1)))
 obtain ⟨c0, c1, c2, c3⟩ := h1.cells
 have x0 : W1.cell? ⟨W.heap.size, 0, none⟩ = some (.int .i64 k) := (zf tb 0).trans rfl
 have x1 : W1.cell? ⟨W.heap.size, 1, none⟩ = some (.string text) := (zf tb 1).trans rfl
 have ws : IntKind.i64.wrap ((s.off : Int) + (text.size : Int)) = (s.off : Int) + (text.size : Int) := by rw [IntKind.wrap_i64]; omega
 obtain ⟨W2, hW2⟩ : ∃ W2, (W1.setCell ⟨bb, 1, none⟩ (.int .i64 ((s.off : Int) + (text.size : Int)))).drew = W2 := ⟨_, rfl⟩
 have hs2 := h1.setOff (s.off + text.size)
 rw [show (((s.off + text.size : Nat)) : Int) = (s.off : Int) + (text.size : Int) by omega] at hs2
 have h2 : BS N0 bb src W2 ⟨s.off + text.size, s.ds⟩ := by rw [← hW2]; exact hs2.1.below (zae (Below.refl _ _))
 have f2 : BFr N0 bb (fun k => k = g) W W2 := by rw [← hW2]; exact ((BFr.of_below hb1).trans (hs2.2.mono (fun _ _ h => h.elim))).trans (BFr.of_below (zae (Below.refl _ _)))
 have hN2 : N0 ≤ W2.heap.size := Nat.le_trans hN f2.size
 have n2 : NB W2 g n hd := by rw [← hW2]; exact zdp (zvu n1 hg.ne _)
 have tb2 : W2.heap[W.heap.size]? = some (.cells #[.int .i64 k, .string text, .slice tA tn tc] 128 (0, 0)) := by rw [← hW2]; exact zdp (zvu tb (show W.heap.size ≠ bb by omega) _)
 have y0 : W2.cell? ⟨W.heap.size, 0, none⟩ = some (.int .i64 k) := (zf tb2 0).trans rfl
 have y1 : W2.cell? ⟨W.heap.size, 1, none⟩ = some (.string text) := (zf tb2 1).trans rfl
 obtain ⟨d0, d1, d2, d3⟩ := h2.cells
 have H2 := ak (And.intro h2 (And.intro f2 (And.intro n2 tb2)))
 clear hs2 h2 f2 n2 tb2
 clear h hn h1 n1 tb hb1
 by_cases k101 : k = 101
 ·subst k101
  go_enter Tryz.func99, Tryz.ntmps99
  go_wp2_with fail
  clear hW1
  go_still_tail 10, (by kernel_rfl)
  go_wp2_with fail
  refine bodyPost_ret (results_none rfl _ _ _) rfl ?_
  have hx : za6 n 101 text s = (n, ⟨s.off + text.size, s.ds⟩) := by simp [za6]
  rw [hx]
  exact ⟨rfl, H2.out.2.2.1, H2.out.1, H2.out.2.1⟩
 have m101 := zdu k101
 have K101 := ak k101
 clear k101
 by_cases k102 : k = 102
 ·subst k102
  go_enter Tryz.func99, Tryz.ntmps99
  go_wp2_with fail
  clear hW1
  go_still_tail 10, (by kernel_rfl)
  go_wp2_with fail
  refine bodyPost_ret (results_none rfl _ _ _) rfl ?_
  have hx : za6 n 102 text s = (n, ⟨s.off + text.size, s.ds⟩) := by simp [za6]
  rw [hx]
  exact ⟨rfl, H2.out.2.2.1, H2.out.1, H2.out.2.1⟩
 have m102 := zdu k102
 have K102 := ak k102
 clear k102
 by_cases k108 : k = 108
 ·subst k108
  by_cases e0 : text = zj
  ·have e3 : text.toList = [] := by rw [e0]; decide +kernel
   have e1 : text.toList.isEmpty = true := by rw [e3]; rfl
   have E0 := ak e0
   clear e0
   go_enter Tryz.func99, Tryz.ntmps99
   go_wp2_with fail
   clear hW1
   go_still_tail 10, (by kernel_rfl)
   go_wp2_with fail
   refine (zcj _ _ _ H2.out.1 hN2 (by show s.ds.length ≤ _; omega)).mono ?_
   rintro e W3 ⟨rfl, h3, f3⟩
   have n3 := f3.blk H2.out.2.2.1 hg.ne (fun h => h) (by decide)
   have H3 := ak (And.intro h3 (And.intro (H2.out.2.1.trans (f3.mono (fun _ _ h => h.elim))) n3))
   clear h3 f3 n3
   go_wp2_with fail
   refine bodyPost_ret (results_none rfl _ _ _) rfl ?_
   have hx : za6 n 108 text s = (n, zbr 1 s.off s.off ⟨s.off + text.size, s.ds⟩) := by simp [za6, E0.out]
   rw [hx]
   exact ⟨rfl, H3.out.2.2, H3.out.1, H3.out.2.1⟩
  ·have e1 : text.toList.isEmpty = false := z1c e0
   have e4 : ¬ text.toList = [] := fun h => by rw [h] at e1; cases e1
   have E0 := ak e0
   clear e0
   go_enter Tryz.func99, Tryz.ntmps99
   go_wp2_with fail
   clear hW1
   go_still_tail 10, (by kernel_rfl)
   go_wp2_with fail
   refine (zcj _ _ _ H2.out.1 hN2 (by show s.ds.length ≤ _; omega)).mono ?_
   rintro e W3 ⟨rfl, h3, f3⟩
   have n3 := f3.blk H2.out.2.2.1 hg.ne (fun h => h) (by decide)
   obtain ⟨d0, d1, d2, d3⟩ := h3.cells
   rw [show ((zbr 3 (↑s.off) (↑s.off + ↑text.size) ⟨s.off + text.size, s.ds⟩).off : Int) = (s.off : Int) + (text.size : Int) by show ((s.off + text.size : Nat) : Int) = _; omega] at d1
   have H3 := ak (And.intro h3 (And.intro (H2.out.2.1.trans (f3.mono (fun _ _ h => h.elim))) n3))
   clear h3 f3 n3
   go_wp2_with fail
   refine (zdg _ _ H3.out.2.2).mono ?_
   rintro e W9 ⟨rfl, n9, o9⟩
   have h9 := H3.out.1.only o9 hg.ge hg.ne (NB.ty H3.out.2.2)
   have f9 := H3.out.2.1.trans (o9.bfr N0 bb)
   have H9 := ak (And.intro h9 (And.intro f9 n9))
   clear h9 f9 n9 o9
   go_wp2_with fail
   go_end0
   have hx : za6 n 108 text s = (zay n s.off (s.off + text.size : Nat), zbr 3 s.off (s.off + text.size : Nat) ⟨s.off + text.size, s.ds⟩) := by simp [za6, E0.out]
   rw [hx]
   exact ⟨rfl, by have h := H9.out.2.2; simpa [NB, zay] using h, by have h := H9.out.1; simpa using h, H9.out.2.1⟩
 have m108 := zdu k108
 have K108 := ak k108
 clear k108
 by_cases k103 : k = 103
 ·subst k103
  go_enter Tryz.func99, Tryz.ntmps99
  go_wp2_with fail
  clear hW1
  go_still_tail 10, (by kernel_rfl)
  go_wp2_with fail
  refine (zif text s.off H2.out.1 H2.out.2.2.1 hg hN2 (by show s.ds.length ≤ _; omega)).mono ?_
  rintro e W3 ⟨rfl, n3, h3, f3⟩
  obtain ⟨d0, d1, d2, d3⟩ := h3.cells
  have ho : (zcc n text s.off ⟨s.off + text.size, s.ds⟩).2.off = s.off + text.size := zkr _ _ _ _
  rw [ho, show (((s.off + text.size : Nat)) : Int) = (s.off : Int) + (text.size : Int) by omega] at d1
  have H3 := ak (And.intro h3 (And.intro (H2.out.2.1.trans f3) n3))
  clear h3 f3 n3 ho
  go_wp2_with fail
  refine (zdg _ _ H3.out.2.2).mono ?_
  rintro e W9 ⟨rfl, n9, o9⟩
  have h9 := H3.out.1.only o9 hg.ge hg.ne (NB.ty H3.out.2.2)
  have f9 := H3.out.2.1.trans (o9.bfr N0 bb)
  have H9 := ak (And.intro h9 (And.intro f9 n9))
  clear h9 f9 n9 o9
  go_wp2_with fail
  go_end0
  have hx : za6 n 103 text s = (zay (zcc n text s.off ⟨s.off + text.size, s.ds⟩).1 s.off (s.off + text.size : Nat), (zcc n text s.off ⟨s.off + text.size, s.ds⟩).2) := by simp [za6]
  rw [hx]
  exact ⟨rfl, by have h := H9.out.2.2; simpa [NB, zay] using h, H9.out.1, H9.out.2.1⟩
 have m103 := zdu k103
 have K103 := ak k103
 clear k103
 by_cases k105 : k = 105
 ·subst k105
  go_enter Tryz.func99, Tryz.ntmps99
  go_wp2_with fail
  clear hW1
  go_still_tail 10, (by kernel_rfl)
  go_wp2_with fail
  refine (zlr text s.off H2.out.1 hN2 (by show s.ds.length ≤ _; omega) (by omega)).mono ?_
  rintro e W3 ⟨rfl, h3, f3⟩
  have n3 := f3.blk H2.out.2.2.1 hg.ne (fun h => h) (by decide)
  obtain ⟨d0, d1, d2, d3⟩ := h3.cells
  have ho : (intP text s.off ⟨s.off + text.size, s.ds⟩).2.off = s.off + text.size := zqr _ _ _
  rw [ho, show (((s.off + text.size : Nat)) : Int) = (s.off : Int) + (text.size : Int) by omega] at d1
  have z1 : W3.cell? ⟨g, 1, none⟩ = some (.int .i64 n.f1) := (zf n3 1).trans rfl
  have z2 := zl n3 1
  have h4 := h3.only ((Only.refl g W3).set 1 (.int .i64 (intP text s.off ⟨s.off + text.size, s.ds⟩).1)) hg.ge hg.ne (NB.ty n3)
  have f4 : BFr N0 bb (fun k => k = g) W (W3.setCell ⟨g, 1, none⟩ (.int .i64 (intP text s.off ⟨s.off + text.size, s.ds⟩).1)) := (H2.out.2.1.trans (f3.mono (fun _ _ h => h.elim))).trans (((Only.refl g W3).set 1 (.int .i64 (intP text s.off ⟨s.off + text.size, s.ds⟩).1)).bfr N0 bb)
  have n4 : NB (W3.setCell ⟨g, 1, none⟩ (.int .i64 (intP text s.off ⟨s.off + text.size, s.ds⟩).1)) g ⟨n.f0, (intP text s.off ⟨s.off + text.size, s.ds⟩).1, n.f2, n.f3, n.f4, n.f5, n.f6⟩ hd := by simpa [NB] using zbw n3 1 (.int .i64 (intP text s.off ⟨s.off + text.size, s.ds⟩).1)
  have H3 := ak (And.intro h4 (And.intro f4 n4))
  have q1 := hg.ne
  have q2 := Ne.symm hg.ne
  clear h3 f3 n3 ho h4 f4 n4
  go_wp2_with fail
  refine (zdg _ _ H3.out.2.2).mono ?_
  rintro e W9 ⟨rfl, n9, o9⟩
  have h9 := H3.out.1.only o9 hg.ge hg.ne (NB.ty H3.out.2.2)
  have f9 := H3.out.2.1.trans (o9.bfr N0 bb)
  have H9 := ak (And.intro h9 (And.intro f9 n9))
  clear h9 f9 n9 o9
  go_wp2_with fail
  go_end0
  have hx : za6 n 105 text s = (zay ⟨n.f0, (intP text s.off ⟨s.off + text.size, s.ds⟩).1, n.f2, n.f3, n.f4, n.f5, n.f6⟩ s.off (s.off + text.size : Nat), (intP text s.off ⟨s.off + text.size, s.ds⟩).2) := by simp [za6]
  rw [hx]
  exact ⟨rfl, by have h := H9.out.2.2; simpa [NB, zay] using h, H9.out.1, H9.out.2.1⟩
 have m105 := zdu k105
 have K105 := ak k105
 clear k105
 by_cases k106 : k = 106
 ·subst k106
  go_enter Tryz.func99, Tryz.ntmps99
  go_wp2_with fail
  clear hW1
  go_still_tail 10, (by kernel_rfl)
  go_wp2_with fail
  refine (zk3 text s.off H2.out.1 hN2 (by show s.ds.length ≤ _; omega) (by omega) (by omega)).mono ?_
  rintro e W3 ⟨rfl, h3, f3⟩
  have n3 := f3.blk H2.out.2.2.1 hg.ne (fun h => h) (by decide)
  obtain ⟨d0, d1, d2, d3⟩ := h3.cells
  have ho : (zca text s.off ⟨s.off + text.size, s.ds⟩).2.off = s.off + text.size := zhy _ _ _
  rw [ho, show (((s.off + text.size : Nat)) : Int) = (s.off : Int) + (text.size : Int) by omega] at d1
  have z1 : W3.cell? ⟨g, 2, none⟩ = some (.string n.f2) := (zf n3 2).trans rfl
  have z2 := zl n3 2
  have h4 := h3.only ((Only.refl g W3).set 2 (.string (zca text s.off ⟨s.off + text.size, s.ds⟩).1)) hg.ge hg.ne (NB.ty n3)
  have f4 : BFr N0 bb (fun k => k = g) W (W3.setCell ⟨g, 2, none⟩ (.string (zca text s.off ⟨s.off + text.size, s.ds⟩).1)) := (H2.out.2.1.trans (f3.mono (fun _ _ h => h.elim))).trans (((Only.refl g W3).set 2 (.string (zca text s.off ⟨s.off + text.size, s.ds⟩).1)).bfr N0 bb)
  have n4 : NB (W3.setCell ⟨g, 2, none⟩ (.string (zca text s.off ⟨s.off + text.size, s.ds⟩).1)) g ⟨n.f0, n.f1, (zca text s.off ⟨s.off + text.size, s.ds⟩).1, n.f3, n.f4, n.f5, n.f6⟩ hd := by simpa [NB] using zbw n3 2 (.string (zca text s.off ⟨s.off + text.size, s.ds⟩).1)
  have H3 := ak (And.intro h4 (And.intro f4 n4))
  have q1 := hg.ne
  have q2 := Ne.symm hg.ne
  clear h3 f3 n3 ho h4 f4 n4
  go_wp2_with fail
  refine (zdg _ _ H3.out.2.2).mono ?_
  rintro e W9 ⟨rfl, n9, o9⟩
  have h9 := H3.out.1.only o9 hg.ge hg.ne (NB.ty H3.out.2.2)
  have f9 := H3.out.2.1.trans (o9.bfr N0 bb)
  have H9 := ak (And.intro h9 (And.intro f9 n9))
  clear h9 f9 n9 o9
  go_wp2_with fail
  go_end0
  have hx : za6 n 106 text s = (zay ⟨n.f0, n.f1, (zca text s.off ⟨s.off + text.size, s.ds⟩).1, n.f3, n.f4, n.f5, n.f6⟩ s.off (s.off + text.size : Nat), (zca text s.off ⟨s.off + text.size, s.ds⟩).2) := by simp [za6]
  rw [hx]
  exact ⟨rfl, by have h := H9.out.2.2; simpa [NB, zay] using h, H9.out.1, H9.out.2.1⟩
 have m106 := zdu k106
 have K106 := ak k106
 clear k106
 go_enter Tryz.func99, Tryz.ntmps99
 go_wp2_with fail
 clear hW1
 go_still_tail 10, (by kernel_rfl)
 go_wp2_with fail
 refine (zle text H2.out.2.2.1).mono ?_
 rintro e W3 ⟨rfl, n3, o3⟩
 have h3 := H2.out.1.only o3 hg.ge hg.ne (NB.ty H2.out.2.2.1)
 obtain ⟨d0, d1, d2, d3⟩ := h3.cells
 have d1 : W3.cell? ⟨bb, 1, none⟩ = some (.int .i64 ((s.off : Int) + (text.size : Int))) := d1
 have H3 := ak (And.intro h3 (And.intro (H2.out.2.1.trans (o3.bfr N0 bb)) n3))
 clear h3 n3 o3
 go_wp2_with fail
 refine (zdg _ _ H3.out.2.2).mono ?_
 rintro e W9 ⟨rfl, n9, o9⟩
 have h9 := H3.out.1.only o9 hg.ge hg.ne (NB.ty H3.out.2.2)
 have f9 := H3.out.2.1.trans (o9.bfr N0 bb)
 have H9 := ak (And.intro h9 (And.intro f9 n9))
 clear h9 f9 n9 o9
 go_wp2_with fail
 go_end0
 have hx : za6 n k text s = (zay (za2 n text) s.off (s.off + text.size : Nat), ⟨s.off + text.size, s.ds⟩) := by simp [za6, K101.out, K102.out, K108.out, K103.out, K105.out, K106.out]
 rw [hx]
 exact ⟨rfl, by have h := H9.out.2.2; simpa [NB, zay] using h, H9.out.1, H9.out.2.1⟩
end Go.Proofs.YtmoelofaojgjfaaGreatDoor.Par
namespace Go.Proofs.YtmoelofaojgjfaaGreatDoor.Par
def sumB (T : List Tok) : Nat := (T.map (fun t => t.2.size)).sum
def zem (t : Tree) : Nat := sumB (zfs t)
def zci (ts : List Tree) : Nat := sumB (zd5 ts)
theorem ziy (a b : List Tok) : sumB (a ++ b) = sumB a + sumB b := by simp [sumB]
theorem zd0 (t : Tree) (ts : List Tree) : zci (t :: ts) = zem t + zci ts := by simp [zci, zem, zd5, ziy]
theorem zcz (k : Int) (t : ByteArray) (ks : List Tree) (h : k < 100) : zem (.mk k t ks) = zci ks := by simp [zem, zci, zfs, h]
theorem zgp (t : Tree) (h : 100 ≤ t.kind) : zem t = t.text.size := by
 obtain ⟨k, x, ks⟩ := t
 have h2 : ¬ k < 100 := by simp only [Tree.kind] at h; omega
 simp only [zem, zfs, if_neg h2, Tree.text]
 split
 ·rename_i h3
  rw [h3]
  rfl
 ·simp [sumB]
theorem zot (l : List UInt8) (start : Nat) : ∀ (f i : Nat) (acc : List UInt8) (s : BSt), (unqP l start f i acc s).2.ds.length ≤ s.ds.length + f
 | 0, i, acc, s => by simp [unqP]
 | f + 1, i, acc, s => by
  unfold unqP
  split
  ·split
   ·refine Nat.le_trans (zot l start f _ _ _) ?_
    split
    ·omega
    ·simp only [zbr, List.length_append, List.length_singleton]
     omega
   ·refine Nat.le_trans (zot l start f _ _ _) ?_
    omega
  ·show s.ds.length ≤ _
   omega
theorem zd6 (n : Nd) (k : Int) (text : ByteArray) (s : BSt) : (za6 n k text s).2.off = s.off + text.size ∧ (za6 n k text s).2.ds.length ≤ s.ds.length + 1 + text.size := by
 unfold za6
 split
 ·exact ⟨rfl, by show s.ds.length ≤ _; omega⟩
 split
 ·split
  ·exact ⟨rfl, by simp only [zbr, List.length_append, List.length_singleton]; omega⟩
  ·exact ⟨rfl, by simp only [zbr, List.length_append, List.length_singleton]; omega⟩
 split
 ·refine ⟨zkr n text s.off ⟨s.off + text.size, s.ds⟩, ?_⟩
  show (if 30 < text.size then zbr 5 s.off _ ⟨s.off + text.size, s.ds⟩ else ⟨s.off + text.size, s.ds⟩ : BSt).ds.length ≤ _
  split
  ·simp only [zbr, List.length_append, List.length_singleton]; omega
  ·show s.ds.length ≤ _; omega
 split
 ·refine ⟨zqr _ _ _, ?_⟩
  show (intP text s.off ⟨s.off + text.size, s.ds⟩).2.ds.length ≤ _
  unfold intP
  split
  ·split
   ·simp only [zbr, List.length_append, List.length_singleton]; omega
   ·show s.ds.length ≤ _; omega
  ·simp only [zbr, List.length_append, List.length_singleton]; omega
 split
 ·refine ⟨zhy _ _ _, ?_⟩
  show (unqP text.data.toList s.off text.size 1 [] ⟨s.off + text.size, s.ds⟩).2.ds.length ≤ _
  have := zot text.data.toList s.off text.size 1 [] ⟨s.off + text.size, s.ds⟩
  have e : (BSt.mk (s.off + text.size) s.ds).ds.length = s.ds.length := rfl
  omega
 ·exact ⟨rfl, by show s.ds.length ≤ _; omega⟩
def Rng (lo : Nat) (n : Nd) (hi : Nat) : Prop := (n.f4 = -1 ∧ n.f3 = lo ∧ lo ≤ hi) ∨ ((lo : Int) ≤ n.f3 ∧ n.f3 ≤ n.f4 ∧ n.f4 ≤ hi)
theorem Rng.up {lo hi hi' : Nat} {n : Nd} (h : Rng lo n hi) (hh : hi ≤ hi') : Rng lo n hi' := by
 unfold Rng at h ⊢
 omega
theorem Rng.ext {lo hi hi' : Nat} {n : Nd} {a b : Int} (h : Rng lo n hi) (h1 : (hi : Int) ≤ a) (h2 : a ≤ b) (h3 : b ≤ hi') : Rng lo (zay n a b) hi' := by
 unfold Rng zay at *
 by_cases h4 : n.f4 < 0
 ·simp only [h4, if_true]
  omega
 ·simp only [h4, if_false]
  omega
theorem Rng.same {lo hi : Nat} {n m : Nd} (h : Rng lo n hi) (h3 : m.f3 = n.f3) (h4 : m.f4 = n.f4) : Rng lo m hi := by
 unfold Rng at *
 rw [h3, h4]
 exact h
theorem zcb (n : Nd) (text : ByteArray) : (za2 n text).f3 = n.f3 ∧ (za2 n text).f4 = n.f4 ∧ (za2 n text).f6 = n.f6 ∧ (za2 n text).f0 = n.f0 := by
 unfold za2
 repeat' (first | exact ⟨rfl, rfl, rfl, rfl⟩ | split)
theorem zcy (n : Nd) (text : ByteArray) (start : Nat) (s : BSt) : (zcc n text start s).1.f3 = n.f3 ∧ (zcc n text start s).1.f4 = n.f4 ∧ (zcc n text start s).1.f6 = n.f6 ∧ (zcc n text start s).1.f0 = n.f0 := by
 unfold zcc
 dsimp only
 split <;> exact ⟨rfl, rfl, rfl, rfl⟩
theorem zcn (n : Nd) (k : Int) (text : ByteArray) (s : BSt) : (za6 n k text s).1.f6 = n.f6 ∧ (za6 n k text s).1.f0 = n.f0 := by
 unfold za6
 split
 ·exact ⟨rfl, rfl⟩
 split
 ·split <;> exact ⟨rfl, rfl⟩
 split
 ·exact ⟨(zcy _ _ _ _).2.2.1, (zcy _ _ _ _).2.2.2⟩
 split
 ·exact ⟨rfl, rfl⟩
 split
 ·exact ⟨rfl, rfl⟩
 ·exact ⟨(zcb _ _).2.2.1, (zcb _ _).2.2.2⟩
theorem zkb {lo : Nat} (n : Nd) (k : Int) (text : ByteArray) (s : BSt) (h : Rng lo n s.off) : Rng lo (za6 n k text s).1 (s.off + text.size) := by
 have ex : ∀ m : Nd, m.f3 = n.f3 → m.f4 = n.f4 → Rng lo (zay m s.off (s.off + text.size : Nat)) (s.off + text.size) := fun m h3 h4 => (h.same h3 h4).ext (Int.le_refl _) (by omega) (Int.le_refl _)
 unfold za6
 split
 ·exact h.up (by omega)
 split
 ·split
  ·exact h.up (by omega)
  ·exact ex n rfl rfl
 split
 ·exact ex _ (zcy _ _ _ _).1 (zcy _ _ _ _).2.1
 split
 ·exact ex _ rfl rfl
 split
 ·exact ex _ rfl rfl
 ·exact ex _ (zcb _ _).1 (zcb _ _).2.1
theorem zgo (src : ByteArray) (n : Nd) (s : BSt) : (zbe src n s).2.off = s.off ∧ (zbe src n s).2.ds.length ≤ s.ds.length + 1 := by
 unfold zbe
 split
 ·split <;> exact ⟨rfl, by show s.ds.length ≤ _; omega⟩
 split
 ·exact ⟨rfl, by simp [zbr]⟩
 ·exact ⟨rfl, by show s.ds.length ≤ _; omega⟩
theorem zjf (src : ByteArray) (n : Nd) (s : BSt) : (zbe src n s).1.f3 = n.f3 ∧ (zbe src n s).1.f4 = n.f4 := by
 unfold zbe
 split
 ·split <;> exact ⟨rfl, rfl⟩
 split <;> exact ⟨rfl, rfl⟩
structure zv8 (s s' : BSt) (n : Nd) (c b : Nat) : Prop where
 off : s'.off = s.off + b
 ds : s'.ds.length ≤ s.ds.length + c + b
 rng : (s.off : Int) ≤ n.f3 ∧ n.f3 ≤ n.f4 ∧ n.f4 ≤ (s'.off : Int)
structure z15 (lo : Nat) (n n' : Nd) (s s' : BSt) (c b m : Nat) : Prop where
 off : s'.off = s.off + b
 ds : s'.ds.length ≤ s.ds.length + c + b
 rng : Rng lo n' s'.off
 kids : n'.f6.length = n.f6.length + m
 kind : n'.f0 = n.f0
mutual
theorem zil (src : ByteArray) : ∀ (t : Tree), good t → t.kind < 100 → ∀ s, zv8 s (zbg src t s).2 (zbg src t s).1 (cntT t) (zem t)
 | .mk k x ks, hg, hk, s => by
  have hk' : k < 100 := hk
  have h := zff src ks hg.2 s.off ⟨k, 0, zj, s.off, -1, -1, []⟩ s (.inl ⟨rfl, rfl, Nat.le_refl _⟩)
  have h1 := h.off
  have h2 := h.ds
  have h3 := h.rng
  have f1 := zgo src (endP (zbf src ks ⟨k, 0, zj, s.off, -1, -1, []⟩ s).1) (zbf src ks ⟨k, 0, zj, s.off, -1, -1, []⟩ s).2
  have f2 := zjf src (endP (zbf src ks ⟨k, 0, zj, s.off, -1, -1, []⟩ s).1) (zbf src ks ⟨k, 0, zj, s.off, -1, -1, []⟩ s).2
  rw [zbg, zcz k x ks hk']
  refine ⟨f1.1.trans h1, ?_, ?_⟩
  ·have := f1.2
   simp only [cntT]
   omega
  ·rw [f2.1, f2.2, f1.1]
   simp only [endP]
   unfold Rng at h3
   omega
theorem zff (src : ByteArray) : ∀ (ts : List Tree), zfp ts → ∀ (lo : Nat) (n : Nd) (s : BSt), Rng lo n s.off → z15 lo n (zbf src ts n s).1 s (zbf src ts n s).2 (cntL ts) (zci ts) (nk ts).length
 | [], _, lo, n, s, hr => by
  rw [zbf]
  exact ⟨by simp [zci, zd5, sumB], by rw [Nat.add_assoc]; exact Nat.le_add_right _ _, hr, by simp [nk], rfl⟩
 | t :: ts, hg, lo, n, s, hr => by
  rw [zbf, zd0]
  split
  ·rename_i hk
   have hb := zgp t hk
   obtain ⟨a1, a2⟩ := zd6 n t.kind t.text s
   have a3 := zkb n t.kind t.text s hr
   have h := zff src ts hg.2 lo (za6 n t.kind t.text s).1 (za6 n t.kind t.text s).2 (by rw [a1]; exact a3)
   have h1 := h.off
   have h2 := h.ds
   have h5 := zin t
   have hnk : nk (t :: ts) = nk ts := by simp only [nk]; rw [if_neg (by omega)]
   refine ⟨by omega, ?_, h.rng, ?_, h.kind.trans (zcn _ _ _ _).2⟩
   ·simp only [cntL]
    omega
   ·rw [h.kids, (zcn _ _ _ _).1, hnk]
  ·rename_i hk
   have hk' : t.kind < 100 := by omega
   have g := zil src t hg.1 hk' s
   have g1 := g.off
   have g2 := g.ds
   obtain ⟨g3, g4, g5⟩ := g.rng
   have h := zff src ts hg.2 lo (zdh n (zbg src t s).1) (zbg src t s).2 ((hr.ext (hi' := (zbg src t s).2.off) g3 g4 g5).same rfl rfl)
   have h1 := h.off
   have h2 := h.ds
   have hnk : nk (t :: ts) = t.kind :: nk ts := by simp only [nk]; rw [if_pos hk']
   refine ⟨by omega, ?_, h.rng, ?_, h.kind⟩
   ·simp only [cntL]
    omega
   ·rw [h.kids, hnk]
    simp only [zdh, List.length_append, List.length_singleton, List.length_cons, List.length_nil]
    omega
end
end Go.Proofs.YtmoelofaojgjfaaGreatDoor.Par
namespace Go.Proofs.YtmoelofaojgjfaaGreatDoor.Par
open Go.RowKit
mutual
def AC (W : World) (B e : Nat) : Nd → List Value → List Nat → Prop
 | ⟨k1, k2, k3, k4, k5, k6, ks⟩, c, F => ∃ h cs Fs, c = [.int .i64 k1, .int .i64 k2, .string k3, .int .i64 k4, .int .i64 k5, .int .i64 k6, h] ∧ W.ownsRow B e 7 h ks.length cs ∧ F = own1 h ++ Fs ∧ AL W B e ks cs Fs ∧ ∀ g ∈ Fs, some g ≠ h.ownBlock
def AL (W : World) (B e : Nat) : List Nd → List Value → List Nat → Prop
 | [], cs, F => cs = [] ∧ F = []
 | t :: ts, cs, F => ∃ c cs' F1 F2, cs = c ++ cs' ∧ F = F1 ++ F2 ∧ AC W B e t c F1 ∧ AL W B e ts cs' F2
end
def AR (W : World) (B e : Nat) (ts : List Nd) (h : Value) (F : List Nat) : Prop := ∃ cs Fs, W.ownsRow B e 7 h ts.length cs ∧ F = own1 h ++ Fs ∧ AL W B e ts cs Fs ∧ ∀ g ∈ Fs, some g ≠ h.ownBlock
theorem z1v {W : World} {B e : Nat} {t : Nd} {c : List Value} {F : List Nat} : AC W B e t c F ↔ ∃ h, c = [.int .i64 t.f0, .int .i64 t.f1, .string t.f2, .int .i64 t.f3, .int .i64 t.f4, .int .i64 t.f5, h] ∧ AR W B e t.f6 h F := by
 obtain ⟨k1, k2, k3, k4, k5, k6, ks⟩ := t
 simp only [AC, AR]
 constructor
 ·rintro ⟨h, cs, Fs, h1, h2, h3, h4⟩
  exact ⟨h, h1, cs, Fs, h2, h3, h4⟩
 ·rintro ⟨h, h1, cs, Fs, h2, h3, h4⟩
  exact ⟨h, cs, Fs, h1, h2, h3, h4⟩
mutual
theorem z0f {W W' : World} {B e : Nat} : ∀ (t : Nd) (c : List Value) (F : List Nat), AC W B e t c F → (∀ g ∈ F, W'.heap[g]? = W.heap[g]?) → AC W' B e t c F
 | ⟨k1, k2, k3, k4, k5, k6, ks⟩, c, F, h, hk => by
  simp only [AC] at h ⊢
  obtain ⟨hd, cs, Fs, h1, h2, rfl, h4⟩ := h
  exact ⟨hd, cs, Fs, h1, za7 h2 (fun g hg => hk g (List.mem_append_left _ hg)), rfl, zhx ks cs Fs h4.1 (fun g hg => hk g (List.mem_append_right _ hg)), h4.2⟩
theorem zhx {W W' : World} {B e : Nat} : ∀ (ts : List Nd) (cs : List Value) (F : List Nat), AL W B e ts cs F → (∀ g ∈ F, W'.heap[g]? = W.heap[g]?) → AL W' B e ts cs F
 | [], cs, F, h, hk => by
  simp only [AL] at h ⊢
  exact h
 | t :: ts, cs, F, h, hk => by
  simp only [AL] at h ⊢
  obtain ⟨c, cs', F1, F2, h1, rfl, h3, h4⟩ := h
  exact ⟨c, cs', F1, F2, h1, rfl, z0f t c F1 h3 (fun g hg => hk g (List.mem_append_left _ hg)), zhx ts cs' F2 h4 (fun g hg => hk g (List.mem_append_right _ hg))⟩
end
theorem zfo {W W' : World} {B e : Nat} {ts : List Nd} {h : Value} {F : List Nat} (hr : AR W B e ts h F) (hk : ∀ g ∈ F, W'.heap[g]? = W.heap[g]?) : AR W' B e ts h F := by
 obtain ⟨cs, Fs, h1, rfl, h3⟩ := hr
 exact ⟨cs, Fs, za7 h1 (fun g hg => hk g (List.mem_append_left _ hg)), rfl, zhx ts cs Fs h3.1 (fun g hg => hk g (List.mem_append_right _ hg)), h3.2⟩
mutual
theorem zx6 {W : World} {B e : Nat} : ∀ (t : Nd) (c : List Value) (F : List Nat), AC W B e t c F → ∀ g ∈ F, B ≤ g ∧ g < W.heap.size ∧ ∃ cur, W.heap[g]? = some (.cells cur e (0, 0))
 | ⟨k1, k2, k3, k4, k5, k6, ks⟩, c, F, h, g, hg => by
  simp only [AC] at h
  obtain ⟨hd, cs, Fs, h1, h2, rfl, h4⟩ := h
  rcases List.mem_append.1 hg with hg | hg
  ·exact zax h2 g hg
  ·exact zhm ks cs Fs h4.1 g hg
theorem zhm {W : World} {B e : Nat} : ∀ (ts : List Nd) (cs : List Value) (F : List Nat), AL W B e ts cs F → ∀ g ∈ F, B ≤ g ∧ g < W.heap.size ∧ ∃ cur, W.heap[g]? = some (.cells cur e (0, 0))
 | [], cs, F, h, g, hg => by
  simp only [AL] at h
  rw [h.2] at hg
  cases hg
 | t :: ts, cs, F, h, g, hg => by
  simp only [AL] at h
  obtain ⟨c, cs', F1, F2, h1, rfl, h3, h4⟩ := h
  rcases List.mem_append.1 hg with hg | hg
  ·exact zx6 t c F1 h3 g hg
  ·exact zhm ts cs' F2 h4 g hg
end
theorem zc8 {W : World} {B e : Nat} {ts : List Nd} {h : Value} {F : List Nat} (hr : AR W B e ts h F) : ∀ g ∈ F, B ≤ g ∧ g < W.heap.size ∧ ∃ cur, W.heap[g]? = some (.cells cur e (0, 0)) := by
 obtain ⟨cs, Fs, h1, rfl, h3⟩ := hr
 intro g hg
 rcases List.mem_append.1 hg with hg | hg
 ·exact zax h1 g hg
 ·exact zhm ts cs Fs h3.1 g hg
theorem zwa {W : World} {B e : Nat} {t : Nd} {c : List Value} {F : List Nat} (h : AC W B e t c F) : c.length = 7 := by
 cases t
 simp only [AC] at h
 obtain ⟨hd, cs, Fs, rfl, _⟩ := h
 rfl
theorem zyq {W : World} {B e : Nat} : ∀ (ts : List Nd) (cs : List Value) (F : List Nat), AL W B e ts cs F → cs.length = ts.length * 7
 | [], cs, F, h => by
  simp only [AL] at h
  rw [h.1]
  rfl
 | t :: ts, cs, F, h => by
  simp only [AL] at h
  obtain ⟨c, cs', F1, F2, rfl, rfl, h3, h4⟩ := h
  rw [List.length_append, zwa h3, zyq ts cs' F2 h4, List.length_cons]
  omega
theorem zop {W : World} {B e : Nat} : ∀ (ts us : List Nd) (cs ds : List Value) (F G : List Nat), AL W B e ts cs F → AL W B e us ds G → AL W B e (ts ++ us) (cs ++ ds) (F ++ G)
 | [], us, cs, ds, F, G, h, g => by
  simp only [AL] at h
  obtain ⟨rfl, rfl⟩ := h
  exact g
 | t :: ts, us, cs, ds, F, G, h, g => by
  simp only [AL] at h
  obtain ⟨c, cs', F1, F2, rfl, rfl, h3, h4⟩ := h
  rw [List.cons_append, List.append_assoc, List.append_assoc]
  simp only [AL]
  exact ⟨c, cs' ++ ds, F1, F2 ++ G, rfl, rfl, h3, zop ts us cs' ds F2 G h4 g⟩
theorem z1t {W : World} {B e : Nat} {t : Nd} {c : List Value} {F : List Nat} (h : AC W B e t c F) : AL W B e [t] c F := by
 simp only [AL]
 exact ⟨c, [], F, [], by simp, by simp, h, rfl, rfl⟩
mutual
theorem z1w {W : World} {B B' e : Nat} (hB : B' ≤ B) : ∀ (t : Nd) (c : List Value) (F : List Nat), AC W B e t c F → AC W B' e t c F
 | ⟨k1, k2, k3, k4, k5, k6, ks⟩, c, F, h => by
  simp only [AC] at h ⊢
  obtain ⟨hd, cs, Fs, h1, h2, h3, h4⟩ := h
  exact ⟨hd, cs, Fs, h1, zi3 h2 hB, h3, zv9 hB ks cs Fs h4.1, h4.2⟩
theorem zv9 {W : World} {B B' e : Nat} (hB : B' ≤ B) : ∀ (ts : List Nd) (cs : List Value) (F : List Nat), AL W B e ts cs F → AL W B' e ts cs F
 | [], cs, F, h => by
  simp only [AL] at h ⊢
  exact h
 | t :: ts, cs, F, h => by
  simp only [AL] at h ⊢
  obtain ⟨c, cs', F1, F2, h1, h2, h3, h4⟩ := h
  exact ⟨c, cs', F1, F2, h1, h2, z1w hB t c F1 h3, zv9 hB ts cs' F2 h4⟩
end
theorem zyp {W : World} {B B' e : Nat} {ts : List Nd} {h : Value} {F : List Nat} (hr : AR W B e ts h F) (hB : B' ≤ B) : AR W B' e ts h F := by
 obtain ⟨cs, Fs, h1, h2, h3⟩ := hr
 exact ⟨cs, Fs, zi3 h1 hB, h2, zv9 hB ts cs Fs h3.1, h3.2⟩
theorem zq2 (W : World) (B e : Nat) : AR W B e [] (.slice none 0 0) [] := ⟨[], [], ⟨rfl, .inl ⟨rfl, rfl⟩⟩, rfl, ⟨rfl, rfl⟩, fun g hg => by cases hg⟩
theorem z1u {W : World} {B e : Nat} : ∀ (ts : List Nd) (cs : List Value) (F : List Nat) (i : Nat) (t : Nd), AL W B e ts cs F → ts[i]? = some t → ∃ c Fi, AC W B e t c Fi ∧ (∀ j v, c[j]? = some v → cs[i * 7 + j]? = some v) ∧ ∀ g ∈ Fi, g ∈ F
 | [], cs, F, i, t, h, hi => by simp at hi
 | u :: ts, cs, F, 0, t, h, hi => by
  simp only [AL] at h
  obtain ⟨c, cs', F1, F2, rfl, rfl, h3, h4⟩ := h
  have : u = t := by simpa using hi
  subst this
  refine ⟨c, F1, h3, fun j v hj => ?_, fun g hg => List.mem_append_left _ hg⟩
  rw [Nat.zero_mul, Nat.zero_add, List.getElem?_append_left (List.getElem?_eq_some_iff.1 hj).1]
  exact hj
 | u :: ts, cs, F, i + 1, t, h, hi => by
  simp only [AL] at h
  obtain ⟨c, cs', F1, F2, rfl, rfl, h3, h4⟩ := h
  obtain ⟨c2, Fi, k1, k2, k3⟩ := z1u ts cs' F2 i t h4 (by simpa using hi)
  refine ⟨c2, Fi, k1, fun j v hj => ?_, fun g hg => List.mem_append_right _ (k3 g hg)⟩
  rw [show (i + 1) * 7 + j = c.length + (i * 7 + j) by rw [zwa h3]; omega, List.getElem?_append_right (by omega), Nat.add_sub_cancel_left]
  exact k2 j v hj
theorem z1i {W : World} {B e : Nat} : ∀ (ts : List Tree) (cs : List Value) (F : List Nat) (i : Nat) (t : Tree), TL W B e ts cs F → ts[i]? = some t → ∃ c Fi, TC W B e t c Fi ∧ (∀ j v, c[j]? = some v → cs[i * 3 + j]? = some v) ∧ ∀ g ∈ Fi, g ∈ F
 | [], cs, F, i, t, h, hi => by simp at hi
 | u :: ts, cs, F, 0, t, h, hi => by
  simp only [TL] at h
  obtain ⟨c, cs', F1, F2, rfl, rfl, h3, h4⟩ := h
  have : u = t := by simpa using hi
  subst this
  refine ⟨c, F1, h3, fun j v hj => ?_, fun g hg => List.mem_append_left _ hg⟩
  rw [Nat.zero_mul, Nat.zero_add, List.getElem?_append_left (List.getElem?_eq_some_iff.1 hj).1]
  exact hj
 | u :: ts, cs, F, i + 1, t, h, hi => by
  simp only [TL] at h
  obtain ⟨c, cs', F1, F2, rfl, rfl, h3, h4⟩ := h
  obtain ⟨c2, Fi, k1, k2, k3⟩ := z1i ts cs' F2 i t h4 (by simpa using hi)
  refine ⟨c2, Fi, k1, fun j v hj => ?_, fun g hg => List.mem_append_right _ (k3 g hg)⟩
  rw [show (i + 1) * 3 + j = c.length + (i * 3 + j) by rw [zyj h3]; omega, List.getElem?_append_right (by omega), Nat.add_sub_cancel_left]
  exact k2 j v hj
end Go.Proofs.YtmoelofaojgjfaaGreatDoor.Par
