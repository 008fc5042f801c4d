/- Packed texts, part 4: contracts and plain lemmas towards outlineConcatenation_holds. -/
import Derived.Test.YtmoelofaojgjfaaGreatDoorQ3
import Derived.Deep.LoopGhost
import Derived.Maps.AppendAt
import Derived.StillTailTactics
import Derived.Deep.RegionHeld3
set_option maxHeartbeats 8000000
set_option maxRecDepth 1000000
set_option linter.unusedVariables false
set_option linter.unusedSimpArgs false
namespace Go.Proofs.YtmoelofaojgjfaaGreatDoor.Par
open Go.RowKit Go.Proofs.YtmoelofaojgjfaaGreatDoorW.PrintWords Go.Proofs.YtmoelofaojgjfaaGreatDoorW.PrintLast
variable {B : Nat} {T : List Tok} {tv : Value} {pb : Nat} {m : Nat} {low : List Tree} {kd : Int} {tx : ByteArray} {W0 : World} {F0 : List Nat} {W : World} {s : St}
theorem Now.cells (N : Now B T tv pb m low kd tx W0 F0 W s) : W.cell? ⟨pb, 1, none⟩ = some (.int .i64 (s.1 : Int)) := by
 obtain ⟨F, h1, h2⟩ := N.st
 exact h1.cells.2.1
theorem and3 {a b c : Bool} {x y : Ans} {q : Bool × St} (h : (if (!a && !b && !c) = true then x else y) = some q) : (a = true ∧ y = some q) ∨ (a = false ∧ b = true ∧ y = some q) ∨ (a = false ∧ b = false ∧ c = true ∧ y = some q) ∨ (a = false ∧ b = false ∧ c = false ∧ x = some q) := by
 cases a <;> cases b <;> cases c <;> simp_all
theorem zdm {k : Nat} {x : NT} {closing : ByteArray} {q : Bool × St} (fid : Nat) (bound free : Array Value) (hen : ∀ args w, (callFunc fid args).run Tryz.prog w = .ok (.enter fid args) w) (hlow : low.length < 10000000)
  (hd : Does B T tv pb k x fid (bound ++ free) low kd tx W0 F0) (N : Now B T tv pb m low kd tx W0 F0 W s) (hr : run T k (.list closing x) s = some q) :
  Calls Tryz.prog 276 #[.pointer (some ⟨pb, 0, none⟩), .string closing, .func (.func fid) bound free] W (NowP B T tv pb 10000000 low kd tx W0 F0 (.tuple #[]) q.2) := by
 obtain ⟨j, rfl, h1, h2, h3⟩ := zad hr
 obtain ⟨p, hp, h4⟩ := zu h2
 have H0 := ak (N.fit h1)
 have HD := ak hd
 have E0 := ak hp
 have E9 := ak (And.intro (zaw (zbh h4)) h3)
 clear N hd h1 h2 h3 hr hp h4
 go_enter Tryz.func276, Tryz.ntmps276
 go_wp2_with fail
 go_loopg [] j (fun g wr => ∃ s1, Now B T tv pb 10000000 low kd tx W0 F0 wr s1 ∧ run T g (.listLoop closing x) s1 = some p ∧ g ≤ j)
 case atStart => exact ⟨s, H0.out, E0.out, Nat.le_refl _⟩
 case round =>
  obtain ⟨s1, N1, hr1, hg⟩ := hrel
  obtain ⟨i, rfl, f1, f2, f3⟩ := zad hr1
  have H1 := ak N1
  have E1 := ak (And.intro (and3 f2) f3)
  have hi := ak hg
  clear N1 hr1 hg f1 f2 f3
  go_wp2_with fail
  refine (zbk H1.out [closing] (by simp)).mono ?_
  rintro e W2 ⟨rfl, N2⟩
  have H2 := ak N2
  clear N2 H1
  cases hat : atT T s1.1 [closing]
  ·go_wp2_with fail
   refine (zfy H2.out).mono ?_
   rintro e W3 ⟨rfl, N3⟩
   have H3 := ak N3
   clear N3 H2
   cases heof : eofT T s1.1
   ·go_wp2_with fail
    refine (zs3 H3.out).mono ?_
    rintro e W4 ⟨rfl, N4⟩
    have H4 := ak N4
    have c4 := N4.cells
    clear N4 H3
    cases hit : zea T s1.1
    ·obtain ⟨E2, f3⟩ := E1.out
     have E3 : zar (∃ r, run T i x s1 = some r ∧ run T i (.listLoop closing x) (if r.2.1 = s1.1 then zes T r.2 else if atT T r.2.1 [closing] = true then r.2 else zx T (⟨#[44]⟩ : ByteArray) r.2) = some p) := by
      rcases E2 with ⟨h, _⟩ | ⟨_, h, _⟩ | ⟨_, _, h, _⟩ | ⟨_, _, _, h⟩
      ·rw [hat] at h; cases h
      ·rw [heof] at h; cases h
      ·rw [hit] at h; cases h
      ·exact ⟨zcp h⟩
     clear E2 f3 E1 hat heof hit
     obtain ⟨r, e1, e2⟩ := E3.out
     have E4 := ak (And.intro e1 e2)
     clear e1 e2 E3
     obtain ⟨n1, hn1⟩ : ∃ n1, Hid (s1.1 = n1) := ⟨_, rfl⟩
     rw [show s1.1 = n1 from hn1] at c4
     go_wp2_with fail
     refine (HD.out i (by have := hi.out; omega) _ _ _ _ (by omega) H4.out E4.out.1).mono ?_
     rintro e W5 ⟨⟨v, rfl⟩, m', N5'⟩
     have N5 := N5'.fit (zce E4.out.1)
     have H5 := ak N5
     have c5 := N5.cells
     obtain ⟨n2, hn2⟩ : ∃ n2, Hid (r.2.1 = n2) := ⟨_, rfl⟩
     rw [show r.2.1 = n2 from hn2] at c5
     clear N5 N5' H4 c4
     by_cases heq : n2 = n1
     ·have hb : ((n2 : Int) == (n1 : Int)) = true := by rw [heq]; simp
      have E5 := ak (show run T i (.listLoop closing x) (zes T r.2) = some p by have := E4.out.2; rwa [if_pos (by rw [show r.2.1 = n2 from hn2, show s1.1 = n1 from hn1]; exact heq)] at this)
      have HQ := ak heq
      clear heq
      go_wp2_with fail
      refine (zis H5.out (by omega) hlow).mono ?_
      rintro e W6 ⟨rfl, N6⟩
      have H6 := ak N6
      clear N6
      go_wp2_with fail
      go_roundg i
      case rel =>
       obtain ⟨_, h, g1, _, _⟩ := zad E5.out
       exact ⟨_, H6.out.fit g1, E5.out, by have := hi.out; omega⟩
      case measure => omega
     ·have hb : ((n2 : Int) == (n1 : Int)) = false := beq_eq_false_iff_ne.2 (by omega)
      have E5 := ak (show run T i (.listLoop closing x) (if atT T r.2.1 [closing] = true then r.2 else zx T (⟨#[44]⟩ : ByteArray) r.2) = some p by have := E4.out.2; rwa [if_neg (by rw [show r.2.1 = n2 from hn2, show s1.1 = n1 from hn1]; exact heq)] at this)
      clear heq
      go_wp2_with fail
      refine (zbk H5.out [closing] (by simp)).mono ?_
      rintro e W6 ⟨rfl, N6⟩
      have H6 := ak N6
      clear N6 H5
      cases hat2 : atT T r.2.1 [closing]
      ·have E6 := ak (show run T i (.listLoop closing x) (zx T (⟨#[44]⟩ : ByteArray) r.2) = some p by have := E5.out; rwa [if_neg (by rw [hat2]; simp)] at this)
       clear hat2
       go_wp2_with fail
       refine (zag H6.out (by omega) _).mono ?_
       rintro e W7 ⟨rfl, N7⟩
       have H7 := ak N7
       clear N7
       go_wp2_with fail
       go_roundg i
       case rel =>
        obtain ⟨_, h, g1, _, _⟩ := zad E6.out
        exact ⟨_, H7.out.fit g1, E6.out, by have := hi.out; omega⟩
       case measure => omega
      ·have E6 := ak (show run T i (.listLoop closing x) r.2 = some p by have := E5.out; rwa [if_pos hat2] at this)
       clear hat2
       go_wp2_with fail
       go_roundg i
       case rel => exact ⟨_, H6.out, E6.out, by have := hi.out; omega⟩
       case measure => omega
    ·have E2 : zar (p = (false, s1)) := by
      rcases E1.out.1 with ⟨h, g⟩ | ⟨_, h, g⟩ | ⟨_, _, h, g⟩ | ⟨_, _, h, _⟩
      ·exact ⟨zab g⟩
      ·exact ⟨zab g⟩
      ·exact ⟨zab g⟩
      ·rw [hit] at h; cases h
     clear E1 hat heof hit c4
     go_wp2_with fail
     refine (zag H4.out (by omega) _).mono ?_
     rintro e W7 ⟨rfl, N7⟩
     have H7 := ak N7
     clear N7
     go_wp2_with fail
     go_end0
     obtain ⟨hq, hf⟩ := E9.out
     rw [E2.out] at hq
     subst hq
     exact ⟨rfl, H7.out.fit hf⟩
   ·have E2 : zar (p = (false, s1)) := by
     rcases E1.out.1 with ⟨h, g⟩ | ⟨_, h, g⟩ | ⟨_, _, h, g⟩ | ⟨_, h, _, _⟩
     ·exact ⟨zab g⟩
     ·exact ⟨zab g⟩
     ·exact ⟨zab g⟩
     ·rw [heof] at h; cases h
    clear E1 hat heof
    go_wp2_with fail
    refine (zag H3.out (by omega) _).mono ?_
    rintro e W7 ⟨rfl, N7⟩
    have H7 := ak N7
    clear N7
    go_wp2_with fail
    go_end0
    obtain ⟨hq, hf⟩ := E9.out
    rw [E2.out] at hq
    subst hq
    exact ⟨rfl, H7.out.fit hf⟩
  ·have E2 : zar (p = (false, s1)) := by
    rcases E1.out.1 with ⟨h, g⟩ | ⟨_, h, g⟩ | ⟨_, _, h, g⟩ | ⟨h, _, _, _⟩
    ·exact ⟨zab g⟩
    ·exact ⟨zab g⟩
    ·exact ⟨zab g⟩
    ·rw [hat] at h; cases h
   clear E1 hat
   go_wp2_with fail
   refine (zag H2.out (by omega) _).mono ?_
   rintro e W7 ⟨rfl, N7⟩
   have H7 := ak N7
   clear N7
   go_wp2_with fail
   go_end0
   obtain ⟨hq, hf⟩ := E9.out
   rw [E2.out] at hq
   subst hq
   exact ⟨rfl, H7.out.fit hf⟩
end Go.Proofs.YtmoelofaojgjfaaGreatDoor.Par
namespace Go.Proofs.YtmoelofaojgjfaaGreatDoor.PA
open Go.RowKit Go.Proofs.YtmoelofaojgjfaaGreatDoorW.PrintWords Go.Proofs.YtmoelofaojgjfaaGreatDoorW.PrintLast
def lexer_isLetter.f (a0 : Int) : Option (Bool) := if a0 ≥ 97 then (if a0 ≤ 122 then (some true) else (if a0 ≥ 65 then (if a0 ≤ 90 then (some true) else (some (a0 == 95))) else (some (a0 == 95)))) else (if a0 ≥ 65 then (if a0 ≤ 90 then (some true) else (some (a0 == 95))) else (some (a0 == 95)))
theorem lexer_isLetter.calls (a0 : Int) (r : Bool) (w : World) (h : lexer_isLetter.f a0 = some r) :
  Calls Tryz.prog 175 #[.int .u8 a0] w fun e w' => e = .returned (.bool r) ∧ zav w w' := by
 have H : (if a0 ≥ 97 then (if a0 ≤ 122 then (some true) else (if a0 ≥ 65 then (if a0 ≤ 90 then (some true) else (some (a0 == 95))) else (some (a0 == 95)))) else (if a0 ≥ 65 then (if a0 ≤ 90 then (some true) else (some (a0 == 95))) else (some (a0 == 95)))) = some r := h
 clear h
 by_cases c2 : a0 ≥ 97
 ·rw [if_pos c2] at H
  have c2b0 : decide (97 ≤ a0) = true := decide_eq_true c2
  clear c2
  by_cases c3 : a0 ≤ 122
  ·rw [if_pos c3] at H
   have c3b0 : decide (a0 ≤ 122) = true := decide_eq_true c3
   clear c3
   obtain rfl := Option.some.inj H
   go_enter Tryz.func175, Tryz.ntmps175
   go_wp2
   go_ret
   exact ⟨by first | rfl | (simp; done) | (simp [*]; done), by repeat (first | exact zav.refl _ | apply zav.step)⟩
  ·rw [if_neg c3] at H
   have c3b0 : decide (a0 ≤ 122) = false := decide_eq_false c3
   clear c3
   by_cases c4 : a0 ≥ 65
   ·rw [if_pos c4] at H
    have c4b0 : decide (65 ≤ a0) = true := decide_eq_true c4
    clear c4
    by_cases c5 : a0 ≤ 90
    ·rw [if_pos c5] at H
     have c5b0 : decide (a0 ≤ 90) = true := decide_eq_true c5
     clear c5
     obtain rfl := Option.some.inj H
     go_enter Tryz.func175, Tryz.ntmps175
     go_wp2
     go_ret
     exact ⟨by first | rfl | (simp; done) | (simp [*]; done), by repeat (first | exact zav.refl _ | apply zav.step)⟩
    ·rw [if_neg c5] at H
     have c5b0 : decide (a0 ≤ 90) = false := decide_eq_false c5
     clear c5
     obtain rfl := Option.some.inj H
     go_enter Tryz.func175, Tryz.ntmps175
     go_wp2
     go_ret
     exact ⟨by first | rfl | (simp; done) | (simp [*]; done), by repeat (first | exact zav.refl _ | apply zav.step)⟩
   ·rw [if_neg c4] at H
    have c4b0 : decide (65 ≤ a0) = false := decide_eq_false c4
    clear c4
    obtain rfl := Option.some.inj H
    go_enter Tryz.func175, Tryz.ntmps175
    go_wp2
    go_ret
    exact ⟨by first | rfl | (simp; done) | (simp [*]; done), by repeat (first | exact zav.refl _ | apply zav.step)⟩
 ·rw [if_neg c2] at H
  have c2b0 : decide (97 ≤ a0) = false := decide_eq_false c2
  clear c2
  by_cases c6 : a0 ≥ 65
  ·rw [if_pos c6] at H
   have c6b0 : decide (65 ≤ a0) = true := decide_eq_true c6
   clear c6
   by_cases c7 : a0 ≤ 90
   ·rw [if_pos c7] at H
    have c7b0 : decide (a0 ≤ 90) = true := decide_eq_true c7
    clear c7
    obtain rfl := Option.some.inj H
    go_enter Tryz.func175, Tryz.ntmps175
    go_wp2
    go_ret
    exact ⟨by first | rfl | (simp; done) | (simp [*]; done), by repeat (first | exact zav.refl _ | apply zav.step)⟩
   ·rw [if_neg c7] at H
    have c7b0 : decide (a0 ≤ 90) = false := decide_eq_false c7
    clear c7
    obtain rfl := Option.some.inj H
    go_enter Tryz.func175, Tryz.ntmps175
    go_wp2
    go_ret
    exact ⟨by first | rfl | (simp; done) | (simp [*]; done), by repeat (first | exact zav.refl _ | apply zav.step)⟩
  ·rw [if_neg c6] at H
   have c6b0 : decide (65 ≤ a0) = false := decide_eq_false c6
   clear c6
   obtain rfl := Option.some.inj H
   go_enter Tryz.func175, Tryz.ntmps175
   go_wp2
   go_ret
   exact ⟨by first | rfl | (simp; done) | (simp [*]; done), by repeat (first | exact zav.refl _ | apply zav.step)⟩
def lexer_isDigit.f (a0 : Int) : Option (Bool) := if a0 ≥ 48 then (some (decide (a0 ≤ 57))) else (some false)
theorem lexer_isDigit.calls (a0 : Int) (r : Bool) (w : World) (h : lexer_isDigit.f a0 = some r) :
  Calls Tryz.prog 177 #[.int .u8 a0] w fun e w' => e = .returned (.bool r) ∧ zav w w' := by
 have H : (if a0 ≥ 48 then (some (decide (a0 ≤ 57))) else (some false)) = some r := h
 clear h
 by_cases c2 : a0 ≥ 48
 ·rw [if_pos c2] at H
  have c2b0 : decide (48 ≤ a0) = true := decide_eq_true c2
  clear c2
  obtain rfl := Option.some.inj H
  go_enter Tryz.func177, Tryz.ntmps177
  go_wp2
  go_ret
  exact ⟨by first | rfl | (simp; done) | (simp [*]; done), by repeat (first | exact zav.refl _ | apply zav.step)⟩
 ·rw [if_neg c2] at H
  have c2b0 : decide (48 ≤ a0) = false := decide_eq_false c2
  clear c2
  obtain rfl := Option.some.inj H
  go_enter Tryz.func177, Tryz.ntmps177
  go_wp2
  go_ret
  exact ⟨by first | rfl | (simp; done) | (simp [*]; done), by repeat (first | exact zav.refl _ | apply zav.step)⟩
end Go.Proofs.YtmoelofaojgjfaaGreatDoor.PA
namespace Go.Proofs.YtmoelofaojgjfaaGreatDoor.Lex
open Go.RowKit Go.Proofs.YtmoelofaojgjfaaGreatDoorW.PrintWords Go.Proofs.YtmoelofaojgjfaaGreatDoorW.PrintLast
theorem zel {a b c : World} (h : zav a b) (k : zav b c) : zav a c := by
 obtain ⟨⟨n, rfl⟩⟩ := k
 exact h.step n
def zch (b : UInt8) : Bool := decide (0 ≤ Lib.indexByte [32, 9, 10, 13] b)
def zfd (b : UInt8) : Bool := (decide (97 ≤ b.toNat) && decide (b.toNat ≤ 122)) || ((decide (65 ≤ b.toNat) && decide (b.toNat ≤ 90)) || decide (b.toNat = 95))
def zhb (b : UInt8) : Bool := decide (48 ≤ b.toNat) && decide (b.toNat ≤ 57)
def zk2 (b : UInt8) : Bool := zfd b || zhb b
def zh1 (b : UInt8) : Bool := !decide (b.toNat = 10)
def Pred (fid : Nat) (p : UInt8 → Bool) : Prop := ∀ (b : UInt8) (w : World), Calls Tryz.prog fid #[.int .u8 (b.toNat : Int)] w fun e w' => e = .returned (.bool (p b)) ∧ zav w w'
theorem zw8 (b : UInt8) : PA.lexer_isLetter.f (b.toNat : Int) = some (zfd b) := by
 unfold PA.lexer_isLetter.f zfd
 by_cases h1 : 97 ≤ b.toNat <;> by_cases h2 : b.toNat ≤ 122 <;> by_cases h3 : 65 ≤ b.toNat <;> by_cases h4 : b.toNat ≤ 90 <;> by_cases h5 : b.toNat = 95 <;>
  (simp [show ((b.toNat : Int) ≥ 97) ↔ 97 ≤ b.toNat by omega, show ((b.toNat : Int) ≤ 122) ↔ b.toNat ≤ 122 by omega, show ((b.toNat : Int) ≥ 65) ↔ 65 ≤ b.toNat by omega, show ((b.toNat : Int) ≤ 90) ↔ b.toNat ≤ 90 by omega, show (97 ≤ (b.toNat : Int)) ↔ 97 ≤ b.toNat by omega, show (65 ≤ (b.toNat : Int)) ↔ 65 ≤ b.toNat by omega, h1, h2, h3, h4, h5] <;> omega)
theorem zzy (b : UInt8) : PA.lexer_isDigit.f (b.toNat : Int) = some (zhb b) := by
 unfold PA.lexer_isDigit.f zhb
 by_cases h1 : 48 ≤ b.toNat <;> by_cases h2 : b.toNat ≤ 57 <;>
  (simp [show ((b.toNat : Int) ≥ 48) ↔ 48 ≤ b.toNat by omega, show (48 ≤ (b.toNat : Int)) ↔ 48 ≤ b.toNat by omega, show ((b.toNat : Int) ≤ 57) ↔ b.toNat ≤ 57 by omega, h1, h2] <;> omega)
theorem zg4 : Pred 175 zfd := fun b w => PA.lexer_isLetter.calls _ _ w (zw8 b)
theorem zfw : Pred 177 zhb := fun b w => PA.lexer_isDigit.calls _ _ w (zzy b)
theorem zh3 : Pred 172 zch := by
 intro b w
 go_enter Tryz.func172, Tryz.ntmps172
 go_wp2_with fail
 refine (Tryz.strings_IndexByte _ _ _).mono ?_
 rintro e w1 ⟨rfl, rfl⟩
 go_wp2_with fail
 go_ret
 exact ⟨by simp [zch], by repeat (first | exact zav.refl _ | apply zav.step)⟩
theorem zru : Pred 174 zh1 := by
 intro b w
 go_enter Tryz.func174, Tryz.ntmps174
 go_wp2_with fail
 go_ret
 exact ⟨by by_cases h : b.toNat = 10 <;> simp [zh1, h] <;> omega, by repeat (first | exact zav.refl _ | apply zav.step)⟩
theorem zi4 : Pred 240 zh1 := by
 intro b w
 go_enter Tryz.func240, Tryz.ntmps240
 go_wp2_with fail
 go_ret
 exact ⟨by by_cases h : b.toNat = 10 <;> simp [zh1, h] <;> omega, by repeat (first | exact zav.refl _ | apply zav.step)⟩
theorem zs8 : Pred 176 zk2 := by
 intro b w
 go_enter Tryz.func176, Tryz.ntmps176
 go_wp2_with fail
 refine (zg4 b _).mono ?_
 rintro e w1 ⟨rfl, d1⟩
 cases h : zfd b
 ·go_wp2_with fail
  refine (zfw b _).mono ?_
  rintro e w2 ⟨rfl, d2⟩
  go_wp2_with fail
  go_ret
  exact ⟨by simp [zk2, h], zel d1 d2⟩
 ·go_wp2_with fail
  go_ret
  exact ⟨by simp [zk2, h], d1⟩
def zc4 (p : UInt8 → Bool) (s : List UInt8) (i : Nat) : Nat := i + ((s.drop i).takeWhile p).length
theorem zwm {p : UInt8 → Bool} {s : List UInt8} {i : Nat} (hi : i < s.length) (h : p s[i] = true) : zc4 p s (i + 1) = zc4 p s i := by
 unfold zc4
 rw [List.drop_eq_getElem_cons hi, List.takeWhile_cons, h]
 simp; omega
theorem zrf {p : UInt8 → Bool} {s : List UInt8} {i : Nat} (hi : i < s.length) (h : p s[i] = false) : zc4 p s i = i := by
 unfold zc4
 rw [List.drop_eq_getElem_cons hi, List.takeWhile_cons, h]
 simp
theorem ztp {p : UInt8 → Bool} {s : List UInt8} {i : Nat} (hi : s.length ≤ i) : zc4 p s i = i := by
 unfold zc4
 rw [List.drop_eq_nil_of_le hi]
 simp
theorem zef {s : ByteArray} {i : Nat} {fid : Nat} {p : UInt8 → Bool} (hp : Pred fid p) (hen : ∀ args w, (callFunc fid args).run Tryz.prog w = .ok (.enter fid args) w) (hi : i ≤ s.size) (hs : s.size ≤ 100000) (w : World) :
  Calls Tryz.prog 173 #[.string s, .int .i64 (i : Int), .func (.func fid) #[] #[]] w fun e w' => e = .returned (.int .i64 (zc4 p s.data.toList i : Nat)) ∧ zav w w' := by
 have HP := ak hp
 clear hp
 go_enter Tryz.func173, Tryz.ntmps173
 go_wp2_with fail
 go_loopw [1] (fun z wr => ∃ j : Nat, j ≤ s.size ∧ z = .int .i64 (j : Int) ∧ zc4 p s.data.toList j = zc4 p s.data.toList i ∧ zav w wr) (fun z wr => s.size - (intOf z).toNat)
 case atStart => exact ⟨i, hi, rfl, rfl, by repeat (first | exact zav.refl _ | apply zav.step)⟩
 case round =>
  obtain ⟨j, hj, rfl, hsc, hdr⟩ := hrel
  have HR := ak (And.intro hsc hdr)
  clear hsc hdr
  by_cases hlt : j < s.size
  ·have i1 : (j : Int) < (s.size : Int) := by omega
   have i1b : decide ((j : Int) < (s.size : Int)) = true := decide_eq_true i1
   have i0 : (0 : Int) ≤ (j : Int) := by omega
   have hw : IntKind.i64.wrap ((j : Int) + 1) = (j : Int) + 1 := by rw [IntKind.wrap_i64]; omega
   have hlt2 : j < s.data.toList.length := by simpa using hlt
   go_wp2_with fail
   refine (HP.out s[j] _).mono ?_
   rintro e w1 ⟨rfl, d1⟩
   have D1 := ak d1
   clear d1
   cases hb : p s[j]
   ·go_wp2_with fail
    go_ret
    have e1 := zrf (p := p) hlt2 hb
    exact ⟨by rw [← HR.out.1, e1]; rfl, zel HR.out.2 D1.out⟩
   ·have e1 := zwm (p := p) hlt2 hb
    go_wp2_with fail
    exact ⟨⟨j + 1, by omega, by simp, e1.trans HR.out.1, zel HR.out.2 D1.out⟩, by simp only [intOf]; omega⟩
  ·have i1 : ¬ (j : Int) < (s.size : Int) := by omega
   have i1b : decide ((j : Int) < (s.size : Int)) = false := decide_eq_false i1
   go_wp2_with fail
   go_ret
   have e1 := ztp (p := p) (s := s.data.toList) (i := j) (by simpa using hlt)
   exact ⟨by rw [← HR.out.1, e1]; rfl, HR.out.2⟩
def zdj (s : List UInt8) : Nat → Nat → Option Nat
 | 0, _ => none
 | f + 1, i => match s[i]? with
  | none => none
  | some b => if b.toNat = 10 then none else if b.toNat = 34 then some (i + 1) else
   if b.toNat = 92 then match s[i + 1]? with
    | none => zdj s f (i + 1)
    | some c => if c.toNat = 10 then zdj s f (i + 1) else zdj s f (i + 2)
   else zdj s f (i + 1)
def zc9 (s : List UInt8) : Nat × Int := match zdj s (s.length + 1) 1 with
 | some n => (n, 106)
 | none => (zc4 zh1 s 1, 108)
theorem z1a : ∀ args w, (callFunc 240 args).run Tryz.prog w = .ok (.enter 240 args) w := enters_of Tryz.func240 (by kernel_rfl) rfl
theorem zwf {s : List UInt8} {f i n : Nat} (h : zdj s f i = some n) : i < n ∧ n ≤ s.length := by
 induction f generalizing i with
 | zero => simp [zdj] at h
 | succ f ih =>
  unfold zdj at h
  cases hb : s[i]? with
  | none => simp [hb] at h
  | some b =>
   have hi : i < s.length := (List.getElem?_eq_some_iff.mp hb).1
   simp only [hb] at h
   split at h
   ·simp at h
   ·split at h
    ·simp at h; omega
    ·split at h
     ·split at h
      ·have := ih h; omega
      ·split at h
       ·have := ih h; omega
       ·have := ih h; omega
     ·have := ih h; omega
theorem zmm {s : List UInt8} {f i : Nat} (h : s.length ≤ i) : zdj s f i = none := by
 cases f with
 | zero => rfl
 | succ f => unfold zdj; rw [List.getElem?_eq_none h]
theorem zwe {s : List UInt8} {f i : Nat} (h : i < s.length) (hb : s[i].toNat = 10) : zdj s f i = none := by
 cases f with
 | zero => rfl
 | succ f => unfold zdj; rw [List.getElem?_eq_getElem h]; simp [hb]
theorem zo2 {s : List UInt8} {f i : Nat} (h : i < s.length) (hf : 0 < f) (hb : s[i].toNat = 34) : zdj s f i = some (i + 1) := by
 obtain ⟨g, rfl⟩ : ∃ g, f = g + 1 := ⟨f - 1, by omega⟩
 unfold zdj; rw [List.getElem?_eq_getElem h]; simp [hb]
theorem ztm {s : List UInt8} {f i : Nat} (h : i + 1 < s.length) (hf : 0 < f) (hb : s[i].toNat = 92) (hc : ¬ s[i + 1].toNat = 10) : zdj s f i = zdj s (f - 1) (i + 2) := by
 obtain ⟨g, rfl⟩ : ∃ g, f = g + 1 := ⟨f - 1, by omega⟩
 rw [zdj, List.getElem?_eq_getElem (show i < s.length by omega), List.getElem?_eq_getElem h]; simp [hb, hc]
theorem zhp {s : List UInt8} {f i : Nat} (h : i < s.length) (hf : 0 < f) (h1 : ¬ s[i].toNat = 10) (h2 : ¬ s[i].toNat = 34) (h3 : s[i].toNat = 92 → ∀ hl : i + 1 < s.length, s[i + 1].toNat = 10) : zdj s f i = zdj s (f - 1) (i + 1) := by
 obtain ⟨g, rfl⟩ : ∃ g, f = g + 1 := ⟨f - 1, by omega⟩
 rw [zdj, List.getElem?_eq_getElem h]
 by_cases h4 : s[i].toNat = 92
 ·by_cases hl : i + 1 < s.length
  ·rw [List.getElem?_eq_getElem hl]; simp [h4, h3 h4 hl]
  ·rw [List.getElem?_eq_none (Nat.le_of_not_lt hl)]; simp [h4]
 ·simp [h1, h2, h4]
theorem zid {s : ByteArray} (hi : 1 ≤ s.size) (hs : s.size ≤ 100000) (w : World) :
  Calls Tryz.prog 180 #[.string s] w fun e w' => e = .returned (.tuple #[.int .i64 ((zc9 s.data.toList).1 : Int), .int .i64 (zc9 s.data.toList).2]) ∧ zav w w' := by
 go_enter Tryz.func180, Tryz.ntmps180
 go_wp2_with fail
 go_loopw [4] (fun z wr => ∃ j f : Nat, 1 ≤ j ∧ j ≤ s.size ∧ z = .int .i64 (j : Int) ∧ s.size < f + j ∧ zdj s.data.toList f j = zdj s.data.toList (s.data.toList.length + 1) 1 ∧ zav w wr) (fun z wr => s.size - (intOf z).toNat)
 case atStart => exact ⟨1, s.data.toList.length + 1, by omega, hi, rfl, by simp; omega, rfl, by repeat (first | exact zav.refl _ | apply zav.step)⟩
 case round =>
  obtain ⟨j, f, hj1, hj, rfl, hf, hsc, hdr⟩ := hrel
  have HR := ak (And.intro hsc hdr)
  have HF := ak hf
  clear hsc hdr hf
  by_cases hlt : j < s.size
  ·have i1 : (j : Int) < (s.size : Int) := by omega
   have i1b : decide ((j : Int) < (s.size : Int)) = true := decide_eq_true i1
   have i0 : (0 : Int) ≤ (j : Int) := by omega
   have i01 : (0 : Int) ≤ (j : Int) + 1 := by omega
   have hw : IntKind.i64.wrap ((j : Int) + 1) = (j : Int) + 1 := by rw [IntKind.wrap_i64]; omega
   have hlt2 : j < s.data.toList.length := by simpa using hlt
   by_cases h10 : s[j].toNat = 10
   ·have c10 : ((s[j].toNat : Int) != 10) = false := by simp [h10]
    have e1 := zwe (f := f) hlt2 h10
    have S0 := ak (show zc9 s.data.toList = (zc4 zh1 s.data.toList 1, 108) by rw [zc9, ← HR.out.1, e1])
    clear e1
    go_wp2_with fail
    refine (zef zi4 z1a hi hs _).mono ?_
    rintro e w1 ⟨rfl, d1⟩
    have D1 := ak d1
    clear d1
    go_wp2_with fail
    go_ret2
    exact ⟨by rw [S0.out]; rfl, zel HR.out.2 D1.out⟩
   ·have c10 : ((s[j].toNat : Int) != 10) = true := by simp [h10]; omega
    by_cases h34 : s[j].toNat = 34
    ·have c34 : ((s[j].toNat : Int) == 34) = true := by simp [h34]
     have e1 := zo2 (f := f) hlt2 (by have := HF.out; omega) h34
     have S0 := ak (show zc9 s.data.toList = (j + 1, 106) by rw [zc9, ← HR.out.1, e1])
     clear e1
     go_wp2_with fail
     go_ret2
     exact ⟨by rw [S0.out]; simp, HR.out.2⟩
    ·have c34 : ((s[j].toNat : Int) == 34) = false := by simp [h34]; omega
     by_cases h92 : s[j].toNat = 92
     ·have c92 : (s[j].toNat : Int) = 92 := by omega
      by_cases hl : j + 1 < s.size
      ·have cl : (j : Int) + 1 < (s.size : Int) := by omega
       have hl2 : j + 1 < s.data.toList.length := by simpa using hl
       have hw2 : IntKind.i64.wrap ((j : Int) + 1 + 1) = (j : Int) + 1 + 1 := by rw [IntKind.wrap_i64]; omega
       by_cases h11 : s[j + 1].toNat = 10
       ·have c11 : ((s[j + 1].toNat : Int) != 10) = false := by simp [h11]
        have S0 := ak (zhp (f := f) hlt2 (by have := HF.out; omega) h10 h34 (fun _ _ => h11))
        go_wp2_with fail
        exact ⟨⟨j + 1, f - 1, by omega, by omega, by simp, by have := HF.out; omega, S0.out.symm.trans HR.out.1, HR.out.2⟩, by simp only [intOf]; omega⟩
       ·have c11 : ((s[j + 1].toNat : Int) != 10) = true := by simp [h11]; omega
        have S0 := ak (ztm (f := f) hl2 (by have := HF.out; omega) h92 h11)
        go_wp2_with fail
        exact ⟨⟨j + 2, f - 1, by omega, by omega, by simp; omega, by have := HF.out; omega, S0.out.symm.trans HR.out.1, HR.out.2⟩, by simp only [intOf]; omega⟩
      ·have cl : ¬ (j : Int) + 1 < (s.size : Int) := by omega
       have S0 := ak (zhp (f := f) hlt2 (by have := HF.out; omega) h10 h34 (fun _ hh => absurd (by simpa using hh) hl))
       go_wp2_with fail
       exact ⟨⟨j + 1, f - 1, by omega, by omega, by simp, by have := HF.out; omega, S0.out.symm.trans HR.out.1, HR.out.2⟩, by simp only [intOf]; omega⟩
     ·have c92 : ¬ (s[j].toNat : Int) = 92 := by omega
      have S0 := ak (zhp (f := f) hlt2 (by have := HF.out; omega) h10 h34 (fun hh _ => absurd hh h92))
      go_wp2_with fail
      exact ⟨⟨j + 1, f - 1, by omega, by omega, by simp, by have := HF.out; omega, S0.out.symm.trans HR.out.1, HR.out.2⟩, by simp only [intOf]; omega⟩
  ·have i1 : ¬ (j : Int) < (s.size : Int) := by omega
   have i1b : decide ((j : Int) < (s.size : Int)) = false := decide_eq_false i1
   have e1 := zmm (s := s.data.toList) (f := f) (i := j) (by simpa using hlt)
   have S0 := ak (show zc9 s.data.toList = (zc4 zh1 s.data.toList 1, 108) by rw [zc9, ← HR.out.1, e1])
   clear e1
   go_wp2_with fail
   refine (zef zi4 z1a hi hs _).mono ?_
   rintro e w1 ⟨rfl, d1⟩
   have D1 := ak d1
   clear d1
   go_wp2_with fail
   go_ret2
   exact ⟨by rw [S0.out]; rfl, zel HR.out.2 D1.out⟩
end Go.Proofs.YtmoelofaojgjfaaGreatDoor.Lex
namespace Go.Proofs.YtmoelofaojgjfaaGreatDoor.Lex
open Go.RowKit Go.Proofs.YtmoelofaojgjfaaGreatDoor.Par Go.Proofs.YtmoelofaojgjfaaGreatDoorW.PrintWords Go.Proofs.YtmoelofaojgjfaaGreatDoorW.PrintLast
def zll : ByteArray := ⟨([117, 115, 101, 32, 112, 117, 98, 32, 97, 115, 32, 102, 110, 32, 115, 116, 114, 117, 99, 116, 32, 101, 110, 117, 109, 32, 116, 114, 97, 105, 116, 32, 105, 109, 112, 108, 32, 102, 111, 114, 32, 99, 111, 110, 115, 116, 32, 109, 97, 99, 114, 111, 32].append [108, 101, 116, 32, 109, 117, 116, 32, 119, 104, 105, 108, 101, 32, 114, 101, 116, 117, 114, 110, 32, 109, 97, 116, 99, 104, 32, 105, 102, 32, 101, 108, 115, 101, 32, 110, 101, 119, 32, 116, 114, 117, 101, 32, 102, 97, 108, 115, 101, 32, 116, 121, 112, 101]).toArray⟩
def kwds : List ByteArray := (Lib.fields zll.data.toList).map fun l => ⟨l.toArray⟩
def zk9 : ByteArray := ⟨#[58, 58, 32, 61, 62, 32, 45, 62, 32, 61, 61, 32, 38, 38, 32, 124, 124]⟩
def twos : List ByteArray := (Lib.fields zk9.data.toList).map fun l => ⟨l.toArray⟩
theorem zqy {t : ByteArray} (h : t.data.toList.all (fun b => decide (b.toNat < 128)) = true) : ∀ (j : Nat) b, t.data.toList[j]? = some b → b.toNat < 128 := by
 intro j b hb
 exact odt (List.all_eq_true.1 h b (List.mem_of_getElem? hb))
theorem zto {t : ByteArray} (n : Nat) (h : t.size = n) (hn : n < 1000) : t.size < 4294967281 := by omega
theorem zut (W : World) (h : Spc W) :
  Calls Tryz.prog 179 #[] W fun e W' => e = .returned (.slice (some ⟨W.heap.size, 0, none⟩) kwds.length kwds.length) ∧ Below W.heap.size W W' ∧ W'.heap[W.heap.size]? = some (.cells (kwds.map Value.string).toArray 9 (0, 0)) := by
 go_enter Tryz.func179, Tryz.ntmps179
 have H := ak h
 clear h
 go_wp2_with fail
 refine (Tryz.strings_Fields zll W (zto 107 (by kernel_rfl) (by omega)) (zqy (by kernel_rfl)) H.out).mono ?_
 rintro e W1 ⟨rfl, rfl⟩
 rw [show (Lib.fields zll.data.toList).map (fun l => Value.string ⟨l.toArray⟩) = kwds.map Value.string by unfold kwds; rw [List.map_map]; rfl, show (Lib.fields zll.data.toList).length = kwds.length by unfold kwds; rw [List.length_map]]
 go_wp2_with fail
 go_ret
 exact ⟨rfl, zh (Below.refl _ _) _, zaj W _⟩
theorem ztg (W : World) (h : Spc W) :
  Calls Tryz.prog 181 #[] W fun e W' => e = .returned (.slice (some ⟨W.heap.size, 0, none⟩) twos.length twos.length) ∧ Below W.heap.size W W' ∧ W'.heap[W.heap.size]? = some (.cells (twos.map Value.string).toArray 9 (0, 0)) := by
 go_enter Tryz.func181, Tryz.ntmps181
 have H := ak h
 clear h
 go_wp2_with fail
 refine (Tryz.strings_Fields zk9 W (zto 17 (by kernel_rfl) (by omega)) (zqy (by kernel_rfl)) H.out).mono ?_
 rintro e W1 ⟨rfl, rfl⟩
 rw [show (Lib.fields zk9.data.toList).map (fun l => Value.string ⟨l.toArray⟩) = twos.map Value.string by unfold twos; rw [List.map_map]; rfl, show (Lib.fields zk9.data.toList).length = twos.length by unfold twos; rw [List.length_map]]
 go_wp2_with fail
 go_ret
 exact ⟨rfl, zh (Below.refl _ _) _, zaj W _⟩
def zc6 (l : List UInt8) (n : Nat) : ByteArray := ⟨(l.take n).toArray⟩
def zkg : List UInt8 := [40, 41, 123, 125, 91, 93, 60, 62, 44, 59, 58, 46, 61, 43, 45, 42, 47, 33, 38, 124]
def first (l : List UInt8) : Nat × Int :=
 if zch (l.headD 0) = true then (zc4 zch l 0, 101)
 else if Lib.hasPrefix l [47, 47] = true then (zc4 zh1 l 0, 102)
 else if zfd (l.headD 0) = true then (zc4 zk2 l 0, if kwds.any (fun x => decide (zc6 l (zc4 zk2 l 0) = x)) = true then 104 else 103)
 else if zhb (l.headD 0) = true then (zc4 zhb l 0, 105)
 else if (l.headD 0).toNat = 34 then zc9 l
 else if 1 < l.length ∧ twos.any (fun x => decide (zc6 l 2 = x)) = true then (2, 107)
 else if 0 ≤ Lib.indexByte zkg (l.headD 0) then (1, 107) else (1, 108)
theorem zzv : ∀ args w, (callFunc 172 args).run Tryz.prog w = .ok (.enter 172 args) w := enters_of Tryz.func172 (by kernel_rfl) rfl
theorem enNl : ∀ args w, (callFunc 174 args).run Tryz.prog w = .ok (.enter 174 args) w := enters_of Tryz.func174 (by kernel_rfl) rfl
theorem z09 : ∀ args w, (callFunc 176 args).run Tryz.prog w = .ok (.enter 176 args) w := enters_of Tryz.func176 (by kernel_rfl) rfl
theorem zzw : ∀ args w, (callFunc 177 args).run Tryz.prog w = .ok (.enter 177 args) w := enters_of Tryz.func177 (by kernel_rfl) rfl
theorem zzq {s : ByteArray} (h : 0 < s.size) : s.data.toList.headD 0 = s[0] := by
 have h2 : 0 < s.data.toList.length := by simpa using h
 rw [List.headD_eq_head?_getD, List.head?_eq_getElem?, List.getElem?_eq_getElem h2]
 rfl
theorem zey (s : ByteArray) (n : Nat) : s.extract 0 n = zc6 s.data.toList n := by
 apply ByteArray.ext
 apply Array.ext'
 simp [zc6, ByteArray.data_extract, List.extract]
theorem zfa {p : UInt8 → Bool} {s : List UInt8} {i : Nat} (hi : i ≤ s.length) : zc4 p s i ≤ s.length := by
 have h1 := (List.takeWhile_sublist p (l := s.drop i)).length_le
 rw [List.length_drop] at h1
 unfold zc4; omega
theorem zpq {s : ByteArray} (hi : 1 ≤ s.size) (hs : s.size ≤ 100000) (w : World) (h : Spc w) :
    Calls Tryz.prog 114 #[.string s] w fun e w' => e = .returned (.tuple #[.int .i64 ((first s.data.toList).1 : Int), .int .i64 (first s.data.toList).2]) ∧ Below w.heap.size w w' := by
  have H := ak h
  have HH := zzq hi
  have i0 : (0 : Int) < (s.size : Int) := by omega
  obtain ⟨c, hc⟩ : ∃ c, s[0] = c := ⟨_, rfl⟩
  obtain ⟨a, ha⟩ : ∃ a, first s.data.toList = a := ⟨_, rfl⟩
  rw [ha]
  have HA := ak ha
  have HC := ak (HH.trans hc)
  clear h HH ha
  go_enter Tryz.func114, Tryz.ntmps114
  go_wp2_with fail
  refine (zh3 c _).mono ?_
  rintro e w1 ⟨rfl, d1⟩
  have D1 := ak (d1.below)
  clear d1
  cases hsp : zch c
  · have F1 := ak (show first s.data.toList = _ by unfold first; rw [HC.out, hsp, if_neg (by decide)])
    go_wp2_with fail
    refine (Tryz.strings_HasPrefix s ⟨#[47, 47]⟩ _).mono ?_
    rintro e w2 ⟨rfl, rfl⟩
    obtain ⟨b, hb⟩ : ∃ b, Lib.hasPrefix s.data.toList (⟨#[47, 47]⟩ : ByteArray).data.toList = b := ⟨_, rfl⟩
    rw [hb]
    cases b
    · have F2 := ak (F1.out.trans (by rw [show Lib.hasPrefix s.data.toList [47, 47] = false from hb, if_neg (by decide)]))
      clear F1
      go_wp2_with fail
      refine (zg4 c _).mono ?_
      rintro e w3 ⟨rfl, d3⟩
      have D3 := ak (zbi D1.out d3.below)
      clear d3 D1
      cases hlt : zfd c
      · have F3 := ak (F2.out.trans (by rw [hlt, if_neg (by decide)]))
        clear F2
        go_wp2_with fail
        refine (zfw c _).mono ?_
        rintro e w4 ⟨rfl, d4⟩
        have D4 := ak (zbi D3.out d4.below)
        clear d4 D3
        cases hdg : zhb c
        · have F4 := ak (F3.out.trans (by rw [hdg, if_neg (by decide)]))
          clear F3
          by_cases h34 : c.toNat = 34
          · have c34 : ((c.toNat : Int) == 34) = true := by simp [h34]
            have F5 := ak (F4.out.trans (by rw [if_pos h34]))
            clear F4
            go_wp2_with fail
            refine (zid hi hs _).mono ?_
            rintro e w5 ⟨rfl, d5⟩
            have D5 := ak (zbi D4.out d5.below)
            clear d5 D4
            go_wp2_with fail
            go_ret2
            obtain rfl := F5.out.symm.trans HA.out
            exact ⟨rfl, D5.out⟩
          · have c34 : ((c.toNat : Int) == 34) = false := by simp [h34]; omega
            have F5 := ak (F4.out.trans (by rw [if_neg h34]))
            clear F4
            by_cases h2 : 1 < s.size
            · have i2 : (1 : Int) < (s.size : Int) := by omega
              go_wp2_with fail
              refine zc7 (ds := []) (S := (fun _ => True)) #[false, false, false, false, false, false, false, false, false, false] (by kernel_rfl) rfl rfl trivial (fun hS => ?_)
              refine take_ (i := 0) (N := some 43) (v := .string s) #[true, false, false, false, false, false, false, false, false, false] rfl rfl (by kernel_rfl) (fun _ _ _ h => h) (Or.inl ⟨by kernel_rfl, by intro w' z1; go_simp⟩) hS rfl ?_
              simp only [Act.put, sia, List.set]
              refine take_ (i := 1) (N := some 44) (v := .int .i64 (s.size : Int)) #[true, true, false, false, false, false, false, false, false, false] rfl rfl (by kernel_rfl) (fun _ _ _ h => h) (Or.inl ⟨by kernel_rfl, by intro w' z1; go_simp⟩) hS rfl ?_
              simp only [Act.put, sia, List.set]
              refine take_ (i := 2) (N := some 45) (v := .bool true) #[true, true, true, false, false, false, false, false, false, false] rfl rfl (by kernel_rfl) (fun _ _ _ h => h) (Or.inl ⟨by kernel_rfl, by intro w' z1; go_simp⟩) hS rfl ?_
              simp only [Act.put, sia, List.set]
              refine take_ (i := 3) (N := some 46) (v := .bool true) #[true, true, true, true, false, false, false, false, false, false] rfl rfl (by kernel_rfl) (fun _ _ _ h => h) (Or.inl ⟨by kernel_rfl, by intro w' z1; go_simp⟩) hS rfl ?_
              simp only [Act.put, sia, List.set]
              refine take_ (i := 5) (N := some 48) (v := .string s) #[true, true, true, true, false, true, false, false, false, false] rfl rfl (by kernel_rfl) (fun _ _ _ h => h) (Or.inl ⟨by kernel_rfl, by intro w' z1; go_simp⟩) hS rfl ?_
              simp only [Act.put, sia, List.set]
              refine take_ (i := 6) (N := some 49) (v := .string (s.extract 0 2)) #[true, true, true, true, false, true, true, false, false, false] rfl rfl (by kernel_rfl) (fun _ _ _ h => h) (Or.inl ⟨by kernel_rfl, by intro w' z1; go_simp; exact fun hh => absurd hh (by omega)⟩) hS rfl ?_
              simp only [Act.put, sia, List.set]
              refine one_ (i := 4) (N := some 47) #[true, true, true, true, true, true, true, false, false, false] rfl rfl (by kernel_rfl) (by simp) (fun K hK => ?_)
              go_simp
              refine (ztg _ ((H.out.below D4.out).below (zae (Below.refl _ _)))).mono ?_
              rintro e w5 ⟨rfl, hb5, hk5⟩
              have D5 := ak (zbi (zbi D4.out (zae (Below.refl _ _))) hb5)
              have C5 := ak (zdv twos (by decide) hk5)
              have cS : True := trivial
              clear hb5 hk5 D4
              refine hK.out _ _ cS (fun hS => ?_)
              clear hK
              try simp only [Act.put, sia, List.set]
              refine one_ (i := 7) (N := some 50) #[true, true, true, true, true, true, true, true, false, false] rfl rfl (by kernel_rfl) (by simp) (fun K hK => ?_)
              go_simp
              refine (zd4 twos (s.extract 0 2) (by decide) _ _ _ C5.out (Nat.le_refl _)).mono ?_
              rintro e w6 ⟨rfl, m6, rfl⟩
              have cS : True := trivial
              obtain ⟨b, hkb⟩ : ∃ b, twos.any (fun x => decide (s.extract 0 2 = x)) = b := ⟨_, rfl⟩
              rw [hkb]
              refine hK.out _ _ cS (fun hS => ?_)
              clear hK
              try simp only [Act.put, sia, List.set]
              refine take_ (i := 8) (N := some 51) (v := .bool b) #[true, true, true, true, true, true, true, true, true, false] rfl rfl (by kernel_rfl) (fun _ _ _ h => h) (Or.inl ⟨by kernel_rfl, by intro w' z1; go_simp⟩) hS rfl ?_
              simp only [Act.put, sia, List.set]
              refine take_ (i := 9) (N := some 42) (v := .bool b) #[true, true, true, true, true, true, true, true, true, true] rfl rfl (by kernel_rfl) (fun _ _ _ h => h) (Or.inl ⟨by kernel_rfl, by intro w' z1; go_simp⟩) hS rfl ?_
              simp only [Act.put, sia, List.set]
              refine zq (by kernel_rfl) ?_ _
              have D6 := ak (zbi D5.out (below_drewN w5 m6))
              cases b
              · have FF := ak (F5.out.trans (by rw [← zey, hkb, if_neg (by simp)]))
                go_wp2_with fail
                refine (Tryz.strings_IndexByte ⟨#[40, 41, 123, 125, 91, 93, 60, 62, 44, 59, 58, 46, 61, 43, 45, 42, 47, 33, 38, 124]⟩ _ _).mono ?_
                rintro e w7 ⟨rfl, rfl⟩
                obtain ⟨ix, hix⟩ : ∃ ix, Lib.indexByte (⟨#[40, 41, 123, 125, 91, 93, 60, 62, 44, 59, 58, 46, 61, 43, 45, 42, 47, 33, 38, 124]⟩ : ByteArray).data.toList ((c.toNat : Int).toNat.toUInt8) = ix := ⟨_, rfl⟩
                have HX := ak (show Lib.indexByte zkg c = ix by rw [← hix]; simp [zkg])
                rw [hix]
                clear hix
                by_cases h0 : 0 ≤ ix
                · have h0b : decide (0 ≤ ix) = true := decide_eq_true h0
                  have F9 := ak (FF.out.trans (by rw [HX.out, if_pos h0]))
                  go_wp2_with fail
                  go_ret2
                  obtain rfl := F9.out.symm.trans HA.out
                  exact ⟨rfl, D6.out⟩
                · have h0b : decide (0 ≤ ix) = false := decide_eq_false h0
                  have F9 := ak (FF.out.trans (by rw [HX.out, if_neg h0]))
                  go_wp2_with fail
                  go_ret2
                  obtain rfl := F9.out.symm.trans HA.out
                  exact ⟨rfl, D6.out⟩
              · have FF := ak (F5.out.trans (by rw [← zey, hkb, if_pos ⟨by simpa using h2, rfl⟩]))
                go_wp2_with fail
                go_ret2
                obtain rfl := FF.out.symm.trans HA.out
                exact ⟨rfl, D6.out⟩
            · have i2 : ¬ (1 : Int) < (s.size : Int) := by omega
              have F6 := ak (F5.out.trans (by rw [if_neg (by intro hh; exact h2 (by simpa using hh.1))]))
              clear F5
              go_wp2_with fail
              refine zc7 (ds := []) (S := (fun _ => True)) #[false, false, false, false, false, false, false, false, false, false] (by kernel_rfl) rfl rfl trivial (fun hS => ?_)
              refine take_ (i := 0) (N := some 43) (v := .string s) #[true, false, false, false, false, false, false, false, false, false] rfl rfl (by kernel_rfl) (fun _ _ _ h => h) (Or.inl ⟨by kernel_rfl, by intro w' z1; go_simp⟩) hS rfl ?_
              simp only [Act.put, sia, List.set]
              refine take_ (i := 1) (N := some 44) (v := .int .i64 (s.size : Int)) #[true, true, false, false, false, false, false, false, false, false] rfl rfl (by kernel_rfl) (fun _ _ _ h => h) (Or.inl ⟨by kernel_rfl, by intro w' z1; go_simp⟩) hS rfl ?_
              simp only [Act.put, sia, List.set]
              refine take_ (i := 2) (N := some 45) (v := .bool false) #[true, true, true, false, false, false, false, false, false, false] rfl rfl (by kernel_rfl) (fun _ _ _ h => h) (Or.inl ⟨by kernel_rfl, by intro w' z1; go_simp⟩) hS rfl ?_
              simp only [Act.put, sia, List.set]
              refine take_ (i := 3) (N := some 46) (v := .bool false) #[true, true, true, true, false, false, false, false, false, false] rfl rfl (by kernel_rfl) (fun _ _ _ h => h) (Or.inl ⟨by kernel_rfl, by intro w' z1; go_simp⟩) hS rfl ?_
              simp only [Act.put, sia, List.set]
              refine take_ (i := 4) (N := some 47) (v := undef) #[true, true, true, true, true, false, false, false, false, false] rfl rfl (by kernel_rfl) (fun _ _ _ h => h) (Or.inr ⟨by kernel_rfl, rfl⟩) hS rfl ?_
              simp only [Act.put, sia, List.set]
              refine take_ (i := 5) (N := some 48) (v := undef) #[true, true, true, true, true, true, false, false, false, false] rfl rfl (by kernel_rfl) (fun _ _ _ h => h) (Or.inr ⟨by kernel_rfl, rfl⟩) hS rfl ?_
              simp only [Act.put, sia, List.set]
              refine take_ (i := 6) (N := some 49) (v := undef) #[true, true, true, true, true, true, true, false, false, false] rfl rfl (by kernel_rfl) (fun _ _ _ h => h) (Or.inr ⟨by kernel_rfl, rfl⟩) hS rfl ?_
              simp only [Act.put, sia, List.set]
              refine take_ (i := 7) (N := some 50) (v := undef) #[true, true, true, true, true, true, true, true, false, false] rfl rfl (by kernel_rfl) (fun _ _ _ h => h) (Or.inr ⟨by kernel_rfl, rfl⟩) hS rfl ?_
              simp only [Act.put, sia, List.set]
              refine take_ (i := 8) (N := some 51) (v := .bool false) #[true, true, true, true, true, true, true, true, true, false] rfl rfl (by kernel_rfl) (fun _ _ _ h => h) (Or.inl ⟨by kernel_rfl, by intro w' z1; go_simp⟩) hS rfl ?_
              simp only [Act.put, sia, List.set]
              refine take_ (i := 9) (N := some 42) (v := .bool false) #[true, true, true, true, true, true, true, true, true, true] rfl rfl (by kernel_rfl) (fun _ _ _ h => h) (Or.inl ⟨by kernel_rfl, by intro w' z1; go_simp⟩) hS rfl ?_
              simp only [Act.put, sia, List.set]
              refine zq (by kernel_rfl) ?_ _
              have FF := F6
              go_wp2_with fail
              refine (Tryz.strings_IndexByte ⟨#[40, 41, 123, 125, 91, 93, 60, 62, 44, 59, 58, 46, 61, 43, 45, 42, 47, 33, 38, 124]⟩ _ _).mono ?_
              rintro e w7 ⟨rfl, rfl⟩
              obtain ⟨ix, hix⟩ : ∃ ix, Lib.indexByte (⟨#[40, 41, 123, 125, 91, 93, 60, 62, 44, 59, 58, 46, 61, 43, 45, 42, 47, 33, 38, 124]⟩ : ByteArray).data.toList ((c.toNat : Int).toNat.toUInt8) = ix := ⟨_, rfl⟩
              have HX := ak (show Lib.indexByte zkg c = ix by rw [← hix]; simp [zkg])
              rw [hix]
              clear hix
              by_cases h0 : 0 ≤ ix
              · have h0b : decide (0 ≤ ix) = true := decide_eq_true h0
                have F9 := ak (FF.out.trans (by rw [HX.out, if_pos h0]))
                go_wp2_with fail
                go_ret2
                obtain rfl := F9.out.symm.trans HA.out
                exact ⟨rfl, zbi D4.out (zae (Below.refl _ _))⟩
              · have h0b : decide (0 ≤ ix) = false := decide_eq_false h0
                have F9 := ak (FF.out.trans (by rw [HX.out, if_neg h0]))
                go_wp2_with fail
                go_ret2
                obtain rfl := F9.out.symm.trans HA.out
                exact ⟨rfl, zbi D4.out (zae (Below.refl _ _))⟩
        · have F1 := ak (F3.out.trans (by rw [hdg, if_pos rfl]))
          go_wp2_with fail
          refine (zef (i := 0) zfw zzw (by omega) hs _).mono ?_
          rintro e w5 ⟨rfl, d⟩
          have D9 := ak d.below
          clear d
          go_wp2_with fail
          go_ret2
          obtain rfl := F1.out.symm.trans HA.out
          exact ⟨rfl, zbi D4.out D9.out⟩
      · have F3 := ak (F2.out.trans (by rw [hlt, if_pos rfl]))
        clear F2
        go_wp2_with fail
        refine (zef (i := 0) zs8 z09 (by omega) hs _).mono ?_
        rintro e w4 ⟨rfl, d4⟩
        have D4 := ak (zbi D3.out d4.below)
        clear d4 D3
        have hn := zfa (p := zk2) (s := s.data.toList) (i := 0) (by omega)
        obtain ⟨n, hn2⟩ : ∃ n, zc4 zk2 s.data.toList 0 = n := ⟨_, rfl⟩
        have HN := ak hn2
        rw [hn2] at hn ⊢
        clear hn2
        have n0 : (0 : Int) ≤ (n : Int) := by omega
        have n1 : (n : Int) ≤ (s.size : Int) := by have : s.data.toList.length = s.size := by simp
                                                   omega
        go_wp2_with fail
        refine zc7 (ds := []) (S := (fun _ => True)) #[false, false, false, false, false] (by kernel_rfl) rfl rfl trivial (fun hS => ?_)
        refine take_ (i := 1) (N := some 24) (v := .string s) #[false, true, false, false, false] rfl rfl (by kernel_rfl) (fun _ _ _ h => h) (Or.inl ⟨by kernel_rfl, by intro w' z1; go_simp⟩) hS rfl ?_
        simp only [Act.put, sia, List.set]
        refine take_ (i := 2) (N := some 25) (v := .int .i64 (n : Int)) #[false, true, true, false, false] rfl rfl (by kernel_rfl) (fun _ _ _ h => h) (Or.inl ⟨by kernel_rfl, by intro w' z1; go_simp⟩) hS rfl ?_
        simp only [Act.put, sia, List.set]
        refine take_ (i := 3) (N := some 26) (v := .string (s.extract 0 n)) #[false, true, true, true, false] rfl rfl (by kernel_rfl) (fun _ _ _ h => h) (Or.inl ⟨by kernel_rfl, by intro w' z1; go_simp⟩) hS rfl ?_
        simp only [Act.put, sia, List.set]
        refine one_ (i := 0) (N := some 23) #[true, true, true, true, false] rfl rfl (by kernel_rfl) (by simp) (fun K hK => ?_)
        go_simp
        refine (zut _ ((H.out.below D4.out).below (zae (Below.refl _ _)))).mono ?_
        rintro e w5 ⟨rfl, hb5, hk5⟩
        have D5 := ak (zbi (zbi D4.out (zae (Below.refl _ _))) hb5)
        have C5 := ak (zdv kwds (by decide) hk5)
        have cS : True := trivial
        clear hb5 hk5 D4
        refine hK.out _ _ cS (fun hS => ?_)
        clear hK
        try simp only [Act.put, sia, List.set]
        refine one_ (i := 4) (N := some 27) #[true, true, true, true, true] rfl rfl (by kernel_rfl) (by simp) (fun K hK => ?_)
        go_simp
        refine (zd4 kwds (s.extract 0 n) (by decide) _ _ _ C5.out (Nat.le_refl _)).mono ?_
        rintro e w6 ⟨rfl, m6, rfl⟩
        have cS : True := trivial
        refine hK.out _ _ cS (fun hS => ?_)
        clear hK
        try simp only [Act.put, sia, List.set]
        refine zq (by kernel_rfl) ?_ _
        obtain ⟨b, hkb⟩ : ∃ b, kwds.any (fun x => decide (s.extract 0 n = x)) = b := ⟨_, rfl⟩
        rw [hkb]
        have F8 := ak (show first s.data.toList = (n, if b = true then 104 else 103) by rw [F3.out, HN.out, ← zey, hkb])
        clear F3 hkb
        cases b
        · go_wp2_with fail
          go_ret2
          obtain rfl := F8.out.symm.trans HA.out
          exact ⟨rfl, zbi D5.out (below_drewN _ _)⟩
        · go_wp2_with fail
          go_ret2
          obtain rfl := F8.out.symm.trans HA.out
          exact ⟨rfl, zbi D5.out (below_drewN _ _)⟩
    · have F2 := ak (F1.out.trans (by rw [show Lib.hasPrefix s.data.toList [47, 47] = true from hb, if_pos rfl]))
      clear F1
      have F1 := F2
      go_wp2_with fail
      refine (zef (i := 0) zru enNl (by omega) hs _).mono ?_
      rintro e w3 ⟨rfl, d⟩
      have D9 := ak d.below
      clear d
      go_wp2_with fail
      go_ret2
      obtain rfl := F1.out.symm.trans HA.out
      exact ⟨rfl, zbi D1.out D9.out⟩
  · have F1 := ak (show first s.data.toList = _ by unfold first; rw [HC.out, hsp, if_pos rfl])
    go_wp2_with fail
    refine (zef (i := 0) zh3 zzv (by omega) hs _).mono ?_
    rintro e w2 ⟨rfl, d⟩
    have D9 := ak d.below
    clear d
    go_wp2_with fail
    go_ret2
    obtain rfl := F1.out.symm.trans HA.out
    exact ⟨rfl, zbi D1.out D9.out⟩
end Go.Proofs.YtmoelofaojgjfaaGreatDoor.Lex
namespace Go.Proofs.YtmoelofaojgjfaaGreatDoor.Lex
open Go.RowKit Go.Proofs.YtmoelofaojgjfaaGreatDoor.Par
theorem zwn {p : UInt8 → Bool} {s : List UInt8} {i : Nat} : i ≤ zc4 p s i := by unfold zc4; omega
theorem zgy {p : UInt8 → Bool} {b : UInt8} {l : List UInt8} (h : p b = true) : 1 ≤ zc4 p (b :: l) 0 := by
 unfold zc4
 rw [List.drop_zero, List.takeWhile_cons, h]
 simp
theorem zo8 {b : UInt8} {l : List UInt8} (h : Lib.hasPrefix (b :: l) [47, 47] = true) : b = 47 := by
 unfold Lib.hasPrefix at h
 simp [List.isPrefixOf] at h
 exact h.1.symm
theorem zre {l : List UInt8} (h : l ≠ []) : 1 ≤ (zc9 l).1 ∧ (zc9 l).1 ≤ l.length := by
 have hl : 1 ≤ l.length := by cases l with
  | nil => exact absurd rfl h
  | cons a t => simp
 unfold zc9
 cases hs : zdj l (l.length + 1) 1 with
 | none => exact ⟨zwn, zfa hl⟩
 | some n =>
  have := zwf hs
  exact ⟨by show 1 ≤ n; omega, by show n ≤ l.length; omega⟩
theorem zfg {l : List UInt8} (h : l ≠ []) : 1 ≤ (first l).1 ∧ (first l).1 ≤ l.length := by
 cases l with
 | nil => exact absurd rfl h
 | cons b t =>
  have hd : (b :: t).headD 0 = b := rfl
  unfold first
  rw [hd]
  by_cases h1 : zch b = true
  ·rw [if_pos h1]; exact ⟨zgy h1, zfa (by omega)⟩
  rw [if_neg h1]
  by_cases h2 : Lib.hasPrefix (b :: t) [47, 47] = true
  ·rw [if_pos h2]
   have := zo8 h2
   subst this
   exact ⟨zgy (by decide), zfa (by omega)⟩
  rw [if_neg h2]
  by_cases h3 : zfd b = true
  ·rw [if_pos h3]; exact ⟨zgy (by unfold zk2; rw [h3]; rfl), zfa (by omega)⟩
  rw [if_neg h3]
  by_cases h4 : zhb b = true
  ·rw [if_pos h4]; exact ⟨zgy h4, zfa (by omega)⟩
  rw [if_neg h4]
  by_cases h5 : b.toNat = 34
  ·rw [if_pos h5]; exact zre h
  rw [if_neg h5]
  by_cases h6 : 1 < (b :: t).length ∧ twos.any (fun x => decide (zc6 (b :: t) 2 = x)) = true
  ·rw [if_pos h6]; exact ⟨by show 1 ≤ 2; omega, by show 2 ≤ _; omega⟩
  rw [if_neg h6]
  by_cases h7 : 0 ≤ Lib.indexByte zkg b
  ·rw [if_pos h7]; exact ⟨by show 1 ≤ 1; omega, by show 1 ≤ _; simp⟩
  ·rw [if_neg h7]; exact ⟨by show 1 ≤ 1; omega, by show 1 ≤ _; simp⟩
def toks : Nat → List UInt8 → List Tok
 | 0, _ => []
 | f + 1, l => if l = [] then [] else ((first l).2, zc6 l (first l).1) :: toks f (l.drop (first l).1)
def zbd (l : List UInt8) : List Tok := toks l.length l
theorem zmk : ∀ (f g : Nat) (l : List UInt8), l.length ≤ f → l.length ≤ g → toks f l = toks g l
 | 0, 0, l, _, _ => rfl
 | 0, g + 1, l, h, _ => by
  have : l = [] := List.eq_nil_of_length_eq_zero (by omega)
  subst this
  simp [toks]
 | f + 1, 0, l, _, h => by
  have : l = [] := List.eq_nil_of_length_eq_zero (by omega)
  subst this
  simp [toks]
 | f + 1, g + 1, l, h1, h2 => by
  unfold toks
  by_cases hl : l = []
  ·simp [hl]
  ·rw [if_neg hl, if_neg hl]
   have := zfg hl
   rw [zmk f g _ (by rw [List.length_drop]; omega) (by rw [List.length_drop]; omega)]
theorem zdw : zbd [] = [] := rfl
theorem zcm {l : List UInt8} (h : l ≠ []) : zbd l = ((first l).2, zc6 l (first l).1) :: zbd (l.drop (first l).1) := by
 have h1 := zfg h
 have h2 : l.length = (l.length - 1) + 1 := by omega
 unfold zbd
 conv => lhs; rw [h2]; unfold toks
 rw [if_neg h, zmk (l.length - 1) _ _ (by rw [List.length_drop]; omega) (Nat.le_refl _)]
theorem zdc : ∀ (n : Nat) (l : List UInt8), l.length ≤ n → (zbd l).length ≤ l.length
 | 0, l, h => by
  have : l = [] := List.eq_nil_of_length_eq_zero (by omega)
  subst this
  simp [zdw]
 | n + 1, l, h => by
  by_cases hl : l = []
  ·subst hl; simp [zdw]
  ·have h1 := zfg hl
   have h2 := zdc n (l.drop (first l).1) (by rw [List.length_drop]; omega)
   rw [List.length_drop] at h2
   rw [zcm hl, List.length_cons]
   omega
end Go.Proofs.YtmoelofaojgjfaaGreatDoor.Lex
namespace Go.Proofs.YtmoelofaojgjfaaGreatDoor.Lex
open Go.RowKit Go.Proofs.YtmoelofaojgjfaaGreatDoor.Par Go.Proofs.YtmoelofaojgjfaaGreatDoorW.PrintWords Go.Proofs.YtmoelofaojgjfaaGreatDoorW.PrintLast
def zee (T : List Tok) : List Value := T.flatMap fun t => [.int .i64 t.1, .string t.2]
theorem zix (T U : List Tok) : zee (T ++ U) = zee T ++ zee U := by simp [zee]
theorem ziw : ∀ (T : List Tok) (i : Nat) (t : Tok), T[i]? = some t → (zee T)[i * 2]? = some (.int .i64 t.1) ∧ (zee T)[i * 2 + 1]? = some (.string t.2)
 | [], i, t, h => by simp at h
 | u :: T, 0, t, h => by
  simp at h
  subst h
  exact ⟨rfl, rfl⟩
 | u :: T, i + 1, t, h => by
  have := ziw T i t (by simpa using h)
  rw [show (i + 1) * 2 = i * 2 + 2 by omega]
  exact this
theorem zwd {W : World} {B e : Nat} {T : List Tok} {v : Value} (h : W.ownsRow B e 2 v T.length (zee T)) : zma W T v := by
 obtain ⟨A, c, rfl⟩ := Par.za3 h
 refine ⟨A, c, rfl, fun hT => ?_⟩
 rcases h.2 with ⟨_, h0⟩ | ⟨g, cap, cur, h1, _⟩
 ·omega
 ·cases h1
  refine ⟨g, 0, rfl, fun i t ht => ?_⟩
  obtain ⟨a1, a2⟩ := ziw T i t ht
  have c1 := h.cells (g := g) rfl _ _ a1
  have c2 := h.cells (g := g) rfl _ _ a2
  simp only [Addr.add_lit, Nat.zero_add] at c1 c2 ⊢
  exact ⟨c1, c2⟩
theorem znq (r : ByteArray) (n : Nat) : (r.extract n r.size).data.toList = r.data.toList.drop n := by
 rw [ByteArray.data_extract, Array.toList_extract]
 show (r.data.toList.drop n).take (r.size - n) = _
 rw [List.take_of_length_le]
 rw [List.length_drop]
 have : r.data.toList.length = r.size := by simp
 omega
theorem zzn : (Tryz.prog.info? 154).map (fun i => (i.zero, i.size, i.bytes)) = some (some (.agg #[.int .i64 0, .string ⟨#[]⟩]), 2, 24) := by kernel_rfl
theorem zjv {s : ByteArray} (hs : s.size ≤ 2000) (w : World) (h : Spc w) :
  Calls Tryz.prog 69 #[.string s] w fun e w' => ∃ v, e = .returned (.tuple #[v, .int .i64 0]) ∧ zma w' (zbd s.data.toList) v ∧ Below w.heap.size w w' := by
 have H := ak h
 have h0 : ¬ (2000 : Int) < (s.size : Int) := by omega
 have h0b : decide ((2000 : Int) < (s.size : Int)) = false := decide_eq_false h0
 clear h
 go_enter Tryz.func69, Tryz.ntmps69
 go_wp2_with fail
 go_loopw [0, 4] (fun z v wr => ∃ (r : ByteArray) (T1 : List Tok), z = .string r ∧ zar (wr.ownsRow w.heap.size 154 2 v T1.length (zee T1) ∧ Below w.heap.size w wr ∧ T1 ++ zbd r.data.toList = zbd s.data.toList) ∧ r.size + T1.length ≤ s.size) (fun z v wr => (match z with | .string r => r.size | _ => 0))
 case atStart => exact ⟨s, [], rfl, ⟨⟨rfl, Or.inl ⟨rfl, rfl⟩⟩, by repeat (first | exact Below.refl _ _ | apply zae), rfl⟩, by simp⟩
 case round =>
  obtain ⟨r, T1, rfl, HO, hsz⟩ := hrel
  by_cases hlt : 0 < r.size
  ·have i1 : (0 : Int) < (r.size : Int) := by omega
   have i1b : decide ((0 : Int) < (r.size : Int)) = true := decide_eq_true i1
   go_wp2_with fail
   refine (zpq (s := r) hlt (by omega) _ (H.out.below HO.out.2.1)).mono ?_
   rintro e w1 ⟨rfl, hb1⟩
   have HB1 := ak hb1
   clear hb1
   obtain ⟨n, k, hnk⟩ : ∃ n k, first r.data.toList = (n, k) := ⟨_, _, rfl⟩
   have hne : r.data.toList ≠ [] := by
    intro e
    have h5 : r.data.toList.length = r.size := by simp
    rw [e, List.length_nil] at h5
    omega
   have hfi := zfg hne
   have htk := zcm hne
   rw [hnk] at hfi htk ⊢
   have HT := ak (And.intro hfi htk)
   have hn1 : 1 ≤ n := hfi.1
   have hn2 : n ≤ r.size := by simpa using hfi.2
   clear hfi htk hne hnk
   have n0 : (0 : Int) ≤ (n : Int) := by omega
   have n1 : (n : Int) ≤ (r.size : Int) := by omega
   obtain ⟨vA, vc, rfl⟩ := Par.za3 HO.out.1
   obtain ⟨iT, hiT, hzT⟩ := Option.map_eq_some_iff.1 zzn
   simp only [Prod.mk.injEq] at hzT
   have hO1 := Par.za7 (W' := w1) HO.out.1 (fun g hg => HB1.out.block g (Par.zax HO.out.1 g hg).2.1)
   have hO2 := ak (Par.za7 (W' := w1.alloc (Obj.cells #[Value.int IntKind.i64 k, Value.string (r.extract 0 n)] 154)) hO1 (fun g hg => (zh (Below.refl w1.heap.size w1) _).block g (Par.zax hO1 g hg).2.1))
   have hNw := ak (World.news_of_block (zaj w1 (Obj.cells #[Value.int IntKind.i64 k, Value.string (r.extract 0 n)] 154)))
   have hB2 := ak (show Below w.heap.size w (w1.alloc (Obj.cells #[Value.int IntKind.i64 k, Value.string (r.extract 0 n)] 154)) from zh (zbi HO.out.2.1 HB1.out) _)
   have hl2 : T1.length ≤ 2000 := by omega
   clear hO1
   go_wp2_with ((at_builtin; refine wpList_append_own_at _ rfl (.tmp 18) (.tmp 24) 148 rfl w.heap.size 154 iT (.agg #[.int .i64 0, .string ⟨#[]⟩]) 2 24 Tryz.underlying148 hiT hzT.1 hzT.2.1 hzT.2.2 rfl (by decide) _ T1.length (zee T1) rfl hO2.out _ 1 1 [.int .i64 k, .string (r.extract 0 n)] rfl rfl hNw.out (by intro u hu; simp only [List.mem_cons, List.not_mem_nil, or_false] at hu; rcases hu with rfl | rfl <;> rfl) (by simp only [maxLen]; omega) (by omega) hB2.out.size ?_; intro v2 w2 hown2 hgr2 hnil2 hat2; have HW2 := ak (And.intro hown2 hgr2); clear hown2 hgr2 hnil2 hat2))
   have h1 := HW2.out.1
   have h2 := HT.out.2
   have hb := hB2.out.grown HW2.out.2 hB2.out.size (fun j hj => (Par.zax hO2.out j (zas.2 hj)).1)
   have hx : (r.extract n r.size).data.toList = r.data.toList.drop n := znq r n
   have hz : (r.extract n r.size).size = r.size - n := by simp [ByteArray.size_extract]
   refine ⟨⟨r.extract n r.size, T1 ++ [(k, zc6 r.data.toList n)], rfl, ⟨?_, hb, ?_⟩, ?_⟩, ?_⟩
   ·rw [List.length_append, zix, ← zey]
    exact h1
   ·rw [hx, List.append_assoc, ← HO.out.2.2, h2]
    rfl
   ·rw [hz, List.length_append, List.length_singleton]
    omega
   ·show (r.extract n r.size).size < r.size
    rw [hz]
    omega
  ·have i1 : ¬ (0 : Int) < (r.size : Int) := by omega
   have i1b : decide ((0 : Int) < (r.size : Int)) = false := decide_eq_false i1
   go_wp2_with fail
   go_ret2
   have h5 : r.data.toList.length = r.size := by simp
   have hr0 : r.data.toList = [] := List.eq_nil_of_length_eq_zero (by omega)
   have h3 := HO.out.2.2
   rw [hr0, zdw, List.append_nil] at h3
   subst h3
   exact ⟨_, rfl, zwd HO.out.1, HO.out.2.1⟩
end Go.Proofs.YtmoelofaojgjfaaGreatDoor.Lex
namespace Go.Proofs.YtmoelofaojgjfaaGreatDoor.Par
open Go.RowKit Go.Proofs.YtmoelofaojgjfaaGreatDoorW.PrintWords Go.Proofs.YtmoelofaojgjfaaGreatDoorW.PrintLast
abbrev U : Bool → Value := fun _ => .tuple #[]
structure IH (B : Nat) (T : List Tok) (tv : Value) (pb : Nat) (k : Nat) : Prop where
 block : Meth B T tv pb k .block 275 #[.pointer (some ⟨pb, 0, none⟩)] (fun _ => .tuple #[])
 statement : Meth B T tv pb k .statement 317 #[.pointer (some ⟨pb, 0, none⟩)] (fun b => .bool b)
 letS : Meth B T tv pb k .letS 341 #[.pointer (some ⟨pb, 0, none⟩)] (fun _ => .tuple #[])
 returnS : Meth B T tv pb k .returnS 343 #[.pointer (some ⟨pb, 0, none⟩)] (fun _ => .tuple #[])
 expr : Meth B T tv pb k .expr 230 #[.pointer (some ⟨pb, 0, none⟩)] (fun _ => .tuple #[])
 binary : ∀ l : Nat, l ≤ 5 → Meth B T tv pb k (.binary l) 289 #[.pointer (some ⟨pb, 0, none⟩), .int .i64 (l : Int)] (fun _ => .tuple #[])
 unary : Meth B T tv pb k .unary 324 #[.pointer (some ⟨pb, 0, none⟩)] (fun _ => .tuple #[])
 arguments : Meth B T tv pb k .arguments 358 #[.pointer (some ⟨pb, 0, none⟩)] (fun _ => .tuple #[])
 postf : Meth B T tv pb k .postf 350 #[.pointer (some ⟨pb, 0, none⟩)] (fun _ => .tuple #[])
 primary : Meth B T tv pb k .primary 344 #[.pointer (some ⟨pb, 0, none⟩)] (fun _ => .tuple #[])
 ifExpr : Meth B T tv pb k .ifExpr 360 #[.pointer (some ⟨pb, 0, none⟩)] (fun _ => .tuple #[])
 matchS : Meth B T tv pb k .matchS 361 #[.pointer (some ⟨pb, 0, none⟩)] (fun _ => .tuple #[])
 structS : Meth B T tv pb k .structS 362 #[.pointer (some ⟨pb, 0, none⟩)] (fun _ => .tuple #[])
 lambda : Meth B T tv pb k .lambda 363 #[.pointer (some ⟨pb, 0, none⟩)] (fun _ => .tuple #[])
 pattern : Meth B T tv pb k .pattern 356 #[.pointer (some ⟨pb, 0, none⟩)] (fun _ => .tuple #[])
 item : Meth B T tv pb k .item 97 #[.pointer (some ⟨pb, 0, none⟩)] (fun _ => .tuple #[])
 skipToItem : Meth B T tv pb k .skipToItem 145 #[.pointer (some ⟨pb, 0, none⟩)] (fun _ => .tuple #[])
 itemBody : ∀ kind : Int, 2 ≤ kind → kind ≤ 9 → Meth B T tv pb k (.itemBody kind) 150 #[.pointer (some ⟨pb, 0, none⟩), .int .i64 kind] (fun _ => .tuple #[])
 useS : Meth B T tv pb k .useS 222 #[.pointer (some ⟨pb, 0, none⟩)] (fun _ => .tuple #[])
 typeParams : Meth B T tv pb k .typeParams 272 #[.pointer (some ⟨pb, 0, none⟩)] (fun _ => .tuple #[])
 typeParam : Meth B T tv pb k .typeParam 315 #[.pointer (some ⟨pb, 0, none⟩)] (fun _ => .tuple #[])
 params : ∀ closing, Meth B T tv pb k (.params closing) 231 #[.pointer (some ⟨pb, 0, none⟩), .string closing] (fun _ => .tuple #[])
 function : ∀ needs, Meth B T tv pb k (.function needs) 223 #[.pointer (some ⟨pb, 0, none⟩), .bool needs] (fun _ => .tuple #[])
 dataType : ∀ kind : Int, kind = 4 ∨ kind = 5 → Meth B T tv pb k (.dataType kind) 224 #[.pointer (some ⟨pb, 0, none⟩), .int .i64 kind] (fun _ => .tuple #[])
 members : Meth B T tv pb k .members 226 #[.pointer (some ⟨pb, 0, none⟩)] (fun _ => .tuple #[])
 implS : Meth B T tv pb k .implS 227 #[.pointer (some ⟨pb, 0, none⟩)] (fun _ => .tuple #[])
 path : ∀ ty, Meth B T tv pb k (.path ty) 287 #[.pointer (some ⟨pb, 0, none⟩), .bool ty] (fun _ => .tuple #[])
 typeExpr : Meth B T tv pb k .typeExpr 229 #[.pointer (some ⟨pb, 0, none⟩)] (fun _ => .tuple #[])
theorem Does.mono {B : Nat} {T : List Tok} {tv : Value} {pb : Nat} {k k' : Nat} {x : NT} {fid : Nat} {args : Array Value} {low : List Tree} {kd : Int} {tx : ByteArray} {W0 : World} {F0 : List Nat} (h : Does B T tv pb k x fid args low kd tx W0 F0) (hk : k' ≤ k) : Does B T tv pb k' x fid args low kd tx W0 F0 := fun i hi => h i (by omega)
structure Box2 (pb : Nat) (W0 : World) (F0 : List Nat) (b : Nat) (v w : Value) : Prop where
 apart : zer pb W0 F0 b
 cell : ∃ t, W0.heap[b]? = some (.cells #[v, w] t (0, 0))
theorem Now.box2 {B : Nat} {T : List Tok} {tv : Value} {pb : Nat} {m : Nat} {low : List Tree} {kd : Int} {tx : ByteArray} {W0 : World} {F0 : List Nat} {W : World} {s : St} (N : Now B T tv pb m low kd tx W0 F0 W s) {b : Nat} {v w : Value} (h : Box2 pb W0 F0 b v w) : W.cell? ⟨b, 0, none⟩ = some v ∧ W.cell? ⟨b, 1, none⟩ = some w := by
 obtain ⟨t, h1⟩ := h.cell
 exact ⟨(zf ((N.keep h.apart).trans h1) 0).trans rfl, (zf ((N.keep h.apart).trans h1) 1).trans rfl⟩
theorem Box2.old {pb : Nat} {W0 : World} {F0 : List Nat} {b : Nat} {v w : Value} {W1 : World} {F1 : List Nat} (h : Box2 pb W0 F0 b v w) (o : Old pb W0 F0 W1 F1) : Box2 pb W1 F1 b v w := by
 obtain ⟨t, h1⟩ := h.cell
 obtain ⟨h2, h3⟩ := o b h.apart
 exact ⟨h2, t, h3.trans h1⟩
def patT (T : List Tok) (n : Nat) : Bool := idT T n || decide ((zal T n).1 = 105) || atT T n [(⟨#[116, 114, 117, 101]⟩ : ByteArray), (⟨#[102, 97, 108, 115, 101]⟩ : ByteArray), (⟨#[109, 117, 116]⟩ : ByteArray)]
theorem zmy {B : Nat} {T : List Tok} {tv : Value} {pb : Nat} {m : Nat} {low : List Tree} {kd : Int} {tx : ByteArray} {W0 : World} {F0 : List Nat} {W : World} {s : St} (N : Now B T tv pb m low kd tx W0 F0 W s) : patT T s.1 = true ∨ patT T s.1 = false := by cases patT T s.1 <;> simp
theorem z04 {b : Bool} {x y : Ans} {q : Bool × St} (h : (if (True ∧ b = true) then x else y) = some q) : (if b = true then x else y) = some q := by simpa using h
theorem z03 {b : Bool} {x y : Ans} {q : Bool × St} (h : (if (True ∧ b = true) then x else y) = some q) : (if b = true then x else y) = some q := by simpa using h
theorem zy1 {s : St} {T : List Tok} {l : List ByteArray} {q : Bool × St} {x : St → Ans} (h : sqL [fun s => if (false = true ∧ atT T s.1 l = true) then x s else some (false, s)] s = some q) : sqL [] s = some q := by simpa [sqL] using h
theorem zac {B : Nat} {T : List Tok} {tv : Value} {pb : Nat} {m : Nat} {low : List Tree} {kd : Int} {tx : ByteArray} {W0 : World} {F0 : List Nat} {W : World} {s : St} (N : Now B T tv pb m low kd tx W0 F0 W s) (l : List ByteArray) : atT T s.1 l = true ∨ atT T s.1 l = false := by cases atT T s.1 l <;> simp
theorem zbv {B : Nat} {T : List Tok} {tv : Value} {pb : Nat} {m : Nat} {low : List Tree} {kd : Int} {tx : ByteArray} {W0 : World} {F0 : List Nat} {W : World} {s : St} (N : Now B T tv pb m low kd tx W0 F0 W s) : idT T s.1 = true ∨ idT T s.1 = false := by cases idT T s.1 <;> simp
abbrev Back (B : Nat) (T : List Tok) (tv : Value) (pb : Nat) (W0 : World) (F0 : List Nat) (W1 : World) (F1 : List Nat) : Prop := ∀ W' m' low' kd' tx' s', Now B T tv pb m' low' kd' tx' W1 F1 W' s' → Now B T tv pb m' low' kd' tx' W0 F0 W' s'
end Go.Proofs.YtmoelofaojgjfaaGreatDoor.Par
namespace Go.Proofs.YtmoelofaojgjfaaGreatDoor.Par
open Go.RowKit Go.Proofs.YtmoelofaojgjfaaGreatDoorW.PrintWords Go.Proofs.YtmoelofaojgjfaaGreatDoorW.PrintLast
variable {B : Nat} {T : List Tok} {tv : Value} {pb m : Nat} {low : List Tree} {kd : Int} {tx : ByteArray} {W0 : World} {F0 : List Nat} {W : World} {s : St}
theorem zah {k : Nat} {x : NT} {q : Bool × St} (N : Now B T tv pb m low kd tx W0 F0 W s) (hr : run T k x s = some q) (hl : low.length + k ≤ 10000000) :
  ∃ j, k = j + 1 ∧ zar (Now B T tv pb 10000000 low kd tx W0 F0 W s) ∧ zar (step T (run T j) x s = some q) ∧ zar (fit T q.2 = true) ∧ zar (low.length + (j + 1) ≤ 10000000) ∧ zar (run T (j + 1) x s = some q) := by
 obtain ⟨j, rfl, h1, h2, h3⟩ := zad hr
 exact ⟨j, rfl, ⟨N.fit h1⟩, ⟨h2⟩, ⟨h3⟩, ⟨hl⟩, ⟨hr⟩⟩
theorem zi5 (H : zar (Now B T tv pb m low kd tx W0 F0 W s)) (cs : Array Value) (t : TypeId) :
  ∃ WB FB, W.alloc (.cells cs t) = WB ∧ W.heap.size + 1 = WB.heap.size ∧ zar (Back B T tv pb W0 F0 WB FB) ∧ zar (Old pb W0 F0 WB FB) ∧ zar (zer pb WB FB W.heap.size ∧ WB.heap[W.heap.size]? = some (.cells cs t (0, 0))) ∧ zar (Now B T tv pb m low kd tx WB FB WB s) := by
 obtain ⟨FB, NB, hnew, old, hback⟩ := H.out.enter2 (zh (Below.refl W.heap.size W) (.cells cs t))
 have hx := zaj W (.cells cs t)
 exact ⟨_, FB, rfl, by simp [World.size_alloc], ⟨hback⟩, ⟨old⟩, ⟨hnew _ (Nat.le_refl _) (za8 hx), hx⟩, ⟨NB⟩⟩
theorem zeo (H : zar (Now B T tv pb m low kd tx W0 F0 W s)) (v : Value) (t : TypeId) :
  ∃ WB FB, W.alloc (.cells #[v] t) = WB ∧ W.heap.size + 1 = WB.heap.size ∧ zar (Back B T tv pb W0 F0 WB FB) ∧ zar (Box pb WB FB W.heap.size v) ∧ zar (Now B T tv pb m low kd tx WB FB WB s) ∧ WB.cell? ⟨W.heap.size, 0, none⟩ = some v := by
 obtain ⟨WB, FB, h1, h2, h3, _, h5, h6⟩ := zi5 H #[v] t
 have hb : Box pb WB FB W.heap.size v := ⟨h5.out.1, _, h5.out.2⟩
 exact ⟨WB, FB, h1, h2, h3, ⟨hb⟩, h6, h6.out.box hb⟩
theorem zen (H : zar (Now B T tv pb m low kd tx W0 F0 W s)) (v : Value) (t : TypeId) (v2 : Value) (t2 : TypeId) :
  ∃ WB FB, (W.alloc (.cells #[v] t)).alloc (.cells #[v2] t2) = WB ∧ W.heap.size + 1 + 1 = WB.heap.size ∧ zar (Back B T tv pb W0 F0 WB FB) ∧ zar (Box pb WB FB W.heap.size v) ∧ zar (Box pb WB FB (W.heap.size + 1) v2) ∧ zar (Now B T tv pb m low kd tx WB FB WB s) ∧ WB.cell? ⟨W.heap.size, 0, none⟩ = some v ∧ WB.cell? ⟨W.heap.size + 1, 0, none⟩ = some v2 := by
 obtain ⟨FB, NB, hnew, old, hback⟩ := H.out.enter (zh (zh (Below.refl W.heap.size W) (.cells #[v] t)) (.cells #[v2] t2))
 have hn := zaj (W.alloc (.cells #[v] t)) (.cells #[v2] t2)
 simp only [World.size_alloc] at hn
 have hx := za5 (zaj W (.cells #[v] t)) (.cells #[v2] t2)
 have b1 : Box pb _ FB W.heap.size v := ⟨hnew _ (Nat.le_refl _) (za8 hx), _, hx⟩
 have b2 : Box pb _ FB (W.heap.size + 1) v2 := ⟨hnew _ (Nat.le_succ _) (za8 hn), _, hn⟩
 exact ⟨_, FB, rfl, by simp [World.size_alloc], ⟨hback⟩, ⟨b1⟩, ⟨b2⟩, ⟨NB⟩, NB.box b1, NB.box b2⟩
theorem zb2 {q q' : Bool × St} {v : Value} (D : zar (q = q')) (H : zar (Now B T tv pb m low kd tx W0 F0 W q'.2)) : (∃ u, Ending.returned v = .returned u) ∧ ∃ m', Now B T tv pb m' low kd tx W0 F0 W q.2 := by
 obtain ⟨rfl⟩ := D
 exact ⟨⟨_, rfl⟩, _, H.out⟩
theorem zbb {q q' : Bool × St} (D : zar (q = q')) (G : zar (fit T q.2 = true)) (H : zar (Now B T tv pb m low kd tx W0 F0 W q'.2)) : Now B T tv pb 10000000 low kd tx W0 F0 W q.2 := by
 obtain ⟨rfl⟩ := D
 exact H.out.fit G.out
theorem zyg {q : Bool × St} {z : St} {v : Value} (D : zar (q.2 = z)) (H : zar (Now B T tv pb m low kd tx W0 F0 W z)) : (∃ u, Ending.returned v = .returned u) ∧ ∃ m', Now B T tv pb m' low kd tx W0 F0 W q.2 := ⟨⟨_, rfl⟩, _, D.out ▸ H.out⟩
theorem z05 {q : Bool × St} {z : St} (D : zar (q.2 = z)) (G : zar (fit T q.2 = true)) (H : zar (Now B T tv pb m low kd tx W0 F0 W z)) : Now B T tv pb 10000000 low kd tx W0 F0 W q.2 := by
 have g := G.out
 rw [D.out] at g ⊢
 exact H.out.fit g
theorem dn {k : Nat} (ih : ∀ i, i < k + 1 → IH B T tv pb i) : ∀ i, i < k → IH B T tv pb i := fun i h => ih i (Nat.lt_succ_of_lt h)
theorem ij {k : Nat} (ih : ∀ i, i < k + 1 → IH B T tv pb i) : IH B T tv pb k := ih k (Nat.lt_succ_self k)
theorem hla {j : Nat} (HL : zar (low.length + (j + 1) ≤ 10000000)) {t : Tree} : (low ++ [t]).length + j ≤ 10000000 := by
 have := HL.out
 rw [List.length_append, List.length_singleton]
 omega
theorem hl_ {j : Nat} (HL : zar (low.length + (j + 1) ≤ 10000000)) : low.length + j ≤ 10000000 := by
 have := HL.out
 omega
theorem Does.at {k : Nat} {x : NT} {fid : Nat} {args : Array Value} {q : Bool × St} (d : Does B T tv pb (k + 1) x fid args low kd tx W0 F0) (N : Now B T tv pb m low kd tx W0 F0 W s) (R : zar (run T k x s = some q)) (hm : m ≤ 30000000 := by omega) :
  Calls Tryz.prog fid args W fun e W' => (∃ v, e = .returned v) ∧ ∃ m', Now B T tv pb m' low kd tx W0 F0 W' q.2 := d k (Nat.lt_succ_self k) m W s q hm N R.out
theorem mth {k : Nat} {x : NT} {fid : Nat} {args : Array Value} {res : Bool → Value} {q : Bool × St} (M : Meth B T tv pb k x fid args res) (HL : zar (low.length + (k + 1) ≤ 10000000)) (H : zar (Now B T tv pb m low kd tx W0 F0 W s)) (R : zar (run T k x s = some q)) (hm : m ≤ 30000000 := by omega) :
  Calls Tryz.prog fid args W (NowP B T tv pb 10000000 low kd tx W0 F0 (res q.1) q.2) := M m low kd tx W0 F0 W s q hm (hl_ HL) H.out R.out
theorem zui {k : Nat} {x : NT} {fid : Nat} {args : Array Value} {res : Bool → Value} {q : Bool × St} (M : Meth B T tv pb k x fid args res) (hl : low.length + k ≤ 10000000) (N : Now B T tv pb m low kd tx W0 F0 W s) (R : zar (run T k x s = some q)) (hm : m ≤ 30000000 := by omega) :
  Calls Tryz.prog fid args W fun e W' => (∃ v, e = .returned v) ∧ ∃ m', Now B T tv pb m' low kd tx W0 F0 W' q.2 := (M m low kd tx W0 F0 W s q hm hl N R.out).mono (fun e W' h => ⟨⟨_, h.1⟩, _, h.2⟩)
theorem zba {j : Nat} (H : zar (Now B T tv pb m low kd tx W0 F0 W s)) (HL : zar (low.length + (j + 1) ≤ 10000000)) {kind : Int} {fid : Nat} (bound free : Array Value) {k : Nat} {x : NT} {p : Bool × St} {z : St} (hen : ∀ args w, (callFunc fid args).run Tryz.prog w = .ok (.enter fid args) w) (R : zar (run T k x z = some p))
  (hf : ∀ W1 F1, Now B T tv pb 0 (low ++ [.mk kd tx s.2]) kind zj W1 F1 W1 (s.1, []) → Old pb W0 F0 W1 F1 → Calls Tryz.prog fid (bound ++ free) W1 fun e W' => (∃ v, e = .returned v) ∧ ∃ m', Now B T tv pb m' (low ++ [.mk kd tx s.2]) kind zj W1 F1 W' p.2) (hm : m ≤ 30000000 := by omega) :
  Calls Tryz.prog 146 #[.pointer (some ⟨pb, 0, none⟩), .int .i64 kind, .func (.func fid) bound free] W (NowP B T tv pb (m + 100001) low kd tx W0 F0 (.tuple #[]) (p.2.1, s.2 ++ [.mk kind zj p.2.2])) :=
 zd3 H.out hm (by have := HL.out; omega) kind fid bound free p.2 hen (zcf.1 (zce R.out)).1 hf
theorem zmf {j : Nat} {ks : List Tree} {t : Tree} (H : zar (Now B T tv pb m low kd tx W0 F0 W s)) (S : zar (s = (s.1, ks ++ [t]))) (HL : zar (low.length + (j + 1) ≤ 10000000)) {kind : Int} {fid : Nat} (bound free : Array Value) {k : Nat} {x : NT} {p : Bool × St} {z : St} (hen : ∀ args w, (callFunc fid args).run Tryz.prog w = .ok (.enter fid args) w) (R : zar (run T k x z = some p))
  (hf : ∀ W1 F1, Now B T tv pb 1 (low ++ [.mk kd tx ks]) kind zj W1 F1 W1 (s.1, [t]) → Old pb W0 F0 W1 F1 → Calls Tryz.prog fid (bound ++ free) W1 fun e W' => (∃ v, e = .returned v) ∧ ∃ m', Now B T tv pb m' (low ++ [.mk kd tx ks]) kind zj W1 F1 W' p.2) (hm : m ≤ 30000000 := by omega) :
  Calls Tryz.prog 326 #[.pointer (some ⟨pb, 0, none⟩), .int .i64 kind, .func (.func fid) bound free] W (NowP B T tv pb (m + 100001) low kd tx W0 F0 (.tuple #[]) (p.2.1, ks ++ [.mk kind zj p.2.2])) :=
 zd1 H.out S.out hm (by have := HL.out; omega) kind fid bound free p.2 hen (zcf.1 (zce R.out)).1 hf
end Go.Proofs.YtmoelofaojgjfaaGreatDoor.Par
namespace Go.Proofs.YtmoelofaojgjfaaGreatDoor.Par
open Go.RowKit
theorem zn5 : ∀ args w, (callFunc 358 args).run Tryz.prog w = .ok (.enter 358 args) w := enters_of Tryz.func358 (by kernel_rfl) rfl
theorem zek : ∀ args w, (callFunc 327 args).run Tryz.prog w = .ok (.enter 327 args) w := enters_of Tryz.func327 (by kernel_rfl) rfl
theorem zsl : ∀ args w, (callFunc 316 args).run Tryz.prog w = .ok (.enter 316 args) w := enters_of Tryz.func316 (by kernel_rfl) rfl
theorem zcs : ∀ args w, (callFunc 149 args).run Tryz.prog w = .ok (.enter 149 args) w := enters_of Tryz.func149 (by kernel_rfl) rfl
theorem zha : ∀ args w, (callFunc 277 args).run Tryz.prog w = .ok (.enter 277 args) w := enters_of Tryz.func277 (by kernel_rfl) rfl
theorem zjl : ∀ args w, (callFunc 279 args).run Tryz.prog w = .ok (.enter 279 args) w := enters_of Tryz.func279 (by kernel_rfl) rfl
theorem zjk : ∀ args w, (callFunc 280 args).run Tryz.prog w = .ok (.enter 280 args) w := enters_of Tryz.func280 (by kernel_rfl) rfl
theorem zge : ∀ args w, (callFunc 225 args).run Tryz.prog w = .ok (.enter 225 args) w := enters_of Tryz.func225 (by kernel_rfl) rfl
theorem zzu : ∀ args w, (callFunc 230 args).run Tryz.prog w = .ok (.enter 230 args) w := enters_of Tryz.func230 (by kernel_rfl) rfl
theorem zpy : ∀ args w, (callFunc 372 args).run Tryz.prog w = .ok (.enter 372 args) w := enters_of Tryz.func372 (by kernel_rfl) rfl
theorem zl5 : ∀ args w, (callFunc 373 args).run Tryz.prog w = .ok (.enter 373 args) w := enters_of Tryz.func373 (by kernel_rfl) rfl
theorem zn4 : ∀ args w, (callFunc 147 args).run Tryz.prog w = .ok (.enter 147 args) w := enters_of Tryz.func147 (by kernel_rfl) rfl
theorem zvg : ∀ args w, (callFunc 363 args).run Tryz.prog w = .ok (.enter 363 args) w := enters_of Tryz.func363 (by kernel_rfl) rfl
theorem zpx : ∀ args w, (callFunc 379 args).run Tryz.prog w = .ok (.enter 379 args) w := enters_of Tryz.func379 (by kernel_rfl) rfl
theorem z08 : ∀ args w, (callFunc 341 args).run Tryz.prog w = .ok (.enter 341 args) w := enters_of Tryz.func341 (by kernel_rfl) rfl
theorem zxu : ∀ args w, (callFunc 361 args).run Tryz.prog w = .ok (.enter 361 args) w := enters_of Tryz.func361 (by kernel_rfl) rfl
theorem zsk : ∀ args w, (callFunc 374 args).run Tryz.prog w = .ok (.enter 374 args) w := enters_of Tryz.func374 (by kernel_rfl) rfl
theorem zn3 : ∀ args w, (callFunc 376 args).run Tryz.prog w = .ok (.enter 376 args) w := enters_of Tryz.func376 (by kernel_rfl) rfl
theorem zn2 : ∀ args w, (callFunc 282 args).run Tryz.prog w = .ok (.enter 282 args) w := enters_of Tryz.func282 (by kernel_rfl) rfl
theorem zn1 : ∀ args w, (callFunc 283 args).run Tryz.prog w = .ok (.enter 283 args) w := enters_of Tryz.func283 (by kernel_rfl) rfl
theorem zpw : ∀ args w, (callFunc 290 args).run Tryz.prog w = .ok (.enter 290 args) w := enters_of Tryz.func290 (by kernel_rfl) rfl
theorem zl4 : ∀ args w, (callFunc 291 args).run Tryz.prog w = .ok (.enter 291 args) w := enters_of Tryz.func291 (by kernel_rfl) rfl
theorem zjj : ∀ args w, (callFunc 292 args).run Tryz.prog w = .ok (.enter 292 args) w := enters_of Tryz.func292 (by kernel_rfl) rfl
theorem zn0 : ∀ args w, (callFunc 322 args).run Tryz.prog w = .ok (.enter 322 args) w := enters_of Tryz.func322 (by kernel_rfl) rfl
theorem zfh : ∀ args w, (callFunc 323 args).run Tryz.prog w = .ok (.enter 323 args) w := enters_of Tryz.func323 (by kernel_rfl) rfl
theorem zsj : ∀ args w, (callFunc 356 args).run Tryz.prog w = .ok (.enter 356 args) w := enters_of Tryz.func356 (by kernel_rfl) rfl
theorem zh6 : ∀ args w, (callFunc 370 args).run Tryz.prog w = .ok (.enter 370 args) w := enters_of Tryz.func370 (by kernel_rfl) rfl
theorem zcl : ∀ args w, (callFunc 371 args).run Tryz.prog w = .ok (.enter 371 args) w := enters_of Tryz.func371 (by kernel_rfl) rfl
theorem znz : ∀ args w, (callFunc 365 args).run Tryz.prog w = .ok (.enter 365 args) w := enters_of Tryz.func365 (by kernel_rfl) rfl
theorem zh5 : ∀ args w, (callFunc 366 args).run Tryz.prog w = .ok (.enter 366 args) w := enters_of Tryz.func366 (by kernel_rfl) rfl
theorem zny : ∀ args w, (callFunc 357 args).run Tryz.prog w = .ok (.enter 357 args) w := enters_of Tryz.func357 (by kernel_rfl) rfl
theorem znx : ∀ args w, (callFunc 359 args).run Tryz.prog w = .ok (.enter 359 args) w := enters_of Tryz.func359 (by kernel_rfl) rfl
theorem zl3 : ∀ args w, (callFunc 343 args).run Tryz.prog w = .ok (.enter 343 args) w := enters_of Tryz.func343 (by kernel_rfl) rfl
theorem zji : ∀ args w, (callFunc 219 args).run Tryz.prog w = .ok (.enter 219 args) w := enters_of Tryz.func219 (by kernel_rfl) rfl
theorem zj5 : ∀ args w, (callFunc 342 args).run Tryz.prog w = .ok (.enter 342 args) w := enters_of Tryz.func342 (by kernel_rfl) rfl
theorem zgd : ∀ args w, (callFunc 345 args).run Tryz.prog w = .ok (.enter 345 args) w := enters_of Tryz.func345 (by kernel_rfl) rfl
theorem zgc : ∀ args w, (callFunc 346 args).run Tryz.prog w = .ok (.enter 346 args) w := enters_of Tryz.func346 (by kernel_rfl) rfl
theorem znw : ∀ args w, (callFunc 362 args).run Tryz.prog w = .ok (.enter 362 args) w := enters_of Tryz.func362 (by kernel_rfl) rfl
theorem zj4 : ∀ args w, (callFunc 377 args).run Tryz.prog w = .ok (.enter 377 args) w := enters_of Tryz.func377 (by kernel_rfl) rfl
theorem zig : ∀ args w, (callFunc 378 args).run Tryz.prog w = .ok (.enter 378 args) w := enters_of Tryz.func378 (by kernel_rfl) rfl
theorem zco : ∀ args w, (callFunc 229 args).run Tryz.prog w = .ok (.enter 229 args) w := enters_of Tryz.func229 (by kernel_rfl) rfl
theorem zl2 : ∀ args w, (callFunc 285 args).run Tryz.prog w = .ok (.enter 285 args) w := enters_of Tryz.func285 (by kernel_rfl) rfl
theorem zl1 : ∀ args w, (callFunc 286 args).run Tryz.prog w = .ok (.enter 286 args) w := enters_of Tryz.func286 (by kernel_rfl) rfl
theorem znv : ∀ args w, (callFunc 315 args).run Tryz.prog w = .ok (.enter 315 args) w := enters_of Tryz.func315 (by kernel_rfl) rfl
theorem zj3 : ∀ args w, (callFunc 340 args).run Tryz.prog w = .ok (.enter 340 args) w := enters_of Tryz.func340 (by kernel_rfl) rfl
theorem zjh : ∀ args w, (callFunc 314 args).run Tryz.prog w = .ok (.enter 314 args) w := enters_of Tryz.func314 (by kernel_rfl) rfl
theorem zsi : ∀ args w, (callFunc 348 args).run Tryz.prog w = .ok (.enter 348 args) w := enters_of Tryz.func348 (by kernel_rfl) rfl
theorem zsh : ∀ args w, (callFunc 349 args).run Tryz.prog w = .ok (.enter 349 args) w := enters_of Tryz.func349 (by kernel_rfl) rfl
theorem zxt : ∀ args w, (callFunc 271 args).run Tryz.prog w = .ok (.enter 271 args) w := enters_of Tryz.func271 (by kernel_rfl) rfl
end Go.Proofs.YtmoelofaojgjfaaGreatDoor.Par
namespace Go.Proofs.YtmoelofaojgjfaaGreatDoor.Par
open Go.RowKit Go.Proofs.YtmoelofaojgjfaaGreatDoorW.PrintWords Go.Proofs.YtmoelofaojgjfaaGreatDoorW.PrintLast
variable {B : Nat} {T : List Tok} {tv : Value} {pb : Nat} {low : List Tree} {kd : Int} {tx : ByteArray} {W0 : World} {F0 : List Nat}
theorem zoj  {k : Nat}  (ih : ∀ i, i < k → IH B T tv pb i) : Meth B T tv pb k .arguments 358 #[.pointer (some ⟨pb, 0, none⟩)] (fun _ => .tuple #[]) := by
 intro m low kd tx W0 F0 W s q hm hlow N hr
 obtain ⟨j, rfl, H, E, G, HL, RUN⟩ := zah N hr hlow
 clear N hr hlow
 go_enter Tryz.func358, Tryz.ntmps358
 go_wp2_with fail
 replace E := ak (zbh E.out)
 refine (zat H.out (by omega)).mono ?_
 rintro e W1 ⟨rfl, N⟩
 replace H := ak N
 clear N
 go_wp2_with fail
 obtain ⟨p2, e, d⟩ := zu E.out
 have R := ak e
 replace E := ak (d)
 clear e d
 refine (zdm 230 #[.pointer (some ⟨pb, 0, none⟩)] #[] zzu (by have := HL.out; omega) (Meth.does (k := j) (fun i hi => (ih i (by omega)).expr) (by have := HL.out; omega) (Nat.le_refl _)) H.out R.out).mono ?_
 rintro e W3 ⟨rfl, N⟩
 replace H := ak N
 clear N
 go_wp2_with fail
 go_end0
 exact ⟨rfl, (zbb ⟨zaw E.out⟩ G H)⟩
theorem zsz  {k : Nat} {bxp : Nat} {bxl : Nat}  (ih : ∀ i, i < k → IH B T tv pb i) (hb_bxp : Box pb W0 F0 bxp (.pointer (some ⟨pb, 0, none⟩))) (hb_bxl : Box pb W0 F0 bxl (.int .i64 0)) (hlow : low.length + k ≤ 10000000) : Does B T tv pb (k + 1) (.binRhs 0) 327 #[.pointer (some ⟨bxp, 0, none⟩), .pointer (some ⟨bxl, 0, none⟩)] low kd tx W0 F0 := by
 intro i hi m W s q hm N hr
 obtain ⟨j, rfl, H, E, G, HL, RUN⟩ := zah N hr (by omega)
 replace ih : ∀ i, i < j + 1 → IH B T tv pb i := fun i h => ih i (by omega)
 have B_bxp := ak hb_bxp
 have c_bxp := N.box hb_bxp
 have B_bxl := ak hb_bxl
 have c_bxl := N.box hb_bxl
 clear N hr hlow hb_bxp hb_bxl
 go_enter Tryz.func327, Tryz.ntmps327
 go_wp2_with fail
 replace E := ak (zbh E.out)
 refine (zat H.out (by omega)).mono ?_
 rintro e W1 ⟨rfl, N⟩
 replace H := ak N
 replace c_bxp := N.box B_bxp.out
 replace c_bxl := N.box B_bxl.out
 clear N
 go_wp2_with fail
 obtain ⟨p2, e, d⟩ := zu E.out
 have R := ak e
 replace E := ak (d)
 clear e d
 refine (mth ((ij ih).binary 1 (by omega)) HL H R).mono ?_
 rintro e W3 ⟨rfl, N⟩
 replace H := ak N
 replace c_bxp := N.box B_bxp.out
 replace c_bxl := N.box B_bxl.out
 clear N
 go_wp2_with fail
 go_end0
 exact zb2 ⟨zaw E.out⟩ H
theorem znu {m : Nat} {W : World} {s : St} (N : Now B T tv pb m low kd tx W0 F0 W s) : eofT T s.1 = true ∨ eofT T s.1 = false := by cases eofT T s.1 <;> simp
theorem and2 {a b : Bool} {x y : Ans} {q : Bool × St} (h : (if (!a && !b) = true then x else y) = some q) : (a = true ∧ y = some q) ∨ (a = false ∧ b = true ∧ y = some q) ∨ (a = false ∧ b = false ∧ x = some q) := by
 cases a <;> cases b <;> simp_all
theorem zwl {k : Nat} {bxp : Nat} (ih : ∀ i, i < k → IH B T tv pb i) (hb_bxp : Box pb W0 F0 bxp (.pointer (some ⟨pb, 0, none⟩))) (hlow : low.length + k ≤ 10000000) : Does B T tv pb (k + 1) .skipB 219 #[.pointer (some ⟨bxp, 0, none⟩)] low kd tx W0 F0 := by
 intro i hi m W s q hm N hr
 obtain ⟨j, rfl, h1, h2, h3⟩ := zad hr
 have H0 := ak (N.fit h1)
 obtain ⟨p, e1, e2⟩ := zu (zbh h2)
 have E0 := ak e1
 have E9 := ak (And.intro (zaw e2) h3)
 have B_bxp := ak hb_bxp
 have c0_bxp := N.box hb_bxp
 clear N h1 h2 h3 hr hlow hb_bxp e1 e2
 go_enter Tryz.func219, Tryz.ntmps219
 go_wp2_with fail
 refine (zat H0.out (by omega)).mono ?_
 rintro e W1 ⟨rfl, N1⟩
 have H1 := ak N1
 clear N1 H0 c0_bxp
 go_wp2_with fail
 go_loopg [] j (fun g wr => ∃ s1, Now B T tv pb 10000000 low kd tx W0 F0 wr s1 ∧ run T g .skipLoop s1 = some p ∧ g ≤ j)
 case atStart =>
  obtain ⟨_, _, g1, _, _⟩ := zad E0.out
  exact ⟨_, H1.out.fit g1, E0.out, Nat.le_refl _⟩
 case round =>
  obtain ⟨s1, N2, hr1, hg⟩ := hrel
  obtain ⟨i, rfl, f1, f2, f3⟩ := zad hr1
  have H2 := ak N2
  have E1 := ak (and2 f2)
  have hi2 := ak hg
  have c2_bxp := N2.box B_bxp.out
  clear N2 hr1 hg f1 f2 f3
  rcases znu H2.out with hat | hat
  ·have E2 : zar (p = (false, s1)) := by
    rcases E1.out with ⟨h, g⟩ | ⟨_, h, g⟩ | ⟨h, _, _⟩
    ·exact ⟨zab g⟩
    ·exact ⟨zab g⟩
    ·rw [hat] at h; cases h
   have HAT := ak hat
   clear hat
   go_wp2_with fail
   refine zbj (ds := []) (S := (fun w' => w'.cell? ⟨bxp, 0, none⟩ = some (.pointer (some ⟨pb, 0, none⟩)))) (by kernel_rfl) c2_bxp (fun hS => ?_)
   refine zm (i := 0) (v := .pointer (some ⟨pb, 0, none⟩)) rfl (by kernel_rfl) (by kernel_rfl) (by kernel_rfl) (by kernel_rfl) (by kernel_rfl) (fun _ _ _ h => h) (Or.inl ⟨by rfl, by intro w' z1; go_simp⟩) hS ?_
   simp only [Act.put, sia, List.set]
   refine zp (rs := [1]) (by kernel_rfl) (by simp) (zo.cons rfl (by simp) (fun K hK => ?_) zo.nil)
   go_simp
   refine (zfy (H2.out.below (zae (Below.refl _ _)))).mono ?_
   rintro e W3 ⟨rfl, N3⟩
   rw [HAT.out]
   have H3 := ak N3
   have cS := N3.box B_bxp.out
   clear N3
   refine hK.out _ _ cS (fun hS => ?_)
   clear hK
   try simp only [Act.put, sia, List.set]
   refine zm (i := 2) (v := .bool false) rfl (by kernel_rfl) (by kernel_rfl) (by kernel_rfl) (by kernel_rfl) (by kernel_rfl) (fun _ _ _ h => h) (Or.inl ⟨by rfl, by intro w' z1; go_simp⟩) hS ?_
   simp only [Act.put, sia, List.set]
   refine zm (i := 3) (v := .bool false) rfl (by kernel_rfl) (by kernel_rfl) (by kernel_rfl) (by kernel_rfl) (by kernel_rfl) (fun _ _ _ h => h) (Or.inl ⟨by rfl, by intro w' z1; go_simp⟩) hS ?_
   simp only [Act.put, sia, List.set]
   refine zm (i := 4) (v := undef) rfl (by kernel_rfl) (by kernel_rfl) (by kernel_rfl) (by kernel_rfl) (by kernel_rfl) (fun _ _ _ h => h) (Or.inr ⟨by rfl, rfl⟩) hS ?_
   simp only [Act.put, sia, List.set]
   refine zm (i := 5) (v := undef) rfl (by kernel_rfl) (by kernel_rfl) (by kernel_rfl) (by kernel_rfl) (by kernel_rfl) (fun _ _ _ h => h) (Or.inr ⟨by rfl, rfl⟩) hS ?_
   simp only [Act.put, sia, List.set]
   refine zm (i := 6) (v := undef) rfl (by kernel_rfl) (by kernel_rfl) (by kernel_rfl) (by kernel_rfl) (by kernel_rfl) (fun _ _ _ h => h) (Or.inr ⟨by rfl, rfl⟩) hS ?_
   simp only [Act.put, sia, List.set]
   refine zm (i := 7) (v := undef) rfl (by kernel_rfl) (by kernel_rfl) (by kernel_rfl) (by kernel_rfl) (by kernel_rfl) (fun _ _ _ h => h) (Or.inr ⟨by rfl, rfl⟩) hS ?_
   simp only [Act.put, sia, List.set]
   refine zm (i := 8) (v := .bool false) rfl (by kernel_rfl) (by kernel_rfl) (by kernel_rfl) (by kernel_rfl) (by kernel_rfl) (fun _ _ _ h => h) (Or.inl ⟨by rfl, by intro w' z1; go_simp⟩) hS ?_
   simp only [Act.put, sia, List.set]
   refine zq (by kernel_rfl) ?_ _
   show _
   go_wp2_with fail
   go_end0
   obtain ⟨hq, hf⟩ := E9.out
   rw [E2.out] at hq
   subst hq
   exact ⟨⟨_, rfl⟩, _, H3.out⟩
  ·have HAT := ak hat
   clear hat
   rcases zac H2.out zei with hkw | hkw
   ·have E2 : zar (p = (false, s1)) := by
     rcases E1.out with ⟨h, g⟩ | ⟨_, h, g⟩ | ⟨_, h, _⟩
     ·exact ⟨zab g⟩
     ·exact ⟨zab g⟩
     ·rw [hkw] at h; cases h
    have HKW := ak hkw
    clear hkw
    go_wp2_with fail
    refine zbj (ds := []) (S := (fun w' => w'.cell? ⟨bxp, 0, none⟩ = some (.pointer (some ⟨pb, 0, none⟩)))) (by kernel_rfl) c2_bxp (fun hS => ?_)
    refine zm (i := 0) (v := .pointer (some ⟨pb, 0, none⟩)) rfl (by kernel_rfl) (by kernel_rfl) (by kernel_rfl) (by kernel_rfl) (by kernel_rfl) (fun _ _ _ h => h) (Or.inl ⟨by rfl, by intro w' z1; go_simp⟩) hS ?_
    simp only [Act.put, sia, List.set]
    refine zp (rs := [1]) (by kernel_rfl) (by simp) (zo.cons rfl (by simp) (fun K hK => ?_) zo.nil)
    go_simp
    refine (zfy (H2.out.below (zae (Below.refl _ _)))).mono ?_
    rintro e W3 ⟨rfl, N3⟩
    rw [HAT.out]
    have H3 := ak N3
    have cS := N3.box B_bxp.out
    clear N3
    refine hK.out _ _ cS (fun hS => ?_)
    clear hK
    try simp only [Act.put, sia, List.set]
    refine zm (i := 2) (v := .bool true) rfl (by kernel_rfl) (by kernel_rfl) (by kernel_rfl) (by kernel_rfl) (by kernel_rfl) (fun _ _ _ h => h) (Or.inl ⟨by rfl, by intro w' z1; go_simp⟩) hS ?_
    simp only [Act.put, sia, List.set]
    refine zm (i := 3) (v := .bool true) rfl (by kernel_rfl) (by kernel_rfl) (by kernel_rfl) (by kernel_rfl) (by kernel_rfl) (fun _ _ _ h => h) (Or.inl ⟨by rfl, by intro w' z1; go_simp⟩) hS ?_
    simp only [Act.put, sia, List.set]
    refine zm (i := 4) (v := .pointer (some ⟨pb, 0, none⟩)) rfl (by kernel_rfl) (by kernel_rfl) (by kernel_rfl) (by kernel_rfl) (by kernel_rfl) (fun _ _ _ h => h) (Or.inl ⟨by rfl, by intro w' z1; go_simp⟩) hS ?_
    simp only [Act.put, sia, List.set]
    refine zp (rs := [5]) (by kernel_rfl) (by simp) (zo.cons rfl (by simp) (fun K hK => ?_) zo.nil)
    go_simp
    refine (zqm H3.out).mono ?_
    rintro e W4 ⟨rfl, N4, K4⟩
    have H4 := ak (And.intro N4 K4)
    have cS := N4.box B_bxp.out
    clear N4 K4
    refine hK.out _ _ cS (fun hS => ?_)
    clear hK
    try simp only [Act.put, sia, List.set]
    refine zp (rs := [6]) (by kernel_rfl) (by simp) (zo.cons rfl (by simp) (fun K hK => ?_) zo.nil)
    go_simp
    refine (zdr H4.out.1 (by decide) H4.out.2 (by decide)).mono ?_
    rintro e W5 ⟨rfl, N5⟩
    rw [HKW.out]
    have H5 := ak N5
    have cS := N5.box B_bxp.out
    clear N5
    refine hK.out _ _ cS (fun hS => ?_)
    clear hK
    try simp only [Act.put, sia, List.set]
    refine zm (i := 7) (v := .bool false) rfl (by kernel_rfl) (by kernel_rfl) (by kernel_rfl) (by kernel_rfl) (by kernel_rfl) (fun _ _ _ h => h) (Or.inl ⟨by rfl, by intro w' z1; go_simp⟩) hS ?_
    simp only [Act.put, sia, List.set]
    refine zm (i := 8) (v := .bool false) rfl (by kernel_rfl) (by kernel_rfl) (by kernel_rfl) (by kernel_rfl) (by kernel_rfl) (fun _ _ _ h => h) (Or.inl ⟨by rfl, by intro w' z1; go_simp⟩) hS ?_
    simp only [Act.put, sia, List.set]
    refine zq (by kernel_rfl) ?_ _
    show _
    go_wp2_with fail
    go_end0
    obtain ⟨hq, hf⟩ := E9.out
    rw [E2.out] at hq
    subst hq
    exact ⟨⟨_, rfl⟩, _, H5.out⟩
   ·have E2 : zar (run T i .skipLoop (zz T s1) = some p) := by
     rcases E1.out with ⟨h, g⟩ | ⟨_, h, g⟩ | ⟨_, _, g⟩
     ·rw [HAT.out] at h; cases h
     ·rw [hkw] at h; cases h
     ·exact ⟨g⟩
    have HKW := ak hkw
    clear hkw
    go_wp2_with fail
    refine zbj (ds := []) (S := (fun w' => w'.cell? ⟨bxp, 0, none⟩ = some (.pointer (some ⟨pb, 0, none⟩)))) (by kernel_rfl) c2_bxp (fun hS => ?_)
    refine zm (i := 0) (v := .pointer (some ⟨pb, 0, none⟩)) rfl (by kernel_rfl) (by kernel_rfl) (by kernel_rfl) (by kernel_rfl) (by kernel_rfl) (fun _ _ _ h => h) (Or.inl ⟨by rfl, by intro w' z1; go_simp⟩) hS ?_
    simp only [Act.put, sia, List.set]
    refine zp (rs := [1]) (by kernel_rfl) (by simp) (zo.cons rfl (by simp) (fun K hK => ?_) zo.nil)
    go_simp
    refine (zfy (H2.out.below (zae (Below.refl _ _)))).mono ?_
    rintro e W3 ⟨rfl, N3⟩
    rw [HAT.out]
    have H3 := ak N3
    have cS := N3.box B_bxp.out
    clear N3
    refine hK.out _ _ cS (fun hS => ?_)
    clear hK
    try simp only [Act.put, sia, List.set]
    refine zm (i := 2) (v := .bool true) rfl (by kernel_rfl) (by kernel_rfl) (by kernel_rfl) (by kernel_rfl) (by kernel_rfl) (fun _ _ _ h => h) (Or.inl ⟨by rfl, by intro w' z1; go_simp⟩) hS ?_
    simp only [Act.put, sia, List.set]
    refine zm (i := 3) (v := .bool true) rfl (by kernel_rfl) (by kernel_rfl) (by kernel_rfl) (by kernel_rfl) (by kernel_rfl) (fun _ _ _ h => h) (Or.inl ⟨by rfl, by intro w' z1; go_simp⟩) hS ?_
    simp only [Act.put, sia, List.set]
    refine zm (i := 4) (v := .pointer (some ⟨pb, 0, none⟩)) rfl (by kernel_rfl) (by kernel_rfl) (by kernel_rfl) (by kernel_rfl) (by kernel_rfl) (fun _ _ _ h => h) (Or.inl ⟨by rfl, by intro w' z1; go_simp⟩) hS ?_
    simp only [Act.put, sia, List.set]
    refine zp (rs := [5]) (by kernel_rfl) (by simp) (zo.cons rfl (by simp) (fun K hK => ?_) zo.nil)
    go_simp
    refine (zqm H3.out).mono ?_
    rintro e W4 ⟨rfl, N4, K4⟩
    have H4 := ak (And.intro N4 K4)
    have cS := N4.box B_bxp.out
    clear N4 K4
    refine hK.out _ _ cS (fun hS => ?_)
    clear hK
    try simp only [Act.put, sia, List.set]
    refine zp (rs := [6]) (by kernel_rfl) (by simp) (zo.cons rfl (by simp) (fun K hK => ?_) zo.nil)
    go_simp
    refine (zdr H4.out.1 (by decide) H4.out.2 (by decide)).mono ?_
    rintro e W5 ⟨rfl, N5⟩
    rw [HKW.out]
    have H5 := ak N5
    have cS := N5.box B_bxp.out
    clear N5
    refine hK.out _ _ cS (fun hS => ?_)
    clear hK
    try simp only [Act.put, sia, List.set]
    refine zm (i := 7) (v := .bool true) rfl (by kernel_rfl) (by kernel_rfl) (by kernel_rfl) (by kernel_rfl) (by kernel_rfl) (fun _ _ _ h => h) (Or.inl ⟨by rfl, by intro w' z1; go_simp⟩) hS ?_
    simp only [Act.put, sia, List.set]
    refine zm (i := 8) (v := .bool true) rfl (by kernel_rfl) (by kernel_rfl) (by kernel_rfl) (by kernel_rfl) (by kernel_rfl) (fun _ _ _ h => h) (Or.inl ⟨by rfl, by intro w' z1; go_simp⟩) hS ?_
    simp only [Act.put, sia, List.set]
    refine zq (by kernel_rfl) ?_ _
    show _
    go_wp2_with fail
    refine (zat H5.out (by omega)).mono ?_
    rintro e W6 ⟨rfl, N6⟩
    have H6 := ak N6
    clear N6
    go_wp2_with fail
    go_roundg i
    case rel =>
     obtain ⟨_, _, g1, _, _⟩ := zad E2.out
     exact ⟨_, H6.out.fit g1, E2.out, by have := hi2.out; omega⟩
    case measure => omega
end Go.Proofs.YtmoelofaojgjfaaGreatDoor.Par
namespace Go.Proofs.YtmoelofaojgjfaaGreatDoor.Par
open Go.RowKit Go.Proofs.YtmoelofaojgjfaaGreatDoorW.PrintWords Go.Proofs.YtmoelofaojgjfaaGreatDoorW.PrintLast
theorem zh9 {a b : Bool} (h : a = false) : (a && b) = false := by rw [h]; rfl
theorem zed {a b c : Bool} (h : a = true) (k : b = c) : (a && b) = c := by rw [h, k]; cases c <;> rfl
theorem zh0 {a b : Bool} (h : a = b) : (!a) = !b := by rw [h]
theorem z0g {a : ByteArray} (h : a ≠ ⟨#[95]⟩) : (a.toList == [95]) = false := by
 rw [beq_eq_false_iff_ne]
 intro e
 rw [Go.ByteArray.toList_eq] at e
 exact h (ByteArray.ext (Array.ext' e))
theorem zr1 {T : List Tok} {tv : Value} {qb n : Nat} {W : World} (L : Look T tv qb W n) : idT T n = true ∨ idT T n = false := by cases idT T n <;> simp
theorem zgk {T : List Tok} {tv : Value} {qb n : Nat} {W : World} (L : Look T tv qb W n) (l : List ByteArray) : atT T n l = true ∨ atT T n l = false := by cases atT T n l <;> simp
theorem zkl (W : World) : Calls Tryz.prog 325 #[.int .i64 0] W fun e W' => ∃ b, e = .returned (.slice (some ⟨b, 0, none⟩) (zb4 0).length (zb4 0).length) ∧ Below W.heap.size W W' ∧ Kd.C Kd.string W' (some ⟨b, 0, none⟩) (zb4 0).length (zb4 0) := by
 go_enter Tryz.func325, Tryz.ntmps325
 go_wp2_with fail
 go_ret
 refine ⟨_, rfl, ?_, ?_⟩
 ·exact zh (zh (zh (zh (zh (zh (Below.refl _ _) _) _) _) _) _) _
 ·have h := zaj W (Obj.cells #[.string ⟨#[124, 124]⟩] 9)
  try simp only [World.size_alloc] at h
  exact zdv (t := 9) (fr := (0, 0)) (zb4 0) (by decide) (za5 (za5 (za5 (za5 (za5 h _) _) _) _) _)
theorem zkk (W : World) : Calls Tryz.prog 325 #[.int .i64 1] W fun e W' => ∃ b, e = .returned (.slice (some ⟨b, 0, none⟩) (zb4 1).length (zb4 1).length) ∧ Below W.heap.size W W' ∧ Kd.C Kd.string W' (some ⟨b, 0, none⟩) (zb4 1).length (zb4 1) := by
 go_enter Tryz.func325, Tryz.ntmps325
 go_wp2_with fail
 go_ret
 refine ⟨_, rfl, ?_, ?_⟩
 ·exact zh (zh (zh (zh (zh (zh (Below.refl _ _) _) _) _) _) _) _
 ·have h := zaj (W.alloc (Obj.cells #[.string ⟨#[124, 124]⟩] 9)) (Obj.cells #[.string ⟨#[38, 38]⟩] 9)
  try simp only [World.size_alloc] at h
  exact zdv (t := 9) (fr := (0, 0)) (zb4 1) (by decide) (za5 (za5 (za5 (za5 h _) _) _) _)
theorem zkj (W : World) : Calls Tryz.prog 325 #[.int .i64 2] W fun e W' => ∃ b, e = .returned (.slice (some ⟨b, 0, none⟩) (zb4 2).length (zb4 2).length) ∧ Below W.heap.size W W' ∧ Kd.C Kd.string W' (some ⟨b, 0, none⟩) (zb4 2).length (zb4 2) := by
 go_enter Tryz.func325, Tryz.ntmps325
 go_wp2_with fail
 go_ret
 refine ⟨_, rfl, ?_, ?_⟩
 ·exact zh (zh (zh (zh (zh (zh (Below.refl _ _) _) _) _) _) _) _
 ·have h := zaj ((W.alloc (Obj.cells #[.string ⟨#[124, 124]⟩] 9)).alloc (Obj.cells #[.string ⟨#[38, 38]⟩] 9)) (Obj.cells #[.string ⟨#[61, 61]⟩, .string ⟨#[60]⟩] 9)
  try simp only [World.size_alloc] at h
  exact zdv (t := 9) (fr := (0, 0)) (zb4 2) (by decide) (za5 (za5 (za5 h _) _) _)
theorem zki (W : World) : Calls Tryz.prog 325 #[.int .i64 3] W fun e W' => ∃ b, e = .returned (.slice (some ⟨b, 0, none⟩) (zb4 3).length (zb4 3).length) ∧ Below W.heap.size W W' ∧ Kd.C Kd.string W' (some ⟨b, 0, none⟩) (zb4 3).length (zb4 3) := by
 go_enter Tryz.func325, Tryz.ntmps325
 go_wp2_with fail
 go_ret
 refine ⟨_, rfl, ?_, ?_⟩
 ·exact zh (zh (zh (zh (zh (zh (Below.refl _ _) _) _) _) _) _) _
 ·have h := zaj (((W.alloc (Obj.cells #[.string ⟨#[124, 124]⟩] 9)).alloc (Obj.cells #[.string ⟨#[38, 38]⟩] 9)).alloc (Obj.cells #[.string ⟨#[61, 61]⟩, .string ⟨#[60]⟩] 9)) (Obj.cells #[.string ⟨#[43]⟩, .string ⟨#[45]⟩] 9)
  try simp only [World.size_alloc] at h
  exact zdv (t := 9) (fr := (0, 0)) (zb4 3) (by decide) (za5 (za5 h _) _)
theorem zkh (W : World) : Calls Tryz.prog 325 #[.int .i64 4] W fun e W' => ∃ b, e = .returned (.slice (some ⟨b, 0, none⟩) (zb4 4).length (zb4 4).length) ∧ Below W.heap.size W W' ∧ Kd.C Kd.string W' (some ⟨b, 0, none⟩) (zb4 4).length (zb4 4) := by
 go_enter Tryz.func325, Tryz.ntmps325
 go_wp2_with fail
 go_ret
 refine ⟨_, rfl, ?_, ?_⟩
 ·exact zh (zh (zh (zh (zh (zh (Below.refl _ _) _) _) _) _) _) _
 ·have h := zaj ((((W.alloc (Obj.cells #[.string ⟨#[124, 124]⟩] 9)).alloc (Obj.cells #[.string ⟨#[38, 38]⟩] 9)).alloc (Obj.cells #[.string ⟨#[61, 61]⟩, .string ⟨#[60]⟩] 9)).alloc (Obj.cells #[.string ⟨#[43]⟩, .string ⟨#[45]⟩] 9)) (Obj.cells #[.string ⟨#[42]⟩, .string ⟨#[47]⟩] 9)
  try simp only [World.size_alloc] at h
  exact zdv (t := 9) (fr := (0, 0)) (zb4 4) (by decide) (za5 h _)
end Go.Proofs.YtmoelofaojgjfaaGreatDoor.Par
namespace Go.Proofs.YtmoelofaojgjfaaGreatDoor.Par
open Go.RowKit Go.Proofs.YtmoelofaojgjfaaGreatDoorW.PrintWords Go.Proofs.YtmoelofaojgjfaaGreatDoorW.PrintLast
variable {B : Nat} {T : List Tok} {tv : Value} {pb : Nat} {low : List Tree} {kd : Int} {tx : ByteArray} {W0 : World} {F0 : List Nat}
theorem zsu  {k : Nat}  (ih : ∀ i, i < k → IH B T tv pb i) : Meth B T tv pb k (.binary 0) 289 #[.pointer (some ⟨pb, 0, none⟩), .int .i64 0] (fun _ => .tuple #[]) := by
 intro m low kd tx W0 F0 W s q hm hlow N hr
 obtain ⟨j, rfl, H, E, G, HL, RUN⟩ := zah N hr hlow
 clear N hr hlow
 go_enter Tryz.func289, Tryz.ntmps289
 go_wp2_with fail
 obtain ⟨WB, FB, hWB, hsz, BK, B_bxp, B_bxl, HN, c_bxp, c_bxl⟩ := zen H (.pointer (some ⟨pb, 0, none⟩)) 184 (.int .i64 0) 3
 rw [hWB]
 try rw [hsz]
 clear hsz hWB H
 obtain ⟨p1, e, d⟩ := zu E.out
 have R := ak e
 replace E := ak (d)
 clear e d
 refine (mth ((ij ih).binary 1 (by omega)) HL HN R).mono ?_
 rintro e W2 ⟨rfl, N⟩
 have H := ak N
 replace c_bxp := N.box B_bxp.out
 replace c_bxl := N.box B_bxl.out
 clear N HN
 go_wp2_with fail
 obtain ⟨p3, e3, d3⟩ := zu E.out
 have L3 := ak e3
 have Y3 := ak d3
 clear e3 d3 E
 go_loopg [] j (fun g wr => ∃ pl s1, Now B T tv pb 10000000 low kd tx WB FB wr s1 ∧ run T g (.binLoop 0) s1 = some pl ∧ pl.2 = p3.2 ∧ g ≤ j)
 case atStart =>
  obtain ⟨_, _, g1, _, _⟩ := zad L3.out
  exact ⟨_, _, H.out.fit g1, L3.out, rfl, Nat.le_refl _⟩
 case round =>
  obtain ⟨pl4, s4, N4, hr4, hpl4, hg4⟩ := hrel
  obtain ⟨i4, rfl, f1, f2, f3⟩ := zad hr4
  have H4 := ak N4
  have E4 := ak f2
  have PL4 := ak hpl4
  have hi4 := ak hg4
  have c4_bxp := N4.box B_bxp.out
  have c4_bxl := N4.box B_bxl.out
  clear N4 hr4 hpl4 hg4 f1 f2 f3 H c_bxp c_bxl
  go_wp2_with fail
  rcases zac H4.out (zb4 0) with b6 | b6
  ·have HI6 := ak b6
   clear b6
   refine zc7 (ds := []) (S := (fun w' => w'.cell? ⟨W.heap.size, 0, none⟩ = some (.pointer (some ⟨pb, 0, none⟩)) ∧ w'.cell? ⟨W.heap.size + 1, 0, none⟩ = some (.int .i64 0))) #[false, false, false, false] (by kernel_rfl) rfl rfl ⟨c4_bxp, c4_bxl⟩ (fun hS => ?_)
   refine take_ (i := 0) (N := some 12) (v := .pointer (some ⟨pb, 0, none⟩)) #[true, false, false, false] rfl rfl (by kernel_rfl) (fun _ _ _ h => h) (Or.inl ⟨by kernel_rfl, by rintro w' ⟨z1, z2⟩; go_simp⟩) hS rfl ?_
   simp only [Act.put, sia, List.set]
   refine take_ (i := 1) (N := some 13) (v := .int .i64 0) #[true, true, false, false] rfl rfl (by kernel_rfl) (fun _ _ _ h => h) (Or.inl ⟨by kernel_rfl, by rintro w' ⟨z1, z2⟩; go_simp⟩) hS rfl ?_
   simp only [Act.put, sia, List.set]
   refine one_ (i := 2) (N := some 14) #[true, true, true, false] rfl rfl (by kernel_rfl) (by simp) (fun K hK => ?_)
   go_simp
   refine (zkl _).mono ?_
   rintro e W7 ⟨ob, rfl, hbo, hco⟩
   have N7 := (H4.out.below (zae (Below.refl _ _))).below hbo
   have H7 := ak (And.intro N7 hco)
   have cS := And.intro (N7.box B_bxp.out) (N7.box B_bxl.out)
   clear N7 hbo hco
   refine hK.out _ _ cS (fun hS => ?_)
   clear hK
   try simp only [Act.put, sia, List.set]
   refine one_ (i := 3) (N := some 15) #[true, true, true, true] rfl rfl (by kernel_rfl) (by simp) (fun K hK => ?_)
   go_simp
   refine (zdr H7.out.1 (by decide) H7.out.2 (Nat.le_refl _)).mono ?_
   rintro e W8 ⟨rfl, N8⟩
   rw [HI6.out]
   have H8 := ak N8
   have cS := And.intro (N8.box B_bxp.out) (N8.box B_bxl.out)
   refine hK.out _ _ cS (fun hS => ?_)
   clear hK
   try simp only [Act.put, sia, List.set]
   refine zq (by kernel_rfl) ?_ _
   have c8_bxp := N8.box B_bxp.out
   have c8_bxl := N8.box B_bxl.out
   clear N8 cS hS H4 c4_bxp c4_bxl
   have E9 := ak (if_t HI6.out E4.out)
   clear E4
   go_wp2_with fail
   obtain ⟨p10, e10, d10⟩ := zcp E9.out
   have X10 := ak e10
   have Y10 := ak d10
   clear e10 d10 E9
   obtain ⟨ks11, t11, p11, s11, e11, d11⟩ := zdi X10.out
   have R11 := ak e11
   have D11 := ak d11
   have S11 := ak s11
   clear e11 d11 s11 X10
   refine (zd1 H8.out S11.out (by omega) (by have := HL.out; have := hi4.out; omega) 39 327 #[] #[.pointer (some ⟨W.heap.size, 0, none⟩), .pointer (some ⟨W.heap.size + 1, 0, none⟩)] p11.2 zek (zcf.1 (zce R11.out)).1 (fun W1 F1 NN old => zsz  (k := i4) (fun i hi => ih i (by have := hi4.out; omega)) (B_bxp.out.old old) (B_bxl.out.old old) (by rw [List.length_append, List.length_singleton]; have := HL.out; have := hi4.out; omega) i4 (by omega) _ _ _ _ (by omega) NN R11.out)).mono ?_
   rintro e W12 ⟨rfl, N⟩
   have H := ak N
   have c_bxp := N.box B_bxp.out
   have c_bxl := N.box B_bxl.out
   clear c8_bxp c8_bxl N H8
   go_wp2_with fail
   have hp13 := D11.out
   have E13 := ak (by have h := Y10.out; rw [hp13] at h; exact h)
   clear hp13 D11 Y10
   go_roundg i4
   case rel =>
    obtain ⟨_, _, g1, _, _⟩ := zad E13.out
    exact ⟨_, _, H.out.fit g1, E13.out, PL4.out, by have := hi4.out; omega⟩
   case measure => omega
  ·have HI6 := ak b6
   clear b6
   refine zc7 (ds := []) (S := (fun w' => w'.cell? ⟨W.heap.size, 0, none⟩ = some (.pointer (some ⟨pb, 0, none⟩)) ∧ w'.cell? ⟨W.heap.size + 1, 0, none⟩ = some (.int .i64 0))) #[false, false, false, false] (by kernel_rfl) rfl rfl ⟨c4_bxp, c4_bxl⟩ (fun hS => ?_)
   refine take_ (i := 0) (N := some 12) (v := .pointer (some ⟨pb, 0, none⟩)) #[true, false, false, false] rfl rfl (by kernel_rfl) (fun _ _ _ h => h) (Or.inl ⟨by kernel_rfl, by rintro w' ⟨z1, z2⟩; go_simp⟩) hS rfl ?_
   simp only [Act.put, sia, List.set]
   refine take_ (i := 1) (N := some 13) (v := .int .i64 0) #[true, true, false, false] rfl rfl (by kernel_rfl) (fun _ _ _ h => h) (Or.inl ⟨by kernel_rfl, by rintro w' ⟨z1, z2⟩; go_simp⟩) hS rfl ?_
   simp only [Act.put, sia, List.set]
   refine one_ (i := 2) (N := some 14) #[true, true, true, false] rfl rfl (by kernel_rfl) (by simp) (fun K hK => ?_)
   go_simp
   refine (zkl _).mono ?_
   rintro e W14 ⟨ob, rfl, hbo, hco⟩
   have N14 := (H4.out.below (zae (Below.refl _ _))).below hbo
   have H14 := ak (And.intro N14 hco)
   have cS := And.intro (N14.box B_bxp.out) (N14.box B_bxl.out)
   clear N14 hbo hco
   refine hK.out _ _ cS (fun hS => ?_)
   clear hK
   try simp only [Act.put, sia, List.set]
   refine one_ (i := 3) (N := some 15) #[true, true, true, true] rfl rfl (by kernel_rfl) (by simp) (fun K hK => ?_)
   go_simp
   refine (zdr H14.out.1 (by decide) H14.out.2 (Nat.le_refl _)).mono ?_
   rintro e W15 ⟨rfl, N15⟩
   rw [HI6.out]
   have H15 := ak N15
   have cS := And.intro (N15.box B_bxp.out) (N15.box B_bxl.out)
   refine hK.out _ _ cS (fun hS => ?_)
   clear hK
   try simp only [Act.put, sia, List.set]
   refine zq (by kernel_rfl) ?_ _
   have c15_bxp := N15.box B_bxp.out
   have c15_bxl := N15.box B_bxl.out
   clear N15 cS hS H4 c4_bxp c4_bxl
   have E16 := ak (if_f HI6.out E4.out)
   clear E4
   go_wp2_with fail
   have hq17 : p3.2 = _ := PL4.out.symm.trans (congrArg Prod.snd (zab E16.out))
   have E17 := ak (by have h := Y3.out; rw [hq17] at h; exact h)
   clear hq17 E16
   go_end0
   exact ⟨rfl, (BK.out _ _ _ _ _ _ (zbb ⟨zaw E17.out⟩ G H15))⟩
theorem zsy  {k : Nat} {bxp : Nat} {bxl : Nat}  (ih : ∀ i, i < k → IH B T tv pb i) (hb_bxp : Box pb W0 F0 bxp (.pointer (some ⟨pb, 0, none⟩))) (hb_bxl : Box pb W0 F0 bxl (.int .i64 1)) (hlow : low.length + k ≤ 10000000) : Does B T tv pb (k + 1) (.binRhs 1) 327 #[.pointer (some ⟨bxp, 0, none⟩), .pointer (some ⟨bxl, 0, none⟩)] low kd tx W0 F0 := by
 intro i hi m W s q hm N hr
 obtain ⟨j, rfl, H, E, G, HL, RUN⟩ := zah N hr (by omega)
 replace ih : ∀ i, i < j + 1 → IH B T tv pb i := fun i h => ih i (by omega)
 have B_bxp := ak hb_bxp
 have c_bxp := N.box hb_bxp
 have B_bxl := ak hb_bxl
 have c_bxl := N.box hb_bxl
 clear N hr hlow hb_bxp hb_bxl
 go_enter Tryz.func327, Tryz.ntmps327
 go_wp2_with fail
 replace E := ak (zbh E.out)
 refine (zat H.out (by omega)).mono ?_
 rintro e W1 ⟨rfl, N⟩
 replace H := ak N
 replace c_bxp := N.box B_bxp.out
 replace c_bxl := N.box B_bxl.out
 clear N
 go_wp2_with fail
 obtain ⟨p2, e, d⟩ := zu E.out
 have R := ak e
 replace E := ak (d)
 clear e d
 refine (mth ((ij ih).binary 2 (by omega)) HL H R).mono ?_
 rintro e W3 ⟨rfl, N⟩
 replace H := ak N
 replace c_bxp := N.box B_bxp.out
 replace c_bxl := N.box B_bxl.out
 clear N
 go_wp2_with fail
 go_end0
 exact zb2 ⟨zaw E.out⟩ H
theorem zst  {k : Nat}  (ih : ∀ i, i < k → IH B T tv pb i) : Meth B T tv pb k (.binary 1) 289 #[.pointer (some ⟨pb, 0, none⟩), .int .i64 1] (fun _ => .tuple #[]) := by
 intro m low kd tx W0 F0 W s q hm hlow N hr
 obtain ⟨j, rfl, H, E, G, HL, RUN⟩ := zah N hr hlow
 clear N hr hlow
 go_enter Tryz.func289, Tryz.ntmps289
 go_wp2_with fail
 obtain ⟨WB, FB, hWB, hsz, BK, B_bxp, B_bxl, HN, c_bxp, c_bxl⟩ := zen H (.pointer (some ⟨pb, 0, none⟩)) 184 (.int .i64 1) 3
 rw [hWB]
 try rw [hsz]
 clear hsz hWB H
 obtain ⟨p1, e, d⟩ := zu E.out
 have R := ak e
 replace E := ak (d)
 clear e d
 refine (mth ((ij ih).binary 2 (by omega)) HL HN R).mono ?_
 rintro e W2 ⟨rfl, N⟩
 have H := ak N
 replace c_bxp := N.box B_bxp.out
 replace c_bxl := N.box B_bxl.out
 clear N HN
 go_wp2_with fail
 obtain ⟨p3, e3, d3⟩ := zu E.out
 have L3 := ak e3
 have Y3 := ak d3
 clear e3 d3 E
 go_loopg [] j (fun g wr => ∃ pl s1, Now B T tv pb 10000000 low kd tx WB FB wr s1 ∧ run T g (.binLoop 1) s1 = some pl ∧ pl.2 = p3.2 ∧ g ≤ j)
 case atStart =>
  obtain ⟨_, _, g1, _, _⟩ := zad L3.out
  exact ⟨_, _, H.out.fit g1, L3.out, rfl, Nat.le_refl _⟩
 case round =>
  obtain ⟨pl4, s4, N4, hr4, hpl4, hg4⟩ := hrel
  obtain ⟨i4, rfl, f1, f2, f3⟩ := zad hr4
  have H4 := ak N4
  have E4 := ak f2
  have PL4 := ak hpl4
  have hi4 := ak hg4
  have c4_bxp := N4.box B_bxp.out
  have c4_bxl := N4.box B_bxl.out
  clear N4 hr4 hpl4 hg4 f1 f2 f3 H c_bxp c_bxl
  go_wp2_with fail
  rcases zac H4.out (zb4 1) with b6 | b6
  ·have HI6 := ak b6
   clear b6
   refine zc7 (ds := []) (S := (fun w' => w'.cell? ⟨W.heap.size, 0, none⟩ = some (.pointer (some ⟨pb, 0, none⟩)) ∧ w'.cell? ⟨W.heap.size + 1, 0, none⟩ = some (.int .i64 1))) #[false, false, false, false] (by kernel_rfl) rfl rfl ⟨c4_bxp, c4_bxl⟩ (fun hS => ?_)
   refine take_ (i := 0) (N := some 12) (v := .pointer (some ⟨pb, 0, none⟩)) #[true, false, false, false] rfl rfl (by kernel_rfl) (fun _ _ _ h => h) (Or.inl ⟨by kernel_rfl, by rintro w' ⟨z1, z2⟩; go_simp⟩) hS rfl ?_
   simp only [Act.put, sia, List.set]
   refine take_ (i := 1) (N := some 13) (v := .int .i64 1) #[true, true, false, false] rfl rfl (by kernel_rfl) (fun _ _ _ h => h) (Or.inl ⟨by kernel_rfl, by rintro w' ⟨z1, z2⟩; go_simp⟩) hS rfl ?_
   simp only [Act.put, sia, List.set]
   refine one_ (i := 2) (N := some 14) #[true, true, true, false] rfl rfl (by kernel_rfl) (by simp) (fun K hK => ?_)
   go_simp
   refine (zkk _).mono ?_
   rintro e W7 ⟨ob, rfl, hbo, hco⟩
   have N7 := (H4.out.below (zae (Below.refl _ _))).below hbo
   have H7 := ak (And.intro N7 hco)
   have cS := And.intro (N7.box B_bxp.out) (N7.box B_bxl.out)
   clear N7 hbo hco
   refine hK.out _ _ cS (fun hS => ?_)
   clear hK
   try simp only [Act.put, sia, List.set]
   refine one_ (i := 3) (N := some 15) #[true, true, true, true] rfl rfl (by kernel_rfl) (by simp) (fun K hK => ?_)
   go_simp
   refine (zdr H7.out.1 (by decide) H7.out.2 (Nat.le_refl _)).mono ?_
   rintro e W8 ⟨rfl, N8⟩
   rw [HI6.out]
   have H8 := ak N8
   have cS := And.intro (N8.box B_bxp.out) (N8.box B_bxl.out)
   refine hK.out _ _ cS (fun hS => ?_)
   clear hK
   try simp only [Act.put, sia, List.set]
   refine zq (by kernel_rfl) ?_ _
   have c8_bxp := N8.box B_bxp.out
   have c8_bxl := N8.box B_bxl.out
   clear N8 cS hS H4 c4_bxp c4_bxl
   have E9 := ak (if_t HI6.out E4.out)
   clear E4
   go_wp2_with fail
   obtain ⟨p10, e10, d10⟩ := zcp E9.out
   have X10 := ak e10
   have Y10 := ak d10
   clear e10 d10 E9
   obtain ⟨ks11, t11, p11, s11, e11, d11⟩ := zdi X10.out
   have R11 := ak e11
   have D11 := ak d11
   have S11 := ak s11
   clear e11 d11 s11 X10
   refine (zd1 H8.out S11.out (by omega) (by have := HL.out; have := hi4.out; omega) 39 327 #[] #[.pointer (some ⟨W.heap.size, 0, none⟩), .pointer (some ⟨W.heap.size + 1, 0, none⟩)] p11.2 zek (zcf.1 (zce R11.out)).1 (fun W1 F1 NN old => zsy  (k := i4) (fun i hi => ih i (by have := hi4.out; omega)) (B_bxp.out.old old) (B_bxl.out.old old) (by rw [List.length_append, List.length_singleton]; have := HL.out; have := hi4.out; omega) i4 (by omega) _ _ _ _ (by omega) NN R11.out)).mono ?_
   rintro e W12 ⟨rfl, N⟩
   have H := ak N
   have c_bxp := N.box B_bxp.out
   have c_bxl := N.box B_bxl.out
   clear c8_bxp c8_bxl N H8
   go_wp2_with fail
   have hp13 := D11.out
   have E13 := ak (by have h := Y10.out; rw [hp13] at h; exact h)
   clear hp13 D11 Y10
   go_roundg i4
   case rel =>
    obtain ⟨_, _, g1, _, _⟩ := zad E13.out
    exact ⟨_, _, H.out.fit g1, E13.out, PL4.out, by have := hi4.out; omega⟩
   case measure => omega
  ·have HI6 := ak b6
   clear b6
   refine zc7 (ds := []) (S := (fun w' => w'.cell? ⟨W.heap.size, 0, none⟩ = some (.pointer (some ⟨pb, 0, none⟩)) ∧ w'.cell? ⟨W.heap.size + 1, 0, none⟩ = some (.int .i64 1))) #[false, false, false, false] (by kernel_rfl) rfl rfl ⟨c4_bxp, c4_bxl⟩ (fun hS => ?_)
   refine take_ (i := 0) (N := some 12) (v := .pointer (some ⟨pb, 0, none⟩)) #[true, false, false, false] rfl rfl (by kernel_rfl) (fun _ _ _ h => h) (Or.inl ⟨by kernel_rfl, by rintro w' ⟨z1, z2⟩; go_simp⟩) hS rfl ?_
   simp only [Act.put, sia, List.set]
   refine take_ (i := 1) (N := some 13) (v := .int .i64 1) #[true, true, false, false] rfl rfl (by kernel_rfl) (fun _ _ _ h => h) (Or.inl ⟨by kernel_rfl, by rintro w' ⟨z1, z2⟩; go_simp⟩) hS rfl ?_
   simp only [Act.put, sia, List.set]
   refine one_ (i := 2) (N := some 14) #[true, true, true, false] rfl rfl (by kernel_rfl) (by simp) (fun K hK => ?_)
   go_simp
   refine (zkk _).mono ?_
   rintro e W14 ⟨ob, rfl, hbo, hco⟩
   have N14 := (H4.out.below (zae (Below.refl _ _))).below hbo
   have H14 := ak (And.intro N14 hco)
   have cS := And.intro (N14.box B_bxp.out) (N14.box B_bxl.out)
   clear N14 hbo hco
   refine hK.out _ _ cS (fun hS => ?_)
   clear hK
   try simp only [Act.put, sia, List.set]
   refine one_ (i := 3) (N := some 15) #[true, true, true, true] rfl rfl (by kernel_rfl) (by simp) (fun K hK => ?_)
   go_simp
   refine (zdr H14.out.1 (by decide) H14.out.2 (Nat.le_refl _)).mono ?_
   rintro e W15 ⟨rfl, N15⟩
   rw [HI6.out]
   have H15 := ak N15
   have cS := And.intro (N15.box B_bxp.out) (N15.box B_bxl.out)
   refine hK.out _ _ cS (fun hS => ?_)
   clear hK
   try simp only [Act.put, sia, List.set]
   refine zq (by kernel_rfl) ?_ _
   have c15_bxp := N15.box B_bxp.out
   have c15_bxl := N15.box B_bxl.out
   clear N15 cS hS H4 c4_bxp c4_bxl
   have E16 := ak (if_f HI6.out E4.out)
   clear E4
   go_wp2_with fail
   have hq17 : p3.2 = _ := PL4.out.symm.trans (congrArg Prod.snd (zab E16.out))
   have E17 := ak (by have h := Y3.out; rw [hq17] at h; exact h)
   clear hq17 E16
   go_end0
   exact ⟨rfl, (BK.out _ _ _ _ _ _ (zbb ⟨zaw E17.out⟩ G H15))⟩
theorem zsx  {k : Nat} {bxp : Nat} {bxl : Nat}  (ih : ∀ i, i < k → IH B T tv pb i) (hb_bxp : Box pb W0 F0 bxp (.pointer (some ⟨pb, 0, none⟩))) (hb_bxl : Box pb W0 F0 bxl (.int .i64 2)) (hlow : low.length + k ≤ 10000000) : Does B T tv pb (k + 1) (.binRhs 2) 327 #[.pointer (some ⟨bxp, 0, none⟩), .pointer (some ⟨bxl, 0, none⟩)] low kd tx W0 F0 := by
 intro i hi m W s q hm N hr
 obtain ⟨j, rfl, H, E, G, HL, RUN⟩ := zah N hr (by omega)
 replace ih : ∀ i, i < j + 1 → IH B T tv pb i := fun i h => ih i (by omega)
 have B_bxp := ak hb_bxp
 have c_bxp := N.box hb_bxp
 have B_bxl := ak hb_bxl
 have c_bxl := N.box hb_bxl
 clear N hr hlow hb_bxp hb_bxl
 go_enter Tryz.func327, Tryz.ntmps327
 go_wp2_with fail
 replace E := ak (zbh E.out)
 refine (zat H.out (by omega)).mono ?_
 rintro e W1 ⟨rfl, N⟩
 replace H := ak N
 replace c_bxp := N.box B_bxp.out
 replace c_bxl := N.box B_bxl.out
 clear N
 go_wp2_with fail
 obtain ⟨p2, e, d⟩ := zu E.out
 have R := ak e
 replace E := ak (d)
 clear e d
 refine (mth ((ij ih).binary 3 (by omega)) HL H R).mono ?_
 rintro e W3 ⟨rfl, N⟩
 replace H := ak N
 replace c_bxp := N.box B_bxp.out
 replace c_bxl := N.box B_bxl.out
 clear N
 go_wp2_with fail
 go_end0
 exact zb2 ⟨zaw E.out⟩ H
theorem zss  {k : Nat}  (ih : ∀ i, i < k → IH B T tv pb i) : Meth B T tv pb k (.binary 2) 289 #[.pointer (some ⟨pb, 0, none⟩), .int .i64 2] (fun _ => .tuple #[]) := by
 intro m low kd tx W0 F0 W s q hm hlow N hr
 obtain ⟨j, rfl, H, E, G, HL, RUN⟩ := zah N hr hlow
 clear N hr hlow
 go_enter Tryz.func289, Tryz.ntmps289
 go_wp2_with fail
 obtain ⟨WB, FB, hWB, hsz, BK, B_bxp, B_bxl, HN, c_bxp, c_bxl⟩ := zen H (.pointer (some ⟨pb, 0, none⟩)) 184 (.int .i64 2) 3
 rw [hWB]
 try rw [hsz]
 clear hsz hWB H
 obtain ⟨p1, e, d⟩ := zu E.out
 have R := ak e
 replace E := ak (d)
 clear e d
 refine (mth ((ij ih).binary 3 (by omega)) HL HN R).mono ?_
 rintro e W2 ⟨rfl, N⟩
 have H := ak N
 replace c_bxp := N.box B_bxp.out
 replace c_bxl := N.box B_bxl.out
 clear N HN
 go_wp2_with fail
 obtain ⟨p3, e3, d3⟩ := zu E.out
 have L3 := ak e3
 have Y3 := ak d3
 clear e3 d3 E
 go_loopg [] j (fun g wr => ∃ pl s1, Now B T tv pb 10000000 low kd tx WB FB wr s1 ∧ run T g (.binLoop 2) s1 = some pl ∧ pl.2 = p3.2 ∧ g ≤ j)
 case atStart =>
  obtain ⟨_, _, g1, _, _⟩ := zad L3.out
  exact ⟨_, _, H.out.fit g1, L3.out, rfl, Nat.le_refl _⟩
 case round =>
  obtain ⟨pl4, s4, N4, hr4, hpl4, hg4⟩ := hrel
  obtain ⟨i4, rfl, f1, f2, f3⟩ := zad hr4
  have H4 := ak N4
  have E4 := ak f2
  have PL4 := ak hpl4
  have hi4 := ak hg4
  have c4_bxp := N4.box B_bxp.out
  have c4_bxl := N4.box B_bxl.out
  clear N4 hr4 hpl4 hg4 f1 f2 f3 H c_bxp c_bxl
  go_wp2_with fail
  rcases zac H4.out (zb4 2) with b6 | b6
  ·have HI6 := ak b6
   clear b6
   refine zc7 (ds := []) (S := (fun w' => w'.cell? ⟨W.heap.size, 0, none⟩ = some (.pointer (some ⟨pb, 0, none⟩)) ∧ w'.cell? ⟨W.heap.size + 1, 0, none⟩ = some (.int .i64 2))) #[false, false, false, false] (by kernel_rfl) rfl rfl ⟨c4_bxp, c4_bxl⟩ (fun hS => ?_)
   refine take_ (i := 0) (N := some 12) (v := .pointer (some ⟨pb, 0, none⟩)) #[true, false, false, false] rfl rfl (by kernel_rfl) (fun _ _ _ h => h) (Or.inl ⟨by kernel_rfl, by rintro w' ⟨z1, z2⟩; go_simp⟩) hS rfl ?_
   simp only [Act.put, sia, List.set]
   refine take_ (i := 1) (N := some 13) (v := .int .i64 2) #[true, true, false, false] rfl rfl (by kernel_rfl) (fun _ _ _ h => h) (Or.inl ⟨by kernel_rfl, by rintro w' ⟨z1, z2⟩; go_simp⟩) hS rfl ?_
   simp only [Act.put, sia, List.set]
   refine one_ (i := 2) (N := some 14) #[true, true, true, false] rfl rfl (by kernel_rfl) (by simp) (fun K hK => ?_)
   go_simp
   refine (zkj _).mono ?_
   rintro e W7 ⟨ob, rfl, hbo, hco⟩
   have N7 := (H4.out.below (zae (Below.refl _ _))).below hbo
   have H7 := ak (And.intro N7 hco)
   have cS := And.intro (N7.box B_bxp.out) (N7.box B_bxl.out)
   clear N7 hbo hco
   refine hK.out _ _ cS (fun hS => ?_)
   clear hK
   try simp only [Act.put, sia, List.set]
   refine one_ (i := 3) (N := some 15) #[true, true, true, true] rfl rfl (by kernel_rfl) (by simp) (fun K hK => ?_)
   go_simp
   refine (zdr H7.out.1 (by decide) H7.out.2 (Nat.le_refl _)).mono ?_
   rintro e W8 ⟨rfl, N8⟩
   rw [HI6.out]
   have H8 := ak N8
   have cS := And.intro (N8.box B_bxp.out) (N8.box B_bxl.out)
   refine hK.out _ _ cS (fun hS => ?_)
   clear hK
   try simp only [Act.put, sia, List.set]
   refine zq (by kernel_rfl) ?_ _
   have c8_bxp := N8.box B_bxp.out
   have c8_bxl := N8.box B_bxl.out
   clear N8 cS hS H4 c4_bxp c4_bxl
   have E9 := ak (if_t HI6.out E4.out)
   clear E4
   go_wp2_with fail
   obtain ⟨p10, e10, d10⟩ := zcp E9.out
   have X10 := ak e10
   have Y10 := ak d10
   clear e10 d10 E9
   obtain ⟨ks11, t11, p11, s11, e11, d11⟩ := zdi X10.out
   have R11 := ak e11
   have D11 := ak d11
   have S11 := ak s11
   clear e11 d11 s11 X10
   refine (zd1 H8.out S11.out (by omega) (by have := HL.out; have := hi4.out; omega) 39 327 #[] #[.pointer (some ⟨W.heap.size, 0, none⟩), .pointer (some ⟨W.heap.size + 1, 0, none⟩)] p11.2 zek (zcf.1 (zce R11.out)).1 (fun W1 F1 NN old => zsx  (k := i4) (fun i hi => ih i (by have := hi4.out; omega)) (B_bxp.out.old old) (B_bxl.out.old old) (by rw [List.length_append, List.length_singleton]; have := HL.out; have := hi4.out; omega) i4 (by omega) _ _ _ _ (by omega) NN R11.out)).mono ?_
   rintro e W12 ⟨rfl, N⟩
   have H := ak N
   have c_bxp := N.box B_bxp.out
   have c_bxl := N.box B_bxl.out
   clear c8_bxp c8_bxl N H8
   go_wp2_with fail
   have hp13 := D11.out
   have E13 := ak (by have h := Y10.out; rw [hp13] at h; exact h)
   clear hp13 D11 Y10
   have hq14 : p3.2 = _ := PL4.out.symm.trans (congrArg Prod.snd (zab E13.out))
   have E14 := ak (by have h := Y3.out; rw [hq14] at h; exact h)
   clear hq14 E13
   go_end0
   exact ⟨rfl, (BK.out _ _ _ _ _ _ (zbb ⟨zaw E14.out⟩ G H))⟩
  ·have HI6 := ak b6
   clear b6
   refine zc7 (ds := []) (S := (fun w' => w'.cell? ⟨W.heap.size, 0, none⟩ = some (.pointer (some ⟨pb, 0, none⟩)) ∧ w'.cell? ⟨W.heap.size + 1, 0, none⟩ = some (.int .i64 2))) #[false, false, false, false] (by kernel_rfl) rfl rfl ⟨c4_bxp, c4_bxl⟩ (fun hS => ?_)
   refine take_ (i := 0) (N := some 12) (v := .pointer (some ⟨pb, 0, none⟩)) #[true, false, false, false] rfl rfl (by kernel_rfl) (fun _ _ _ h => h) (Or.inl ⟨by kernel_rfl, by rintro w' ⟨z1, z2⟩; go_simp⟩) hS rfl ?_
   simp only [Act.put, sia, List.set]
   refine take_ (i := 1) (N := some 13) (v := .int .i64 2) #[true, true, false, false] rfl rfl (by kernel_rfl) (fun _ _ _ h => h) (Or.inl ⟨by kernel_rfl, by rintro w' ⟨z1, z2⟩; go_simp⟩) hS rfl ?_
   simp only [Act.put, sia, List.set]
   refine one_ (i := 2) (N := some 14) #[true, true, true, false] rfl rfl (by kernel_rfl) (by simp) (fun K hK => ?_)
   go_simp
   refine (zkj _).mono ?_
   rintro e W15 ⟨ob, rfl, hbo, hco⟩
   have N15 := (H4.out.below (zae (Below.refl _ _))).below hbo
   have H15 := ak (And.intro N15 hco)
   have cS := And.intro (N15.box B_bxp.out) (N15.box B_bxl.out)
   clear N15 hbo hco
   refine hK.out _ _ cS (fun hS => ?_)
   clear hK
   try simp only [Act.put, sia, List.set]
   refine one_ (i := 3) (N := some 15) #[true, true, true, true] rfl rfl (by kernel_rfl) (by simp) (fun K hK => ?_)
   go_simp
   refine (zdr H15.out.1 (by decide) H15.out.2 (Nat.le_refl _)).mono ?_
   rintro e W16 ⟨rfl, N16⟩
   rw [HI6.out]
   have H16 := ak N16
   have cS := And.intro (N16.box B_bxp.out) (N16.box B_bxl.out)
   refine hK.out _ _ cS (fun hS => ?_)
   clear hK
   try simp only [Act.put, sia, List.set]
   refine zq (by kernel_rfl) ?_ _
   have c16_bxp := N16.box B_bxp.out
   have c16_bxl := N16.box B_bxl.out
   clear N16 cS hS H4 c4_bxp c4_bxl
   have E17 := ak (if_f HI6.out E4.out)
   clear E4
   go_wp2_with fail
   have hq18 : p3.2 = _ := PL4.out.symm.trans (congrArg Prod.snd (zab E17.out))
   have E18 := ak (by have h := Y3.out; rw [hq18] at h; exact h)
   clear hq18 E17
   go_end0
   exact ⟨rfl, (BK.out _ _ _ _ _ _ (zbb ⟨zaw E18.out⟩ G H16))⟩
theorem zsw  {k : Nat} {bxp : Nat} {bxl : Nat}  (ih : ∀ i, i < k → IH B T tv pb i) (hb_bxp : Box pb W0 F0 bxp (.pointer (some ⟨pb, 0, none⟩))) (hb_bxl : Box pb W0 F0 bxl (.int .i64 3)) (hlow : low.length + k ≤ 10000000) : Does B T tv pb (k + 1) (.binRhs 3) 327 #[.pointer (some ⟨bxp, 0, none⟩), .pointer (some ⟨bxl, 0, none⟩)] low kd tx W0 F0 := by
 intro i hi m W s q hm N hr
 obtain ⟨j, rfl, H, E, G, HL, RUN⟩ := zah N hr (by omega)
 replace ih : ∀ i, i < j + 1 → IH B T tv pb i := fun i h => ih i (by omega)
 have B_bxp := ak hb_bxp
 have c_bxp := N.box hb_bxp
 have B_bxl := ak hb_bxl
 have c_bxl := N.box hb_bxl
 clear N hr hlow hb_bxp hb_bxl
 go_enter Tryz.func327, Tryz.ntmps327
 go_wp2_with fail
 replace E := ak (zbh E.out)
 refine (zat H.out (by omega)).mono ?_
 rintro e W1 ⟨rfl, N⟩
 replace H := ak N
 replace c_bxp := N.box B_bxp.out
 replace c_bxl := N.box B_bxl.out
 clear N
 go_wp2_with fail
 obtain ⟨p2, e, d⟩ := zu E.out
 have R := ak e
 replace E := ak (d)
 clear e d
 refine (mth ((ij ih).binary 4 (by omega)) HL H R).mono ?_
 rintro e W3 ⟨rfl, N⟩
 replace H := ak N
 replace c_bxp := N.box B_bxp.out
 replace c_bxl := N.box B_bxl.out
 clear N
 go_wp2_with fail
 go_end0
 exact zb2 ⟨zaw E.out⟩ H
theorem zsr  {k : Nat}  (ih : ∀ i, i < k → IH B T tv pb i) : Meth B T tv pb k (.binary 3) 289 #[.pointer (some ⟨pb, 0, none⟩), .int .i64 3] (fun _ => .tuple #[]) := by
 intro m low kd tx W0 F0 W s q hm hlow N hr
 obtain ⟨j, rfl, H, E, G, HL, RUN⟩ := zah N hr hlow
 clear N hr hlow
 go_enter Tryz.func289, Tryz.ntmps289
 go_wp2_with fail
 obtain ⟨WB, FB, hWB, hsz, BK, B_bxp, B_bxl, HN, c_bxp, c_bxl⟩ := zen H (.pointer (some ⟨pb, 0, none⟩)) 184 (.int .i64 3) 3
 rw [hWB]
 try rw [hsz]
 clear hsz hWB H
 obtain ⟨p1, e, d⟩ := zu E.out
 have R := ak e
 replace E := ak (d)
 clear e d
 refine (mth ((ij ih).binary 4 (by omega)) HL HN R).mono ?_
 rintro e W2 ⟨rfl, N⟩
 have H := ak N
 replace c_bxp := N.box B_bxp.out
 replace c_bxl := N.box B_bxl.out
 clear N HN
 go_wp2_with fail
 obtain ⟨p3, e3, d3⟩ := zu E.out
 have L3 := ak e3
 have Y3 := ak d3
 clear e3 d3 E
 go_loopg [] j (fun g wr => ∃ pl s1, Now B T tv pb 10000000 low kd tx WB FB wr s1 ∧ run T g (.binLoop 3) s1 = some pl ∧ pl.2 = p3.2 ∧ g ≤ j)
 case atStart =>
  obtain ⟨_, _, g1, _, _⟩ := zad L3.out
  exact ⟨_, _, H.out.fit g1, L3.out, rfl, Nat.le_refl _⟩
 case round =>
  obtain ⟨pl4, s4, N4, hr4, hpl4, hg4⟩ := hrel
  obtain ⟨i4, rfl, f1, f2, f3⟩ := zad hr4
  have H4 := ak N4
  have E4 := ak f2
  have PL4 := ak hpl4
  have hi4 := ak hg4
  have c4_bxp := N4.box B_bxp.out
  have c4_bxl := N4.box B_bxl.out
  clear N4 hr4 hpl4 hg4 f1 f2 f3 H c_bxp c_bxl
  go_wp2_with fail
  rcases zac H4.out (zb4 3) with b6 | b6
  ·have HI6 := ak b6
   clear b6
   refine zc7 (ds := []) (S := (fun w' => w'.cell? ⟨W.heap.size, 0, none⟩ = some (.pointer (some ⟨pb, 0, none⟩)) ∧ w'.cell? ⟨W.heap.size + 1, 0, none⟩ = some (.int .i64 3))) #[false, false, false, false] (by kernel_rfl) rfl rfl ⟨c4_bxp, c4_bxl⟩ (fun hS => ?_)
   refine take_ (i := 0) (N := some 12) (v := .pointer (some ⟨pb, 0, none⟩)) #[true, false, false, false] rfl rfl (by kernel_rfl) (fun _ _ _ h => h) (Or.inl ⟨by kernel_rfl, by rintro w' ⟨z1, z2⟩; go_simp⟩) hS rfl ?_
   simp only [Act.put, sia, List.set]
   refine take_ (i := 1) (N := some 13) (v := .int .i64 3) #[true, true, false, false] rfl rfl (by kernel_rfl) (fun _ _ _ h => h) (Or.inl ⟨by kernel_rfl, by rintro w' ⟨z1, z2⟩; go_simp⟩) hS rfl ?_
   simp only [Act.put, sia, List.set]
   refine one_ (i := 2) (N := some 14) #[true, true, true, false] rfl rfl (by kernel_rfl) (by simp) (fun K hK => ?_)
   go_simp
   refine (zki _).mono ?_
   rintro e W7 ⟨ob, rfl, hbo, hco⟩
   have N7 := (H4.out.below (zae (Below.refl _ _))).below hbo
   have H7 := ak (And.intro N7 hco)
   have cS := And.intro (N7.box B_bxp.out) (N7.box B_bxl.out)
   clear N7 hbo hco
   refine hK.out _ _ cS (fun hS => ?_)
   clear hK
   try simp only [Act.put, sia, List.set]
   refine one_ (i := 3) (N := some 15) #[true, true, true, true] rfl rfl (by kernel_rfl) (by simp) (fun K hK => ?_)
   go_simp
   refine (zdr H7.out.1 (by decide) H7.out.2 (Nat.le_refl _)).mono ?_
   rintro e W8 ⟨rfl, N8⟩
   rw [HI6.out]
   have H8 := ak N8
   have cS := And.intro (N8.box B_bxp.out) (N8.box B_bxl.out)
   refine hK.out _ _ cS (fun hS => ?_)
   clear hK
   try simp only [Act.put, sia, List.set]
   refine zq (by kernel_rfl) ?_ _
   have c8_bxp := N8.box B_bxp.out
   have c8_bxl := N8.box B_bxl.out
   clear N8 cS hS H4 c4_bxp c4_bxl
   have E9 := ak (if_t HI6.out E4.out)
   clear E4
   go_wp2_with fail
   obtain ⟨p10, e10, d10⟩ := zcp E9.out
   have X10 := ak e10
   have Y10 := ak d10
   clear e10 d10 E9
   obtain ⟨ks11, t11, p11, s11, e11, d11⟩ := zdi X10.out
   have R11 := ak e11
   have D11 := ak d11
   have S11 := ak s11
   clear e11 d11 s11 X10
   refine (zd1 H8.out S11.out (by omega) (by have := HL.out; have := hi4.out; omega) 39 327 #[] #[.pointer (some ⟨W.heap.size, 0, none⟩), .pointer (some ⟨W.heap.size + 1, 0, none⟩)] p11.2 zek (zcf.1 (zce R11.out)).1 (fun W1 F1 NN old => zsw  (k := i4) (fun i hi => ih i (by have := hi4.out; omega)) (B_bxp.out.old old) (B_bxl.out.old old) (by rw [List.length_append, List.length_singleton]; have := HL.out; have := hi4.out; omega) i4 (by omega) _ _ _ _ (by omega) NN R11.out)).mono ?_
   rintro e W12 ⟨rfl, N⟩
   have H := ak N
   have c_bxp := N.box B_bxp.out
   have c_bxl := N.box B_bxl.out
   clear c8_bxp c8_bxl N H8
   go_wp2_with fail
   have hp13 := D11.out
   have E13 := ak (by have h := Y10.out; rw [hp13] at h; exact h)
   clear hp13 D11 Y10
   go_roundg i4
   case rel =>
    obtain ⟨_, _, g1, _, _⟩ := zad E13.out
    exact ⟨_, _, H.out.fit g1, E13.out, PL4.out, by have := hi4.out; omega⟩
   case measure => omega
  ·have HI6 := ak b6
   clear b6
   refine zc7 (ds := []) (S := (fun w' => w'.cell? ⟨W.heap.size, 0, none⟩ = some (.pointer (some ⟨pb, 0, none⟩)) ∧ w'.cell? ⟨W.heap.size + 1, 0, none⟩ = some (.int .i64 3))) #[false, false, false, false] (by kernel_rfl) rfl rfl ⟨c4_bxp, c4_bxl⟩ (fun hS => ?_)
   refine take_ (i := 0) (N := some 12) (v := .pointer (some ⟨pb, 0, none⟩)) #[true, false, false, false] rfl rfl (by kernel_rfl) (fun _ _ _ h => h) (Or.inl ⟨by kernel_rfl, by rintro w' ⟨z1, z2⟩; go_simp⟩) hS rfl ?_
   simp only [Act.put, sia, List.set]
   refine take_ (i := 1) (N := some 13) (v := .int .i64 3) #[true, true, false, false] rfl rfl (by kernel_rfl) (fun _ _ _ h => h) (Or.inl ⟨by kernel_rfl, by rintro w' ⟨z1, z2⟩; go_simp⟩) hS rfl ?_
   simp only [Act.put, sia, List.set]
   refine one_ (i := 2) (N := some 14) #[true, true, true, false] rfl rfl (by kernel_rfl) (by simp) (fun K hK => ?_)
   go_simp
   refine (zki _).mono ?_
   rintro e W14 ⟨ob, rfl, hbo, hco⟩
   have N14 := (H4.out.below (zae (Below.refl _ _))).below hbo
   have H14 := ak (And.intro N14 hco)
   have cS := And.intro (N14.box B_bxp.out) (N14.box B_bxl.out)
   clear N14 hbo hco
   refine hK.out _ _ cS (fun hS => ?_)
   clear hK
   try simp only [Act.put, sia, List.set]
   refine one_ (i := 3) (N := some 15) #[true, true, true, true] rfl rfl (by kernel_rfl) (by simp) (fun K hK => ?_)
   go_simp
   refine (zdr H14.out.1 (by decide) H14.out.2 (Nat.le_refl _)).mono ?_
   rintro e W15 ⟨rfl, N15⟩
   rw [HI6.out]
   have H15 := ak N15
   have cS := And.intro (N15.box B_bxp.out) (N15.box B_bxl.out)
   refine hK.out _ _ cS (fun hS => ?_)
   clear hK
   try simp only [Act.put, sia, List.set]
   refine zq (by kernel_rfl) ?_ _
   have c15_bxp := N15.box B_bxp.out
   have c15_bxl := N15.box B_bxl.out
   clear N15 cS hS H4 c4_bxp c4_bxl
   have E16 := ak (if_f HI6.out E4.out)
   clear E4
   go_wp2_with fail
   have hq17 : p3.2 = _ := PL4.out.symm.trans (congrArg Prod.snd (zab E16.out))
   have E17 := ak (by have h := Y3.out; rw [hq17] at h; exact h)
   clear hq17 E16
   go_end0
   exact ⟨rfl, (BK.out _ _ _ _ _ _ (zbb ⟨zaw E17.out⟩ G H15))⟩
theorem zsv  {k : Nat} {bxp : Nat} {bxl : Nat}  (ih : ∀ i, i < k → IH B T tv pb i) (hb_bxp : Box pb W0 F0 bxp (.pointer (some ⟨pb, 0, none⟩))) (hb_bxl : Box pb W0 F0 bxl (.int .i64 4)) (hlow : low.length + k ≤ 10000000) : Does B T tv pb (k + 1) (.binRhs 4) 327 #[.pointer (some ⟨bxp, 0, none⟩), .pointer (some ⟨bxl, 0, none⟩)] low kd tx W0 F0 := by
 intro i hi m W s q hm N hr
 obtain ⟨j, rfl, H, E, G, HL, RUN⟩ := zah N hr (by omega)
 replace ih : ∀ i, i < j + 1 → IH B T tv pb i := fun i h => ih i (by omega)
 have B_bxp := ak hb_bxp
 have c_bxp := N.box hb_bxp
 have B_bxl := ak hb_bxl
 have c_bxl := N.box hb_bxl
 clear N hr hlow hb_bxp hb_bxl
 go_enter Tryz.func327, Tryz.ntmps327
 go_wp2_with fail
 replace E := ak (zbh E.out)
 refine (zat H.out (by omega)).mono ?_
 rintro e W1 ⟨rfl, N⟩
 replace H := ak N
 replace c_bxp := N.box B_bxp.out
 replace c_bxl := N.box B_bxl.out
 clear N
 go_wp2_with fail
 obtain ⟨p2, e, d⟩ := zu E.out
 have R := ak e
 replace E := ak (d)
 clear e d
 refine (mth ((ij ih).binary 5 (by omega)) HL H R).mono ?_
 rintro e W3 ⟨rfl, N⟩
 replace H := ak N
 replace c_bxp := N.box B_bxp.out
 replace c_bxl := N.box B_bxl.out
 clear N
 go_wp2_with fail
 go_end0
 exact zb2 ⟨zaw E.out⟩ H
theorem zsq  {k : Nat}  (ih : ∀ i, i < k → IH B T tv pb i) : Meth B T tv pb k (.binary 4) 289 #[.pointer (some ⟨pb, 0, none⟩), .int .i64 4] (fun _ => .tuple #[]) := by
 intro m low kd tx W0 F0 W s q hm hlow N hr
 obtain ⟨j, rfl, H, E, G, HL, RUN⟩ := zah N hr hlow
 clear N hr hlow
 go_enter Tryz.func289, Tryz.ntmps289
 go_wp2_with fail
 obtain ⟨WB, FB, hWB, hsz, BK, B_bxp, B_bxl, HN, c_bxp, c_bxl⟩ := zen H (.pointer (some ⟨pb, 0, none⟩)) 184 (.int .i64 4) 3
 rw [hWB]
 try rw [hsz]
 clear hsz hWB H
 obtain ⟨p1, e, d⟩ := zu E.out
 have R := ak e
 replace E := ak (d)
 clear e d
 refine (mth ((ij ih).binary 5 (by omega)) HL HN R).mono ?_
 rintro e W2 ⟨rfl, N⟩
 have H := ak N
 replace c_bxp := N.box B_bxp.out
 replace c_bxl := N.box B_bxl.out
 clear N HN
 go_wp2_with fail
 obtain ⟨p3, e3, d3⟩ := zu E.out
 have L3 := ak e3
 have Y3 := ak d3
 clear e3 d3 E
 go_loopg [] j (fun g wr => ∃ pl s1, Now B T tv pb 10000000 low kd tx WB FB wr s1 ∧ run T g (.binLoop 4) s1 = some pl ∧ pl.2 = p3.2 ∧ g ≤ j)
 case atStart =>
  obtain ⟨_, _, g1, _, _⟩ := zad L3.out
  exact ⟨_, _, H.out.fit g1, L3.out, rfl, Nat.le_refl _⟩
 case round =>
  obtain ⟨pl4, s4, N4, hr4, hpl4, hg4⟩ := hrel
  obtain ⟨i4, rfl, f1, f2, f3⟩ := zad hr4
  have H4 := ak N4
  have E4 := ak f2
  have PL4 := ak hpl4
  have hi4 := ak hg4
  have c4_bxp := N4.box B_bxp.out
  have c4_bxl := N4.box B_bxl.out
  clear N4 hr4 hpl4 hg4 f1 f2 f3 H c_bxp c_bxl
  go_wp2_with fail
  rcases zac H4.out (zb4 4) with b6 | b6
  ·have HI6 := ak b6
   clear b6
   refine zc7 (ds := []) (S := (fun w' => w'.cell? ⟨W.heap.size, 0, none⟩ = some (.pointer (some ⟨pb, 0, none⟩)) ∧ w'.cell? ⟨W.heap.size + 1, 0, none⟩ = some (.int .i64 4))) #[false, false, false, false] (by kernel_rfl) rfl rfl ⟨c4_bxp, c4_bxl⟩ (fun hS => ?_)
   refine take_ (i := 0) (N := some 12) (v := .pointer (some ⟨pb, 0, none⟩)) #[true, false, false, false] rfl rfl (by kernel_rfl) (fun _ _ _ h => h) (Or.inl ⟨by kernel_rfl, by rintro w' ⟨z1, z2⟩; go_simp⟩) hS rfl ?_
   simp only [Act.put, sia, List.set]
   refine take_ (i := 1) (N := some 13) (v := .int .i64 4) #[true, true, false, false] rfl rfl (by kernel_rfl) (fun _ _ _ h => h) (Or.inl ⟨by kernel_rfl, by rintro w' ⟨z1, z2⟩; go_simp⟩) hS rfl ?_
   simp only [Act.put, sia, List.set]
   refine one_ (i := 2) (N := some 14) #[true, true, true, false] rfl rfl (by kernel_rfl) (by simp) (fun K hK => ?_)
   go_simp
   refine (zkh _).mono ?_
   rintro e W7 ⟨ob, rfl, hbo, hco⟩
   have N7 := (H4.out.below (zae (Below.refl _ _))).below hbo
   have H7 := ak (And.intro N7 hco)
   have cS := And.intro (N7.box B_bxp.out) (N7.box B_bxl.out)
   clear N7 hbo hco
   refine hK.out _ _ cS (fun hS => ?_)
   clear hK
   try simp only [Act.put, sia, List.set]
   refine one_ (i := 3) (N := some 15) #[true, true, true, true] rfl rfl (by kernel_rfl) (by simp) (fun K hK => ?_)
   go_simp
   refine (zdr H7.out.1 (by decide) H7.out.2 (Nat.le_refl _)).mono ?_
   rintro e W8 ⟨rfl, N8⟩
   rw [HI6.out]
   have H8 := ak N8
   have cS := And.intro (N8.box B_bxp.out) (N8.box B_bxl.out)
   refine hK.out _ _ cS (fun hS => ?_)
   clear hK
   try simp only [Act.put, sia, List.set]
   refine zq (by kernel_rfl) ?_ _
   have c8_bxp := N8.box B_bxp.out
   have c8_bxl := N8.box B_bxl.out
   clear N8 cS hS H4 c4_bxp c4_bxl
   have E9 := ak (if_t HI6.out E4.out)
   clear E4
   go_wp2_with fail
   obtain ⟨p10, e10, d10⟩ := zcp E9.out
   have X10 := ak e10
   have Y10 := ak d10
   clear e10 d10 E9
   obtain ⟨ks11, t11, p11, s11, e11, d11⟩ := zdi X10.out
   have R11 := ak e11
   have D11 := ak d11
   have S11 := ak s11
   clear e11 d11 s11 X10
   refine (zd1 H8.out S11.out (by omega) (by have := HL.out; have := hi4.out; omega) 39 327 #[] #[.pointer (some ⟨W.heap.size, 0, none⟩), .pointer (some ⟨W.heap.size + 1, 0, none⟩)] p11.2 zek (zcf.1 (zce R11.out)).1 (fun W1 F1 NN old => zsv  (k := i4) (fun i hi => ih i (by have := hi4.out; omega)) (B_bxp.out.old old) (B_bxl.out.old old) (by rw [List.length_append, List.length_singleton]; have := HL.out; have := hi4.out; omega) i4 (by omega) _ _ _ _ (by omega) NN R11.out)).mono ?_
   rintro e W12 ⟨rfl, N⟩
   have H := ak N
   have c_bxp := N.box B_bxp.out
   have c_bxl := N.box B_bxl.out
   clear c8_bxp c8_bxl N H8
   go_wp2_with fail
   have hp13 := D11.out
   have E13 := ak (by have h := Y10.out; rw [hp13] at h; exact h)
   clear hp13 D11 Y10
   go_roundg i4
   case rel =>
    obtain ⟨_, _, g1, _, _⟩ := zad E13.out
    exact ⟨_, _, H.out.fit g1, E13.out, PL4.out, by have := hi4.out; omega⟩
   case measure => omega
  ·have HI6 := ak b6
   clear b6
   refine zc7 (ds := []) (S := (fun w' => w'.cell? ⟨W.heap.size, 0, none⟩ = some (.pointer (some ⟨pb, 0, none⟩)) ∧ w'.cell? ⟨W.heap.size + 1, 0, none⟩ = some (.int .i64 4))) #[false, false, false, false] (by kernel_rfl) rfl rfl ⟨c4_bxp, c4_bxl⟩ (fun hS => ?_)
   refine take_ (i := 0) (N := some 12) (v := .pointer (some ⟨pb, 0, none⟩)) #[true, false, false, false] rfl rfl (by kernel_rfl) (fun _ _ _ h => h) (Or.inl ⟨by kernel_rfl, by rintro w' ⟨z1, z2⟩; go_simp⟩) hS rfl ?_
   simp only [Act.put, sia, List.set]
   refine take_ (i := 1) (N := some 13) (v := .int .i64 4) #[true, true, false, false] rfl rfl (by kernel_rfl) (fun _ _ _ h => h) (Or.inl ⟨by kernel_rfl, by rintro w' ⟨z1, z2⟩; go_simp⟩) hS rfl ?_
   simp only [Act.put, sia, List.set]
   refine one_ (i := 2) (N := some 14) #[true, true, true, false] rfl rfl (by kernel_rfl) (by simp) (fun K hK => ?_)
   go_simp
   refine (zkh _).mono ?_
   rintro e W14 ⟨ob, rfl, hbo, hco⟩
   have N14 := (H4.out.below (zae (Below.refl _ _))).below hbo
   have H14 := ak (And.intro N14 hco)
   have cS := And.intro (N14.box B_bxp.out) (N14.box B_bxl.out)
   clear N14 hbo hco
   refine hK.out _ _ cS (fun hS => ?_)
   clear hK
   try simp only [Act.put, sia, List.set]
   refine one_ (i := 3) (N := some 15) #[true, true, true, true] rfl rfl (by kernel_rfl) (by simp) (fun K hK => ?_)
   go_simp
   refine (zdr H14.out.1 (by decide) H14.out.2 (Nat.le_refl _)).mono ?_
   rintro e W15 ⟨rfl, N15⟩
   rw [HI6.out]
   have H15 := ak N15
   have cS := And.intro (N15.box B_bxp.out) (N15.box B_bxl.out)
   refine hK.out _ _ cS (fun hS => ?_)
   clear hK
   try simp only [Act.put, sia, List.set]
   refine zq (by kernel_rfl) ?_ _
   have c15_bxp := N15.box B_bxp.out
   have c15_bxl := N15.box B_bxl.out
   clear N15 cS hS H4 c4_bxp c4_bxl
   have E16 := ak (if_f HI6.out E4.out)
   clear E4
   go_wp2_with fail
   have hq17 : p3.2 = _ := PL4.out.symm.trans (congrArg Prod.snd (zab E16.out))
   have E17 := ak (by have h := Y3.out; rw [hq17] at h; exact h)
   clear hq17 E16
   go_end0
   exact ⟨rfl, (BK.out _ _ _ _ _ _ (zbb ⟨zaw E17.out⟩ G H15))⟩
theorem zsp  {k : Nat}  (ih : ∀ i, i < k → IH B T tv pb i) : Meth B T tv pb k (.binary 5) 289 #[.pointer (some ⟨pb, 0, none⟩), .int .i64 5] (fun _ => .tuple #[]) := by
 intro m low kd tx W0 F0 W s q hm hlow N hr
 obtain ⟨j, rfl, H, E, G, HL, RUN⟩ := zah N hr hlow
 clear N hr hlow
 go_enter Tryz.func289, Tryz.ntmps289
 go_wp2_with fail
 obtain ⟨WB, FB, hWB, hsz, BK, B_bxp, B_bxl, HN, c_bxp, c_bxl⟩ := zen H (.pointer (some ⟨pb, 0, none⟩)) 184 (.int .i64 5) 3
 rw [hWB]
 try rw [hsz]
 clear hsz hWB H
 refine (mth (ij ih).unary HL HN E).mono ?_
 rintro e W1 ⟨rfl, N⟩
 have H := ak N
 replace c_bxp := N.box B_bxp.out
 replace c_bxl := N.box B_bxl.out
 clear N HN
 go_wp2_with fail
 go_end0
 exact ⟨rfl, (BK.out _ _ _ _ _ _ H.out)⟩
end Go.Proofs.YtmoelofaojgjfaaGreatDoor.Par
