/- Packed texts, part 1: contracts and plain lemmas towards outlineProperlyNested_holds. -/
import Derived.Laws.AppendOwn
import Derived.Laws.CopyOwn
import Derived.WalkKit
import Derived.Below
import Derived.Test.YtkijamagbgigmaaGreatDoorProg
import Derived.Shelf.Strings.Fields
import Derived.KernelRfl
import Derived.Deep.Draws
import Derived.Deep.AppendLies
import Derived.Maps.AppendAt
import Derived.OwnWalk
import Derived.Laws.BytesArg
import Derived.Laws.MakeOwn
import Derived.Laws.OwnMore
import Derived.Deep.OwnRows
import Derived.Tactics
import Derived.Lib.ConvBytes
import Derived.Laws.Slices
import Derived.RowKit3
import Derived.Deep.LoopGhost
import Derived.Deep.QuietTactic
import Derived.BigQuiet
import Derived.WideLaws
import Derived.Deep.DeepCutAuto
import Derived.Deep.CutBlock
import Derived.Deep.RegionHeld3
import Derived.Laws.Rows
import Derived.Lib.AppendStr
import Derived.ArgAppend
import Derived.Laws.IdiomCopy
import Derived.RowKit
import Derived.OrdersHeld
import Derived.Laws.BitsLemmas
import Derived.StillTailTactics
set_option maxHeartbeats 8000000
set_option maxRecDepth 1000000
set_option linter.unusedVariables false
set_option linter.unusedSimpArgs false
namespace Go.Proofs.YtkijamagbgigmaaGreatDoor
theorem odt {p : Prop} [i : Decidable p] (h : decide p = true) : p := of_decide_eq_true h
theorem sia {α : Type} (l : List α) (i : Nat) (v : α) : l.toArray.setIfInBounds i v = (l.set i v).toArray := List.setIfInBounds_toArray ..
end Go.Proofs.YtkijamagbgigmaaGreatDoor
namespace Go.Proofs.YtkijamagbgigmaaGreatDoor.Par
open Go.RowKit
inductive Tree where
 | mk (kind : Int) (text : ByteArray) (kids : List Tree)
def Tree.kind : Tree → Int
 | .mk k _ _ => k
def Tree.text : Tree → ByteArray
 | .mk _ t _ => t
def Tree.kids : Tree → List Tree
 | .mk _ _ ks => ks
def own1 (h : Value) : List Nat := match h.ownBlock with
 | some g => [g]
 | none => []
mutual
def TC (W : World) (B e : Nat) : Tree → List Value → List Nat → Prop
 | .mk k t ks, c, F => ∃ h cs Fs, c = [.int .i64 k, .string t, h] ∧ W.ownsRow B e 3 h ks.length cs ∧ F = own1 h ++ Fs ∧ TL W B e ks cs Fs
def TL (W : World) (B e : Nat) : List Tree → List Value → List Nat → Prop
 | [], cs, F => cs = [] ∧ F = []
 | t :: ts, cs, F => ∃ c cs' F1 F2, cs = c ++ cs' ∧ F = F1 ++ F2 ∧ TC W B e t c F1 ∧ TL W B e ts cs' F2
end
def TR (W : World) (B e : Nat) (ts : List Tree) (h : Value) (F : List Nat) : Prop := ∃ cs Fs, W.ownsRow B e 3 h ts.length cs ∧ F = own1 h ++ Fs ∧ TL W B e ts cs Fs
theorem TC_mk {W : World} {B e : Nat} {k : Int} {t : ByteArray} {ks : List Tree} {c : List Value} {F : List Nat} : TC W B e (.mk k t ks) c F ↔ ∃ h, c = [.int .i64 k, .string t, h] ∧ TR W B e ks h F := by
 simp only [TC, TR]
 constructor
 ·rintro ⟨h, cs, Fs, h1, h2, h3, h4⟩
  exact ⟨h, h1, cs, Fs, h2, h3, h4⟩
 ·rintro ⟨h, h1, cs, Fs, h2, h3, h4⟩
  exact ⟨h, cs, Fs, h1, h2, h3, h4⟩
theorem own_kept {W W' : World} {B e size n : Nat} {h : Value} {xs : List Value} (ho : W.ownsRow B e size h n xs) (hk : ∀ g ∈ own1 h, W'.heap[g]? = W.heap[g]?) : W'.ownsRow B e size h n xs := by
 refine ⟨ho.1, ?_⟩
 rcases ho.2 with h1 | ⟨g, cap, cur, rfl, h2, h3, h4⟩
 ·exact .inl h1
 ·exact .inr ⟨g, cap, cur, rfl, h2, (hk g (by simp [own1, Value.ownBlock])).trans h3, h4⟩
mutual
theorem TC_kept {W W' : World} {B e : Nat} : ∀ (t : Tree) (c : List Value) (F : List Nat), TC W B e t c F → (∀ g ∈ F, W'.heap[g]? = W.heap[g]?) → TC W' B e t c F
 | .mk k t ks, c, F, h, hk => by
  simp only [TC] at h ⊢
  obtain ⟨hd, cs, Fs, h1, h2, rfl, h4⟩ := h
  exact ⟨hd, cs, Fs, h1, own_kept h2 (fun g hg => hk g (List.mem_append_left _ hg)), rfl, TL_kept ks cs Fs h4 (fun g hg => hk g (List.mem_append_right _ hg))⟩
theorem TL_kept {W W' : World} {B e : Nat} : ∀ (ts : List Tree) (cs : List Value) (F : List Nat), TL W B e ts cs F → (∀ g ∈ F, W'.heap[g]? = W.heap[g]?) → TL W' B e ts cs F
 | [], cs, F, h, hk => by
  simp only [TL] at h ⊢
  exact h
 | t :: ts, cs, F, h, hk => by
  simp only [TL] at h ⊢
  obtain ⟨c, cs', F1, F2, h1, rfl, h3, h4⟩ := h
  exact ⟨c, cs', F1, F2, h1, rfl, TC_kept t c F1 h3 (fun g hg => hk g (List.mem_append_left _ hg)), TL_kept ts cs' F2 h4 (fun g hg => hk g (List.mem_append_right _ hg))⟩
end
theorem TR_kept {W W' : World} {B e : Nat} {ts : List Tree} {h : Value} {F : List Nat} (hr : TR W B e ts h F) (hk : ∀ g ∈ F, W'.heap[g]? = W.heap[g]?) : TR W' B e ts h F := by
 obtain ⟨cs, Fs, h1, rfl, h3⟩ := hr
 exact ⟨cs, Fs, own_kept h1 (fun g hg => hk g (List.mem_append_left _ hg)), rfl, TL_kept ts cs Fs h3 (fun g hg => hk g (List.mem_append_right _ hg))⟩
theorem own_bound {W : World} {B e size n : Nat} {h : Value} {xs : List Value} (ho : W.ownsRow B e size h n xs) : ∀ g ∈ own1 h, B ≤ g ∧ g < W.heap.size ∧ ∃ cur, W.heap[g]? = some (.cells cur e (0, 0)) := by
 intro g hg
 rcases ho.2 with ⟨rfl, _⟩ | ⟨g', cap, cur, rfl, h2, h3, h4⟩
 ·simp [own1, Value.ownBlock] at hg
 ·have : g = g' := by simpa [own1, Value.ownBlock] using hg
  subst this
  exact ⟨h2, (Array.getElem?_eq_some_iff.1 h3).1, cur, h3⟩
mutual
theorem TC_bound {W : World} {B e : Nat} : ∀ (t : Tree) (c : List Value) (F : List Nat), TC W B e t c F → ∀ g ∈ F, B ≤ g ∧ g < W.heap.size ∧ ∃ cur, W.heap[g]? = some (.cells cur e (0, 0))
 | .mk k t ks, c, F, h, g, hg => by
  simp only [TC] at h
  obtain ⟨hd, cs, Fs, h1, h2, rfl, h4⟩ := h
  rcases List.mem_append.1 hg with hg | hg
  ·exact own_bound h2 g hg
  ·exact TL_bound ks cs Fs h4 g hg
theorem TL_bound {W : World} {B e : Nat} : ∀ (ts : List Tree) (cs : List Value) (F : List Nat), TL W B e ts cs F → ∀ g ∈ F, B ≤ g ∧ g < W.heap.size ∧ ∃ cur, W.heap[g]? = some (.cells cur e (0, 0))
 | [], cs, F, h, g, hg => by
  simp only [TL] at h
  rw [h.2] at hg
  cases hg
 | t :: ts, cs, F, h, g, hg => by
  simp only [TL] at h
  obtain ⟨c, cs', F1, F2, h1, rfl, h3, h4⟩ := h
  rcases List.mem_append.1 hg with hg | hg
  ·exact TC_bound t c F1 h3 g hg
  ·exact TL_bound ts cs' F2 h4 g hg
end
theorem TR_bound {W : World} {B e : Nat} {ts : List Tree} {h : Value} {F : List Nat} (hr : TR W B e ts h F) : ∀ g ∈ F, B ≤ g ∧ g < W.heap.size ∧ ∃ cur, W.heap[g]? = some (.cells cur e (0, 0)) := by
 obtain ⟨cs, Fs, h1, rfl, h3⟩ := hr
 intro g hg
 rcases List.mem_append.1 hg with hg | hg
 ·exact own_bound h1 g hg
 ·exact TL_bound ts cs Fs h3 g hg
theorem TC_len {W : World} {B e : Nat} {t : Tree} {c : List Value} {F : List Nat} (h : TC W B e t c F) : c.length = 3 := by
 cases t
 simp only [TC] at h
 obtain ⟨hd, cs, Fs, rfl, _⟩ := h
 rfl
theorem TL_len {W : World} {B e : Nat} : ∀ (ts : List Tree) (cs : List Value) (F : List Nat), TL W B e ts cs F → cs.length = ts.length * 3
 | [], cs, F, h => by
  simp only [TL] at h
  rw [h.1]
  rfl
 | t :: ts, cs, F, h => by
  simp only [TL] at h
  obtain ⟨c, cs', F1, F2, rfl, rfl, h3, h4⟩ := h
  rw [List.length_append, TC_len h3, TL_len ts cs' F2 h4, List.length_cons]
  omega
theorem TL_append {W : World} {B e : Nat} : ∀ (ts us : List Tree) (cs ds : List Value) (F G : List Nat), TL W B e ts cs F → TL W B e us ds G → TL W B e (ts ++ us) (cs ++ ds) (F ++ G)
 | [], us, cs, ds, F, G, h, g => by
  simp only [TL] at h
  obtain ⟨rfl, rfl⟩ := h
  exact g
 | t :: ts, us, cs, ds, F, G, h, g => by
  simp only [TL] at h
  obtain ⟨c, cs', F1, F2, rfl, rfl, h3, h4⟩ := h
  rw [List.cons_append, List.append_assoc, List.append_assoc]
  simp only [TL]
  exact ⟨c, cs' ++ ds, F1, F2 ++ G, rfl, rfl, h3, TL_append ts us cs' ds F2 G h4 g⟩
theorem TL_one {W : World} {B e : Nat} {t : Tree} {c : List Value} {F : List Nat} (h : TC W B e t c F) : TL W B e [t] c F := by
 simp only [TL]
 exact ⟨c, [], F, [], by simp, by simp, h, rfl, rfl⟩
theorem TL_split {W : World} {B e : Nat} : ∀ (ts us : List Tree) (cs : List Value) (F : List Nat), TL W B e (ts ++ us) cs F → ∃ c1 c2 F1 F2, cs = c1 ++ c2 ∧ F = F1 ++ F2 ∧ TL W B e ts c1 F1 ∧ TL W B e us c2 F2
 | [], us, cs, F, h => ⟨[], cs, [], F, rfl, rfl, ⟨rfl, rfl⟩, h⟩
 | t :: ts, us, cs, F, h => by
  rw [List.cons_append] at h
  simp only [TL] at h
  obtain ⟨c, cs', F1, F2, rfl, rfl, h3, h4⟩ := h
  obtain ⟨c1, c2, G1, G2, rfl, rfl, k3, k4⟩ := TL_split ts us cs' F2 h4
  refine ⟨c ++ c1, c2, F1 ++ G1, G2, by rw [List.append_assoc], by rw [List.append_assoc], ?_, k4⟩
  simp only [TL]
  exact ⟨c, c1, F1, G1, rfl, rfl, h3, k3⟩
theorem TL_last {W : World} {B e : Nat} {ts : List Tree} {t : Tree} {cs : List Value} {F : List Nat} (h : TL W B e (ts ++ [t]) cs F) : ∃ c1 c2 F1 F2, cs = c1 ++ c2 ∧ F = F1 ++ F2 ∧ TL W B e ts c1 F1 ∧ TC W B e t c2 F2 := by
 obtain ⟨c1, c2, F1, F2, h1, h2, h3, h4⟩ := TL_split ts [t] cs F h
 simp only [TL] at h4
 obtain ⟨c, cs', G1, G2, rfl, rfl, k3, rfl, rfl⟩ := h4
 exact ⟨c1, c, F1, G1, by simpa using h1, by simpa using h2, h3, k3⟩
abbrev Tok := Int × ByteArray
abbrev St := Nat × List Tree
abbrev Ans := Option (Bool × St)
def triv (k : Int) : Bool := decide (k = 101) || decide (k = 102)
def leaf (t : Tok) : Tree := .mk t.1 t.2 []
def noText : ByteArray := ⟨#[]⟩
end Go.Proofs.YtkijamagbgigmaaGreatDoor.Par
namespace Go.Proofs.YtkijamagbgigmaaGreatDoor.Par
open Go.RowKit
variable (T : List Tok)
def peekT (pos : Nat) : Tok := ((T.drop pos).find? (fun t => !triv t.1)).getD (100, noText)
def atT (pos : Nat) (texts : List ByteArray) : Bool := (decide ((peekT T pos).1 = 104) || decide ((peekT T pos).1 = 107)) && texts.any (fun x => decide ((peekT T pos).2 = x))
def eofT (pos : Nat) : Bool := decide ((peekT T pos).1 = 100)
def idT (pos : Nat) : Bool := decide ((peekT T pos).1 = 103)
def addS (s : St) (t : Tree) : St := (s.1, s.2 ++ [t])
def triviaT (pos : Nat) : List Tok := (T.drop pos).takeWhile (fun t => triv t.1)
def skipS (s : St) : St := (s.1 + (triviaT T s.1).length, s.2 ++ (triviaT T s.1).map leaf)
def bumpS (s : St) : St := match T[(skipS T s).1]? with
 | some t => ((skipS T s).1 + 1, (skipS T s).2 ++ [leaf t])
 | none => skipS T s
def missNodeS (s : St) : St := addS s (.mk 46 noText [])
def missTokS (s : St) : St := addS s (.mk 108 noText [])
def absentS (s : St) : St := addS s (.mk 0 noText [])
def acceptS (s : St) (texts : List ByteArray) : St := if atT T s.1 texts = true then bumpS T s else s
def expectS (text : ByteArray) (s : St) : St := if atT T s.1 [text] = true then bumpS T s else missTokS s
def expectIdS (s : St) : St := if idT T s.1 = true then bumpS T s else missTokS s
def unexpS (s : St) : St := ((bumpS T (s.1, [])).1, s.2 ++ [.mk 46 noText (bumpS T (s.1, [])).2])
def lookT (pos : Nat) : Nat := (bumpS T (pos, [])).1
def itemKw : List ByteArray := [(⟨#[117, 115, 101]⟩ : ByteArray), (⟨#[112, 117, 98]⟩ : ByteArray), (⟨#[102, 110]⟩ : ByteArray), (⟨#[115, 116, 114, 117, 99, 116]⟩ : ByteArray), (⟨#[101, 110, 117, 109]⟩ : ByteArray), (⟨#[116, 114, 97, 105, 116]⟩ : ByteArray), (⟨#[105, 109, 112, 108]⟩ : ByteArray), (⟨#[99, 111, 110, 115, 116]⟩ : ByteArray), (⟨#[109, 97, 99, 114, 111]⟩ : ByteArray)]
def atItemT (pos : Nat) : Bool := atT T pos itemKw && !atT T pos [(⟨#[102, 110]⟩ : ByteArray)]
def kindOf (text : ByteArray) : Int := match [(⟨#[117, 115, 101]⟩ : ByteArray), (⟨#[102, 110]⟩ : ByteArray), (⟨#[115, 116, 114, 117, 99, 116]⟩ : ByteArray), (⟨#[101, 110, 117, 109]⟩ : ByteArray), (⟨#[116, 114, 97, 105, 116]⟩ : ByteArray), (⟨#[105, 109, 112, 108]⟩ : ByteArray), (⟨#[99, 111, 110, 115, 116]⟩ : ByteArray), (⟨#[109, 97, 99, 114, 111]⟩ : ByteArray)].findIdx? (fun x => decide (x = text)) with
 | some i => 2 + (i : Int)
 | none => 0
end Go.Proofs.YtkijamagbgigmaaGreatDoor.Par
namespace Go.Proofs.YtkijamagbgigmaaGreatDoor.Par
open Go.RowKit
inductive NT where
 | block | blockB | stmts | statement | letS | whileB | returnS | assignB | exprStmtB (bl : Bool) | expr | binary (l : Nat) | binLoop (l : Nat) | binRhs (l : Nat)
 | unary | unaryB | borrowB | arguments | postf | mcallB | fieldB | primary | macroB | parenB | ifExpr | ifB | elseB | matchS | armE | armB | structS | initE | initB
 | lambda | emptyB | pattern | mutB | variantB | list (closing : ByteArray) (e : NT) | listLoop (closing : ByteArray) (e : NT)
 | item | itemB (kind : Int) | skipToItem | skipB | skipLoop | itemBody (kind : Int) | useS | usePathB | useLoop | typeParams | typeParamsB | typeParam | typeParamB | boundLoop
 | params (closing : ByteArray) | paramsB (closing : ByteArray) | paramE | paramB | function (needs : Bool) | dataType (kind : Int) | dataE (kind : Int) | fieldDeclB | variantDeclB
 | members | membersLoop | methodB | assocB | implS | path (ty : Bool) | pathB (ty : Bool) | pathLoop (ty : Bool) (first : Bool) | segB (ty : Bool) | typeExpr | refB | funcTypeB
 | bump | expectId | opt (text : ByteArray) (e : NT) | items
def st (f : St → St) : St → Ans := fun s => some (false, f s)
def sqL : List (St → Ans) → St → Ans
 | [], s => some (false, s)
 | f :: fs, s => (f s).bind fun q => sqL fs q.2
def nodeM (kind : Int) (f : St → Ans) : St → Ans := fun s => (f (s.1, [])).bind fun q => some (false, (q.2.1, s.2 ++ [.mk kind noText q.2.2]))
def nodeG (kind : Int) (f : St → Ans) : St → Ans := fun s => (f (s.1, [])).bind fun q => some (q.1, (q.2.1, s.2 ++ [.mk kind noText q.2.2]))
def wrapM (kind : Int) (f : St → Ans) : St → Ans := fun s => match s.2.getLast? with
 | none => none
 | some t => (f (s.1, [t])).bind fun q => some (false, (q.2.1, s.2.dropLast ++ [.mk kind noText q.2.2]))
def binOps (l : Nat) : List ByteArray := match l with
 | 0 => [(⟨#[124, 124]⟩ : ByteArray)]
 | 1 => [(⟨#[38, 38]⟩ : ByteArray)]
 | 2 => [(⟨#[61, 61]⟩ : ByteArray), (⟨#[60]⟩ : ByteArray)]
 | 3 => [(⟨#[43]⟩ : ByteArray), (⟨#[45]⟩ : ByteArray)]
 | _ => [(⟨#[42]⟩ : ByteArray), (⟨#[47]⟩ : ByteArray)]
def step (T : List Tok) (r : NT → St → Ans) : NT → St → Ans
  | .block => nodeM 21 (r .blockB)
  | .blockB => fun s => (r .stmts (expectS T (⟨#[123]⟩ : ByteArray) s)).bind fun q => some (false, expectS T (⟨#[125]⟩ : ByteArray) (if q.1 = true then q.2 else absentS q.2))
  | .stmts => fun s => if (!atT T s.1 [(⟨#[125]⟩ : ByteArray)] && !eofT T s.1 && !atT T s.1 itemKw) = true then (r .statement s).bind fun q => (if q.1 = true then some (true, q.2) else r .stmts q.2) else some (false, s)
  | .statement => fun s =>
    if atT T s.1 [(⟨#[108, 101, 116]⟩ : ByteArray)] = true then nodeM 22 (r .letS) s
    else if atT T s.1 [(⟨#[119, 104, 105, 108, 101]⟩ : ByteArray)] = true then nodeM 24 (r .whileB) s
    else if atT T s.1 [(⟨#[114, 101, 116, 117, 114, 110]⟩ : ByteArray)] = true then nodeM 25 (r .returnS) s
    else (if atT T s.1 [(⟨#[105, 102]⟩ : ByteArray), (⟨#[109, 97, 116, 99, 104]⟩ : ByteArray), (⟨#[123]⟩ : ByteArray)] = true then r .primary s else r .expr s).bind fun q =>
      if q.2.1 = s.1 then (match q.2.2.getLast? with | none => none | some _ => some (false, unexpS T (q.2.1, q.2.2.dropLast)))
      else if atT T q.2.1 [(⟨#[125]⟩ : ByteArray)] = true then some (true, q.2)
      else if atT T q.2.1 [(⟨#[61]⟩ : ByteArray)] = true then wrapM 23 (r .assignB) q.2
      else wrapM 26 (r (.exprStmtB (atT T s.1 [(⟨#[105, 102]⟩ : ByteArray), (⟨#[109, 97, 116, 99, 104]⟩ : ByteArray), (⟨#[123]⟩ : ByteArray)]))) q.2
  | .letS => sqL [st (bumpS T), r .pattern, r (.opt (⟨#[58]⟩ : ByteArray) .typeExpr), st (expectS T (⟨#[61]⟩ : ByteArray)), r .expr, st (expectS T (⟨#[59]⟩ : ByteArray))]
  | .whileB => sqL [st (bumpS T), r .expr, r .block]
  | .returnS => sqL [st (bumpS T), fun s => (if atT T s.1 [(⟨#[59]⟩ : ByteArray)] = true then some (false, absentS s) else r .expr s), st (expectS T (⟨#[59]⟩ : ByteArray))]
  | .assignB => sqL [st (bumpS T), r .expr, st (expectS T (⟨#[59]⟩ : ByteArray))]
  | .exprStmtB bl => fun s => if atT T s.1 [(⟨#[59]⟩ : ByteArray)] = true then some (false, bumpS T s) else if bl = true then some (false, s) else some (false, missTokS s)
  | .expr => r (.binary 0)
  | .binary l => if l = 5 then r .unary else sqL [r (.binary (l + 1)), r (.binLoop l)]
  | .binLoop l => fun s => if atT T s.1 (binOps l) = true then (wrapM 39 (r (.binRhs l)) s).bind fun q => (if l = 2 then some (false, q.2) else r (.binLoop l) q.2) else some (false, s)
  | .binRhs l => sqL [st (bumpS T), r (.binary (l + 1))]
  | .unary => fun s => if atT T s.1 [(⟨#[45]⟩ : ByteArray), (⟨#[33]⟩ : ByteArray), (⟨#[42]⟩ : ByteArray)] = true then nodeM 40 (r .unaryB) s else if atT T s.1 [(⟨#[38]⟩ : ByteArray)] = true then nodeM 41 (r .borrowB) s else sqL [r .primary, r .postf] s
  | .unaryB => sqL [st (bumpS T), r .unary]
  | .borrowB => sqL [st (bumpS T), st (fun s => acceptS T s [(⟨#[109, 117, 116]⟩ : ByteArray)]), r .unary]
  | .arguments => sqL [st (bumpS T), r (.list (⟨#[41]⟩ : ByteArray) .expr)]
  | .postf => fun s => if atT T s.1 [(⟨#[40]⟩ : ByteArray), (⟨#[46]⟩ : ByteArray)] = true then
      (if atT T s.1 [(⟨#[40]⟩ : ByteArray)] = true then wrapM 30 (r .arguments) s
       else if (idT T (lookT T s.1) && atT T (lookT T (lookT T s.1)) [(⟨#[40]⟩ : ByteArray)]) = true then wrapM 31 (r .mcallB) s else wrapM 32 (r .fieldB) s).bind fun q => r .postf q.2
    else some (false, s)
  | .mcallB => sqL [st (bumpS T), st (bumpS T), r .arguments]
  | .fieldB => sqL [st (bumpS T), st (expectIdS T)]
  | .primary => fun s =>
    if (peekT T s.1).1 = 105 then nodeM 27 (r .bump) s
    else if (peekT T s.1).1 = 106 then nodeM 29 (r .bump) s
    else if atT T s.1 [(⟨#[116, 114, 117, 101]⟩ : ByteArray), (⟨#[102, 97, 108, 115, 101]⟩ : ByteArray)] = true then nodeM 28 (r .bump) s
    else if (peekT T s.1).1 = 103 then (r (.path false) s).bind fun q => (if (atT T q.2.1 [(⟨#[33]⟩ : ByteArray)] && atT T (lookT T q.2.1) [(⟨#[40]⟩ : ByteArray)]) = true then wrapM 42 (r .macroB) q.2 else some (false, q.2))
    else if atT T s.1 [(⟨#[40]⟩ : ByteArray)] = true then nodeM 60 (r .parenB) s
    else if atT T s.1 [(⟨#[123]⟩ : ByteArray)] = true then r .block s
    else if atT T s.1 [(⟨#[105, 102]⟩ : ByteArray)] = true then r .ifExpr s
    else if atT T s.1 [(⟨#[109, 97, 116, 99, 104]⟩ : ByteArray)] = true then nodeM 35 (r .matchS) s
    else if atT T s.1 [(⟨#[110, 101, 119]⟩ : ByteArray)] = true then nodeM 33 (r .structS) s
    else if atT T s.1 [(⟨#[124]⟩ : ByteArray), (⟨#[124, 124]⟩ : ByteArray)] = true then nodeM 38 (r .lambda) s
    else some (false, missNodeS s)
  | .macroB => sqL [st (bumpS T), r .arguments]
  | .parenB => sqL [st (bumpS T), r .expr, st (expectS T (⟨#[41]⟩ : ByteArray))]
  | .ifExpr => nodeM 37 (r .ifB)
  | .ifB => sqL [st (bumpS T), r .expr, r .block, r (.opt (⟨#[101, 108, 115, 101]⟩ : ByteArray) .elseB)]
  | .elseB => fun s => if atT T s.1 [(⟨#[105, 102]⟩ : ByteArray)] = true then r .ifExpr s else r .block s
  | .matchS => sqL [st (bumpS T), r .expr, st (expectS T (⟨#[123]⟩ : ByteArray)), r (.list (⟨#[125]⟩ : ByteArray) .armE)]
  | .armE => fun s => if (idT T s.1 || decide ((peekT T s.1).1 = 105) || atT T s.1 [(⟨#[116, 114, 117, 101]⟩ : ByteArray), (⟨#[102, 97, 108, 115, 101]⟩ : ByteArray), (⟨#[109, 117, 116]⟩ : ByteArray)]) = true then nodeM 36 (r .armB) s else some (false, s)
  | .armB => sqL [r .pattern, st (expectS T (⟨#[61, 62]⟩ : ByteArray)), r .expr]
  | .structS => sqL [st (bumpS T), r (.path false), st (expectS T (⟨#[123]⟩ : ByteArray)), r (.list (⟨#[125]⟩ : ByteArray) .initE)]
  | .initE => fun s => if idT T s.1 = true then nodeM 34 (r .initB) s else some (false, s)
  | .initB => sqL [st (bumpS T), st (expectS T (⟨#[58]⟩ : ByteArray)), r .expr]
  | .lambda => fun s => if atT T s.1 [(⟨#[124, 124]⟩ : ByteArray)] = true then sqL [st (bumpS T), nodeM 12 (r .emptyB), r .expr] s else sqL [st (bumpS T), r (.params (⟨#[124]⟩ : ByteArray)), r .expr] s
  | .emptyB => fun s => some (false, s)
  | .pattern => fun s =>
    if atT T s.1 [(⟨#[109, 117, 116]⟩ : ByteArray)] = true then nodeM 44 (r .mutB) s
    else if (idT T s.1 && decide ((peekT T s.1).2 = (⟨#[95]⟩ : ByteArray))) = true then nodeM 43 (r .bump) s
    else if (idT T s.1 && !atT T (lookT T s.1) [(⟨#[40]⟩ : ByteArray), (⟨#[58, 58]⟩ : ByteArray)]) = true then nodeM 44 (r .bump) s
    else if idT T s.1 = true then nodeM 45 (r .variantB) s
    else if (peekT T s.1).1 = 105 then nodeM 27 (r .bump) s
    else if atT T s.1 [(⟨#[116, 114, 117, 101]⟩ : ByteArray), (⟨#[102, 97, 108, 115, 101]⟩ : ByteArray)] = true then nodeM 28 (r .bump) s
    else some (false, missNodeS s)
  | .mutB => sqL [st (bumpS T), st (expectIdS T)]
  | .variantB => sqL [r (.path false), fun s => if atT T s.1 [(⟨#[40]⟩ : ByteArray)] = true then r (.list (⟨#[41]⟩ : ByteArray) .pattern) (bumpS T s) else some (false, s)]
  | .list closing e => sqL [r (.listLoop closing e), st (expectS T closing)]
  | .listLoop closing e => fun s => if (!atT T s.1 [closing] && !eofT T s.1 && !atItemT T s.1) = true then
      (r e s).bind fun q => r (.listLoop closing e) (if q.2.1 = s.1 then unexpS T q.2 else if atT T q.2.1 [closing] = true then q.2 else expectS T (⟨#[44]⟩ : ByteArray) q.2)
    else some (false, s)
  | .item => fun s =>
    if kindOf (peekT T (if atT T s.1 [(⟨#[112, 117, 98]⟩ : ByteArray)] = true then lookT T s.1 else s.1)).2 = 0 ∨ (peekT T (if atT T s.1 [(⟨#[112, 117, 98]⟩ : ByteArray)] = true then lookT T s.1 else s.1)).1 ≠ 104 then r .skipToItem s
    else nodeM (kindOf (peekT T (if atT T s.1 [(⟨#[112, 117, 98]⟩ : ByteArray)] = true then lookT T s.1 else s.1)).2) (r (.itemB (kindOf (peekT T (if atT T s.1 [(⟨#[112, 117, 98]⟩ : ByteArray)] = true then lookT T s.1 else s.1)).2))) s
  | .itemB kind => sqL [st (fun s => acceptS T s [(⟨#[112, 117, 98]⟩ : ByteArray)]), st (bumpS T), r (.itemBody kind)]
  | .skipToItem => nodeM 46 (r .skipB)
  | .skipB => sqL [st (bumpS T), r .skipLoop]
  | .skipLoop => fun s => if (!eofT T s.1 && !atT T s.1 itemKw) = true then r .skipLoop (bumpS T s) else some (false, s)
  | .itemBody kind =>
    if kind = 2 then r .useS
    else if kind = 3 then r (.function true)
    else if kind = 4 ∨ kind = 5 then r (.dataType kind)
    else if kind = 6 then sqL [st (expectIdS T), r .members]
    else if kind = 7 then r .implS
    else if kind = 8 then sqL [st (expectIdS T), st (expectS T (⟨#[58]⟩ : ByteArray)), r .typeExpr, st (expectS T (⟨#[61]⟩ : ByteArray)), r .expr, st (expectS T (⟨#[59]⟩ : ByteArray))]
    else if kind = 9 then sqL [st (expectIdS T), st (expectS T (⟨#[40]⟩ : ByteArray)), r (.params (⟨#[41]⟩ : ByteArray)), st (expectS T (⟨#[61]⟩ : ByteArray)), r .expr, st (expectS T (⟨#[59]⟩ : ByteArray))]
    else fun s => some (false, s)
  | .useS => fun s => (nodeG 17 (r .usePathB) s).bind fun q => some (false, expectS T (⟨#[59]⟩ : ByteArray) (if q.1 = true then bumpS T (bumpS T q.2) else if atT T q.2.1 [(⟨#[97, 115]⟩ : ByteArray)] = true then expectIdS T (bumpS T q.2) else q.2))
  | .usePathB => fun s => (nodeM 18 (r .expectId) s).bind fun q => r .useLoop q.2
  | .useLoop => fun s => if atT T s.1 [(⟨#[58, 58]⟩ : ByteArray)] = true then (if atT T (lookT T s.1) [(⟨#[42]⟩ : ByteArray)] = true then some (true, s) else (nodeM 18 (r .expectId) (bumpS T s)).bind fun q => r .useLoop q.2) else some (false, s)
  | .typeParams => nodeM 10 (r .typeParamsB)
  | .typeParamsB => fun s => if atT T s.1 [(⟨#[60]⟩ : ByteArray)] = true then r (.list (⟨#[62]⟩ : ByteArray) .typeParam) (bumpS T s) else some (false, s)
  | .typeParam => fun s => if idT T s.1 = true then nodeM 11 (r .typeParamB) s else some (false, s)
  | .typeParamB => fun s => if atT T (bumpS T s).1 [(⟨#[58]⟩ : ByteArray)] = true then sqL [r (.path true), r .boundLoop] (bumpS T (bumpS T s)) else some (false, bumpS T s)
  | .boundLoop => fun s => if atT T s.1 [(⟨#[43]⟩ : ByteArray)] = true then sqL [r (.path true), r .boundLoop] (bumpS T s) else some (false, s)
  | .params closing => nodeM 12 (r (.paramsB closing))
  | .paramsB closing => r (.list closing .paramE)
  | .paramE => fun s => if idT T s.1 = true then nodeM 13 (r .paramB) s else some (false, s)
  | .paramB => sqL [st (bumpS T), r (.opt (⟨#[58]⟩ : ByteArray) .typeExpr)]
  | .function needs => sqL [st (expectIdS T), r .typeParams, st (expectS T (⟨#[40]⟩ : ByteArray)), r (.params (⟨#[41]⟩ : ByteArray)), r (.opt (⟨#[45, 62]⟩ : ByteArray) .typeExpr), fun s => if needs = false ∧ atT T s.1 [(⟨#[59]⟩ : ByteArray)] = true then some (false, absentS (bumpS T s)) else r .block s]
  | .dataType kind => sqL [st (expectIdS T), r .typeParams, st (expectS T (⟨#[123]⟩ : ByteArray)), r (.list (⟨#[125]⟩ : ByteArray) (.dataE kind))]
  | .dataE kind => fun s => if idT T s.1 = true then (if kind = 4 then nodeM 14 (r .fieldDeclB) s else nodeM 15 (r .variantDeclB) s) else some (false, s)
  | .fieldDeclB => sqL [st (bumpS T), st (expectS T (⟨#[58]⟩ : ByteArray)), r .typeExpr]
  | .variantDeclB => fun s => if atT T (bumpS T s).1 [(⟨#[40]⟩ : ByteArray)] = true then r (.list (⟨#[41]⟩ : ByteArray) .typeExpr) (bumpS T (bumpS T s)) else some (false, bumpS T s)
  | .members => sqL [st (expectS T (⟨#[123]⟩ : ByteArray)), r .membersLoop, st (expectS T (⟨#[125]⟩ : ByteArray))]
  | .membersLoop => fun s => if atT T s.1 [(⟨#[116, 121, 112, 101]⟩ : ByteArray), (⟨#[102, 110]⟩ : ByteArray)] = true then (if atT T s.1 [(⟨#[102, 110]⟩ : ByteArray)] = true then nodeM 3 (r .methodB) s else nodeM 16 (r .assocB) s).bind fun q => r .membersLoop q.2 else some (false, s)
  | .methodB => sqL [st (bumpS T), r (.function false)]
  | .assocB => sqL [st (bumpS T), st (expectIdS T), r (.opt (⟨#[61]⟩ : ByteArray) .typeExpr), st (expectS T (⟨#[59]⟩ : ByteArray))]
  | .implS => sqL [r .typeParams, r .typeExpr, fun s => if atT T s.1 [(⟨#[102, 111, 114]⟩ : ByteArray)] = true then r .typeExpr (bumpS T s) else (match s.2.getLast? with
      | none => none
      | some t => some (false, (s.1, s.2.dropLast ++ [.mk 0 noText [], t]))), r .members]
  | .path ty => nodeM 17 (r (.pathB ty))
  | .pathB ty => r (.pathLoop ty true)
  | .pathLoop ty first => fun s => if first = true then sqL [nodeM 18 (r (.segB ty)), r (.pathLoop ty false)] s else if atT T s.1 [(⟨#[58, 58]⟩ : ByteArray)] = true then sqL [nodeM 18 (r (.segB ty)), r (.pathLoop ty false)] (bumpS T s) else some (false, s)
  | .segB ty => sqL [st (expectIdS T), fun s => if ty = true ∧ atT T s.1 [(⟨#[60]⟩ : ByteArray)] = true then r (.list (⟨#[62]⟩ : ByteArray) .typeExpr) (bumpS T s) else some (false, s)]
  | .typeExpr => fun s =>
    if atT T s.1 [(⟨#[38]⟩ : ByteArray)] = true then nodeM 19 (r .refB) s
    else if atT T s.1 [(⟨#[102, 110]⟩ : ByteArray)] = true then nodeM 20 (r .funcTypeB) s
    else if idT T s.1 = true then r (.path true) s
    else some (false, missNodeS s)
  | .refB => sqL [st (bumpS T), st (fun s => acceptS T s [(⟨#[109, 117, 116]⟩ : ByteArray)]), r .typeExpr]
  | .funcTypeB => sqL [st (bumpS T), st (expectS T (⟨#[40]⟩ : ByteArray)), r (.list (⟨#[41]⟩ : ByteArray) .typeExpr), r (.opt (⟨#[45, 62]⟩ : ByteArray) .typeExpr)]
  | .bump => st (bumpS T)
  | .expectId => st (expectIdS T)
  | .opt text e => fun s => if atT T s.1 [text] = true then r e (bumpS T s) else some (false, absentS s)
  | .items => fun s => if eofT T s.1 = true then some (false, s) else (r .item s).bind fun q => r .items q.2
def fit (T : List Tok) (s : St) : Bool := decide (s.1 ≤ T.length) && decide (s.2.length ≤ 10000000)
def run (T : List Tok) : Nat → NT → St → Ans
 | 0, _, _ => none
 | k + 1, x, s => if fit T s = true then (step T (run T k) x s).bind fun q => if fit T q.2 = true then some q else none else none
structure Fr (pb : Nat) (F F' : List Nat) (W W' : World) : Prop where
 os : W'.os = W.os
 tape : W'.tape = W.tape
 output : W'.output = W.output
 size : W.heap.size ≤ W'.heap.size
 kept : ∀ g, g < W.heap.size → g ≠ pb → g ∉ F → W'.heap[g]? = W.heap[g]?
 rows : ∀ g ∈ F', g ∈ F ∨ W.heap.size ≤ g
theorem Fr.refl (pb : Nat) (F : List Nat) (W : World) : Fr pb F F W W := ⟨rfl, rfl, rfl, Nat.le_refl _, fun _ _ _ _ => rfl, fun _ h => .inl h⟩
theorem Fr.trans {pb : Nat} {F F1 F2 : List Nat} {W W1 W2 : World} (h : Fr pb F F1 W W1) (k : Fr pb F1 F2 W1 W2) : Fr pb F F2 W W2 := by
 refine ⟨k.os.trans h.os, k.tape.trans h.tape, k.output.trans h.output, Nat.le_trans h.size k.size, fun g h1 h2 h3 => ?_, fun g hg => ?_⟩
 ·have hn : g ∉ F1 := fun hg => by
   rcases h.rows g hg with h4 | h4
   ·exact h3 h4
   ·omega
  rw [k.kept g (Nat.lt_of_lt_of_le h1 h.size) h2 hn, h.kept g h1 h2 h3]
 ·rcases k.rows g hg with h4 | h4
  ·exact h.rows g h4
  ·exact .inr (Nat.le_trans h.size h4)
theorem Fr.of_below {pb : Nat} {F : List Nat} {W W' : World} (h : Below W.heap.size W W') : Fr pb F F W W' := ⟨h.os, h.tape, h.output, h.size, fun g hg _ _ => h.block g hg, fun g hg => .inl hg⟩
theorem Fr.below {pb B : Nat} {F F' : List Nat} {W W' : World} (h : Fr pb F F' W W') (hp : B ≤ pb) (hF : ∀ g ∈ F, B ≤ g) (hB : B ≤ W.heap.size) : Below B W W' :=
 ⟨h.os, h.tape, h.output, h.size, fun g hg => h.kept g (by omega) (by omega) (fun hh => by have := hF g hh; omega)⟩
def TokOk (W : World) (T : List Tok) (tv : Value) : Prop := ∃ A c, tv = .slice A T.length c ∧ (0 < T.length → ∃ tb tq, A = some ⟨tb, tq, none⟩ ∧ ∀ i t, T[i]? = some t → W.cell? ⟨tb, tq + i * 2, none⟩ = some (.int .i64 t.1) ∧ W.cell? ⟨tb, tq + i * 2 + 1, none⟩ = some (.string t.2))
theorem TokOk.below {W W' : World} {T : List Tok} {tv : Value} (h : TokOk W T tv) (hb : Below W.heap.size W W') : TokOk W' T tv := by
 obtain ⟨A, c, h1, h2⟩ := h
 refine ⟨A, c, h1, fun h0 => ?_⟩
 obtain ⟨tb, tq, h3, h4⟩ := h2 h0
 refine ⟨tb, tq, h3, fun i t ht => ?_⟩
 obtain ⟨k1, k2⟩ := h4 i t ht
 exact ⟨(hb.cell (World.block_lt_of_cell? W _ k1)).trans k1, (hb.cell (World.block_lt_of_cell? W _ k2)).trans k2⟩
def Spc (W : World) : Prop := Lib.TabIs Tryz.prog W "strings.asciiSpace" .u8 Lib.asciiSpaceTab
theorem Spc.below {W W' : World} (h : Spc W) (hb : Below W.heap.size W W') : Spc W' := by
 have hg : Tryz.prog.globalNamed "strings.asciiSpace" = some 1 := by kernel_rfl
 unfold Spc Lib.TabIs World.var? at h ⊢
 rw [hg] at h ⊢
 simp only [Option.bind_some] at h ⊢
 have hlt : 1 < W.heap.size := by
  rcases Nat.lt_or_ge 1 W.heap.size with h' | h'
  ·exact h'
  ·rw [Array.getElem?_eq_none h'] at h
   cases h
 rw [hb.block 1 hlt]
 exact h
structure PS (tp te B : Nat) (T : List Tok) (tv : Value) (pb : Nat) (W : World) (pos : Nat) (stk : List Tree) (F : List Nat) : Prop where
 obj : ∃ sv, W.heap[pb]? = some (.cells #[tv, .int .i64 (pos : Int), sv] tp (0, 0)) ∧ TR W B te stk sv F
 nd : F.Nodup
 pbF : pb ∉ F
 ge : B ≤ pb
 tok : ∃ Wt : World, Wt.heap.size ≤ B ∧ (TokOk Wt T tv ∧ Spc Wt) ∧ Below Wt.heap.size Wt W
theorem PS.toks {tp te B : Nat} {T : List Tok} {tv : Value} {pb : Nat} {W : World} {pos : Nat} {stk : List Tree} {F : List Nat} (h : PS tp te B T tv pb W pos stk F) : TokOk W T tv := by
 obtain ⟨Wt, h1, h2, h3⟩ := h.tok
 exact h2.1.below h3
theorem PS.spc {tp te B : Nat} {T : List Tok} {tv : Value} {pb : Nat} {W : World} {pos : Nat} {stk : List Tree} {F : List Nat} (h : PS tp te B T tv pb W pos stk F) : Spc W := by
 obtain ⟨Wt, h1, h2, h3⟩ := h.tok
 exact h2.2.below h3
theorem PS.rowsGe {tp te B : Nat} {T : List Tok} {tv : Value} {pb : Nat} {W : World} {pos : Nat} {stk : List Tree} {F : List Nat} (h : PS tp te B T tv pb W pos stk F) : ∀ g ∈ F, B ≤ g ∧ g < W.heap.size := by
 obtain ⟨sv, _, h2⟩ := h.obj
 intro g hg
 have := TR_bound h2 g hg
 exact ⟨this.1, this.2.1⟩
theorem PS.below {tp te B : Nat} {T : List Tok} {tv : Value} {pb : Nat} {W W' : World} {pos : Nat} {stk : List Tree} {F : List Nat} (h : PS tp te B T tv pb W pos stk F) (hb : Below W.heap.size W W') : PS tp te B T tv pb W' pos stk F := by
 obtain ⟨sv, h1, h2⟩ := h.obj
 have hlt : pb < W.heap.size := (Array.getElem?_eq_some_iff.1 h1).1
 obtain ⟨Wt, t1, t2, t3⟩ := h.tok
 exact ⟨⟨sv, (hb.block _ hlt).trans h1, TR_kept h2 (fun g hg => hb.block g (TR_bound h2 g hg).2.1)⟩, h.nd, h.pbF, h.ge, Wt, t1, t2, t3.trans (hb.mono t3.size)⟩
theorem nodup_app {α : Type} {a b : List α} : (a ++ b).Nodup ↔ a.Nodup ∧ b.Nodup ∧ ∀ x ∈ a, x ∉ b := by
 rw [List.nodup_append]
 constructor
 ·rintro ⟨h1, h2, h3⟩
  exact ⟨h1, h2, fun x hx hb => h3 x hx x hb rfl⟩
 ·rintro ⟨h1, h2, h3⟩
  exact ⟨h1, h2, fun x hx y hy e => h3 x hx (e ▸ hy)⟩
theorem own1_nodup (h : Value) : (own1 h).Nodup := by
 unfold own1
 split <;> simp
theorem own1_mem {h : Value} {g : Nat} : g ∈ own1 h ↔ h.ownBlock = some g := by
 unfold own1
 cases h.ownBlock <;> simp [eq_comm]
theorem PS.top {tp te B : Nat} {T : List Tok} {tv : Value} {pb : Nat} {W : World} {pos : Nat} {low : List Tree} {kd : Int} {tx : ByteArray} {ks : List Tree} {F : List Nat} (h : PS tp te B T tv pb W pos (low ++ [.mk kd tx ks]) F) :
  ∃ sb scap hd c1 F1 cs Fs, W.heap[pb]? = some (.cells #[tv, .int .i64 (pos : Int), .slice (some ⟨sb, 0, none⟩) (low.length + 1) scap] tp (0, 0)) ∧
   W.ownsRow B te 3 (.slice (some ⟨sb, 0, none⟩) (low.length + 1) scap) (low.length + 1) (c1 ++ [.int .i64 kd, .string tx, hd]) ∧ TL W B te low c1 F1 ∧ W.ownsRow B te 3 hd ks.length cs ∧ TL W B te ks cs Fs ∧ F = sb :: (F1 ++ (own1 hd ++ Fs)) := by
 obtain ⟨sv, h1, cs0, Fs0, h2, rfl, h4⟩ := h.obj
 obtain ⟨c1, c2, F1, F2, rfl, rfl, k3, k4⟩ := TL_last h4
 rw [TC_mk] at k4
 obtain ⟨hd, rfl, cs, Fs, k5, rfl, k6⟩ := k4
 rw [List.length_append, List.length_singleton] at h2
 rcases h2.2 with ⟨rfl, h0⟩ | ⟨sb, scap, cur, rfl, _⟩
 ·omega
 ·exact ⟨sb, scap, hd, c1, F1, cs, Fs, h1, h2, k3, k5, k6, by simp [own1, Value.ownBlock]⟩
theorem own_set {W : World} {B e size n cap g : Nat} {xs : List Value} (h : W.ownsRow B e size (.slice (some ⟨g, 0, none⟩) n cap) n xs) (i : Nat) (v : Value) : (W.setCell ⟨g, i, none⟩ v).ownsRow B e size (.slice (some ⟨g, 0, none⟩) n cap) n (xs.set i v) := by
 refine ⟨by rw [List.length_set]; exact h.1, ?_⟩
 rcases h.2 with ⟨h0, _⟩ | ⟨g', cap', cur, he, h2, h3, h4, h5, h6, h7⟩
 ·cases h0
 ·simp only [Value.slice.injEq, Option.some.injEq, Addr.mk.injEq, and_true] at he
  obtain ⟨rfl, _, rfl⟩ := he
  refine .inr ⟨g, cap, cur.setIfInBounds i v, rfl, h2, ?_, h4, h5, by rw [Array.size_setIfInBounds]; exact h6, ?_⟩
  ·simp [World.setCell, Array.getElem?_modify, h3]
  ·rw [← h7]
   apply List.ext_getElem?
   intro j
   rw [List.getElem?_take, List.getElem?_set, List.getElem?_take, Array.getElem?_toList, Array.getElem?_setIfInBounds, Array.getElem?_toList, List.length_take, Array.length_toList]
   by_cases hj : j < n * size
   ·rw [if_pos hj, if_pos hj]
    by_cases hij : i = j
    ·subst hij
     rw [if_pos rfl, if_pos rfl]
     by_cases hc : i < cur.size
     ·rw [if_pos hc, if_pos (by omega)]
     ·rw [if_neg hc, if_neg (by omega)]
    ·rw [if_neg hij, if_neg hij]
   ·rw [if_neg hj, if_neg hj]
    by_cases hij : i = j
    ·subst hij
     rw [if_pos rfl, if_neg (by omega)]
    ·rw [if_neg hij]
theorem own_ne {W : World} {B e size n : Nat} {h : Value} {xs : List Value} {g : Nat} (ho : W.ownsRow B e size h n xs) (hg : some g ≠ h.ownBlock) (v : Value) (i : Nat) : (W.setCell ⟨g, i, none⟩ v).ownsRow B e size h n xs :=
 own_kept ho (fun b hb => Below.heap_setCell W ⟨g, i, none⟩ v b (by
  rintro rfl
  exact hg (own1_mem.1 hb).symm))
theorem PS.add_mem {tp te B : Nat} {T : List Tok} {tv : Value} {pb : Nat} {W W1 : World} {pos : Nat} {low : List Tree} {kd : Int} {tx : ByteArray} {ks : List Tree} {sb scap : Nat} {hd v1 : Value} {c1 cs c Ftl : List Value} {F1 Fs Ft : List Nat} {t : Tree}
  (h : PS tp te B T tv pb W pos (low ++ [.mk kd tx ks]) (sb :: (F1 ++ (own1 hd ++ Fs))))
  (hpb : W.heap[pb]? = some (.cells #[tv, .int .i64 (pos : Int), .slice (some ⟨sb, 0, none⟩) (low.length + 1) scap] tp (0, 0)))
  (ho : W.ownsRow B te 3 (.slice (some ⟨sb, 0, none⟩) (low.length + 1) scap) (low.length + 1) (c1 ++ [.int .i64 kd, .string tx, hd])) (hlow : TL W B te low c1 F1) (hks : TL W B te ks cs Fs)
  (ht : TC W B te t c Ft) (hN : ((sb :: (F1 ++ (own1 hd ++ Fs))) ++ Ft).Nodup) (hpt : pb ∉ Ft)
  (hv : W1.ownsRow B te 3 v1 (ks.length + 1) (cs ++ c)) (hat : v1.ownBlock = hd.ownBlock ∨ ∃ b, v1.ownBlock = some b ∧ W.heap.size ≤ b)
  (ho1 : W1.os = W.os) (ho2 : W1.tape = W.tape) (ho3 : W1.output = W.output) (hsz : W.heap.size ≤ W1.heap.size) (hkp : ∀ g, g < W.heap.size → some g ≠ hd.ownBlock → W1.heap[g]? = W.heap[g]?) :
  ∃ F', PS tp te B T tv pb (W1.setCell ⟨sb, low.length * 3 + 2, none⟩ v1) pos (low ++ [.mk kd tx (ks ++ [t])]) F' ∧ Fr pb ((sb :: (F1 ++ (own1 hd ++ Fs))) ++ Ft) F' W (W1.setCell ⟨sb, low.length * 3 + 2, none⟩ v1) := by
 have hc1 := TL_len low c1 F1 hlow
 have nd := hN
 rw [nodup_app] at nd
 obtain ⟨nF, nT, nX⟩ := nd
 rw [List.nodup_cons] at nF
 have nF2 := nodup_app.1 nF.2
 have nF3 := nodup_app.1 nF2.2.1
 have bF : ∀ g ∈ sb :: (F1 ++ (own1 hd ++ Fs)), B ≤ g ∧ g < W.heap.size := h.rowsGe
 have bT : ∀ g ∈ Ft, B ≤ g ∧ g < W.heap.size := fun g hg => ⟨(TC_bound t c Ft ht g hg).1, (TC_bound t c Ft ht g hg).2.1⟩
 have hpbs : pb < W.heap.size := (Array.getElem?_eq_some_iff.1 hpb).1
 have hpF := h.pbF
 have hsbh : some sb ≠ hd.ownBlock := fun e => nF.1 (List.mem_append_right _ (List.mem_append_left _ (own1_mem.2 e.symm)))
 have hsb1 : sb < W.heap.size := (bF sb List.mem_cons_self).2
 have hsbv : some sb ≠ v1.ownBlock := by
  rcases hat with e | ⟨b, e, hb⟩
  ·rw [e]
   exact hsbh
  ·rw [e]
   intro hh
   injection hh with hh
   omega
 have hkeep : ∀ g, g < W.heap.size → some g ≠ hd.ownBlock → g ≠ sb → (W1.setCell ⟨sb, low.length * 3 + 2, none⟩ v1).heap[g]? = W.heap[g]? := fun g h1 h2 h3 => (Below.heap_setCell W1 ⟨sb, low.length * 3 + 2, none⟩ v1 g h3).trans (hkp g h1 h2)
 have hne : ∀ g, g ∈ F1 ∨ g ∈ Fs ∨ g ∈ Ft → some g ≠ hd.ownBlock ∧ g ≠ sb := by
  intro g hg
  refine ⟨fun e => ?_, fun e => ?_⟩
  ·have hm : g ∈ own1 hd := own1_mem.2 e.symm
   rcases hg with hg | hg | hg
   ·exact nF2.2.2 g hg (List.mem_append_left _ hm)
   ·exact nF3.2.2 g hm hg
   ·exact nX g (List.mem_cons_of_mem _ (List.mem_append_right _ (List.mem_append_left _ hm))) hg
  ·subst e
   rcases hg with hg | hg | hg
   ·exact nF.1 (List.mem_append_left _ hg)
   ·exact nF.1 (List.mem_append_right _ (List.mem_append_right _ hg))
   ·exact nX g List.mem_cons_self hg
 have hin : ∀ g, g ∈ F1 ∨ g ∈ Fs ∨ g ∈ Ft → g < W.heap.size := by
  rintro g (hg | hg | hg)
  ·exact (bF g (List.mem_cons_of_mem _ (List.mem_append_left _ hg))).2
  ·exact (bF g (List.mem_cons_of_mem _ (List.mem_append_right _ (List.mem_append_right _ hg)))).2
  ·exact (bT g hg).2
 have k1 : ∀ g ∈ F1, (W1.setCell ⟨sb, low.length * 3 + 2, none⟩ v1).heap[g]? = W.heap[g]? := fun g hg => hkeep g (hin g (.inl hg)) (hne g (.inl hg)).1 (hne g (.inl hg)).2
 have k2 : ∀ g ∈ Fs, (W1.setCell ⟨sb, low.length * 3 + 2, none⟩ v1).heap[g]? = W.heap[g]? := fun g hg => hkeep g (hin g (.inr (.inl hg))) (hne g (.inr (.inl hg))).1 (hne g (.inr (.inl hg))).2
 have k3 : ∀ g ∈ Ft, (W1.setCell ⟨sb, low.length * 3 + 2, none⟩ v1).heap[g]? = W.heap[g]? := fun g hg => hkeep g (hin g (.inr (.inr hg))) (hne g (.inr (.inr hg))).1 (hne g (.inr (.inr hg))).2
 have hostk : W1.ownsRow B te 3 (.slice (some ⟨sb, 0, none⟩) (low.length + 1) scap) (low.length + 1) (c1 ++ [.int .i64 kd, .string tx, hd]) := own_kept ho (fun g hg => by
  have : g = sb := by simpa [own1, Value.ownBlock] using hg
  subst this
  exact hkp g hsb1 hsbh)
 have hset := own_set hostk (low.length * 3 + 2) v1
 have hxs : (c1 ++ [Value.int .i64 kd, .string tx, hd]).set (low.length * 3 + 2) v1 = c1 ++ [.int .i64 kd, .string tx, v1] := by
  rw [List.set_append, if_neg (by omega), hc1]
  congr 1
  have : low.length * 3 + 2 - low.length * 3 = 2 := by omega
  rw [this]
  rfl
 rw [hxs] at hset
 have hnode : TR (W1.setCell ⟨sb, low.length * 3 + 2, none⟩ v1) B te (ks ++ [t]) v1 (own1 v1 ++ (Fs ++ Ft)) := by
  refine ⟨cs ++ c, Fs ++ Ft, ?_, rfl, TL_append ks [t] cs c Fs Ft (TL_kept ks cs Fs hks k2) (TL_one (TC_kept t c Ft ht k3))⟩
  rw [List.length_append, List.length_singleton]
  exact own_ne hv hsbv v1 _
 have hstk : TR (W1.setCell ⟨sb, low.length * 3 + 2, none⟩ v1) B te (low ++ [.mk kd tx (ks ++ [t])]) (.slice (some ⟨sb, 0, none⟩) (low.length + 1) scap) (sb :: (F1 ++ (own1 v1 ++ (Fs ++ Ft)))) := by
  refine ⟨c1 ++ [.int .i64 kd, .string tx, v1], F1 ++ (own1 v1 ++ (Fs ++ Ft)), ?_, by simp [own1, Value.ownBlock], TL_append low _ c1 _ F1 _ (TL_kept low c1 F1 hlow k1) (TL_one (TC_mk.2 ⟨v1, rfl, hnode⟩))⟩
  rw [List.length_append, List.length_singleton]
  exact hset
 have hv1 : ∀ g ∈ own1 v1, g ∈ own1 hd ∨ W.heap.size ≤ g := by
  intro g hg
  rcases hat with e | ⟨b, e, hb⟩
  ·left
   rw [own1_mem] at hg ⊢
   rw [← e]
   exact hg
  ·right
   rw [own1_mem, e] at hg
   injection hg with hg
   omega
 have hnew : (sb :: (F1 ++ (own1 v1 ++ (Fs ++ Ft)))).Nodup := by
  rw [List.nodup_cons, nodup_app, nodup_app, nodup_app]
  refine ⟨fun hh => ?_, nF2.1, ⟨own1_nodup _, ⟨nF3.2.1, nT, fun x hx hx2 => nX x (List.mem_cons_of_mem _ (List.mem_append_right _ (List.mem_append_right _ hx))) hx2⟩, fun x hx hx2 => ?_⟩, fun x hx hx2 => ?_⟩
  ·rcases List.mem_append.1 hh with hh | hh
   ·exact nF.1 (List.mem_append_left _ hh)
   ·rcases List.mem_append.1 hh with hh | hh
    ·exact hsbv (own1_mem.1 hh).symm
    ·rcases List.mem_append.1 hh with hh | hh
     ·exact nF.1 (List.mem_append_right _ (List.mem_append_right _ hh))
     ·exact nX sb List.mem_cons_self hh
  ·have hlt : x < W.heap.size := by
    rcases List.mem_append.1 hx2 with hh | hh
    ·exact hin x (.inr (.inl hh))
    ·exact hin x (.inr (.inr hh))
   rcases hv1 x hx with h1 | h1
   ·rcases List.mem_append.1 hx2 with hh | hh
    ·exact nF3.2.2 x h1 hh
    ·exact nX x (List.mem_cons_of_mem _ (List.mem_append_right _ (List.mem_append_left _ h1))) hh
   ·omega
  ·have hlt := hin x (.inl hx)
   rcases List.mem_append.1 hx2 with hh | hh
   ·rcases hv1 x hh with h1 | h1
    ·exact nF2.2.2 x hx (List.mem_append_left _ h1)
    ·omega
   ·rcases List.mem_append.1 hh with hh | hh
    ·exact nF2.2.2 x hx (List.mem_append_right _ hh)
    ·exact nX x (List.mem_cons_of_mem _ (List.mem_append_left _ hx)) hh
 have hmem : ∀ g ∈ sb :: (F1 ++ (own1 v1 ++ (Fs ++ Ft))), g ∈ (sb :: (F1 ++ (own1 hd ++ Fs))) ++ Ft ∨ W.heap.size ≤ g := by
  intro g hg
  rcases List.mem_cons.1 hg with rfl | hg
  ·exact .inl (List.mem_append_left _ List.mem_cons_self)
  ·rcases List.mem_append.1 hg with hg | hg
   ·exact .inl (List.mem_append_left _ (List.mem_cons_of_mem _ (List.mem_append_left _ hg)))
   ·rcases List.mem_append.1 hg with hg | hg
    ·rcases hv1 g hg with h1 | h1
     ·exact .inl (List.mem_append_left _ (List.mem_cons_of_mem _ (List.mem_append_right _ (List.mem_append_left _ h1))))
     ·exact .inr h1
    ·rcases List.mem_append.1 hg with hg | hg
     ·exact .inl (List.mem_append_left _ (List.mem_cons_of_mem _ (List.mem_append_right _ (List.mem_append_right _ hg))))
     ·exact .inl (List.mem_append_right _ hg)
 have hfr : Fr pb ((sb :: (F1 ++ (own1 hd ++ Fs))) ++ Ft) (sb :: (F1 ++ (own1 v1 ++ (Fs ++ Ft)))) W (W1.setCell ⟨sb, low.length * 3 + 2, none⟩ v1) := by
  refine ⟨ho1, ho2, ho3, by simpa [World.setCell] using hsz, fun g h1 h2 h3 => ?_, hmem⟩
  refine hkeep g h1 (fun e => h3 (List.mem_append_left _ (List.mem_cons_of_mem _ (List.mem_append_right _ (List.mem_append_left _ (own1_mem.2 e.symm)))))) (fun e => h3 (List.mem_append_left _ (by rw [e]; exact List.mem_cons_self)))
 have hpbn : pb ∉ sb :: (F1 ++ (own1 v1 ++ (Fs ++ Ft))) := by
  intro hh
  rcases hmem pb hh with h1 | h1
  ·rcases List.mem_append.1 h1 with h1 | h1
   ·exact hpF h1
   ·exact hpt h1
  ·omega
 obtain ⟨Wt, t1, t2, t3⟩ := h.tok
 refine ⟨_, ⟨⟨_, ?_, hstk⟩, hnew, hpbn, h.ge, Wt, t1, t2, ?_⟩, hfr⟩
 ·rw [hkeep pb hpbs (fun e => hpF (List.mem_cons_of_mem _ (List.mem_append_right _ (List.mem_append_left _ (own1_mem.2 e.symm))))) (fun e => hpF (by rw [e]; exact List.mem_cons_self)), hpb]
 ·refine t3.trans ((hfr.below h.ge (fun g hg => ?_) (by have := h.ge; omega)).mono t1)
  rcases List.mem_append.1 hg with hg | hg
  ·exact (bF g hg).1
  ·exact (bT g hg).1
end Go.Proofs.YtkijamagbgigmaaGreatDoor.Par
namespace Go.Proofs.YtkijamagbgigmaaGreatDoorW.PrintWords
open Go.RowKit
structure Aside0 (p : Prop) : Prop where mk :: (out : p)
theorem ak {p : Prop} (h : p) : Aside0 p := ⟨h⟩
structure Drawn0 (w w' : World) : Prop where mk :: (out : ∃ n, w' = w.drewN n)
theorem Drawn0.refl (w : World) : Drawn0 w w := ⟨⟨0, rfl⟩⟩
theorem Drawn0.step {w w' : World} (h : Drawn0 w w') (n : Nat) : Drawn0 w (w'.drewN n) := by
 obtain ⟨m, rfl⟩ := h
 exact ⟨⟨m + n, World.drewN_drewN ..⟩⟩
theorem Drawn0.grown {w w' : World} (h : Drawn0 w w') : Grown w w' := by
 obtain ⟨n, rfl⟩ := h
 induction n with
 | zero => exact Grown.refl _
 | succ n ih => rw [← World.drew_drewN]; exact Grown.drew ih
theorem Drawn0.below {w w' : World} (h : Drawn0 w w') : Below w.heap.size w w' := by
 obtain ⟨n, rfl⟩ := h
 induction n with
 | zero => exact Below.refl _ _
 | succ n ih => rw [← World.drew_drewN]; exact ih.drew
def rd (xs : List Int) (i : Int) : Int := xs.getD i.toNat 0
theorem below_alloc {w W : World} (h : Below w.heap.size w W) (o : Obj) : Below w.heap.size w (W.alloc o) := h.alloc h.size o
theorem below_drew {B : Nat} {w W : World} (h : Below B w W) : Below B w W.drew := ⟨h.os, h.tape, h.output, h.size, h.block⟩
theorem pw_below_drewN {B : Nat} {w W : World} (h : Below B w W) (n : Nat) : Below B w (W.drewN n) := ⟨h.os, h.tape, h.output, h.size, h.block⟩
theorem below_then {B : Nat} {w w1 w2 : World} (h : Below B w w1) (hB : B ≤ w1.heap.size) (k : Below w1.heap.size w1 w2) : Below B w w2 :=
 h.trans ⟨k.os, k.tape, k.output, k.size, fun i hi => k.block i (Nat.lt_of_lt_of_le hi hB)⟩
theorem grown_of_below {w w1 : World} (h : Below w.heap.size w w1) (row : Option Nat) : w.grownBy w1 row := ⟨h.os, h.tape, h.output, h.size, fun i hi _ => h.block i hi⟩
theorem pw_cell_below {w w1 : World} (h : Below w.heap.size w w1) {a : Addr} {v : Value} (hc : w.cell? a = some v) : w1.cell? a = some v := (h.cell (World.block_lt_of_cell? w a hc)).trans hc
def ReadsInt (w : World) (k : IntKind) (A : Option Addr) (n : Nat) (xs : List Int) : Prop :=
 xs.length = n ∧ n ≤ 9223372036854775807 ∧ (0 < n → ∃ ad, A = some ad ∧ ∀ j, j < n → w.cell? (ad.add j) = some (.int k (xs.getD j 0)))
theorem ReadsInt.at_ {w : World} {k : IntKind} {A : Option Addr} {n : Nat} {xs : List Int} (h : ReadsInt w k A n xs) (i : Int) (h0 : 0 ≤ i) (h1 : i < n) : ∃ ad, A = some ad ∧ w.cell? (ad.add i.toNat) = some (.int k (rd xs i)) := by
 obtain ⟨ad, e, hc⟩ := h.2.2 (by omega)
 exact ⟨ad, e, hc _ (by omega)⟩
theorem ReadsInt.below {w w1 : World} {k : IntKind} {A : Option Addr} {n : Nat} {xs : List Int} (h : ReadsInt w k A n xs) (hb : Below w.heap.size w w1) : ReadsInt w1 k A n xs :=
 ⟨h.1, h.2.1, fun hn => by
  obtain ⟨ad, e, hc⟩ := h.2.2 hn
  exact ⟨ad, e, fun j hj => pw_cell_below hb (hc j hj)⟩⟩
theorem own_nil (W : World) (base : Nat) (e : TypeId) (size : Nat) : W.ownsRow base e size (.slice none 0 0) 0 [] := ⟨by simp, .inl ⟨rfl, rfl⟩⟩
theorem own_base {w : World} {base : Nat} {e : TypeId} {size n : Nat} {v : Value} {xs : List Value} (h : w.ownsRow base e size v n xs) (k : Nat) (hk : v.ownBlock = some k) : base ≤ k := by
 rcases h.2 with ⟨rfl, _⟩ | ⟨g, cap, cur, rfl, hb, _⟩
 ·simp [Value.ownBlock] at hk
 ·have : g = k := by simpa [Value.ownBlock] using hk
  omega
theorem own_lt {w : World} {base : Nat} {e : TypeId} {size n : Nat} {v : Value} {xs : List Value} (h : w.ownsRow base e size v n xs) (k : Nat) (hk : v.ownBlock = some k) : k < w.heap.size := by
 rcases h.2 with ⟨rfl, _⟩ | ⟨g, cap, cur, rfl, hb, hh, _⟩
 ·simp [Value.ownBlock] at hk
 ·have : g = k := by simpa [Value.ownBlock] using hk
  subst this
  exact (Array.getElem?_eq_some_iff.1 hh).1
theorem pw_own_below {w w1 : World} {base : Nat} {e : TypeId} {size n : Nat} {v : Value} {xs : List Value} (h : w.ownsRow base e size v n xs) (hb : Below w.heap.size w w1) : w1.ownsRow base e size v n xs :=
 h.kept (grown_of_below hb none) (by cases v.ownBlock <;> simp)
theorem own_slice {w : World} {base n : Nat} {e : TypeId} {size : Nat} {v : Value} {xs : List Value} (h : w.ownsRow base e size v n xs) : ∃ A c, v = .slice A n c := by
 rcases h.2 with ⟨rfl, rfl⟩ | ⟨g, cap, cur, rfl, _⟩
 ·exact ⟨none, 0, rfl⟩
 ·exact ⟨_, cap, rfl⟩
theorem bytes_below {B : Nat} {w W : World} (h : Below B w W) (hB : B ≤ W.heap.size) (e : TypeId) (s : ByteArray) : Below B w (Lib.bytesWorld W e s) :=
 h.trans ⟨rfl, rfl, rfl, by rw [Lib.bytesWorld_size]; omega, fun i hi => Lib.bytesWorld_at_old W e s i (by omega)⟩
theorem ReadsInt.take_ {w : World} {k : IntKind} {A : Option Addr} {n : Nat} {xs : List Int} (h : ReadsInt w k A n xs) (i : Nat) (hi : i ≤ n) : ReadsInt w k A i (xs.take i) := by
 refine ⟨by rw [List.length_take, h.1]; omega, by have := h.2.1; omega, fun hp => ?_⟩
 obtain ⟨ad, e, hc⟩ := h.2.2 (by omega)
 refine ⟨ad, e, fun j hj => ?_⟩
 rw [hc j (by omega)]
 simp [List.getD_eq_getElem?_getD, hj]
def LeO {α : Type} (a b : Option α) : Prop := ∀ r, a = some r → b = some r
theorem LeO.refl {α : Type} (a : Option α) : LeO a a := fun _ h => h
theorem LeO.none {α : Type} (b : Option α) : LeO Option.none b := fun _ h => by cases h
theorem LeO.trans {α : Type} {a b c : Option α} (h : LeO a b) (k : LeO b c) : LeO a c := fun r hr => k r (h r hr)
theorem LeO.ite {α : Type} {c : Prop} [Decidable c] {a a' b b' : Option α} (h : LeO a a') (k : LeO b b') : LeO (if c then a else b) (if c then a' else b') := by
 split
 ·exact h
 ·exact k
theorem LeO.bind {α β : Type} {a a' : Option α} {f f' : α → Option β} (h : LeO a a') (k : ∀ x, LeO (f x) (f' x)) : LeO (a.bind f) (a'.bind f') := by
 intro r hr
 obtain ⟨x, hx, hf⟩ := Option.bind_eq_some_iff.1 hr
 exact Option.bind_eq_some_iff.2 ⟨x, h x hx, k x r hf⟩
theorem LeO.map {α β : Type} {a a' : Option α} (f : α → β) (h : LeO a a') : LeO (a.map f) (a'.map f) := by
 intro r hr
 obtain ⟨x, hx, hf⟩ := Option.map_eq_some_iff.1 hr
 exact Option.map_eq_some_iff.2 ⟨x, h x hx, hf⟩
theorem more_rounds {α : Type} {g : Nat → Option α} (h : ∀ k, LeO (g k) (g (k + 1))) (k : Nat) : ∀ j, LeO (g k) (g (k + j))
 | 0 => LeO.refl _
 | j + 1 => (more_rounds h k j).trans (h (k + j))
theorem at_rounds {α : Type} {g : Nat → Option α} (h : ∀ k, LeO (g k) (g (k + 1))) {k k' : Nat} (hk : k ≤ k') {r : α} (hr : g k = some r) : g k' = some r := by
 have := more_rounds h k (k' - k) r hr
 rwa [Nat.add_sub_cancel' hk] at this
def Reps {α : Type} (R : α → List Value → Prop) (size : Nat) (ps : List α) (cs : List Value) : Prop :=
 cs.length = ps.length * size ∧ ∀ j p, ps[j]? = some p → R p ((cs.drop (j * size)).take size)
theorem Reps.none {α : Type} (R : α → List Value → Prop) (size : Nat) : Reps R size [] [] := ⟨by simp, fun j p h => by simp at h⟩
theorem Reps.snoc {α : Type} {R : α → List Value → Prop} {size : Nat} {ps : List α} {cs c : List Value} {p : α} (h : Reps R size ps cs) (hp : R p c) (hc : c.length = size) : Reps R size (ps ++ [p]) (cs ++ c) := by
 refine ⟨by rw [List.length_append, h.1, hc, List.length_append, List.length_singleton, Nat.add_mul, Nat.one_mul], fun j q hq => ?_⟩
 rcases Nat.lt_or_ge j ps.length with hj | hj
 ·rw [List.getElem?_append_left hj] at hq
  have h1 : j * size + size ≤ cs.length := by rw [h.1, ← Nat.succ_mul]; exact Nat.mul_le_mul_right _ hj
  have h2 := h.2 j q hq
  rw [List.drop_append_of_le_length (by omega), List.take_append_of_le_length (by rw [List.length_drop]; omega)]
  exact h2
 ·have hj' : j = ps.length := by
   have := (List.getElem?_eq_some_iff.1 hq).1
   rw [List.length_append, List.length_singleton] at this
   omega
  subst hj'
  have hq' : p = q := by simpa using hq
  subst hq'
  rw [← h.1, List.drop_left, ← hc, List.take_length]
  exact hp
theorem Reps.imp_ {α : Type} {R R' : α → List Value → Prop} {size : Nat} {ps : List α} {cs : List Value} (h : Reps R size ps cs) (hR : ∀ p c, R p c → R' p c) : Reps R' size ps cs := ⟨h.1, fun j p hj => hR _ _ (h.2 j p hj)⟩
def ReadsRow {α : Type} (R : α → List Value → Prop) (size : Nat) (w : World) (A : Option Addr) (n : Nat) (ps : List α) : Prop :=
 ps.length = n ∧ n ≤ 9223372036854775807 ∧ (0 < n → ∃ ad, A = some ad ∧ ∀ j p, ps[j]? = some p → ∃ c, c.length = size ∧ R p c ∧ ∀ i u, c[i]? = some u → w.cell? (ad.add (j * size + i)) = some u)
theorem ReadsRow.get_ {α : Type} {R : α → List Value → Prop} {size : Nat} {w : World} {A : Option Addr} {n : Nat} {ps : List α} (h : ReadsRow R size w A n ps) (d : α) (i : Int) (h0 : 0 ≤ i) (h1 : i < n) :
  ∃ ad c, A = some ad ∧ c.length = size ∧ R (ps.getD i.toNat d) c ∧ ∀ j u, c[j]? = some u → w.cell? (ad.add (i.toNat * size + j)) = some u := by
 obtain ⟨ad, e, hc⟩ := h.2.2 (by omega)
 have hl : i.toNat < ps.length := by have := h.1; omega
 obtain ⟨c, hs, hr, hcell⟩ := hc i.toNat _ (List.getElem?_eq_getElem hl)
 refine ⟨ad, c, e, hs, ?_, hcell⟩
 rw [List.getD_eq_getElem?_getD, List.getElem?_eq_getElem hl]
 exact hr
theorem ReadsRow.imp_ {α : Type} {R R' : α → List Value → Prop} {size : Nat} {w w1 : World} {A : Option Addr} {n : Nat} {ps : List α} (h : ReadsRow R size w A n ps) (hb : Below w.heap.size w w1) (hR : ∀ p c, R p c → R' p c) : ReadsRow R' size w1 A n ps :=
 ⟨h.1, h.2.1, fun hn => by
  obtain ⟨ad, e, hc⟩ := h.2.2 hn
  refine ⟨ad, e, fun j p hj => ?_⟩
  obtain ⟨c, hs, hr, hcell⟩ := hc j p hj
  exact ⟨c, hs, hR _ _ hr, fun i u hu => pw_cell_below hb (hcell i u hu)⟩⟩
theorem own_reads_row {α : Type} {R : α → List Value → Prop} {w : World} {base n size : Nat} {e : TypeId} {v : Value} {ps : List α} {cs : List Value} (h : w.ownsRow base e size v n cs) (hR : Reps R size ps cs) (hn : ps.length = n) :
  ∃ A c, v = .slice A n c ∧ ReadsRow R size w A n ps := by
 rcases Nat.eq_zero_or_pos n with h0 | h0
 ·rcases h.2 with ⟨rfl, rfl⟩ | ⟨g, cap, cur, rfl, _⟩
  ·exact ⟨none, 0, rfl, hn, by omega, fun hp => absurd hp (by omega)⟩
  ·exact ⟨_, cap, rfl, hn, by omega, fun hp => absurd hp (by omega)⟩
 ·obtain ⟨g, cap, rfl, _, _⟩ := h.form h0
  have hm : n ≤ 9223372036854775807 := by
   rcases h.2 with ⟨_, h1⟩ | ⟨g', cap', cur, he, _, _, h1, h2, _⟩
   ·omega
   ·simp only [maxLen] at h2
    omega
  refine ⟨_, cap, rfl, hn, hm, fun _ => ⟨_, rfl, fun j p hj => ⟨(cs.drop (j * size)).take size, ?_, hR.2 j p hj, fun i u hu => ?_⟩⟩⟩
  ·have hjl := (List.getElem?_eq_some_iff.1 hj).1
   have h1 : j * size + size ≤ cs.length := by rw [hR.1, ← Nat.succ_mul]; exact Nat.mul_le_mul_right _ hjl
   rw [List.length_take, List.length_drop]
   omega
  ·refine h.cells (g := g) rfl _ u ?_
   rw [List.getElem?_take] at hu
   split at hu
   ·rw [List.getElem?_drop] at hu
    exact hu
   ·cases hu
theorem add_field (ad : Addr) (m j : Nat) (hj : 0 < j) : ad.add (m + j) = ⟨(ad.add m).block, (ad.add m).off + j, none⟩ := by
 unfold Addr.add
 by_cases hm : m = 0
 ·subst hm
  simp [Nat.ne_of_gt hj]
 ·simp [hm, Nat.add_assoc]
end Go.Proofs.YtkijamagbgigmaaGreatDoorW.PrintWords
namespace Go.Proofs.YtkijamagbgigmaaGreatDoorW.PrintWords
open Go.RowKit
variable {P : Program} {ops : Array Oper} {rest : List Oper} {o : Oper} {a : Act} {Q : Exit → Act → World → Prop}
theorem print_append_cells {w0 W : World} (base : Nat) (hgd : o.guard = none) (s x : Operand) (t e : TypeId) (z : Value) (size bytes : Nat)
  (ho : o.op = .call { callee := .builtin .append, args := #[s, x], argTypes := #[t, t] })
  (ht : P.underlying t = some (.slice e)) (hinfo : (P.info? e).map (fun i => (i.zero, i.size, i.bytes)) = some (some z, size, bytes)) (hz : z.cells.size = size) (hs0 : 0 < size) (hb0 : 0 < bytes)
  (v : Value) (n : Nat) (xs ys : List Value) (hs : a.eval s = v) (hx : a.eval x = .slice (some ⟨W.heap.size, 0, none⟩) 1 1) (hys : ys.length = size) (h1 : ∀ u ∈ ys, u.oneCell' = true)
  (HO : W.ownsRow base e size v n xs) (HB : Below base w0 W) (hbase : base ≤ W.heap.size) (hl : (n + 1) * bytes ≤ 140737488355328)
  (h : ∀ v1 w1, w1.ownsRow base e size v1 (n + 1) (xs ++ ys) → Below base w0 w1 → W.grownBy w1 v.ownBlock → (v1.ownBlock = v.ownBlock ∨ ∃ b, v1.ownBlock = some b ∧ W.heap.size ≤ b) → wpList P ops Q rest (a.put o.dst v1) w1) :
  wpList P ops Q (o :: rest) a (W.alloc (.cells ys.toArray e)) := by
 obtain ⟨i0, hi, hzz⟩ := Option.map_eq_some_iff.1 hinfo
 simp only [Prod.mk.injEq] at hzz
 obtain ⟨hz0, hz1, hz2⟩ := hzz
 have hlen : n + 1 ≤ 140737488355328 := Nat.le_trans (Nat.le_mul_of_pos_right _ hb0) hl
 refine wpList_append_own_at (W.alloc (.cells ys.toArray e)) hgd s x t ho base e i0 z size bytes ht hi hz0 hz1 hz2 hz hs0 v n xs hs (HO.alloc _) ⟨W.heap.size, 0, none⟩ 1 1 ys hx (by rw [hys]; simp)
  (by simpa using World.news_of_block (cs := ys.toArray) (t := e) (fr := (0, 0)) (heap_alloc_new W (.cells ys.toArray e))) h1 (by simp only [maxLen]; omega) hl (by simp; omega) ?_
 intro v1 w1 hown hg _ hat
 refine h v1 w1 hown ((HB.alloc hbase _).grown hg (by simp; omega) (own_base HO)) (World.grownBy.trans (World.grownBy_alloc W _ _) hg) ?_
 rcases hat with hat | hat
 ·exact .inl hat
 ·exact .inr ⟨_, hat, by simp⟩
end Go.Proofs.YtkijamagbgigmaaGreatDoorW.PrintWords
namespace Go.Proofs.YtkijamagbgigmaaGreatDoorW.PrintWords
open Go.RowKit
theorem own_ne {w : World} {base : Nat} {e t : TypeId} {size n g : Nat} {v : Value} {xs : List Value} {cs : Array Value} (h : w.ownsRow base e size v n xs) (hg : w.heap[g]? = some (.cells cs t (0, 0))) (hne : e ≠ t) : some g ≠ v.ownBlock := by
 rcases h.2 with ⟨rfl, _⟩ | ⟨g', cap, cur, rfl, _, hh, _⟩
 ·simp [Value.ownBlock]
 ·intro he
  have : g = g' := by simpa [Value.ownBlock] using he
  subst this
  rw [hg] at hh
  injection hh with hh
  injection hh with _ ht
  exact hne ht.symm
theorem blk_set {w : World} {g : Nat} {t : TypeId} {cs : Array Value} (h : w.heap[g]? = some (.cells cs t (0, 0))) (i : Nat) (u : Value) : (w.setCell ⟨g, i, none⟩ u).heap[g]? = some (.cells (cs.setIfInBounds i u) t (0, 0)) := by
 simp [World.setCell, Array.getElem?_modify, h]
theorem blk_far {w : World} {g : Nat} {t : TypeId} {cs : Array Value} (h : w.heap[g]? = some (.cells cs t (0, 0))) {p : Addr} (hp : g ≠ p.block) (u : Value) : (w.setCell p u).heap[g]? = some (.cells cs t (0, 0)) := (Below.heap_setCell w p u g hp).trans h
theorem blk_lt {w : World} {g : Nat} {o : Obj} (h : w.heap[g]? = some o) : g < w.heap.size := (Array.getElem?_eq_some_iff.1 h).1
theorem blk_cell {w : World} {g : Nat} {t : TypeId} {cs : Array Value} (h : w.heap[g]? = some (.cells cs t (0, 0))) (i : Nat) : w.cell? ⟨g, i, none⟩ = cs[i]? := cell_of_row w g i cs t (0, 0) h
theorem blk_frozen {w : World} {g : Nat} {t : TypeId} {cs : Array Value} (h : w.heap[g]? = some (.cells cs t (0, 0))) (i : Nat) : w.frozen? ⟨g, i, none⟩ = false := by simp [World.frozen?, h]
theorem blk_grown {w w1 : World} {g : Nat} {o : Obj} {row : Option Nat} (h : w.heap[g]? = some o) (hg : w.grownBy w1 row) (hne : some g ≠ row) : w1.heap[g]? = some o := (hg.block g (blk_lt h) hne).trans h
def KeepBut (w w' : World) (g : Nat) (row : Option Nat) : Prop := w.heap.size ≤ w'.heap.size ∧ ∀ i, i < w.heap.size → i ≠ g → some i ≠ row → w'.heap[i]? = w.heap[i]?
theorem KeepBut.refl (w : World) (g : Nat) (row : Option Nat) : KeepBut w w g row := ⟨Nat.le_refl _, fun _ _ _ _ => rfl⟩
theorem KeepBut.of_below {w w1 : World} (h : Below w.heap.size w w1) (g : Nat) (row : Option Nat) : KeepBut w w1 g row := ⟨h.size, fun i hi _ _ => h.block i hi⟩
theorem KeepBut.trans {w w1 w2 : World} {g : Nat} {row row1 : Option Nat} (h : KeepBut w w1 g row) (k : KeepBut w1 w2 g row1) (hr : row1 = row ∨ ∃ b, row1 = some b ∧ w.heap.size ≤ b) : KeepBut w w2 g row :=
 ⟨Nat.le_trans h.1 k.1, fun i hi hg hn => by
  refine (k.2 i (Nat.lt_of_lt_of_le hi h.1) hg ?_).trans (h.2 i hi hg hn)
  rcases hr with rfl | ⟨b, rfl, hb⟩
  ·exact hn
  ·intro e
   injection e with e
   omega⟩
theorem KeepBut.blk {w w1 : World} {g g' : Nat} {row : Option Nat} {o : Obj} (h : KeepBut w w1 g row) (hb : w.heap[g']? = some o) (hg : g' ≠ g) (hr : some g' ≠ row) : w1.heap[g']? = some o := (h.2 g' (blk_lt hb) hg hr).trans hb
theorem KeepBut.own {w w1 : World} {g : Nat} {row : Option Nat} {base : Nat} {e : TypeId} {size n : Nat} {v : Value} {xs : List Value} (h : KeepBut w w1 g row) (ho : w.ownsRow base e size v n xs) (hg : v.ownBlock ≠ some g) (hr : v.ownBlock = none ∨ v.ownBlock ≠ row) : w1.ownsRow base e size v n xs := by
 obtain ⟨h1, h2⟩ := ho
 refine ⟨h1, ?_⟩
 rcases h2 with h2 | ⟨b, cap, cur, rfl, hb, hh, r⟩
 ·exact .inl h2
 ·refine .inr ⟨b, cap, cur, rfl, hb, h.blk hh ?_ ?_, r⟩
  ·intro e
   exact hg (by rw [← e]; rfl)
  ·rcases hr with hr | hr
   ·simp [Value.ownBlock] at hr
   ·exact hr
def Ev {α : Type} (g : Nat → Option α) (r : α) : Prop := ∃ K, ∀ k, K ≤ k → g k = some r
theorem Ev.of {α : Type} {g : Nat → Option α} {r : α} (hg : ∀ k, LeO (g k) (g (k + 1))) {k : Nat} (h : g k = some r) : Ev g r := ⟨k, fun _ hk => at_rounds hg hk h⟩
theorem Ev.now {α : Type} (r : α) : Ev (fun _ => some r) r := ⟨0, fun _ _ => rfl⟩
theorem Ev.bind {α β : Type} {g : Nat → Option α} {f : Nat → α → Option β} {a : α} {r : β} (h : Ev g a) (k : Ev (fun n => f n a) r) : Ev (fun n => (g n).bind (f n)) r := by
 obtain ⟨K, h⟩ := h
 obtain ⟨K', k⟩ := k
 refine ⟨max K K', fun n hn => ?_⟩
 have h1 := h n (by omega)
 have h2 := k n (by omega)
 simp only [h1, Option.bind_some]
 exact h2
theorem Ev.step {α : Type} {g f : Nat → Option α} {r : α} (h : ∀ k, g (k + 1) = f k) (k : Ev f r) : Ev g r := by
 obtain ⟨K, k⟩ := k
 refine ⟨K + 1, fun n hn => ?_⟩
 obtain ⟨m, rfl⟩ : ∃ m, n = m + 1 := ⟨n - 1, by omega⟩
 rw [h]
 exact k m (by omega)
theorem Ev.congr {α : Type} {g f : Nat → Option α} {r : α} (h : ∀ k, g k = f k) (k : Ev f r) : Ev g r := by
 obtain ⟨K, k⟩ := k
 exact ⟨K, fun n hn => (h n).trans (k n hn)⟩
end Go.Proofs.YtkijamagbgigmaaGreatDoorW.PrintWords
namespace Go.Proofs.YtkijamagbgigmaaGreatDoorW.PrintWords
open Go.RowKit
variable {P : Program} {ops : Array Oper} {o : Oper} {a : Act} {Q : Exit → Act → World → Prop} {K : Act → World → Prop}
theorem step_append_cells {w0 W : World} (base : Nat) (hw : Region.wanted o (yielded ops a.tmps) = true) (s x : Operand) (t e : TypeId) (z : Value) (size bytes : Nat)
  (ho : o.op = .call { callee := .builtin .append, args := #[s, x], argTypes := #[t, t] })
  (ht : P.underlying t = some (.slice e)) (hinfo : (P.info? e).map (fun i => (i.zero, i.size, i.bytes)) = some (some z, size, bytes)) (hz : z.cells.size = size) (hs0 : 0 < size) (hb0 : 0 < bytes)
  (v : Value) (n : Nat) (xs ys : List Value) (hs : a.eval s = v) (hx : a.eval x = .slice (some ⟨W.heap.size, 0, none⟩) 1 1) (hys : ys.length = size) (h1 : ∀ u ∈ ys, u.oneCell' = true)
  (HO : W.ownsRow base e size v n xs) (HB : Below base w0 W) (hbase : base ≤ W.heap.size) (hl : (n + 1) * bytes ≤ 140737488355328)
  (h : ∀ v1 w1, w1.ownsRow base e size v1 (n + 1) (xs ++ ys) → Below base w0 w1 → W.grownBy w1 v.ownBlock → (v1.ownBlock = v.ownBlock ∨ ∃ b, v1.ownBlock = some b ∧ W.heap.size ≤ b) → K (a.put o.dst v1) w1) :
  if Region.wanted o (yielded ops a.tmps) = true then Oper.wp P o a (W.alloc (.cells ys.toArray e)) K Q else K (a.put o.dst undef) (W.alloc (.cells ys.toArray e)) := by
 obtain ⟨i0, hi, hzz⟩ := Option.map_eq_some_iff.1 hinfo
 simp only [Prod.mk.injEq] at hzz
 obtain ⟨hz0, hz1, hz2⟩ := hzz
 have hlen : n + 1 ≤ 140737488355328 := Nat.le_trans (Nat.le_mul_of_pos_right _ hb0) hl
 rw [if_pos hw]
 obtain ⟨v1, w1, hr, hown, hg, _, hat⟩ := run_append_own_at (P := P) (W.alloc (.cells ys.toArray e)) base t o.type e i0 z size bytes ht hi hz0 hz1 hz2 hz hs0 v n xs (HO.alloc _) ⟨W.heap.size, 0, none⟩ 1 1 ys (by rw [hys]; simp)
  (by simpa using World.news_of_block (cs := ys.toArray) (t := e) (fr := (0, 0)) (heap_alloc_new W (.cells ys.toArray e))) h1 (by simp only [maxLen]; omega) hl (by simp; omega)
 unfold Oper.wp execOp
 simp only [ho, resolve, invoke, builtin, Sem.run_bind, Sem.run_pure, Result.andThen_ok, List.map_toArray, List.map_cons, List.map_nil, hs, hx, hr]
 refine h v1 w1 hown ((HB.alloc hbase _).grown hg (by simp; omega) (own_base HO)) (World.grownBy.trans (World.grownBy_alloc W _ _) hg) ?_
 rcases hat with hat | hat
 ·exact .inl hat
 ·exact .inr ⟨_, hat, by simp⟩
end Go.Proofs.YtkijamagbgigmaaGreatDoorW.PrintWords
namespace Go.Proofs.YtkijamagbgigmaaGreatDoorW.PrintWords
open Go.RowKit
theorem own_weaken {w : World} {base base' : Nat} {e : TypeId} {size n : Nat} {v : Value} {xs : List Value} (h : w.ownsRow base e size v n xs) (hb : base' ≤ base) : w.ownsRow base' e size v n xs := by
 obtain ⟨h1, h2⟩ := h
 refine ⟨h1, ?_⟩
 rcases h2 with h2 | ⟨g, cap, cur, rfl, hg, r⟩
 ·exact .inl h2
 ·exact .inr ⟨g, cap, cur, rfl, Nat.le_trans hb hg, r⟩
end Go.Proofs.YtkijamagbgigmaaGreatDoorW.PrintWords
namespace Go.Proofs.YtkijamagbgigmaaGreatDoorW.PrintWords
open Go.RowKit
variable {α : Type} {enc : α → Value} {d : α}
def rdOf (d : α) (xs : List α) (i : Int) : α := xs.getD i.toNat d
def ReadsOf (enc : α → Value) (d : α) (w : World) (A : Option Addr) (n : Nat) (xs : List α) : Prop :=
 xs.length = n ∧ n ≤ 9223372036854775807 ∧ (0 < n → ∃ ad, A = some ad ∧ ∀ j, j < n → w.cell? (ad.add j) = some (enc (xs.getD j d)))
theorem ReadsOf.at_ {w : World} {A : Option Addr} {n : Nat} {xs : List α} (h : ReadsOf enc d w A n xs) (i : Int) (h0 : 0 ≤ i) (h1 : i < n) : ∃ ad, A = some ad ∧ w.cell? (ad.add i.toNat) = some (enc (rdOf d xs i)) := by
 obtain ⟨ad, e, hc⟩ := h.2.2 (by omega)
 exact ⟨ad, e, hc _ (by omega)⟩
theorem ReadsOf.below {w w1 : World} {A : Option Addr} {n : Nat} {xs : List α} (h : ReadsOf enc d w A n xs) (hb : Below w.heap.size w w1) : ReadsOf enc d w1 A n xs :=
 ⟨h.1, h.2.1, fun hn => by
  obtain ⟨ad, e, hc⟩ := h.2.2 hn
  exact ⟨ad, e, fun j hj => pw_cell_below hb (hc j hj)⟩⟩
theorem ReadsOf.take_ {w : World} {A : Option Addr} {n : Nat} {xs : List α} (h : ReadsOf enc d w A n xs) (i : Nat) (hi : i ≤ n) : ReadsOf enc d w A i (xs.take i) := by
 refine ⟨by rw [List.length_take, h.1]; omega, by have := h.2.1; omega, fun hp => ?_⟩
 obtain ⟨ad, e, hc⟩ := h.2.2 (by omega)
 refine ⟨ad, e, fun j hj => ?_⟩
 rw [hc j (by omega)]
 simp [List.getD_eq_getElem?_getD, hj]
end Go.Proofs.YtkijamagbgigmaaGreatDoorW.PrintWords
namespace Go.Proofs.YtkijamagbgigmaaGreatDoorW.PrintWords
open Go.RowKit
theorem blk_alloc {w : World} {g : Nat} {o : Obj} (h : w.heap[g]? = some o) (o' : Obj) : (w.alloc o').heap[g]? = some o := (Below.heap_alloc w o' g (blk_lt h)).trans h
theorem blk_drew {w : World} {g : Nat} {o : Obj} (h : w.heap[g]? = some o) : w.drew.heap[g]? = some o := h
theorem blk_drewN {w : World} {g : Nat} {o : Obj} (h : w.heap[g]? = some o) (n : Nat) : (w.drewN n).heap[g]? = some o := h
theorem blk_below {w w1 : World} {g : Nat} {o : Obj} (h : w.heap[g]? = some o) (hb : Below w.heap.size w w1) : w1.heap[g]? = some o := (hb.block g (blk_lt h)).trans h
theorem blk_new (w : World) (o : Obj) : (w.alloc o).heap[w.heap.size]? = some o := heap_alloc_new w o
theorem own_le {w : World} {base n m c size : Nat} {e : TypeId} {A : Option Addr} {xs : List Value} (h : w.ownsRow base e size (.slice A m c) n xs) : m ≤ c := by
 rcases h.2 with ⟨he, _⟩ | ⟨g, cap, cur, he, _, _, hnc, _⟩
 ·injection he with _ h2 h3
  omega
 ·injection he with _ h2 h3
  omega
def OwnRow {α : Type} (R : α → List Value → Prop) (e : TypeId) (size : Nat) (w : World) (base : Nat) (v : Value) (ps : List α) : Prop :=
 ∃ inner, w.ownsRow base e size v ps.length inner ∧ Reps R size ps inner
end Go.Proofs.YtkijamagbgigmaaGreatDoorW.PrintWords
namespace Go.Proofs.YtkijamagbgigmaaGreatDoorW.PrintWords
open Go.RowKit
variable {α : Type} {R R' : α → List Value → Prop} {e : TypeId} {size : Nat} {w w1 : World} {base : Nat} {v : Value} {ps : List α}
theorem OwnRow.none_ (R : α → List Value → Prop) (e : TypeId) (size : Nat) (w : World) (base : Nat) : OwnRow R e size w base (.slice none 0 0) [] := ⟨[], own_nil _ _ _ _, Reps.none _ _⟩
theorem OwnRow.imp_ (h : OwnRow R e size w base v ps) (hR : ∀ p c, R p c → R' p c) : OwnRow R' e size w base v ps := by
 obtain ⟨inner, ho, hr⟩ := h
 exact ⟨inner, ho, hr.imp_ hR⟩
theorem OwnRow.below (h : OwnRow R e size w base v ps) (hb : Below w.heap.size w w1) : OwnRow R e size w1 base v ps := by
 obtain ⟨inner, ho, hr⟩ := h
 exact ⟨inner, pw_own_below ho hb, hr⟩
theorem OwnRow.keep (h : OwnRow R e size w base v ps) {g : Nat} {t : TypeId} {cells : Array Value} (hb : w.heap[g]? = some (.cells cells t (0, 0))) (ht : e ≠ t) (hk : KeepBut w w1 g none) : OwnRow R e size w1 base v ps := by
 obtain ⟨inner, ho, hr⟩ := h
 exact ⟨inner, hk.own ho (Ne.symm (own_ne ho hb ht)) (by cases v.ownBlock <;> simp), hr⟩
theorem OwnRow.reads (h : OwnRow R e size w base v ps) : ∃ A c, v = .slice A ps.length c ∧ ps.length ≤ c ∧ ReadsRow R size w A ps.length ps := by
 obtain ⟨inner, ho, hr⟩ := h
 obtain ⟨A, c, rfl, hrow⟩ := own_reads_row ho hr rfl
 exact ⟨A, c, rfl, own_le ho, hrow⟩
end Go.Proofs.YtkijamagbgigmaaGreatDoorW.PrintWords
namespace Go.Proofs.YtkijamagbgigmaaGreatDoorW.PrintWords
open Go.RowKit
variable {P : Program} {ops : Array Oper} {rest : List Oper} {o : Oper} {a : Act} {Q : Exit → Act → World → Prop} {α : Type} {R : α → List Value → Prop}
theorem OwnRow.append {w0 W : World} (base : Nat) (hgd : o.guard = none) (s x : Operand) (t e : TypeId) (z : Value) (size bytes : Nat)
  (ho : o.op = .call { callee := .builtin .append, args := #[s, x], argTypes := #[t, t] })
  (ht : P.underlying t = some (.slice e)) (hinfo : (P.info? e).map (fun i => (i.zero, i.size, i.bytes)) = some (some z, size, bytes)) (hz : z.cells.size = size) (hs0 : 0 < size) (hb0 : 0 < bytes)
  (v : Value) (ps : List α) (p : α) (cs : List Value) (hs : a.eval s = v) (hx : a.eval x = .slice (some ⟨W.heap.size, 0, none⟩) 1 1) (hp : R p cs) (hcs : cs.length = size) (h1 : ∀ u ∈ cs, u.oneCell' = true)
  (HO : OwnRow R e size W base v ps) (HB : Below base w0 W) (hbase : base ≤ W.heap.size) (hl : (ps.length + 1) * bytes ≤ 140737488355328)
  (h : ∀ v1 w1, OwnRow R e size w1 base v1 (ps ++ [p]) → Below base w0 w1 → W.grownBy w1 v.ownBlock → (v1.ownBlock = v.ownBlock ∨ ∃ b, v1.ownBlock = some b ∧ W.heap.size ≤ b) → wpList P ops Q rest (a.put o.dst v1) w1) :
  wpList P ops Q (o :: rest) a (W.alloc (.cells cs.toArray e)) := by
 obtain ⟨inner, hown, hr⟩ := HO
 refine print_append_cells base hgd s x t e z size bytes ho ht hinfo hz hs0 hb0 v ps.length inner cs hs hx hcs h1 hown HB hbase hl ?_
 intro v1 w1 hown1 hb1 hg1 hat1
 exact h v1 w1 ⟨inner ++ cs, by rw [List.length_append, List.length_singleton]; exact hown1, hr.snoc hp hcs⟩ hb1 hg1 hat1
end Go.Proofs.YtkijamagbgigmaaGreatDoorW.PrintWords
namespace Go.Proofs.YtkijamagbgigmaaGreatDoorW.PrintWords
open Go.RowKit
theorem ReadsRow.inner_ {α : Type} {R : α → List Value → Prop} {size : Nat} {w : World} {ad : Addr} {n : Nat} {ps : List α} (h : ReadsRow R size w (some ad) n ps) :
  ∃ inner, Reps R size ps inner ∧ ∀ j u, inner[j]? = some u → w.cell? (ad.add j) = some u := by
 have key : ∀ m, m ≤ ps.length → ∃ inner, Reps R size (ps.take m) inner ∧ ∀ j u, inner[j]? = some u → w.cell? (ad.add j) = some u := by
  intro m
  induction m with
  | zero => exact fun _ => ⟨[], Reps.none _ _, fun j u hu => by simp at hu⟩
  | succ m ih =>
   intro hm
   obtain ⟨inner, hr, hc⟩ := ih (by omega)
   obtain ⟨ad', he, hcell⟩ := h.2.2 (by have := h.1; omega)
   injection he with he
   subst he
   obtain ⟨c, hcl, hp, hcc⟩ := hcell m _ (List.getElem?_eq_getElem (show m < ps.length by omega))
   refine ⟨inner ++ c, ?_, fun j u hu => ?_⟩
   ·rw [List.take_succ_eq_append_getElem (show m < ps.length by omega)]
    exact hr.snoc hp hcl
   ·have hil : inner.length = m * size := by rw [hr.1, List.length_take, Nat.min_eq_left (by omega)]
    rcases Nat.lt_or_ge j inner.length with hj | hj
    ·rw [List.getElem?_append_left hj] at hu
     exact hc j u hu
    ·rw [List.getElem?_append_right hj] at hu
     have := hcc (j - inner.length) u hu
     rwa [hil, Nat.add_sub_cancel' (by omega)] at this
 obtain ⟨inner, hr, hc⟩ := key ps.length (Nat.le_refl _)
 rw [List.take_length] at hr
 exact ⟨inner, hr, hc⟩
structure Kd (α : Type) where
 sz : Nat
 E : List Nat
 K : World → α → List Value → Prop
 M : World → Nat → (Nat → Prop) → α → List Value → Prop
 K_len : ∀ {w x cs}, K w x cs → cs.length = sz
 K_one : ∀ {w x cs}, K w x cs → ∀ u ∈ cs, u.oneCell' = true
 K_below : ∀ {w w1 : World} {x cs}, Below w.heap.size w w1 → K w x cs → K w1 x cs
 K_of_M : ∀ {w base ok x cs}, M w base ok x cs → K w x cs
 M_mono : ∀ {w base ok ok' x cs}, (∀ k, ok k → ok' k) → M w base ok x cs → M w base ok' x cs
 M_bound : ∀ {w : World} {base ok x cs}, M w base ok x cs → M w base (fun k => ok k ∧ base ≤ k ∧ k < w.heap.size ∧ ∃ q, q ∈ E ∧ ∃ cells, w.heap[k]? = some (.cells cells q (0, 0))) x cs
 M_move : ∀ {w w1 : World} {base ok x cs}, (∀ k, ok k → w1.heap[k]? = w.heap[k]?) → M w base ok x cs → M w1 base ok x cs
 M_lower : ∀ {w base base' ok x cs}, base' ≤ base → M w base ok x cs → M w base' ok x cs
theorem own_move {w w1 : World} {base : Nat} {e : TypeId} {size n : Nat} {v : Value} {xs : List Value} (h : w.ownsRow base e size v n xs) (hm : ∀ k, v.ownBlock = some k → w1.heap[k]? = w.heap[k]?) : w1.ownsRow base e size v n xs := by
 obtain ⟨h1, h2⟩ := h
 refine ⟨h1, ?_⟩
 rcases h2 with h2 | ⟨g, cap, cur, rfl, hg, hh, r⟩
 ·exact .inl h2
 ·exact .inr ⟨g, cap, cur, rfl, hg, (hm g (by simp [Value.ownBlock])).trans hh, r⟩
theorem own_typed {w : World} {base : Nat} {e : TypeId} {size n : Nat} {v : Value} {xs : List Value} (h : w.ownsRow base e size v n xs) (k : Nat) (hk : v.ownBlock = some k) : ∃ cells, w.heap[k]? = some (.cells cells e (0, 0)) := by
 rcases h.2 with ⟨rfl, _⟩ | ⟨g, cap, cur, rfl, hg, hh, r⟩
 ·simp [Value.ownBlock] at hk
 ·have : g = k := by simpa [Value.ownBlock] using hk
  subst this
  exact ⟨cur, hh⟩
end Go.Proofs.YtkijamagbgigmaaGreatDoorW.PrintWords
namespace Go.Proofs.YtkijamagbgigmaaGreatDoorW.PrintWords.Kd
open Go.RowKit
def C {α : Type} (d : Kd α) (w : World) (A : Option Addr) (n : Nat) (xs : List α) : Prop := ReadsRow (d.K w) d.sz w A n xs
def R {α : Type} (d : Kd α) (e : Nat) (w : World) (base : Nat) (ok : Nat → Prop) (v : Value) (xs : List α) : Prop :=
 (∀ k, v.ownBlock = some k → ok k) ∧ OwnRow (d.M w base (fun k => ok k ∧ some k ≠ v.ownBlock)) e d.sz w base v xs
end Go.Proofs.YtkijamagbgigmaaGreatDoorW.PrintWords.Kd
namespace Go.Proofs.YtkijamagbgigmaaGreatDoorW.PrintWords.Kd
open Go.RowKit
variable {α : Type} {d : Kd α} {e : Nat} {w w1 : World} {base : Nat} {ok ok' : Nat → Prop} {v : Value} {xs : List α}
theorem C_below {A : Option Addr} {n : Nat} (h : d.C w A n xs) (hb : Below w.heap.size w w1) : d.C w1 A n xs := ReadsRow.imp_ h hb (fun _ _ hp => d.K_below hb hp)
theorem R_nil (d : Kd α) (e : Nat) (w : World) (base : Nat) (ok : Nat → Prop) : d.R e w base ok (.slice none 0 0) [] := ⟨fun k hk => by simp [Value.ownBlock] at hk, OwnRow.none_ _ _ _ _ _⟩
theorem R_mono (h : d.R e w base ok v xs) (hok : ∀ k, ok k → ok' k) : d.R e w base ok' v xs := ⟨fun k hk => hok k (h.1 k hk), h.2.imp_ (fun _ _ hp => d.M_mono (fun k hk => ⟨hok k hk.1, hk.2⟩) hp)⟩
theorem R_bound (h : d.R e w base ok v xs) : d.R e w base (fun k => ok k ∧ base ≤ k ∧ k < w.heap.size ∧ ∃ q, q ∈ e :: d.E ∧ ∃ cells, w.heap[k]? = some (.cells cells q (0, 0))) v xs := by
 obtain ⟨h0, inner, ho, hr⟩ := h
 refine ⟨fun k hk => ?_, inner, ho, hr.imp_ (fun _ _ hp => d.M_mono (fun k hk => ?_) (d.M_bound hp))⟩
 ·obtain ⟨cells, hc⟩ := own_typed ho k hk
  exact ⟨h0 k hk, own_base ho k hk, own_lt ho k hk, e, List.mem_cons_self, cells, hc⟩
 ·obtain ⟨⟨h1, h2⟩, h3, h4, q, hq, hc⟩ := hk
  exact ⟨⟨h1, h3, h4, q, List.mem_cons_of_mem _ hq, hc⟩, h2⟩
theorem R_move (h : d.R e w base ok v xs) (hm : ∀ k, ok k → w1.heap[k]? = w.heap[k]?) : d.R e w1 base ok v xs := by
 obtain ⟨h0, inner, ho, hr⟩ := h
 exact ⟨h0, inner, own_move ho (fun k hk => hm k (h0 k hk)), hr.imp_ (fun _ _ hp => d.M_move (fun k hk => hm k hk.1) hp)⟩
theorem R_lower {base' : Nat} (h : d.R e w base ok v xs) (hb : base' ≤ base) : d.R e w base' ok v xs := by
 obtain ⟨h0, inner, ho, hr⟩ := h
 exact ⟨h0, inner, own_weaken ho hb, hr.imp_ (fun _ _ hp => d.M_lower hb hp)⟩
theorem R_step (h : d.R e w base ok v xs) (hm : ∀ k, ok k → k < w.heap.size → w1.heap[k]? = w.heap[k]?) : d.R e w1 base ok v xs :=
 R_mono (R_move (R_bound h) (fun k hk => hm k hk.1 hk.2.2.1)) (fun _ hk => hk.1)
theorem M_step {x : α} {cs : List Value} (h : d.M w base ok x cs) (hm : ∀ k, ok k → k < w.heap.size → w1.heap[k]? = w.heap[k]?) : d.M w1 base ok x cs :=
 d.M_mono (fun _ hk => hk.1) (d.M_move (fun k hk => hm k hk.1 hk.2.2.1) (d.M_bound h))
theorem M_below {x : α} {cs : List Value} (h : d.M w base ok x cs) (hb : Below w.heap.size w w1) : d.M w1 base ok x cs := M_step h (fun k _ hk => hb.block k hk)
theorem R_reads (h : d.R e w base ok v xs) : ∃ A c, v = .slice A xs.length c ∧ xs.length ≤ c ∧ d.C w A xs.length xs := by
 obtain ⟨A, c, he, hl, hr⟩ := OwnRow.reads h.2
 exact ⟨A, c, he, hl, hr.imp_ (Below.refl _ _) (fun _ _ hp => d.K_of_M hp)⟩
theorem R_slice (h : d.R e w base ok v xs) : ∃ A c, v = .slice A xs.length c := by
 obtain ⟨A, c, he, _⟩ := R_reads h
 exact ⟨A, c, he⟩
theorem R_own (h : d.R e w base ok v xs) : ∃ inner, w.ownsRow base e d.sz v xs.length inner := by
 obtain ⟨_, inner, ho, _⟩ := h
 exact ⟨inner, ho⟩
end Go.Proofs.YtkijamagbgigmaaGreatDoorW.PrintWords.Kd
namespace Go.Proofs.YtkijamagbgigmaaGreatDoorW.PrintWords.Kd
open Go.RowKit
def scalar {α : Type} (enc : α → Value) (h1 : ∀ x, (enc x).oneCell' = true) : Kd α where
 sz := 1
 E := []
 K := fun _ x cs => cs = [enc x]
 M := fun _ _ _ x cs => cs = [enc x]
 K_len := fun h => by rw [h]; rfl
 K_one := fun h u hu => by
  rw [h] at hu
  rw [List.mem_singleton.1 hu]
  exact h1 _
 K_below := fun _ h => h
 K_of_M := fun h => h
 M_mono := fun _ h => h
 M_bound := fun h => h
 M_move := fun _ h => h
 M_lower := fun _ h => h
def int (k : IntKind) : Kd Int := scalar (Value.int k) (fun _ => rfl)
def bool : Kd Bool := scalar Value.bool (fun _ => rfl)
def string : Kd ByteArray := scalar Value.string (fun _ => rfl)
def slice {α : Type} (e : Nat) (d : Kd α) : Kd (List α) where
 sz := 1
 E := e :: d.E
 K := fun w xs cs => ∃ A c, cs = [.slice A xs.length c] ∧ xs.length ≤ c ∧ d.C w A xs.length xs
 M := fun w base ok xs cs => ∃ v, cs = [v] ∧ d.R e w base ok v xs
 K_len := by
  rintro w x cs ⟨A, c, rfl, _⟩
  rfl
 K_one := by
  rintro w x cs ⟨A, c, rfl, _⟩ u hu
  rw [List.mem_singleton.1 hu]
  rfl
 K_below := by
  rintro w w1 x cs hb ⟨A, c, rfl, hl, hr⟩
  exact ⟨A, c, rfl, hl, C_below hr hb⟩
 K_of_M := by
  rintro w base ok x cs ⟨v, rfl, h⟩
  obtain ⟨A, c, rfl, hl, hr⟩ := R_reads h
  exact ⟨A, c, rfl, hl, hr⟩
 M_mono := by
  rintro w base ok ok' x cs hok ⟨v, rfl, h⟩
  exact ⟨v, rfl, R_mono h hok⟩
 M_bound := by
  rintro w base ok x cs ⟨v, rfl, h⟩
  exact ⟨v, rfl, R_bound h⟩
 M_move := by
  rintro w w1 base ok x cs hm ⟨v, rfl, h⟩
  exact ⟨v, rfl, R_move h hm⟩
 M_lower := by
  rintro w base base' ok x cs hb ⟨v, rfl, h⟩
  exact ⟨v, rfl, R_lower h hb⟩
def pair {α β : Type} (a : Kd α) (b : Kd β) : Kd (α × β) where
 sz := a.sz + b.sz
 E := a.E ++ b.E
 K := fun w x cs => ∃ c0 c1, cs = c0 ++ c1 ∧ a.K w x.1 c0 ∧ b.K w x.2 c1
 M := fun w base ok x cs => ∃ c0 c1, cs = c0 ++ c1 ∧ a.M w base ok x.1 c0 ∧ b.M w base ok x.2 c1
 K_len := by
  rintro w x cs ⟨c0, c1, rfl, h0, h1⟩
  rw [List.length_append, a.K_len h0, b.K_len h1]
 K_one := by
  rintro w x cs ⟨c0, c1, rfl, h0, h1⟩ u hu
  rcases List.mem_append.1 hu with hu | hu
  ·exact a.K_one h0 u hu
  ·exact b.K_one h1 u hu
 K_below := by
  rintro w w1 x cs hb ⟨c0, c1, rfl, h0, h1⟩
  exact ⟨c0, c1, rfl, a.K_below hb h0, b.K_below hb h1⟩
 K_of_M := by
  rintro w base ok x cs ⟨c0, c1, rfl, h0, h1⟩
  exact ⟨c0, c1, rfl, a.K_of_M h0, b.K_of_M h1⟩
 M_mono := by
  rintro w base ok ok' x cs hok ⟨c0, c1, rfl, h0, h1⟩
  exact ⟨c0, c1, rfl, a.M_mono hok h0, b.M_mono hok h1⟩
 M_bound := by
  rintro w base ok x cs ⟨c0, c1, rfl, h0, h1⟩
  refine ⟨c0, c1, rfl, a.M_mono ?_ (a.M_bound h0), b.M_mono ?_ (b.M_bound h1)⟩
  ·rintro k ⟨h2, h3, h4, q, hq, hc⟩
   exact ⟨h2, h3, h4, q, List.mem_append_left _ hq, hc⟩
  ·rintro k ⟨h2, h3, h4, q, hq, hc⟩
   exact ⟨h2, h3, h4, q, List.mem_append_right _ hq, hc⟩
 M_move := by
  rintro w w1 base ok x cs hm ⟨c0, c1, rfl, h0, h1⟩
  exact ⟨c0, c1, rfl, a.M_move hm h0, b.M_move hm h1⟩
 M_lower := by
  rintro w base base' ok x cs hb ⟨c0, c1, rfl, h0, h1⟩
  exact ⟨c0, c1, rfl, a.M_lower hb h0, b.M_lower hb h1⟩
def iso {α β : Type} (d : Kd α) (f : β → α) : Kd β where
 sz := d.sz
 E := d.E
 K := fun w x cs => d.K w (f x) cs
 M := fun w base ok x cs => d.M w base ok (f x) cs
 K_len := d.K_len
 K_one := d.K_one
 K_below := d.K_below
 K_of_M := d.K_of_M
 M_mono := d.M_mono
 M_bound := d.M_bound
 M_move := d.M_move
 M_lower := d.M_lower
def bot {α : Type} (sz : Nat) (E : List Nat) : Kd α where
 sz := sz
 E := E
 K := fun _ _ _ => False
 M := fun _ _ _ _ _ => False
 K_len := fun h => h.elim
 K_one := fun h => h.elim
 K_below := fun _ h => h
 K_of_M := fun h => h
 M_mono := fun _ h => h
 M_bound := fun h => h
 M_move := fun _ h => h
 M_lower := fun _ h => h
def upto {α : Type} (F : Kd α → Kd α) (sz : Nat) (E : List Nat) : Nat → Kd α
 | 0 => bot sz E
 | n + 1 => F (upto F sz E n)
def fix {α : Type} (F : Kd α → Kd α) (sz : Nat) (E : List Nat) (hs : ∀ n, (upto F sz E n).sz = sz) (hE : ∀ n q, q ∈ (upto F sz E n).E → q ∈ E) : Kd α where
 sz := sz
 E := E
 K := fun w x cs => ∃ n, (upto F sz E n).K w x cs
 M := fun w base ok x cs => ∃ n, (upto F sz E n).M w base ok x cs
 K_len := by
  rintro w x cs ⟨n, h⟩
  rw [(upto F sz E n).K_len h, hs n]
 K_one := by
  rintro w x cs ⟨n, h⟩
  exact (upto F sz E n).K_one h
 K_below := by
  rintro w w1 x cs hb ⟨n, h⟩
  exact ⟨n, (upto F sz E n).K_below hb h⟩
 K_of_M := by
  rintro w base ok x cs ⟨n, h⟩
  exact ⟨n, (upto F sz E n).K_of_M h⟩
 M_mono := by
  rintro w base ok ok' x cs hok ⟨n, h⟩
  exact ⟨n, (upto F sz E n).M_mono hok h⟩
 M_bound := by
  rintro w base ok x cs ⟨n, h⟩
  refine ⟨n, (upto F sz E n).M_mono ?_ ((upto F sz E n).M_bound h)⟩
  rintro k ⟨h2, h3, h4, q, hq, hc⟩
  exact ⟨h2, h3, h4, q, hE n q hq, hc⟩
 M_move := by
  rintro w w1 base ok x cs hm ⟨n, h⟩
  exact ⟨n, (upto F sz E n).M_move hm h⟩
 M_lower := by
  rintro w base base' ok x cs hb ⟨n, h⟩
  exact ⟨n, (upto F sz E n).M_lower hb h⟩
theorem C_get {α : Type} {d : Kd α} {w : World} {A : Option Addr} {n : Nat} {xs : List α} (h : d.C w A n xs) (z : α) (i : Int) (h0 : 0 ≤ i) (h1 : i < n) :
  ∃ ad c, A = some ad ∧ c.length = d.sz ∧ d.K w (xs.getD i.toNat z) c ∧ ∀ j u, c[j]? = some u → w.cell? (ad.add (i.toNat * d.sz + j)) = some u := ReadsRow.get_ h z i h0 h1
theorem R_appended {α : Type} {d : Kd α} {e base : Nat} {ok okp : Nat → Prop} {W w1 : World} {v v1 : Value} {xs : List α} {p : α} {inner cs : List Value} (h0 : ∀ k, v.ownBlock = some k → ok k) (hr : Reps (d.M W base (fun k => ok k ∧ some k ≠ v.ownBlock)) d.sz xs inner) (hp : d.M W base okp p cs) (hokp : ∀ k, okp k → ok k ∧ some k ≠ v.ownBlock) (hfresh : ∀ k, W.heap.size ≤ k → ok k)
  (hown : w1.ownsRow base e d.sz v1 (xs.length + 1) (inner ++ cs)) (hg : W.grownBy w1 v.ownBlock) (hat : v1.ownBlock = v.ownBlock ∨ ∃ b, v1.ownBlock = some b ∧ W.heap.size ≤ b) : d.R e w1 base ok v1 (xs ++ [p]) := by
 have hne : ∀ k, some k ≠ v.ownBlock → k < W.heap.size → some k ≠ v1.ownBlock := by
  intro k hk hlt
  rcases hat with hat | ⟨b, hb, hle⟩
  ·rw [hat]; exact hk
  ·rw [hb]
   intro he
   injection he with he
   omega
 have step : ∀ {q : α} {c : List Value} {o : Nat → Prop}, d.M W base o q c → (∀ k, o k → ok k ∧ some k ≠ v.ownBlock) → d.M w1 base (fun k => ok k ∧ some k ≠ v1.ownBlock) q c := by
  intro q c o hq ho
  have h1 := d.M_move (w1 := w1) (fun k hk => hg.block k hk.2.2.1 (ho k hk.1).2) (d.M_bound hq)
  exact d.M_mono (fun k hk => ⟨(ho k hk.1).1, hne k (ho k hk.1).2 hk.2.2.1⟩) h1
 refine ⟨fun k hk => ?_, inner ++ cs, by rw [List.length_append, List.length_singleton]; exact hown, ?_⟩
 ·rcases hat with hat | ⟨b, hb, hle⟩
  ·exact h0 k (hat ▸ hk)
  ·rw [hb] at hk
   injection hk with hk
   exact hfresh k (by omega)
 ·exact (hr.imp_ (fun _ _ hq => step hq (fun _ hk => hk))).snoc (step hp hokp) (d.K_len (d.K_of_M hp))
end Go.Proofs.YtkijamagbgigmaaGreatDoorW.PrintWords.Kd
namespace Go.Proofs.YtkijamagbgigmaaGreatDoorW.PrintWords.Kd
open Go.RowKit
variable {P : Program} {ops : Array Oper} {rest : List Oper} {o : Oper} {a : Act} {Q : Exit → Act → World → Prop} {α : Type}
theorem R_append (d : Kd α) {w0 W : World} (base : Nat) (hgd : o.guard = none) (s x : Operand) (t e : TypeId) (z : Value) (bytes : Nat)
  (ho : o.op = .call { callee := .builtin .append, args := #[s, x], argTypes := #[t, t] })
  (ht : P.underlying t = some (.slice e)) (hinfo : (P.info? e).map (fun i => (i.zero, i.size, i.bytes)) = some (some z, d.sz, bytes)) (hz : z.cells.size = d.sz) (hs0 : 0 < d.sz) (hb0 : 0 < bytes)
  (v : Value) (xs : List α) (p : α) (cs : List Value) (ok okp : Nat → Prop) (hs : a.eval s = v) (hx : a.eval x = .slice (some ⟨W.heap.size, 0, none⟩) 1 1) (hp : d.M W base okp p cs) (hokp : ∀ k, okp k → ok k ∧ some k ≠ v.ownBlock) (hfresh : ∀ k, W.heap.size ≤ k → ok k)
  (HO : d.R e W base ok v xs) (HB : Below base w0 W) (hbase : base ≤ W.heap.size) (hl : (xs.length + 1) * bytes ≤ 140737488355328)
  (h : ∀ v1 w1, d.R e w1 base ok v1 (xs ++ [p]) → Below base w0 w1 → W.grownBy w1 v.ownBlock → (v1.ownBlock = v.ownBlock ∨ ∃ b, v1.ownBlock = some b ∧ W.heap.size ≤ b) → wpList P ops Q rest (a.put o.dst v1) w1) :
  wpList P ops Q (o :: rest) a (W.alloc (.cells cs.toArray e)) := by
 obtain ⟨h0, inner, hown, hr⟩ := HO
 refine print_append_cells base hgd s x t e z d.sz bytes ho ht hinfo hz hs0 hb0 v xs.length inner cs hs hx (d.K_len (d.K_of_M hp)) (d.K_one (d.K_of_M hp)) hown HB hbase hl ?_
 intro v1 w1 hown1 hb1 hg1 hat1
 exact h v1 w1 (R_appended h0 hr hp hokp hfresh hown1 hg1 hat1) hb1 hg1 hat1
end Go.Proofs.YtkijamagbgigmaaGreatDoorW.PrintWords.Kd
namespace Go.Proofs.YtkijamagbgigmaaGreatDoorW.PrintWords.Kd
open Go.RowKit
theorem reads_of_C {α : Type} {enc : α → Value} {d : α} {h1 : ∀ x, (enc x).oneCell' = true} {w : World} {A : Option Addr} {n : Nat} {xs : List α} (h : (scalar enc h1).C w A n xs) : ReadsOf enc d w A n xs := by
 refine ⟨h.1, h.2.1, fun hn => ?_⟩
 obtain ⟨ad, e, hc⟩ := h.2.2 hn
 refine ⟨ad, e, fun j hj => ?_⟩
 have hl : j < xs.length := by have := h.1; omega
 obtain ⟨c, _, hK, hcell⟩ := hc j _ (List.getElem?_eq_getElem hl)
 have hK' : c = [enc xs[j]] := hK
 subst hK'
 have := hcell 0 _ rfl
 simpa [scalar, List.getD_eq_getElem?_getD, List.getElem?_eq_getElem hl] using this
structure Mono {α β : Type} (F : Kd α → Kd β) : Prop where
 sz : ∀ d d' : Kd α, d.sz = d'.sz → (F d).sz = (F d').sz
 K : ∀ d d' : Kd α, d.sz = d'.sz → (∀ w x cs, d.K w x cs → d'.K w x cs) → ∀ w x cs, (F d).K w x cs → (F d').K w x cs
 M : ∀ d d' : Kd α, d.sz = d'.sz → (∀ w base ok x cs, d.M w base ok x cs → d'.M w base ok x cs) → ∀ w base ok x cs, (F d).M w base ok x cs → (F d').M w base ok x cs
theorem mono_const {α β : Type} (k : Kd β) : Mono (fun _ : Kd α => k) := ⟨fun _ _ _ => rfl, fun _ _ _ _ _ _ _ h => h, fun _ _ _ _ _ _ _ _ _ h => h⟩
theorem mono_id {α : Type} : Mono (fun d : Kd α => d) := ⟨fun _ _ h => h, fun _ _ _ h => h, fun _ _ _ h => h⟩
theorem C_imp {α : Type} {d d' : Kd α} (hs : d.sz = d'.sz) (h : ∀ w x cs, d.K w x cs → d'.K w x cs) {w : World} {A : Option Addr} {n : Nat} {xs : List α} (hc : d.C w A n xs) : d'.C w A n xs := by
 unfold C at hc ⊢
 rw [← hs]
 exact hc.imp_ (Below.refl _ _) (fun _ _ hp => h _ _ _ hp)
theorem R_imp {α : Type} {d d' : Kd α} (hs : d.sz = d'.sz) (h : ∀ w base ok x cs, d.M w base ok x cs → d'.M w base ok x cs) {e : Nat} {w : World} {base : Nat} {ok : Nat → Prop} {v : Value} {xs : List α} (hr : d.R e w base ok v xs) : d'.R e w base ok v xs := by
 unfold R at hr ⊢
 rw [← hs]
 exact ⟨hr.1, hr.2.imp_ (fun _ _ hp => h _ _ _ _ _ hp)⟩
theorem mono_slice {α β : Type} (e : Nat) {G : Kd α → Kd β} (hG : Mono G) : Mono (fun d => slice e (G d)) := by
 refine ⟨fun _ _ _ => rfl, ?_, ?_⟩
 ·rintro d d' hs h w x cs ⟨A, c, rfl, hl, hr⟩
  exact ⟨A, c, rfl, hl, C_imp (hG.sz d d' hs) (hG.K d d' hs h) hr⟩
 ·rintro d d' hs h w base ok x cs ⟨v, rfl, hr⟩
  exact ⟨v, rfl, R_imp (hG.sz d d' hs) (hG.M d d' hs h) hr⟩
theorem mono_pair {α β γ : Type} {G : Kd α → Kd β} {H : Kd α → Kd γ} (hG : Mono G) (hH : Mono H) : Mono (fun d => pair (G d) (H d)) := by
 refine ⟨fun d d' hs => ?_, ?_, ?_⟩
 ·show (G d).sz + (H d).sz = (G d').sz + (H d').sz
  rw [hG.sz d d' hs, hH.sz d d' hs]
 ·rintro d d' hs h w x cs ⟨c0, c1, rfl, h0, h1⟩
  exact ⟨c0, c1, rfl, hG.K d d' hs h _ _ _ h0, hH.K d d' hs h _ _ _ h1⟩
 ·rintro d d' hs h w base ok x cs ⟨c0, c1, rfl, h0, h1⟩
  exact ⟨c0, c1, rfl, hG.M d d' hs h _ _ _ _ _ h0, hH.M d d' hs h _ _ _ _ _ h1⟩
theorem mono_iso {α β γ : Type} {G : Kd α → Kd β} (f : γ → β) (hG : Mono G) : Mono (fun d => iso (G d) f) :=
 ⟨hG.sz, fun d d' hs h w x cs => hG.K d d' hs h w (f x) cs, fun d d' hs h w base ok x cs => hG.M d d' hs h w base ok (f x) cs⟩
def Sub {α β : Type} (F : Kd α → Kd β) (E : List Nat) : Prop := ∀ d : Kd α, (∀ q, q ∈ d.E → q ∈ E) → ∀ q, q ∈ (F d).E → q ∈ E
theorem sub_const {α β : Type} {E : List Nat} (k : Kd β) (h : ∀ q, q ∈ k.E → q ∈ E) : Sub (fun _ : Kd α => k) E := fun _ _ => h
theorem sub_id {α : Type} {E : List Nat} : Sub (fun d : Kd α => d) E := fun _ h => h
theorem sub_slice {α β : Type} {E : List Nat} (e : Nat) {G : Kd α → Kd β} (he : e ∈ E) (hG : Sub G E) : Sub (fun d => slice e (G d)) E := fun d h q hq => by
 rcases List.mem_cons.1 hq with rfl | hq
 ·exact he
 ·exact hG d h q hq
theorem sub_pair {α β γ : Type} {E : List Nat} {G : Kd α → Kd β} {H : Kd α → Kd γ} (hG : Sub G E) (hH : Sub H E) : Sub (fun d => pair (G d) (H d)) E := fun d h q hq => by
 rcases List.mem_append.1 hq with hq | hq
 ·exact hG d h q hq
 ·exact hH d h q hq
theorem sub_iso {α β γ : Type} {E : List Nat} {G : Kd α → Kd β} (f : γ → β) (hG : Sub G E) : Sub (fun d => iso (G d) f) E := hG
theorem upto_E {α : Type} {F : Kd α → Kd α} {sz : Nat} {E : List Nat} (h : Sub F E) : ∀ n q, q ∈ (upto F sz E n).E → q ∈ E
 | 0, _, hq => hq
 | n + 1, q, hq => h _ (upto_E h n) q hq
theorem upto_sz {α : Type} {F : Kd α → Kd α} {sz : Nat} {E : List Nat} (h : ∀ d : Kd α, (F d).sz = sz) : ∀ n, (upto F sz E n).sz = sz
 | 0 => rfl
 | _ + 1 => h _
end Go.Proofs.YtkijamagbgigmaaGreatDoorW.PrintWords.Kd
namespace Go.Proofs.YtkijamagbgigmaaGreatDoorW.PrintWords.Kd
open Go.RowKit
variable {α : Type} {F : Kd α → Kd α} {sz : Nat} {E : List Nat} {hs : ∀ n, (upto F sz E n).sz = sz} {hE : ∀ n q, q ∈ (upto F sz E n).E → q ∈ E}
theorem upto_K (hm : Mono F) (hs : ∀ n, (upto F sz E n).sz = sz) : ∀ n {w x cs}, (upto F sz E n).K w x cs → (upto F sz E (n + 1)).K w x cs
 | 0, _, _, _, h => h.elim
 | n + 1, _, _, _, h => hm.K _ _ (by rw [hs n, hs (n + 1)]) (fun _ _ _ hk => upto_K hm hs n hk) _ _ _ h
theorem upto_M (hm : Mono F) (hs : ∀ n, (upto F sz E n).sz = sz) : ∀ n {w base ok x cs}, (upto F sz E n).M w base ok x cs → (upto F sz E (n + 1)).M w base ok x cs
 | 0, _, _, _, _, _, h => h.elim
 | n + 1, _, _, _, _, _, h => hm.M _ _ (by rw [hs n, hs (n + 1)]) (fun _ _ _ _ _ hk => upto_M hm hs n hk) _ _ _ _ _ h
theorem upto_K_le (hm : Mono F) (hs : ∀ n, (upto F sz E n).sz = sz) {n m : Nat} (hnm : n ≤ m) {w x cs} (h : (upto F sz E n).K w x cs) : (upto F sz E m).K w x cs := by
 obtain ⟨j, rfl⟩ := Nat.exists_eq_add_of_le hnm
 induction j with
 | zero => exact h
 | succ j ih => exact upto_K hm hs _ (ih (by omega))
theorem upto_M_le (hm : Mono F) (hs : ∀ n, (upto F sz E n).sz = sz) {n m : Nat} (hnm : n ≤ m) {w base ok x cs} (h : (upto F sz E n).M w base ok x cs) : (upto F sz E m).M w base ok x cs := by
 obtain ⟨j, rfl⟩ := Nat.exists_eq_add_of_le hnm
 induction j with
 | zero => exact h
 | succ j ih => exact upto_M hm hs _ (ih (by omega))
theorem fix_C {n : Nat} {w : World} {A : Option Addr} {m : Nat} {xs : List α} (h : (upto F sz E n).C w A m xs) : (fix F sz E hs hE).C w A m xs := C_imp (d' := fix F sz E hs hE) (hs n) (fun w x cs hp => (⟨n, hp⟩ : ∃ n, (upto F sz E n).K w x cs)) h
theorem bounded {P : Nat → Nat → Prop} (hP : ∀ n m j, n ≤ m → P n j → P m j) : ∀ m, (∀ j, j < m → ∃ n, P n j) → ∃ N, ∀ j, j < m → P N j
 | 0, _ => ⟨0, fun j hj => absurd hj (Nat.not_lt_zero j)⟩
 | m + 1, h => by
  obtain ⟨N, hN⟩ := bounded hP m (fun j hj => h j (by omega))
  obtain ⟨n, hn⟩ := h m (by omega)
  refine ⟨max N n, fun j hj => ?_⟩
  rcases Nat.lt_or_ge j m with hj' | hj'
  ·exact hP N _ j (Nat.le_max_left _ _) (hN j hj')
  ·have : j = m := by omega
   subst this
   exact hP n _ j (Nat.le_max_right _ _) hn
theorem reps_bounded {α : Type} {R : Nat → α → List Value → Prop} (hR : ∀ n m p c, n ≤ m → R n p c → R m p c) {size : Nat} {ps : List α} {cs : List Value} (h : Reps (fun p c => ∃ n, R n p c) size ps cs) : ∃ N, Reps (R N) size ps cs := by
 obtain ⟨N, hN⟩ := bounded (P := fun n j => ∀ p, ps[j]? = some p → R n p ((cs.drop (j * size)).take size)) (fun n m j hnm hp p hj => hR n m p _ hnm (hp p hj)) ps.length
  (fun j hj => by
   obtain ⟨n, hn⟩ := h.2 j _ (List.getElem?_eq_getElem hj)
   refine ⟨n, fun p hp => ?_⟩
   rw [List.getElem?_eq_getElem hj] at hp
   injection hp with hp
   rw [← hp]
   exact hn)
 exact ⟨N, h.1, fun j p hj => hN j (List.getElem?_eq_some_iff.1 hj).1 p hj⟩
theorem fix_R_back (hm : Mono F) {e : Nat} {w : World} {base : Nat} {ok : Nat → Prop} {v : Value} {xs : List α} (h : (fix F sz E hs hE).R e w base ok v xs) : ∃ n, (upto F sz E n).R e w base ok v xs := by
 obtain ⟨h0, inner, ho, hr⟩ := h
 obtain ⟨N, hN⟩ := reps_bounded (R := fun n p c => (upto F sz E n).M w base (fun k => ok k ∧ some k ≠ v.ownBlock) p c) (fun n m p c hnm hp => upto_M_le hm hs hnm hp) hr
 refine ⟨N, h0, inner, ?_, ?_⟩
 ·rw [hs N]; exact ho
 ·rw [hs N]; exact hN
theorem fix_C_back (hm : Mono F) {w : World} {A : Option Addr} {m : Nat} {xs : List α} (h : (fix F sz E hs hE).C w A m xs) : ∃ n, (upto F sz E n).C w A m xs := by
 rcases Nat.eq_zero_or_pos m with hz | hpos
 ·subst hz
  exact ⟨0, h.1, h.2.1, fun hp => absurd hp (Nat.lt_irrefl 0)⟩
 ·obtain ⟨ad, e, hc⟩ := h.2.2 hpos
  obtain ⟨N, hN⟩ := bounded (P := fun n j => ∀ p, xs[j]? = some p → ∃ c, c.length = sz ∧ (upto F sz E n).K w p c ∧ ∀ i u, c[i]? = some u → w.cell? (ad.add (j * sz + i)) = some u)
   (fun n n' j hnm hp p hj => by
    obtain ⟨c, h1, h2, h3⟩ := hp p hj
    exact ⟨c, h1, upto_K_le hm hs hnm h2, h3⟩) xs.length
   (fun j hj => by
    obtain ⟨c, h1, ⟨n, h2⟩, h3⟩ := hc j _ (List.getElem?_eq_getElem hj)
    refine ⟨n, fun p hp => ?_⟩
    rw [List.getElem?_eq_getElem hj] at hp
    injection hp with hp
    rw [← hp]
    exact ⟨c, h1, h2, h3⟩)
  refine ⟨N, h.1, h.2.1, fun _ => ⟨ad, e, fun j p hj => ?_⟩⟩
  rw [hs N]
  exact hN j (List.getElem?_eq_some_iff.1 hj).1 p hj
theorem upto_R_le (hm : Mono F) (hs : ∀ n, (upto F sz E n).sz = sz) {n m : Nat} (hnm : n ≤ m) {e : Nat} {w : World} {base : Nat} {ok : Nat → Prop} {v : Value} {xs : List α} (h : (upto F sz E n).R e w base ok v xs) : (upto F sz E m).R e w base ok v xs := R_imp (by rw [hs n, hs m]) (fun _ _ _ _ _ hp => upto_M_le hm hs hnm hp) h
theorem upto_C_le (hm : Mono F) (hs : ∀ n, (upto F sz E n).sz = sz) {n m : Nat} (hnm : n ≤ m) {w : World} {A : Option Addr} {l : Nat} {xs : List α} (h : (upto F sz E n).C w A l xs) : (upto F sz E m).C w A l xs := C_imp (by rw [hs n, hs m]) (fun _ _ _ hp => upto_K_le hm hs hnm hp) h
end Go.Proofs.YtkijamagbgigmaaGreatDoorW.PrintWords.Kd
namespace Go.Proofs.YtkijamagbgigmaaGreatDoorW.PrintWords.Kd
open Go.RowKit
variable {α β : Type} {d : Kd α} {d' : Kd β} {e e' : Nat} {w w1 W : World} {base b b' : Nat} {ok ok' okv oku : Nat → Prop} {v u : Value} {xs : List α} {ys : List β}
theorem C_alloc {A : Option Addr} {n : Nat} (h : d.C w A n xs) (o : Obj) : d.C (w.alloc o) A n xs := C_below h (below_alloc (Below.refl _ _) o)
theorem C_drew {A : Option Addr} {n : Nat} (h : d.C w A n xs) : d.C w.drew A n xs := C_below h (below_drew (Below.refl _ _))
theorem C_drewN {A : Option Addr} {n : Nat} (h : d.C w A n xs) (m : Nat) : d.C (w.drewN m) A n xs := C_below h (pw_below_drewN (Below.refl _ _) m)
theorem C_nil (d : Kd α) (w : World) : d.C w none ([] : List α).length [] := ⟨rfl, by simp, fun h => absurd h (Nat.lt_irrefl 0)⟩
theorem R_reads' {A : Option Addr} {n c : Nat} (h : d.R e w base ok (.slice A n c) xs) : n = xs.length ∧ n ≤ c ∧ d.C w A xs.length xs := by
 obtain ⟨A', c', he, hl, hr⟩ := R_reads h
 injection he with h1 h2 h3
 subst h1
 exact ⟨h2, by omega, hr⟩
theorem R_lt (h : d.R e w base ok v xs) : ∀ k, v.ownBlock = some k → k < w.heap.size := by
 obtain ⟨inner, ho⟩ := R_own h
 exact own_lt ho
theorem R_form (h : d.R e w base ok v xs) (hp : 0 < xs.length) : ∃ g cap, v = .slice (some ⟨g, 0, none⟩) xs.length cap ∧ base ≤ g ∧ g < w.heap.size ∧ ∃ cells, w.heap[g]? = some (.cells cells e (0, 0)) := by
 obtain ⟨inner, ho⟩ := R_own h
 obtain ⟨g, cap, he, hb, hl⟩ := ho.form hp
 obtain ⟨cells, hc⟩ := own_typed ho g (by rw [he]; simp [Value.ownBlock])
 exact ⟨g, cap, he, hb, hl, cells, hc⟩
end Go.Proofs.YtkijamagbgigmaaGreatDoorW.PrintWords.Kd
namespace Go.Proofs.YtkijamagbgigmaaGreatDoorW.PrintWords.Kd
open Go.RowKit
variable {w W : World} {A : Option Addr} {n : Nat}
theorem at_string {xs : List ByteArray} (h : Kd.string.C w A n xs) (i : Int) (h0 : 0 ≤ i) (h1 : i < n) : ∃ ad, A = some ad ∧ w.cell? (ad.add i.toNat) = some (.string (rdOf ByteArray.empty xs i)) :=
 ReadsOf.at_ (reads_of_C (enc := Value.string) (d := ByteArray.empty) (h1 := fun _ => rfl) h) i h0 h1
end Go.Proofs.YtkijamagbgigmaaGreatDoorW.PrintWords.Kd
namespace Go.Proofs.YtkijamagbgigmaaGreatDoorW.PrintWords.Kd
open Go.RowKit
variable {P : Program} {ops : Array Oper} {rest : List Oper} {o : Oper} {a : Act} {Q : Exit → Act → World → Prop}
theorem event_run {W w1 : World} {v : Value} (hgd : o.guard = none) (hrun : (execOp a.eval o).run P W = .ok (.value v) w1) (h : wpList P ops Q rest (a.put o.dst v) w1) : wpList P ops Q (o :: rest) a W := by
 refine wpList_plain hgd fun K hK => ?_
 unfold Oper.wp
 rw [hrun]
 exact hK _ _ h
end Go.Proofs.YtkijamagbgigmaaGreatDoorW.PrintWords.Kd
namespace Go.Proofs.YtkijamagbgigmaaGreatDoorW.PrintWords.Kd
open Go.RowKit
variable {P : Program} {ops : Array Oper} {rest : List Oper} {o : Oper} {a : Act} {Q : Exit → Act → World → Prop}
variable {α : Type}
theorem R_lit (d : Kd α) {w0 W : World} (base e : Nat) (hgd : o.guard = none) {N : Tmp} (_hd : o.dst = some N) {xs : List α} {inner : List Value} {ok okp : Nat → Prop}
  (hrun : (execOp a.eval o).run P W = .ok (.value (.slice (some ⟨W.heap.size, 0, none⟩) xs.length xs.length)) (W.alloc (.cells inner.toArray e)))
  (hrep : Reps (d.M W base okp) d.sz xs inner) (hok : ∀ k, okp k → ok k) (hfresh : ok W.heap.size) (HB : Below base w0 W) (hbase : base ≤ W.heap.size) (hm : xs.length ≤ 9223372036854775807)
  (h : ∀ v1 w1, d.R e w1 base ok v1 xs → Below base w0 w1 → W.grownBy w1 none → (∃ b, v1.ownBlock = some b ∧ W.heap.size ≤ b) → wpList P ops Q rest (a.put o.dst v1) w1) : wpList P ops Q (o :: rest) a W := by
 refine event_run hgd hrun (h _ _ ⟨fun k hk => ?_, inner, ?_, ?_⟩ (HB.alloc hbase _) (World.grownBy_alloc W _ none) ⟨W.heap.size, by simp [Value.ownBlock], Nat.le_refl _⟩)
 ·have : W.heap.size = k := by simpa [Value.ownBlock] using hk
  subst this
  exact hfresh
 ·have h2 := World.ownsRow_lit (base := base) (e := e) (size := d.sz) W inner.toArray xs.length hbase (by simpa [maxLen] using hm) (by simpa using hrep.1)
  simpa using h2
 ·refine hrep.imp_ (fun p c hp => d.M_mono (fun k hk => ⟨hok k hk.1, fun he => ?_⟩) (M_below (d.M_bound hp) (below_alloc (Below.refl _ _) _)))
  have h3 : k = W.heap.size := by simpa [Value.ownBlock] using he
  have := hk.2.2.1
  omega
end Go.Proofs.YtkijamagbgigmaaGreatDoorW.PrintWords.Kd
namespace Go.Proofs.YtkijamagbgigmaaGreatDoorW.PrintWords
open Go.RowKit
def QRow (w : World) (base : Nat) (e : TypeId) (size : Nat) (v : Value) (n : Nat) (xs : List Value) : Prop :=
  xs.length = n * size ∧
  ((n = 0 ∧ ∃ A, v = .slice A 0 0 ∧ ∀ a, A = some a → base ≤ a.block ∧ ∃ cur, w.heap[a.block]? = some (.cells cur e (0, 0))) ∨
   ∃ g off cap cur, v = .slice (some ⟨g, off * size, none⟩) n cap ∧ base ≤ g ∧ w.heap[g]? = some (.cells cur e (0, 0)) ∧ n ≤ cap ∧ off + cap ≤ maxLen ∧ cur.size = (off + cap) * size ∧ (cur.toList.drop (off * size)).take (n * size) = xs)
end Go.Proofs.YtkijamagbgigmaaGreatDoorW.PrintWords
namespace Go.Proofs.YtkijamagbgigmaaGreatDoorW.PrintWords.Kd
open Go.RowKit
def Q {α : Type} (d : Kd α) (e : Nat) (w : World) (base : Nat) (ok : Nat → Prop) (v : Value) (xs : List α) : Prop :=
 (∀ k, v.ownBlock = some k → ok k) ∧ ∃ inner, QRow w base e d.sz v xs.length inner ∧ Reps (d.M w base (fun k => ok k ∧ some k ≠ v.ownBlock)) d.sz xs inner
theorem reps_append {α : Type} {R : α → List Value → Prop} {size : Nat} {ps qs : List α} {cs ds : List Value} (h : Reps R size ps cs) (h' : Reps R size qs ds) : Reps R size (ps ++ qs) (cs ++ ds) := by
 refine ⟨by rw [List.length_append, List.length_append, h.1, h'.1, Nat.add_mul], fun j p hj => ?_⟩
 rcases Nat.lt_or_ge j ps.length with hlt | hge
 ·rw [List.getElem?_append_left hlt] at hj
  have hle : j * size + size ≤ cs.length := by rw [h.1, ← Nat.succ_mul]; exact Nat.mul_le_mul_right _ hlt
  rw [List.drop_append_of_le_length (by omega), List.take_append_of_le_length (by rw [List.length_drop]; omega)]
  exact h.2 j p hj
 ·rw [List.getElem?_append_right hge] at hj
  have h2 := h'.2 (j - ps.length) p hj
  have hle : ps.length * size ≤ j * size := Nat.mul_le_mul_right _ hge
  rw [List.drop_append, List.drop_eq_nil_of_le (by rw [h.1]; exact hle), List.nil_append, h.1, ← Nat.sub_mul]
  exact h2
end Go.Proofs.YtkijamagbgigmaaGreatDoorW.PrintWords.Kd
namespace Go.Proofs.YtkijamagbgigmaaGreatDoorW.PrintWords.Kd
open Go.RowKit
variable {P : Program} {ops : Array Oper} {rest : List Oper} {o : Oper} {a : Act} {Q : Exit → Act → World → Prop} {α : Type}
theorem R_append_rows (d : Kd α) {Rr : α → List Value → Prop} {w0 W : World} (base : Nat) (hgd : o.guard = none) (s x : Operand) (t e : TypeId) (z : Value) (bytes : Nat)
  (ho : o.op = .call { callee := .builtin .append, args := #[s, x], argTypes := #[t, t] })
  (ht : P.underlying t = some (.slice e)) (hinfo : (P.info? e).map (fun i => (i.zero, i.size, i.bytes)) = some (some z, d.sz, bytes)) (hz : z.cells.size = d.sz) (hs0 : 0 < d.sz) (hb0 : 0 < bytes)
  (v : Value) (xs ys : List α) (A : Option Addr) (m c : Nat) (ok okp : Nat → Prop) (hs : a.eval s = v) (hx : a.eval x = .slice A m c)
  (HO : d.R e W base ok v xs) (HR : ReadsRow Rr d.sz W A m ys) (hKM : ∀ x cs, Rr x cs → d.M W base okp x cs) (hokp : ∀ k, okp k → ok k ∧ some k ≠ v.ownBlock) (hfresh : ∀ k, W.heap.size ≤ k → ok k)
  (HB : Below base w0 W) (hbase : base ≤ W.heap.size) (hl : (xs.length + m) * bytes ≤ 140737488355328)
  (h : ∀ v1 w1, d.R e w1 base ok v1 (xs ++ ys) → Below base w0 w1 → W.grownBy w1 v.ownBlock → (v1.ownBlock = v.ownBlock ∨ ∃ b, v1.ownBlock = some b ∧ W.heap.size ≤ b) → wpList P ops Q rest (a.put o.dst v1) w1) :
  wpList P ops Q (o :: rest) a W := by
 obtain ⟨i0, hi, hzz⟩ := Option.map_eq_some_iff.1 hinfo
 simp only [Prod.mk.injEq] at hzz
 obtain ⟨hz0, hz1, hz2⟩ := hzz
 have hm : ys.length = m := HR.1
 have hlen : xs.length + m ≤ 140737488355328 := Nat.le_trans (Nat.le_mul_of_pos_right _ hb0) hl
 obtain ⟨hok, inner, hown, hr⟩ := HO
 have hrun : ∃ v1 w1, (Builtin.append_ #[t, t] o.type #[v, .slice A m c]).run P W = .ok v1 w1 ∧ d.R e w1 base ok v1 (xs ++ ys) ∧ W.grownBy w1 v.ownBlock ∧ (v1.ownBlock = v.ownBlock ∨ ∃ b, v1.ownBlock = some b ∧ W.heap.size ≤ b) := by
  rcases A with _ | ad
  ·have h0 : m = 0 := by
    rcases Nat.eq_zero_or_pos m with h0 | h0
    ·exact h0
    ·obtain ⟨ad, h, _⟩ := HR.2.2 h0
     cases h
   subst h0
   obtain rfl : ys = [] := List.eq_nil_of_length_eq_zero hm
   refine ⟨v, W, ?_, by rw [List.append_nil]; exact ⟨hok, inner, hown, hr⟩, World.grownBy.refl W _, .inl rfl⟩
   rcases hown.2 with ⟨rfl, hn⟩ | ⟨g, cap, cur, rfl, _, _, hnc, _⟩
   ·simp [Builtin.append_, run_underlying ht, sizeOf, typeInfo, hi, Builtin.lenOf, Builtin.firstCells]
   ·simp [Builtin.append_, run_underlying ht, sizeOf, typeInfo, hi, Builtin.lenOf, Builtin.firstCells, hnc, storeCells]
  ·obtain ⟨news, hnr, hnc⟩ := ReadsRow.inner_ HR
   have hnM : Reps (d.M W base okp) d.sz ys news := hnr.imp_ (fun p c hp => hKM p c hp)
   have hone : ∀ u ∈ news, u.oneCell' = true := by
    intro u hu
    obtain ⟨q, hq, rfl⟩ := List.mem_iff_getElem.1 hu
    have hql : q / d.sz < ys.length := by
     rw [Nat.div_lt_iff_lt_mul hs0]
     rw [← hnM.1]
     exact hq
    have hc := hnM.2 (q / d.sz) _ (List.getElem?_eq_getElem hql)
    refine d.K_one (d.K_of_M hc) _ ?_
    rw [List.mem_iff_getElem?]
    refine ⟨q % d.sz, ?_⟩
    rw [List.getElem?_take, if_pos (Nat.mod_lt _ hs0), List.getElem?_drop, Nat.mul_comm, Nat.div_add_mod, List.getElem?_eq_getElem hq]
   obtain ⟨v1, w1, hrun, h2, hg, _, hat⟩ := run_append_own_at (P := P) W base t o.type e i0 z d.sz bytes ht hi hz0 hz1 hz2 hz hs0 v xs.length inner hown ad m c news (by rw [hnM.1, hm]) hnc hone (by simp only [maxLen]; omega) hl hbase
   have hat' : v1.ownBlock = v.ownBlock ∨ ∃ b, v1.ownBlock = some b ∧ W.heap.size ≤ b := by
    rcases hat with hat | hat
    ·exact .inl hat
    ·exact .inr ⟨_, hat, Nat.le_refl _⟩
   have hne : ∀ k, some k ≠ v.ownBlock → k < W.heap.size → some k ≠ v1.ownBlock := by
    intro k hk hlt
    rcases hat' with hat | ⟨b, hb, hle⟩
    ·rw [hat]; exact hk
    ·rw [hb]
     intro he
     injection he with he
     omega
   have step : ∀ {q : α} {c : List Value} {o : Nat → Prop}, d.M W base o q c → (∀ k, o k → ok k ∧ some k ≠ v.ownBlock) → d.M w1 base (fun k => ok k ∧ some k ≠ v1.ownBlock) q c := by
    intro q c o hq ho
    have h1 := d.M_move (w1 := w1) (fun k hk => hg.block k hk.2.2.1 (ho k hk.1).2) (d.M_bound hq)
    exact d.M_mono (fun k hk => ⟨(ho k hk.1).1, hne k (ho k hk.1).2 hk.2.2.1⟩) h1
   refine ⟨v1, w1, hrun, ⟨fun k hk => ?_, inner ++ news, by rw [List.length_append, hm]; exact h2, reps_append (hr.imp_ (fun _ _ hq => step hq (fun _ hk => hk))) (hnM.imp_ (fun _ _ hq => step hq hokp))⟩, hg, hat'⟩
   rcases hat' with hat | ⟨b, hb, hle⟩
   ·exact hok k (hat ▸ hk)
   ·rw [hb] at hk
    injection hk with hk
    exact hfresh k (by omega)
 obtain ⟨v1, w1, hr1, h1, hg, hat⟩ := hrun
 refine wpList_plain hgd fun K hK => ?_
 unfold Oper.wp execOp
 simp only [ho, resolve, invoke, builtin, Sem.run_bind, Sem.run_pure, Result.andThen_ok, List.map_toArray, List.map_cons, List.map_nil, hs, hx, hr1]
 exact hK _ _ (h v1 w1 h1 (HB.grown hg hbase (own_base hown)) hg hat)
end Go.Proofs.YtkijamagbgigmaaGreatDoorW.PrintWords.Kd
namespace Go.Proofs.YtkijamagbgigmaaGreatDoorW.PrintWords
open Go.RowKit
theorem below_step {w W w2 : World} (h : Below w.heap.size w W) (k : Below W.heap.size W w2) : Below w.heap.size w w2 := below_then h h.size k
theorem ReadsInt.nil (W : World) (k : IntKind) : ReadsInt W k none ([] : List Int).length [] := ⟨rfl, by simp, fun h => absurd h (Nat.lt_irrefl 0)⟩
theorem ReadsInt.drewN {W : World} {k : IntKind} {A : Option Addr} {n : Nat} {xs : List Int} (h : ReadsInt W k A n xs) (m : Nat) : ReadsInt (W.drewN m) k A n xs := h
theorem below_set {w W : World} {g j : Nat} {v : Value} (h : Below w.heap.size w W) (hg : w.heap.size ≤ g) : Below w.heap.size w (W.setCell ⟨g, j, none⟩ v) := h.setCell hg _
theorem keep_cell {w W : World} {g : Nat} (h : KeepBut w W g none) {a : Addr} {v : Value} (hc : w.cell? a = some v) (hne : a.block ≠ g) : W.cell? a = some v := by
 have := h.2 a.block (World.block_lt_of_cell? w a hc) hne (by simp)
 simpa [World.cell?, this] using hc
theorem add_block (a : Addr) (i : Nat) : (a.add i).block = a.block := by unfold Addr.add; split <;> rfl
theorem ReadsOf.nil {α : Type} (enc : α → Value) (d : α) (W : World) : ReadsOf enc d W none ([] : List α).length [] := ⟨rfl, by simp, fun h => absurd h (Nat.lt_irrefl 0)⟩
theorem ReadsOf.drewN {α : Type} {enc : α → Value} {d : α} {W : World} {A : Option Addr} {n : Nat} {xs : List α} (h : ReadsOf enc d W A n xs) (m : Nat) : ReadsOf enc d (W.drewN m) A n xs := h
theorem ReadsInt.keep {w W : World} {k : IntKind} {A : Option Addr} {n g : Nat} {xs : List Int} (h : ReadsInt w k A n xs) (hk : KeepBut w W g none) (hf : ∀ ad, A = some ad → 0 < n → ad.block ≠ g) : ReadsInt W k A n xs :=
 ⟨h.1, h.2.1, fun hn => by
  obtain ⟨ad, e, hc⟩ := h.2.2 hn
  exact ⟨ad, e, fun j hj => keep_cell hk (hc j hj) (by rw [add_block]; exact hf ad e hn)⟩⟩
theorem ReadsOf.keep {α : Type} {enc : α → Value} {d : α} {w W : World} {A : Option Addr} {n g : Nat} {xs : List α} (h : ReadsOf enc d w A n xs) (hk : KeepBut w W g none) (hf : ∀ ad, A = some ad → 0 < n → ad.block ≠ g) : ReadsOf enc d W A n xs :=
 ⟨h.1, h.2.1, fun hn => by
  obtain ⟨ad, e, hc⟩ := h.2.2 hn
  exact ⟨ad, e, fun j hj => keep_cell hk (hc j hj) (by rw [add_block]; exact hf ad e hn)⟩⟩
theorem blk_put {w : World} {g : Nat} {t : TypeId} {cs cs' : Array Value} (h : w.heap[g]? = some (.cells cs t (0, 0))) (i : Nat) (u : Value) (e : cs.setIfInBounds i u = cs') : (w.setCell ⟨g, i, none⟩ u).heap[g]? = some (.cells cs' t (0, 0)) := e ▸ blk_set h i u
theorem own_cap {W : World} {base n c : Nat} {e : TypeId} {size : Nat} {A : Option Addr} {xs : List Value} (h : W.ownsRow base e size (.slice A n c) n xs) : n ≤ c := by
 rcases h.2 with ⟨h1, h2⟩ | ⟨g, cap, cur, h1, _, _, h2, _⟩
 ·injection h1 with _ h3 h4
  omega
 ·injection h1 with _ _ h4
  omega
end Go.Proofs.YtkijamagbgigmaaGreatDoorW.PrintWords
namespace Go.Proofs.YtkijamagbgigmaaGreatDoorW.PrintWords
open Go.RowKit
variable {P : Program} {ops : Array Oper} {rest : List Oper} {o : Oper} {a : Act} {Q : Exit → Act → World → Prop} {W : World}
theorem gate_dst {N : Tmp} (_hN : o.dst = some N) (h : wpList P ops Q (o :: rest) a W) : wpList P ops Q (o :: rest) a W := h
end Go.Proofs.YtkijamagbgigmaaGreatDoorW.PrintWords
namespace Go.Proofs.YtkijamagbgigmaaGreatDoorW.PrintLast
variable {P : Program} {ops : Array Oper} {Q : Exit → Act → World → Prop} {md : Region.Mode} {S : World → Prop} {ds : List Nat}
def Region.reachB (md : Region.Mode) (ops : Array Oper) (i : Nat) : Nat → Nat → Bool
 | 0, _ => false
 | fuel + 1, d => match ops[d]? with
  | some o => o.after.any fun e => Region.binds md e && (e.on == i || Region.reachB md ops i fuel e.on)
  | none => false
def Region.closedB (md : Region.Mode) (ops : Array Oper) (listed : Array Bool) : Bool :=
 (List.range ops.size).all fun j => !listed.getD j false || match ops[j]? with
  | some o => o.after.all fun e => !Region.binds md e || listed.getD e.on false
  | none => true
def Region.lastB (md : Region.Mode) (ops : Array Oper) (listed : Array Bool) (ds : List Nat) (i : Nat) : Bool :=
 ds.all fun d => listed.getD d true || Region.reachB md ops i ops.size d
def ListedClosed (md : Region.Mode) (ops : Array Oper) (listed : Array Bool) : Prop :=
 ∀ j oj, ops[j]? = some oj → listed.getD j false = true → ∀ e ∈ oj.after, Region.binds md e = true → listed.getD e.on false = true
theorem Region.closedB_spec {listed : Array Bool} (h : Region.closedB md ops listed = true) : ListedClosed md ops listed := by
 intro j oj hj hl e he hb
 have hlt : j < ops.size := (Array.getElem?_eq_some_iff.1 hj).1
 have h1 := List.all_eq_true.1 h j (List.mem_range.2 hlt)
 simp only [hl, hj, Bool.not_true, Bool.false_or] at h1
 have h2 := Array.all_eq_true_iff_forall_mem.1 h1 e he
 simpa [hb] using h2
theorem ListedClosed.set {listed : Array Bool} {i : Nat} (h : ListedClosed md ops listed) (hi : i ∈ Region.ready md ops listed) : ListedClosed md ops (listed.setIfInBounds i true) := by
 obtain ⟨_, oi, hoi, hall⟩ := mem_ready.1 hi
 intro j oj hj hl e he hb
 by_cases hij : i = j
 ·subst hij
  have : oj = oi := Option.some.inj (hj.symm.trans hoi)
  subst this
  exact getD_set_true (hall e he hb)
 ·rw [getD_set_ne false hij] at hl
  exact getD_set_true (h j oj hj hl e he hb)
theorem Region.reach_listed {listed : Array Bool} {i : Nat} (hc : ListedClosed md ops listed) : ∀ (fuel d : Nat), Region.reachB md ops i fuel d = true → listed.getD d false = true → listed.getD i false = true
 | 0, _, h, _ => by simp [Region.reachB] at h
 | fuel + 1, d, h, hl => by
  unfold Region.reachB at h
  cases ho : ops[d]? with
  | none => rw [ho] at h; simp at h
  | some o =>
   rw [ho] at h
   obtain ⟨e, he, h1⟩ := Array.any_eq_true'.1 h
   simp only [Bool.and_eq_true, Bool.or_eq_true, beq_iff_eq] at h1
   have hle := hc d o ho hl e he h1.1
   rcases h1.2 with h2 | h2
   ·rw [← h2]; exact hle
   ·exact Region.reach_listed hc fuel e.on h2 hle
theorem Region.reach_not_ready {listed : Array Bool} {i d fuel : Nat} (hc : ListedClosed md ops listed) (hr : Region.reachB md ops i fuel d = true) (hun : listed.getD i true = false) : d ∉ Region.ready md ops listed := by
 intro hd
 obtain ⟨_, o, ho, hall⟩ := mem_ready.1 hd
 have hi : listed.getD i false = true := by
  cases fuel with
  | zero => simp [Region.reachB] at hr
  | succ n =>
   unfold Region.reachB at hr
   rw [ho] at hr
   obtain ⟨e, he, h1⟩ := Array.any_eq_true'.1 hr
   simp only [Bool.and_eq_true, Bool.or_eq_true, beq_iff_eq] at h1
   have hle := hall e he h1.1
   rcases h1.2 with h2 | h2
   ·rw [← h2]; exact hle
   ·exact Region.reach_listed hc n e.on h2 hle
 rcases Nat.lt_or_ge i listed.size with h' | h'
 ·simp [h'] at hun hi
  rw [hun] at hi
  cases hi
 ·simp [Array.getElem?_eq_none h'] at hun
def wpAnyLast (P : Program) (md : Region.Mode) (ops : Array Oper) (Q : Exit → Act → World → Prop) (S : World → Prop) (ds : List Nat) : Nat → Array Bool → Act → World → Prop
 | 0, listed, a, w => Region.ready md ops listed = [] ∧ Q .normal a w
 | fuel + 1, listed, a, w =>
  (Region.ready md ops listed = [] → Q .normal a w) ∧
  ∀ i ∈ Region.ready md ops listed, wpOp P ops Q i (fun a' w' => (i ∉ ds → S w → S w') ∧ wpAnyLast P md ops Q S ds fuel (listed.setIfInBounds i true) a' w') a w
theorem wpAny_of_last : ∀ (fuel : Nat) (listed : Array Bool) (a : Act) (w : World), wpAnyLast P md ops Q S ds fuel listed a w → wpAny P md ops Q fuel listed a w
 | 0, _, _, _, h => h
 | fuel + 1, _, _, _, h => ⟨h.1, fun i hi => wpOp_mono (fun a' w' h' => wpAny_of_last fuel _ a' w' h'.2) (h.2 i hi)⟩
theorem wpAnyLast_first {i : Nat} {oi : Oper} {v : Value} (hi : ops[i]? = some oi) (hsel : ∀ (j : Nat) (o : Oper) cs b, ops[j]? = some o → o.op ≠ .select cs b)
  (hQ : ∀ c a w, Q (.panic c) (a.put oi.dst v) w → Q (.panic c) a w) (n : Nat) :
  ∀ (fuel : Nat) (listed : Array Bool) (a : Act) (w : World),
   (∀ j oj, ops[j]? = some oj → j ≠ i → listed.getD j true = false → (∀ e ∈ oj.after, Region.binds md e = true → e.on ≠ i) → oi.apart ops oj = true) →
   ListedClosed md ops listed → (∀ d ∈ ds, listed.getD d true = false → Region.reachB md ops i n d = true) →
   i ∈ Region.ready md ops listed → YieldsIf P ops S oi v a → S w →
   wpAnyLast P md ops Q S ds fuel (listed.setIfInBounds i true) (a.put oi.dst v) w → wpAnyLast P md ops Q S ds (fuel + 1) listed a w := by
 intro fuel
 induction fuel with
 | zero =>
  intro listed a w _ _ _ hr hy hS H
  refine ⟨fun h => (by rw [h] at hr; cases hr), fun j hj => ?_⟩
  by_cases hji : j = i
  ·subst hji; exact hy.wpOp hi hS ⟨fun _ h => h, H⟩
  ·have := ready_mono hj hji
   rw [H.1] at this
   cases this
 | succ fuel ih =>
  intro listed a w hfree hc hd hr hy hS H
  refine ⟨fun h => (by rw [h] at hr; cases hr), fun j hj => ?_⟩
  by_cases hji : j = i
  ·subst hji; exact hy.wpOp hi hS ⟨fun _ h => h, H⟩
  ·have h1 := H.2 j (ready_mono hj hji)
   obtain ⟨hjun, oj, hoj, hall⟩ := mem_ready.1 hj
   have hiun := (mem_ready.1 hr).1
   have hnot : ∀ e ∈ oj.after, Region.binds md e = true → e.on ≠ i := fun e he hb heq => by
    have h1 := hall e he hb
    rw [heq] at h1
    rcases Nat.lt_or_ge i listed.size with h' | h'
    ·simp [h'] at hiun h1; rw [hiun] at h1; cases h1
    ·simp [Array.getElem?_eq_none h'] at h1
   have hjd : j ∉ ds := fun hm => Region.reach_not_ready hc (hd j hm hjun) hiun hj
   have h2 := wpOp_putIf hoj (hfree j oj hoj hji hjun hnot) (fun cs b => hsel i oi cs b hi) (fun cs b => hsel j oj cs b hoj) hQ hy h1
   have hfree' : ∀ k ok, ops[k]? = some ok → k ≠ i → (listed.setIfInBounds j true).getD k true = false →
     (∀ e ∈ ok.after, Region.binds md e = true → e.on ≠ i) → oi.apart ops ok = true := fun k ok hk hki hun hno => by
    refine hfree k ok hk hki ?_ hno
    by_cases hjk : j = k
    ·subst hjk; exact hjun
    ·rw [getD_set_ne true hjk] at hun; exact hun
   have hd' : ∀ d ∈ ds, (listed.setIfInBounds j true).getD d true = false → Region.reachB md ops i n d = true := fun d hm hun => by
    refine hd d hm ?_
    by_cases hjk : j = d
    ·subst hjk; exact hjun
    ·rw [getD_set_ne true hjk] at hun; exact hun
   refine wpOp_mono (fun a' w' h3 => ⟨h3.2.1, ih (listed.setIfInBounds j true) a' w' hfree' (hc.set hj) hd' (ready_mono hr (Ne.symm hji)) h3.1 (h3.2.1 hjd hS) ?_⟩) h2
   rw [Array.setIfInBounds_comm _ _ hji]
   exact h3.2.2
theorem wpAnyLast_any {i : Nat} {oi : Oper} {v : Value} (hi : ops[i]? = some oi) (hsel : ∀ (j : Nat) (o : Oper) cs b, ops[j]? = some o → o.op ≠ .select cs b)
  (hQ : ∀ c a w, Q (.panic c) (a.put oi.dst v) w → Q (.panic c) a w) :
  ∀ (fuel : Nat) (listed : Array Bool) (a : Act) (w : World),
   (∀ j oj, ops[j]? = some oj → j ≠ i → listed.getD j true = false → (∀ e ∈ oj.after, Region.binds md e = true → e.on ≠ i) → oi.apart ops oj = true) →
   i ∈ Region.ready md ops listed → Yields P ops oi v a →
   wpAnyLast P md ops Q S ds fuel (listed.setIfInBounds i true) (a.put oi.dst v) w → wpAnyLast P md ops Q S ds (fuel + 1) listed a w := by
 intro fuel
 induction fuel with
 | zero =>
  intro listed a w _ hr hy H
  refine ⟨fun h => (by rw [h] at hr; cases hr), fun j hj => ?_⟩
  by_cases hji : j = i
  ·subst hji; exact (hy.yieldsIf (S := fun _ => True)).wpOp hi trivial ⟨fun _ h => h, H⟩
  ·have := ready_mono hj hji
   rw [H.1] at this
   cases this
 | succ fuel ih =>
  intro listed a w hfree hr hy H
  refine ⟨fun h => (by rw [h] at hr; cases hr), fun j hj => ?_⟩
  by_cases hji : j = i
  ·subst hji; exact (hy.yieldsIf (S := fun _ => True)).wpOp hi trivial ⟨fun _ h => h, H⟩
  ·have h1 := H.2 j (ready_mono hj hji)
   obtain ⟨hjun, oj, hoj, hall⟩ := mem_ready.1 hj
   have hiun := (mem_ready.1 hr).1
   have hnot : ∀ e ∈ oj.after, Region.binds md e = true → e.on ≠ i := fun e he hb heq => by
    have h1 := hall e he hb
    rw [heq] at h1
    rcases Nat.lt_or_ge i listed.size with h' | h'
    ·simp [h'] at hiun h1; rw [hiun] at h1; cases h1
    ·simp [Array.getElem?_eq_none h'] at h1
   have h2 := wpOp_put hoj (hfree j oj hoj hji hjun hnot) (fun cs b => hsel i oi cs b hi) (fun cs b => hsel j oj cs b hoj) hQ hy h1
   have hfree' : ∀ k ok, ops[k]? = some ok → k ≠ i → (listed.setIfInBounds j true).getD k true = false →
     (∀ e ∈ ok.after, Region.binds md e = true → e.on ≠ i) → oi.apart ops ok = true := fun k ok hk hki hun hno => by
    refine hfree k ok hk hki ?_ hno
    by_cases hjk : j = k
    ·subst hjk; exact hjun
    ·rw [getD_set_ne true hjk] at hun; exact hun
   refine wpOp_mono (fun a' w' h3 => ⟨h3.2.1, ih (listed.setIfInBounds j true) a' w' hfree' (ready_mono hr (Ne.symm hji)) h3.1 ?_⟩) h2
   rw [Array.setIfInBounds_comm _ _ hji]
   exact h3.2.2
theorem wpAnyLast_take {i : Nat} {oi : Oper} {v : Value} {fuel : Nat} {listed : Array Bool} {a : Act} {w : World} (hi : ops[i]? = some oi)
  (hs : Region.noSelect ops = true) (hf : Region.free md ops listed i = true) (hr : (Region.ready md ops listed).contains i = true)
  (hc : Region.closedB md ops listed = true) (hl : Region.lastB md ops listed ds i = true)
  (hQ : ∀ c a w, Q (.panic c) (a.put oi.dst v) w → Q (.panic c) a w) (hy : YieldsIf P ops S oi v a) (hS : S w)
  (h : wpAnyLast P md ops Q S ds fuel (listed.setIfInBounds i true) (a.put oi.dst v) w) : wpAnyLast P md ops Q S ds (fuel + 1) listed a w :=
 wpAnyLast_first hi (Region.noSelect_spec hs) hQ ops.size fuel listed a w (Region.free_spec hi hf) (Region.closedB_spec hc)
  (fun d hm hun => by have := List.all_eq_true.1 hl d hm; rw [hun] at this; simpa using this) (by simpa using hr) hy hS h
theorem wpAnyLast_all {rs : List Nat} {fuel : Nat} {listed : Array Bool} {a : Act} {w : World} (hr : Region.ready md ops listed = rs) (hne : rs ≠ [])
  (h : ∀ i ∈ rs, wpOp P ops Q i (fun a' w' => (i ∉ ds → S w → S w') ∧ wpAnyLast P md ops Q S ds fuel (listed.setIfInBounds i true) a' w') a w) : wpAnyLast P md ops Q S ds (fuel + 1) listed a w :=
 ⟨fun h0 => absurd (hr ▸ h0) hne, hr ▸ h⟩
theorem wpAnyLast_done {listed : Array Bool} {a : Act} {w : World} (hr : Region.ready md ops listed = []) (h : Q .normal a w) :
  ∀ fuel, wpAnyLast P md ops Q S ds fuel listed a w
 | 0 => ⟨hr, h⟩
 | _ + 1 => ⟨fun _ => h, by rw [hr]; simp⟩
theorem wp_region_last {id : Nat} {a : Act} {w : World} (hm : P.follows .mixedOrders = true)
  (h : wpAnyLast P .any ops Q S ds ops.size (Array.replicate ops.size false) a { w with drawn := w.drawn + 1 }) : (Code.region id ops true).wp P Q a w :=
 wp_region_any hm (wpAny_of_last _ _ _ _ h)
def AllReadyL (P : Program) (md : Region.Mode) (ops : Array Oper) (Q : Exit → Act → World → Prop) (S : World → Prop) (ds : List Nat) (fuel : Nat) (listed : Array Bool) (a : Act) (w : World) (rs : List Nat) : Prop :=
 ∀ i ∈ rs, wpOp P ops Q i (fun a' w' => (i ∉ ds → S w → S w') ∧ wpAnyLast P md ops Q S ds fuel (listed.setIfInBounds i true) a' w') a w
theorem AllReadyL.nil {fuel : Nat} {listed : Array Bool} {a : Act} {w : World} : AllReadyL P md ops Q S ds fuel listed a w [] := fun _ h => by cases h
theorem AllReadyL.cons {fuel : Nat} {listed : Array Bool} {a : Act} {w : World} {i : Nat} {o : Oper} {rs : List Nat} (ho : ops[i]? = some o) (hd : i ∉ ds)
  (h : ∀ K' : Act → World → Prop, Shut (∀ a w, S w → (S w → wpAnyLast P md ops Q S ds fuel (listed.setIfInBounds i true) a w) → K' a w) → if Region.wanted o (yielded ops a.tmps) = true then Oper.wp P o a w K' Q else K' (a.put o.dst undef) w)
  (hs : AllReadyL P md ops Q S ds fuel listed a w rs) : AllReadyL P md ops Q S ds fuel listed a w (i :: rs) := fun j hj => by
 rcases List.mem_cons.1 hj with rfl | hj
 ·exact wpOp_step ho (fun K' hK => h K' (fun a w hS hW => hK a w ⟨fun _ _ => hS, hW hS⟩))
 ·exact hs j hj
theorem AllReadyL.cons_last {fuel : Nat} {listed : Array Bool} {a : Act} {w : World} {i : Nat} {o : Oper} {rs : List Nat} (ho : ops[i]? = some o) (hd : i ∈ ds)
  (h : ∀ K' : Act → World → Prop, Shut (∀ a w, wpAnyLast P md ops Q S ds fuel (listed.setIfInBounds i true) a w → K' a w) → if Region.wanted o (yielded ops a.tmps) = true then Oper.wp P o a w K' Q else K' (a.put o.dst undef) w)
  (hs : AllReadyL P md ops Q S ds fuel listed a w rs) : AllReadyL P md ops Q S ds fuel listed a w (i :: rs) := fun j hj => by
 rcases List.mem_cons.1 hj with rfl | hj
 ·exact wpOp_step ho (fun K' hK => h K' (fun a w hW => hK a w ⟨fun hn => absurd hd hn, hW⟩))
 ·exact hs j hj
theorem wpAnyLast_ready {rs : List Nat} {fuel : Nat} {listed : Array Bool} {a : Act} {w : World} (hr : Region.ready md ops listed = rs) (hne : rs ≠ [])
  (h : AllReadyL P md ops Q S ds fuel listed a w rs) : wpAnyLast P md ops Q S ds (fuel + 1) listed a w := wpAnyLast_all hr hne h
theorem wp_region_last_drew {id : Nat} {a : Act} {w : World} (hm : P.follows .mixedOrders = true) (hS : S w.drew)
  (h : S w.drew → wpAnyLast P .any ops Q S ds ops.size (Array.replicate ops.size false) a w.drew) : (Code.region id ops true).wp P Q a w :=
 wp_region_last hm (h hS)
theorem start_ {id n : Nat} {a : Act} {w : World} (l : Array Bool) (hm : P.follows .mixedOrders = true) (hn : ops.size = n) (hl : Array.replicate n false = l) (hS : S w.drew)
  (h : S w.drew → wpAnyLast P .any ops Q S ds n l a w.drew) : (Code.region id ops true).wp P Q a w := by
 subst hn
 subst hl
 exact wp_region_last hm (h hS)
def takeB (md : Region.Mode) (ops : Array Oper) (ds : List Nat) (l l' : Array Bool) (i : Nat) : Bool :=
 Region.noSelect ops && Region.free md ops l i && (Region.ready md ops l).contains i && Region.closedB md ops l && Region.lastB md ops l ds i && (l.setIfInBounds i true == l')
theorem take_ {i : Nat} {N : Option Tmp} {oi : Oper} {v : Value} {fuel : Nat} {l : Array Bool} {a : Act} {w : World} (l' : Array Bool) (hi : ops[i]? = some oi) (hN : oi.dst = N) (hc : takeB md ops ds l l' i = true)
  (hQ : ∀ c a w, Q (.panic c) (a.put oi.dst v) w → Q (.panic c) a w) (hy : YieldsIf P ops S oi v a) (hS : S w) {a' : Act} (ha : a.put N v = a')
  (h : wpAnyLast P md ops Q S ds fuel l' a' w) : wpAnyLast P md ops Q S ds (fuel + 1) l a w := by
 subst ha
 subst hN
 simp only [takeB, Bool.and_eq_true, beq_iff_eq] at hc
 obtain ⟨⟨⟨⟨⟨h1, h2⟩, h3⟩, h4⟩, h5⟩, h6⟩ := hc
 subst h6
 exact wpAnyLast_take hi h1 h2 h3 h4 h5 hQ hy hS h
def anyB (md : Region.Mode) (ops : Array Oper) (l l' : Array Bool) (i : Nat) : Bool :=
 Region.noSelect ops && Region.free md ops l i && (Region.ready md ops l).contains i && (l.setIfInBounds i true == l')
theorem pure_ {i : Nat} {N : Option Tmp} {oi : Oper} {v : Value} {fuel : Nat} {l : Array Bool} {a : Act} {w : World} (l' : Array Bool) (hi : ops[i]? = some oi) (hN : oi.dst = N) (hc : anyB md ops l l' i = true)
  (hQ : ∀ c a w, Q (.panic c) (a.put oi.dst v) w → Q (.panic c) a w) (hy : Yields P ops oi v a) {a' : Act} (ha : a.put N v = a')
  (h : wpAnyLast P md ops Q S ds fuel l' a' w) : wpAnyLast P md ops Q S ds (fuel + 1) l a w := by
 subst ha
 subst hN
 simp only [anyB, Bool.and_eq_true, beq_iff_eq] at hc
 obtain ⟨⟨⟨h1, h2⟩, h3⟩, h6⟩ := hc
 subst h6
 exact wpAnyLast_any hi (Region.noSelect_spec h1) hQ fuel l a w (Region.free_spec hi h2) (by simpa using h3) hy h
def readyB (md : Region.Mode) (ops : Array Oper) (l l' : Array Bool) (i : Nat) : Bool := (Region.ready md ops l == [i]) && (l.setIfInBounds i true == l')
theorem one_ {i : Nat} {N : Option Tmp} {oi : Oper} {fuel : Nat} {l : Array Bool} {a : Act} {w : World} (l' : Array Bool) (hi : ops[i]? = some oi) (hN : oi.dst = N) (hc : readyB md ops l l' i = true) (hd : i ∉ ds)
  (h : ∀ K : Act → World → Prop, Shut (∀ a' w', S w' → (S w' → wpAnyLast P md ops Q S ds fuel l' a' w') → K a' w') → if Region.wanted oi (yielded ops a.tmps) = true then Oper.wp P oi a w K Q else K (a.put N undef) w) :
  wpAnyLast P md ops Q S ds (fuel + 1) l a w := by
 subst hN
 simp only [readyB, Bool.and_eq_true, beq_iff_eq] at hc
 obtain ⟨h1, h2⟩ := hc
 subst h2
 exact wpAnyLast_ready h1 (by simp) (AllReadyL.cons hi hd (fun K hK => h K hK) AllReadyL.nil)
theorem enters_ {f : FuncId} {fn : Func} (hf : P.funcs[f]? = some fn) (hname : (fn.name == "runtime.NumGoroutine") = false) (hb : fn.body.isSome = true) (args : Array Value) (w : World) : (callFunc f args).run P w = .ok (.enter f args) w := by
 have h1 : fn.name ≠ "runtime.NumGoroutine" := by simpa using hname
 obtain ⟨c, hc⟩ := Option.isSome_iff_exists.1 hb
 simp [callFunc, hf, h1, hc]
theorem goesL_ {rest : List Oper} {oi : Oper} {a : Act} {w : World} (N : Option Tmp) (hd : oi.dst = N) (hg : oi.guard = none) {f : FuncId} {fn : Func} {as_ : Array Operand} {ts : Array TypeId} (hf : P.funcs[f]? = some fn) (hname : (fn.name == "runtime.NumGoroutine") = false) (hb : fn.body.isSome = true) (args : Array Value)
  (hop : oi.op = .call { callee := .value (.func f), args := as_, argTypes := ts }) (hargs : as_.map a.eval = args)
  (h : Calls P f args w fun e w' => ∃ v, e = .returned v ∧ wpList P ops Q rest (a.put N v) w') : wpList P ops Q (oi :: rest) a w := by
 refine wpList_plain hg fun K hK => ?_
 have he := enters_ hf hname hb args w
 have hrun : (execOp a.eval oi).run P w = .ok (.enter f args) w := by
  unfold execOp
  simp [hop, resolve, Deferred.ofValue, invoke, Act.eval, hargs, he]
 unfold Oper.wp
 rw [hrun, Oper.upon_enter]
 refine h.mono fun e w'' hh => ?_
 obtain ⟨v, rfl, hk⟩ := hh
 subst hd
 exact hK _ _ hk
end Go.Proofs.YtkijamagbgigmaaGreatDoorW.PrintLast
namespace Go.Proofs.YtkijamagbgigmaaGreatDoor.Par
open Go.RowKit Go.Proofs.YtkijamagbgigmaaGreatDoorW.PrintWords Go.Proofs.YtkijamagbgigmaaGreatDoorW.PrintLast
theorem cons_if {P : Program} {ops : Array Oper} {Q : Exit → Act → World → Prop} {md : Region.Mode} {S : World → Prop} {ds : List Nat} {fuel : Nat} {listed : Array Bool} {a : Act} {w : World} {i : Nat} {o : Oper} {rs : List Nat} (ho : ops[i]? = some o)
  (h : ∀ K' : Act → World → Prop, Shut (∀ a' w', (S w → S w') → wpAnyLast P md ops Q S ds fuel (listed.setIfInBounds i true) a' w' → K' a' w') → if Region.wanted o (yielded ops a.tmps) = true then Oper.wp P o a w K' Q else K' (a.put o.dst undef) w)
  (hs : AllReadyL P md ops Q S ds fuel listed a w rs) : AllReadyL P md ops Q S ds fuel listed a w (i :: rs) := fun j hj => by
 rcases List.mem_cons.1 hj with rfl | hj
 ·exact wpOp_step ho (fun K' hK => h K' (fun a w' hS hW => hK a w' ⟨fun _ => hS, hW⟩))
 ·exact hs j hj
theorem own_put3 {W : World} {B e n cap g : Nat} {xs : List Value} {a b c x y z : Value} (h : W.ownsRow B e 3 (.slice (some ⟨g, 0, none⟩) (n + 1) cap) (n + 1) (xs ++ [a, b, c])) (hl : xs.length = n * 3) :
  (((W.setCell ⟨g, n * 3, none⟩ x).setCell ⟨g, n * 3 + 1, none⟩ y).setCell ⟨g, n * 3 + 2, none⟩ z).ownsRow B e 3 (.slice (some ⟨g, 0, none⟩) (n + 1) cap) (n + 1) (xs ++ [x, y, z]) := by
 have h3 := own_set (own_set (own_set h (n * 3) x) (n * 3 + 1) y) (n * 3 + 2) z
 have e0 : (xs ++ [a, b, c]).set (n * 3) x = xs ++ [x, b, c] := by
  rw [List.set_append, if_neg (by omega), show n * 3 - xs.length = 0 by omega]
  rfl
 have e1 : (xs ++ [x, b, c]).set (n * 3 + 1) y = xs ++ [x, y, c] := by
  rw [List.set_append, if_neg (by omega), show n * 3 + 1 - xs.length = 1 by omega]
  rfl
 have e2 : (xs ++ [x, y, c]).set (n * 3 + 2) z = xs ++ [x, y, z] := by
  rw [List.set_append, if_neg (by omega), show n * 3 + 2 - xs.length = 2 by omega]
  rfl
 rw [e0, e1, e2] at h3
 exact h3
theorem setCell_comm3 (W : World) (g s i j k m : Nat) (x y z v : Value) (h : g ≠ s) : (((W.setCell ⟨s, m, none⟩ v).setCell ⟨g, i, none⟩ x).setCell ⟨g, j, none⟩ y).setCell ⟨g, k, none⟩ z = (((W.setCell ⟨g, i, none⟩ x).setCell ⟨g, j, none⟩ y).setCell ⟨g, k, none⟩ z).setCell ⟨s, m, none⟩ v := by
 have hc : ∀ (X : World) (i : Nat) (x : Value), (X.setCell ⟨s, m, none⟩ v).setCell ⟨g, i, none⟩ x = (X.setCell ⟨g, i, none⟩ x).setCell ⟨s, m, none⟩ v := by
  intro X i x
  unfold World.setCell
  congr 1
  apply Array.ext_getElem?
  intro b
  simp only [Array.getElem?_modify]
  by_cases h1 : g = b
  ·subst h1
   by_cases h2 : s = g
   ·exact absurd h2.symm h
   ·simp [h2]
  ·by_cases h2 : s = b
   ·subst h2
    simp [h1]
   ·simp [h1, h2]
 rw [hc, hc, hc]
theorem infoT : (Tryz.prog.info? 53).map (fun i => (i.zero, i.size, i.bytes)) = some (some (.agg #[.int .i64 0, .string ⟨#[]⟩, .slice none 0 0]), 3, 48) := by kernel_rfl
theorem own_slice {W : World} {B e size n : Nat} {h : Value} {xs : List Value} (ho : W.ownsRow B e size h n xs) : ∃ A c, h = .slice A n c := by
 rcases ho.2 with ⟨rfl, rfl⟩ | ⟨g, cap, cur, rfl, _⟩
 ·exact ⟨none, 0, rfl⟩
 ·exact ⟨_, cap, rfl⟩
theorem new_ne {g1 n cap N x : Nat} {hd : Value} (hat : (Value.slice (some ⟨g1, 0, none⟩) n cap).ownBlock = hd.ownBlock ∨ ∃ b, (Value.slice (some ⟨g1, 0, none⟩) n cap).ownBlock = some b ∧ N ≤ b) (hx : some x ≠ hd.ownBlock) (hlt : x < N) : g1 ≠ x := by
 rintro rfl
 rcases hat with e | ⟨b, e, hb⟩
 ·exact hx e
 ·have e' : g1 = b := by simpa [Value.ownBlock] using e
  omega
theorem own_new {W : World} {B e n : Nat} {h : Value} {xs : List Value} {a b c : Value} (ho : W.ownsRow B e 3 h (n + 1) (xs ++ [a, b, c])) : ∃ g cap, h = .slice (some ⟨g, 0, none⟩) (n + 1) cap ∧ B ≤ g ∧ g < W.heap.size ∧ W.cell? ⟨g, n * 3, none⟩ = some a ∧ W.cell? ⟨g, n * 3 + 1, none⟩ = some b ∧ W.cell? ⟨g, n * 3 + 2, none⟩ = some c ∧ ∀ i, W.frozen? ⟨g, i, none⟩ = false := by
 have hl := ho.1
 rw [List.length_append] at hl
 simp only [List.length_cons, List.length_nil] at hl
 rcases ho.2 with ⟨_, h0⟩ | ⟨g, cap, cur, rfl, h1, h2, h3, h4, h5, h6⟩
 ·omega
 ·have hg : ∀ i u, (xs ++ [a, b, c])[i]? = some u → W.cell? ⟨g, i, none⟩ = some u := by
   intro i u hu
   rw [← h6] at hu
   have hi : i < (n + 1) * 3 := by
    have := (List.getElem?_eq_some_iff.1 hu).1
    rw [List.length_take] at this
    omega
   rw [List.getElem?_take_of_lt hi, Array.getElem?_toList] at hu
   exact (blk_cell h2 i).trans hu
  refine ⟨g, cap, rfl, h1, (Array.getElem?_eq_some_iff.1 h2).1, hg _ _ ?_, hg _ _ ?_, hg _ _ ?_, fun i => blk_frozen h2 i⟩
  ·rw [List.getElem?_append_right (by omega), show n * 3 - xs.length = 0 by omega]
   rfl
  ·rw [List.getElem?_append_right (by omega), show n * 3 + 1 - xs.length = 1 by omega]
   rfl
  ·rw [List.getElem?_append_right (by omega), show n * 3 + 2 - xs.length = 2 by omega]
   rfl
theorem add_calls {B : Nat} {T : List Tok} {tv : Value} {pb : Nat} {W : World} {pos : Nat} {low : List Tree} {kd : Int} {tx : ByteArray} {ks : List Tree} {F Ft : List Nat} {hv : Value} (t : Tree)
  (h : PS 76 53 B T tv pb W pos (low ++ [.mk kd tx ks]) F) (ht : TR W B 53 t.kids hv Ft) (hN : (F ++ Ft).Nodup) (hpt : pb ∉ Ft) (hsm : low.length + ks.length ≤ 1000000000) :
  Calls Tryz.prog 110 #[.pointer (some ⟨pb, 0, none⟩), .agg #[.int .i64 t.kind, .string t.text, hv]] W fun e W' => e = .returned (.tuple #[]) ∧ ∃ F', PS 76 53 B T tv pb W' pos (low ++ [.mk kd tx (ks ++ [t])]) F' ∧ Fr pb (F ++ Ft) F' W W' := by
 obtain ⟨sb, scap, hd, c1, F1, cs, Fs, p1, p2, p3, p4, p5, rfl⟩ := h.top
 obtain ⟨hA, hcap, rfl⟩ := own_slice p4
 obtain ⟨hvA, hvc, hvE⟩ : ∃ A c, hv = .slice A t.kids.length c := by
  obtain ⟨_, _, hto, _, _⟩ := ht
  exact own_slice hto
 subst hvE
 have HP := ak (And.intro h (And.intro ht (And.intro hN (And.intro hpt (And.intro p1 (And.intro p2 (And.intro p3 (And.intro p4 p5))))))))
 have hl1 : IntKind.i64.wrap (((low.length : Nat) : Int) + 1 - 1) = ((low.length : Nat) : Int) := by rw [IntKind.wrap_i64]; omega
 have hl2 : IntKind.i64.wrap (((low.length + 1 : Nat) : Int) - 1) = ((low.length : Nat) : Int) := by rw [IntKind.wrap_i64]; omega
 have hl3 : IntKind.i64.wrap ((low.length : Nat) : Int) = ((low.length : Nat) : Int) := by rw [IntKind.wrap_i64]; omega
 have o2 : W.cell? ⟨pb, 2, none⟩ = some (.slice (some ⟨sb, 0, none⟩) (low.length + 1) scap) := (blk_cell p1 2).trans rfl
 clear h ht hN hpt p1 p2 p3 p4 p5
 go_enter Tryz.func110, Tryz.ntmps110
 go_wp2_with fail
 have o2' := (World.cell?_alloc_some W ⟨pb, 2, none⟩ (Obj.cells #[Value.int IntKind.i64 t.kind, Value.string t.text, Value.slice hvA t.kids.length hvc] 53) (by rw [o2]; rfl)).trans o2
 have i0 : (0 : Int) ≤ ((low.length : Nat) : Int) := by omega
 have i1 : ((low.length : Nat) : Int) < ((low.length + 1 : Nat) : Int) := by omega
 have i2 : ((low.length : Nat) : Int) < ((low.length : Nat) : Int) + 1 := by omega
 go_region_held3 (fun w' => w'.cell? ⟨pb, 2, none⟩ = some (.slice (some ⟨sb, 0, none⟩) (low.length + 1) scap)) (go_keep) (fail)
 obtain ⟨W1, hW1⟩ : ∃ W1, (W.alloc (Obj.cells #[Value.int IntKind.i64 t.kind, Value.string t.text, Value.slice hvA t.kids.length hvc] 53)).drew = W1 := ⟨_, rfl⟩
 have q0 : W1.cell? ⟨W.heap.size, 0, none⟩ = some (.int .i64 t.kind) := by rw [← hW1]; exact (blk_cell (heap_alloc_new W _) 0).trans rfl
 have q1 : W1.cell? ⟨W.heap.size, 1, none⟩ = some (.string t.text) := by rw [← hW1]; exact (blk_cell (heap_alloc_new W _) 1).trans rfl
 have q2 : W1.cell? ⟨W.heap.size, 2, none⟩ = some (.slice hvA t.kids.length hvc) := by rw [← hW1]; exact (blk_cell (heap_alloc_new W _) 2).trans rfl
 have HB1 := ak (show Below W.heap.size W W1 by rw [← hW1]; exact ((Below.refl _ _).alloc (Nat.le_refl _) _).drew)
 have HS1 := ak (show W.heap.size < W1.heap.size by rw [← hW1]; show W.heap.size < (W.alloc _).heap.size; rw [World.size_alloc]; omega)
 rw [hW1]
 clear hW1
 go_wp2_with fail
 have HBA := ak (show Below W.heap.size W W1.drew from HB1.out.drew)
 have hsA : W.heap.size < W1.drew.heap.size := HS1.out
 obtain ⟨h, ht, hN, hpt, p1, p2, p3, p4, p5⟩ := HP.out
 have bW := h.rowsGe
 have kW : ∀ g, g < W.heap.size → W1.drew.heap[g]? = W.heap[g]? := fun g hg => HBA.out.block g hg
 have pbW : pb < W.heap.size := (Array.getElem?_eq_some_iff.1 p1).1
 have h' := h.below HBA.out
 have p1' := (kW pb pbW).trans p1
 have p2' : W1.drew.ownsRow B 53 3 (.slice (some ⟨sb, 0, none⟩) (low.length + 1) scap) (low.length + 1) (c1 ++ [.int .i64 kd, .string tx, .slice hA ks.length hcap]) := own_kept p2 (fun g hg => kW g (own_bound p2 g hg).2.1)
 have p3' := TL_kept low c1 F1 p3 (fun g hg => kW g (TL_bound low c1 F1 p3 g hg).2.1)
 have p4' := own_kept p4 (fun g hg => kW g (own_bound p4 g hg).2.1)
 have p5' := TL_kept ks cs Fs p5 (fun g hg => kW g (TL_bound ks cs Fs p5 g hg).2.1)
 have ht' : TR W1.drew B 53 t.kids (.slice hvA t.kids.length hvc) Ft := TR_kept ht (fun g hg => kW g (TR_bound ht g hg).2.1)
 obtain ⟨_, _, e1, _, _, _, _, n6, n7⟩ := own_new p2'
 simp only [Value.slice.injEq, Option.some.injEq, Addr.mk.injEq, and_true] at e1
 obtain ⟨rfl, _, rfl⟩ := e1
 have hBW : B ≤ W1.drew.heap.size := by have := h.ge; omega
 have HQ := ak (And.intro h' (And.intro p1' (And.intro p2' (And.intro p3' (And.intro p5' (And.intro ht' (And.intro hN (And.intro hpt (And.intro pbW bW)))))))))
 have HP4 := ak p4'
 have hsbn : some sb ≠ (Value.slice hA ks.length hcap).ownBlock := fun e => by
  have := h.nd
  rw [List.nodup_cons] at this
  exact this.1 (List.mem_append_right _ (List.mem_append_left _ (own1_mem.2 e.symm)))
 have hbxn : some W.heap.size ≠ (Value.slice hA ks.length hcap).ownBlock := fun e => by
  have := own_bound p4 W.heap.size (own1_mem.2 e.symm)
  omega
 have hsbW : sb < W.heap.size := (bW sb List.mem_cons_self).2
 have HNE := ak (And.intro hsbn (And.intro hbxn hsbW))
 have HFZ := ak n7
 have n6' : W1.cell? ⟨sb, low.length * 3 + 2, none⟩ = some (.slice hA ks.length hcap) := n6
 clear h ht hN hpt p1 p2 p3 p4 p5 bW kW h' p1' p2' p3' p4' p5' ht' hsbn hbxn pbW n7 hsbW n6
 refine wp_region_last_drew (ds := [12]) (S := (fun w' => w'.cell? ⟨sb, low.length * 3 + 2, none⟩ = some (.slice hA ks.length hcap) ∧ w'.cell? ⟨W.heap.size, 0, none⟩ = some (.int .i64 t.kind) ∧ w'.cell? ⟨W.heap.size, 1, none⟩ = some (.string t.text) ∧ w'.cell? ⟨W.heap.size, 2, none⟩ = some (.slice hvA t.kids.length hvc))) (by kernel_rfl) ⟨n6', q0, q1, q2⟩ (fun hS => ?_)
 refine wpAnyLast_take (i := 0) (v := .pointer (some ⟨sb, low.length * 3, none⟩)) rfl (by kernel_rfl) (by kernel_rfl) (by kernel_rfl) (by kernel_rfl) (by kernel_rfl) (fun _ _ _ h => h) (Or.inl ⟨by rfl, by rintro w' ⟨z1, z2, z3, z4⟩; go_simp⟩) hS ?_
 simp only [Act.put, sia, List.set]
 refine wpAnyLast_take (i := 1) (v := .pointer (some ⟨sb, low.length * 3, none⟩)) rfl (by kernel_rfl) (by kernel_rfl) (by kernel_rfl) (by kernel_rfl) (by kernel_rfl) (fun _ _ _ h => h) (Or.inl ⟨by rfl, by rintro w' ⟨z1, z2, z3, z4⟩; go_simp⟩) hS ?_
 simp only [Act.put, sia, List.set]
 refine wpAnyLast_take (i := 2) (v := .pointer (some ⟨sb, low.length * 3 + 2, none⟩)) rfl (by kernel_rfl) (by kernel_rfl) (by kernel_rfl) (by kernel_rfl) (by kernel_rfl) (fun _ _ _ h => h) (Or.inl ⟨by rfl, by rintro w' ⟨z1, z2, z3, z4⟩; go_simp⟩) hS ?_
 simp only [Act.put, sia, List.set]
 refine wpAnyLast_take (i := 3) (v := .slice hA ks.length hcap) rfl (by kernel_rfl) (by kernel_rfl) (by kernel_rfl) (by kernel_rfl) (by kernel_rfl) (fun _ _ _ h => h) (Or.inl ⟨by rfl, by rintro w' ⟨z1, z2, z3, z4⟩; go_simp⟩) hS ?_
 simp only [Act.put, sia, List.set]
 refine wpAnyLast_take (i := 4) (v := .agg #[.int .i64 t.kind, .string t.text, .slice hvA t.kids.length hvc]) rfl (by kernel_rfl) (by kernel_rfl) (by kernel_rfl) (by kernel_rfl) (by kernel_rfl) (fun _ _ _ h => h) (Or.inl ⟨by rfl, by rintro w' ⟨z1, z2, z3, z4⟩; go_simp⟩) hS ?_
 simp only [Act.put, sia, List.set]
 refine wpAnyLast_take (i := 5) (v := .int .i64 (ks.length : Int)) rfl (by kernel_rfl) (by kernel_rfl) (by kernel_rfl) (by kernel_rfl) (by kernel_rfl) (fun _ _ _ h => h) (Or.inl ⟨by rfl, by rintro w' ⟨z1, z2, z3, z4⟩; go_simp⟩) hS ?_
 simp only [Act.put, sia, List.set]
 refine wpAnyLast_ready (rs := [6]) (by kernel_rfl) (by simp) (AllReadyL.cons rfl (by simp) (fun K hK => ?_) AllReadyL.nil)
 go_simp
 refine hK.out _ _ (by go_keep) (fun hS => ?_)
 clear hK
 try simp only [Act.put, sia, List.set]
 refine wpAnyLast_ready (rs := [7]) (by kernel_rfl) (by simp) (AllReadyL.cons rfl (by simp) (fun K hK => ?_) AllReadyL.nil)
 refine step_append_cells (w0 := W1.drew) (W := W1.drew) B (by rfl) (.tmp 19) (.tmp 22) 51 53 (.agg #[.int .i64 0, .string ⟨#[]⟩, .slice none 0 0]) 3 48 (by rfl) Tryz.underlying51 infoT rfl (by decide) (by decide) (.slice hA ks.length hcap) ks.length cs [.int .i64 0, .string ⟨#[]⟩, .slice none 0 0] rfl rfl rfl (by intro u hu; simp only [List.mem_cons, List.not_mem_nil, or_false] at hu; rcases hu with rfl | rfl | rfl <;> rfl) HP4.out (Below.refl _ _) hBW (by omega) ?_
 intro v1 w1 hown hb hg hat; obtain ⟨g1, cap1, rfl, a1, a2, a3, a4, a5, a6⟩ := own_new hown; have r0 : w1.cell? ⟨sb, low.length * 3 + 2, none⟩ = some (.slice hA ks.length hcap) := (World.cell?_of_block (hg.block sb (Nat.lt_trans HNE.out.2.2 hsA) HNE.out.1)).trans n6'; have r4 : w1.frozen? ⟨sb, low.length * 3 + 2, none⟩ = false := (World.frozen?_of_block (hg.block sb (Nat.lt_trans HNE.out.2.2 hsA) HNE.out.1)).trans (HFZ.out _); have rb := hg.block W.heap.size hsA HNE.out.2.1; have r1 : w1.cell? ⟨W.heap.size, 0, none⟩ = some (.int .i64 t.kind) := (World.cell?_of_block rb).trans q0; have r2 : w1.cell? ⟨W.heap.size, 1, none⟩ = some (.string t.text) := (World.cell?_of_block rb).trans q1; have r3 : w1.cell? ⟨W.heap.size, 2, none⟩ = some (.slice hvA t.kids.length hvc) := (World.cell?_of_block rb).trans q2; clear rb; have hgs := new_ne hat HNE.out.1 (Nat.lt_trans HNE.out.2.2 hsA); have hgb := new_ne hat HNE.out.2.1 hsA; have a4' : ((w1.setCell ⟨g1, ks.length * 3, none⟩ (.int .i64 t.kind)).setCell ⟨g1, ks.length * 3 + 1, none⟩ (.string t.text)).cell? ⟨g1, ks.length * 3 + 2, none⟩ = some (.slice none 0 0) := (by rw [World.cell?_setCell_other _ _ _ _ (by intro e; injection e; omega), World.cell?_setCell_other _ _ _ _ (by intro e; injection e; omega)]; exact a5); have HW := ak (And.intro hown (And.intro hg hat)); clear hown hb hg hat
 have HF := ak (show ∃ F', PS 76 53 B T tv pb ((((w1.setCell ⟨g1, ks.length * 3, none⟩ (.int .i64 t.kind)).setCell ⟨g1, ks.length * 3 + 1, none⟩ (.string t.text)).setCell ⟨g1, ks.length * 3 + 2, none⟩ (.slice hvA t.kids.length hvc)).setCell ⟨sb, low.length * 3 + 2, none⟩ (.slice (some ⟨g1, 0, none⟩) (ks.length + 1) cap1)) pos (low ++ [.mk kd tx (ks ++ [t])]) F' ∧ Fr pb ((sb :: (F1 ++ (own1 (.slice hA ks.length hcap) ++ Fs))) ++ Ft) F' W ((((w1.setCell ⟨g1, ks.length * 3, none⟩ (.int .i64 t.kind)).setCell ⟨g1, ks.length * 3 + 1, none⟩ (.string t.text)).setCell ⟨g1, ks.length * 3 + 2, none⟩ (.slice hvA t.kids.length hvc)).setCell ⟨sb, low.length * 3 + 2, none⟩ (.slice (some ⟨g1, 0, none⟩) (ks.length + 1) cap1)) by
  obtain ⟨h', p1', p2', p3', p5', ht', hN, hpt, pbW, bW⟩ := HQ.out
  obtain ⟨hown, hg, hat⟩ := HW.out
  have htc : TC W1.drew B 53 t [.int .i64 t.kind, .string t.text, .slice hvA t.kids.length hvc] Ft := by
   cases t
   rw [TC_mk]
   exact ⟨_, rfl, ht'⟩
  obtain ⟨F', f1, f2⟩ := PS.add_mem (Ftl := []) h' p1' p2' p3' p5' htc hN hpt (own_put3 (x := .int .i64 t.kind) (y := .string t.text) (z := .slice hvA t.kids.length hvc) hown (by rw [TL_len ks cs Fs p5'])) hat hg.os hg.tape hg.output (by have := hg.size; simpa [World.setCell] using this) (fun g h1 h2 => by
   have hgg := new_ne hat h2 h1
   rw [Below.heap_setCell _ _ _ g (Ne.symm hgg), Below.heap_setCell _ _ _ g (Ne.symm hgg), Below.heap_setCell _ _ _ g (Ne.symm hgg)]
   exact hg.block g h1 h2)
  exact ⟨F', f1, (Fr.of_below HBA.out).trans f2⟩)
 have j0 : (0 : Int) ≤ (ks.length : Int) := by omega
 have j1 : (ks.length : Int) < ((ks.length + 1 : Nat) : Int) := by omega
 have j2 : (ks.length : Int) < (ks.length : Int) + 1 := by omega
 refine hK.out _ _ ⟨r0, r1, r2, r3⟩ (fun hS => ?_)
 clear hK
 try simp only [Act.put, sia, List.set]
 refine pure_ (i := 8) (v := .pointer (some ⟨g1, ks.length * 3, none⟩)) #[true, true, true, true, true, true, true, true, true, false, false, false, false] rfl rfl (by kernel_rfl) (fun _ _ _ h => h) (Or.inl ⟨by rfl, by intro w'; go_simp⟩) rfl ?_
 simp only [Act.put, sia, List.set]
 refine pure_ (i := 10) (v := .pointer (some ⟨sb, low.length * 3, none⟩)) #[true, true, true, true, true, true, true, true, true, false, true, false, false] rfl rfl (by kernel_rfl) (fun _ _ _ h => h) (Or.inl ⟨by rfl, by intro w'; go_simp⟩) rfl ?_
 simp only [Act.put, sia, List.set]
 refine pure_ (i := 11) (v := .pointer (some ⟨sb, low.length * 3 + 2, none⟩)) #[true, true, true, true, true, true, true, true, true, false, true, true, false] rfl rfl (by kernel_rfl) (fun _ _ _ h => h) (Or.inl ⟨by rfl, by intro w'; go_simp⟩) rfl ?_
 simp only [Act.put, sia, List.set]
 refine wpAnyLast_ready (rs := [9, 12]) (by kernel_rfl) (by simp) (AllReadyL.cons rfl (by simp) (fun K hK => ?_) (AllReadyL.cons_last rfl (by simp) (fun K hK => ?_) AllReadyL.nil))
 ·go_simp
  refine hK.out _ _ (by go_keep) (fun hS => ?_)
  clear hK
  try simp only [Act.put, sia, List.set]
  refine wpAnyLast_ready (rs := [12]) (by kernel_rfl) (by simp) (AllReadyL.cons_last rfl (by simp) (fun K hK => ?_) AllReadyL.nil)
  go_simp
  refine hK.out _ _ ?_
  refine wpAnyLast_done (by kernel_rfl) ?_ _
  clear hK hS
  go_end0
  exact ⟨rfl, HF.out⟩
 ·go_simp
  refine hK.out _ _ ?_
  clear hK
  try simp only [Act.put, sia, List.set]
  refine wpAnyLast_ready (rs := [9]) (by kernel_rfl) (by simp) (cons_if rfl (fun K hK => ?_) AllReadyL.nil)
  go_simp
  refine hK.out _ _ (by rintro ⟨z1, z2, z3, z4⟩; go_keep) ?_
  refine wpAnyLast_done (by kernel_rfl) ?_ _
  clear hK
  rw [setCell_comm3 w1 g1 sb _ _ _ _ _ _ _ _ hgs]
  go_end0
  exact ⟨rfl, HF.out⟩
end Go.Proofs.YtkijamagbgigmaaGreatDoor.Par
namespace Go.Proofs.YtkijamagbgigmaaGreatDoor.Par
open Go.RowKit Go.Proofs.YtkijamagbgigmaaGreatDoorW.PrintWords Go.Proofs.YtkijamagbgigmaaGreatDoorW.PrintLast
variable {B : Nat} {T : List Tok} {tv : Value} {pb : Nat} {W : World} {pos : Nat} {stk : List Tree} {F : List Nat}
theorem PS.cells (h : PS 76 53 B T tv pb W pos stk F) : W.cell? ⟨pb, 0, none⟩ = some tv ∧ W.cell? ⟨pb, 1, none⟩ = some (.int .i64 (pos : Int)) ∧ (∀ i, W.frozen? ⟨pb, i, none⟩ = false) ∧ ∃ sv, W.cell? ⟨pb, 2, none⟩ = some sv ∧ TR W B 53 stk sv F := by
 obtain ⟨sv, h1, h2⟩ := h.obj
 exact ⟨(blk_cell h1 0).trans rfl, (blk_cell h1 1).trans rfl, fun i => blk_frozen h1 i, sv, (blk_cell h1 2).trans rfl, h2⟩
theorem PS.setPos (h : PS 76 53 B T tv pb W pos stk F) (n : Nat) : PS 76 53 B T tv pb (W.setCell ⟨pb, 1, none⟩ (.int .i64 (n : Int))) n stk F ∧ Fr pb F F W (W.setCell ⟨pb, 1, none⟩ (.int .i64 (n : Int))) := by
 obtain ⟨sv, h1, h2⟩ := h.obj
 have hfr : Fr pb F F W (W.setCell ⟨pb, 1, none⟩ (.int .i64 (n : Int))) := ⟨rfl, rfl, rfl, by simp [World.setCell], fun g _ hg _ => Below.heap_setCell W ⟨pb, 1, none⟩ _ g hg, fun g hg => .inl hg⟩
 obtain ⟨Wt, t1, t2, t3⟩ := h.tok
 refine ⟨⟨⟨sv, ?_, TR_kept h2 (fun g hg => Below.heap_setCell W ⟨pb, 1, none⟩ _ g (fun e => h.pbF (by have e2 : g = pb := e; rw [← e2]; exact hg)))⟩, h.nd, h.pbF, h.ge, Wt, t1, t2, t3.trans ((hfr.below h.ge (fun g hg => (h.rowsGe g hg).1) (by have := h.ge; have := (Array.getElem?_eq_some_iff.1 h1).1; omega)).mono t1)⟩, hfr⟩
 simp [World.setCell, Array.getElem?_modify, h1]
theorem PS.tokAt (h : PS 76 53 B T tv pb W pos stk F) (hp : pos < T.length) : ∃ tb tq c, tv = .slice (some ⟨tb, tq, none⟩) T.length c ∧ W.cell? ⟨tb, tq + pos * 2, none⟩ = some (.int .i64 (T[pos]).1) ∧ W.cell? ⟨tb, tq + pos * 2 + 1, none⟩ = some (.string (T[pos]).2) := by
 obtain ⟨A, c, h1, h2⟩ := h.toks
 obtain ⟨tb, tq, rfl, h3⟩ := h2 (by omega)
 obtain ⟨k1, k2⟩ := h3 pos (T[pos]) (List.getElem?_eq_getElem hp)
 exact ⟨tb, tq, c, h1, k1, k2⟩
end Go.Proofs.YtkijamagbgigmaaGreatDoor.Par
namespace Go.Proofs.YtkijamagbgigmaaGreatDoor.Par
open Go.RowKit Go.Proofs.YtkijamagbgigmaaGreatDoorW.PrintWords Go.Proofs.YtkijamagbgigmaaGreatDoorW.PrintLast
theorem TR_nil (W : World) (B e : Nat) : TR W B e [] (.slice none 0 0) [] := by
 refine ⟨[], [], own_nil _ _ _ _, rfl, ?_⟩
 simp [TL]
theorem addToken_calls {B : Nat} {T : List Tok} {tv : Value} {pb : Nat} {W : World} {pos : Nat} {low : List Tree} {kd : Int} {tx : ByteArray} {ks : List Tree} {F : List Nat} (hT : T.length ≤ 100000) (hp : pos < T.length)
  (h : PS 76 53 B T tv pb W pos (low ++ [.mk kd tx ks]) F) (hsm : low.length + ks.length ≤ 1000000000) :
  Calls Tryz.prog 62 #[.pointer (some ⟨pb, 0, none⟩)] W fun e W' => e = .returned (.tuple #[]) ∧ ∃ F', PS 76 53 B T tv pb W' (pos + 1) (low ++ [.mk kd tx (ks ++ [leaf (T[pos])])]) F' ∧ Fr pb F F' W W' := by
 obtain ⟨tb, tq, c, rfl, t1, t2⟩ := h.tokAt hp
 obtain ⟨o0, o1, o3, _⟩ := h.cells
 have HP := ak h
 have HFZ := ak o3
 have i0 : (0 : Int) ≤ (pos : Int) := by omega
 have i1 : (pos : Int) < (T.length : Int) := by omega
 obtain ⟨tk, htk⟩ : ∃ tk, tk = T[pos] := ⟨_, rfl⟩
 rw [← htk] at t1 t2
 have HTK := ak htk
 clear h o3 htk
 go_enter Tryz.func62, Tryz.ntmps62
 go_wp2_with fail
 go_still_tail 24, (by kernel_rfl)
 change wpList _ _ _ _ _ W.drew
 obtain ⟨W2, hW2⟩ : ∃ W2, W.drew = W2 := ⟨_, rfl⟩
 have HB := ak (show Below W.heap.size W W2 by rw [← hW2]; exact (Below.refl _ _).drew)
 rw [hW2]
 clear hW2 o0 o1 t1 t2
 go_wp2_with fail
 refine (add_calls (leaf tk) (HP.out.below HB.out) (hv := .slice none 0 0) (Ft := []) (TR_nil _ _ _) (by rw [List.append_nil]; exact HP.out.nd) (by simp) hsm).mono ?_
 rintro e W3 ⟨rfl, F3, h3, f3⟩
 obtain ⟨o0, o1, o3, _⟩ := h3.cells
 have H3 := ak h3
 have F3r := ak f3
 have o31 := o3 1
 clear h3 f3 o3
 go_wp2_with fail
 go_end0
 obtain ⟨hs, hf⟩ := H3.out.setPos (pos + 1)
 rw [List.append_nil] at F3r
 rw [← HTK.out]
 exact ⟨rfl, F3, hs, ((Fr.of_below HB.out).trans F3r.out).trans hf⟩
end Go.Proofs.YtkijamagbgigmaaGreatDoor.Par
namespace Go.Proofs.YtkijamagbgigmaaGreatDoorW.PrintWords.Kd
open Go.RowKit
def tag {α : Type} (f : Nat → Nat) (d : Kd α) : Kd (α × Nat) where
 sz := d.sz
 E := d.E
 K := fun w x cs => d.K w x.1 cs
 M := fun w base ok x cs => d.M w base (fun k => ok k ∧ f k = x.2) x.1 cs
 K_len := fun h => d.K_len h
 K_one := fun h => d.K_one h
 K_below := fun hb h => d.K_below hb h
 K_of_M := fun h => d.K_of_M h
 M_mono := fun hok h => d.M_mono (fun k hk => ⟨hok k hk.1, hk.2⟩) h
 M_bound := fun h => d.M_mono (fun _ hk => ⟨⟨hk.1.1, hk.2⟩, hk.1.2⟩) (d.M_bound h)
 M_move := fun hm h => d.M_move (fun k hk => hm k hk.1) h
 M_lower := fun hb h => d.M_lower hb h
def raw (sz : Nat) : Kd (List Value) where
 sz := sz
 E := []
 K := fun _ x cs => cs = x ∧ cs.length = sz ∧ ∀ u ∈ cs, u.oneCell' = true
 M := fun _ _ _ x cs => cs = x ∧ cs.length = sz ∧ ∀ u ∈ cs, u.oneCell' = true
 K_len := fun h => h.2.1
 K_one := fun h => h.2.2
 K_below := fun _ h => h
 K_of_M := fun h => h
 M_mono := fun _ h => h
 M_bound := fun h => h
 M_move := fun _ h => h
 M_lower := fun _ h => h
def S {α : Type} (d : Kd α) (e : Nat) (w : World) (base : Nat) (ok : Nat → Prop) (v : Value) (xs : List α) : Prop := ∃ f, (tag f d).R e w base ok v xs.zipIdx
end Go.Proofs.YtkijamagbgigmaaGreatDoorW.PrintWords.Kd
namespace Go.Proofs.YtkijamagbgigmaaGreatDoorW.PrintWords.Kd
open Go.RowKit
variable {α β : Type} {d : Kd α} {d' : Kd β} {e e' : Nat} {w w1 W : World} {base b : Nat} {ok ok' okv oku : Nat → Prop} {u v : Value} {xs : List α} {ys : List β}
theorem R_tight (hE : d.E = []) (h : d.R e w base ok v xs) : d.R e w base (fun k => some k = v.ownBlock) v xs := by
 obtain ⟨h0, inner, ho, hr⟩ := h
 refine ⟨fun k hk => hk.symm, inner, ho, hr.imp_ (fun p c hp => d.M_mono (fun k hk => ?_) (d.M_bound hp))⟩
 obtain ⟨_, _, _, q, hq, _⟩ := hk
 rw [hE] at hq
 cases hq
end Go.Proofs.YtkijamagbgigmaaGreatDoorW.PrintWords.Kd
namespace Go.Proofs.YtkijamagbgigmaaGreatDoorW.PrintWords.Kd
open Go.RowKit
def gap {α : Type} (f : Nat → Nat) (d : Kd α) (i : Nat) (c : List Value) : Kd (α × Nat) where
 sz := d.sz
 E := d.E
 K := fun w x cs => (x.2 = i → cs = c ∧ cs.length = d.sz ∧ ∀ u ∈ cs, u.oneCell' = true) ∧ (x.2 ≠ i → d.K w x.1 cs)
 M := fun w base ok x cs => (x.2 = i → cs = c ∧ cs.length = d.sz ∧ ∀ u ∈ cs, u.oneCell' = true) ∧ (x.2 ≠ i → d.M w base (fun k => ok k ∧ f k = x.2) x.1 cs)
 K_len := fun {w x cs} h => by
  by_cases hx : x.2 = i
  ·exact (h.1 hx).2.1
  ·exact d.K_len (h.2 hx)
 K_one := fun {w x cs} h => by
  by_cases hx : x.2 = i
  ·exact (h.1 hx).2.2
  ·exact d.K_one (h.2 hx)
 K_below := fun hb h => ⟨h.1, fun hx => d.K_below hb (h.2 hx)⟩
 K_of_M := fun h => ⟨h.1, fun hx => d.K_of_M (h.2 hx)⟩
 M_mono := fun hok h => ⟨h.1, fun hx => d.M_mono (fun k hk => ⟨hok k hk.1, hk.2⟩) (h.2 hx)⟩
 M_bound := fun h => ⟨h.1, fun hx => d.M_mono (fun _ hk => ⟨⟨hk.1.1, hk.2⟩, hk.1.2⟩) (d.M_bound (h.2 hx))⟩
 M_move := fun hm h => ⟨h.1, fun hx => d.M_move (fun k hk => hm k hk.1) (h.2 hx)⟩
 M_lower := fun hb h => ⟨h.1, fun hx => d.M_lower hb (h.2 hx)⟩
def H {α : Type} (d : Kd α) (e : Nat) (w : World) (base : Nat) (ok : Nat → Prop) (v : Value) (xs : List α) (i : Int) (oki : Nat → Prop) (c : List Value) : Prop :=
 (∀ k, oki k → ok k) ∧ ∃ f, (gap f d i.toNat c).R e w base (fun k => ok k ∧ ¬ oki k) v xs.zipIdx
structure Heap {α : Type} (d : Kd α) : Prop where
 K : ∀ {w w1 : World} {x : α} {cs : List Value}, (∀ k, k < w.heap.size → w1.heap[k]? = w.heap[k]?) → d.K w x cs → d.K w1 x cs
theorem cell_heap {w w1 : World} (hb : ∀ k, k < w.heap.size → w1.heap[k]? = w.heap[k]?) {a : Addr} {v : Value} (h : w.cell? a = some v) : w1.cell? a = some v := by
 have := hb a.block (World.block_lt_of_cell? w a h)
 simpa [World.cell?, this] using h
theorem Heap.C {α : Type} {d : Kd α} (hd : Heap d) {w w1 : World} {A : Option Addr} {n : Nat} {xs : List α} (hb : ∀ k, k < w.heap.size → w1.heap[k]? = w.heap[k]?) (h : d.C w A n xs) : d.C w1 A n xs :=
 ⟨h.1, h.2.1, fun hn => by
  obtain ⟨ad, e, hc⟩ := h.2.2 hn
  refine ⟨ad, e, fun j p hj => ?_⟩
  obtain ⟨c, hs, hr, hcell⟩ := hc j p hj
  exact ⟨c, hs, hd.K hb hr, fun i u hu => cell_heap hb (hcell i u hu)⟩⟩
end Go.Proofs.YtkijamagbgigmaaGreatDoorW.PrintWords.Kd
