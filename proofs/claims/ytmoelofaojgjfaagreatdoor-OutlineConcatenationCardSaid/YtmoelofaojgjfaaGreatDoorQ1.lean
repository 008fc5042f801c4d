/- Packed texts, part 1: contracts and plain lemmas towards outlineConcatenation_holds. -/
import Derived.Laws.AppendOwn
import Derived.Laws.CopyOwn
import Derived.WalkKit
import Derived.Below
import Derived.Test.YtmoelofaojgjfaaGreatDoorProg
import Derived.Shelf.Strings.Fields
import Derived.KernelRfl
set_option maxHeartbeats 8000000
set_option maxRecDepth 1000000
set_option linter.unusedVariables false
set_option linter.unusedSimpArgs false
namespace Go.Proofs.YtmoelofaojgjfaaGreatDoor
theorem odt {p : Prop} [i : Decidable p] (h : decide p = true) : p := of_decide_eq_true h
theorem sia {α : Type} (l : List α) (i : Nat) (v : α) : l.toArray.setIfInBounds i v = (l.set i v).toArray := List.setIfInBounds_toArray ..
end Go.Proofs.YtmoelofaojgjfaaGreatDoor
namespace Go.Proofs.YtmoelofaojgjfaaGreatDoor.Par
open Go.RowKit
inductive Tree where
 | mk (kind : Int) (text : ByteArray) (kids : List Tree)
def Tree.kind : Tree → Int
 | .mk k _ _ => k
def Tree.text : Tree → ByteArray
 | .mk _ t _ => t
def Tree.kids : Tree → List Tree
 | .mk _ _ ks => ks
def own1 (h : Value) : List Nat := match h.ownBlock with
 | some g => [g]
 | none => []
mutual
def TC (W : World) (B e : Nat) : Tree → List Value → List Nat → Prop
 | .mk k t ks, c, F => ∃ h cs Fs, c = [.int .i64 k, .string t, h] ∧ W.ownsRow B e 3 h ks.length cs ∧ F = own1 h ++ Fs ∧ TL W B e ks cs Fs
def TL (W : World) (B e : Nat) : List Tree → List Value → List Nat → Prop
 | [], cs, F => cs = [] ∧ F = []
 | t :: ts, cs, F => ∃ c cs' F1 F2, cs = c ++ cs' ∧ F = F1 ++ F2 ∧ TC W B e t c F1 ∧ TL W B e ts cs' F2
end
def TR (W : World) (B e : Nat) (ts : List Tree) (h : Value) (F : List Nat) : Prop := ∃ cs Fs, W.ownsRow B e 3 h ts.length cs ∧ F = own1 h ++ Fs ∧ TL W B e ts cs Fs
theorem zih {W : World} {B e : Nat} {k : Int} {t : ByteArray} {ks : List Tree} {c : List Value} {F : List Nat} : TC W B e (.mk k t ks) c F ↔ ∃ h, c = [.int .i64 k, .string t, h] ∧ TR W B e ks h F := by
 simp only [TC, TR]
 constructor
 ·rintro ⟨h, cs, Fs, h1, h2, h3, h4⟩
  exact ⟨h, h1, cs, Fs, h2, h3, h4⟩
 ·rintro ⟨h, h1, cs, Fs, h2, h3, h4⟩
  exact ⟨h, cs, Fs, h1, h2, h3, h4⟩
theorem za7 {W W' : World} {B e size n : Nat} {h : Value} {xs : List Value} (ho : W.ownsRow B e size h n xs) (hk : ∀ g ∈ own1 h, W'.heap[g]? = W.heap[g]?) : W'.ownsRow B e size h n xs := by
 refine ⟨ho.1, ?_⟩
 rcases ho.2 with h1 | ⟨g, cap, cur, rfl, h2, h3, h4⟩
 ·exact .inl h1
 ·exact .inr ⟨g, cap, cur, rfl, h2, (hk g (by simp [own1, Value.ownBlock])).trans h3, h4⟩
mutual
theorem zp7 {W W' : World} {B e : Nat} : ∀ (t : Tree) (c : List Value) (F : List Nat), TC W B e t c F → (∀ g ∈ F, W'.heap[g]? = W.heap[g]?) → TC W' B e t c F
 | .mk k t ks, c, F, h, hk => by
  simp only [TC] at h ⊢
  obtain ⟨hd, cs, Fs, h1, h2, rfl, h4⟩ := h
  exact ⟨hd, cs, Fs, h1, za7 h2 (fun g hg => hk g (List.mem_append_left _ hg)), rfl, zc1 ks cs Fs h4 (fun g hg => hk g (List.mem_append_right _ hg))⟩
theorem zc1 {W W' : World} {B e : Nat} : ∀ (ts : List Tree) (cs : List Value) (F : List Nat), TL W B e ts cs F → (∀ g ∈ F, W'.heap[g]? = W.heap[g]?) → TL W' B e ts cs F
 | [], cs, F, h, hk => by
  simp only [TL] at h ⊢
  exact h
 | t :: ts, cs, F, h, hk => by
  simp only [TL] at h ⊢
  obtain ⟨c, cs', F1, F2, h1, rfl, h3, h4⟩ := h
  exact ⟨c, cs', F1, F2, h1, rfl, zp7 t c F1 h3 (fun g hg => hk g (List.mem_append_left _ hg)), zc1 ts cs' F2 h4 (fun g hg => hk g (List.mem_append_right _ hg))⟩
end
theorem zeb {W W' : World} {B e : Nat} {ts : List Tree} {h : Value} {F : List Nat} (hr : TR W B e ts h F) (hk : ∀ g ∈ F, W'.heap[g]? = W.heap[g]?) : TR W' B e ts h F := by
 obtain ⟨cs, Fs, h1, rfl, h3⟩ := hr
 exact ⟨cs, Fs, za7 h1 (fun g hg => hk g (List.mem_append_left _ hg)), rfl, zc1 ts cs Fs h3 (fun g hg => hk g (List.mem_append_right _ hg))⟩
theorem zax {W : World} {B e size n : Nat} {h : Value} {xs : List Value} (ho : W.ownsRow B e size h n xs) : ∀ g ∈ own1 h, B ≤ g ∧ g < W.heap.size ∧ ∃ cur, W.heap[g]? = some (.cells cur e (0, 0)) := by
 intro g hg
 rcases ho.2 with ⟨rfl, _⟩ | ⟨g', cap, cur, rfl, h2, h3, h4⟩
 ·simp [own1, Value.ownBlock] at hg
 ·have : g = g' := by simpa [own1, Value.ownBlock] using hg
  subst this
  exact ⟨h2, (Array.getElem?_eq_some_iff.1 h3).1, cur, h3⟩
mutual
theorem zhl {W : World} {B e : Nat} : ∀ (t : Tree) (c : List Value) (F : List Nat), TC W B e t c F → ∀ g ∈ F, B ≤ g ∧ g < W.heap.size ∧ ∃ cur, W.heap[g]? = some (.cells cur e (0, 0))
 | .mk k t ks, c, F, h, g, hg => by
  simp only [TC] at h
  obtain ⟨hd, cs, Fs, h1, h2, rfl, h4⟩ := h
  rcases List.mem_append.1 hg with hg | hg
  ·exact zax h2 g hg
  ·exact zfn ks cs Fs h4 g hg
theorem zfn {W : World} {B e : Nat} : ∀ (ts : List Tree) (cs : List Value) (F : List Nat), TL W B e ts cs F → ∀ g ∈ F, B ≤ g ∧ g < W.heap.size ∧ ∃ cur, W.heap[g]? = some (.cells cur e (0, 0))
 | [], cs, F, h, g, hg => by
  simp only [TL] at h
  rw [h.2] at hg
  cases hg
 | t :: ts, cs, F, h, g, hg => by
  simp only [TL] at h
  obtain ⟨c, cs', F1, F2, h1, rfl, h3, h4⟩ := h
  rcases List.mem_append.1 hg with hg | hg
  ·exact zhl t c F1 h3 g hg
  ·exact zfn ts cs' F2 h4 g hg
end
theorem zf9 {W : World} {B e : Nat} {ts : List Tree} {h : Value} {F : List Nat} (hr : TR W B e ts h F) : ∀ g ∈ F, B ≤ g ∧ g < W.heap.size ∧ ∃ cur, W.heap[g]? = some (.cells cur e (0, 0)) := by
 obtain ⟨cs, Fs, h1, rfl, h3⟩ := hr
 intro g hg
 rcases List.mem_append.1 hg with hg | hg
 ·exact zax h1 g hg
 ·exact zfn ts cs Fs h3 g hg
theorem zyj {W : World} {B e : Nat} {t : Tree} {c : List Value} {F : List Nat} (h : TC W B e t c F) : c.length = 3 := by
 cases t
 simp only [TC] at h
 obtain ⟨hd, cs, Fs, rfl, _⟩ := h
 rfl
theorem zf3 {W : World} {B e : Nat} : ∀ (ts : List Tree) (cs : List Value) (F : List Nat), TL W B e ts cs F → cs.length = ts.length * 3
 | [], cs, F, h => by
  simp only [TL] at h
  rw [h.1]
  rfl
 | t :: ts, cs, F, h => by
  simp only [TL] at h
  obtain ⟨c, cs', F1, F2, rfl, rfl, h3, h4⟩ := h
  rw [List.length_append, zyj h3, zf3 ts cs' F2 h4, List.length_cons]
  omega
theorem zeq {W : World} {B e : Nat} : ∀ (ts us : List Tree) (cs ds : List Value) (F G : List Nat), TL W B e ts cs F → TL W B e us ds G → TL W B e (ts ++ us) (cs ++ ds) (F ++ G)
 | [], us, cs, ds, F, G, h, g => by
  simp only [TL] at h
  obtain ⟨rfl, rfl⟩ := h
  exact g
 | t :: ts, us, cs, ds, F, G, h, g => by
  simp only [TL] at h
  obtain ⟨c, cs', F1, F2, rfl, rfl, h3, h4⟩ := h
  rw [List.cons_append, List.append_assoc, List.append_assoc]
  simp only [TL]
  exact ⟨c, cs' ++ ds, F1, F2 ++ G, rfl, rfl, h3, zeq ts us cs' ds F2 G h4 g⟩
theorem zoo {W : World} {B e : Nat} {t : Tree} {c : List Value} {F : List Nat} (h : TC W B e t c F) : TL W B e [t] c F := by
 simp only [TL]
 exact ⟨c, [], F, [], by simp, by simp, h, rfl, rfl⟩
theorem zq0 {W : World} {B e : Nat} : ∀ (ts us : List Tree) (cs : List Value) (F : List Nat), TL W B e (ts ++ us) cs F → ∃ c1 c2 F1 F2, cs = c1 ++ c2 ∧ F = F1 ++ F2 ∧ TL W B e ts c1 F1 ∧ TL W B e us c2 F2
 | [], us, cs, F, h => ⟨[], cs, [], F, rfl, rfl, ⟨rfl, rfl⟩, h⟩
 | t :: ts, us, cs, F, h => by
  rw [List.cons_append] at h
  simp only [TL] at h
  obtain ⟨c, cs', F1, F2, rfl, rfl, h3, h4⟩ := h
  obtain ⟨c1, c2, G1, G2, rfl, rfl, k3, k4⟩ := zq0 ts us cs' F2 h4
  refine ⟨c ++ c1, c2, F1 ++ G1, G2, by rw [List.append_assoc], by rw [List.append_assoc], ?_, k4⟩
  simp only [TL]
  exact ⟨c, c1, F1, G1, rfl, rfl, h3, k3⟩
theorem zmb {W : World} {B e : Nat} {ts : List Tree} {t : Tree} {cs : List Value} {F : List Nat} (h : TL W B e (ts ++ [t]) cs F) : ∃ c1 c2 F1 F2, cs = c1 ++ c2 ∧ F = F1 ++ F2 ∧ TL W B e ts c1 F1 ∧ TC W B e t c2 F2 := by
 obtain ⟨c1, c2, F1, F2, h1, h2, h3, h4⟩ := zq0 ts [t] cs F h
 simp only [TL] at h4
 obtain ⟨c, cs', G1, G2, rfl, rfl, k3, rfl, rfl⟩ := h4
 exact ⟨c1, c, F1, G1, by simpa using h1, by simpa using h2, h3, k3⟩
abbrev Tok := Int × ByteArray
abbrev St := Nat × List Tree
abbrev Ans := Option (Bool × St)
def triv (k : Int) : Bool := decide (k = 101) || decide (k = 102)
def leaf (t : Tok) : Tree := .mk t.1 t.2 []
def zj : ByteArray := ⟨#[]⟩
end Go.Proofs.YtmoelofaojgjfaaGreatDoor.Par
namespace Go.Proofs.YtmoelofaojgjfaaGreatDoor.Par
open Go.RowKit
variable (T : List Tok)
def zal (pos : Nat) : Tok := ((T.drop pos).find? (fun t => !triv t.1)).getD (100, zj)
def atT (pos : Nat) (texts : List ByteArray) : Bool := (decide ((zal T pos).1 = 104) || decide ((zal T pos).1 = 107)) && texts.any (fun x => decide ((zal T pos).2 = x))
def eofT (pos : Nat) : Bool := decide ((zal T pos).1 = 100)
def idT (pos : Nat) : Bool := decide ((zal T pos).1 = 103)
def addS (s : St) (t : Tree) : St := (s.1, s.2 ++ [t])
def za9 (pos : Nat) : List Tok := (T.drop pos).takeWhile (fun t => triv t.1)
def zbc (s : St) : St := (s.1 + (za9 T s.1).length, s.2 ++ (za9 T s.1).map leaf)
def zz (s : St) : St := match T[(zbc T s).1]? with
 | some t => ((zbc T s).1 + 1, (zbc T s).2 ++ [leaf t])
 | none => zbc T s
def ze5 (s : St) : St := addS s (.mk 46 zj [])
def zev (s : St) : St := addS s (.mk 108 zj [])
def ze0 (s : St) : St := addS s (.mk 0 zj [])
def zbq (s : St) (texts : List ByteArray) : St := if atT T s.1 texts = true then zz T s else s
def zx (text : ByteArray) (s : St) : St := if atT T s.1 [text] = true then zz T s else zev s
def zao (s : St) : St := if idT T s.1 = true then zz T s else zev s
def zes (s : St) : St := ((zz T (s.1, [])).1, s.2 ++ [.mk 46 zj (zz T (s.1, [])).2])
def zb1 (pos : Nat) : Nat := (zz T (pos, [])).1
def zei : List ByteArray := [(⟨#[117, 115, 101]⟩ : ByteArray), (⟨#[112, 117, 98]⟩ : ByteArray), (⟨#[102, 110]⟩ : ByteArray), (⟨#[115, 116, 114, 117, 99, 116]⟩ : ByteArray), (⟨#[101, 110, 117, 109]⟩ : ByteArray), (⟨#[116, 114, 97, 105, 116]⟩ : ByteArray), (⟨#[105, 109, 112, 108]⟩ : ByteArray), (⟨#[99, 111, 110, 115, 116]⟩ : ByteArray), (⟨#[109, 97, 99, 114, 111]⟩ : ByteArray)]
def zea (pos : Nat) : Bool := atT T pos zei && !atT T pos [(⟨#[102, 110]⟩ : ByteArray)]
def zb0 (text : ByteArray) : Int := match [(⟨#[117, 115, 101]⟩ : ByteArray), (⟨#[102, 110]⟩ : ByteArray), (⟨#[115, 116, 114, 117, 99, 116]⟩ : ByteArray), (⟨#[101, 110, 117, 109]⟩ : ByteArray), (⟨#[116, 114, 97, 105, 116]⟩ : ByteArray), (⟨#[105, 109, 112, 108]⟩ : ByteArray), (⟨#[99, 111, 110, 115, 116]⟩ : ByteArray), (⟨#[109, 97, 99, 114, 111]⟩ : ByteArray)].findIdx? (fun x => decide (x = text)) with
 | some i => 2 + (i : Int)
 | none => 0
end Go.Proofs.YtmoelofaojgjfaaGreatDoor.Par
namespace Go.Proofs.YtmoelofaojgjfaaGreatDoor.Par
open Go.RowKit
inductive NT where
 | block | blockB | stmts | statement | letS | whileB | returnS | assignB | exprStmtB (bl : Bool) | expr | binary (l : Nat) | binLoop (l : Nat) | binRhs (l : Nat)
 | unary | unaryB | borrowB | arguments | postf | mcallB | fieldB | primary | macroB | parenB | ifExpr | ifB | elseB | matchS | armE | armB | structS | initE | initB
 | lambda | emptyB | pattern | mutB | variantB | list (closing : ByteArray) (e : NT) | listLoop (closing : ByteArray) (e : NT)
 | item | itemB (kind : Int) | skipToItem | skipB | skipLoop | itemBody (kind : Int) | useS | usePathB | useLoop | typeParams | typeParamsB | typeParam | typeParamB | boundLoop
 | params (closing : ByteArray) | paramsB (closing : ByteArray) | paramE | paramB | function (needs : Bool) | dataType (kind : Int) | dataE (kind : Int) | fieldDeclB | variantDeclB
 | members | membersLoop | methodB | assocB | implS | path (ty : Bool) | pathB (ty : Bool) | pathLoop (ty : Bool) (first : Bool) | segB (ty : Bool) | typeExpr | refB | funcTypeB
 | bump | expectId | opt (text : ByteArray) (e : NT) | items
def st (f : St → St) : St → Ans := fun s => some (false, f s)
def sqL : List (St → Ans) → St → Ans
 | [], s => some (false, s)
 | f :: fs, s => (f s).bind fun q => sqL fs q.2
def zbt (kind : Int) (f : St → Ans) : St → Ans := fun s => (f (s.1, [])).bind fun q => some (false, (q.2.1, s.2 ++ [.mk kind zj q.2.2]))
def zud (kind : Int) (f : St → Ans) : St → Ans := fun s => (f (s.1, [])).bind fun q => some (q.1, (q.2.1, s.2 ++ [.mk kind zj q.2.2]))
def ze9 (kind : Int) (f : St → Ans) : St → Ans := fun s => match s.2.getLast? with
 | none => none
 | some t => (f (s.1, [t])).bind fun q => some (false, (q.2.1, s.2.dropLast ++ [.mk kind zj q.2.2]))
def zb4 (l : Nat) : List ByteArray := match l with
 | 0 => [(⟨#[124, 124]⟩ : ByteArray)]
 | 1 => [(⟨#[38, 38]⟩ : ByteArray)]
 | 2 => [(⟨#[61, 61]⟩ : ByteArray), (⟨#[60]⟩ : ByteArray)]
 | 3 => [(⟨#[43]⟩ : ByteArray), (⟨#[45]⟩ : ByteArray)]
 | _ => [(⟨#[42]⟩ : ByteArray), (⟨#[47]⟩ : ByteArray)]
def step (T : List Tok) (r : NT → St → Ans) : NT → St → Ans
  | .block => zbt 21 (r .blockB)
  | .blockB => fun s => (r .stmts (zx T (⟨#[123]⟩ : ByteArray) s)).bind fun q => some (false, zx T (⟨#[125]⟩ : ByteArray) (if q.1 = true then q.2 else ze0 q.2))
  | .stmts => fun s => if (!atT T s.1 [(⟨#[125]⟩ : ByteArray)] && !eofT T s.1 && !atT T s.1 zei) = true then (r .statement s).bind fun q => (if q.1 = true then some (true, q.2) else r .stmts q.2) else some (false, s)
  | .statement => fun s =>
    if atT T s.1 [(⟨#[108, 101, 116]⟩ : ByteArray)] = true then zbt 22 (r .letS) s
    else if atT T s.1 [(⟨#[119, 104, 105, 108, 101]⟩ : ByteArray)] = true then zbt 24 (r .whileB) s
    else if atT T s.1 [(⟨#[114, 101, 116, 117, 114, 110]⟩ : ByteArray)] = true then zbt 25 (r .returnS) s
    else (if atT T s.1 [(⟨#[105, 102]⟩ : ByteArray), (⟨#[109, 97, 116, 99, 104]⟩ : ByteArray), (⟨#[123]⟩ : ByteArray)] = true then r .primary s else r .expr s).bind fun q =>
      if q.2.1 = s.1 then (match q.2.2.getLast? with | none => none | some _ => some (false, zes T (q.2.1, q.2.2.dropLast)))
      else if atT T q.2.1 [(⟨#[125]⟩ : ByteArray)] = true then some (true, q.2)
      else if atT T q.2.1 [(⟨#[61]⟩ : ByteArray)] = true then ze9 23 (r .assignB) q.2
      else ze9 26 (r (.exprStmtB (atT T s.1 [(⟨#[105, 102]⟩ : ByteArray), (⟨#[109, 97, 116, 99, 104]⟩ : ByteArray), (⟨#[123]⟩ : ByteArray)]))) q.2
  | .letS => sqL [st (zz T), r .pattern, r (.opt (⟨#[58]⟩ : ByteArray) .typeExpr), st (zx T (⟨#[61]⟩ : ByteArray)), r .expr, st (zx T (⟨#[59]⟩ : ByteArray))]
  | .whileB => sqL [st (zz T), r .expr, r .block]
  | .returnS => sqL [st (zz T), fun s => (if atT T s.1 [(⟨#[59]⟩ : ByteArray)] = true then some (false, ze0 s) else r .expr s), st (zx T (⟨#[59]⟩ : ByteArray))]
  | .assignB => sqL [st (zz T), r .expr, st (zx T (⟨#[59]⟩ : ByteArray))]
  | .exprStmtB bl => fun s => if atT T s.1 [(⟨#[59]⟩ : ByteArray)] = true then some (false, zz T s) else if bl = true then some (false, s) else some (false, zev s)
  | .expr => r (.binary 0)
  | .binary l => if l = 5 then r .unary else sqL [r (.binary (l + 1)), r (.binLoop l)]
  | .binLoop l => fun s => if atT T s.1 (zb4 l) = true then (ze9 39 (r (.binRhs l)) s).bind fun q => (if l = 2 then some (false, q.2) else r (.binLoop l) q.2) else some (false, s)
  | .binRhs l => sqL [st (zz T), r (.binary (l + 1))]
  | .unary => fun s => if atT T s.1 [(⟨#[45]⟩ : ByteArray), (⟨#[33]⟩ : ByteArray), (⟨#[42]⟩ : ByteArray)] = true then zbt 40 (r .unaryB) s else if atT T s.1 [(⟨#[38]⟩ : ByteArray)] = true then zbt 41 (r .borrowB) s else sqL [r .primary, r .postf] s
  | .unaryB => sqL [st (zz T), r .unary]
  | .borrowB => sqL [st (zz T), st (fun s => zbq T s [(⟨#[109, 117, 116]⟩ : ByteArray)]), r .unary]
  | .arguments => sqL [st (zz T), r (.list (⟨#[41]⟩ : ByteArray) .expr)]
  | .postf => fun s => if atT T s.1 [(⟨#[40]⟩ : ByteArray), (⟨#[46]⟩ : ByteArray)] = true then
      (if atT T s.1 [(⟨#[40]⟩ : ByteArray)] = true then ze9 30 (r .arguments) s
       else if (idT T (zb1 T s.1) && atT T (zb1 T (zb1 T s.1)) [(⟨#[40]⟩ : ByteArray)]) = true then ze9 31 (r .mcallB) s else ze9 32 (r .fieldB) s).bind fun q => r .postf q.2
    else some (false, s)
  | .mcallB => sqL [st (zz T), st (zz T), r .arguments]
  | .fieldB => sqL [st (zz T), st (zao T)]
  | .primary => fun s =>
    if (zal T s.1).1 = 105 then zbt 27 (r .bump) s
    else if (zal T s.1).1 = 106 then zbt 29 (r .bump) s
    else if atT T s.1 [(⟨#[116, 114, 117, 101]⟩ : ByteArray), (⟨#[102, 97, 108, 115, 101]⟩ : ByteArray)] = true then zbt 28 (r .bump) s
    else if (zal T s.1).1 = 103 then (r (.path false) s).bind fun q => (if (atT T q.2.1 [(⟨#[33]⟩ : ByteArray)] && atT T (zb1 T q.2.1) [(⟨#[40]⟩ : ByteArray)]) = true then ze9 42 (r .macroB) q.2 else some (false, q.2))
    else if atT T s.1 [(⟨#[40]⟩ : ByteArray)] = true then zbt 60 (r .parenB) s
    else if atT T s.1 [(⟨#[123]⟩ : ByteArray)] = true then r .block s
    else if atT T s.1 [(⟨#[105, 102]⟩ : ByteArray)] = true then r .ifExpr s
    else if atT T s.1 [(⟨#[109, 97, 116, 99, 104]⟩ : ByteArray)] = true then zbt 35 (r .matchS) s
    else if atT T s.1 [(⟨#[110, 101, 119]⟩ : ByteArray)] = true then zbt 33 (r .structS) s
    else if atT T s.1 [(⟨#[124]⟩ : ByteArray), (⟨#[124, 124]⟩ : ByteArray)] = true then zbt 38 (r .lambda) s
    else some (false, ze5 s)
  | .macroB => sqL [st (zz T), r .arguments]
  | .parenB => sqL [st (zz T), r .expr, st (zx T (⟨#[41]⟩ : ByteArray))]
  | .ifExpr => zbt 37 (r .ifB)
  | .ifB => sqL [st (zz T), r .expr, r .block, r (.opt (⟨#[101, 108, 115, 101]⟩ : ByteArray) .elseB)]
  | .elseB => fun s => if atT T s.1 [(⟨#[105, 102]⟩ : ByteArray)] = true then r .ifExpr s else r .block s
  | .matchS => sqL [st (zz T), r .expr, st (zx T (⟨#[123]⟩ : ByteArray)), r (.list (⟨#[125]⟩ : ByteArray) .armE)]
  | .armE => fun s => if (idT T s.1 || decide ((zal T s.1).1 = 105) || atT T s.1 [(⟨#[116, 114, 117, 101]⟩ : ByteArray), (⟨#[102, 97, 108, 115, 101]⟩ : ByteArray), (⟨#[109, 117, 116]⟩ : ByteArray)]) = true then zbt 36 (r .armB) s else some (false, s)
  | .armB => sqL [r .pattern, st (zx T (⟨#[61, 62]⟩ : ByteArray)), r .expr]
  | .structS => sqL [st (zz T), r (.path false), st (zx T (⟨#[123]⟩ : ByteArray)), r (.list (⟨#[125]⟩ : ByteArray) .initE)]
  | .initE => fun s => if idT T s.1 = true then zbt 34 (r .initB) s else some (false, s)
  | .initB => sqL [st (zz T), st (zx T (⟨#[58]⟩ : ByteArray)), r .expr]
  | .lambda => fun s => if atT T s.1 [(⟨#[124, 124]⟩ : ByteArray)] = true then sqL [st (zz T), zbt 12 (r .emptyB), r .expr] s else sqL [st (zz T), r (.params (⟨#[124]⟩ : ByteArray)), r .expr] s
  | .emptyB => fun s => some (false, s)
  | .pattern => fun s =>
    if atT T s.1 [(⟨#[109, 117, 116]⟩ : ByteArray)] = true then zbt 44 (r .mutB) s
    else if (idT T s.1 && decide ((zal T s.1).2 = (⟨#[95]⟩ : ByteArray))) = true then zbt 43 (r .bump) s
    else if (idT T s.1 && !atT T (zb1 T s.1) [(⟨#[40]⟩ : ByteArray), (⟨#[58, 58]⟩ : ByteArray)]) = true then zbt 44 (r .bump) s
    else if idT T s.1 = true then zbt 45 (r .variantB) s
    else if (zal T s.1).1 = 105 then zbt 27 (r .bump) s
    else if atT T s.1 [(⟨#[116, 114, 117, 101]⟩ : ByteArray), (⟨#[102, 97, 108, 115, 101]⟩ : ByteArray)] = true then zbt 28 (r .bump) s
    else some (false, ze5 s)
  | .mutB => sqL [st (zz T), st (zao T)]
  | .variantB => sqL [r (.path false), fun s => if atT T s.1 [(⟨#[40]⟩ : ByteArray)] = true then r (.list (⟨#[41]⟩ : ByteArray) .pattern) (zz T s) else some (false, s)]
  | .list closing e => sqL [r (.listLoop closing e), st (zx T closing)]
  | .listLoop closing e => fun s => if (!atT T s.1 [closing] && !eofT T s.1 && !zea T s.1) = true then
      (r e s).bind fun q => r (.listLoop closing e) (if q.2.1 = s.1 then zes T q.2 else if atT T q.2.1 [closing] = true then q.2 else zx T (⟨#[44]⟩ : ByteArray) q.2)
    else some (false, s)
  | .item => fun s =>
    if zb0 (zal T (if atT T s.1 [(⟨#[112, 117, 98]⟩ : ByteArray)] = true then zb1 T s.1 else s.1)).2 = 0 ∨ (zal T (if atT T s.1 [(⟨#[112, 117, 98]⟩ : ByteArray)] = true then zb1 T s.1 else s.1)).1 ≠ 104 then r .skipToItem s
    else zbt (zb0 (zal T (if atT T s.1 [(⟨#[112, 117, 98]⟩ : ByteArray)] = true then zb1 T s.1 else s.1)).2) (r (.itemB (zb0 (zal T (if atT T s.1 [(⟨#[112, 117, 98]⟩ : ByteArray)] = true then zb1 T s.1 else s.1)).2))) s
  | .itemB kind => sqL [st (fun s => zbq T s [(⟨#[112, 117, 98]⟩ : ByteArray)]), st (zz T), r (.itemBody kind)]
  | .skipToItem => zbt 46 (r .skipB)
  | .skipB => sqL [st (zz T), r .skipLoop]
  | .skipLoop => fun s => if (!eofT T s.1 && !atT T s.1 zei) = true then r .skipLoop (zz T s) else some (false, s)
  | .itemBody kind =>
    if kind = 2 then r .useS
    else if kind = 3 then r (.function true)
    else if kind = 4 ∨ kind = 5 then r (.dataType kind)
    else if kind = 6 then sqL [st (zao T), r .members]
    else if kind = 7 then r .implS
    else if kind = 8 then sqL [st (zao T), st (zx T (⟨#[58]⟩ : ByteArray)), r .typeExpr, st (zx T (⟨#[61]⟩ : ByteArray)), r .expr, st (zx T (⟨#[59]⟩ : ByteArray))]
    else if kind = 9 then sqL [st (zao T), st (zx T (⟨#[40]⟩ : ByteArray)), r (.params (⟨#[41]⟩ : ByteArray)), st (zx T (⟨#[61]⟩ : ByteArray)), r .expr, st (zx T (⟨#[59]⟩ : ByteArray))]
    else fun s => some (false, s)
  | .useS => fun s => (zud 17 (r .usePathB) s).bind fun q => some (false, zx T (⟨#[59]⟩ : ByteArray) (if q.1 = true then zz T (zz T q.2) else if atT T q.2.1 [(⟨#[97, 115]⟩ : ByteArray)] = true then zao T (zz T q.2) else q.2))
  | .usePathB => fun s => (zbt 18 (r .expectId) s).bind fun q => r .useLoop q.2
  | .useLoop => fun s => if atT T s.1 [(⟨#[58, 58]⟩ : ByteArray)] = true then (if atT T (zb1 T s.1) [(⟨#[42]⟩ : ByteArray)] = true then some (true, s) else (zbt 18 (r .expectId) (zz T s)).bind fun q => r .useLoop q.2) else some (false, s)
  | .typeParams => zbt 10 (r .typeParamsB)
  | .typeParamsB => fun s => if atT T s.1 [(⟨#[60]⟩ : ByteArray)] = true then r (.list (⟨#[62]⟩ : ByteArray) .typeParam) (zz T s) else some (false, s)
  | .typeParam => fun s => if idT T s.1 = true then zbt 11 (r .typeParamB) s else some (false, s)
  | .typeParamB => fun s => if atT T (zz T s).1 [(⟨#[58]⟩ : ByteArray)] = true then sqL [r (.path true), r .boundLoop] (zz T (zz T s)) else some (false, zz T s)
  | .boundLoop => fun s => if atT T s.1 [(⟨#[43]⟩ : ByteArray)] = true then sqL [r (.path true), r .boundLoop] (zz T s) else some (false, s)
  | .params closing => zbt 12 (r (.paramsB closing))
  | .paramsB closing => r (.list closing .paramE)
  | .paramE => fun s => if idT T s.1 = true then zbt 13 (r .paramB) s else some (false, s)
  | .paramB => sqL [st (zz T), r (.opt (⟨#[58]⟩ : ByteArray) .typeExpr)]
  | .function needs => sqL [st (zao T), r .typeParams, st (zx T (⟨#[40]⟩ : ByteArray)), r (.params (⟨#[41]⟩ : ByteArray)), r (.opt (⟨#[45, 62]⟩ : ByteArray) .typeExpr), fun s => if needs = false ∧ atT T s.1 [(⟨#[59]⟩ : ByteArray)] = true then some (false, ze0 (zz T s)) else r .block s]
  | .dataType kind => sqL [st (zao T), r .typeParams, st (zx T (⟨#[123]⟩ : ByteArray)), r (.list (⟨#[125]⟩ : ByteArray) (.dataE kind))]
  | .dataE kind => fun s => if idT T s.1 = true then (if kind = 4 then zbt 14 (r .fieldDeclB) s else zbt 15 (r .variantDeclB) s) else some (false, s)
  | .fieldDeclB => sqL [st (zz T), st (zx T (⟨#[58]⟩ : ByteArray)), r .typeExpr]
  | .variantDeclB => fun s => if atT T (zz T s).1 [(⟨#[40]⟩ : ByteArray)] = true then r (.list (⟨#[41]⟩ : ByteArray) .typeExpr) (zz T (zz T s)) else some (false, zz T s)
  | .members => sqL [st (zx T (⟨#[123]⟩ : ByteArray)), r .membersLoop, st (zx T (⟨#[125]⟩ : ByteArray))]
  | .membersLoop => fun s => if atT T s.1 [(⟨#[116, 121, 112, 101]⟩ : ByteArray), (⟨#[102, 110]⟩ : ByteArray)] = true then (if atT T s.1 [(⟨#[102, 110]⟩ : ByteArray)] = true then zbt 3 (r .methodB) s else zbt 16 (r .assocB) s).bind fun q => r .membersLoop q.2 else some (false, s)
  | .methodB => sqL [st (zz T), r (.function false)]
  | .assocB => sqL [st (zz T), st (zao T), r (.opt (⟨#[61]⟩ : ByteArray) .typeExpr), st (zx T (⟨#[59]⟩ : ByteArray))]
  | .implS => sqL [r .typeParams, r .typeExpr, fun s => if atT T s.1 [(⟨#[102, 111, 114]⟩ : ByteArray)] = true then r .typeExpr (zz T s) else (match s.2.getLast? with
      | none => none
      | some t => some (false, (s.1, s.2.dropLast ++ [.mk 0 zj [], t]))), r .members]
  | .path ty => zbt 17 (r (.pathB ty))
  | .pathB ty => r (.pathLoop ty true)
  | .pathLoop ty first => fun s => if first = true then sqL [zbt 18 (r (.segB ty)), r (.pathLoop ty false)] s else if atT T s.1 [(⟨#[58, 58]⟩ : ByteArray)] = true then sqL [zbt 18 (r (.segB ty)), r (.pathLoop ty false)] (zz T s) else some (false, s)
  | .segB ty => sqL [st (zao T), fun s => if ty = true ∧ atT T s.1 [(⟨#[60]⟩ : ByteArray)] = true then r (.list (⟨#[62]⟩ : ByteArray) .typeExpr) (zz T s) else some (false, s)]
  | .typeExpr => fun s =>
    if atT T s.1 [(⟨#[38]⟩ : ByteArray)] = true then zbt 19 (r .refB) s
    else if atT T s.1 [(⟨#[102, 110]⟩ : ByteArray)] = true then zbt 20 (r .funcTypeB) s
    else if idT T s.1 = true then r (.path true) s
    else some (false, ze5 s)
  | .refB => sqL [st (zz T), st (fun s => zbq T s [(⟨#[109, 117, 116]⟩ : ByteArray)]), r .typeExpr]
  | .funcTypeB => sqL [st (zz T), st (zx T (⟨#[40]⟩ : ByteArray)), r (.list (⟨#[41]⟩ : ByteArray) .typeExpr), r (.opt (⟨#[45, 62]⟩ : ByteArray) .typeExpr)]
  | .bump => st (zz T)
  | .expectId => st (zao T)
  | .opt text e => fun s => if atT T s.1 [text] = true then r e (zz T s) else some (false, ze0 s)
  | .items => fun s => if eofT T s.1 = true then some (false, s) else (r .item s).bind fun q => r .items q.2
def fit (T : List Tok) (s : St) : Bool := decide (s.1 ≤ T.length) && decide (s.2.length ≤ 10000000)
def run (T : List Tok) : Nat → NT → St → Ans
 | 0, _, _ => none
 | k + 1, x, s => if fit T s = true then (step T (run T k) x s).bind fun q => if fit T q.2 = true then some q else none else none
end Go.Proofs.YtmoelofaojgjfaaGreatDoor.Par
namespace Go.Proofs.YtmoelofaojgjfaaGreatDoor.Par
structure Soft (W : List Tok) : Prop where
 id : (zal W 0).1 ≠ 103
 par : (zal W 0).2 ≠ (⟨#[40]⟩ : ByteArray)
 col : (zal W 0).2 ≠ (⟨#[58, 58]⟩ : ByteArray)
 star : (zal W 0).2 ≠ (⟨#[42]⟩ : ByteArray)
structure Ev where
 T : List Tok
 T' : List Tok
 W : List Tok
 W' : List Tok
def Sig (T : List Tok) (p : Nat) : Prop := ∃ t ∈ T.drop p, triv t.1 = false
def Live (E : Ev) (p : Nat) : Prop := Sig E.T p ∨ (E.W = [] ∧ E.W' = [])
structure Pos (E : Ev) (p p' : Nat) : Prop where
 eq : p' + E.T.length + E.W'.length = p + E.T'.length + E.W.length
 dr : ∃ C, E.T.drop p = C ++ E.W ∧ E.T'.drop p' = C ++ E.W'
 le : p ≤ E.T.length
 le' : p' ≤ E.T'.length
 tr : ∀ t ∈ E.W, triv t.1 = true
 sf : Soft E.W'
theorem Sig.anti {T : List Tok} {p p' : Nat} (h : Sig T p') (hl : p ≤ p') : Sig T p := by
 obtain ⟨t, ht, h2⟩ := h
 have e : T.drop p' = (T.drop p).drop (p' - p) := by rw [List.drop_drop]; congr 1; omega
 exact ⟨t, List.mem_of_mem_drop (e ▸ ht), h2⟩
theorem Live.anti {E : Ev} {p p' : Nat} (h : Live E p') (hl : p ≤ p') : Live E p := h.imp (fun h => h.anti hl) id
theorem zmr {T : List Tok} {p : Nat} (h : zal T p ≠ (100, zj)) : Sig T p := by
 unfold zal at h
 cases hf : (T.drop p).find? (fun t => !triv t.1) with
 | none => rw [hf] at h; exact absurd rfl h
 | some t => exact ⟨t, List.mem_of_find?_eq_some hf, by simpa using List.find?_some hf⟩
theorem zke {T : List Tok} {p : Nat} {l : List ByteArray} (h : atT T p l = true) : Sig T p := zmr fun e => by
 unfold atT at h
 rw [e] at h
 simp at h
theorem z0k {T : List Tok} {p : Nat} (h : idT T p = true) : Sig T p := zmr fun e => by
 unfold idT at h
 rw [e] at h
 simp at h
end Go.Proofs.YtmoelofaojgjfaaGreatDoor.Par
namespace Go.Proofs.YtmoelofaojgjfaaGreatDoor.Par
variable {E : Ev} {p p' : Nat}
theorem zue {T : List Tok} {p : Nat} (h : ¬ Sig T p) : zal T p = (100, zj) := Classical.byContradiction fun k => h (zmr k)
theorem Pos.core (h : Pos E p p') (hl : Live E p) : ∃ C, E.T.drop p = C ++ E.W ∧ E.T'.drop p' = C ++ E.W' ∧ ((∃ t ∈ C, triv t.1 = false) ∨ (E.W = [] ∧ E.W' = [])) := by
 obtain ⟨C, h1, h2⟩ := h.dr
 refine ⟨C, h1, h2, hl.imp (fun ⟨t, ht, k⟩ => ?_) id⟩
 rw [h1] at ht
 rcases List.mem_append.1 ht with ht | ht
 ·exact ⟨t, ht, k⟩
 ·rw [h.tr t ht] at k
  cases k
theorem Pos.peek (h : Pos E p p') (hl : Live E p) : zal E.T' p' = zal E.T p := by
 obtain ⟨C, h1, h2, h3⟩ := h.core hl
 unfold zal
 rw [h1, h2, List.find?_append, List.find?_append]
 rcases h3 with ⟨t, ht, k⟩ | ⟨e1, e2⟩
 ·cases hf : C.find? (fun t => !triv t.1) with
  | none =>
   have := List.find?_eq_none.1 hf t ht
   rw [k] at this
   exact absurd rfl this
  | some t => rfl
 ·rw [e1, e2]
theorem Pos.at (h : Pos E p p') (hl : Live E p) (l : List ByteArray) : atT E.T' p' l = atT E.T p l := by unfold atT; rw [h.peek hl]
theorem Pos.eof (h : Pos E p p') (hl : Live E p) : eofT E.T' p' = eofT E.T p := by unfold eofT; rw [h.peek hl]
theorem Pos.id (h : Pos E p p') (hl : Live E p) : idT E.T' p' = idT E.T p := by unfold idT; rw [h.peek hl]
theorem Pos.item (h : Pos E p p') (hl : Live E p) : zea E.T' p' = zea E.T p := by unfold zea; rw [h.at hl, h.at hl]
theorem zth {α : Type} {p : α → Bool} {a b : List α} (h : ∃ t ∈ a, p t = false) : (a ++ b).takeWhile p = a.takeWhile p ∧ (a.takeWhile p).length < a.length := by
 induction a with
 | nil => obtain ⟨t, ht, _⟩ := h; cases ht
 | cons x a ih =>
  cases hx : p x with
  | false => simp [List.takeWhile_cons, hx]
  | true =>
   have h2 : ∃ t ∈ a, p t = false := by
    obtain ⟨t, ht, k⟩ := h
    rcases List.mem_cons.1 ht with rfl | ht
    ·rw [hx] at k; cases k
    ·exact ⟨t, ht, k⟩
   obtain ⟨i1, i2⟩ := ih h2
   simp only [List.cons_append, List.takeWhile_cons, hx, if_true, i1, List.length_cons]
   exact ⟨trivial, by omega⟩
theorem zjq {T : List Tok} {p : Nat} {k : List Tree} {t : Tok} (h : T[p + (za9 T p).length]? = some t) : zz T (p, k) = (p + (za9 T p).length + 1, k ++ ((za9 T p).map leaf ++ [leaf t])) := by
 have e : (zbc T (p, k)).1 = p + (za9 T p).length := rfl
 unfold zz
 rw [e, h]
 simp [zbc]
theorem zod {T : List Tok} {p : Nat} {k : List Tree} (h : T[p + (za9 T p).length]? = none) : zz T (p, k) = (p + (za9 T p).length, k ++ (za9 T p).map leaf) := by
 have e : (zbc T (p, k)).1 = p + (za9 T p).length := rfl
 unfold zz
 rw [e, h]
 rfl
theorem zhv (T : List Tok) (s : St) : s.1 ≤ (zz T s).1 := by
 have e : (zbc T s).1 = s.1 + (za9 T s.1).length := rfl
 unfold zz
 split
 ·show s.1 ≤ (zbc T s).1 + 1
  omega
 ·omega
theorem Pos.bump (h : Pos E p p') (hl : Live E p) (k k' : List Tree) : ∃ Y, (zz E.T (p, k)).2 = k ++ Y ∧ (zz E.T' (p', k')).2 = k' ++ Y ∧ Pos E (zz E.T (p, k)).1 (zz E.T' (p', k')).1 := by
 obtain ⟨C, h1, h2, h3⟩ := h.core hl
 have ht : za9 E.T' p' = za9 E.T p ∧ za9 E.T p = C.takeWhile (fun t => triv t.1) := by
  unfold za9
  rw [h1, h2]
  rcases h3 with h3 | ⟨e1, e2⟩
  ·rw [(zth h3).1, (zth h3).1]
   exact ⟨rfl, rfl⟩
  ·rw [e1, e2, List.append_nil]
   exact ⟨rfl, rfl⟩
 have hg : E.T[p + (za9 E.T p).length]? = (C ++ E.W)[(za9 E.T p).length]? := by rw [← h1, List.getElem?_drop]
 have hg' : E.T'[p' + (za9 E.T' p').length]? = (C ++ E.W')[(za9 E.T p).length]? := by rw [← h2, List.getElem?_drop, ht.1]
 have hlen : E.T.length - p = C.length + E.W.length := by rw [← List.length_drop, h1, List.length_append]
 have hlen' : E.T'.length - p' = C.length + E.W'.length := by rw [← List.length_drop, h2, List.length_append]
 have hle := h.le
 have hle' := h.le'
 have heq := h.eq
 obtain ⟨n, hn⟩ : ∃ n, (za9 E.T p).length = n := ⟨_, rfl⟩
 have hd : ∀ j, j ≤ C.length → E.T.drop (p + j) = C.drop j ++ E.W ∧ E.T'.drop (p' + j) = C.drop j ++ E.W' := fun j hj => by
  rw [← List.drop_drop, ← List.drop_drop, h1, h2, List.drop_append_of_le_length hj, List.drop_append_of_le_length hj]
  exact ⟨rfl, rfl⟩
 rw [hn] at hg hg'
 by_cases hc : n < C.length
 ·rw [List.getElem?_append_left hc, List.getElem?_eq_getElem hc] at hg hg'
  rw [zjq (by rw [hn]; exact hg), zjq (by exact hg'), ht.1, hn]
  refine ⟨_, rfl, rfl, ⟨?_, ⟨C.drop (n + 1), hd (n + 1) hc⟩, ?_, ?_, h.tr, h.sf⟩⟩
  ·show p' + n + 1 + _ + _ = p + n + 1 + _ + _
   omega
  ·show p + n + 1 ≤ _
   omega
  ·show p' + n + 1 ≤ _
   omega
 ·have hn2 : n ≤ C.length := by
   rw [← hn, ht.2]
   exact (List.takeWhile_sublist _).length_le
  rcases h3 with h3 | ⟨e1, e2⟩
  ·have := (zth (b := []) h3).2
   rw [← ht.2, hn] at this
   exact absurd this hc
  ·have g0 : C[n]? = none := List.getElem?_eq_none (by omega)
   rw [e1, List.append_nil, g0] at hg
   rw [e2, List.append_nil, g0] at hg'
   rw [zod (by rw [hn]; exact hg), zod (by exact hg'), ht.1, hn]
   refine ⟨_, rfl, rfl, ⟨?_, ⟨C.drop n, hd n hn2⟩, ?_, ?_, h.tr, h.sf⟩⟩
   ·show p' + n + _ + _ = p + n + _ + _
    omega
   ·show p + n ≤ _
    omega
   ·show p' + n ≤ _
    omega
theorem Pos.look (h : Pos E p p') (hl : Live E p) : Pos E (zb1 E.T p) (zb1 E.T' p') := by
 obtain ⟨Y, _, _, k⟩ := h.bump hl [] []
 exact k
theorem Pos.beyond (h : Pos E p p') (hl : ¬ Live E p) : zal E.T p = (100, zj) ∧ zal E.T' p' = zal E.W' 0 := by
 have hs : ¬ Sig E.T p := fun k => hl (.inl k)
 refine ⟨zue hs, ?_⟩
 obtain ⟨C, h1, h2⟩ := h.dr
 unfold zal
 rw [h2, List.find?_append, List.drop_zero]
 have : C.find? (fun t => !triv t.1) = none := List.find?_eq_none.2 fun t ht k => hs ⟨t, by rw [h1]; exact List.mem_append_left _ ht, by simpa using k⟩
 rw [this]
 rfl
theorem Pos.idS (h : Pos E p p') : idT E.T' p' = idT E.T p := by
 by_cases hl : Live E p
 ·exact h.id hl
 ·obtain ⟨h1, h2⟩ := h.beyond hl
  unfold idT
  rw [h1, h2, decide_eq_false h.sf.id]
  rfl
theorem Pos.atS (h : Pos E p p') (l : List ByteArray) (hs : ∀ x ∈ l, x = (⟨#[40]⟩ : ByteArray) ∨ x = (⟨#[58, 58]⟩ : ByteArray) ∨ x = (⟨#[42]⟩ : ByteArray)) : atT E.T' p' l = atT E.T p l := by
 by_cases hl : Live E p
 ·exact h.at hl l
 ·obtain ⟨h1, h2⟩ := h.beyond hl
  unfold atT
  rw [h1, h2]
  have : (l.any fun x => decide ((zal E.W' 0).2 = x)) = false := List.any_eq_false.2 fun x hx => by
   rw [decide_eq_true_eq]
   rcases hs x hx with rfl | rfl | rfl
   ·exact h.sf.par
   ·exact h.sf.col
   ·exact h.sf.star
  rw [this, Bool.and_false]
  rfl
theorem Pos.call (h : Pos E p p') (l : List ByteArray) (hs : ∀ x ∈ l, x = (⟨#[40]⟩ : ByteArray) ∨ x = (⟨#[58, 58]⟩ : ByteArray) ∨ x = (⟨#[42]⟩ : ByteArray)) : (idT E.T' p' && atT E.T' (zb1 E.T' p') l) = (idT E.T p && atT E.T (zb1 E.T p) l) := by
 rw [h.idS]
 cases hi : idT E.T p with
 | false => rfl
 | true => rw [(h.look (.inl (z0k hi))).atS l hs]
end Go.Proofs.YtmoelofaojgjfaaGreatDoor.Par
namespace Go.Proofs.YtmoelofaojgjfaaGreatDoor.Par
theorem zw9 {α : Type} {a X : List α} (h : X ≠ []) : (a ++ X).getLast? = X.getLast? := by
 rw [List.getLast?_append, List.getLast?_eq_some_getLast h]
 rfl
abbrev Md2 := Option (List Tree × List Tree)
def KK : Md2 → List Tree → List Tree → Prop
 | none, k, k' => k = k'
 | some m, k, k' => ∃ X, k = m.1 ++ X ∧ k' = m.2 ++ X ∧ ∃ x ∈ X, triv x.kind = false
theorem KK.app {m : Md2} {k k' : List Tree} (h : KK m k k') (Y : List Tree) : KK m (k ++ Y) (k' ++ Y) := by
 cases m with
 | none =>
  have h' : k = k' := h
  rw [h']
  rfl
 | some m =>
  obtain ⟨X, rfl, rfl, x, hx, e⟩ := h
  exact ⟨X ++ Y, by simp, by simp, x, List.mem_append_left _ hx, e⟩
theorem KK.last {m : Md2} {k k' : List Tree} {t t' : Tree} (h : KK m k k') (h1 : k.getLast? = some t) (h2 : k'.getLast? = some t') : t = t' ∧ ∀ Y, (∃ x ∈ Y, triv x.kind = false) → KK m (k.dropLast ++ Y) (k'.dropLast ++ Y) := by
 cases m with
 | none =>
  have h' : k = k' := h
  subst h'
  rw [h1] at h2
  injection h2 with h2
  exact ⟨h2, fun _ _ => rfl⟩
 | some m =>
  obtain ⟨X, rfl, rfl, x, hx, _⟩ := h
  have hX : X ≠ [] := fun e => by rw [e] at hx; cases hx
  rw [zw9 hX] at h1 h2
  rw [h1] at h2
  injection h2 with h2
  refine ⟨h2, fun Y ⟨x, hx, e⟩ => ⟨X.dropLast ++ Y, ?_, ?_, x, List.mem_append_right _ hx, e⟩⟩
  ·rw [List.dropLast_append_of_ne_nil hX, List.append_assoc]
  ·rw [List.dropLast_append_of_ne_nil hX, List.append_assoc]
structure RR (E : Ev) (m : Md2) (s s' : St) : Prop where
 pos : Pos E s.1 s'.1
 kk : KK m s.2 s'.2
structure Tr (E : Ev) (s s' u u' : St) : Prop where
 le : s.1 ≤ u.1
 sim : ∀ m, Live E u.1 → RR E m s s' → RR E m u u'
structure Pw (E : Ev) (H : Prop) (s s' : St) (a a' : Ans) : Prop where
 le : ∀ q, a = some q → s.1 ≤ q.2.1
 sim : H → ∀ m q q', a = some q → a' = some q' → Live E q.2.1 → RR E m s s' → q.1 = q'.1 ∧ RR E m q.2 q'.2
def Sm (E : Ev) (f f' : St → Ans) : Prop := ∀ s s', Pw E True s s' (f s) (f' s')
end Go.Proofs.YtmoelofaojgjfaaGreatDoor.Par
namespace Go.Proofs.YtmoelofaojgjfaaGreatDoor.Par
variable {E : Ev} {H : Prop} {s s' u u' v v' : St} {a a' b b' : Ans} {f f' g g' : St → Ans}
theorem Tr.refl : Tr E s s' s s' := ⟨Nat.le_refl _, fun _ _ h => h⟩
theorem Tr.trans (h : Tr E s s' u u') (k : Tr E u u' v v') : Tr E s s' v v' := ⟨Nat.le_trans h.le k.le, fun m hl hr => k.sim m hl (h.sim m (hl.anti k.le) hr)⟩
theorem Tr.add (t : Tree) (h : Tr E s s' u u') : Tr E s s' (addS u t) (addS u' t) := ⟨h.le, fun m hl hr => ⟨(h.sim m hl hr).pos, (h.sim m hl hr).kk.app [t]⟩⟩
theorem Tr.bump (h : Tr E s s' u u') : Tr E s s' (zz E.T u) (zz E.T' u') := h.trans ⟨zhv _ _, fun m hl hr => by
 obtain ⟨Y, h1, h2, h3⟩ := hr.pos.bump (hl.anti (zhv _ _)) u.2 u'.2
 exact ⟨h3, by rw [h1, h2]; exact hr.kk.app Y⟩⟩
theorem Tr.ite {c c' : Bool} (hc : Live E s.1 → Pos E s.1 s'.1 → c' = c) (h : Tr E s s' u u') (k : Tr E s s' v v') : Tr E s s' (if c = true then u else v) (if c' = true then u' else v') := by
 refine ⟨?_, fun m hl hr => ?_⟩
 ·cases c
  ·exact k.le
  ·exact h.le
 ·cases c
  ·rw [hc (hl.anti k.le) hr.pos]
   exact k.sim m hl hr
  ·rw [hc (hl.anti h.le) hr.pos]
   exact h.sim m hl hr
theorem Tr.expect (x : ByteArray) (h : Tr E s s' u u') : Tr E s s' (zx E.T x u) (zx E.T' x u') := h.trans (Tr.ite (fun hl hp => hp.at hl _) Tr.refl.bump (Tr.refl.add _))
theorem Tr.ident (h : Tr E s s' u u') : Tr E s s' (zao E.T u) (zao E.T' u') := h.trans (Tr.ite (fun hl hp => hp.id hl) Tr.refl.bump (Tr.refl.add _))
theorem Tr.accept (l : List ByteArray) (h : Tr E s s' u u') : Tr E s s' (zbq E.T u l) (zbq E.T' u' l) := h.trans (Tr.ite (fun hl hp => hp.at hl _) Tr.refl.bump Tr.refl)
theorem Tr.unexp (h : Tr E s s' u u') : Tr E s s' (zes E.T u) (zes E.T' u') := h.trans ⟨zhv E.T (u.1, []), fun m hl hr => by
 obtain ⟨Y, h1, h2, h3⟩ := hr.pos.bump (hl.anti (zhv E.T (u.1, []))) [] []
 refine ⟨h3, ?_⟩
 show KK m (u.2 ++ [.mk 46 zj (zz E.T (u.1, [])).2]) (u'.2 ++ [.mk 46 zj (zz E.T' (u'.1, [])).2])
 rw [h1, h2]
 exact hr.kk.app _⟩
theorem Pw.w (h : Pw E True s s' a a') : Pw E H s s' a a' := ⟨h.le, fun _ => h.sim trivial⟩
theorem Pw.ret (c : Bool) (h : Tr E s s' u u') : Pw E H s s' (some (c, u)) (some (c, u')) := ⟨fun q e => by cases e; exact h.le, fun _ m q q' e e' hl hr => by cases e; cases e'; exact ⟨rfl, h.sim m hl hr⟩⟩
theorem Pw.pre (h : Tr E s s' u u') (k : Pw E H u u' a a') : Pw E H s s' a a' := ⟨fun q e => Nat.le_trans h.le (k.le q e), fun hh m q q' e e' hl hr => k.sim hh m q q' e e' hl (h.sim m (hl.anti (k.le q e)) hr)⟩
theorem Pw.ite {c c' : Bool} (hc : H → Live E s.1 → Pos E s.1 s'.1 → c' = c) (h : Pw E H s s' a a') (k : Pw E H s s' b b') : Pw E H s s' (if c = true then a else b) (if c' = true then a' else b') := by
 refine ⟨fun q e => ?_, fun hh m q q' e e' hl hr => ?_⟩
 ·cases c
  ·exact k.le q e
  ·exact h.le q e
 ·cases c
  ·rw [hc hh (hl.anti (k.le q e)) hr.pos] at e'
   exact k.sim hh m q q' e e' hl hr
  ·rw [hc hh (hl.anti (h.le q e)) hr.pos] at e'
   exact h.sim hh m q q' e e' hl hr
theorem Pw.itp {c c' : Prop} [Decidable c] [Decidable c'] (hc : H → Live E s.1 → Pos E s.1 s'.1 → (c' ↔ c)) (h : Pw E H s s' a a') (k : Pw E H s s' b b') : Pw E H s s' (if c then a else b) (if c' then a' else b') := by
 have := Pw.ite (c := decide c) (c' := decide c') (fun h1 h2 h3 => by simp only [decide_eq_decide]; exact hc h1 h2 h3) h k
 simpa only [decide_eq_true_eq] using this
theorem Pw.bind {F F' : Bool × St → Ans} (h : Pw E H s s' a a') (k : ∀ (c : Bool) (u u' : St), Pw E (H ∧ Live E s.1 ∧ Pos E s.1 s'.1) u u' (F (c, u)) (F' (c, u'))) : Pw E H s s' (a.bind F) (a'.bind F') := by
 refine ⟨fun q e => ?_, fun hh m q q' e e' hl hr => ?_⟩
 ·obtain ⟨x, h1, h2⟩ := Option.bind_eq_some_iff.1 e
  exact Nat.le_trans (h.le x h1) ((k x.1 x.2 x.2).le q h2)
 ·obtain ⟨⟨c, u⟩, h1, h2⟩ := Option.bind_eq_some_iff.1 e
  obtain ⟨⟨c', u'⟩, h1', h2'⟩ := Option.bind_eq_some_iff.1 e'
  have k1 := (k c u u').le q h2
  have l1 : Live E u.1 := hl.anti k1
  obtain ⟨e1, r1⟩ := h.sim hh m _ _ h1 h1' l1 hr
  have e1' : c = c' := e1
  subst e1'
  exact (k c u u').sim ⟨hh, l1.anti (h.le _ h1), hr.pos⟩ m q q' h2 h2' hl r1
theorem Pw.eq {a'' : Ans} (h : H → a' = a'') (k : Pw E H s s' a a'') : Pw E H s s' a a' := ⟨k.le, fun hh => h hh ▸ k.sim hh⟩
theorem zi : Sm E (sqL []) (sqL []) := fun s s' => Pw.ret _ Tr.refl
theorem zc {fs fs' : List (St → Ans)} (h : Sm E f f') (k : Sm E (sqL fs) (sqL fs')) : Sm E (sqL (f :: fs)) (sqL (f' :: fs')) := fun s s' => by
 unfold sqL
 exact (h s s').bind fun c u u' => (k u u').w
theorem zt {F F' : St → St} (h : ∀ s s', Tr E s s' (F s) (F' s')) : Sm E (st F) (st F') := fun s s' => Pw.ret _ (h s s')
theorem zb : Sm E (st (zz E.T)) (st (zz E.T')) := zt fun _ _ => Tr.refl.bump
theorem ze (x : ByteArray) : Sm E (st (zx E.T x)) (st (zx E.T' x)) := zt fun _ _ => Tr.refl.expect x
theorem zd : Sm E (st (zao E.T)) (st (zao E.T')) := zt fun _ _ => Tr.refl.ident
theorem za (l : List ByteArray) : Sm E (st (fun s => zbq E.T s l)) (st (fun s => zbq E.T' s l)) := zt fun _ _ => Tr.refl.accept l
theorem zg (k : Int) (h : Sm E f f') : Sm E (zud k f) (zud k f') := fun s s' => by
 refine ⟨fun q e => ?_, fun _ m q q' e e' hl hr => ?_⟩
 ·obtain ⟨x, h1, h2⟩ := Option.bind_eq_some_iff.1 e
  cases h2
  exact (h (s.1, []) (s'.1, [])).le x h1
 ·obtain ⟨x, h1, h2⟩ := Option.bind_eq_some_iff.1 e
  obtain ⟨x', h1', h2'⟩ := Option.bind_eq_some_iff.1 e'
  cases h2
  cases h2'
  obtain ⟨e1, r1⟩ := (h (s.1, []) (s'.1, [])).sim trivial none x x' h1 h1' hl ⟨hr.pos, rfl⟩
  refine ⟨e1, r1.pos, ?_⟩
  show KK m (s.2 ++ [.mk k zj x.2.2]) (s'.2 ++ [.mk k zj x'.2.2])
  rw [show x.2.2 = x'.2.2 from r1.kk]
  exact hr.kk.app _
theorem zn (k : Int) (h : Sm E f f') : Sm E (zbt k f) (zbt k f') := fun s s' => by
 refine ⟨fun q e => ?_, fun _ m q q' e e' hl hr => ?_⟩
 ·obtain ⟨x, h1, h2⟩ := Option.bind_eq_some_iff.1 e
  cases h2
  exact (h (s.1, []) (s'.1, [])).le x h1
 ·obtain ⟨x, h1, h2⟩ := Option.bind_eq_some_iff.1 e
  obtain ⟨x', h1', h2'⟩ := Option.bind_eq_some_iff.1 e'
  cases h2
  cases h2'
  obtain ⟨e1, r1⟩ := (h (s.1, []) (s'.1, [])).sim trivial none x x' h1 h1' hl ⟨hr.pos, rfl⟩
  refine ⟨rfl, r1.pos, ?_⟩
  show KK m (s.2 ++ [.mk k zj x.2.2]) (s'.2 ++ [.mk k zj x'.2.2])
  rw [show x.2.2 = x'.2.2 from r1.kk]
  exact hr.kk.app _
theorem zio {k : Int} {f : St → Ans} {s : St} {q : Bool × St} (h : ze9 k f s = some q) : ∃ t x, s.2.getLast? = some t ∧ f (s.1, [t]) = some x ∧ q = (false, (x.2.1, s.2.dropLast ++ [.mk k zj x.2.2])) := by
 unfold ze9 at h
 split at h
 ·cases h
 ·rename_i t ht
  obtain ⟨x, h1, h2⟩ := Option.bind_eq_some_iff.1 h
  cases h2
  exact ⟨t, x, ht, h1, rfl⟩
theorem zw (k : Int) (h : Sm E f f') (ht : triv k = false) : Sm E (ze9 k f) (ze9 k f') := fun s s' => by
 refine ⟨fun q e => ?_, fun _ m q q' e e' hl hr => ?_⟩
 ·obtain ⟨t, x, _, h1, rfl⟩ := zio e
  exact (h (s.1, [t]) (s'.1, [t])).le x h1
 ·obtain ⟨t, x, h0, h1, rfl⟩ := zio e
  obtain ⟨t', x', h0', h1', rfl⟩ := zio e'
  obtain ⟨rfl, hk⟩ := hr.kk.last h0 h0'
  obtain ⟨e1, r1⟩ := (h (s.1, [t]) (s'.1, [t])).sim trivial none x x' h1 h1' hl ⟨hr.pos, rfl⟩
  refine ⟨rfl, r1.pos, ?_⟩
  show KK m (s.2.dropLast ++ [.mk k zj x.2.2]) (s'.2.dropLast ++ [.mk k zj x'.2.2])
  rw [show x.2.2 = x'.2.2 from r1.kk]
  exact hk _ ⟨_, List.mem_singleton.2 rfl, ht⟩
end Go.Proofs.YtmoelofaojgjfaaGreatDoor.Par
namespace Go.Proofs.YtmoelofaojgjfaaGreatDoor.Par
theorem zbp {T : List Tok} {k : Nat} {x : NT} {s : St} {q : Bool × St} (h : run T k x s = some q) : ∃ j, k = j + 1 ∧ step T (run T j) x s = some q := by
 cases k with
 | zero => cases h
 | succ j =>
  refine ⟨j, rfl, ?_⟩
  rw [run] at h
  split at h
  ·obtain ⟨x1, h1, h2⟩ := Option.bind_eq_some_iff.1 h
   split at h2
   ·cases h2
    exact h1
   ·cases h2
  ·cases h
def inner : NT → Bool
 | .item => false
 | .items => false
 | .list _ e => inner e
 | .listLoop _ e => inner e
 | .opt _ e => inner e
 | _ => true
end Go.Proofs.YtmoelofaojgjfaaGreatDoor.Par
namespace Go.Proofs.YtmoelofaojgjfaaGreatDoor.Par
variable {E : Ev} {r r' : NT → St → Ans}
theorem zqa (c : Bool) (u u' : St) : Tr E u u' (if c = true then zz E.T (zz E.T u) else if atT E.T u.1 [(⟨#[97, 115]⟩ : ByteArray)] = true then zao E.T (zz E.T u) else u) (if c = true then zz E.T' (zz E.T' u') else if atT E.T' u'.1 [(⟨#[97, 115]⟩ : ByteArray)] = true then zao E.T' (zz E.T' u') else u') := by
 cases c
 ·simp only [Bool.false_eq_true, if_false]
  exact Tr.ite (fun hl hp => hp.at hl _) Tr.refl.bump.ident Tr.refl
 ·exact Tr.refl.bump.bump
theorem zqs {g g' : St → Ans} (h : Sm E g g') : Sm E (fun s => if atT E.T s.1 [(⟨#[102, 111, 114]⟩ : ByteArray)] = true then g (zz E.T s) else (match s.2.getLast? with
   | none => none
   | some t => some (false, (s.1, s.2.dropLast ++ [.mk 0 zj [], t])))) (fun s => if atT E.T' s.1 [(⟨#[102, 111, 114]⟩ : ByteArray)] = true then g' (zz E.T' s) else (match s.2.getLast? with
   | none => none
   | some t => some (false, (s.1, s.2.dropLast ++ [.mk 0 zj [], t])))) := fun s s' => by
 refine Pw.ite (fun _ hl hp => by simp only [hp.at hl]) (Pw.pre Tr.refl.bump (h _ _)) ?_
 refine ⟨fun q e => ?_, fun _ m q q' e e' hl hr => ?_⟩
 ·split at e
  ·cases e
  ·cases e
   exact Nat.le_refl _
 ·split at e
  ·cases e
  ·rename_i t ht
   split at e'
   ·cases e'
   ·rename_i t' ht'
    cases e
    cases e'
    obtain ⟨rfl, hk⟩ := hr.kk.last ht ht'
    exact ⟨rfl, hr.pos, hk _ ⟨_, List.mem_cons_self, rfl⟩⟩
theorem zqb (hr : ∀ y, inner y = true → Sm E (r y) (r' y)) : ∀ x, inner x = true → Sm E (step E.T r x) (step E.T' r' x) := by
 intro x hx
 cases x with
 | block => exact zn _ (hr .blockB rfl)
 | blockB =>
  intro s s'
  simp only [step]
  refine Pw.bind (Pw.pre (Tr.refl.expect _) (hr .stmts rfl _ _).w) fun c u u' => ?_
  cases c
  ·exact Pw.ret _ ((Tr.refl.add _).expect _)
  ·exact Pw.ret _ (Tr.refl.expect _)
 | stmts =>
  intro s s'
  simp only [step]
  refine Pw.ite (fun _ hl hp => by simp only [hp.at hl, hp.eof hl]) (Pw.bind (hr .statement rfl _ _).w fun c u u' => ?_) (Pw.ret _ Tr.refl)
  cases c
  ·exact (hr .stmts rfl _ _).w
  ·exact Pw.ret _ Tr.refl
 | statement =>
  intro s s'
  simp only [step]
  refine Pw.ite (fun _ hl hp => by simp only [hp.at hl]) (zn _ (hr .letS rfl) _ _).w ?_
  refine Pw.ite (fun _ hl hp => by simp only [hp.at hl]) (zn _ (hr .whileB rfl) _ _).w ?_
  refine Pw.ite (fun _ hl hp => by simp only [hp.at hl]) (zn _ (hr .returnS rfl) _ _).w ?_
  refine Pw.bind (Pw.ite (fun _ hl hp => by simp only [hp.at hl]) (hr .primary rfl _ _).w (hr .expr rfl _ _).w) fun c u u' => ?_
  refine Pw.itp (fun hh hl hp => ?_) ?_ ?_
  ·have h1 := hp.eq
   have h2 := hh.2.2.eq
   show u'.1 = s'.1 ↔ u.1 = s.1
   omega
  ·refine ⟨fun q e => ?_, fun hh m q q' e e' hl hr => ?_⟩
   ·dsimp only at e
    split at e
    ·cases e
    ·cases e
     exact zhv E.T (u.1, [])
   ·dsimp only at e e'
    split at e
    ·cases e
    ·rename_i t ht
     split at e'
     ·cases e'
     ·rename_i t' ht'
      cases e
      cases e'
      refine ⟨rfl, ?_⟩
      have hb := zhv E.T (u.1, [])
      obtain ⟨Y, h1, h2, h3⟩ := hr.pos.bump (hl.anti hb) [] []
      refine ⟨h3, ?_⟩
      show KK m (u.2.dropLast ++ [.mk 46 zj (zz E.T (u.1, [])).2]) (u'.2.dropLast ++ [.mk 46 zj (zz E.T' (u'.1, [])).2])
      rw [h1, h2]
      exact (hr.kk.last ht ht').2 _ ⟨_, List.mem_singleton.2 rfl, rfl⟩
  refine Pw.ite (fun _ hl hp => by simp only [hp.at hl]) (Pw.ret _ Tr.refl) ?_
  refine Pw.ite (fun _ hl hp => by simp only [hp.at hl]) (zw _ (hr .assignB rfl) (by rfl) _ _).w ?_
  exact Pw.eq (fun hh => by rw [hh.2.2.at hh.2.1]) (zw _ (hr (.exprStmtB _) rfl) (by rfl) _ _).w
 | letS => exact zc zb (zc (hr .pattern rfl) (zc (hr (.opt _ .typeExpr) rfl) (zc (ze _) (zc (hr .expr rfl) (zc (ze _) zi)))))
 | whileB => exact zc zb (zc (hr .expr rfl) (zc (hr .block rfl) zi))
 | returnS =>
  refine zc zb (zc (fun s s' => ?_) (zc (ze _) zi))
  exact Pw.ite (fun _ hl hp => by simp only [hp.at hl]) (Pw.ret _ (Tr.refl.add _)) (hr .expr rfl _ _)
 | assignB => exact zc zb (zc (hr .expr rfl) (zc (ze _) zi))
 | exprStmtB bl =>
  intro s s'
  simp only [step]
  refine Pw.ite (fun _ hl hp => by simp only [hp.at hl]) (Pw.ret _ Tr.refl.bump) ?_
  exact Pw.ite (fun _ _ _ => rfl) (Pw.ret _ Tr.refl) (Pw.ret _ (Tr.refl.add _))
 | expr => exact hr (.binary 0) rfl
 | binary l =>
  simp only [step]
  by_cases h : l = 5
  ·rw [if_pos h, if_pos h]
   exact hr .unary rfl
  ·rw [if_neg h, if_neg h]
   exact zc (hr (.binary _) rfl) (zc (hr (.binLoop _) rfl) zi)
 | binLoop l =>
  intro s s'
  simp only [step]
  refine Pw.ite (fun _ hl hp => by simp only [hp.at hl]) (Pw.bind (zw _ (hr (.binRhs l) rfl) (by rfl) _ _).w fun c u u' => ?_) (Pw.ret _ Tr.refl)
  exact Pw.itp (fun _ _ _ => Iff.rfl) (Pw.ret _ Tr.refl) (hr (.binLoop l) rfl _ _).w
 | binRhs l => exact zc zb (zc (hr (.binary _) rfl) zi)
 | unary =>
  intro s s'
  simp only [step]
  refine Pw.ite (fun _ hl hp => by simp only [hp.at hl]) (zn _ (hr .unaryB rfl) _ _) ?_
  refine Pw.ite (fun _ hl hp => by simp only [hp.at hl]) (zn _ (hr .borrowB rfl) _ _) ?_
  exact zc (hr .primary rfl) (zc (hr .postf rfl) zi) _ _
 | unaryB => exact zc zb (zc (hr .unary rfl) zi)
 | borrowB => exact zc zb (zc (za _) (zc (hr .unary rfl) zi))
 | arguments => exact zc zb (zc (hr (.list _ .expr) rfl) zi)
 | postf =>
  intro s s'
  simp only [step]
  refine Pw.ite (fun _ hl hp => by simp only [hp.at hl]) (Pw.bind ?_ fun c u u' => (hr .postf rfl _ _).w) (Pw.ret _ Tr.refl)
  refine Pw.ite (fun _ hl hp => by simp only [hp.at hl]) (zw _ (hr .arguments rfl) (by rfl) _ _) ?_
  exact Pw.ite (fun _ hl hp => (hp.look hl).call _ (by simp)) (zw _ (hr .mcallB rfl) (by rfl) _ _) (zw _ (hr .fieldB rfl) (by rfl) _ _)
 | mcallB => exact zc zb (zc zb (zc (hr .arguments rfl) zi))
 | fieldB => exact zc zb (zc zd zi)
 | primary =>
  intro s s'
  simp only [step]
  refine Pw.itp (fun _ hl hp => by rw [hp.peek hl]) (zn _ (hr .bump rfl) _ _) ?_
  refine Pw.itp (fun _ hl hp => by rw [hp.peek hl]) (zn _ (hr .bump rfl) _ _) ?_
  refine Pw.ite (fun _ hl hp => by simp only [hp.at hl]) (zn _ (hr .bump rfl) _ _) ?_
  refine Pw.itp (fun _ hl hp => by rw [hp.peek hl]) (Pw.bind (hr (.path false) rfl _ _) fun c u u' => ?_) ?_
  ·exact Pw.ite (fun _ hl hp => by simp only [hp.at hl, (hp.look hl).atS _ (show ∀ x ∈ [((⟨#[40]⟩ : ByteArray) : ByteArray)], _ by simp)]) (zw _ (hr .macroB rfl) (by rfl) _ _).w (Pw.ret _ Tr.refl)
  refine Pw.ite (fun _ hl hp => by simp only [hp.at hl]) (zn _ (hr .parenB rfl) _ _) ?_
  refine Pw.ite (fun _ hl hp => by simp only [hp.at hl]) (hr .block rfl _ _) ?_
  refine Pw.ite (fun _ hl hp => by simp only [hp.at hl]) (hr .ifExpr rfl _ _) ?_
  refine Pw.ite (fun _ hl hp => by simp only [hp.at hl]) (zn _ (hr .matchS rfl) _ _) ?_
  refine Pw.ite (fun _ hl hp => by simp only [hp.at hl]) (zn _ (hr .structS rfl) _ _) ?_
  exact Pw.ite (fun _ hl hp => by simp only [hp.at hl]) (zn _ (hr .lambda rfl) _ _) (Pw.ret _ (Tr.refl.add _))
 | macroB => exact zc zb (zc (hr .arguments rfl) zi)
 | parenB => exact zc zb (zc (hr .expr rfl) (zc (ze _) zi))
 | ifExpr => exact zn _ (hr .ifB rfl)
 | ifB => exact zc zb (zc (hr .expr rfl) (zc (hr .block rfl) (zc (hr (.opt _ .elseB) rfl) zi)))
 | elseB =>
  intro s s'
  exact Pw.ite (fun _ hl hp => by simp only [hp.at hl]) (hr .ifExpr rfl _ _) (hr .block rfl _ _)
 | matchS => exact zc zb (zc (hr .expr rfl) (zc (ze _) (zc (hr (.list _ .armE) rfl) zi)))
 | armE =>
  intro s s'
  exact Pw.ite (fun _ hl hp => by simp only [hp.at hl, hp.id hl, hp.peek hl]) (zn _ (hr .armB rfl) _ _) (Pw.ret _ Tr.refl)
 | armB => exact zc (hr .pattern rfl) (zc (ze _) (zc (hr .expr rfl) zi))
 | structS => exact zc zb (zc (hr (.path false) rfl) (zc (ze _) (zc (hr (.list _ .initE) rfl) zi)))
 | initE =>
  intro s s'
  exact Pw.ite (fun _ hl hp => hp.id hl) (zn _ (hr .initB rfl) _ _) (Pw.ret _ Tr.refl)
 | initB => exact zc zb (zc (ze _) (zc (hr .expr rfl) zi))
 | lambda =>
  intro s s'
  exact Pw.ite (fun _ hl hp => by simp only [hp.at hl]) (zc zb (zc (zn _ (hr .emptyB rfl)) (zc (hr .expr rfl) zi)) _ _) (zc zb (zc (hr (.params _) rfl) (zc (hr .expr rfl) zi)) _ _)
 | emptyB => exact fun s s' => Pw.ret _ Tr.refl
 | pattern =>
  intro s s'
  simp only [step]
  refine Pw.ite (fun _ hl hp => by simp only [hp.at hl]) (zn _ (hr .mutB rfl) _ _) ?_
  refine Pw.ite (fun _ hl hp => by simp only [hp.id hl, hp.peek hl]) (zn _ (hr .bump rfl) _ _) ?_
  refine Pw.ite (fun _ hl hp => by simp only [hp.id hl, (hp.look hl).atS _ (show ∀ x ∈ [((⟨#[40]⟩ : ByteArray) : ByteArray), (⟨#[58, 58]⟩ : ByteArray)], _ by simp)]) (zn _ (hr .bump rfl) _ _) ?_
  refine Pw.ite (fun _ hl hp => hp.id hl) (zn _ (hr .variantB rfl) _ _) ?_
  refine Pw.itp (fun _ hl hp => by rw [hp.peek hl]) (zn _ (hr .bump rfl) _ _) ?_
  exact Pw.ite (fun _ hl hp => by simp only [hp.at hl]) (zn _ (hr .bump rfl) _ _) (Pw.ret _ (Tr.refl.add _))
 | mutB => exact zc zb (zc zd zi)
 | variantB =>
  refine zc (hr (.path false) rfl) (zc (fun s s' => ?_) zi)
  exact Pw.ite (fun _ hl hp => by simp only [hp.at hl]) (Pw.pre Tr.refl.bump (hr (.list _ .pattern) rfl _ _)) (Pw.ret _ Tr.refl)
 | list c e => exact zc (hr (.listLoop c e) hx) (zc (ze _) zi)
 | listLoop c e =>
  intro s s'
  simp only [step]
  refine Pw.ite (fun _ hl hp => by simp only [hp.at hl, hp.eof hl, hp.item hl]) (Pw.bind (hr e hx _ _) fun b u u' => ?_) (Pw.ret _ Tr.refl)
  have h1 : Tr E u u' (if atT E.T u.1 [c] = true then u else zx E.T (⟨#[44]⟩ : ByteArray) u) (if atT E.T' u'.1 [c] = true then u' else zx E.T' (⟨#[44]⟩ : ByteArray) u') := Tr.ite (fun hl hp => hp.at hl _) Tr.refl (Tr.refl.expect _)
  have h2 := hr (.listLoop c e) hx
  refine ⟨fun q y => ?_, fun hh m q q' y y' hl k => ?_⟩
  ·dsimp only at y
   by_cases hu : u.1 = s.1
   ·rw [if_pos hu] at y
    exact (Pw.pre (H := True) (Tr.refl (E := E) (s := u) (s' := u)).unexp (h2 _ _)).le q y
   ·rw [if_neg hu] at y
    exact (Pw.pre (H := True) h1 (h2 _ _)).le q y
  ·dsimp only at y y'
   have h3 : u'.1 = s'.1 ↔ u.1 = s.1 := by
    have h4 := k.pos.eq
    have h5 := hh.2.2.eq
    omega
   by_cases hu : u.1 = s.1
   ·rw [if_pos hu] at y
    rw [if_pos (h3.2 hu)] at y'
    exact (Pw.pre (H := True) Tr.refl.unexp (h2 _ _)).sim trivial m q q' y y' hl k
   ·rw [if_neg hu] at y
    rw [if_neg (fun h => hu (h3.1 h))] at y'
    exact (Pw.pre (H := True) h1 (h2 _ _)).sim trivial m q q' y y' hl k
 | item => cases hx
 | itemB kind => exact zc (za _) (zc zb (zc (hr (.itemBody _) rfl) zi))
 | skipToItem => exact zn _ (hr .skipB rfl)
 | skipB => exact zc zb (zc (hr .skipLoop rfl) zi)
 | skipLoop =>
  intro s s'
  exact Pw.ite (fun _ hl hp => by simp only [hp.at hl, hp.eof hl]) (Pw.pre Tr.refl.bump (hr .skipLoop rfl _ _)) (Pw.ret _ Tr.refl)
 | itemBody kind =>
  simp only [step]
  by_cases h2 : kind = 2
  ·rw [if_pos h2, if_pos h2]
   exact hr .useS rfl
  rw [if_neg h2, if_neg h2]
  by_cases h2 : kind = 3
  ·rw [if_pos h2, if_pos h2]
   exact hr (.function _) rfl
  rw [if_neg h2, if_neg h2]
  by_cases h2 : kind = 4 ∨ kind = 5
  ·rw [if_pos h2, if_pos h2]
   exact hr (.dataType _) rfl
  rw [if_neg h2, if_neg h2]
  by_cases h2 : kind = 6
  ·rw [if_pos h2, if_pos h2]
   exact zc zd (zc (hr .members rfl) zi)
  rw [if_neg h2, if_neg h2]
  by_cases h2 : kind = 7
  ·rw [if_pos h2, if_pos h2]
   exact hr .implS rfl
  rw [if_neg h2, if_neg h2]
  by_cases h2 : kind = 8
  ·rw [if_pos h2, if_pos h2]
   exact zc zd (zc (ze _) (zc (hr .typeExpr rfl) (zc (ze _) (zc (hr .expr rfl) (zc (ze _) zi)))))
  rw [if_neg h2, if_neg h2]
  by_cases h2 : kind = 9
  ·rw [if_pos h2, if_pos h2]
   exact zc zd (zc (ze _) (zc (hr (.params _) rfl) (zc (ze _) (zc (hr .expr rfl) (zc (ze _) zi)))))
  rw [if_neg h2, if_neg h2]
  exact fun s s' => Pw.ret _ Tr.refl
 | useS =>
  intro s s'
  simp only [step]
  exact Pw.bind (zg _ (hr .usePathB rfl) _ _) fun c u u' => Pw.ret _ (Tr.expect _ (zqa c u u'))
 | usePathB => exact fun s s' => Pw.bind (zn _ (hr .expectId rfl) _ _) fun c u u' => (hr .useLoop rfl _ _).w
 | useLoop =>
  intro s s'
  simp only [step]
  refine Pw.ite (fun _ hl hp => by simp only [hp.at hl]) ?_ (Pw.ret _ Tr.refl)
  refine Pw.ite (fun _ hl hp => (hp.look hl).atS _ (by simp)) (Pw.ret _ Tr.refl) ?_
  exact Pw.bind (Pw.pre Tr.refl.bump (zn _ (hr .expectId rfl) _ _)) fun c u u' => (hr .useLoop rfl _ _).w
 | typeParams => exact zn _ (hr .typeParamsB rfl)
 | typeParamsB => exact fun s s' => Pw.ite (fun _ hl hp => by simp only [hp.at hl]) (Pw.pre Tr.refl.bump (hr (.list _ .typeParam) rfl _ _)) (Pw.ret _ Tr.refl)
 | typeParam => exact fun s s' => Pw.ite (fun _ hl hp => hp.id hl) (zn _ (hr .typeParamB rfl) _ _) (Pw.ret _ Tr.refl)
 | typeParamB =>
  intro s s'
  simp only [step]
  refine Pw.pre Tr.refl.bump (Pw.ite (fun _ hl hp => by simp only [hp.at hl]) (Pw.pre Tr.refl.bump (zc (hr (.path true) rfl) (zc (hr .boundLoop rfl) zi) _ _)) (Pw.ret _ Tr.refl))
 | boundLoop => exact fun s s' => Pw.ite (fun _ hl hp => by simp only [hp.at hl]) (Pw.pre Tr.refl.bump (zc (hr (.path true) rfl) (zc (hr .boundLoop rfl) zi) _ _)) (Pw.ret _ Tr.refl)
 | params c => exact zn _ (hr (.paramsB c) rfl)
 | paramsB c => exact hr (.list c .paramE) rfl
 | paramE => exact fun s s' => Pw.ite (fun _ hl hp => hp.id hl) (zn _ (hr .paramB rfl) _ _) (Pw.ret _ Tr.refl)
 | paramB => exact zc zb (zc (hr (.opt _ .typeExpr) rfl) zi)
 | function needs =>
  refine zc zd (zc (hr .typeParams rfl) (zc (ze _) (zc (hr (.params _) rfl) (zc (hr (.opt _ .typeExpr) rfl) (zc (fun s s' => ?_) zi)))))
  exact Pw.itp (fun _ hl hp => by rw [hp.at hl]) (Pw.ret _ (Tr.refl.bump.add _)) (hr .block rfl _ _)
 | dataType kind => exact zc zd (zc (hr .typeParams rfl) (zc (ze _) (zc (hr (.list _ (.dataE _)) rfl) zi)))
 | dataE kind =>
  intro s s'
  exact Pw.ite (fun _ hl hp => hp.id hl) (Pw.itp (fun _ _ _ => Iff.rfl) (zn _ (hr .fieldDeclB rfl) _ _) (zn _ (hr .variantDeclB rfl) _ _)) (Pw.ret _ Tr.refl)
 | fieldDeclB => exact zc zb (zc (ze _) (zc (hr .typeExpr rfl) zi))
 | variantDeclB =>
  intro s s'
  simp only [step]
  exact Pw.pre Tr.refl.bump (Pw.ite (fun _ hl hp => by simp only [hp.at hl]) (Pw.pre Tr.refl.bump (hr (.list _ .typeExpr) rfl _ _)) (Pw.ret _ Tr.refl))
 | members => exact zc (ze _) (zc (hr .membersLoop rfl) (zc (ze _) zi))
 | membersLoop =>
  intro s s'
  simp only [step]
  refine Pw.ite (fun _ hl hp => by simp only [hp.at hl]) (Pw.bind (Pw.ite (fun _ hl hp => by simp only [hp.at hl]) (zn _ (hr .methodB rfl) _ _) (zn _ (hr .assocB rfl) _ _)) fun c u u' => (hr .membersLoop rfl _ _).w) (Pw.ret _ Tr.refl)
 | methodB => exact zc zb (zc (hr (.function _) rfl) zi)
 | assocB => exact zc zb (zc zd (zc (hr (.opt _ .typeExpr) rfl) (zc (ze _) zi)))
 | implS =>
  exact zc (hr .typeParams rfl) (zc (hr .typeExpr rfl) (zc (zqs (hr .typeExpr rfl)) (zc (hr .members rfl) zi)))
 | path ty => exact zn _ (hr (.pathB ty) rfl)
 | pathB ty => exact hr (.pathLoop ty true) rfl
 | pathLoop ty first =>
  intro s s'
  simp only [step]
  refine Pw.ite (fun _ _ _ => rfl) (zc (zn _ (hr (.segB ty) rfl)) (zc (hr (.pathLoop ty false) rfl) zi) _ _) ?_
  exact Pw.ite (fun _ hl hp => by simp only [hp.at hl]) (Pw.pre Tr.refl.bump (zc (zn _ (hr (.segB ty) rfl)) (zc (hr (.pathLoop ty false) rfl) zi) _ _)) (Pw.ret _ Tr.refl)
 | segB ty =>
  refine zc zd (zc (fun s s' => ?_) zi)
  exact Pw.itp (fun _ hl hp => by rw [hp.at hl]) (Pw.pre Tr.refl.bump (hr (.list _ .typeExpr) rfl _ _)) (Pw.ret _ Tr.refl)
 | typeExpr =>
  intro s s'
  simp only [step]
  refine Pw.ite (fun _ hl hp => by simp only [hp.at hl]) (zn _ (hr .refB rfl) _ _) ?_
  refine Pw.ite (fun _ hl hp => by simp only [hp.at hl]) (zn _ (hr .funcTypeB rfl) _ _) ?_
  exact Pw.ite (fun _ hl hp => hp.id hl) (hr (.path true) rfl _ _) (Pw.ret _ (Tr.refl.add _))
 | refB => exact zc zb (zc (za _) (zc (hr .typeExpr rfl) zi))
 | funcTypeB => exact zc zb (zc (ze _) (zc (hr (.list _ .typeExpr) rfl) (zc (hr (.opt _ .typeExpr) rfl) zi)))
 | bump => exact zb
 | expectId => exact zd
 | opt text e => exact fun s s' => Pw.ite (fun _ hl hp => by simp only [hp.at hl]) (Pw.pre Tr.refl.bump (hr e hx _ _)) (Pw.ret _ (Tr.refl.add _))
 | items => cases hx
theorem sim : ∀ (k k' : Nat) (x : NT), inner x = true → Sm E (run E.T k x) (run E.T' k' x)
 | 0, k', x, hx => fun s s' => ⟨fun q e => (by cases e), fun _ m q q' e => (by cases e)⟩
 | k + 1, k', x, hx => fun s s' => by
  refine ⟨fun q e => ?_, fun _ m q q' e e' hl hr => ?_⟩
  ·obtain ⟨j, hj, h⟩ := zbp e
   injection hj with hj
   subst hj
   exact (zqb (fun y hy => sim k 0 y hy) x hx s s').le q h
  ·obtain ⟨j, hj, h⟩ := zbp e
   injection hj with hj
   subst hj
   obtain ⟨j', rfl, h'⟩ := zbp e'
   exact (zqb (fun y hy => sim k j' y hy) x hx s s').sim trivial m q q' h h' hl hr
end Go.Proofs.YtmoelofaojgjfaaGreatDoor.Par
namespace Go.Proofs.YtmoelofaojgjfaaGreatDoor.Par
mutual
def bad : Tree → Bool
 | .mk k _ ks => decide (k = 46) || decide (k = 108) || badL ks
def badL : List Tree → Bool
 | [] => false
 | t :: ts => bad t || badL ts
end
theorem zdb (a b : List Tree) : badL (a ++ b) = (badL a || badL b) := by
 induction a with
 | nil => simp [badL]
 | cons t ts ih => simp only [List.cons_append, badL, ih, Bool.or_assoc]
theorem zdq {k : Int} {t : ByteArray} {ks : List Tree} (h : bad (.mk k t ks) = false) : k ≠ 46 ∧ k ≠ 108 ∧ badL ks = false := by
 simp only [bad, Bool.or_eq_false_iff, decide_eq_false_iff_not] at h
 exact ⟨h.1.1, h.1.2, h.2⟩
theorem zhg {a : List Tree} {t : Tree} (h : badL (a ++ [t]) = false) : badL a = false ∧ bad t = false := by
 rw [zdb, Bool.or_eq_false_iff] at h
 exact ⟨h.1, by simpa [badL] using h.2⟩
structure Cz (E : Ev) (f f' : St → Ans) : Prop where
 live : ∀ s q, f s = some q → badL q.2.2 = false → Live E s.1
 sim : ∀ s s' m q q', f s = some q → f' s' = some q' → badL q.2.2 = false → RR E m s s' → q.1 = q'.1 ∧ RR E m q.2 q'.2
end Go.Proofs.YtmoelofaojgjfaaGreatDoor.Par
namespace Go.Proofs.YtmoelofaojgjfaaGreatDoor.Par
variable {E : Ev} {f f' : St → Ans}
theorem zkt {T : List Tok} {x : ByteArray} {u : St} (h : badL (zx T x u).2 = false) : atT T u.1 [x] = true := by
 unfold zx at h
 split at h
 ·assumption
 ·have h2 : badL (u.2 ++ [Tree.mk 108 zj []]) = false := h
  exact absurd rfl (zdq (zhg h2).2).2.1
theorem RR.expect {m : Md2} {u u' : St} {x : ByteArray} (h : RR E m u u') (ha : atT E.T u.1 [x] = true) : RR E m (zx E.T x u) (zx E.T' x u') := by
 have hl : Live E u.1 := .inl (zke ha)
 unfold zx
 rw [if_pos ha, if_pos (by rw [h.pos.at hl]; exact ha)]
 obtain ⟨Y, h1, h2, h3⟩ := h.pos.bump hl u.2 u'.2
 exact ⟨h3, by rw [h1, h2]; exact h.kk.app Y⟩
theorem zhd (x : ByteArray) : Cz E (st (zx E.T x)) (st (zx E.T' x)) := ⟨fun s q e hb => by cases e; exact .inl (zke (zkt hb)), fun s s' m q q' e e' hb hr => by cases e; cases e'; exact ⟨rfl, hr.expect (zkt hb)⟩⟩
theorem zrb (a b : List (St → Ans)) (s : St) : sqL (a ++ b) s = (sqL a s).bind fun q => sqL b q.2 := by
 induction a generalizing s with
 | nil => rfl
 | cons f fs ih =>
  simp only [List.cons_append, sqL, Option.bind_assoc]
  congr 1
  funext q
  exact ih q.2
theorem ztn {fs : List (St → Ans)} {f : St → Ans} {s : St} {q : Bool × St} (e : sqL (fs ++ [f]) s = some q) : ∃ q1 q2, sqL fs s = some q1 ∧ f q1.2 = some q2 ∧ q = (false, q2.2) := by
 rw [zrb] at e
 obtain ⟨q1, h1, h2⟩ := Option.bind_eq_some_iff.1 e
 obtain ⟨q2, h3, h4⟩ := Option.bind_eq_some_iff.1 (show ((f q1.2).bind fun q => sqL [] q.2) = some q from h2)
 cases h4
 exact ⟨q1, q2, h1, h3, rfl⟩
theorem zh7 {fs fs' : List (St → Ans)} (h : Sm E (sqL fs) (sqL fs')) (k : Cz E f f') : Cz E (sqL (fs ++ [f])) (sqL (fs' ++ [f'])) := by
 refine ⟨fun s q e hb => ?_, fun s s' m q q' e e' hb hr => ?_⟩
 ·obtain ⟨q1, q2, h1, h2, rfl⟩ := ztn e
  exact (k.live q1.2 q2 h2 hb).anti ((h s s).le q1 h1)
 ·obtain ⟨q1, q2, h1, h2, rfl⟩ := ztn e
  obtain ⟨q1', q2', h1', h2', rfl⟩ := ztn e'
  obtain ⟨_, r1⟩ := (h s s').sim trivial m q1 q1' h1 h1' (k.live q1.2 q2 h2 hb) hr
  exact ⟨rfl, (k.sim q1.2 q1'.2 m q2 q2' h2 h2' hb r1).2⟩
theorem zzz (n : Int) (k : Cz E f f') : Cz E (zbt n f) (zbt n f') := by
 refine ⟨fun s q e hb => ?_, fun s s' m q q' e e' hb hr => ?_⟩
 ·obtain ⟨x, h1, h2⟩ := Option.bind_eq_some_iff.1 e
  cases h2
  exact k.live (s.1, []) x h1 (zdq (zhg hb).2).2.2
 ·obtain ⟨x, h1, h2⟩ := Option.bind_eq_some_iff.1 e
  obtain ⟨x', h1', h2'⟩ := Option.bind_eq_some_iff.1 e'
  cases h2
  cases h2'
  obtain ⟨e1, r1⟩ := k.sim (s.1, []) (s'.1, []) none x x' h1 h1' (zdq (zhg hb).2).2.2 ⟨hr.pos, rfl⟩
  refine ⟨rfl, r1.pos, ?_⟩
  show KK m (s.2 ++ [.mk n zj x.2.2]) (s'.2 ++ [.mk n zj x'.2.2])
  rw [show x.2.2 = x'.2.2 from r1.kk]
  exact hr.kk.app _
theorem zhc {x : NT} (h : ∀ j j', Cz E (step E.T (run E.T j) x) (step E.T' (run E.T' j') x)) (k k' : Nat) : Cz E (run E.T k x) (run E.T' k' x) := by
 refine ⟨fun s q e hb => ?_, fun s s' m q q' e e' hb hr => ?_⟩
 ·obtain ⟨j, rfl, h1⟩ := zbp e
  exact (h j 0).live s q h1 hb
 ·obtain ⟨j, rfl, h1⟩ := zbp e
  obtain ⟨j', rfl, h1'⟩ := zbp e'
  exact (h j j').sim s s' m q q' h1 h1' hb hr
theorem zvn (i i' : Nat) : Cz E (step E.T (run E.T i) .blockB) (step E.T' (run E.T' i') .blockB) := by
 have hp : ∀ (c : Bool) (u : St), (if c = true then u else ze0 u).1 = u.1 := fun c u => by cases c <;> rfl
 refine ⟨fun s q e hb => ?_, fun s s' m q q' e e' hb hr => ?_⟩
 ·obtain ⟨q1, h1, h2⟩ := Option.bind_eq_some_iff.1 e
  cases h2
  have ha := zkt hb
  rw [hp] at ha
  exact (Live.anti (.inl (zke ha)) ((Pw.pre (H := True) ((Tr.refl (s := s) (s' := s)).expect (⟨#[123]⟩ : ByteArray)) (sim i 0 .stmts rfl _ _)).le q1 h1))
 ·obtain ⟨q1, h1, h2⟩ := Option.bind_eq_some_iff.1 e
  obtain ⟨q1', h1', h2'⟩ := Option.bind_eq_some_iff.1 e'
  cases h2
  cases h2'
  have ha := zkt hb
  rw [hp] at ha
  obtain ⟨e1, r1⟩ := (Pw.pre (H := True) (Tr.refl.expect (⟨#[123]⟩ : ByteArray)) (sim i i' .stmts rfl _ _)).sim trivial m q1 q1' h1 h1' (.inl (zke ha)) hr
  refine ⟨rfl, RR.expect ?_ (by rw [hp]; exact ha)⟩
  rw [← e1]
  cases q1.1
  ·exact ⟨r1.pos, r1.kk.app _⟩
  ·exact r1
theorem zqw (k k' : Nat) : Cz E (run E.T k .block) (run E.T' k' .block) := zhc (fun j j' => zzz 21 (zhc zvn j j')) k k'
theorem zz0 (c : ByteArray) (y : NT) (hy : inner y = true) (k k' : Nat) : Cz E (run E.T k (.list c y)) (run E.T' k' (.list c y)) :=
 zhc (fun j j' => zh7 (fs := [run E.T j (.listLoop c y)]) (fs' := [run E.T' j' (.listLoop c y)]) (zc (sim j j' (.listLoop c y) hy) zi) (zhd c)) k k'
theorem zku (k k' : Nat) : Cz E (run E.T k .members) (run E.T' k' .members) :=
 zhc (fun j j' => zh7 (fs := [_, _]) (fs' := [_, _]) (zc (ze _) (zc (sim j j' .membersLoop rfl) zi)) (zhd _)) k k'
theorem zp0 (k k' : Nat) : Cz E (run E.T k (.function true)) (run E.T' k' (.function true)) :=
 zhc (fun j j' => zh7 (fs := [_, _, _, _, _]) (fs' := [_, _, _, _, _]) (zc zd (zc (sim j j' .typeParams rfl) (zc (ze _) (zc (sim j j' (.params _) rfl) (zc (sim j j' (.opt _ .typeExpr) rfl) zi)))))
  ⟨fun s q e hb => (zqw j 0).live s q (by rw [if_neg (fun h => by cases h.1)] at e; exact e) hb, fun s s' m q q' e e' hb hr => (zqw j j').sim s s' m q q' (by rw [if_neg (fun h => by cases h.1)] at e; exact e) (by rw [if_neg (fun h => by cases h.1)] at e'; exact e') hb hr⟩) k k'
theorem zz2 (n : Int) (k k' : Nat) : Cz E (run E.T k (.dataType n)) (run E.T' k' (.dataType n)) :=
 zhc (fun j j' => zh7 (fs := [_, _, _]) (fs' := [_, _, _]) (zc zd (zc (sim j j' .typeParams rfl) (zc (ze _) zi))) (zz0 _ _ rfl j j')) k k'
theorem zz1 (k k' : Nat) : Cz E (run E.T k .implS) (run E.T' k' .implS) := by
 refine zhc (fun j j' => ?_) k k'
 refine zh7 (fs := [_, _, _]) (fs' := [_, _, _]) (zc (sim j j' .typeParams rfl) (zc (sim j j' .typeExpr rfl) (zc (zqs (sim j j' .typeExpr rfl)) zi))) (zku j j')
theorem z1e (k k' : Nat) : Cz E (run E.T k .useS) (run E.T' k' .useS) := by
 refine zhc (fun j j' => ?_) k k'
 have hG := zg (E := E) 17 (sim j j' .usePathB rfl)
 refine ⟨fun s q e hb => ?_, fun s s' m q q' e e' hb hr => ?_⟩
 ·obtain ⟨q1, h1, h2⟩ := Option.bind_eq_some_iff.1 e
  cases h2
  have ha := zkt hb
  exact Live.anti (.inl (zke ha)) (Nat.le_trans ((hG s s).le q1 h1) (zqa (E := E) q1.1 q1.2 q1.2).le)
 ·obtain ⟨q1, h1, h2⟩ := Option.bind_eq_some_iff.1 e
  obtain ⟨q1', h1', h2'⟩ := Option.bind_eq_some_iff.1 e'
  cases h2
  cases h2'
  have ha := zkt hb
  have l : Live E _ := .inl (zke ha)
  obtain ⟨e1, r1⟩ := (hG s s').sim trivial m q1 q1' h1 h1' (l.anti (zqa (E := E) q1.1 q1.2 q1.2).le) hr
  refine ⟨rfl, RR.expect ?_ ha⟩
  rw [← e1]
  exact (zqa (E := E) q1.1 q1.2 q1'.2).sim m l r1
theorem zz3 (n : Int) (hn : 2 ≤ n ∧ n ≤ 9) (k k' : Nat) : Cz E (run E.T k (.itemBody n)) (run E.T' k' (.itemBody n)) := by
 refine zhc (fun j j' => ?_) k k'
 simp only [step]
 by_cases h2 : n = 2
 ·rw [if_pos h2, if_pos h2]
  exact z1e j j'
 rw [if_neg h2, if_neg h2]
 by_cases h3 : n = 3
 ·rw [if_pos h3, if_pos h3]
  exact zp0 j j'
 rw [if_neg h3, if_neg h3]
 by_cases h4 : n = 4 ∨ n = 5
 ·rw [if_pos h4, if_pos h4]
  exact zz2 n j j'
 rw [if_neg h4, if_neg h4]
 by_cases h6 : n = 6
 ·rw [if_pos h6, if_pos h6]
  exact zh7 (fs := [_]) (fs' := [_]) (zc zd zi) (zku j j')
 rw [if_neg h6, if_neg h6]
 by_cases h7 : n = 7
 ·rw [if_pos h7, if_pos h7]
  exact zz1 j j'
 rw [if_neg h7, if_neg h7]
 by_cases h8 : n = 8
 ·rw [if_pos h8, if_pos h8]
  exact zh7 (fs := [_, _, _, _, _]) (fs' := [_, _, _, _, _]) (zc zd (zc (ze _) (zc (sim j j' .typeExpr rfl) (zc (ze _) (zc (sim j j' .expr rfl) zi))))) (zhd _)
 rw [if_neg h8, if_neg h8]
 have h9 : n = 9 := by omega
 rw [if_pos h9, if_pos h9]
 exact zh7 (fs := [_, _, _, _, _]) (fs' := [_, _, _, _, _]) (zc zd (zc (ze _) (zc (sim j j' (.params _) rfl) (zc (ze _) (zc (sim j j' .expr rfl) zi))))) (zhd _)
end Go.Proofs.YtmoelofaojgjfaaGreatDoor.Par
namespace Go.Proofs.YtmoelofaojgjfaaGreatDoor.Par
theorem ahead {T : List Tok} {p : Nat} {L R : List Tok} {t : Tok} (h : T.drop p = L ++ t :: R) (hL : ∀ x ∈ L, triv x.1 = true) (ht : triv t.1 = false) : zal T p = t ∧ zb1 T p = p + L.length + 1 ∧ ∀ k, zz T (p, k) = (p + L.length + 1, k ++ (L.map leaf ++ [leaf t])) := by
 have h1 : za9 T p = L := by
  unfold za9
  rw [h, List.takeWhile_append_of_pos hL, List.takeWhile_cons, ht]
  simp
 have h2 : T[p + (za9 T p).length]? = some t := by
  rw [h1, ← List.getElem?_drop, h, List.getElem?_append_right (Nat.le_refl _), Nat.sub_self]
  rfl
 have h3 : ∀ k, zz T (p, k) = (p + L.length + 1, k ++ (L.map leaf ++ [leaf t])) := fun k => by rw [zjq h2, h1]
 refine ⟨?_, by unfold zb1; rw [h3], h3⟩
 unfold zal
 rw [h, List.find?_append, List.find?_eq_none.2 (fun x hx => by rw [hL x hx]; decide), Option.none_or, List.find?_cons, ht]
 rfl
theorem zuu {x : ByteArray} (h : zb0 x ≠ 0) : 2 ≤ zb0 x ∧ zb0 x ≤ 9 := by
 unfold zb0 at *
 split
 ·rename_i i hi
  have := (List.findIdx?_eq_some_iff_getElem.1 hi).1
  have h8 : i < 8 := this
  omega
 ·rename_i hi
  rw [hi] at h
  exact absurd rfl h
theorem zm9 {T : List Tok} {k : Nat} {s : St} {q : Bool × St} (e : run T k .item s = some q) (hb : badL q.2.2 = false) :
  ∃ n i y, n = zb0 (zal T (if atT T s.1 [(⟨#[112, 117, 98]⟩ : ByteArray)] = true then zb1 T s.1 else s.1)).2 ∧ 2 ≤ n ∧ n ≤ 9 ∧ (zal T (if atT T s.1 [(⟨#[112, 117, 98]⟩ : ByteArray)] = true then zb1 T s.1 else s.1)).1 = 104 ∧
   run T i (.itemBody n) (zz T (zbq T (s.1, []) [(⟨#[112, 117, 98]⟩ : ByteArray)])) = some y ∧ q.2 = (y.2.1, s.2 ++ [.mk n zj y.2.2]) := by
 obtain ⟨j, rfl, h⟩ := zbp e
 simp only [step] at h
 generalize hN : (if atT T s.1 [(⟨#[112, 117, 98]⟩ : ByteArray)] = true then zb1 T s.1 else s.1) = p at h ⊢
 split at h
 ·obtain ⟨i, rfl, h2⟩ := zbp h
  obtain ⟨x, h3, h4⟩ := Option.bind_eq_some_iff.1 (show (zbt 46 (run T i .skipB) s) = some q from h2)
  cases h4
  exact absurd rfl (zdq (zhg hb).2).1
 ·rename_i hk
  obtain ⟨x, h3, h4⟩ := Option.bind_eq_some_iff.1 h
  cases h4
  obtain ⟨i, rfl, h5⟩ := zbp h3
  obtain ⟨y, h6, h7⟩ := Option.bind_eq_some_iff.1 (show ((run T i (.itemBody _) (zz T (zbq T (s.1, []) [(⟨#[112, 117, 98]⟩ : ByteArray)]))).bind fun q => sqL [] q.2) = some x from h5)
  cases h7
  have h0 := zuu (fun h => hk (.inl h))
  exact ⟨_, i, y, rfl, h0.1, h0.2, Classical.byContradiction fun h => hk (.inr h), h6, rfl⟩
end Go.Proofs.YtmoelofaojgjfaaGreatDoor.Par
namespace Go.Proofs.YtmoelofaojgjfaaGreatDoor.Par
variable {E : Ev}
theorem zqp {k k' : Nat} {s s' : St} {q q' : Bool × St} {L L' R : List Tok} {t : Tok} (e : run E.T k .item s = some q) (e' : run E.T' k' .item s' = some q') (hb : badL q.2.2 = false)
  (hd : E.T.drop s.1 = L ++ t :: (R ++ E.W)) (hd' : E.T'.drop s'.1 = L' ++ t :: (R ++ E.W')) (hL : ∀ x ∈ L, triv x.1 = true) (hL' : ∀ x ∈ L', triv x.1 = true) (ht : triv t.1 = false)
  (tr : ∀ t ∈ E.W, triv t.1 = true) (sf : Soft E.W') :
  ∃ n X, q.2.2 = s.2 ++ [.mk n zj (L.map leaf ++ X)] ∧ q'.2.2 = s'.2 ++ [.mk n zj (L'.map leaf ++ X)] ∧ (∃ x ∈ X, triv x.kind = false) ∧ 2 ≤ n ∧ n ≤ 9 ∧ Pos E q.2.1 q'.2.1 := by
 obtain ⟨p1, p2, p3⟩ := ahead hd hL ht
 obtain ⟨p1', p2', p3'⟩ := ahead hd' hL' ht
 have hlen : E.T.length - s.1 = L.length + (R.length + E.W.length + 1) := by rw [← List.length_drop, hd]; simp
 have hlen' : E.T'.length - s'.1 = L'.length + (R.length + E.W'.length + 1) := by rw [← List.length_drop, hd']; simp
 have hP : Pos E (s.1 + L.length + 1) (s'.1 + L'.length + 1) := by
  refine ⟨by omega, ⟨R, ?_, ?_⟩, by omega, by omega, tr, sf⟩
  ·rw [Nat.add_assoc, ← List.drop_drop, hd, List.drop_append]
   simp
  ·rw [Nat.add_assoc, ← List.drop_drop, hd', List.drop_append]
   simp
 have hat : ∀ l, atT E.T' s'.1 l = atT E.T s.1 l := fun l => by unfold atT; rw [p1, p1']
 obtain ⟨n, i, y, h1, h2, h3, h4, h5, h6⟩ := zm9 e hb
 have hX : triv (leaf t).kind = false := ht
 have hlive : atT E.T s.1 [(⟨#[112, 117, 98]⟩ : ByteArray)] = true → Live E (s.1 + L.length + 1) := fun hp => by
  rw [if_pos hp, p2] at h4
  exact .inl (zmr fun e => by rw [e] at h4; cases h4)
 have hpk : zal E.T' (if atT E.T' s'.1 [(⟨#[112, 117, 98]⟩ : ByteArray)] = true then zb1 E.T' s'.1 else s'.1) = zal E.T (if atT E.T s.1 [(⟨#[112, 117, 98]⟩ : ByteArray)] = true then zb1 E.T s.1 else s.1) := by
  rw [hat]
  split
  ·rename_i hp
   rw [p2, p2']
   exact hP.peek (hlive hp)
  ·rw [p1, p1']
 have hR : RR E (some (L.map leaf, L'.map leaf)) (zz E.T (zbq E.T (s.1, []) [(⟨#[112, 117, 98]⟩ : ByteArray)])) (zz E.T' (zbq E.T' (s'.1, []) [(⟨#[112, 117, 98]⟩ : ByteArray)])) := by
  have h0 : RR E (some (L.map leaf, L'.map leaf)) (zz E.T (s.1, [])) (zz E.T' (s'.1, [])) := by
   rw [p3, p3']
   exact ⟨hP, [leaf t], rfl, rfl, leaf t, List.mem_singleton.2 rfl, hX⟩
  unfold zbq
  rw [show ((s'.1, []) : St).1 = s'.1 from rfl, show ((s.1, []) : St).1 = s.1 from rfl, hat]
  split
  ·rename_i hp
   obtain ⟨Y, g1, g2, g3⟩ := h0.pos.bump (by rw [p3]; exact hlive hp) (zz E.T (s.1, [])).2 (zz E.T' (s'.1, [])).2
   exact ⟨g3, by rw [g1, g2]; exact h0.kk.app Y⟩
  ·exact h0
 have e2 : ∃ i' y', run E.T' i' (.itemBody n) (zz E.T' (zbq E.T' (s'.1, []) [(⟨#[112, 117, 98]⟩ : ByteArray)])) = some y' ∧ q'.2 = (y'.2.1, s'.2 ++ [.mk n zj y'.2.2]) := by
  obtain ⟨j, rfl, h⟩ := zbp e'
  simp only [step] at h
  rw [hpk, ← h1, h4, if_neg (by intro h; rcases h with h | h; omega; exact h rfl)] at h
  obtain ⟨x, h3, h4⟩ := Option.bind_eq_some_iff.1 h
  cases h4
  obtain ⟨i, rfl, h5⟩ := zbp h3
  obtain ⟨y, h6, h7⟩ := Option.bind_eq_some_iff.1 (show ((run E.T' i (.itemBody n) (zz E.T' (zbq E.T' (s'.1, []) [(⟨#[112, 117, 98]⟩ : ByteArray)]))).bind fun q => sqL [] q.2) = some x from h5)
  cases h7
  exact ⟨i, y, h6, rfl⟩
 obtain ⟨i', y', h5', h6'⟩ := e2
 rw [h6] at hb ⊢
 rw [h6']
 obtain ⟨_, r1⟩ := (zz3 n ⟨h2, h3⟩ i i').sim _ _ _ y y' h5 h5' (zdq (zhg hb).2).2.2 hR
 obtain ⟨X, k1, k2, k3⟩ := r1.kk
 exact ⟨n, X, by rw [k1], by rw [k2], k3, h2, h3, r1.pos⟩
theorem zg3 {T : List Tok} : ∀ (k : Nat) {s : St} {q : Bool × St}, run T k .items s = some q → ∃ Y, q.2.2 = s.2 ++ Y
 | 0, s, q, h => by cases h
 | k + 1, s, q, h => by
  obtain ⟨j, hj, h2⟩ := zbp h
  injection hj with hj
  subst hj
  simp only [step] at h2
  split at h2
  ·cases h2
   exact ⟨[], (List.append_nil _).symm⟩
  ·obtain ⟨q1, h4, h5⟩ := Option.bind_eq_some_iff.1 h2
   obtain ⟨Y, hY⟩ := zg3 k h5
   have : ∃ Z, q1.2.2 = s.2 ++ Z := by
    obtain ⟨j, rfl, h9⟩ := zbp h4
    simp only [step] at h9
    generalize (if atT T s.1 [(⟨#[112, 117, 98]⟩ : ByteArray)] = true then zb1 T s.1 else s.1) = p at h9
    split at h9
    ·obtain ⟨i, rfl, h10⟩ := zbp h9
     obtain ⟨x, h3, h4⟩ := Option.bind_eq_some_iff.1 (show (zbt 46 (run T i .skipB) s) = some q1 from h10)
     cases h4
     exact ⟨_, rfl⟩
    ·obtain ⟨x, h3, h4⟩ := Option.bind_eq_some_iff.1 h9
     cases h4
     exact ⟨_, rfl⟩
   obtain ⟨Z, hZ⟩ := this
   exact ⟨Z ++ Y, by rw [hY, hZ, List.append_assoc]⟩
def itT (t : Tree) : Prop := 2 ≤ t.kind ∧ t.kind ≤ 9
theorem zve {T : List Tok} (hG : ∀ t ∈ T, t.1 ≠ 100) {p : Nat} (h : eofT T p = true) : ¬ Sig T p := fun ⟨t, ht, k⟩ => by
 unfold eofT at h
 rw [decide_eq_true_eq] at h
 unfold zal at h
 cases hf : (T.drop p).find? (fun t => !triv t.1) with
 | none =>
  have := List.find?_eq_none.1 hf t ht
  rw [k] at this
  exact this rfl
 | some x =>
  rw [hf] at h
  exact hG x (List.mem_of_mem_drop (List.mem_of_find?_eq_some hf)) h
theorem zmp {C : List Tok} (h : ∃ t ∈ C, triv t.1 = false) : ∃ L t R, C = L ++ t :: R ∧ (∀ x ∈ L, triv x.1 = true) ∧ triv t.1 = false := by
 induction C with
 | nil => obtain ⟨t, ht, _⟩ := h; cases ht
 | cons a C ih =>
  cases ha : triv a.1 with
  | false => exact ⟨[], a, C, rfl, fun x hx => (by cases hx), ha⟩
  | true =>
   obtain ⟨t, ht, k⟩ := h
   rcases List.mem_cons.1 ht with rfl | ht
   ·rw [ha] at k; cases k
   ·obtain ⟨L, t, R, rfl, h1, h2⟩ := ih ⟨t, ht, k⟩
    refine ⟨a :: L, t, R, rfl, fun x hx => ?_, h2⟩
    rcases List.mem_cons.1 hx with rfl | hx
    ·exact ha
    ·exact h1 x hx
theorem zht (hG : ∀ t ∈ E.T, t.1 ≠ 100) : ∀ (k k' : Nat) {s s' : St} {q q' : Bool × St}, run E.T k .items s = some q → run E.T' k' .items s' = some q' → badL q.2.2 = false → Pos E s.1 s'.1 →
  ∃ Y j u', q.2.2 = s.2 ++ Y ∧ u'.2 = s'.2 ++ Y ∧ run E.T' j .items u' = some q' ∧ Pos E q.2.1 u'.1 ∧ ¬ Sig E.T q.2.1 ∧ ∀ t ∈ Y, itT t
 | 0, k', s, s', q, q', e, e', hb, hp => by cases e
 | k + 1, k', s, s', q, q', e, e', hb, hp => by
  obtain ⟨j, hj, h2⟩ := zbp e
  injection hj with hj
  subst hj
  simp only [step] at h2
  split at h2
  ·rename_i he
   cases h2
   exact ⟨[], k', s', (List.append_nil _).symm, (List.append_nil _).symm, e', hp, zve hG he, fun t ht => by cases ht⟩
  ·rename_i he
   obtain ⟨q1, h4, h5⟩ := Option.bind_eq_some_iff.1 h2
   have hs : Sig E.T s.1 := zmr fun h => he (by unfold eofT; rw [h]; rfl)
   obtain ⟨j', rfl, h2'⟩ := zbp e'
   simp only [step] at h2'
   rw [hp.eof (.inl hs), if_neg he] at h2'
   obtain ⟨q1', h4', h5'⟩ := Option.bind_eq_some_iff.1 h2'
   obtain ⟨Y, hY⟩ := zg3 k h5
   have hb1 : badL q1.2.2 = false := by
    rw [hY, zdb, Bool.or_eq_false_iff] at hb
    exact hb.1
   obtain ⟨C, c1, c2⟩ := hp.dr
   have hC : ∃ t ∈ C, triv t.1 = false := by
    obtain ⟨t, ht, k⟩ := hs
    rw [c1] at ht
    rcases List.mem_append.1 ht with ht | ht
    ·exact ⟨t, ht, k⟩
    ·rw [hp.tr t ht] at k
     cases k
   obtain ⟨L, t, R, rfl, l1, l2⟩ := zmp hC
   obtain ⟨n, X, x1, x2, x3, x4, x5, x6⟩ := zqp h4 h4' hb1 (L := L) (L' := L) (R := R) (t := t) (by rw [c1]; simp) (by rw [c2]; simp) l1 l1 l2 hp.tr hp.sf
   obtain ⟨Z, j2, u', z1, z2, z3, z4, z5, z6⟩ := zht hG k j' h5 h5' hb x6
   refine ⟨.mk n zj (L.map leaf ++ X) :: Z, j2, u', by rw [z1, x1]; simp, by rw [z2, x2]; simp, z3, z4, z5, fun t ht => ?_⟩
   rcases List.mem_cons.1 ht with rfl | ht
   ·exact ⟨x4, x5⟩
   ·exact z6 t ht
theorem zr8 (hG : ∀ t ∈ E.T, t.1 ≠ 100) {k k' : Nat} {s s' : St} {q q' : Bool × St} {L L' R : List Tok} {t : Tok} (e : run E.T k .items s = some q) (e' : run E.T' k' .items s' = some q') (hb : badL q.2.2 = false)
  (hG' : ∀ t ∈ E.T', t.1 ≠ 100)
  (hd : E.T.drop s.1 = L ++ t :: (R ++ E.W)) (hd' : E.T'.drop s'.1 = L' ++ t :: (R ++ E.W')) (hL : ∀ x ∈ L, triv x.1 = true) (hL' : ∀ x ∈ L', triv x.1 = true) (ht : triv t.1 = false)
  (tr : ∀ t ∈ E.W, triv t.1 = true) (sf : Soft E.W') :
  ∃ n X Z j u', q.2.2 = s.2 ++ (.mk n zj (L.map leaf ++ X) :: Z) ∧ u'.2 = s'.2 ++ (.mk n zj (L'.map leaf ++ X) :: Z) ∧ (∃ x ∈ X, triv x.kind = false) ∧ (2 ≤ n ∧ n ≤ 9) ∧ run E.T' j .items u' = some q' ∧ Pos E q.2.1 u'.1 ∧ ¬ Sig E.T q.2.1 ∧ ∀ t ∈ Z, itT t := by
 obtain ⟨p1, p2, p3⟩ := ahead hd hL ht
 obtain ⟨p1', p2', p3'⟩ := ahead hd' hL' ht
 have m1 : t ∈ E.T := List.mem_of_mem_drop (hd ▸ List.mem_append_right _ List.mem_cons_self)
 have m2 : t ∈ E.T' := List.mem_of_mem_drop (hd' ▸ List.mem_append_right _ List.mem_cons_self)
 obtain ⟨j, rfl, h2⟩ := zbp e
 obtain ⟨j', rfl, h2'⟩ := zbp e'
 simp only [step] at h2 h2'
 rw [if_neg (by unfold eofT; rw [p1, decide_eq_true_eq]; exact hG t m1)] at h2
 rw [if_neg (by unfold eofT; rw [p1', decide_eq_true_eq]; exact hG' t m2)] at h2'
 obtain ⟨q1, h4, h5⟩ := Option.bind_eq_some_iff.1 h2
 obtain ⟨q1', h4', h5'⟩ := Option.bind_eq_some_iff.1 h2'
 obtain ⟨Y, hY⟩ := zg3 j h5
 have hb1 : badL q1.2.2 = false := by
  rw [hY, zdb, Bool.or_eq_false_iff] at hb
  exact hb.1
 obtain ⟨n, X, x1, x2, x3, x4, x5, x6⟩ := zqp h4 h4' hb1 hd hd' hL hL' ht tr sf
 obtain ⟨Z, j2, u', z1, z2, z3, z4, z5, z6⟩ := zht hG j j' h5 h5' hb x6
 exact ⟨n, X, Z, j2, u', by rw [z1, x1]; simp, by rw [z2, x2]; simp, x3, ⟨x4, x5⟩, z3, z4, z5, z6⟩
end Go.Proofs.YtmoelofaojgjfaaGreatDoor.Par
namespace Go.Proofs.YtmoelofaojgjfaaGreatDoor.Par
open Go.RowKit
structure Fr (pb : Nat) (F F' : List Nat) (W W' : World) : Prop where
 os : W'.os = W.os
 tape : W'.tape = W.tape
 output : W'.output = W.output
 size : W.heap.size ≤ W'.heap.size
 kept : ∀ g, g < W.heap.size → g ≠ pb → g ∉ F → W'.heap[g]? = W.heap[g]?
 rows : ∀ g ∈ F', g ∈ F ∨ W.heap.size ≤ g
theorem Fr.refl (pb : Nat) (F : List Nat) (W : World) : Fr pb F F W W := ⟨rfl, rfl, rfl, Nat.le_refl _, fun _ _ _ _ => rfl, fun _ h => .inl h⟩
theorem Fr.trans {pb : Nat} {F F1 F2 : List Nat} {W W1 W2 : World} (h : Fr pb F F1 W W1) (k : Fr pb F1 F2 W1 W2) : Fr pb F F2 W W2 := by
 refine ⟨k.os.trans h.os, k.tape.trans h.tape, k.output.trans h.output, Nat.le_trans h.size k.size, fun g h1 h2 h3 => ?_, fun g hg => ?_⟩
 ·have hn : g ∉ F1 := fun hg => by
   rcases h.rows g hg with h4 | h4
   ·exact h3 h4
   ·omega
  rw [k.kept g (Nat.lt_of_lt_of_le h1 h.size) h2 hn, h.kept g h1 h2 h3]
 ·rcases k.rows g hg with h4 | h4
  ·exact h.rows g h4
  ·exact .inr (Nat.le_trans h.size h4)
theorem Fr.of_below {pb : Nat} {F : List Nat} {W W' : World} (h : Below W.heap.size W W') : Fr pb F F W W' := ⟨h.os, h.tape, h.output, h.size, fun g hg _ _ => h.block g hg, fun g hg => .inl hg⟩
theorem Fr.below {pb B : Nat} {F F' : List Nat} {W W' : World} (h : Fr pb F F' W W') (hp : B ≤ pb) (hF : ∀ g ∈ F, B ≤ g) (hB : B ≤ W.heap.size) : Below B W W' :=
 ⟨h.os, h.tape, h.output, h.size, fun g hg => h.kept g (by omega) (by omega) (fun hh => by have := hF g hh; omega)⟩
def zma (W : World) (T : List Tok) (tv : Value) : Prop := ∃ A c, tv = .slice A T.length c ∧ (0 < T.length → ∃ tb tq, A = some ⟨tb, tq, none⟩ ∧ ∀ i t, T[i]? = some t → W.cell? ⟨tb, tq + i * 2, none⟩ = some (.int .i64 t.1) ∧ W.cell? ⟨tb, tq + i * 2 + 1, none⟩ = some (.string t.2))
theorem zma.below {W W' : World} {T : List Tok} {tv : Value} (h : zma W T tv) (hb : Below W.heap.size W W') : zma W' T tv := by
 obtain ⟨A, c, h1, h2⟩ := h
 refine ⟨A, c, h1, fun h0 => ?_⟩
 obtain ⟨tb, tq, h3, h4⟩ := h2 h0
 refine ⟨tb, tq, h3, fun i t ht => ?_⟩
 obtain ⟨k1, k2⟩ := h4 i t ht
 exact ⟨(hb.cell (World.block_lt_of_cell? W _ k1)).trans k1, (hb.cell (World.block_lt_of_cell? W _ k2)).trans k2⟩
def Spc (W : World) : Prop := Lib.TabIs Tryz.prog W "strings.asciiSpace" .u8 Lib.asciiSpaceTab
theorem Spc.below {W W' : World} (h : Spc W) (hb : Below W.heap.size W W') : Spc W' := by
 have hg : Tryz.prog.globalNamed "strings.asciiSpace" = some 1 := by kernel_rfl
 unfold Spc Lib.TabIs World.var? at h ⊢
 rw [hg] at h ⊢
 simp only [Option.bind_some] at h ⊢
 have hlt : 1 < W.heap.size := by
  rcases Nat.lt_or_ge 1 W.heap.size with h' | h'
  ·exact h'
  ·rw [Array.getElem?_eq_none h'] at h
   cases h
 rw [hb.block 1 hlt]
 exact h
structure PS (tp te B : Nat) (T : List Tok) (tv : Value) (pb : Nat) (W : World) (pos : Nat) (stk : List Tree) (F : List Nat) : Prop where
 obj : ∃ sv, W.heap[pb]? = some (.cells #[tv, .int .i64 (pos : Int), sv] tp (0, 0)) ∧ TR W B te stk sv F
 nd : F.Nodup
 pbF : pb ∉ F
 ge : B ≤ pb
 tok : ∃ Wt : World, Wt.heap.size ≤ B ∧ (zma Wt T tv ∧ Spc Wt) ∧ Below Wt.heap.size Wt W
theorem PS.toks {tp te B : Nat} {T : List Tok} {tv : Value} {pb : Nat} {W : World} {pos : Nat} {stk : List Tree} {F : List Nat} (h : PS tp te B T tv pb W pos stk F) : zma W T tv := by
 obtain ⟨Wt, h1, h2, h3⟩ := h.tok
 exact h2.1.below h3
theorem PS.spc {tp te B : Nat} {T : List Tok} {tv : Value} {pb : Nat} {W : World} {pos : Nat} {stk : List Tree} {F : List Nat} (h : PS tp te B T tv pb W pos stk F) : Spc W := by
 obtain ⟨Wt, h1, h2, h3⟩ := h.tok
 exact h2.2.below h3
theorem PS.rowsGe {tp te B : Nat} {T : List Tok} {tv : Value} {pb : Nat} {W : World} {pos : Nat} {stk : List Tree} {F : List Nat} (h : PS tp te B T tv pb W pos stk F) : ∀ g ∈ F, B ≤ g ∧ g < W.heap.size := by
 obtain ⟨sv, _, h2⟩ := h.obj
 intro g hg
 have := zf9 h2 g hg
 exact ⟨this.1, this.2.1⟩
theorem PS.below {tp te B : Nat} {T : List Tok} {tv : Value} {pb : Nat} {W W' : World} {pos : Nat} {stk : List Tree} {F : List Nat} (h : PS tp te B T tv pb W pos stk F) (hb : Below W.heap.size W W') : PS tp te B T tv pb W' pos stk F := by
 obtain ⟨sv, h1, h2⟩ := h.obj
 have hlt : pb < W.heap.size := (Array.getElem?_eq_some_iff.1 h1).1
 obtain ⟨Wt, t1, t2, t3⟩ := h.tok
 exact ⟨⟨sv, (hb.block _ hlt).trans h1, zeb h2 (fun g hg => hb.block g (zf9 h2 g hg).2.1)⟩, h.nd, h.pbF, h.ge, Wt, t1, t2, t3.trans (hb.mono t3.size)⟩
theorem zbn {α : Type} {a b : List α} : (a ++ b).Nodup ↔ a.Nodup ∧ b.Nodup ∧ ∀ x ∈ a, x ∉ b := by
 rw [List.nodup_append]
 constructor
 ·rintro ⟨h1, h2, h3⟩
  exact ⟨h1, h2, fun x hx hb => h3 x hx x hb rfl⟩
 ·rintro ⟨h1, h2, h3⟩
  exact ⟨h1, h2, fun x hx y hy e => h3 x hx (e ▸ hy)⟩
theorem zhr (h : Value) : (own1 h).Nodup := by
 unfold own1
 split <;> simp
theorem zas {h : Value} {g : Nat} : g ∈ own1 h ↔ h.ownBlock = some g := by
 unfold own1
 cases h.ownBlock <;> simp [eq_comm]
theorem PS.top {tp te B : Nat} {T : List Tok} {tv : Value} {pb : Nat} {W : World} {pos : Nat} {low : List Tree} {kd : Int} {tx : ByteArray} {ks : List Tree} {F : List Nat} (h : PS tp te B T tv pb W pos (low ++ [.mk kd tx ks]) F) :
  ∃ sb scap hd c1 F1 cs Fs, W.heap[pb]? = some (.cells #[tv, .int .i64 (pos : Int), .slice (some ⟨sb, 0, none⟩) (low.length + 1) scap] tp (0, 0)) ∧
   W.ownsRow B te 3 (.slice (some ⟨sb, 0, none⟩) (low.length + 1) scap) (low.length + 1) (c1 ++ [.int .i64 kd, .string tx, hd]) ∧ TL W B te low c1 F1 ∧ W.ownsRow B te 3 hd ks.length cs ∧ TL W B te ks cs Fs ∧ F = sb :: (F1 ++ (own1 hd ++ Fs)) := by
 obtain ⟨sv, h1, cs0, Fs0, h2, rfl, h4⟩ := h.obj
 obtain ⟨c1, c2, F1, F2, rfl, rfl, k3, k4⟩ := zmb h4
 rw [zih] at k4
 obtain ⟨hd, rfl, cs, Fs, k5, rfl, k6⟩ := k4
 rw [List.length_append, List.length_singleton] at h2
 rcases h2.2 with ⟨rfl, h0⟩ | ⟨sb, scap, cur, rfl, _⟩
 ·omega
 ·exact ⟨sb, scap, hd, c1, F1, cs, Fs, h1, h2, k3, k5, k6, by simp [own1, Value.ownBlock]⟩
theorem zcr {W : World} {B e size n cap g : Nat} {xs : List Value} (h : W.ownsRow B e size (.slice (some ⟨g, 0, none⟩) n cap) n xs) (i : Nat) (v : Value) : (W.setCell ⟨g, i, none⟩ v).ownsRow B e size (.slice (some ⟨g, 0, none⟩) n cap) n (xs.set i v) := by
 refine ⟨by rw [List.length_set]; exact h.1, ?_⟩
 rcases h.2 with ⟨h0, _⟩ | ⟨g', cap', cur, he, h2, h3, h4, h5, h6, h7⟩
 ·cases h0
 ·simp only [Value.slice.injEq, Option.some.injEq, Addr.mk.injEq, and_true] at he
  obtain ⟨rfl, _, rfl⟩ := he
  refine .inr ⟨g, cap, cur.setIfInBounds i v, rfl, h2, ?_, h4, h5, by rw [Array.size_setIfInBounds]; exact h6, ?_⟩
  ·simp [World.setCell, Array.getElem?_modify, h3]
  ·rw [← h7]
   apply List.ext_getElem?
   intro j
   rw [List.getElem?_take, List.getElem?_set, List.getElem?_take, Array.getElem?_toList, Array.getElem?_setIfInBounds, Array.getElem?_toList, List.length_take, Array.length_toList]
   by_cases hj : j < n * size
   ·rw [if_pos hj, if_pos hj]
    by_cases hij : i = j
    ·subst hij
     rw [if_pos rfl, if_pos rfl]
     by_cases hc : i < cur.size
     ·rw [if_pos hc, if_pos (by omega)]
     ·rw [if_neg hc, if_neg (by omega)]
    ·rw [if_neg hij, if_neg hij]
   ·rw [if_neg hj, if_neg hj]
    by_cases hij : i = j
    ·subst hij
     rw [if_pos rfl, if_neg (by omega)]
    ·rw [if_neg hij]
theorem zm0 {W : World} {B e size n : Nat} {h : Value} {xs : List Value} {g : Nat} (ho : W.ownsRow B e size h n xs) (hg : some g ≠ h.ownBlock) (v : Value) (i : Nat) : (W.setCell ⟨g, i, none⟩ v).ownsRow B e size h n xs :=
 za7 ho (fun b hb => Below.heap_setCell W ⟨g, i, none⟩ v b (by
  rintro rfl
  exact hg (zas.1 hb).symm))
theorem PS.add_mem {tp te B : Nat} {T : List Tok} {tv : Value} {pb : Nat} {W W1 : World} {pos : Nat} {low : List Tree} {kd : Int} {tx : ByteArray} {ks : List Tree} {sb scap : Nat} {hd v1 : Value} {c1 cs c Ftl : List Value} {F1 Fs Ft : List Nat} {t : Tree}
  (h : PS tp te B T tv pb W pos (low ++ [.mk kd tx ks]) (sb :: (F1 ++ (own1 hd ++ Fs))))
  (hpb : W.heap[pb]? = some (.cells #[tv, .int .i64 (pos : Int), .slice (some ⟨sb, 0, none⟩) (low.length + 1) scap] tp (0, 0)))
  (ho : W.ownsRow B te 3 (.slice (some ⟨sb, 0, none⟩) (low.length + 1) scap) (low.length + 1) (c1 ++ [.int .i64 kd, .string tx, hd])) (hlow : TL W B te low c1 F1) (hks : TL W B te ks cs Fs)
  (ht : TC W B te t c Ft) (hN : ((sb :: (F1 ++ (own1 hd ++ Fs))) ++ Ft).Nodup) (hpt : pb ∉ Ft)
  (hv : W1.ownsRow B te 3 v1 (ks.length + 1) (cs ++ c)) (hat : v1.ownBlock = hd.ownBlock ∨ ∃ b, v1.ownBlock = some b ∧ W.heap.size ≤ b)
  (ho1 : W1.os = W.os) (ho2 : W1.tape = W.tape) (ho3 : W1.output = W.output) (hsz : W.heap.size ≤ W1.heap.size) (hkp : ∀ g, g < W.heap.size → some g ≠ hd.ownBlock → W1.heap[g]? = W.heap[g]?) :
  ∃ F', PS tp te B T tv pb (W1.setCell ⟨sb, low.length * 3 + 2, none⟩ v1) pos (low ++ [.mk kd tx (ks ++ [t])]) F' ∧ Fr pb ((sb :: (F1 ++ (own1 hd ++ Fs))) ++ Ft) F' W (W1.setCell ⟨sb, low.length * 3 + 2, none⟩ v1) := by
 have hc1 := zf3 low c1 F1 hlow
 have nd := hN
 rw [zbn] at nd
 obtain ⟨nF, nT, nX⟩ := nd
 rw [List.nodup_cons] at nF
 have nF2 := zbn.1 nF.2
 have nF3 := zbn.1 nF2.2.1
 have bF : ∀ g ∈ sb :: (F1 ++ (own1 hd ++ Fs)), B ≤ g ∧ g < W.heap.size := h.rowsGe
 have bT : ∀ g ∈ Ft, B ≤ g ∧ g < W.heap.size := fun g hg => ⟨(zhl t c Ft ht g hg).1, (zhl t c Ft ht g hg).2.1⟩
 have hpbs : pb < W.heap.size := (Array.getElem?_eq_some_iff.1 hpb).1
 have hpF := h.pbF
 have hsbh : some sb ≠ hd.ownBlock := fun e => nF.1 (List.mem_append_right _ (List.mem_append_left _ (zas.2 e.symm)))
 have hsb1 : sb < W.heap.size := (bF sb List.mem_cons_self).2
 have hsbv : some sb ≠ v1.ownBlock := by
  rcases hat with e | ⟨b, e, hb⟩
  ·rw [e]
   exact hsbh
  ·rw [e]
   intro hh
   injection hh with hh
   omega
 have hkeep : ∀ g, g < W.heap.size → some g ≠ hd.ownBlock → g ≠ sb → (W1.setCell ⟨sb, low.length * 3 + 2, none⟩ v1).heap[g]? = W.heap[g]? := fun g h1 h2 h3 => (Below.heap_setCell W1 ⟨sb, low.length * 3 + 2, none⟩ v1 g h3).trans (hkp g h1 h2)
 have hne : ∀ g, g ∈ F1 ∨ g ∈ Fs ∨ g ∈ Ft → some g ≠ hd.ownBlock ∧ g ≠ sb := by
  intro g hg
  refine ⟨fun e => ?_, fun e => ?_⟩
  ·have hm : g ∈ own1 hd := zas.2 e.symm
   rcases hg with hg | hg | hg
   ·exact nF2.2.2 g hg (List.mem_append_left _ hm)
   ·exact nF3.2.2 g hm hg
   ·exact nX g (List.mem_cons_of_mem _ (List.mem_append_right _ (List.mem_append_left _ hm))) hg
  ·subst e
   rcases hg with hg | hg | hg
   ·exact nF.1 (List.mem_append_left _ hg)
   ·exact nF.1 (List.mem_append_right _ (List.mem_append_right _ hg))
   ·exact nX g List.mem_cons_self hg
 have hin : ∀ g, g ∈ F1 ∨ g ∈ Fs ∨ g ∈ Ft → g < W.heap.size := by
  rintro g (hg | hg | hg)
  ·exact (bF g (List.mem_cons_of_mem _ (List.mem_append_left _ hg))).2
  ·exact (bF g (List.mem_cons_of_mem _ (List.mem_append_right _ (List.mem_append_right _ hg)))).2
  ·exact (bT g hg).2
 have k1 : ∀ g ∈ F1, (W1.setCell ⟨sb, low.length * 3 + 2, none⟩ v1).heap[g]? = W.heap[g]? := fun g hg => hkeep g (hin g (.inl hg)) (hne g (.inl hg)).1 (hne g (.inl hg)).2
 have k2 : ∀ g ∈ Fs, (W1.setCell ⟨sb, low.length * 3 + 2, none⟩ v1).heap[g]? = W.heap[g]? := fun g hg => hkeep g (hin g (.inr (.inl hg))) (hne g (.inr (.inl hg))).1 (hne g (.inr (.inl hg))).2
 have k3 : ∀ g ∈ Ft, (W1.setCell ⟨sb, low.length * 3 + 2, none⟩ v1).heap[g]? = W.heap[g]? := fun g hg => hkeep g (hin g (.inr (.inr hg))) (hne g (.inr (.inr hg))).1 (hne g (.inr (.inr hg))).2
 have hostk : W1.ownsRow B te 3 (.slice (some ⟨sb, 0, none⟩) (low.length + 1) scap) (low.length + 1) (c1 ++ [.int .i64 kd, .string tx, hd]) := za7 ho (fun g hg => by
  have : g = sb := by simpa [own1, Value.ownBlock] using hg
  subst this
  exact hkp g hsb1 hsbh)
 have hset := zcr hostk (low.length * 3 + 2) v1
 have hxs : (c1 ++ [Value.int .i64 kd, .string tx, hd]).set (low.length * 3 + 2) v1 = c1 ++ [.int .i64 kd, .string tx, v1] := by
  rw [List.set_append, if_neg (by omega), hc1]
  congr 1
  have : low.length * 3 + 2 - low.length * 3 = 2 := by omega
  rw [this]
  rfl
 rw [hxs] at hset
 have hnode : TR (W1.setCell ⟨sb, low.length * 3 + 2, none⟩ v1) B te (ks ++ [t]) v1 (own1 v1 ++ (Fs ++ Ft)) := by
  refine ⟨cs ++ c, Fs ++ Ft, ?_, rfl, zeq ks [t] cs c Fs Ft (zc1 ks cs Fs hks k2) (zoo (zp7 t c Ft ht k3))⟩
  rw [List.length_append, List.length_singleton]
  exact zm0 hv hsbv v1 _
 have hstk : TR (W1.setCell ⟨sb, low.length * 3 + 2, none⟩ v1) B te (low ++ [.mk kd tx (ks ++ [t])]) (.slice (some ⟨sb, 0, none⟩) (low.length + 1) scap) (sb :: (F1 ++ (own1 v1 ++ (Fs ++ Ft)))) := by
  refine ⟨c1 ++ [.int .i64 kd, .string tx, v1], F1 ++ (own1 v1 ++ (Fs ++ Ft)), ?_, by simp [own1, Value.ownBlock], zeq low _ c1 _ F1 _ (zc1 low c1 F1 hlow k1) (zoo (zih.2 ⟨v1, rfl, hnode⟩))⟩
  rw [List.length_append, List.length_singleton]
  exact hset
 have hv1 : ∀ g ∈ own1 v1, g ∈ own1 hd ∨ W.heap.size ≤ g := by
  intro g hg
  rcases hat with e | ⟨b, e, hb⟩
  ·left
   rw [zas] at hg ⊢
   rw [← e]
   exact hg
  ·right
   rw [zas, e] at hg
   injection hg with hg
   omega
 have hnew : (sb :: (F1 ++ (own1 v1 ++ (Fs ++ Ft)))).Nodup := by
  rw [List.nodup_cons, zbn, zbn, zbn]
  refine ⟨fun hh => ?_, nF2.1, ⟨zhr _, ⟨nF3.2.1, nT, fun x hx hx2 => nX x (List.mem_cons_of_mem _ (List.mem_append_right _ (List.mem_append_right _ hx))) hx2⟩, fun x hx hx2 => ?_⟩, fun x hx hx2 => ?_⟩
  ·rcases List.mem_append.1 hh with hh | hh
   ·exact nF.1 (List.mem_append_left _ hh)
   ·rcases List.mem_append.1 hh with hh | hh
    ·exact hsbv (zas.1 hh).symm
    ·rcases List.mem_append.1 hh with hh | hh
     ·exact nF.1 (List.mem_append_right _ (List.mem_append_right _ hh))
     ·exact nX sb List.mem_cons_self hh
  ·have hlt : x < W.heap.size := by
    rcases List.mem_append.1 hx2 with hh | hh
    ·exact hin x (.inr (.inl hh))
    ·exact hin x (.inr (.inr hh))
   rcases hv1 x hx with h1 | h1
   ·rcases List.mem_append.1 hx2 with hh | hh
    ·exact nF3.2.2 x h1 hh
    ·exact nX x (List.mem_cons_of_mem _ (List.mem_append_right _ (List.mem_append_left _ h1))) hh
   ·omega
  ·have hlt := hin x (.inl hx)
   rcases List.mem_append.1 hx2 with hh | hh
   ·rcases hv1 x hh with h1 | h1
    ·exact nF2.2.2 x hx (List.mem_append_left _ h1)
    ·omega
   ·rcases List.mem_append.1 hh with hh | hh
    ·exact nF2.2.2 x hx (List.mem_append_right _ hh)
    ·exact nX x (List.mem_cons_of_mem _ (List.mem_append_left _ hx)) hh
 have hmem : ∀ g ∈ sb :: (F1 ++ (own1 v1 ++ (Fs ++ Ft))), g ∈ (sb :: (F1 ++ (own1 hd ++ Fs))) ++ Ft ∨ W.heap.size ≤ g := by
  intro g hg
  rcases List.mem_cons.1 hg with rfl | hg
  ·exact .inl (List.mem_append_left _ List.mem_cons_self)
  ·rcases List.mem_append.1 hg with hg | hg
   ·exact .inl (List.mem_append_left _ (List.mem_cons_of_mem _ (List.mem_append_left _ hg)))
   ·rcases List.mem_append.1 hg with hg | hg
    ·rcases hv1 g hg with h1 | h1
     ·exact .inl (List.mem_append_left _ (List.mem_cons_of_mem _ (List.mem_append_right _ (List.mem_append_left _ h1))))
     ·exact .inr h1
    ·rcases List.mem_append.1 hg with hg | hg
     ·exact .inl (List.mem_append_left _ (List.mem_cons_of_mem _ (List.mem_append_right _ (List.mem_append_right _ hg))))
     ·exact .inl (List.mem_append_right _ hg)
 have hfr : Fr pb ((sb :: (F1 ++ (own1 hd ++ Fs))) ++ Ft) (sb :: (F1 ++ (own1 v1 ++ (Fs ++ Ft)))) W (W1.setCell ⟨sb, low.length * 3 + 2, none⟩ v1) := by
  refine ⟨ho1, ho2, ho3, by simpa [World.setCell] using hsz, fun g h1 h2 h3 => ?_, hmem⟩
  refine hkeep g h1 (fun e => h3 (List.mem_append_left _ (List.mem_cons_of_mem _ (List.mem_append_right _ (List.mem_append_left _ (zas.2 e.symm)))))) (fun e => h3 (List.mem_append_left _ (by rw [e]; exact List.mem_cons_self)))
 have hpbn : pb ∉ sb :: (F1 ++ (own1 v1 ++ (Fs ++ Ft))) := by
  intro hh
  rcases hmem pb hh with h1 | h1
  ·rcases List.mem_append.1 h1 with h1 | h1
   ·exact hpF h1
   ·exact hpt h1
  ·omega
 obtain ⟨Wt, t1, t2, t3⟩ := h.tok
 refine ⟨_, ⟨⟨_, ?_, hstk⟩, hnew, hpbn, h.ge, Wt, t1, t2, ?_⟩, hfr⟩
 ·rw [hkeep pb hpbs (fun e => hpF (List.mem_cons_of_mem _ (List.mem_append_right _ (List.mem_append_left _ (zas.2 e.symm))))) (fun e => hpF (by rw [e]; exact List.mem_cons_self)), hpb]
 ·refine t3.trans ((hfr.below h.ge (fun g hg => ?_) (by have := h.ge; omega)).mono t1)
  rcases List.mem_append.1 hg with hg | hg
  ·exact (bF g hg).1
  ·exact (bT g hg).1
end Go.Proofs.YtmoelofaojgjfaaGreatDoor.Par
