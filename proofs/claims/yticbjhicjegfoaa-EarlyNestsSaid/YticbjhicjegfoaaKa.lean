/- What a proof further on needs (part a). -/
import Derived.RowKit
set_option linter.unusedVariables false
namespace Go.Proofs.Yticbjhicjegfoaa.Q
open Go.RowKit
/-- A token, a node, a parser. -/
structure Tk where
  kind : Int
  text : ByteArray
  num : Int
  at_ : Nat
  line : Bool
structure Nd where
  kind : Int
  num : Int
  text : ByteArray
  names : List ByteArray
  kids : List Nat
  at_ : Nat
structure Ps where
  src : ByteArray
  t : Tk
  end_ : Nat
  l : List Nd
  deep : Int
  bad : Bool
def digitB (c : UInt8) : Bool := Nat.ble 48 c.toNat && Nat.ble c.toNat 57
def letterB (c : UInt8) : Bool := (Nat.ble 97 c.toNat && Nat.ble c.toNat 122) || (Nat.ble 65 c.toNat && Nat.ble c.toNat 90) || Nat.beq c.toNat 95 || Nat.beq c.toNat 36
/-- Blanks and comments: what is left, whether a line ends among these, the place behind. -/
def blanksL : Bool → List UInt8 → Bool → Nat → List UInt8 × Bool × Nat
  | _, [], ln, n => ([], ln, n)
  | true, c :: r, ln, n => if Nat.beq c.toNat 10 then blanksL false r true (n + 1) else blanksL true r ln (n + 1)
  | false, c :: r, ln, n => if Nat.beq c.toNat 10 then blanksL false r true (n + 1)
    else if Nat.beq c.toNat 9 || Nat.beq c.toNat 13 || Nat.beq c.toNat 32 then blanksL false r ln (n + 1)
    else if Nat.beq c.toNat 47 && (match r with | [] => false | d :: _ => Nat.beq d.toNat 47) then blanksL true r ln (n + 1)
    else (c :: r, ln, n)
/-- Digits: their value, how many, what is left. -/
def digitsL : List UInt8 → Nat → Nat → Nat × Nat × List UInt8
  | [], v, n => (v, n, [])
  | c :: r, v, n => if digitB c then digitsL r (min (v * 10 + (c.toNat - 48)) 2147483648) (n + 1) else (v, n, c :: r)
def wordL : List UInt8 → Nat → Nat
  | [], n => n
  | c :: r, n => if letterB c || digitB c then wordL r (n + 1) else n
/-- A text behind its quote: its bytes (or none: it is bad), the place where it ends. -/
def quotedL : List UInt8 → List UInt8 → Nat → Option (List UInt8) × Nat
  | [], _, n => (none, n)
  | c :: r, b, n =>
    if Nat.beq c.toNat 34 then (some b, n + 1)
    else if Nat.beq c.toNat 92 then
      match r with
      | [] => (none, n)
      | d :: r' => if Nat.beq d.toNat 34 || Nat.beq d.toNat 92 then quotedL r' (b ++ [d]) (n + 2)
        else if Nat.beq d.toNat 110 then quotedL r' (b ++ [10]) (n + 2)
        else (none, n + 1)
    else if Nat.blt c.toNat 32 || Nat.blt 126 c.toNat then (none, n)
    else quotedL r (b ++ [c]) (n + 1)
def wordsL : List (List UInt8) := [([108, 101, 116] : List UInt8), ([99, 111, 110, 115, 116] : List UInt8), ([102, 117, 110, 99, 116, 105, 111, 110] : List UInt8), ([114, 101, 116, 117, 114, 110] : List UInt8), ([105, 102] : List UInt8), ([101, 108, 115, 101] : List UInt8), ([119, 104, 105, 108, 101] : List UInt8), ([98, 114, 101, 97, 107] : List UInt8), ([99, 111, 110, 116, 105, 110, 117, 101] : List UInt8), ([116, 104, 114, 111, 119] : List UInt8), ([116, 114, 121] : List UInt8), ([99, 97, 116, 99, 104] : List UInt8), ([116, 114, 117, 101] : List UInt8), ([102, 97, 108, 115, 101] : List UInt8), ([110, 117, 108, 108] : List UInt8), ([117, 110, 100, 101, 102, 105, 110, 101, 100] : List UInt8), ([116, 104, 105, 115] : List UInt8), ([116, 121, 112, 101, 111, 102] : List UInt8), ([121, 105, 101, 108, 100] : List UInt8)]
def signsL : List (List UInt8) := [([61, 61, 61] : List UInt8), ([33, 61, 61] : List UInt8), ([60, 61] : List UInt8), ([62, 61] : List UInt8), ([38, 38] : List UInt8), ([124, 124] : List UInt8), ([123] : List UInt8), ([125] : List UInt8), ([40] : List UInt8), ([41] : List UInt8), ([91] : List UInt8), ([93] : List UInt8), ([59] : List UInt8), ([44] : List UInt8), ([46] : List UInt8), ([63] : List UInt8), ([58] : List UInt8), ([61] : List UInt8), ([60] : List UInt8), ([62] : List UInt8), ([43] : List UInt8), ([45] : List UInt8), ([42] : List UInt8), ([47] : List UInt8), ([37] : List UInt8), ([33] : List UInt8)]
def eqL : List UInt8 → List UInt8 → Bool
  | [], [] => true
  | a :: l, b :: m => Nat.beq a.toNat b.toNat && eqL l m
  | _, _ => false
def headL : List UInt8 → List UInt8 → Bool
  | [], _ => true
  | a :: l, b :: m => Nat.beq a.toNat b.toNat && headL l m
  | _, _ => false
def inL (l : List (List UInt8)) (s : List UInt8) : Bool := l.any (fun x => eqL x s)
def bytesOf (l : List UInt8) : ByteArray := ⟨l.toArray⟩
def signL : List (List UInt8) → List UInt8 → Option (List UInt8)
  | [], _ => none
  | x :: l, r => if headL x r then some x else signL l r
/-- 7.1: a token, and the place behind it. -/
def tokL (r : List UInt8) (ln : Bool) (n : Nat) : Tk × Nat :=
  match r with
  | [] => (⟨0, bytesOf [], 0, n, ln⟩, n)
  | c :: r' =>
    if digitB c then
      match digitsL (c :: r') 0 0 with
      | (v, k, rest) =>
        if Nat.blt 2147483647 v || (Nat.beq c.toNat 48 && Nat.blt 1 k) || (match rest with | [] => false | d :: _ => letterB d)
        then (⟨6, bytesOf [], 0, n, ln⟩, n + k) else (⟨1, bytesOf ((c :: r').take k), v, n, ln⟩, n + k)
    else if Nat.beq c.toNat 34 then
      match quotedL r' [] (n + 1) with
      | (none, e) => (⟨6, bytesOf [], 0, n, ln⟩, e)
      | (some b, e) => (⟨2, bytesOf b, 0, n, ln⟩, e)
    else if letterB c then
      let k := wordL (c :: r') 0
      let s := (c :: r').take k
      (⟨if inL wordsL s then 4 else 3, bytesOf s, 0, n, ln⟩, n + k)
    else match signL signsL (c :: r') with
      | some x => (⟨5, bytesOf x, 0, n, ln⟩, n + x.length)
      | none => (⟨6, bytesOf [], 0, n, ln⟩, n)
def tok (src : ByteArray) (n : Nat) : Tk × Nat :=
  match blanksL false (src.data.toList.drop n) false n with
  | (r, ln, m) => tokL r ln m
def beqB (a b : ByteArray) : Bool := eqL a.data.toList b.data.toList
def Ps.is (S : Ps) (s : ByteArray) : Bool := (decide (S.t.kind = 5) || decide (S.t.kind = 4)) && beqB S.t.text s
def Ps.move (S : Ps) : Ps := { S with t := (tok S.src S.end_).1, end_ := (tok S.src S.end_).2 }
def Ps.hasB (S : Ps) (s : ByteArray) : Bool := !S.bad && S.is s
def Ps.has (S : Ps) (s : ByteArray) : Ps := if S.hasB s then S.move else S
def Ps.spoilt (S : Ps) : Ps := { S with bad := true }
def Ps.must (S : Ps) (s : ByteArray) : Ps := if S.hasB s then S.move else S.spoilt
def Ps.nameB (S : Ps) : Bool := !S.bad && decide (S.t.kind = 3)
def Ps.name (S : Ps) : Ps := if S.nameB then S.move else S.spoilt
def Ps.nameT (S : Ps) : ByteArray := if S.nameB then S.t.text else ⟨#[]⟩
/-- One more node; none: there are too many. -/
def Ps.put (S : Ps) (n : Nd) : Option (Nat × Ps) := if S.l.length < 1048576 then some (S.l.length, { S with l := S.l ++ [n] }) else none
def Ps.inn (S : Ps) : Ps := { S with deep := wrap64 (S.deep + 1), bad := S.bad || decide (wrap64 (S.deep + 1) > 40) }
def Ps.out (S : Ps) : Ps := { S with deep := wrap64 (S.deep - 1) }
def Ps.endS (S : Ps) : Ps :=
  if S.hasB (⟨#[59]⟩ : ByteArray) then S.move
  else if S.bad then S
  else if !decide (S.t.kind = 0) && !S.is (⟨#[125]⟩ : ByteArray) && !S.t.line then S.spoilt else S
/-- A node's place. -/
def Ps.atOf (S : Ps) (k : Nat) : Option Nat := (S.l[k]?).map Nd.at_
def simpleB (s : ByteArray) : Option (Int × Int) :=
  if beqB s (⟨#[116, 114, 117, 101]⟩ : ByteArray) then some (4, 1) else if beqB s (⟨#[102, 97, 108, 115, 101]⟩ : ByteArray) then some (4, 0) else if beqB s (⟨#[110, 117, 108, 108]⟩ : ByteArray) then some (5, 0)
  else if beqB s (⟨#[117, 110, 100, 101, 102, 105, 110, 101, 100]⟩ : ByteArray) then some (6, 0) else if beqB s (⟨#[116, 104, 105, 115]⟩ : ByteArray) then some (7, 0) else none
def rowsL : List (List ByteArray) := [[(⟨#[124, 124]⟩ : ByteArray)], [(⟨#[38, 38]⟩ : ByteArray)], [(⟨#[61, 61, 61]⟩ : ByteArray), (⟨#[33, 61, 61]⟩ : ByteArray)], [(⟨#[60]⟩ : ByteArray), (⟨#[60, 61]⟩ : ByteArray), (⟨#[62]⟩ : ByteArray), (⟨#[62, 61]⟩ : ByteArray)], [(⟨#[43]⟩ : ByteArray), (⟨#[45]⟩ : ByteArray)], [(⟨#[42]⟩ : ByteArray), (⟨#[47]⟩ : ByteArray), (⟨#[37]⟩ : ByteArray)]]
def inRow (level : Nat) (s : ByteArray) : Bool := ((rowsL[level]?).getD []).any (fun x => beqB x s)
/-- What is asked of the parser. -/
inductive Call where
  | list (last : Bool) (acc : List Nat)
  | block
  | stmt
  | inner
  | one
  | fn (named : Bool)
  | e
  | assign
  | cond
  | binary (level : Nat)
  | binL (level k : Nat)
  | unary
  | post
  | postL (k : Nat)
  | commas (last : ByteArray)
  | commL (last : ByteArray) (acc : List Nat)
  | first
  | obj (names : List ByteArray) (kids : List Nat) (at_ : Nat)
/-- An answer: a node, or nodes, and the parser behind. -/
abbrev Ans := Option (Nat × List Nat × Ps)
def one1 (r : Option (Nat × Ps)) : Ans := r.map (fun x => (x.1, [], x.2))
def nd (kind : Int) (kids : List Nat) (at_ : Nat) : Nd := ⟨kind, 0, ⟨#[]⟩, [], kids, at_⟩
def ndT (kind : Int) (text : ByteArray) (kids : List Nat) (at_ : Nat) : Nd := ⟨kind, 0, text, [], kids, at_⟩
/-- Parameters behind the first one. -/
def namesL : Nat → List ByteArray → Ps → Option (List ByteArray × Ps)
  | 0, _, _ => none
  | m + 1, acc, S => if S.hasB (⟨#[44]⟩ : ByteArray) then (if acc.length < 1048576 then namesL m (acc ++ [S.move.nameT]) S.move.name else none) else some (acc, S)
def names0 (m : Nat) (S : Ps) : Option (List ByteArray × Ps) := if !S.is (⟨#[41]⟩ : ByteArray) then namesL m [S.nameT] S.name else some ([], S)
section
variable (R : Call → Ps → Ans) (m : Nat)
def listF (last : Bool) (acc : List Nat) (S : Ps) : Ans :=
  if S.bad then some (0, acc, S)
  else if (last && decide (S.t.kind = 0)) || (!last && S.is (⟨#[125]⟩ : ByteArray)) then some (0, acc, S)
  else (R .stmt S).bind fun x => if acc.length < 1048576 then R (.list last (acc ++ [x.1])) x.2.2 else none
def blockF (S : Ps) : Ans := (R (.list false []) (S.must (⟨#[123]⟩ : ByteArray))).bind fun x => one1 ((x.2.2.must (⟨#[125]⟩ : ByteArray)).put (nd 25 x.2.1 S.t.at_))
def stmtF (S : Ps) : Ans := if S.inn.bad then some (0, [], S.inn.out) else (R .one S.inn).bind fun x => some (x.1, [], x.2.2.out)
def innerF (S : Ps) : Ans :=
  if S.is (⟨#[108, 101, 116]⟩ : ByteArray) || S.is (⟨#[99, 111, 110, 115, 116]⟩ : ByteArray) || S.is (⟨#[102, 117, 110, 99, 116, 105, 111, 110]⟩ : ByteArray) then some (0, [], S.spoilt)
  else if S.bad then some (0, [], S) else R .stmt S
def ifF (S : Ps) : Ans :=
  (R .e (S.move.must (⟨#[40]⟩ : ByteArray))).bind fun x => (R .inner (x.2.2.must (⟨#[41]⟩ : ByteArray))).bind fun y =>
    if y.2.2.hasB (⟨#[101, 108, 115, 101]⟩ : ByteArray) then (R .inner y.2.2.move).bind fun z => one1 (z.2.2.put (nd 26 [x.1, y.1, z.1] S.t.at_))
    else one1 (y.2.2.put (nd 26 [x.1, y.1] S.t.at_))
def whileF (S : Ps) : Ans :=
  (R .e (S.move.must (⟨#[40]⟩ : ByteArray))).bind fun x => (R .inner (x.2.2.must (⟨#[41]⟩ : ByteArray))).bind fun y => one1 (y.2.2.put (nd 27 [x.1, y.1] S.t.at_))
def returnF (S : Ps) : Ans :=
  if !S.move.t.line && !decide (S.move.t.kind = 0) && !S.move.is (⟨#[59]⟩ : ByteArray) && !S.move.is (⟨#[125]⟩ : ByteArray) then (R .e S.move).bind fun x => one1 (x.2.2.endS.put (nd 30 [x.1] S.t.at_))
  else one1 (S.move.endS.put (nd 30 [] S.t.at_))
def throwF (S : Ps) : Ans := (R .e (if S.move.t.line then S.move.spoilt else S.move)).bind fun x => one1 (x.2.2.endS.put (nd 31 [x.1] S.t.at_))
def tryF (S : Ps) : Ans :=
  (R .block S.move).bind fun x =>
    let S2 := (x.2.2.must (⟨#[99, 97, 116, 99, 104]⟩ : ByteArray)).must (⟨#[40]⟩ : ByteArray)
    (R .block (S2.name.must (⟨#[41]⟩ : ByteArray))).bind fun y => one1 (y.2.2.put (ndT 32 S2.nameT [x.1, y.1] S.t.at_))
def letF (S : Ps) : Ans :=
  (R .e (S.move.name.must (⟨#[61]⟩ : ByteArray))).bind fun x => one1 (x.2.2.endS.put (ndT (if S.is (⟨#[99, 111, 110, 115, 116]⟩ : ByteArray) then 22 else 21) S.move.nameT [x.1] S.t.at_))
def exprF (S : Ps) : Ans :=
  (R .e S).bind fun x => if x.2.2.endS.bad then some (0, [], x.2.2.endS) else (x.2.2.endS.atOf x.1).bind fun a => one1 (x.2.2.endS.put (nd 24 [x.1] a))
def oneF (S : Ps) : Ans :=
  if S.is (⟨#[123]⟩ : ByteArray) then R .block S
  else if S.is (⟨#[102, 117, 110, 99, 116, 105, 111, 110]⟩ : ByteArray) then (R (.fn true) S).bind fun x => one1 (x.2.2.put (nd 23 [x.1] S.t.at_))
  else if S.hasB (⟨#[105, 102]⟩ : ByteArray) then ifF R S
  else if S.hasB (⟨#[119, 104, 105, 108, 101]⟩ : ByteArray) then whileF R S
  else if S.hasB (⟨#[98, 114, 101, 97, 107]⟩ : ByteArray) then one1 (S.move.endS.put (nd 28 [] S.t.at_))
  else if S.hasB (⟨#[99, 111, 110, 116, 105, 110, 117, 101]⟩ : ByteArray) then one1 (S.move.endS.put (nd 29 [] S.t.at_))
  else if S.hasB (⟨#[114, 101, 116, 117, 114, 110]⟩ : ByteArray) then returnF R S
  else if S.hasB (⟨#[116, 104, 114, 111, 119]⟩ : ByteArray) then throwF R S
  else if S.hasB (⟨#[116, 114, 121]⟩ : ByteArray) then tryF R S
  else if S.is (⟨#[108, 101, 116]⟩ : ByteArray) || S.is (⟨#[99, 111, 110, 115, 116]⟩ : ByteArray) then letF R S
  else exprF R S
/-- Behind a function's name. -/
def fnT (num : Int) (text : ByteArray) (a : Nat) (S : Ps) : Ans :=
  (names0 m (S.must (⟨#[40]⟩ : ByteArray))).bind fun x => (R (.list false []) ((x.2.must (⟨#[41]⟩ : ByteArray)).must (⟨#[123]⟩ : ByteArray))).bind fun y => one1 ((y.2.2.must (⟨#[125]⟩ : ByteArray)).put ⟨10, num, text, x.1, y.2.1, a⟩)
def fnF (named : Bool) (S : Ps) : Ans :=
  let S1 := S.must (⟨#[102, 117, 110, 99, 116, 105, 111, 110]⟩ : ByteArray)
  let S2 := S1.has (⟨#[42]⟩ : ByteArray)
  let num : Int := if S1.hasB (⟨#[42]⟩ : ByteArray) then 1 else 0
  if named || decide (S2.t.kind = 3) then fnT R m num S2.nameT S.t.at_ S2.name else fnT R m num ⟨#[]⟩ S.t.at_ S2
def eF (S : Ps) : Ans :=
  if S.bad then some (0, [], S.spoilt)
  else if S.inn.bad then some (0, [], S.inn.spoilt) else (R .assign S.inn).bind fun x => some (x.1, [], x.2.2.out)
def assignF (S : Ps) : Ans :=
  if S.hasB (⟨#[121, 105, 101, 108, 100]⟩ : ByteArray) then (R .e S.move).bind fun x => one1 (x.2.2.put (nd 20 [x.1] S.t.at_))
  else (R .cond S).bind fun x =>
    if x.2.2.bad then some (0, [], x.2.2)
    else (x.2.2.l[x.1]?).bind fun n =>
      if (decide (n.kind = 3) || decide (n.kind = 11) || decide (n.kind = 12)) && x.2.2.hasB (⟨#[61]⟩ : ByteArray) then
        (R .e x.2.2.move).bind fun v => (v.2.2.atOf x.1).bind fun a => one1 (v.2.2.put (nd 19 [x.1, v.1] a))
      else some (x.1, [], x.2.2)
def condF (S : Ps) : Ans :=
  (R (.binary 0) S).bind fun x =>
    if x.2.2.bad || !x.2.2.hasB (⟨#[63]⟩ : ByteArray) then some (x.1, [], x.2.2)
    else (R .e x.2.2.move).bind fun a =>
      if (a.2.2.must (⟨#[58]⟩ : ByteArray)).bad then some (0, [], a.2.2.must (⟨#[58]⟩ : ByteArray))
      else (R .e (a.2.2.must (⟨#[58]⟩ : ByteArray))).bind fun b => (b.2.2.atOf x.1).bind fun p => one1 (b.2.2.put (nd 18 [x.1, a.1, b.1] p))
def binaryF (level : Nat) (S : Ps) : Ans :=
  if level = 6 then R .unary S else (R (.binary (level + 1)) S).bind fun x => R (.binL level x.1) x.2.2
def binNd (s : ByteArray) (kids : List Nat) (a : Nat) : Nd := if beqB s (⟨#[124, 124]⟩ : ByteArray) then nd 17 kids a else if beqB s (⟨#[38, 38]⟩ : ByteArray) then nd 16 kids a else ndT 15 s kids a
def binLF (level k : Nat) (S : Ps) : Ans :=
  if !S.bad && decide (S.t.kind = 5) && inRow level S.t.text then
    (R (.binary (level + 1)) S.move).bind fun x => (x.2.2.atOf k).bind fun a => (x.2.2.put (binNd S.t.text [k, x.1] a)).bind fun y => R (.binL level y.1) y.2
  else some (k, [], S)
def unaryF (S : Ps) : Ans :=
  if S.bad then some (0, [], S.spoilt)
  else if S.inn.bad then some (0, [], S.inn.spoilt)
  else if S.inn.is (⟨#[33]⟩ : ByteArray) || S.inn.is (⟨#[45]⟩ : ByteArray) || S.inn.is (⟨#[116, 121, 112, 101, 111, 102]⟩ : ByteArray) then
    (R .unary S.inn.move).bind fun x => (x.2.2.put (ndT 14 S.t.text [x.1] S.t.at_)).bind fun y => some (y.1, [], y.2.out)
  else (R .post S.inn).bind fun x => some (x.1, [], x.2.2.out)
def postF (S : Ps) : Ans := if S.inn.bad then some (0, [], S.inn) else (R .first S.inn).bind fun x => R (.postL x.1) x.2.2
def postLF (k : Nat) (S : Ps) : Ans :=
  if S.bad then some (k, [], S.out)
  else (S.atOf k).bind fun a =>
    if S.hasB (⟨#[46]⟩ : ByteArray) then
      if !decide (S.move.t.kind = 3) && !decide (S.move.t.kind = 4) then some (k, [], S.move.spoilt.out)
      else (S.move.move.put (ndT 11 S.move.t.text [k] a)).bind fun y => R (.postL y.1) y.2
    else if S.hasB (⟨#[91]⟩ : ByteArray) then (R .e S.move).bind fun x => ((x.2.2.must (⟨#[93]⟩ : ByteArray)).put (nd 12 [k, x.1] a)).bind fun y => R (.postL y.1) y.2
    else if S.hasB (⟨#[40]⟩ : ByteArray) then (R (.commas (⟨#[41]⟩ : ByteArray)) S.move).bind fun x => if x.2.1.length < 1048576 then (x.2.2.put (nd 13 (k :: x.2.1) a)).bind fun y => R (.postL y.1) y.2 else none
    else some (k, [], S.out)
def commasF (last : ByteArray) (S : Ps) : Ans :=
  if S.hasB last then some (0, [], S.move) else (R .e S).bind fun x => R (.commL last [x.1]) x.2.2
def commLF (last : ByteArray) (acc : List Nat) (S : Ps) : Ans :=
  if S.hasB (⟨#[44]⟩ : ByteArray) then (R .e S.move).bind fun x => if acc.length < 1048576 then R (.commL last (acc ++ [x.1])) x.2.2 else none
  else some (0, acc, S.must last)
def firstF (S : Ps) : Ans :=
  if S.t.kind = 1 then one1 (S.move.put ⟨1, S.t.num, ⟨#[]⟩, [], [], S.t.at_⟩)
  else if S.t.kind = 2 then one1 (S.move.put (ndT 2 S.t.text [] S.t.at_))
  else if S.t.kind = 3 then one1 (S.move.put (ndT 3 S.t.text [] S.t.at_))
  else match (if S.t.kind = 4 then simpleB S.t.text else none) with
    | some q => one1 (S.move.put ⟨q.1, q.2, ⟨#[]⟩, [], [], S.t.at_⟩)
    | none =>
      if S.is (⟨#[102, 117, 110, 99, 116, 105, 111, 110]⟩ : ByteArray) then R (.fn false) S
      else if S.hasB (⟨#[40]⟩ : ByteArray) then (R .e S.move).bind fun x => some (x.1, [], x.2.2.must (⟨#[41]⟩ : ByteArray))
      else if S.hasB (⟨#[91]⟩ : ByteArray) then (R (.commas (⟨#[93]⟩ : ByteArray)) S.move).bind fun x => one1 (x.2.2.put (nd 9 x.2.1 S.t.at_))
      else if S.hasB (⟨#[123]⟩ : ByteArray) then R (.obj [] [] S.t.at_) S.move
      else some (0, [], S.spoilt)
def objEnd (names : List ByteArray) (kids : List Nat) (a : Nat) (S : Ps) : Ans := one1 ((S.must (⟨#[125]⟩ : ByteArray)).put ⟨8, 0, ⟨#[]⟩, names, kids, a⟩)
def objF (names : List ByteArray) (kids : List Nat) (a : Nat) (S : Ps) : Ans :=
  if !S.is (⟨#[125]⟩ : ByteArray) || !kids.isEmpty then
    if !decide (S.t.kind = 3) && !decide (S.t.kind = 4) && !decide (S.t.kind = 2) then some (0, [], S.spoilt)
    else if S.bad then some (0, [], S)
    else (R .e (S.move.must (⟨#[58]⟩ : ByteArray))).bind fun x =>
      if names.length < 1048576 ∧ kids.length < 1048576 then
        if x.2.2.hasB (⟨#[44]⟩ : ByteArray) then R (.obj (names ++ [S.t.text]) (kids ++ [x.1]) a) x.2.2.move
        else objEnd (names ++ [S.t.text]) (kids ++ [x.1]) a x.2.2
      else none
  else objEnd names kids a S
def stepF : Call → Ps → Ans
  | .list last acc, S => listF R last acc S
  | .block, S => blockF R S
  | .stmt, S => stmtF R S
  | .inner, S => innerF R S
  | .one, S => oneF R S
  | .fn named, S => fnF R m named S
  | .e, S => eF R S
  | .assign, S => assignF R S
  | .cond, S => condF R S
  | .binary level, S => binaryF R level S
  | .binL level k, S => binLF R level k S
  | .unary, S => unaryF R S
  | .post, S => postF R S
  | .postL k, S => postLF R k S
  | .commas last, S => commasF R last S
  | .commL last acc, S => commLF R last acc S
  | .first, S => firstF R S
  | .obj names kids a, S => objF R names kids a S
end
/-- The parser, so many calls deep. -/
def run : Nat → Call → Ps → Ans
  | 0, _, _ => none
  | m + 1, c, S => stepF (run m) m c S
/-- A program's nodes; or where it is wrong. -/
structure Tree where
  l : List Nd
  at_ : Nat
  ok : Bool
def start (src : ByteArray) : Ps := ⟨src, (tok src 0).1, (tok src 0).2, [], 0, false⟩
def fuel (src : ByteArray) : Nat := 1000 + 24 * (src.size + 2)
def parseN (n : Nat) (src : ByteArray) : Option Tree :=
  if src.size > 4096 then some ⟨[], 0, false⟩
  else (run n (.list true []) (start src)).bind fun x =>
    if x.2.2.bad then some ⟨[], x.2.2.t.at_, false⟩ else (x.2.2.put (nd 33 x.2.1 0)).map fun y => ⟨y.2.l, 0, true⟩
def parse (src : ByteArray) : Option Tree := parseN (fuel src) src
end Go.Proofs.Yticbjhicjegfoaa.Q
