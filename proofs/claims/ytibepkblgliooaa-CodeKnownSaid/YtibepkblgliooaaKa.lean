/- What a proof further on needs (part a). -/
import Derived.RowKit
set_option linter.unusedVariables false
namespace Go.Proofs.Ytibepkblgliooaa.Q
open Go.RowKit
/-- A token, a node, a parser. -/
structure Tk where
  kind : Int
  text : ByteArray
  num : Int
  at_ : Nat
  line : Bool
structure Nd where
  kind : Int
  num : Int
  text : ByteArray
  names : List ByteArray
  kids : List Nat
  at_ : Nat
structure Ps where
  src : ByteArray
  t : Tk
  end_ : Nat
  l : List Nd
  deep : Int
  bad : Bool
def digitB (c : UInt8) : Bool := Nat.ble 48 c.toNat && Nat.ble c.toNat 57
def letterB (c : UInt8) : Bool := (Nat.ble 97 c.toNat && Nat.ble c.toNat 122) || (Nat.ble 65 c.toNat && Nat.ble c.toNat 90) || Nat.beq c.toNat 95 || Nat.beq c.toNat 36
/-- Blanks and comments: what is left, whether a line ends among these, the place behind. -/
def blanksL : Bool → List UInt8 → Bool → Nat → List UInt8 × Bool × Nat
  | _, [], ln, n => ([], ln, n)
  | true, c :: r, ln, n => if Nat.beq c.toNat 10 then blanksL false r true (n + 1) else blanksL true r ln (n + 1)
  | false, c :: r, ln, n => if Nat.beq c.toNat 10 then blanksL false r true (n + 1)
    else if Nat.beq c.toNat 9 || Nat.beq c.toNat 13 || Nat.beq c.toNat 32 then blanksL false r ln (n + 1)
    else if Nat.beq c.toNat 47 && (match r with | [] => false | d :: _ => Nat.beq d.toNat 47) then blanksL true r ln (n + 1)
    else (c :: r, ln, n)
/-- Digits: their value, how many, what is left. -/
def digitsL : List UInt8 → Nat → Nat → Nat × Nat × List UInt8
  | [], v, n => (v, n, [])
  | c :: r, v, n => if digitB c then digitsL r (min (v * 10 + (c.toNat - 48)) 2147483648) (n + 1) else (v, n, c :: r)
def wordL : List UInt8 → Nat → Nat
  | [], n => n
  | c :: r, n => if letterB c || digitB c then wordL r (n + 1) else n
/-- A text behind its quote: its bytes (or none: it is bad), the place where it ends. -/
def quotedL : List UInt8 → List UInt8 → Nat → Option (List UInt8) × Nat
  | [], _, n => (none, n)
  | c :: r, b, n =>
    if Nat.beq c.toNat 34 then (some b, n + 1)
    else if Nat.beq c.toNat 92 then
      match r with
      | [] => (none, n)
      | d :: r' => if Nat.beq d.toNat 34 || Nat.beq d.toNat 92 then quotedL r' (b ++ [d]) (n + 2)
        else if Nat.beq d.toNat 110 then quotedL r' (b ++ [10]) (n + 2)
        else (none, n + 1)
    else if Nat.blt c.toNat 32 || Nat.blt 126 c.toNat then (none, n)
    else quotedL r (b ++ [c]) (n + 1)
def wordsL : List (List UInt8) := [([108, 101, 116] : List UInt8), ([99, 111, 110, 115, 116] : List UInt8), ([102, 117, 110, 99, 116, 105, 111, 110] : List UInt8), ([114, 101, 116, 117, 114, 110] : List UInt8), ([105, 102] : List UInt8), ([101, 108, 115, 101] : List UInt8), ([119, 104, 105, 108, 101] : List UInt8), ([98, 114, 101, 97, 107] : List UInt8), ([99, 111, 110, 116, 105, 110, 117, 101] : List UInt8), ([116, 104, 114, 111, 119] : List UInt8), ([116, 114, 121] : List UInt8), ([99, 97, 116, 99, 104] : List UInt8), ([116, 114, 117, 101] : List UInt8), ([102, 97, 108, 115, 101] : List UInt8), ([110, 117, 108, 108] : List UInt8), ([117, 110, 100, 101, 102, 105, 110, 101, 100] : List UInt8), ([116, 104, 105, 115] : List UInt8), ([116, 121, 112, 101, 111, 102] : List UInt8), ([121, 105, 101, 108, 100] : List UInt8)]
def signsL : List (List UInt8) := [([61, 61, 61] : List UInt8), ([33, 61, 61] : List UInt8), ([60, 61] : List UInt8), ([62, 61] : List UInt8), ([38, 38] : List UInt8), ([124, 124] : List UInt8), ([123] : List UInt8), ([125] : List UInt8), ([40] : List UInt8), ([41] : List UInt8), ([91] : List UInt8), ([93] : List UInt8), ([59] : List UInt8), ([44] : List UInt8), ([46] : List UInt8), ([63] : List UInt8), ([58] : List UInt8), ([61] : List UInt8), ([60] : List UInt8), ([62] : List UInt8), ([43] : List UInt8), ([45] : List UInt8), ([42] : List UInt8), ([47] : List UInt8), ([37] : List UInt8), ([33] : List UInt8)]
def eqL : List UInt8 → List UInt8 → Bool
  | [], [] => true
  | a :: l, b :: m => Nat.beq a.toNat b.toNat && eqL l m
  | _, _ => false
def headL : List UInt8 → List UInt8 → Bool
  | [], _ => true
  | a :: l, b :: m => Nat.beq a.toNat b.toNat && headL l m
  | _, _ => false
def inL (l : List (List UInt8)) (s : List UInt8) : Bool := l.any (fun x => eqL x s)
def bytesOf (l : List UInt8) : ByteArray := ⟨l.toArray⟩
def signL : List (List UInt8) → List UInt8 → Option (List UInt8)
  | [], _ => none
  | x :: l, r => if headL x r then some x else signL l r
/-- 7.1: a token, and the place behind it. -/
def tokL (r : List UInt8) (ln : Bool) (n : Nat) : Tk × Nat :=
  match r with
  | [] => (⟨0, bytesOf [], 0, n, ln⟩, n)
  | c :: r' =>
    if digitB c then
      match digitsL (c :: r') 0 0 with
      | (v, k, rest) =>
        if Nat.blt 2147483647 v || (Nat.beq c.toNat 48 && Nat.blt 1 k) || (match rest with | [] => false | d :: _ => letterB d)
        then (⟨6, bytesOf [], 0, n, ln⟩, n + k) else (⟨1, bytesOf ((c :: r').take k), v, n, ln⟩, n + k)
    else if Nat.beq c.toNat 34 then
      match quotedL r' [] (n + 1) with
      | (none, e) => (⟨6, bytesOf [], 0, n, ln⟩, e)
      | (some b, e) => (⟨2, bytesOf b, 0, n, ln⟩, e)
    else if letterB c then
      let k := wordL (c :: r') 0
      let s := (c :: r').take k
      (⟨if inL wordsL s then 4 else 3, bytesOf s, 0, n, ln⟩, n + k)
    else match signL signsL (c :: r') with
      | some x => (⟨5, bytesOf x, 0, n, ln⟩, n + x.length)
      | none => (⟨6, bytesOf [], 0, n, ln⟩, n)
def tok (src : ByteArray) (n : Nat) : Tk × Nat :=
  match blanksL false (src.data.toList.drop n) false n with
  | (r, ln, m) => tokL r ln m
def beqB (a b : ByteArray) : Bool := eqL a.data.toList b.data.toList
def Ps.is (S : Ps) (s : ByteArray) : Bool := (decide (S.t.kind = 5) || decide (S.t.kind = 4)) && beqB S.t.text s
def Ps.move (S : Ps) : Ps := { S with t := (tok S.src S.end_).1, end_ := (tok S.src S.end_).2 }
def Ps.hasB (S : Ps) (s : ByteArray) : Bool := !S.bad && S.is s
def Ps.has (S : Ps) (s : ByteArray) : Ps := if S.hasB s then S.move else S
def Ps.spoilt (S : Ps) : Ps := { S with bad := true }
def Ps.must (S : Ps) (s : ByteArray) : Ps := if S.hasB s then S.move else S.spoilt
def Ps.nameB (S : Ps) : Bool := !S.bad && decide (S.t.kind = 3)
def Ps.name (S : Ps) : Ps := if S.nameB then S.move else S.spoilt
def Ps.nameT (S : Ps) : ByteArray := if S.nameB then S.t.text else ⟨#[]⟩
/-- One more node; none: there are too many. -/
def Ps.put (S : Ps) (n : Nd) : Option (Nat × Ps) := if S.l.length < 1048576 then some (S.l.length, { S with l := S.l ++ [n] }) else none
def Ps.inn (S : Ps) : Ps := { S with deep := wrap64 (S.deep + 1), bad := S.bad || decide (wrap64 (S.deep + 1) > 40) }
def Ps.out (S : Ps) : Ps := { S with deep := wrap64 (S.deep - 1) }
def Ps.endS (S : Ps) : Ps :=
  if S.hasB (⟨#[59]⟩ : ByteArray) then S.move
  else if S.bad then S
  else if !decide (S.t.kind = 0) && !S.is (⟨#[125]⟩ : ByteArray) && !S.t.line then S.spoilt else S
/-- A node's place. -/
def Ps.atOf (S : Ps) (k : Nat) : Option Nat := (S.l[k]?).map Nd.at_
def simpleB (s : ByteArray) : Option (Int × Int) :=
  if beqB s (⟨#[116, 114, 117, 101]⟩ : ByteArray) then some (4, 1) else if beqB s (⟨#[102, 97, 108, 115, 101]⟩ : ByteArray) then some (4, 0) else if beqB s (⟨#[110, 117, 108, 108]⟩ : ByteArray) then some (5, 0)
  else if beqB s (⟨#[117, 110, 100, 101, 102, 105, 110, 101, 100]⟩ : ByteArray) then some (6, 0) else if beqB s (⟨#[116, 104, 105, 115]⟩ : ByteArray) then some (7, 0) else none
def rowsL : List (List ByteArray) := [[(⟨#[124, 124]⟩ : ByteArray)], [(⟨#[38, 38]⟩ : ByteArray)], [(⟨#[61, 61, 61]⟩ : ByteArray), (⟨#[33, 61, 61]⟩ : ByteArray)], [(⟨#[60]⟩ : ByteArray), (⟨#[60, 61]⟩ : ByteArray), (⟨#[62]⟩ : ByteArray), (⟨#[62, 61]⟩ : ByteArray)], [(⟨#[43]⟩ : ByteArray), (⟨#[45]⟩ : ByteArray)], [(⟨#[42]⟩ : ByteArray), (⟨#[47]⟩ : ByteArray), (⟨#[37]⟩ : ByteArray)]]
def inRow (level : Nat) (s : ByteArray) : Bool := ((rowsL[level]?).getD []).any (fun x => beqB x s)
/-- What is asked of the parser. -/
inductive Call where
  | list (last : Bool) (acc : List Nat)
  | block
  | stmt
  | inner
  | one
  | fn (named : Bool)
  | e
  | assign
  | cond
  | binary (level : Nat)
  | binL (level k : Nat)
  | unary
  | post
  | postL (k : Nat)
  | commas (last : ByteArray)
  | commL (last : ByteArray) (acc : List Nat)
  | first
  | obj (names : List ByteArray) (kids : List Nat) (at_ : Nat)
/-- An answer: a node, or nodes, and the parser behind. -/
abbrev Ans := Option (Nat × List Nat × Ps)
def one1 (r : Option (Nat × Ps)) : Ans := r.map (fun x => (x.1, [], x.2))
def nd (kind : Int) (kids : List Nat) (at_ : Nat) : Nd := ⟨kind, 0, ⟨#[]⟩, [], kids, at_⟩
def ndT (kind : Int) (text : ByteArray) (kids : List Nat) (at_ : Nat) : Nd := ⟨kind, 0, text, [], kids, at_⟩
/-- Parameters behind the first one. -/
def namesL : Nat → List ByteArray → Ps → Option (List ByteArray × Ps)
  | 0, _, _ => none
  | m + 1, acc, S => if S.hasB (⟨#[44]⟩ : ByteArray) then (if acc.length < 1048576 then namesL m (acc ++ [S.move.nameT]) S.move.name else none) else some (acc, S)
def names0 (m : Nat) (S : Ps) : Option (List ByteArray × Ps) := if !S.is (⟨#[41]⟩ : ByteArray) then namesL m [S.nameT] S.name else some ([], S)
section
variable (R : Call → Ps → Ans) (m : Nat)
def listF (last : Bool) (acc : List Nat) (S : Ps) : Ans :=
  if S.bad then some (0, acc, S)
  else if (last && decide (S.t.kind = 0)) || (!last && S.is (⟨#[125]⟩ : ByteArray)) then some (0, acc, S)
  else (R .stmt S).bind fun x => if acc.length < 1048576 then R (.list last (acc ++ [x.1])) x.2.2 else none
def blockF (S : Ps) : Ans := (R (.list false []) (S.must (⟨#[123]⟩ : ByteArray))).bind fun x => one1 ((x.2.2.must (⟨#[125]⟩ : ByteArray)).put (nd 25 x.2.1 S.t.at_))
def stmtF (S : Ps) : Ans := if S.inn.bad then some (0, [], S.inn.out) else (R .one S.inn).bind fun x => some (x.1, [], x.2.2.out)
def innerF (S : Ps) : Ans :=
  if S.is (⟨#[108, 101, 116]⟩ : ByteArray) || S.is (⟨#[99, 111, 110, 115, 116]⟩ : ByteArray) || S.is (⟨#[102, 117, 110, 99, 116, 105, 111, 110]⟩ : ByteArray) then some (0, [], S.spoilt)
  else if S.bad then some (0, [], S) else R .stmt S
def ifF (S : Ps) : Ans :=
  (R .e (S.move.must (⟨#[40]⟩ : ByteArray))).bind fun x => (R .inner (x.2.2.must (⟨#[41]⟩ : ByteArray))).bind fun y =>
    if y.2.2.hasB (⟨#[101, 108, 115, 101]⟩ : ByteArray) then (R .inner y.2.2.move).bind fun z => one1 (z.2.2.put (nd 26 [x.1, y.1, z.1] S.t.at_))
    else one1 (y.2.2.put (nd 26 [x.1, y.1] S.t.at_))
def whileF (S : Ps) : Ans :=
  (R .e (S.move.must (⟨#[40]⟩ : ByteArray))).bind fun x => (R .inner (x.2.2.must (⟨#[41]⟩ : ByteArray))).bind fun y => one1 (y.2.2.put (nd 27 [x.1, y.1] S.t.at_))
def returnF (S : Ps) : Ans :=
  if !S.move.t.line && !decide (S.move.t.kind = 0) && !S.move.is (⟨#[59]⟩ : ByteArray) && !S.move.is (⟨#[125]⟩ : ByteArray) then (R .e S.move).bind fun x => one1 (x.2.2.endS.put (nd 30 [x.1] S.t.at_))
  else one1 (S.move.endS.put (nd 30 [] S.t.at_))
def throwF (S : Ps) : Ans := (R .e (if S.move.t.line then S.move.spoilt else S.move)).bind fun x => one1 (x.2.2.endS.put (nd 31 [x.1] S.t.at_))
def tryF (S : Ps) : Ans :=
  (R .block S.move).bind fun x =>
    let S2 := (x.2.2.must (⟨#[99, 97, 116, 99, 104]⟩ : ByteArray)).must (⟨#[40]⟩ : ByteArray)
    (R .block (S2.name.must (⟨#[41]⟩ : ByteArray))).bind fun y => one1 (y.2.2.put (ndT 32 S2.nameT [x.1, y.1] S.t.at_))
def letF (S : Ps) : Ans :=
  (R .e (S.move.name.must (⟨#[61]⟩ : ByteArray))).bind fun x => one1 (x.2.2.endS.put (ndT (if S.is (⟨#[99, 111, 110, 115, 116]⟩ : ByteArray) then 22 else 21) S.move.nameT [x.1] S.t.at_))
def exprF (S : Ps) : Ans :=
  (R .e S).bind fun x => if x.2.2.endS.bad then some (0, [], x.2.2.endS) else (x.2.2.endS.atOf x.1).bind fun a => one1 (x.2.2.endS.put (nd 24 [x.1] a))
def oneF (S : Ps) : Ans :=
  if S.is (⟨#[123]⟩ : ByteArray) then R .block S
  else if S.is (⟨#[102, 117, 110, 99, 116, 105, 111, 110]⟩ : ByteArray) then (R (.fn true) S).bind fun x => one1 (x.2.2.put (nd 23 [x.1] S.t.at_))
  else if S.hasB (⟨#[105, 102]⟩ : ByteArray) then ifF R S
  else if S.hasB (⟨#[119, 104, 105, 108, 101]⟩ : ByteArray) then whileF R S
  else if S.hasB (⟨#[98, 114, 101, 97, 107]⟩ : ByteArray) then one1 (S.move.endS.put (nd 28 [] S.t.at_))
  else if S.hasB (⟨#[99, 111, 110, 116, 105, 110, 117, 101]⟩ : ByteArray) then one1 (S.move.endS.put (nd 29 [] S.t.at_))
  else if S.hasB (⟨#[114, 101, 116, 117, 114, 110]⟩ : ByteArray) then returnF R S
  else if S.hasB (⟨#[116, 104, 114, 111, 119]⟩ : ByteArray) then throwF R S
  else if S.hasB (⟨#[116, 114, 121]⟩ : ByteArray) then tryF R S
  else if S.is (⟨#[108, 101, 116]⟩ : ByteArray) || S.is (⟨#[99, 111, 110, 115, 116]⟩ : ByteArray) then letF R S
  else exprF R S
/-- Behind a function's name. -/
def fnT (num : Int) (text : ByteArray) (a : Nat) (S : Ps) : Ans :=
  (names0 m (S.must (⟨#[40]⟩ : ByteArray))).bind fun x => (R (.list false []) ((x.2.must (⟨#[41]⟩ : ByteArray)).must (⟨#[123]⟩ : ByteArray))).bind fun y => one1 ((y.2.2.must (⟨#[125]⟩ : ByteArray)).put ⟨10, num, text, x.1, y.2.1, a⟩)
def fnF (named : Bool) (S : Ps) : Ans :=
  let S1 := S.must (⟨#[102, 117, 110, 99, 116, 105, 111, 110]⟩ : ByteArray)
  let S2 := S1.has (⟨#[42]⟩ : ByteArray)
  let num : Int := if S1.hasB (⟨#[42]⟩ : ByteArray) then 1 else 0
  if named || decide (S2.t.kind = 3) then fnT R m num S2.nameT S.t.at_ S2.name else fnT R m num ⟨#[]⟩ S.t.at_ S2
def eF (S : Ps) : Ans :=
  if S.bad then some (0, [], S.spoilt)
  else if S.inn.bad then some (0, [], S.inn.spoilt) else (R .assign S.inn).bind fun x => some (x.1, [], x.2.2.out)
def assignF (S : Ps) : Ans :=
  if S.hasB (⟨#[121, 105, 101, 108, 100]⟩ : ByteArray) then (R .e S.move).bind fun x => one1 (x.2.2.put (nd 20 [x.1] S.t.at_))
  else (R .cond S).bind fun x =>
    if x.2.2.bad then some (0, [], x.2.2)
    else (x.2.2.l[x.1]?).bind fun n =>
      if (decide (n.kind = 3) || decide (n.kind = 11) || decide (n.kind = 12)) && x.2.2.hasB (⟨#[61]⟩ : ByteArray) then
        (R .e x.2.2.move).bind fun v => (v.2.2.atOf x.1).bind fun a => one1 (v.2.2.put (nd 19 [x.1, v.1] a))
      else some (x.1, [], x.2.2)
def condF (S : Ps) : Ans :=
  (R (.binary 0) S).bind fun x =>
    if x.2.2.bad || !x.2.2.hasB (⟨#[63]⟩ : ByteArray) then some (x.1, [], x.2.2)
    else (R .e x.2.2.move).bind fun a =>
      if (a.2.2.must (⟨#[58]⟩ : ByteArray)).bad then some (0, [], a.2.2.must (⟨#[58]⟩ : ByteArray))
      else (R .e (a.2.2.must (⟨#[58]⟩ : ByteArray))).bind fun b => (b.2.2.atOf x.1).bind fun p => one1 (b.2.2.put (nd 18 [x.1, a.1, b.1] p))
def binaryF (level : Nat) (S : Ps) : Ans :=
  if level = 6 then R .unary S else (R (.binary (level + 1)) S).bind fun x => R (.binL level x.1) x.2.2
def binNd (s : ByteArray) (kids : List Nat) (a : Nat) : Nd := if beqB s (⟨#[124, 124]⟩ : ByteArray) then nd 17 kids a else if beqB s (⟨#[38, 38]⟩ : ByteArray) then nd 16 kids a else ndT 15 s kids a
def binLF (level k : Nat) (S : Ps) : Ans :=
  if !S.bad && decide (S.t.kind = 5) && inRow level S.t.text then
    (R (.binary (level + 1)) S.move).bind fun x => (x.2.2.atOf k).bind fun a => (x.2.2.put (binNd S.t.text [k, x.1] a)).bind fun y => R (.binL level y.1) y.2
  else some (k, [], S)
def unaryF (S : Ps) : Ans :=
  if S.bad then some (0, [], S.spoilt)
  else if S.inn.bad then some (0, [], S.inn.spoilt)
  else if S.inn.is (⟨#[33]⟩ : ByteArray) || S.inn.is (⟨#[45]⟩ : ByteArray) || S.inn.is (⟨#[116, 121, 112, 101, 111, 102]⟩ : ByteArray) then
    (R .unary S.inn.move).bind fun x => (x.2.2.put (ndT 14 S.t.text [x.1] S.t.at_)).bind fun y => some (y.1, [], y.2.out)
  else (R .post S.inn).bind fun x => some (x.1, [], x.2.2.out)
def postF (S : Ps) : Ans := if S.inn.bad then some (0, [], S.inn) else (R .first S.inn).bind fun x => R (.postL x.1) x.2.2
def postLF (k : Nat) (S : Ps) : Ans :=
  if S.bad then some (k, [], S.out)
  else (S.atOf k).bind fun a =>
    if S.hasB (⟨#[46]⟩ : ByteArray) then
      if !decide (S.move.t.kind = 3) && !decide (S.move.t.kind = 4) then some (k, [], S.move.spoilt.out)
      else (S.move.move.put (ndT 11 S.move.t.text [k] a)).bind fun y => R (.postL y.1) y.2
    else if S.hasB (⟨#[91]⟩ : ByteArray) then (R .e S.move).bind fun x => ((x.2.2.must (⟨#[93]⟩ : ByteArray)).put (nd 12 [k, x.1] a)).bind fun y => R (.postL y.1) y.2
    else if S.hasB (⟨#[40]⟩ : ByteArray) then (R (.commas (⟨#[41]⟩ : ByteArray)) S.move).bind fun x => if x.2.1.length < 1048576 then (x.2.2.put (nd 13 (k :: x.2.1) a)).bind fun y => R (.postL y.1) y.2 else none
    else some (k, [], S.out)
def commasF (last : ByteArray) (S : Ps) : Ans :=
  if S.hasB last then some (0, [], S.move) else (R .e S).bind fun x => R (.commL last [x.1]) x.2.2
def commLF (last : ByteArray) (acc : List Nat) (S : Ps) : Ans :=
  if S.hasB (⟨#[44]⟩ : ByteArray) then (R .e S.move).bind fun x => if acc.length < 1048576 then R (.commL last (acc ++ [x.1])) x.2.2 else none
  else some (0, acc, S.must last)
def firstF (S : Ps) : Ans :=
  if S.t.kind = 1 then one1 (S.move.put ⟨1, S.t.num, ⟨#[]⟩, [], [], S.t.at_⟩)
  else if S.t.kind = 2 then one1 (S.move.put (ndT 2 S.t.text [] S.t.at_))
  else if S.t.kind = 3 then one1 (S.move.put (ndT 3 S.t.text [] S.t.at_))
  else match (if S.t.kind = 4 then simpleB S.t.text else none) with
    | some q => one1 (S.move.put ⟨q.1, q.2, ⟨#[]⟩, [], [], S.t.at_⟩)
    | none =>
      if S.is (⟨#[102, 117, 110, 99, 116, 105, 111, 110]⟩ : ByteArray) then R (.fn false) S
      else if S.hasB (⟨#[40]⟩ : ByteArray) then (R .e S.move).bind fun x => some (x.1, [], x.2.2.must (⟨#[41]⟩ : ByteArray))
      else if S.hasB (⟨#[91]⟩ : ByteArray) then (R (.commas (⟨#[93]⟩ : ByteArray)) S.move).bind fun x => one1 (x.2.2.put (nd 9 x.2.1 S.t.at_))
      else if S.hasB (⟨#[123]⟩ : ByteArray) then R (.obj [] [] S.t.at_) S.move
      else some (0, [], S.spoilt)
def objEnd (names : List ByteArray) (kids : List Nat) (a : Nat) (S : Ps) : Ans := one1 ((S.must (⟨#[125]⟩ : ByteArray)).put ⟨8, 0, ⟨#[]⟩, names, kids, a⟩)
def objF (names : List ByteArray) (kids : List Nat) (a : Nat) (S : Ps) : Ans :=
  if !S.is (⟨#[125]⟩ : ByteArray) || !kids.isEmpty then
    if !decide (S.t.kind = 3) && !decide (S.t.kind = 4) && !decide (S.t.kind = 2) then some (0, [], S.spoilt)
    else if S.bad then some (0, [], S)
    else (R .e (S.move.must (⟨#[58]⟩ : ByteArray))).bind fun x =>
      if names.length < 1048576 ∧ kids.length < 1048576 then
        if x.2.2.hasB (⟨#[44]⟩ : ByteArray) then R (.obj (names ++ [S.t.text]) (kids ++ [x.1]) a) x.2.2.move
        else objEnd (names ++ [S.t.text]) (kids ++ [x.1]) a x.2.2
      else none
  else objEnd names kids a S
def stepF : Call → Ps → Ans
  | .list last acc, S => listF R last acc S
  | .block, S => blockF R S
  | .stmt, S => stmtF R S
  | .inner, S => innerF R S
  | .one, S => oneF R S
  | .fn named, S => fnF R m named S
  | .e, S => eF R S
  | .assign, S => assignF R S
  | .cond, S => condF R S
  | .binary level, S => binaryF R level S
  | .binL level k, S => binLF R level k S
  | .unary, S => unaryF R S
  | .post, S => postF R S
  | .postL k, S => postLF R k S
  | .commas last, S => commasF R last S
  | .commL last acc, S => commLF R last acc S
  | .first, S => firstF R S
  | .obj names kids a, S => objF R names kids a S
end
/-- The parser, so many calls deep. -/
def run : Nat → Call → Ps → Ans
  | 0, _, _ => none
  | m + 1, c, S => stepF (run m) m c S
/-- A program's nodes; or where it is wrong. -/
structure Tree where
  l : List Nd
  at_ : Nat
  ok : Bool
def start (src : ByteArray) : Ps := ⟨src, (tok src 0).1, (tok src 0).2, [], 0, false⟩
def fuel (src : ByteArray) : Nat := 1000 + 24 * (src.size + 2)
def parseN (n : Nat) (src : ByteArray) : Option Tree :=
  if src.size > 4096 then some ⟨[], 0, false⟩
  else (run n (.list true []) (start src)).bind fun x =>
    if x.2.2.bad then some ⟨[], x.2.2.t.at_, false⟩ else (x.2.2.put (nd 33 x.2.1 0)).map fun y => ⟨y.2.l, 0, true⟩
def parse (src : ByteArray) : Option Tree := parseN (fuel src) src
end Go.Proofs.Ytibepkblgliooaa.Q
namespace Go.Proofs.Ytibepkblgliooaa.Q
open Go.RowKit
structure Sp where
  depth : Int
  slot : Int
/-- A looker: its rows; the scopes that are open, the innermost one last. -/
structure Lk where
  spots : List Sp
  slots : List Int
  open_ : List (List ByteArray)
def cap : Nat := 1048576
/-- The first place of a text among some. -/
def placeN (s : ByteArray) : List ByteArray → Nat → Option Nat
  | [], _ => none
  | x :: l, n => if beqB x s then some n else placeN s l (n + 1)
/-- How far out a name's scope is, and its place there. -/
def spotR (s : ByteArray) : List (List ByteArray) → Nat → Sp
  | [], _ => ⟨-1, 0⟩
  | x :: l, n => match placeN s x 0 with | some j => ⟨(n : Int), (j : Int)⟩ | none => spotR s l (n + 1)
def spotF (o : List (List ByteArray)) (s : ByteArray) : Sp := spotR s o.reverse 0
/-- The name that a statement makes. -/
def declF (l : List Nd) (k : Nat) : Option (Option ByteArray) :=
  (l[k]?).bind fun n =>
    if n.kind = 21 ∨ n.kind = 22 then some (some n.text)
    else if n.kind = 23 then (n.kids[0]?).bind fun j => (l[j]?).map fun m => some m.text
    else some none
def namesF (l : List Nd) : List Nat → List ByteArray → Option (List ByteArray)
  | [], acc => some acc
  | k :: ks, acc => (declF l k).bind fun d => match d with
    | none => namesF l ks acc
    | some s => if acc.length < cap then namesF l ks (acc ++ [s]) else none
def Lk.spot (S : Lk) (k : Nat) (p : Sp) : Lk := { S with spots := S.spots.set k p }
def allF (R : Nat → Lk → Option Lk) : List Nat → Lk → Option Lk
  | [], S => some S
  | k :: ks, S => (R k S).bind fun S' => allF R ks S'
def withinF (l : List Nd) (R : Nat → Lk → Option Lk) (k : Nat) (ahead : List ByteArray) (kids : List Nat) (S : Lk) : Option Lk :=
  (namesF l kids ahead).bind fun ns =>
    if k < S.slots.length ∧ S.open_.length < cap ∧ ahead.length < cap then
      (allF R kids { S with slots := S.slots.set k ns.length, open_ := S.open_ ++ [ns] }).map fun S' => { S' with open_ := S'.open_.dropLast }
    else none
def declS (S : Lk) (k : Nat) : Option ByteArray → Lk
  | some s => S.spot k (spotF S.open_ s)
  | none => S
def bodyF (l : List Nd) (R : Nat → Lk → Option Lk) (k : Nat) (n : Nd) (S : Lk) : Option Lk :=
  if n.kind = 3 then some (S.spot k (spotF S.open_ n.text))
  else if n.kind = 10 then withinF l R k n.names n.kids S
  else if n.kind = 33 then withinF l R k [] n.kids S
  else if n.kind = 25 then (namesF l n.kids []).bind fun ns => if ns.length > 0 then withinF l R k [] n.kids S else allF R n.kids S
  else if n.kind = 32 then (n.kids[0]?).bind fun k0 => (n.kids[1]?).bind fun k1 => (R k0 S).bind fun S2 => (l[k1]?).bind fun n1 => withinF l R k1 [n.text] n1.kids S2
  else allF R n.kids S
def lookF (l : List Nd) : Nat → Nat → Lk → Option Lk
  | 0, _, _ => none
  | m + 1, k, S => (l[k]?).bind fun n => (declF l k).bind fun d => if k < S.spots.length then bodyF l (lookF l m) k n (declS S k d) else none
/-- A tree that was looked at. -/
def looked (m : Nat) (l : List Nd) : Option Lk :=
  let S : Lk := ⟨l.map fun _ => ⟨-1, 0⟩, l.map fun _ => -1, []⟩
  if l.length = 0 then some S else lookF l m (l.length - 1) S
end Go.Proofs.Ytibepkblgliooaa.Q
namespace Go.Proofs.Ytibepkblgliooaa.Q
open Go.RowKit
structure Ins where
  op : Int
  a : Int
  b : Int
  s : ByteArray
/-- What lies open: a scope or a try; or a loop: where it begins, jumps out of it. -/
inductive Lv where
  | lv (op : Int)
  | lp (top : Nat) (outs : List Nat)
/-- A maker: its instructions; what lies open, the innermost first. -/
structure Mk where
  code : List Ins
  opn : List Lv
structure Fn where
  name : ByteArray
  params : Nat
  slots : Int
  gen : Bool
  code : List Ins
def capC : Nat := 3000000000000
def iN (op a : Int) : Ins := ⟨op, a, 0, ⟨#[]⟩⟩
def iS (op : Int) (s : ByteArray) : Ins := ⟨op, 0, 0, s⟩
def Mk.put (S : Mk) (x : Ins) : Option Mk := if S.code.length < capC then some { S with code := S.code ++ [x] } else none
def hereF : List Nat → Mk → Option Mk
  | [], S => some S
  | j :: js, S => (S.code[j]?).bind fun x => hereF js { S with code := S.code.set j { x with a := (S.code.length : Int) } }
def pushF (x : Lv) (S : Mk) : Option Mk := if S.opn.length < 1048576 then some { S with opn := x :: S.opn } else none
def popF (S : Mk) : Option Mk := match S.opn with
  | _ :: r => some { S with opn := r }
  | [] => none
/-- Within a push and a pop. -/
def withinM (x : Lv) (f : Mk → Option Mk) (S : Mk) : Option Mk := (pushF x S).bind fun S1 => (f S1).bind popF
def awayF : List Lv → Mk → Option Mk
  | [], S => some S
  | .lp _ _ :: _, S => some S
  | .lv op :: r, S => (S.put (iN op 0)).bind (awayF r)
def topF : List Lv → Int
  | [] => 0
  | .lp t _ :: _ => (t : Int)
  | .lv _ :: r => topF r
def addOut (j : Nat) : List Lv → Option (List Lv)
  | [] => some []
  | .lp t o :: r => if o.length < 1048576 then some (.lp t (o ++ [j]) :: r) else none
  | .lv op :: r => (addOut j r).map fun r' => .lv op :: r'
section
variable (l : List Nd) (spots : List Sp) (slots : List Int) (funs : Nat → Int) (R : Nat → Mk → Option Mk)
def allM : List Nat → Mk → Option Mk
  | [], S => some S
  | k :: ks, S => (R k S).bind (allM ks)
def beginF : List Nat → Mk → Option Mk
  | [], S => some S
  | k :: ks, S => (l[k]?).bind fun n =>
    if n.kind = 23 then (n.kids[0]?).bind fun j => (l[j]?).bind fun _ => (S.put (iN 16 (funs j))).bind fun S1 => (spots[k]?).bind fun sp => (S1.put (iN 9 sp.slot)).bind (beginF ks)
    else beginF ks S
def blockM (k : Nat) (n : Nd) (S : Mk) : Option Mk := (slots[k]?).bind fun x =>
  if x < 0 then allM R n.kids S
  else (S.put (iN 33 x)).bind fun S1 => (beginF l spots funs n.kids S1).bind fun S2 => (withinM (.lv 34) (allM R n.kids) S2).bind fun S3 => S3.put (iN 34 0)
def branchM (n : Nd) (S : Mk) : Option Mk := (n.kids[0]?).bind fun k0 => (n.kids[1]?).bind fun k1 => (R k0 S).bind fun S1 => (S1.put (iN 24 0)).bind fun S2 => (R k1 S2).bind fun S3 =>
  if n.kids.length < 3 then hereF [S1.code.length] S3
  else (n.kids[2]?).bind fun k2 => (S3.put (iN 23 0)).bind fun S4 => (hereF [S1.code.length] S4).bind fun S5 => (R k2 S5).bind fun S6 => hereF [S3.code.length] S6
def whileM (n : Nd) (S : Mk) : Option Mk := (n.kids[0]?).bind fun k0 => (n.kids[1]?).bind fun k1 => (R k0 S).bind fun S1 => (S1.put (iN 24 0)).bind fun S2 => (pushF (.lp S.code.length []) S2).bind fun S3 => (R k1 S3).bind fun S4 => match S4.opn with
  | .lp t outs :: r => if outs.length < 1048576 then (({ S4 with opn := r } : Mk).put (iN 23 t)).bind fun S5 => hereF (outs ++ [S1.code.length]) S5 else none
  | _ => none
def tryM (n : Nd) (S : Mk) : Option Mk := (n.kids[0]?).bind fun k0 => (n.kids[1]?).bind fun k1 => (S.put (iN 35 0)).bind fun S1 => (withinM (.lv 36) (R k0) S1).bind fun S2 => (S2.put (iN 36 0)).bind fun S3 => (S3.put (iN 23 0)).bind fun S4 => (hereF [S.code.length] S4).bind fun S5 =>
  (l[k1]?).bind fun n1 => (slots[k1]?).bind fun x => (S5.put (iN 33 x)).bind fun S6 => (S6.put (iN 9 0)).bind fun S7 => (beginF l spots funs n1.kids S7).bind fun S8 => (withinM (.lv 34) (allM R n1.kids) S8).bind fun S9 => (S9.put (iN 34 0)).bind fun S10 => hereF [S3.code.length] S10
def nameM (k : Nat) (n : Nd) (S : Mk) : Option Mk := (spots[k]?).bind fun s => if s.depth < 0 then S.put (iS 10 n.text) else S.put ⟨7, s.depth, s.slot, ⟨#[]⟩⟩
def callM (n : Nd) (S : Mk) : Option Mk := (n.kids[0]?).bind fun k0 => (l[k0]?).bind fun wh =>
  if wh.kind = 11 then (allM R wh.kids S).bind fun S1 => (S1.put (iS 27 wh.text)).bind fun S2 => (allM R n.kids.tail S2).bind fun S3 => S3.put (iN 30 n.kids.tail.length)
  else if wh.kind = 12 then (allM R wh.kids S).bind fun S1 => (S1.put (iN 28 0)).bind fun S2 => (allM R n.kids.tail S2).bind fun S3 => S3.put (iN 30 n.kids.tail.length)
  else (R k0 S).bind fun S2 => (allM R n.kids.tail S2).bind fun S3 => S3.put (iN 29 n.kids.tail.length)
def setM (n : Nd) (S : Mk) : Option Mk := (n.kids[0]?).bind fun k0 => (n.kids[1]?).bind fun k1 => (l[k0]?).bind fun t =>
  if t.kind = 3 then (spots[k0]?).bind fun s => (R k1 S).bind fun S1 => S1.put ⟨8, s.depth, s.slot, ⟨#[]⟩⟩
  else if t.kind = 11 then (allM R t.kids S).bind fun S1 => (R k1 S1).bind fun S2 => S2.put (iS 19 t.text)
  else (allM R t.kids S).bind fun S1 => (R k1 S1).bind fun S2 => S2.put (iN 20 0)
def eitherM (op : Int) (n : Nd) (S : Mk) : Option Mk := (n.kids[0]?).bind fun k0 => (n.kids[1]?).bind fun k1 => (R k0 S).bind fun S1 => (S1.put (iN op 0)).bind fun S2 => (R k1 S2).bind fun S3 => hereF [S1.code.length] S3
def objM (names : List ByteArray) : List Nat → Nat → Mk → Option Mk
  | [], _, S => some S
  | k :: ks, i, S => (R k S).bind fun S1 => (names[i]?).bind fun s => (S1.put (iS 13 s)).bind (objM names ks (i + 1))
def arrM : List Nat → Mk → Option Mk
  | [], S => some S
  | k :: ks, S => (R k S).bind fun S1 => (S1.put (iN 15 0)).bind (arrM ks)
/-- A node that is one value. -/
def litM (n : Nd) (S : Mk) : Option (Option Mk) :=
  if n.kind = 1 then (S.put (iN 4 n.num)).map some
  else if n.kind = 2 then (S.put (iS 5 n.text)).map some
  else if n.kind = 4 then (S.put (iN 3 n.num)).map some
  else if n.kind = 5 then (S.put (iN 2 0)).map some
  else if n.kind = 6 then (S.put (iN 1 0)).map some
  else if n.kind = 7 then (S.put (iN 6 0)).map some
  else some none
/-- A node that is a statement. -/
def stmM (k : Nat) (n : Nd) (S : Mk) : Option (Option Mk) :=
  if n.kind = 21 ∨ n.kind = 22 then (allM R n.kids S).bind fun S1 => (spots[k]?).bind fun sp => (S1.put (iN 9 sp.slot)).map some
  else if n.kind = 23 then some (some S)
  else if n.kind = 24 then (allM R n.kids S).bind fun S1 => (S1.put (iN 11 0)).map some
  else if n.kind = 25 then (blockM l spots slots funs R k n S).map some
  else if n.kind = 26 then (branchM R n S).map some
  else if n.kind = 27 then (whileM R n S).map some
  else if n.kind = 28 then (awayF S.opn S).bind fun S1 => (S1.put (iN 23 0)).bind fun S2 => (addOut S1.code.length S2.opn).map fun o => some { S2 with opn := o }
  else if n.kind = 29 then (awayF S.opn S).bind fun S1 => (S1.put (iN 23 (topF S.opn))).map some
  else if n.kind = 30 then (if n.kids.length = 0 then S.put (iN 1 0) else some S).bind fun S1 => (allM R n.kids S1).bind fun S2 => (S2.put (iN 31 0)).map some
  else if n.kind = 31 then (allM R n.kids S).bind fun S1 => (S1.put (iN 32 0)).map some
  else if n.kind = 32 then (tryM l spots slots funs R n S).map some
  else some none
def exprM (k : Nat) (n : Nd) (S : Mk) : Option Mk :=
  if n.kind = 3 then nameM spots k n S
  else if n.kind = 8 then (S.put (iN 12 0)).bind (objM R n.names n.kids 0)
  else if n.kind = 9 then (S.put (iN 14 0)).bind (arrM R n.kids)
  else if n.kind = 10 then S.put (iN 16 (funs k))
  else if n.kind = 11 then (allM R n.kids S).bind fun S1 => S1.put (iS 17 n.text)
  else if n.kind = 12 then (allM R n.kids S).bind fun S1 => S1.put (iN 18 0)
  else if n.kind = 13 then callM l R n S
  else if n.kind = 14 then (allM R n.kids S).bind fun S1 => S1.put (iS 21 n.text)
  else if n.kind = 15 then (allM R n.kids S).bind fun S1 => S1.put (iS 22 n.text)
  else if n.kind = 16 then eitherM R 25 n S
  else if n.kind = 17 then eitherM R 26 n S
  else if n.kind = 18 then branchM R n S
  else if n.kind = 19 then setM l spots R n S
  else if n.kind = 20 then (allM R n.kids S).bind fun S1 => S1.put (iN 37 0)
  else some S
end
def nodeM (l : List Nd) (spots : List Sp) (slots : List Int) (funs : Nat → Int) : Nat → Nat → Mk → Option Mk
  | 0, _, _ => none
  | m + 1, k, S => (l[k]?).bind fun n => (litM n S).bind fun x => match x with
    | some S1 => some S1
    | none => (stmM l spots slots funs (nodeM l spots slots funs m) k n S).bind fun y => match y with
      | some S1 => some S1
      | none => exprM l spots funs (nodeM l spots slots funs m) k n S
/-- Of some, in order, those that are functions. -/
def funsL : List Nd → Nat → List Nat
  | [], _ => []
  | n :: l, i => if n.kind = 10 then i :: funsL l (i + 1) else funsL l (i + 1)
def funNo : List Nat → Nat → Nat → Int
  | [], _, _ => 0
  | j :: r, k, i => if Nat.beq j k then (i : Int) else funNo r k (i + 1)
def fnM (l : List Nd) (spots : List Sp) (slots : List Int) (funs : Nat → Int) (m : Nat) (k : Nat) : Option Fn :=
  (l[k]?).bind fun n => (beginF l spots funs n.kids ⟨[], []⟩).bind fun S1 => (allM (nodeM l spots slots funs m) n.kids S1).bind fun S2 => (S2.put (iN 1 0)).bind fun S3 => (S3.put (iN 31 0)).bind fun S4 => (slots[k]?).map fun x => ⟨n.text, n.names.length, x, decide (n.num = 1), S4.code⟩
def fnsM (f : Nat → Option Fn) : List Nat → List Fn → Option (List Fn)
  | [], out => some out
  | k :: ks, out => (f k).bind fun x => if out.length < 1048576 then fnsM f ks (out ++ [x]) else none
/-- The functions of a tree. -/
def compileM (m : Nat) (l : List Nd) : Option (List Fn) :=
  (looked m l).bind fun S => fnsM (fnM l S.spots S.slots (fun k => funNo (funsL l 0) k 1) m) ((l.length - 1) :: funsL l 0) []
/-- A program that may be, compiled: is it so? -/
def chkM (src : ByteArray) (f : Tree → List Fn → Bool) : Bool := match parse src with
  | some T => match compileM 100 T.l with
    | some F => T.ok && (Nat.blt 0 T.l.length && (Nat.blt T.l.length 1048576 && f T F))
    | none => false
  | none => false
theorem chkM_get {src : ByteArray} {f : Tree → List Fn → Bool} (h : chkM src f = true) : ∃ T F, parse src = some T ∧ compileM 100 T.l = some F ∧ T.ok = true ∧ 0 < T.l.length ∧ T.l.length ≤ 1048576 ∧ f T F = true := by
  unfold chkM at h
  split at h
  · rename_i T hT
    split at h
    · rename_i F hF
      simp only [Bool.and_eq_true, Nat.blt_eq] at h
      exact ⟨T, F, hT, hF, h.1, h.2.1, by omega, h.2.2.2⟩
    · cases h
  · cases h
def opsB (l : List Ins) (w : List Int) : Bool := match l, w with
  | _, [] => true
  | [], _ :: _ => false
  | x :: l, y :: w => decide (x.op = y) && opsB l w
def knownL : List (ByteArray × List Int) := [((⟨#[49, 32, 43, 32, 50]⟩ : ByteArray), [4, 4, 22, 11]), ((⟨#[108, 101, 116, 32, 97, 32, 61, 32, 49, 59, 32, 97, 32, 61, 32, 50]⟩ : ByteArray), [4, 9, 4, 8, 11]), ((⟨#[105, 102, 32, 40, 49, 41, 32, 50, 59, 32, 101, 108, 115, 101, 32, 51]⟩ : ByteArray), [4, 24, 4, 11, 23, 4, 11]), ((⟨#[119, 104, 105, 108, 101, 32, 40, 49, 41, 32, 123, 32, 98, 114, 101, 97, 107, 32, 125]⟩ : ByteArray), [4, 24, 23, 23]), ((⟨#[102, 46, 103, 40, 49, 41]⟩ : ByteArray), [10, 27, 4, 30, 11]), ((⟨#[116, 114, 121, 32, 123, 32, 49, 32, 125, 32, 99, 97, 116, 99, 104, 32, 40, 101, 41, 32, 123, 32, 50, 32, 125]⟩ : ByteArray), [35, 4, 11, 36, 23, 33, 9, 4, 11, 34]), ((⟨#[97, 32, 38, 38, 32, 98]⟩ : ByteArray), [10, 25, 10, 11])]
theorem awakeM : chkM (⟨#[]⟩ : ByteArray) (fun _ F => match F with | [f] => (match f.code with | [x, y] => decide (x.op = 1) && decide (y.op = 31) | _ => false) | _ => false) = true := by decide +kernel
theorem known_ok : knownL.all (fun x => chkM x.1 (fun _ F => match F with | [f] => Nat.beq f.code.length (x.2.length + 2) && opsB f.code x.2 | _ => false)) = true := by decide +kernel
end Go.Proofs.Ytibepkblgliooaa.Q
