/- Layer 10 in plain Lean: where names have their values. -/
import Derived.Test.YticbjhicjegfoaaQa
namespace Go.Proofs.Yticbjhicjegfoaa.Q
open Go.RowKit

structure Sp where
  depth : Int
  slot : Int
/-- A looker: its rows; the scopes that are open, the innermost one last. -/
structure Lk where
  spots : List Sp
  slots : List Int
  open_ : List (List ByteArray)
def cap : Nat := 1048576
/-- The first place of a text among some. -/
def placeN (s : ByteArray) : List ByteArray → Nat → Option Nat
  | [], _ => none
  | x :: l, n => if beqB x s then some n else placeN s l (n + 1)
/-- How far out a name's scope is, and its place there. -/
def spotR (s : ByteArray) : List (List ByteArray) → Nat → Sp
  | [], _ => ⟨-1, 0⟩
  | x :: l, n => match placeN s x 0 with | some j => ⟨(n : Int), (j : Int)⟩ | none => spotR s l (n + 1)
def spotF (o : List (List ByteArray)) (s : ByteArray) : Sp := spotR s o.reverse 0
/-- The name that a statement makes. -/
def declF (l : List Nd) (k : Nat) : Option (Option ByteArray) :=
  (l[k]?).bind fun n =>
    if n.kind = 21 ∨ n.kind = 22 then some (some n.text)
    else if n.kind = 23 then (n.kids[0]?).bind fun j => (l[j]?).map fun m => some m.text
    else some none
def namesF (l : List Nd) : List Nat → List ByteArray → Option (List ByteArray)
  | [], acc => some acc
  | k :: ks, acc => (declF l k).bind fun d => match d with
    | none => namesF l ks acc
    | some s => if acc.length < cap then namesF l ks (acc ++ [s]) else none
def Lk.spot (S : Lk) (k : Nat) (p : Sp) : Lk := { S with spots := S.spots.set k p }
def allF (R : Nat → Lk → Option Lk) : List Nat → Lk → Option Lk
  | [], S => some S
  | k :: ks, S => (R k S).bind fun S' => allF R ks S'
def withinF (l : List Nd) (R : Nat → Lk → Option Lk) (k : Nat) (ahead : List ByteArray) (kids : List Nat) (S : Lk) : Option Lk :=
  (namesF l kids ahead).bind fun ns =>
    if k < S.slots.length ∧ S.open_.length < cap ∧ ahead.length < cap then
      (allF R kids { S with slots := S.slots.set k ns.length, open_ := S.open_ ++ [ns] }).map fun S' => { S' with open_ := S'.open_.dropLast }
    else none
def declS (S : Lk) (k : Nat) : Option ByteArray → Lk
  | some s => S.spot k (spotF S.open_ s)
  | none => S
def bodyF (l : List Nd) (R : Nat → Lk → Option Lk) (k : Nat) (n : Nd) (S : Lk) : Option Lk :=
  if n.kind = 3 then some (S.spot k (spotF S.open_ n.text))
  else if n.kind = 10 then withinF l R k n.names n.kids S
  else if n.kind = 33 then withinF l R k [] n.kids S
  else if n.kind = 25 then (namesF l n.kids []).bind fun ns => if ns.length > 0 then withinF l R k [] n.kids S else allF R n.kids S
  else if n.kind = 32 then (n.kids[0]?).bind fun k0 => (n.kids[1]?).bind fun k1 => (R k0 S).bind fun S2 => (l[k1]?).bind fun n1 => withinF l R k1 [n.text] n1.kids S2
  else allF R n.kids S
def lookF (l : List Nd) : Nat → Nat → Lk → Option Lk
  | 0, _, _ => none
  | m + 1, k, S => (l[k]?).bind fun n => (declF l k).bind fun d => if k < S.spots.length then bodyF l (lookF l m) k n (declS S k d) else none
/-- A tree that was looked at. -/
def looked (m : Nat) (l : List Nd) : Option Lk :=
  let S : Lk := ⟨l.map fun _ => ⟨-1, 0⟩, l.map fun _ => -1, []⟩
  if l.length = 0 then some S else lookF l m (l.length - 1) S

/-- A program that may be, looked at: is it so? -/
def chk (src : ByteArray) (f : Tree → Lk → Bool) : Bool := match parse src with
  | some T => match looked 100 T.l with
    | some S => T.ok && (Nat.blt 0 T.l.length && (Nat.blt T.l.length 1048576 && f T S))
    | none => false
  | none => false
theorem chk_get {src : ByteArray} {f : Tree → Lk → Bool} (h : chk src f = true) : ∃ T S, parse src = some T ∧ looked 100 T.l = some S ∧ T.ok = true ∧ 0 < T.l.length ∧ T.l.length ≤ 1048576 ∧ f T S = true := by
  unfold chk at h
  split at h
  · rename_i T hT
    split at h
    · rename_i S hS
      simp only [Bool.and_eq_true, Nat.blt_eq] at h
      exact ⟨T, S, hT, hS, h.1, h.2.1, by omega, h.2.2.2⟩
    · cases h
  · cases h
def Sp.is (a : Sp) (d s : Int) : Bool := decide (a.depth = d) && decide (a.slot = s)
/-- The last spot of a name. -/
def lastF (l : List Nd) (sp : List Sp) (name : ByteArray) : Nat → Sp
  | 0 => ⟨-5, 0⟩
  | i + 1 => match l[i]?, sp[i]? with
    | some n, some p => if decide (n.kind = 3) && beqB n.text name then p else lastF l sp name i
    | _, _ => lastF l sp name i
def src0 : ByteArray := (⟨#[]⟩ : ByteArray)
def src1 : ByteArray := (⟨#[108, 101, 116, 32, 97, 32, 61, 32, 49, 59, 32, 97]⟩ : ByteArray)
theorem awake0 : chk src0 (fun T S => Nat.beq T.l.length 1 && (match S.slots with | [x] => decide (x = 0) | _ => false)) = true := by decide +kernel
theorem awake1 : chk src1 (fun T S => Nat.beq T.l.length 5 && (match S.spots[2]? with | some p => p.is 0 0 | none => false)) = true := by decide +kernel
def formsL : List (ByteArray × ByteArray × Int × Int) := [
  ((⟨#[102, 117, 110, 99, 116, 105, 111, 110, 32, 102, 40, 112, 44, 32, 113, 41, 32, 123, 32, 108, 101, 116, 32, 114, 32, 61, 32, 49, 59, 32, 114, 101, 116, 117, 114, 110, 32, 114, 59, 32, 125]⟩ : ByteArray), (⟨#[114]⟩ : ByteArray), 0, 2),
  ((⟨#[116, 114, 121, 32, 123, 125, 32, 99, 97, 116, 99, 104, 32, 40, 101, 41, 32, 123, 32, 108, 101, 116, 32, 114, 32, 61, 32, 101, 59, 32, 114, 32, 125]⟩ : ByteArray), (⟨#[114]⟩ : ByteArray), 0, 1),
  ((⟨#[123, 32, 98, 32, 125, 32, 108, 101, 116, 32, 98, 32, 61, 32, 49]⟩ : ByteArray), (⟨#[98]⟩ : ByteArray), 0, 0),
  ((⟨#[108, 101, 116, 32, 102, 32, 61, 32, 102, 117, 110, 99, 116, 105, 111, 110, 32, 103, 40, 41, 32, 123, 32, 114, 101, 116, 117, 114, 110, 32, 103, 59, 32, 125]⟩ : ByteArray), (⟨#[103]⟩ : ByteArray), -1, 0),
  ((⟨#[123, 32, 102, 117, 110, 99, 116, 105, 111, 110, 32, 107, 40, 41, 32, 123, 125, 32, 107, 32, 125]⟩ : ByteArray), (⟨#[107]⟩ : ByteArray), 0, 0),
  ((⟨#[119, 104, 105, 108, 101, 32, 40, 97, 41, 32, 123, 32, 108, 101, 116, 32, 97, 32, 61, 32, 97, 32, 125]⟩ : ByteArray), (⟨#[97]⟩ : ByteArray), 0, 0),
  ((⟨#[108, 101, 116, 32, 97, 32, 61, 32, 49, 59, 32, 105, 102, 32, 40, 97, 41, 32, 123, 32, 97, 32, 125, 32, 101, 108, 115, 101, 32, 123, 32, 108, 101, 116, 32, 97, 32, 61, 32, 50, 59, 32, 97, 32, 125]⟩ : ByteArray), (⟨#[97]⟩ : ByteArray), 0, 0)]
theorem forms_ok : formsL.all (fun x => chk x.1 (fun T S => (lastF T.l S.spots x.2.1 T.l.length).is x.2.2.1 x.2.2.2)) = true := by decide +kernel
end Go.Proofs.Yticbjhicjegfoaa.Q
