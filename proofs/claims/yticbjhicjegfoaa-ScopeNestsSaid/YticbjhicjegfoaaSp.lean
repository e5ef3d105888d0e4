/- ScopeNests: its programs. -/
import Derived.Test.YticbjhicjegfoaaSa
namespace Go.Proofs.Yticbjhicjegfoaa.Q
open Go.RowKit

def nestA (c : Nat → Bool) : Nat → ByteArray
  | 0 => (⟨#[108, 101, 116, 32, 97, 32, 61, 32, 48, 59, 10]⟩ : ByteArray)
  | i + 1 => (nestA c i ++ (⟨#[123, 32]⟩ : ByteArray)) ++ (if c i then (⟨#[108, 101, 116, 32, 97, 32, 61, 32, 49, 59, 32]⟩ : ByteArray) else (⟨#[108, 101, 116, 32, 120, 32, 61, 32, 50, 59, 32]⟩ : ByteArray))
def nestB (c : Nat → Bool) (k : Nat) : Nat → ByteArray
  | 0 => nestA c k ++ (⟨#[97]⟩ : ByteArray)
  | i + 1 => nestB c k i ++ (⟨#[32, 125]⟩ : ByteArray)
def nearF (c : Nat → Bool) : Nat → Nat
  | 0 => 0
  | i + 1 => if c i then 0 else nearF c i + 1
def nestOk (d : Nat) (T : Tree) (S : Lk) : Bool := (List.range T.l.length).all fun i => match T.l[i]?, S.spots[i]? with
  | some x, some sp => !(decide (x.kind = 3) && beqB x.text (⟨#[97]⟩ : ByteArray) && !(sp.is (d : Int) 0))
  | _, _ => false
/-- The same as lists; the choices a number's bits, the last one first. -/
def nestT (c : Nat → Bool) (k : Nat) : Nat → List UInt8 → List UInt8
  | 0, l => ([108, 101, 116, 32, 97, 32, 61, 32, 48, 59, 10] : List UInt8) ++ l
  | i + 1, l => nestT c k i (([123, 32] : List UInt8) ++ (if c i then ([108, 101, 116, 32, 97, 32, 61, 32, 49, 59, 32] : List UInt8) else ([108, 101, 116, 32, 120, 32, 61, 32, 50, 59, 32] : List UInt8)) ++ l)
def closeT : Nat → List UInt8
  | 0 => []
  | i + 1 => 32 :: 125 :: closeT i
def nestL (c : Nat → Bool) (k : Nat) : List UInt8 := nestT c k k (97 :: closeT k)
def bitF (m i : Nat) : Bool := Nat.beq ((m / 2 ^ i) % 2) 1
def nestChk (k m : Nat) : Bool := chk (bytesOf (nestL (bitF m) k)) (nestOk (nearF (bitF m) k))
theorem bytes_app (a b : List UInt8) : bytesOf a ++ bytesOf b = bytesOf (a ++ b) := by
  unfold bytesOf
  apply ByteArray.ext
  rw [ByteArray.data_append]
  simp
theorem closeT_snoc (i : Nat) : closeT (i + 1) = closeT i ++ [32, 125] := by
  induction i with
  | zero => rfl
  | succ i ih =>
    show 32 :: 125 :: closeT (i + 1) = 32 :: 125 :: closeT i ++ [32, 125]
    rw [ih]; rfl
theorem nestT_eq (c : Nat → Bool) (k : Nat) : ∀ (i : Nat) (l : List UInt8), bytesOf (nestT c k i l) = nestA c i ++ bytesOf l
  | 0, l => by
    unfold nestT nestA
    rw [← bytes_app]
    rfl
  | i + 1, l => by
    unfold nestT nestA
    rw [nestT_eq c k i, ByteArray.append_assoc, ByteArray.append_assoc]
    congr 1
    cases c i
    · simp only [Bool.false_eq_true, if_false]
      show _ = bytesOf ([123, 32] : List UInt8) ++ (bytesOf ([108, 101, 116, 32, 120, 32, 61, 32, 50, 59, 32] : List UInt8) ++ bytesOf l)
      rw [bytes_app, bytes_app, List.append_assoc]
    · simp only [if_true]
      show _ = bytesOf ([123, 32] : List UInt8) ++ (bytesOf ([108, 101, 116, 32, 97, 32, 61, 32, 49, 59, 32] : List UInt8) ++ bytesOf l)
      rw [bytes_app, bytes_app, List.append_assoc]
theorem nestL_eq (c : Nat → Bool) (k : Nat) : bytesOf (nestL c k) = nestB c k k := by
  have key : ∀ i, nestB c k i = nestA c k ++ bytesOf (97 :: closeT i) := by
    intro i
    induction i with
    | zero => rfl
    | succ i ih =>
      have h : bytesOf (97 :: closeT (i + 1)) = bytesOf (97 :: closeT i) ++ bytesOf ([32, 125] : List UInt8) := by
        rw [bytes_app, closeT_snoc]; rfl
      rw [h, ← ByteArray.append_assoc, ← ih]
      rfl
  unfold nestL
  rw [nestT_eq, key]
end Go.Proofs.Yticbjhicjegfoaa.Q
