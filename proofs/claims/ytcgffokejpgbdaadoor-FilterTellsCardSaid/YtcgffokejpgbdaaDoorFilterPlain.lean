/- What layer 13 computes, as plain functions over lists of bytes. -/
import Derived.Test.YtcgffokejpgbdaaDoorChecked
namespace Go.Proofs.YtcgffokejpgbdaaDoor
def clsL : List UInt8 → Bool
  | [] => true
  | [_] => false
  | a :: b :: r => !(decide ((a.toNat : Int) < 33)) && !(decide (126 < (b.toNat : Int))) && !(decide ((b.toNat : Int) < a.toNat)) && clsL r
def clsB (l : List UInt8) : Bool := !l.isEmpty && clsL l
theorem clsL_odd : ∀ (l : List UInt8), l.length % 2 = 1 → clsL l = false
  | [], h => by simp at h
  | [_], _ => rfl
  | a :: b :: r, h => by rw [clsL, clsL_odd r (by simp at h; omega)]; simp
/-- one sign: how often its byte stands, what is left, whether it is one -/
def isSepB (c : UInt8) : Bool := c == 45 || c == 58 || c == 47
def isDA (c : UInt8) : Bool := c == 100 || c == 97
def isRep (d : UInt8) : Bool := decide (49 ≤ (d.toNat : Int)) && decide ((d.toNat : Int) ≤ 57)
def sgn (c : UInt8) (r : List UInt8) : Nat × List UInt8 × Bool :=
  if isSepB c then (1, r, true) else if isDA c then match r with
    | [] => (0, [], false)
    | d :: r' => if isRep d then (d.toNat - 48, r', true) else (0, d :: r', false)
  else (0, r, false)
theorem sgn_len (c : UInt8) (r : List UInt8) : (sgn c r).2.1.length ≤ r.length := by
  unfold sgn; split
  · simp
  · split
    · split
      · simp
      · split <;> simp
    · simp
theorem sgn_small (c : UInt8) (r : List UInt8) : (sgn c r).1 ≤ 9 := by
  unfold sgn; split
  · simp
  · split
    · split
      · simp
      · split
        · rename_i d r' h; simp only [isRep, Bool.and_eq_true, decide_eq_true_eq] at h; simp; omega
        · simp
    · simp
theorem sgn_no (c : UInt8) (r : List UInt8) (h : (sgn c r).2.2 = false) : (sgn c r).1 = 0 := by
  unfold sgn at h ⊢
  split at h
  · simp at h
  · rename_i h1; rw [if_neg h1]
    split at h
    · rename_i h2; rw [if_pos h2]
      split at h
      · rfl
      · split at h
        · simp at h
        · rename_i h3; simp [h3]
    · rename_i h2; rw [if_neg h2]
/-- a form's signs, each as often as it says, up to what is none; whether all are -/
def spr : List UInt8 → List UInt8 × Bool
  | [] => ([], true)
  | c :: r => if (sgn c r).2.2 then (List.replicate (sgn c r).1 c ++ (spr (sgn c r).2.1).1, (spr (sgn c r).2.1).2) else ([], false)
termination_by l => l.length
decreasing_by all_goals (have := sgn_len c r; simp; omega)
theorem spr_len : ∀ (m : Nat) (l : List UInt8), l.length ≤ m → (spr l).1.length ≤ 9 * l.length
  | 0, l, h => by
    obtain rfl : l = [] := List.length_eq_zero_iff.1 (by omega)
    simp [spr]
  | m + 1, [], _ => by simp [spr]
  | m + 1, c :: r, h => by
    rw [spr]; split
    · have h1 := sgn_len c r
      have h2 := sgn_small c r
      have h3 := spr_len m (sgn c r).2.1 (by simp at h; omega)
      simp; omega
    · simp
end Go.Proofs.YtcgffokejpgbdaaDoor
