/- Walks of layer 13: the tests (closures). -/
import Derived.Test.YtcgffokejpgbdaaDoorKit
import Derived.Test.YtcgffokejpgbdaaDoorFilterPlain
namespace Go.Proofs.YtcgffokejpgbdaaDoor
open Go.RowKit
/-- a byte is of a class -/
def ofL : List UInt8 → UInt8 → Bool
  | a :: b :: r, c => (decide (a.toNat ≤ c.toNat) && decide (c.toNat ≤ b.toNat)) || ofL r c
  | _, _ => false
/-- a byte fits a sign -/
def fitB (g c : UInt8) : Bool := if ((g.toNat : Int) == 100) then decide (48 ≤ (c.toNat : Int)) && decide ((c.toNat : Int) ≤ 57) else if ((g.toNat : Int) == 97) then decide (97 ≤ (c.toNat : Int)) && decide ((c.toNat : Int) ≤ 122) else ((c.toNat : Int) == (g.toNat : Int))
/-- a byte is what a record has at a place -/
def inL (signs : List UInt8) (k : Nat) (c : UInt8) : Bool := match signs[k]? with | none => false | some g => fitB g c

theorem short_any (k m : Int) (c : UInt8) (b : Nat) (w : World) (h : w.cell? ⟨b, 1, none⟩ = some (.int .i64 m)) :
    Calls Tryd.prog 39 #[.int .i64 k, .int .u8 c.toNat, .pointer (some ⟨b, 0, none⟩)] w fun e w' => e = .returned (.bool (decide (k < m))) ∧ w = w' := by
  go_enter Tryd.func39, Tryd.ntmps39
  go_wp2
  go_ret
  exact ⟨rfl, rfl⟩

set_option maxHeartbeats 1000000 in
theorem of_any (form : List UInt8) (hl : form.length ≤ 1000) (k : Int) (c : UInt8) (b : Nat) (w : World) (h : w.cell? ⟨b, 0, none⟩ = some (.string ⟨form.toArray⟩)) :
    Calls Tryd.prog 49 #[.int .i64 k, .int .u8 c.toNat, .pointer (some ⟨b, 0, none⟩)] w fun e w' => e = .returned (.bool (ofL form c)) ∧ w = w' := by
  go_enter Tryd.func49, Tryd.ntmps49
  go_wp2
  go_loop [6] (fun i => ∃ j : Nat, j ≤ form.length + 1 ∧ i = .int .i64 j ∧ Hid (ofL (form.drop j) c = ofL form c)) (fun i => form.length + 1 - (intOf i).toNat)
  case atStart => exact ⟨0, Nat.zero_le _, rfl, rfl⟩
  case round =>
    obtain ⟨j, hj, rfl, hc⟩ := hrel
    by_cases hlt : j + 1 < form.length
    · have hlt1 : j < form.length := by omega
      have HC : Hid (ofL form c = ((decide (form[j].toNat ≤ c.toNat) && decide (c.toNat ≤ form[j + 1].toNat)) || ofL (form.drop (j + 2)) c)) := by
        show ofL form c = _
        rw [← hc.out, drop_cons form j hlt1, drop_cons form (j + 1) hlt]; rfl
      clear hc
      by_cases h1 : form[j].toNat ≤ c.toNat
      · by_cases h2 : c.toNat ≤ form[j + 1].toNat
        · go_wp2
          go_ret
          exact ⟨ret_bool (by rw [HC.out]; simp [h1, h2]), rfl⟩
        · go_wp2
          go_round
          case rel => exact ⟨j + 2, by omega, by go_num, by show ofL _ c = _; rw [HC.out]; simp [h2]⟩
          case measure => simp [intOf]; omega
      · go_wp2
        go_round
        case rel => exact ⟨j + 2, by omega, by go_num, by show ofL _ c = _; rw [HC.out]; simp [h1]⟩
        case measure => simp [intOf]; omega
    · have HC : Hid (ofL form c = false) := by
        show ofL form c = false
        rw [← hc.out]
        have : (form.drop j).length ≤ 1 := by simp; omega
        match hd : form.drop j, this with
        | [], _ => rfl
        | [_], _ => rfl
      go_wp2
      go_ret
      exact ⟨ret_bool HC.out.symm, rfl⟩

set_option maxHeartbeats 1000000 in
theorem in_any (signs : List UInt8) (k : Nat) (c : UInt8) (b : Nat) (w : World) (h : w.cell? ⟨b, 0, none⟩ = some (.string ⟨signs.toArray⟩)) :
    Calls Tryd.prog 51 #[.int .i64 k, .int .u8 c.toNat, .pointer (some ⟨b, 0, none⟩)] w fun e w' => e = .returned (.bool (inL signs k c)) ∧ w = w' := by
  by_cases hk : k < signs.length
  · have hin : inL signs k c = fitB signs[k] c := by simp [inL, List.getElem?_eq_getElem hk]
    rw [hin]
    generalize hg : signs[k] = g
    have HG := Lib.hid hg; clear hg hin
    go_enter Tryd.func51, Tryd.ntmps51
    go_wp2
    all_goals (go_ret; refine ⟨ret_bool ?_, rfl⟩; rw [← HG.out, fitB]; first | (simp [*]; done) | (simp [*]; intros; omega))
  · have hin : inL signs k c = false := by simp [inL, List.getElem?_eq_none (by omega : signs.length ≤ k)]
    rw [hin]
    go_enter Tryd.func51, Tryd.ntmps51
    go_wp2
    go_ret
    exact ⟨rfl, rfl⟩
end Go.Proofs.YtcgffokejpgbdaaDoor
