/- Walks of the document's answer for layer 13: class, of, fits. -/
import Derived.Test.YtcgffokejpgbdaaDoorFilterE
import Derived.BigQuiet
namespace Go.Proofs.YtcgffokejpgbdaaDoor
open Go.RowKit
theorem dif_i (k : Nat) (m : Nat) (hm : (m : Int) = k - 1) (h : k ≤ 9223372036854775807) : IntKind.i64.wrap ((k : Int) - 1) = k - 1 ∧ (0 : Int) ≤ k - 1 ∧ ((k : Int) - 1).toNat = m :=
  ⟨IntWalk.i64_in _ (by omega), by omega, by omega⟩
def clsOk (l : List UInt8) (j : Nat) : Prop := ∀ c, l[j]? = some c → 33 ≤ c.toNat ∧ c.toNat ≤ 126 ∧ (j % 2 = 1 → ∀ d, l[j-1]? = some d → d.toNat ≤ c.toNat)
theorem clsL_iff : ∀ l : List UInt8, clsL l = true ↔ l.length % 2 = 0 ∧ ∀ j, clsOk l j
  | [] => by simp [clsL, clsOk]
  | [a] => by simp [clsL]
  | a :: b :: r => by
    rw [clsL, Bool.and_eq_true, clsL_iff r]
    simp only [Bool.and_eq_true, Bool.not_eq_true', decide_eq_false_iff_not]
    constructor
    · rintro ⟨⟨⟨h1, h2⟩, h3⟩, h4, h5⟩
      refine ⟨by simp; omega, fun j => ?_⟩
      match j with
      | 0 => intro c hc; simp at hc; subst hc; exact ⟨by omega, by omega, by omega⟩
      | 1 => intro c hc; simp at hc; subst hc; exact ⟨by omega, by omega, fun _ d hd => by simp at hd; subst hd; omega⟩
      | j + 2 =>
        intro c hc
        simp at hc
        obtain ⟨x, y, z⟩ := h5 j c hc
        refine ⟨x, y, fun ho d hd => z (by omega) d ?_⟩
        rw [show j + 2 - 1 = (j - 1) + 2 by omega] at hd
        simpa using hd
    · rintro ⟨h1, h2⟩
      have a0 := h2 0 a rfl
      have b0 := h2 1 b rfl
      have := b0.2.2 rfl a rfl
      refine ⟨⟨⟨by omega, by omega⟩, by omega⟩, by simp at h1; omega, fun j c hc => ?_⟩
      obtain ⟨x, y, z⟩ := h2 (j + 2) c (by simpa using hc)
      refine ⟨x, y, fun ho d hd => z (by omega) d ?_⟩
      rw [show j + 2 - 1 = (j - 1) + 2 by omega]
      simpa using hd
theorem cls_bad (l : List UInt8) (j : Nat) (h : ¬ clsOk l j) : clsB l = false := by
  rw [clsB]
  cases hc : clsL l with
  | false => simp
  | true => exact absurd (((clsL_iff l).1 hc).2 j) h
theorem cls_end (l : List UInt8) (h : ∀ j, j < l.length → clsOk l j) : clsB l = (!l.isEmpty && (((l.length : Int) % 2) == 0)) := by
  have h' : ∀ j, clsOk l j := fun j => by
    rcases Nat.lt_or_ge j l.length with hl | hl
    · exact h j hl
    · intro c hc; rw [List.getElem?_eq_none hl] at hc; cases hc
  rw [clsB]
  congr 1
  rw [Bool.eq_iff_iff, clsL_iff, beq_iff_eq]
  exact ⟨fun a => by omega, fun a => ⟨by omega, h'⟩⟩

set_option maxHeartbeats 1000000 in
theorem class_any (l : List UInt8) (hl : l.length ≤ 1000) (w : World) :
    Calls Tryd.prog 32 #[.string ⟨l.toArray⟩] w fun e w' => e = .returned (.bool (clsB l)) ∧ ∃ n, w' = w.drewN n := by
  go_enter Tryd.func32, Tryd.ntmps32
  go_wp2
  go_loopw [3] (fun i wr => ∃ k n : Nat, k ≤ l.length ∧ i = .int .i64 k ∧ wr = w.drewN n ∧ Hid (∀ j, j < k → clsOk l j)) (fun i _ => l.length - (intOf i).toNat)
  case atStart => exact ⟨0, 0, Nat.zero_le _, rfl, rfl, fun j h => absurd h (by omega)⟩
  case round =>
    obtain ⟨k, n, hk, rfl, rfl, hc⟩ := hrel
    by_cases hlt : k < l.length
    · have hat : l[k]? = some l[k] := List.getElem?_eq_getElem hlt
      by_cases h1 : (l[k].toNat : Int) < 33
      · have HB : Hid (clsB l = false) := cls_bad l k (fun h => by have := (h _ hat).1; omega)
        clear hc hat
        go_wp2
        go_quiet (fail)
        go_wp2
        go_ret
        exact ⟨ret_bool HB.out.symm, _, World.drewN_drewN _ _ _⟩
      · have h1' : decide ((l[k].toNat : Int) < 33) = false := by simpa using h1
        by_cases h2 : 126 < (l[k].toNat : Int)
        · have HB : Hid (clsB l = false) := cls_bad l k (fun h => by have := (h _ hat).2.1; omega)
          clear hc hat
          go_wp2
          go_quiet (fail)
          go_wp2
          go_ret
          exact ⟨ret_bool HB.out.symm, _, World.drewN_drewN _ _ _⟩
        · have h2' : decide (126 < (l[k].toNat : Int)) = false := by simpa using h2
          by_cases h3 : k % 2 = 1
          · have h3' : ((k : Int) % 2 == 1) = true := by simp; omega
            obtain ⟨p, hp⟩ : ∃ p : Nat, p = k - 1 := ⟨_, rfl⟩
            have hlt1 : p < l.length := by omega
            have hat1 : l[k - 1]? = some l[p] := by rw [← hp]; exact List.getElem?_eq_getElem hlt1
            have w1 : IntKind.i64.wrap ((k : Int) - 1) = p := (IntWalk.i64_in _ (by omega)).trans (by omega)
            have w2 : (p : Int) < l.length := by omega
            by_cases h4 : (l[k].toNat : Int) < l[p].toNat
            · have HB : Hid (clsB l = false) := cls_bad l k (fun h => by have := (h _ hat).2.2 h3 _ hat1; omega)
              clear hc hat hat1 h3 hp
              go_wp2
              go_quiet (fail)
              clear w1
              go_wp2
              go_ret
              exact ⟨ret_bool HB.out.symm, _, World.drewN_drewN _ _ _⟩
            · have h4' : decide ((l[k].toNat : Int) < l[p].toNat) = false := by simpa using h4
              have HN : Hid (∀ j, j < k + 1 → clsOk l j) := by
                intro j hj
                rcases Nat.lt_or_ge j k with h | h
                · exact hc.out j h
                · obtain rfl : j = k := by omega
                  intro c hcc
                  rw [hat] at hcc; cases hcc
                  exact ⟨by omega, by omega, fun _ d hd => by rw [hat1] at hd; cases hd; omega⟩
              clear hc hat hat1 h3 hp
              go_wp2
              go_quiet (fail)
              clear w1
              go_wp2
              go_round
              case rel => exact ⟨k + 1, _, by omega, by go_num, by first | rfl | exact World.drewN_drewN _ _ _, HN⟩
              case measure => simp [intOf]; omega
          · have h3' : ((k : Int) % 2 == 1) = false := by simp; omega
            have HN : Hid (∀ j, j < k + 1 → clsOk l j) := by
              intro j hj
              rcases Nat.lt_or_ge j k with h | h
              · exact hc.out j h
              · obtain rfl : j = k := by omega
                intro c hcc
                rw [hat] at hcc; cases hcc
                exact ⟨by omega, by omega, fun ho => absurd ho h3⟩
            clear hc hat h3
            go_wp2
            go_quiet (fail)
            go_wp2
            go_round
            case rel => exact ⟨k + 1, _, by omega, by go_num, by first | rfl | exact World.drewN_drewN _ _ _, HN⟩
            case measure => simp [intOf]; omega
    · obtain rfl : k = l.length := by omega
      have HB := Lib.hid (cls_end l hc.out)
      clear hc
      by_cases h0 : l = []
      · subst h0
        go_wp2
        go_ret
        exact ⟨ret_bool HB.out.symm, _, rfl⟩
      · have hpos : 0 < (l.length : Int) := by have := List.length_pos_iff.2 h0; omega
        have hE : Hid (clsB l = ((l.length : Int) % 2 == 0)) := by show clsB l = _; rw [HB.out]; simp [h0]
        clear HB
        go_wp2
        all_goals go_ret
        all_goals exact ⟨ret_bool hE.out.symm, _, rfl⟩

set_option maxHeartbeats 1000000 in
theorem ofR_any (form : List UInt8) (hl : form.length ≤ 1000) (c : UInt8) (w : World) :
    Calls Tryd.prog 30 #[.string ⟨form.toArray⟩, .int .u8 c.toNat] w fun e w' => e = .returned (.bool (ofL form c)) ∧ w = w' := by
  go_enter Tryd.func30, Tryd.ntmps30
  go_wp2
  go_loop [5] (fun i => ∃ j : Nat, j ≤ form.length + 1 ∧ i = .int .i64 j ∧ Hid (ofL (form.drop j) c = ofL form c)) (fun i => form.length + 1 - (intOf i).toNat)
  case atStart => exact ⟨0, Nat.zero_le _, rfl, rfl⟩
  case round =>
    obtain ⟨j, hj, rfl, hc⟩ := hrel
    by_cases hlt : j + 1 < form.length
    · have hlt1 : j < form.length := by omega
      have HC : Hid (ofL form c = ((decide (form[j].toNat ≤ c.toNat) && decide (c.toNat ≤ form[j + 1].toNat)) || ofL (form.drop (j + 2)) c)) := by
        show ofL form c = _
        rw [← hc.out, drop_cons form j hlt1, drop_cons form (j + 1) hlt]; rfl
      clear hc
      by_cases h1 : form[j].toNat ≤ c.toNat
      · by_cases h2 : c.toNat ≤ form[j + 1].toNat
        · go_wp2
          go_ret
          exact ⟨ret_bool (by rw [HC.out]; simp [h1, h2]), rfl⟩
        · go_wp2
          go_round
          case rel => exact ⟨j + 2, by omega, by go_num, by show ofL _ c = _; rw [HC.out]; simp [h2]⟩
          case measure => simp [intOf]; omega
      · go_wp2
        go_round
        case rel => exact ⟨j + 2, by omega, by go_num, by show ofL _ c = _; rw [HC.out]; simp [h1]⟩
        case measure => simp [intOf]; omega
    · have HC : Hid (ofL form c = false) := by
        show ofL form c = false
        rw [← hc.out]
        have : (form.drop j).length ≤ 1 := by simp; omega
        match hd : form.drop j, this with
        | [], _ => rfl
        | [_], _ => rfl
      go_wp2
      go_ret
      exact ⟨ret_bool HC.out.symm, rfl⟩
set_option maxHeartbeats 1000000 in
theorem fits_any (g c : UInt8) (w : World) :
    Calls Tryd.prog 31 #[.int .u8 g.toNat, .int .u8 c.toNat] w fun e w' => e = .returned (.bool (fitB g c)) ∧ w = w' := by
  by_cases h1 : ((g.toNat : Int) == 100) = true
  · have HC : Hid (fitB g c = (decide (48 ≤ (c.toNat : Int)) && decide ((c.toNat : Int) ≤ 57))) := by show fitB g c = _; rw [fitB, if_pos h1]
    go_enter Tryd.func31, Tryd.ntmps31
    go_wp2
    all_goals go_ret
    all_goals exact ⟨ret_bool (by rw [HC.out]; simp_all; try omega), rfl⟩
  · have h1' : ((g.toNat : Int) == 100) = false := by simpa using h1
    by_cases h2 : ((g.toNat : Int) == 97) = true
    · have HC : Hid (fitB g c = (decide (97 ≤ (c.toNat : Int)) && decide ((c.toNat : Int) ≤ 122))) := by show fitB g c = _; rw [fitB, if_neg h1, if_pos h2]
      go_enter Tryd.func31, Tryd.ntmps31
      go_wp2
      all_goals go_ret
      all_goals exact ⟨ret_bool (by rw [HC.out]; simp_all; try omega), rfl⟩
    · have h2' : ((g.toNat : Int) == 97) = false := by simpa using h2
      have HC : Hid (fitB g c = ((c.toNat : Int) == (g.toNat : Int))) := by show fitB g c = _; rw [fitB, if_neg h1, if_neg h2]
      go_enter Tryd.func31, Tryd.ntmps31
      go_wp2
      all_goals go_ret
      all_goals exact ⟨ret_bool HC.out.symm, rfl⟩
end Go.Proofs.YtcgffokejpgbdaaDoor
