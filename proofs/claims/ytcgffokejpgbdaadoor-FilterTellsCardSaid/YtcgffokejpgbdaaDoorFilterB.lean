/- Walks of layer 13: the reader of forms: one sign. -/
import Derived.Test.YtcgffokejpgbdaaDoorRange
import Derived.Test.YtcgffokejpgbdaaDoorShelf
import Derived.Test.YtcgffokejpgbdaaDoorFilterPlain
import Derived.Test.YtcgffokejpgbdaaDoorErr
namespace Go.Proofs.YtcgffokejpgbdaaDoor
open Go.RowKit
abbrev sepL : List UInt8 := [45, 58, 47]
theorem idx_yes (c : UInt8) (h : c = 45 ∨ c = 58 ∨ c = 47) (w : World) :
    Calls Tryd.prog 68 #[.string ⟨#[45, 58, 47]⟩, .int .u8 c.toNat] w fun e w' => (∃ k : Nat, e = .returned (.int .i64 k)) ∧ w = w' := by
  refine (Tryd.strings_IndexByte ⟨#[45, 58, 47]⟩ c.toNat w).mono ?_
  rintro e w' ⟨rfl, rfl⟩
  refine ⟨?_, rfl⟩
  rcases h with rfl | rfl | rfl
  · exact ⟨0, rfl⟩
  · exact ⟨1, rfl⟩
  · exact ⟨2, rfl⟩
theorem idx_no (c : UInt8) (h1 : c ≠ 45) (h2 : c ≠ 58) (h3 : c ≠ 47) (w : World) :
    Calls Tryd.prog 68 #[.string ⟨#[45, 58, 47]⟩, .int .u8 c.toNat] w fun e w' => e = .returned (.int .i64 (-1)) ∧ w = w' := by
  refine (Tryd.strings_IndexByte ⟨#[45, 58, 47]⟩ c.toNat w).mono ?_
  rintro e w' ⟨rfl, rfl⟩
  refine ⟨?_, rfl⟩
  have hc : ((c.toNat : Int)).toNat.toUInt8 = c := by simp
  rw [hc]
  simp [Lib.indexByte, Ne.symm h1, Ne.symm h2, Ne.symm h3]
def isSep (c : UInt8) : Prop := c = 45 ∨ c = 58 ∨ c = 47

theorem da_tests (c : UInt8) (hc : c = 100 ∨ c = 97) : c ≠ 45 ∧ c ≠ 58 ∧ c ≠ 47 ∧ (((c.toNat : Int) != 100) = false ∨ ((c.toNat : Int) != 100) = true ∧ ((c.toNat : Int) != 97) = false) := by
  rcases hc with rfl | rfl <;> decide

/-- The reader's block: what is left, what went wrong. -/
abbrev Rd (W : World) (b : Nat) (l : List UInt8) (ev : Value) : Prop := Blk W b #[.string ⟨l.toArray⟩, ev] 90

set_option maxRecDepth 100000 in
set_option maxHeartbeats 1000000 in
theorem sign_sep (b : Nat) (c : UInt8) (r : List UInt8) (ev : Value) (w : World) (h : Rd w b (c :: r) ev) (hl : (c :: r).length ≤ maxLen) (hc : isSep c) :
    Calls Tryd.prog 59 #[.pointer (some ⟨b, 0, none⟩)] w fun e w' => e = .returned (.tuple #[.int .u8 c.toNat, .int .i64 1]) ∧ Rd w' b r ev ∧ w.grownBy w' (some b) := by
  unfold maxLen at hl
  have c0 := h.cell 0
  have f0 := h.frozen 0
  have hl' : r.length + 1 ≤ 2 ^ 63 - 1 := hl
  simp at c0
  go_enter Tryd.func59, Tryd.ntmps59
  go_wp2_with (go_at_call 68; refine (idx_yes c hc _).mono ?_; rintro e w' ⟨⟨k, rfl⟩, rfl⟩)
  go_ret2
  exact ⟨rfl, by simpa using h.set 0 (.string ⟨r.toArray⟩), grownBy_setCellB _ _ _ _⟩

set_option maxRecDepth 100000 in
set_option maxHeartbeats 1000000 in
theorem sign_run (b : Nat) (c d : UInt8) (r : List UInt8) (ev : Value) (w : World) (h : Rd w b (c :: d :: r) ev) (hl : (c :: d :: r).length ≤ maxLen) (hc : c = 100 ∨ c = 97) (hd1 : 49 ≤ (d.toNat : Int)) (hd2 : (d.toNat : Int) ≤ 57) :
    Calls Tryd.prog 59 #[.pointer (some ⟨b, 0, none⟩)] w fun e w' => e = .returned (.tuple #[.int .u8 c.toNat, .int .i64 (d.toNat - 48)]) ∧ Rd w' b r ev ∧ w.grownBy w' (some b) := by
  unfold maxLen at hl
  have c0 := h.cell 0
  have f0 := h.frozen 0
  have hl' : r.length + 2 ≤ 2 ^ 63 - 1 := hl
  simp at c0
  have H1 := h.set 0 (.string ⟨(d :: r).toArray⟩)
  have c1 := H1.cell 0
  have f1 := H1.frozen 0
  simp at c1
  have H2 := H1.set 0 (.string ⟨r.toArray⟩)
  have hg := grownBy_t (grownBy_setCellB w b 0 (.string ⟨(d :: r).toArray⟩)) (grownBy_setCellB _ b 0 (.string ⟨r.toArray⟩))
  obtain ⟨n1, n2, n3, hT⟩ := da_tests c hc
  clear hc
  rcases hT with e1 | ⟨e1, e2⟩
  all_goals
    go_enter Tryd.func59, Tryd.ntmps59
    go_wp2_with (go_at_call 68; refine (idx_no c n1 n2 n3 _).mono ?_; rintro e w' ⟨rfl, rfl⟩)
    go_ret2
    exact ⟨rfl, by simpa using H2, hg⟩




set_option maxRecDepth 100000 in
set_option maxHeartbeats 1000000 in
/-- No sign: c is none, or nothing or no digit from 1 to 9 stands behind it. -/
theorem sign_bad (b : Nat) (c : UInt8) (r : List UInt8) (ev : Value) (ea : Addr) (w : World) (h : Rd w b (c :: r) ev) (hl : (c :: r).length ≤ maxLen) (hge : w.cell? ⟨0, 0, none⟩ = some (eV ea)) (hb : b ≠ 0)
    (hc : ¬ isSep c) (hbad : (c ≠ 100 ∧ c ≠ 97) ∨ r = [] ∨ ∃ d r', r = d :: r' ∧ ((d.toNat : Int) < 49 ∨ 57 < (d.toNat : Int))) :
    Calls Tryd.prog 59 #[.pointer (some ⟨b, 0, none⟩)] w fun e w' => e = .returned (.tuple #[.int .u8 c.toNat, .int .i64 0]) ∧ Rd w' b r (eV ea) ∧ w.grownBy w' (some b) := by
  unfold maxLen at hl
  have c0 := h.cell 0
  have f0 := h.frozen 0
  have hl' : r.length + 1 ≤ 2 ^ 63 - 1 := hl
  simp at c0
  have H1 := h.set 0 (.string ⟨r.toArray⟩)
  have c1 := H1.cell 0
  have f1 := H1.frozen 0
  have f1' := H1.frozen 1
  have c1' := H1.cell 1
  simp at c1 c1'
  have hg1 := grownBy_setCellB w b 0 (.string ⟨r.toArray⟩)
  have cg := hg1.cell hge (by simpa using Ne.symm hb)
  have H2 := H1.set 1 (eV ea)
  have hg := grownBy_t hg1 (grownBy_setCellB _ b 1 (eV ea))
  have n1 : c ≠ 45 := fun e => hc (.inl e)
  have n2 : c ≠ 58 := fun e => hc (.inr (.inl e))
  have n3 : c ≠ 47 := fun e => hc (.inr (.inr e))
  clear hc
  by_cases hda : c = 100 ∨ c = 97
  · have hb2 : r = [] ∨ ∃ d r', r = d :: r' ∧ ((d.toNat : Int) < 49 ∨ 57 < (d.toNat : Int)) := by
      rcases hbad with h | h
      · rcases hda with e | e
        · exact absurd e h.1
        · exact absurd e h.2
      · exact h
    clear hbad
    obtain ⟨_, _, _, hT⟩ := da_tests c hda
    clear hda
    rcases hb2 with rfl | ⟨d, r', rfl, hd⟩
    · rcases hT with e1 | ⟨e1, e2⟩
      all_goals
        go_enter Tryd.func59, Tryd.ntmps59
        go_wp2_with (go_at_call 68; refine (idx_no c n1 n2 n3 _).mono ?_; rintro e w' ⟨rfl, rfl⟩)
        go_ret2
        exact ⟨rfl, by simpa using H2, hg⟩
    · rcases hT with e1 | ⟨e1, e2⟩
      all_goals rcases hd with hd | hd
      all_goals
        go_enter Tryd.func59, Tryd.ntmps59
        go_wp2_with (go_at_call 68; refine (idx_no c n1 n2 n3 _).mono ?_; rintro e w' ⟨rfl, rfl⟩)
        all_goals (go_ret2; exact ⟨rfl, by simpa using H2, hg⟩)
  · have e1 : ((c.toNat : Int) != 100) = true := by
      rw [bne_iff_ne]; intro e; exact hda (.inl (u8_eq (by have : ((100:UInt8).toNat : Int) = 100 := rfl; omega)))
    have e2 : ((c.toNat : Int) != 97) = true := by
      rw [bne_iff_ne]; intro e; exact hda (.inr (u8_eq (by have : ((97:UInt8).toNat : Int) = 97 := rfl; omega)))
    clear hda hbad
    go_enter Tryd.func59, Tryd.ntmps59
    go_wp2_with (go_at_call 68; refine (idx_no c n1 n2 n3 _).mono ?_; rintro e w' ⟨rfl, rfl⟩)
    go_ret2
    exact ⟨rfl, by simpa using H2, hg⟩

theorem isSep_iff (c : UInt8) : isSep c ↔ isSepB c = true := by simp [isSep, isSepB, or_assoc]
theorem isRep_iff (d : UInt8) : isRep d = true ↔ 49 ≤ (d.toNat : Int) ∧ (d.toNat : Int) ≤ 57 := by simp [isRep]

def evOf (ok : Bool) (ev : Value) (ea : Addr) : Value := if ok then ev else eV ea
/-- One sign, of whatever make. -/
theorem sign_any (b : Nat) (c : UInt8) (r : List UInt8) (ev : Value) (ea : Addr) (w : World) (h : Rd w b (c :: r) ev) (hl : (c :: r).length ≤ maxLen) (hge : w.cell? ⟨0, 0, none⟩ = some (eV ea)) (hb : b ≠ 0) :
    Calls Tryd.prog 59 #[.pointer (some ⟨b, 0, none⟩)] w fun e w' => e = .returned (.tuple #[.int .u8 c.toNat, .int .i64 (sgn c r).1]) ∧ Rd w' b (sgn c r).2.1 (evOf (sgn c r).2.2 ev ea) ∧ w.grownBy w' (some b) := by
  by_cases hs : isSepB c = true
  · have e : sgn c r = (1, r, true) := by unfold sgn; rw [if_pos hs]
    rw [e]
    exact sign_sep b c r ev w h hl ((isSep_iff c).2 hs)
  · have hs' : ¬ isSep c := fun x => hs ((isSep_iff c).1 x)
    by_cases hd : isDA c = true
    · have hd' : c = 100 ∨ c = 97 := by simpa [isDA] using hd
      cases r with
      | nil =>
        have e : sgn c [] = (0, [], false) := by rw [sgn, if_neg hs, if_pos hd]
        rw [e]
        exact sign_bad b c [] ev ea w h hl hge hb hs' (.inr (.inl rfl))
      | cons d r =>
        by_cases hr : isRep d = true
        · have e : sgn c (d :: r) = (d.toNat - 48, r, true) := by rw [sgn, if_neg hs, if_pos hd]; simp [hr]
          have h2 := (isRep_iff d).1 hr
          rw [e]
          have e2 : (((d.toNat - 48, r, true).1 : Nat) : Int) = (d.toNat : Int) - 48 := by show ((d.toNat - 48 : Nat) : Int) = _; omega
          rw [e2]
          exact sign_run b c d r ev w h hl hd' h2.1 h2.2
        · have e : sgn c (d :: r) = (0, d :: r, false) := by rw [sgn, if_neg hs, if_pos hd]; simp [hr]
          rw [e]
          refine sign_bad b c (d :: r) ev ea w h hl hge hb hs' (.inr (.inr ⟨d, r, rfl, ?_⟩))
          have : ¬ (49 ≤ (d.toNat : Int) ∧ (d.toNat : Int) ≤ 57) := fun x => hr ((isRep_iff d).2 x)
          omega
    · have e : sgn c r = (0, r, false) := by unfold sgn; rw [if_neg hs, if_neg hd]
      rw [e]
      refine sign_bad b c r ev ea w h hl hge hb hs' (.inl ?_)
      simp [isDA] at hd; exact hd
end Go.Proofs.YtcgffokejpgbdaaDoor
