/- Walks of the document's answer for layer 5: its reader. -/
import Derived.Test.YtgobdhedeodpiaaDoorLabQ2
import Derived.Test.YtgobdhedeodpiaaDoorLabNum
import Derived.Test.YtgobdhedeodpiaaDoorLabS
namespace Go.Proofs.YtgobdhedeodpiaaDoor
open Go.RowKit Go.Shelf
attribute [local go_sem] Oper.semAt_some
/-- the reader: the text, where it is, whether something was wrong -/
def RdQ (W : World) (b : Nat) (s : List UInt8) (q : List UInt8 × Bool) : Prop := ∃ k : Nat, k ≤ s.length ∧ q.1 = s.drop k ∧ Blk W b #[.string ⟨s.toArray⟩, .int .i64 k, .bool q.2] 61
theorem grown_drewNr (w : World) (n : Nat) (row : Option Nat) : w.grownBy (w.drewN n) row := ⟨rfl, rfl, rfl, Nat.le_refl _, fun _ _ _ => rfl⟩
theorem RdQ.drewN {W : World} {b : Nat} {s : List UInt8} {q : List UInt8 × Bool} (h : RdQ W b s q) (n : Nat) : RdQ (W.drewN n) b s q := h
def hdB (c : UInt8) (q : List UInt8 × Bool) : Bool := !q.2 && (q.1.head? == some c)
theorem isR_any (c : UInt8) (b : Nat) (s r : List UInt8) (bad : Bool) (w : World) (h : RdQ w b s (r, bad)) (hn : s.length ≤ 1000000) :
    Calls Tryd.prog 31 #[.pointer (some ⟨b, 0, none⟩), .int .u8 c.toNat] w fun e w' => e = .returned (.bool (hdB c (r, bad))) ∧ ∃ n, w' = w.drewN n := by
  obtain ⟨k, hk, hr, hb⟩ := h
  have c0 := hb.cell 0
  have c1 := hb.cell 1
  have c2 := hb.cell 2
  simp at c0 c1 c2 hr
  clear hb
  cases bad with
  | true =>
    have hH : hdB c (r, true) = false := rfl
    rw [hH]
    clear hH hr
    go_enter Tryd.func31, Tryd.ntmps31
    go_wp2_with fail
    go_quiet (fail)
    go_wp2_with fail
    go_ret
    exact ⟨rfl, _, rfl⟩
  | false =>
    by_cases hlt : k < s.length
    · have hH : hdB c (r, false) = ((s[k].toNat : Int) == c.toNat) := by
        have e : (s.drop k).head? = some s[k] := by rw [drop_cons s k hlt]; rfl
        unfold hdB
        rw [hr, e]
        by_cases h : s[k] = c
        · rw [h]; simp
        · have h' : ((s[k].toNat : Int) == c.toNat) = false := by
            rw [beq_eq_false_iff_ne]; intro h2; exact h (u8_eq (by omega))
          rw [h']; simp [h]
      have HH := Lib.hid hH
      have hlt1 : decide (k < s.length) = true := by simpa using hlt
      have hlt2 : (k : Int) < s.length := by omega
      have hlt0 : (0 : Int) ≤ k := by omega
      clear hH hr
      go_enter Tryd.func31, Tryd.ntmps31
      go_wp2_with fail
      go_quiet (fail)
      go_wp2_with fail
      go_ret
      exact ⟨by rw [HH.out]; rfl, _, rfl⟩
    · have hH : hdB c (r, false) = false := by
        unfold hdB; rw [hr, List.drop_of_length_le (by omega)]; rfl
      rw [hH]
      have hlt1 : decide (k < s.length) = false := by simpa using hlt
      clear hH hr
      go_enter Tryd.func31, Tryd.ntmps31
      go_wp2_with fail
      go_quiet (fail)
      go_wp2_with fail
      go_ret
      exact ⟨rfl, _, rfl⟩
theorem hd_true {c : UInt8} {r : List UInt8} {bad : Bool} (h : hdB c (r, bad) = true) : bad = false ∧ ∃ r', r = c :: r' := by
  unfold hdB at h
  cases bad with
  | true => simp at h
  | false =>
    cases r with
    | nil => simp at h
    | cons d r => simp at h; exact ⟨rfl, r, by rw [h]⟩
theorem hd_false {c : UInt8} {r : List UInt8} {bad : Bool} (h : hdB c (r, bad) = false) : bad = true ∨ (bad = false ∧ ∀ r', r ≠ c :: r') := by
  cases bad with
  | true => exact .inl rfl
  | false =>
    refine .inr ⟨rfl, fun r' e => ?_⟩
    subst e
    simp [hdB] at h
theorem must_st (c : UInt8) (r : List UInt8) (bad : Bool) : (hdB c (r, bad) = true → ∃ r', r = c :: r' ∧ bad = false ∧ (lift () (pmust c) (r, bad)).2 = (r', false)) ∧ (hdB c (r, bad) = false → (lift () (pmust c) (r, bad)).2 = (r, true)) := by
  constructor
  · intro h
    obtain ⟨rfl, r', rfl⟩ := hd_true h
    exact ⟨r', rfl, rfl, by simp [lift, pmust]⟩
  · intro h
    rcases hd_false h with rfl | ⟨rfl, h5⟩
    · rfl
    · cases r with
      | nil => rfl
      | cons d r =>
        have : d ≠ c := fun e => h5 r (by rw [e])
        simp [lift, pmust, this]
theorem is_st (c : UInt8) (r : List UInt8) (bad : Bool) : (hdB c (r, bad) = true → ∃ r', r = c :: r' ∧ bad = false ∧ lift false (pis c) (r, bad) = (true, (r', false))) ∧ (hdB c (r, bad) = false → lift false (pis c) (r, bad) = (false, (r, bad))) := by
  constructor
  · intro h
    obtain ⟨rfl, r', rfl⟩ := hd_true h
    exact ⟨r', rfl, rfl, by simp [lift, pis]⟩
  · intro h
    rcases hd_false h with rfl | ⟨rfl, h5⟩
    · rfl
    · cases r with
      | nil => rfl
      | cons d r =>
        have : d ≠ c := fun e => h5 r (by rw [e])
        simp [lift, pis, this]
theorem mustR_any (c : UInt8) (b : Nat) (s r : List UInt8) (bad : Bool) (w : World) (h : RdQ w b s (r, bad)) (hn : s.length ≤ 1000000) :
    Calls Tryd.prog 29 #[.pointer (some ⟨b, 0, none⟩), .int .u8 c.toNat] w fun e w' => e = .returned (.tuple #[]) ∧ RdQ w' b s (lift () (pmust c) (r, bad)).2 ∧ w.grownBy w' (some b) := by
  have HI := isR_any c b s r bad w h hn
  obtain ⟨h1, h2⟩ := must_st c r bad
  obtain ⟨k, hk, hr, hb⟩ := h
  have c1 := hb.cell 1
  have c2 := hb.cell 2
  have f1 := hb.frozen 1
  have f2 := hb.frozen 2
  simp at c1 c2 hr
  cases hd : hdB c (r, bad) with
  | true =>
    obtain ⟨r', e1, rfl, e3⟩ := h1 hd
    rw [e3]
    rw [hd] at HI
    have hk2 : k < s.length := by
      rcases Nat.lt_or_ge k s.length with h | h
      · exact h
      · rw [List.drop_of_length_le h] at hr; rw [hr] at e1; cases e1
    have hr' : r' = s.drop (k + 1) := by rw [hr, drop_cons s k hk2] at e1; exact (List.cons.inj e1).2.symm
    have hb' := fun nn => Blk.set 1 (.int .i64 ((k + 1 : Nat) : Int)) (hb.drewN nn)
    have HB := Lib.hid hb'
    have HR := Lib.hid hr'
    clear h1 h2 hd e1 e3 hr hr' hb hb'
    go_enter Tryd.func29, Tryd.ntmps29
    go_wp2_with (go_at_call 31; refine HI.mono ?_; rintro e w' ⟨rfl, nn, rfl⟩)
    go_end0
    exact ⟨rfl, ⟨k + 1, by omega, HR.out, by simpa using HB.out nn⟩, grownBy_t (grown_drewNr w nn _) (grownBy_setCellB _ b 1 _)⟩
  | false =>
    rw [h2 hd]
    rw [hd] at HI
    have hb' := fun nn => Blk.set 2 (.bool true) (hb.drewN nn)
    have HB := Lib.hid hb'
    have HR := Lib.hid hr
    clear h1 h2 hd hb hb' hr
    go_enter Tryd.func29, Tryd.ntmps29
    go_wp2_with (go_at_call 31; refine HI.mono ?_; rintro e w' ⟨rfl, nn, rfl⟩)
    exact bodyPost_ret (v := .tuple #[]) (by simp [results, Tryd.results29, go_sem]) rfl ⟨rfl, ⟨k, hk, HR.out, by simpa using HB.out nn⟩, grownBy_t (grown_drewNr w nn _) (grownBy_setCellB _ b 2 _)⟩
/-- does a number i begin with n? -/
def hitB (n i : Nat) : Bool := i == n || (decide (10 ≤ i) && i / 10 == n)
def canI (lo hi n : Nat) : Bool := (List.range' lo (hi + 1 - lo)).any fun (i : Nat) => hitB n i
theorem canI_step (lo hi n : Nat) (h : lo ≤ hi) : canI lo hi n = (hitB n lo || canI (lo + 1) hi n) := by
  unfold canI
  rw [show hi + 1 - lo = (hi + 1 - (lo + 1)) + 1 by omega, List.range'_succ, List.any_cons]
theorem canI_end (lo hi n : Nat) (h : hi < lo) : canI lo hi n = false := by
  unfold canI
  rw [show hi + 1 - lo = 0 by omega]; rfl
theorem canI_eq (lo hi n : Nat) (h1 : lo ≤ hi) : canI lo hi n = canP lo hi n := by
  have hI : canI lo hi n = true ↔ ∃ i : Nat, lo ≤ i ∧ i ≤ hi ∧ (i = n ∨ (10 ≤ i ∧ i / 10 = n)) := by
    unfold canI hitB
    rw [List.any_eq_true]
    constructor
    · rintro ⟨i, hi, h⟩
      have := List.mem_range'_1.1 hi
      simp at h
      exact ⟨i, by omega, by omega, h⟩
    · rintro ⟨i, h1, h2, h⟩
      refine ⟨i, List.mem_range'_1.2 (by omega), by simpa using h⟩
  rw [Bool.eq_iff_iff, hI]
  constructor
  · rintro ⟨i, a, b, c⟩
    refine canP_of ?_
    omega
  · intro h
    rcases canP_to h with h | h
    · exact ⟨n, by omega, by omega, .inl rfl⟩
    · exact ⟨max lo (10 * n), by omega, by omega, .inr ⟨by omega, by omega⟩⟩
end Go.Proofs.YtgobdhedeodpiaaDoor
