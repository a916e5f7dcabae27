/- Numbers' digits, as the program and the document's answer take them: plain. -/
import Derived.Test.YtgobdhedeodpiaaDoorLabPlain
namespace Go.Proofs.YtgobdhedeodpiaaDoor
/-- do digits begin those of a number from least to most? -/
def begI (lo hi : Nat) (p : List UInt8) : Bool := (List.range' lo (hi + 1 - lo)).any fun (i : Nat) => p.isPrefixOf (digL i)
theorem begI_step (lo hi : Nat) (p : List UInt8) (h : lo ≤ hi) : begI lo hi p = (p.isPrefixOf (digL lo) || begI (lo + 1) hi p) := by
  unfold begI
  rw [show hi + 1 - lo = (hi + 1 - (lo + 1)) + 1 by omega, List.range'_succ, List.any_cons]
theorem begI_end (lo hi : Nat) (p : List UInt8) (h : hi < lo) : begI lo hi p = false := by
  unfold begI
  rw [show hi + 1 - lo = 0 by omega]; rfl
theorem begI_iff (lo hi : Nat) (p : List UInt8) : begI lo hi p = true ↔ ∃ i : Nat, lo ≤ i ∧ i ≤ hi ∧ p.isPrefixOf (digL i) = true := by
  unfold begI
  rw [List.any_eq_true]
  constructor
  · rintro ⟨i, hi, h⟩
    have := List.mem_range'_1.1 hi
    exact ⟨i, by omega, by omega, h⟩
  · rintro ⟨i, h1, h2, h⟩
    exact ⟨i, List.mem_range'_1.2 (by omega), h⟩
def pfx (m : Int) : List UInt8 := if m < 0 then [] else digL m
theorem dch_eq {n : Nat} {c : UInt8} (hc : dgB c = true) : (c == dch n) = decide (dvl c = (n : Int) % 10) := by
  rw [Bool.eq_iff_iff, beq_iff_eq, decide_eq_true_eq]
  constructor
  · rintro rfl; exact dvl_dch n
  · intro h; exact (dch_of n c hc h).symm
theorem pre1 {c : UInt8} (hc : dgB c = true) (i : Nat) (hi : i ≤ 63) : [c].isPrefixOf (digL i) = decide (dvl c = (if i < 10 then (i : Int) else i / 10)) := by
  by_cases h : i < 10
  · rw [digL_lt10 i h, if_pos h, List.isPrefixOf, dch_eq hc, show ((i : Int) % 10) = i by omega]; simp [List.isPrefixOf]
  · rw [digL_lt100 i h (by omega), if_neg h, List.isPrefixOf, dch_eq hc, show (((i / 10 : Nat) : Int) % 10) = i / 10 by omega]; simp [List.isPrefixOf]
theorem pre2 {c d : UInt8} (hc : dgB c = true) (hd : dgB d = true) (i : Nat) (hi : i ≤ 63) : [c, d].isPrefixOf (digL i) = (decide (10 ≤ i) && decide (dvl c = i / 10) && decide (dvl d = i % 10)) := by
  by_cases h : i < 10
  · rw [digL_lt10 i h]; simp [List.isPrefixOf, show ¬ 10 ≤ i by omega]
  · rw [digL_lt100 i h (by omega), List.isPrefixOf, List.isPrefixOf, dch_eq hc, dch_eq hd, show (((i / 10 : Nat) : Int) % 10) = i / 10 by omega]; simp [List.isPrefixOf, show 10 ≤ i by omega]
theorem pre3 (c d e : UInt8) (i : Nat) (hi : i ≤ 63) : [c, d, e].isPrefixOf (digL i) = false := by
  by_cases h : i < 10
  · rw [digL_lt10 i h]; simp [List.isPrefixOf]
  · rw [digL_lt100 i h (by omega)]; simp [List.isPrefixOf]
theorem beg_goes (lo hi : Nat) (h1 : lo ≤ hi) (h2 : hi ≤ 63) (m : Int) (hm : m = -1 ∨ (0 ≤ m ∧ m ≤ 63)) (c : UInt8) (hc : dgB c = true) : begI lo hi (pfx m ++ [c]) = goesB lo hi m c := by
  have hd := dvl_le hc
  rw [Bool.eq_iff_iff, begI_iff]
  rcases hm with rfl | ⟨hm0, hm1⟩
  · have hx : nxt (-1) c = dvl c := by rw [nxt, if_pos (by omega)]
    constructor
    · rintro ⟨i, a1, a2, a3⟩
      rw [show pfx (-1) ++ [c] = [c] from rfl, pre1 hc i (by omega), decide_eq_true_eq] at a3
      refine goesB_of hc (by omega) ?_
      rw [hx]
      refine canP_of ?_
      split at a3 <;> omega
    · intro hg
      obtain ⟨_, _, g⟩ := goesB_to hg
      rw [hx] at g
      rcases canP_to g with g | g
      · refine ⟨(dvl c).toNat, by omega, by omega, ?_⟩
        rw [show pfx (-1) ++ [c] = [c] from rfl, pre1 hc _ (by omega), decide_eq_true_eq, if_pos (by omega)]; omega
      · refine ⟨max lo (10 * (dvl c).toNat), by omega, by omega, ?_⟩
        rw [show pfx (-1) ++ [c] = [c] from rfl, pre1 hc _ (by omega), decide_eq_true_eq, if_neg (by omega)]; omega
  · obtain ⟨k, rfl⟩ := Int.eq_ofNat_of_zero_le hm0
    have hx : nxt (k : Int) c = 10 * k + dvl c := by rw [nxt, if_neg (by omega)]
    by_cases hk : k < 10
    · have hp : pfx (k : Int) ++ [c] = [dch k, c] := by rw [pfx, if_neg (by omega), digL_lt10 k hk]; rfl
      rw [hp]
      constructor
      · rintro ⟨i, a1, a2, a3⟩
        rw [pre2 (dgB_dch k) hc i (by omega), dvl_dch] at a3
        simp only [Bool.and_eq_true, decide_eq_true_eq] at a3
        refine goesB_of hc (by omega) ?_
        rw [hx]
        exact canP_of (.inl (by omega))
      · intro hg
        obtain ⟨_, g0, g⟩ := goesB_to hg
        rw [hx] at g
        have g' := canP_to g
        refine ⟨10 * k + (dvl c).toNat, by omega, by omega, ?_⟩
        rw [pre2 (dgB_dch k) hc _ (by omega), dvl_dch]
        simp only [Bool.and_eq_true, decide_eq_true_eq]
        omega
    · have hp : pfx (k : Int) ++ [c] = [dch (k / 10), dch k, c] := by rw [pfx, if_neg (by omega), digL_lt100 k hk (by omega)]; rfl
      rw [hp]
      constructor
      · rintro ⟨i, a1, a2, a3⟩
        rw [pre3 _ _ _ i (by omega)] at a3; cases a3
      · intro hg
        obtain ⟨_, _, g⟩ := goesB_to hg
        rw [hx] at g
        have := canP_to g
        omega
/-- what a digit taken makes of the digits so far -/
theorem pfx_next (lo hi : Nat) (h2 : hi ≤ 63) (m : Int) (hm : m = -1 ∨ (0 ≤ m ∧ m ≤ 63)) (c : UInt8) (hg : goesB lo hi m c = true) : pfx (nxt m c) = pfx m ++ [c] ∧ 0 ≤ nxt m c ∧ nxt m c ≤ 63 := by
  obtain ⟨hc, g0, g⟩ := goesB_to hg
  have hd := dvl_le hc
  have g' := canP_to g
  rcases hm with rfl | ⟨hm0, hm1⟩
  · have hx : nxt (-1) c = ((dvl c).toNat : Nat) := by rw [nxt, if_pos (by omega)]; omega
    rw [hx]
    refine ⟨?_, by omega, by omega⟩
    rw [pfx, if_neg (by omega), digL_lt10 _ (by omega), dch_of _ c hc (by omega)]; rfl
  · obtain ⟨k, rfl⟩ := Int.eq_ofNat_of_zero_le hm0
    have hx : nxt (k : Int) c = ((10 * k + (dvl c).toNat : Nat) : Int) := by rw [nxt, if_neg (by omega)]; omega
    rw [hx] at g' ⊢
    refine ⟨?_, by omega, by omega⟩
    have e1 : dch (10 * k + (dvl c).toNat) = c := dch_of _ c hc (by omega)
    rw [pfx, if_neg (by omega), digL_lt100 _ (by omega) (by omega), e1, show (10 * k + (dvl c).toNat) / 10 = k by omega, pfx, if_neg (by omega), digL_lt10 k (by omega)]
    rfl
end Go.Proofs.YtgobdhedeodpiaaDoor
