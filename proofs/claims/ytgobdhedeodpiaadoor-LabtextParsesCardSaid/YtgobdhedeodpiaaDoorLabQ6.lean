/- Walks of the document's answer for layer 5: a label of a text. -/
import Derived.Test.YtgobdhedeodpiaaDoorLabQ5
import Derived.Test.YtgobdhedeodpiaaDoorLabP
namespace Go.Proofs.YtgobdhedeodpiaaDoor
open Go.RowKit Go.Shelf
attribute [local go_sem] Oper.semAt_some
theorem and_two_pow_no (S i : Nat) (h : S.testBit i = false) : S &&& 2 ^ i = 0 := by
  refine Nat.eq_of_testBit_eq fun j => ?_
  rw [Nat.testBit_and, Nat.testBit_two_pow, Nat.zero_testBit]
  by_cases e : i = j
  · subst e; rw [h]; rfl
  · simp [e]
theorem add_pow (S i : Nat) (hi : i < 64) (hS : S < 18446744073709551616) (h : S.testBit i = false) : IntKind.u64.wrap ((S : Int) + IntKind.u64.wrap (2 ^ i)) = ((S ||| 2 ^ i : Nat) : Int) := by
  have h1 := shl_one i hi
  rw [Int.one_mul] at h1
  rw [h1]
  have hp : (2 : Nat) ^ i < 18446744073709551616 := Nat.lt_of_lt_of_le (Nat.pow_lt_pow_right (by omega) hi) (by decide)
  have ho := or_lt S i hi hS
  have e : S + 2 ^ i = S ||| 2 ^ i := by
    have hb := BitVec.add_eq_or_of_and_eq_zero (BitVec.ofNat 65 S) (BitVec.ofNat 65 (2 ^ i)) (by
      rw [← BitVec.ofNat_and, and_two_pow_no S i h])
    have := congrArg BitVec.toNat hb
    rw [BitVec.toNat_add, BitVec.toNat_or, BitVec.toNat_ofNat, BitVec.toNat_ofNat, Nat.mod_eq_of_lt (Nat.lt_of_lt_of_le hS (by decide)), Nat.mod_eq_of_lt (Nat.lt_of_lt_of_le hp (by decide)), Nat.mod_eq_of_lt (show S + 2 ^ i < 2 ^ 65 from by omega)] at this
    exact this
  have e2 : (S : Int) + ((2 ^ i : Nat) : Int) = ((S ||| 2 ^ i : Nat) : Int) := by rw [← e]; exact (Int.natCast_add _ _).symm
  rw [e2, IntKind.wrap_u64]
  exact Int.emod_eq_of_lt (Int.natCast_nonneg _) (Int.ofNat_lt.2 ho)
theorem or_has (S i : Nat) (h : S.testBit i = true) : S ||| 2 ^ i = S := by
  refine Nat.eq_of_testBit_eq fun j => ?_
  rw [Nat.testBit_or, Nat.testBit_two_pow]
  by_cases e : i = j
  · subst e; rw [h]; rfl
  · simp [e]
theorem withR_yes (S i : Nat) (hi : i < 64) (hS : S < 18446744073709551616) (w : World) :
    Calls Tryd.prog 32 #[.int .u64 S, .int .i64 i] w fun e w' => e = .returned (.tuple #[.int .u64 (S ||| 2 ^ i : Nat), .int .i64 0]) ∧ w = w' := by
  have hi0 : (0 : Int) ≤ (i : Int) := by omega
  have hi1 : (i : Int) < 64 := by omega
  have HH := hasR_any S i hi hS w
  have HO := Lib.hid (or_has S i)
  have HA := Lib.hid (add_pow S i hi hS)
  cases hb : S.testBit i with
  | true =>
    rw [hb] at HH
    have HO' := Lib.hid (HO.out hb)
    clear HO HA hb
    go_enter Tryd.func32, Tryd.ntmps32
    go_wp2_with (go_at_call 35; refine HH.mono ?_; rintro e w' ⟨rfl, rfl⟩)
    go_ret2
    exact ⟨by rw [HO'.out]; rfl, rfl⟩
  | false =>
    rw [hb] at HH
    have HA' := Lib.hid (HA.out hb)
    clear HO HA hb
    go_enter Tryd.func32, Tryd.ntmps32
    go_wp2_with (go_at_call 35; refine HH.mono ?_; rintro e w' ⟨rfl, rfl⟩)
    go_ret2
    exact ⟨by rw [← HA'.out]; rfl, rfl⟩
theorem withR_no (S : Nat) (w : World) :
    Calls Tryd.prog 32 #[.int .u64 S, .int .i64 (-1)] w fun e w' => e = .returned (.tuple #[.int .u64 (0 : Nat), .int .i64 10]) ∧ w = w' := by
  go_enter Tryd.func32, Tryd.ntmps32
  go_wp2
  go_ret2
  exact ⟨rfl, rfl⟩
def WithPost (S : Nat) (v : Int) (w : World) (e : Ending) (w' : World) : Prop := ∃ (z : Nat) (er : Int), z < 18446744073709551616 ∧ e = .returned (.tuple #[.int .u64 z, .int .i64 er]) ∧ (∀ n : Nat, v = n → z = S ||| 2 ^ n) ∧ w = w'
theorem withR_any (S : Nat) (v : Int) (h1 : -1 ≤ v) (h2 : v ≤ 63) (hS : S < 18446744073709551616) (w : World) : Calls Tryd.prog 32 #[.int .u64 S, .int .i64 v] w (WithPost S v w) := by
  by_cases h : v = -1
  · subst h
    exact (withR_no S w).mono fun e w' ⟨a, b⟩ => ⟨0, 10, by omega, a, fun n hn => by omega, b⟩
  · obtain ⟨n, rfl⟩ := Int.eq_ofNat_of_zero_le (show 0 ≤ v by omega)
    exact (withR_yes S n (by omega) hS w).mono fun e w' ⟨a, b⟩ => ⟨_, 0, or_lt S n (by omega) hS, a, (fun (m : Nat) (hm : (n : Int) = m) => by rw [show n = m by omega]), b⟩
/-- where the document's answer stands behind a number of a set -/
def SetQ (X : Nat × (List UInt8 × Bool)) (q : List UInt8 × Bool) (last : Int) (acc : Nat) : Prop :=
  (q.2 = true ∧ X = (0, q)) ∨ (q.2 = false ∧ ∃ (f n a : Nat) (lo : Int) (R : List UInt8), last = n ∧ n ≤ 63 ∧ 63 ≤ f + n ∧ -1 ≤ lo ∧ X = lift 0 (setK (f + 1) lo a) (R, false) ∧ pnum (lo + 1) 63 R = (some (n : Int), q.1) ∧ acc = a ||| 2 ^ n)
theorem setQ_start {f : Nat} {lo : Int} {a z : Nat} {R : List UInt8} {X : Nat × (List UInt8 × Bool)} {v : Int} (hlo : -1 ≤ lo) (hf : 63 ≤ f + (lo + 1).toNat) (hX : X = lift 0 (setK (f + 1) lo a) (R, false)) (hv : (lift 0 (pnum (lo + 1) 63) (R, false)).2.2 = false → v = (lift 0 (pnum (lo + 1) 63) (R, false)).1) (hz : ∀ n : Nat, v = n → z = a ||| 2 ^ n) :
    SetQ X (lift 0 (pnum (lo + 1) 63) (R, false)).2 v z := by
  rw [lift_false] at hv ⊢
  rcases hp : pnum (lo + 1) 63 R with ⟨_ | m, R'⟩
  · left
    refine ⟨rfl, ?_⟩
    rw [hX]; exact setK_no hp
  · right
    rw [hp] at hv
    obtain ⟨-, h1, h2⟩ := pnum_back _ _ _ _ _ (by omega) (by omega) hp
    obtain ⟨j, rfl⟩ := Int.eq_ofNat_of_zero_le (show 0 ≤ m by omega)
    have e : v = j := hv rfl
    exact ⟨rfl, f, j, a, lo, R, e, by omega, by omega, hlo, hX, hp, hz j e⟩
/-- what behind such a number: a comma and more, or the end -/
theorem setQ_more {X : Nat × (List UInt8 × Bool)} {q : List UInt8 × Bool} {last : Int} {acc : Nat} (h : SetQ X q last acc) (hc : hdB 44 q = true) (hl : last < 63) :
    ∃ (f : Nat) (R : List UInt8), q.1 = 44 :: R ∧ q.2 = false ∧ 0 ≤ last ∧ 63 ≤ f + (last + 1).toNat ∧ X = lift 0 (setK (f + 1) last acc) (R, false) := by
  obtain ⟨r, bad⟩ := q
  obtain ⟨rfl, R, rfl⟩ := hd_true hc
  rcases h with ⟨h, -⟩ | ⟨-, f, n, a, lo, R0, rfl, h1, h2, h3, h4, h5, rfl⟩
  · cases h
  · have hm := setK_more (f := f) (last := lo) (acc := a) h5 (show n ≠ 63 by omega) (show pis 44 (44 :: R) = (some true, R) by simp [pis])
    obtain ⟨f, rfl⟩ : ∃ g, f = g + 1 := ⟨f - 1, by omega⟩
    exact ⟨f, R, rfl, rfl, by omega, by omega, by rw [h4]; exact hm⟩
theorem setQ_end {X : Nat × (List UInt8 × Bool)} {q : List UInt8 × Bool} {last : Int} {acc : Nat} (h : SetQ X q last acc) (hc : hdB 44 q = false ∨ 63 ≤ last) :
    X.2 = (lift () (pmust 125) q).2 ∧ (X.2.2 = false → acc = X.1) := by
  obtain ⟨r, bad⟩ := q
  rcases h with ⟨h, h2⟩ | ⟨h, f, n, a, lo, R0, rfl, h1, h2, h3, h4, h5, rfl⟩
  · have h' : bad = true := h
    subst h'
    rw [h2]
    exact ⟨rfl, fun h => by cases h⟩
  · have h' : bad = false := h
    subst h'
    have hX : X = setZ (a ||| 2 ^ n) r := by
      by_cases hn : n = 63
      · subst hn; rw [h4]; exact setK_last h5
      · have hh : hdB 44 (r, false) = false := by
          rcases hc with hc | hc
          · exact hc
          · omega
        have hi := (is_st 44 r false).2 hh
        rw [lift_false] at hi
        have hi' : pis 44 r = (some false, r) := by
          rcases hp : pis 44 r with ⟨_ | x, y⟩
          · rw [hp] at hi; cases hi
          · rw [hp] at hi; cases hi; rfl
        rw [h4]; exact setK_done h5 hn hi'
    rw [hX]
    refine ⟨rfl, fun hz => ?_⟩
    unfold setZ at hz ⊢
    rw [hz]; rfl
theorem setQ_none (r : List UInt8) (bad : Bool) (h : hdB 123 (r, bad) = false) : lift 0 pset (r, bad) = (0, (r, bad)) := by
  have h2 := (is_st 123 r bad).2 h
  have := (set_start r bad).1 (by rw [h2])
  rw [this, h2]
theorem setQ_some (r : List UInt8) (bad : Bool) (h : hdB 123 (r, bad) = true) : ∃ R, r = 123 :: R ∧ bad = false ∧ lift 0 pset (r, bad) = lift 0 (setK 64 (-1) 0) (R, false) := by
  obtain ⟨r', e1, rfl, e2⟩ := (is_st 123 r bad).1 h
  obtain ⟨R0, h1, h2, -⟩ := (set_start r false).2 (by rw [e2])
  rw [e2] at h2
  cases h2
  exact ⟨_, e1, rfl, h1⟩
end Go.Proofs.YtgobdhedeodpiaaDoor
