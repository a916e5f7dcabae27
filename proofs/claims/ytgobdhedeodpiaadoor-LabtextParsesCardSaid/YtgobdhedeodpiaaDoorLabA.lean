/- Walks of layer 5: a label's text. -/
import Derived.Test.YtgobdhedeodpiaaDoorCatsL
import Derived.Test.YtgobdhedeodpiaaDoorShelf
import Derived.Deep.RegionHeld3
import Derived.Deep.RegionWith
import Derived.Deep.DeepCutAuto
namespace Go.Proofs.YtgobdhedeodpiaaDoor
open Go.RowKit Go.Shelf
/-- a label -/
abbrev labV (lv : Int) (S : Nat) (ig : Int) : Value := .agg #[.int .i64 lv, .int .u64 S, .int .i64 ig]
def labB (lv ig : Int) : Bool := decide (0 ≤ lv) && decide (lv ≤ 15) && decide (0 ≤ ig) && decide (ig ≤ 7)
theorem labB_iff (lv ig : Int) : labB lv ig = true ↔ 0 ≤ lv ∧ lv ≤ 15 ∧ 0 ≤ ig ∧ ig ≤ 7 := by simp [labB, and_assoc]
theorem labRight_any (lv ig : Int) (S : Nat) (w : World) :
    Calls Tryd.prog 17 #[labV lv S ig] w fun e w' => e = .returned (.bool (labB lv ig)) ∧ Below w.heap.size w w' := by
  have H : Hid (∀ b : Bool, (b = true ↔ (0 ≤ lv ∧ lv ≤ 15 ∧ 0 ≤ ig ∧ ig ≤ 7)) → b = labB lv ig) := by
    show ∀ b : Bool, _ → _
    intro b h; rw [Bool.eq_iff_iff, labB_iff]; exact h
  go_enter Tryd.func17, Tryd.ntmps17
  by_cases h1 : 0 ≤ lv
  · by_cases h2 : lv ≤ 15
    · by_cases h3 : 0 ≤ ig
      · go_wp2
        go_ret
        exact ⟨ret_bool (H.out _ (by simp; omega)), (Below.refl _ w).alloc (Nat.le_refl _) _⟩
      · go_wp2
        go_ret
        exact ⟨ret_bool (H.out _ (by simp; omega)), (Below.refl _ w).alloc (Nat.le_refl _) _⟩
    · go_wp2
      go_ret
      exact ⟨ret_bool (H.out _ (by simp; omega)), (Below.refl _ w).alloc (Nat.le_refl _) _⟩
  · go_wp2
    go_ret
    exact ⟨ret_bool (H.out _ (by simp; omega)), (Below.refl _ w).alloc (Nat.le_refl _) _⟩
theorem Digits_any (n : Int) (w : World) (h : n ≤ 9223372036854775807) :
    Calls Tryd.prog 12 #[.int .i64 n] w fun e w' => e = .returned (.string ⟨(digL n).toArray⟩) ∧ Below w.heap.size w w' := by
  rcases Int.lt_or_le n 0 with h0 | h0
  · exact Digits_neg n w h0
  · obtain ⟨k, rfl⟩ := Int.eq_ofNat_of_zero_le h0
    exact Digits_pos k w h
def strsV (l : List (List UInt8)) : List Value := l.map fun s => Value.string ⟨s.toArray⟩
theorem join_joinC : ∀ l : List Nat, Lib.join (l.map fun (n : Nat) => digL n) [44] = joinC l
  | [] => rfl
  | [n] => Lib.join_one _ _
  | n :: m :: l => by
    have := join_joinC (m :: l)
    rw [List.map_cons, Lib.join_cons] at this
    rw [List.map_cons, List.map_cons, Lib.join_cons, joinC, ← this]
    simp [Lib.joinTail]
theorem joinC_len : ∀ l : List Nat, (∀ n ∈ l, n < 64) → (joinC l).length ≤ 20 * l.length
  | [], _ => by simp [joinC]
  | [n], h => by have := digL_len (n : Int) (by have := h n (by simp); omega); simp [joinC]; omega
  | n :: m :: l, h => by
    have h1 := digL_len (n : Int) (by have := h n (by simp); omega)
    have h2 := joinC_len (m :: l) (fun i hi => h i (by simp [hi]))
    simp [joinC] at h2 ⊢; omega
theorem infoS : (Tryd.prog.info? 9).map (fun i => (i.zero, i.size, i.bytes)) = some (some (.string ⟨#[]⟩), 1, 16) := by kernel_rfl
theorem joined_any (bk c : Nat) (xs : List Nat) (hx : xs ≠ []) (h64 : ∀ n ∈ xs, n < 64) (hl : xs.length ≤ 64) (w : World) (hcells : ∀ (j : Nat) (hj : j < xs.length), w.cell? ⟨bk, j, none⟩ = some (.string ⟨(digL xs[j]).toArray⟩)) (hcap : xs.length ≤ c) :
    Calls Tryd.prog 20 #[.string ⟨#[44]⟩, .slice (some ⟨bk, 0, none⟩) xs.length c] w fun e w' => e = .returned (.string ⟨(joinC xs).toArray⟩) ∧ Below w.heap.size w w' := by
  have hpos : 0 < xs.length := List.length_pos_iff.2 hx
  have hbk : bk < w.heap.size := World.block_lt_of_cell? w _ (hcells 0 hpos)
  have hjl := joinC_len xs h64
  have hm : (xs.map fun (n : Nat) => (⟨(digL n).toArray⟩ : ByteArray)).map (·.data.toList) = xs.map fun (n : Nat) => digL n := by simp
  have HJ := Tryd.strings_Join bk 0 c (xs.map fun (n : Nat) => (⟨(digL n).toArray⟩ : ByteArray)) ⟨#[44]⟩ w (by
      intro j x hj
      simp only [List.getElem?_map, Option.map_eq_some_iff] at hj
      obtain ⟨n, hn, rfl⟩ := hj
      obtain ⟨hj, rfl⟩ := List.getElem?_eq_some_iff.1 hn
      rw [Nat.zero_add]; exact hcells j hj) hbk (by simp; omega) (by simpa using hcap) (by rw [hm]; show (Lib.join _ [44]).length ≤ _; rw [join_joinC]; omega)
  rw [hm, List.length_map] at HJ
  have e44 : (ByteArray.mk #[44]).data.toList = [44] := rfl
  rw [e44, join_joinC] at HJ
  clear hm e44 hcells
  go_enter Tryd.func20, Tryd.ntmps20
  go_wp2_with (go_at_call 34; refine HJ.mono ?_; rintro e w' ⟨rfl, hb⟩)
  go_ret
  exact ⟨rfl, hb⟩
end Go.Proofs.YtgobdhedeodpiaaDoor
