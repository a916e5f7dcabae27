/- Walks of layer 1: a set with one category more. -/
import Derived.Test.YtgobdhedeodpiaaDoorCatsL
import Derived.Deep.RegionHeld3
import Derived.StillTailTactics
import Derived.Stop.IfaceNil
namespace Go.Proofs.YtgobdhedeodpiaaDoor
open Go.RowKit Go.Shelf
attribute [local go_sem] Oper.semAt_some
theorem catIs_any (b i : Nat) (hi : i < 64) (w : World) :
    Calls Tryd.prog 59 #[.pointer (some ⟨b, 0, none⟩), .int .i64 i] w fun e w' => e = .returned (.bool true) ∧ w = w' := by
  go_enter Tryd.func59, Tryd.ntmps59
  go_wp2
  go_ret
  exact ⟨rfl, rfl⟩
theorem shl_one (i : Nat) (hi : i < 64) : IntKind.u64.wrap ((1 : Int) * 2 ^ i) = ((2 ^ i : Nat) : Int) := by
  have : (2 : Nat) ^ i < 18446744073709551616 := Nat.lt_of_lt_of_le (Nat.pow_lt_pow_right (by omega) hi) (by decide)
  rw [IntKind.wrap_u64, Int.one_mul]
  have e : ((2 : Int) ^ i) = ((2 ^ i : Nat) : Int) := (Int.natCast_pow 2 i).symm
  rw [e]
  exact Int.emod_eq_of_lt (Int.natCast_nonneg _) (Int.ofNat_lt.2 this)
theorem or_pow (S i : Nat) (hi : i < 64) (hS : S < 18446744073709551616) : bits BinOp.or IntKind.u64 (S : Int) (IntKind.u64.wrap (2 ^ i)) = ((S ||| 2 ^ i : Nat) : Int) := by
  have h := shl_one i hi
  rw [Int.one_mul] at h
  rw [h]
  have this : (2 : Nat) ^ i < 18446744073709551616 := Nat.lt_of_lt_of_le (Nat.pow_lt_pow_right (by omega) hi) (by decide)
  exact (bits_nat .u64 64 (by decide) (fun n h0 h1 => by rw [IntKind.wrap_u64]; exact Int.emod_eq_of_lt h0 h1) S (2 ^ i) hS this).2
set_option maxRecDepth 100000 in
set_option maxHeartbeats 1000000 in
theorem catWith_any (b g c S i : Nat) (hi : i < 64) (hS : S < 18446744073709551616) (w : World) (hb : Blk w b #[.int .u64 S, .nilIface] 70) (hg : w.cell? ⟨g, 0, none⟩ = some (.int .i64 i)) (hne : g ≠ b) :
    Calls Tryd.prog 49 #[.pointer (some ⟨b, 0, none⟩), .slice (some ⟨g, 0, none⟩) 1 c] w fun e w' => e = .returned (.tuple #[]) ∧ Blk w' b #[.int .u64 (S ||| 2 ^ i : Nat), .nilIface] 70 ∧ w.grownBy w' (some b) := by
  have c0 := hb.cell 0
  have f0 := hb.frozen 0
  simp at c0
  have H := Lib.hid hb
  clear hb
  go_enter Tryd.func49, Tryd.ntmps49
  have hI := fun W => catIs_any b i hi W
  have hi0 : (0 : Int) ≤ (i : Int) := by omega
  have hi1 : (i : Int) < 64 := by omega
  go_wp2_with fail
  refine wp_loop_rounds 2 ?_
  rw [rounds_succ]
  go_wp2_with (go_at_call 59; refine (hI _).mono ?_; rintro e w' ⟨rfl, rfl⟩)
  go_still_tail 11, (by kernel_rfl)
  go_wp2_with fail
  rw [rounds_succ]
  go_wp2_with fail
  go_end0
  rw [or_pow S i hi hS]
  refine ⟨rfl, ?_, ?_⟩
  · have := (Blk.set 0 (.int .u64 (S ||| 2 ^ i : Nat)) H.out).drew
    simpa using this
  · exact grown_drew (grownBy_setCellB w b 0 _)
theorem catEnd_any (b S : Nat) (w : World) (hb : Blk w b #[.int .u64 S, .nilIface] 70) :
    Calls Tryd.prog 50 #[.pointer (some ⟨b, 0, none⟩)] w fun e w' => e = .returned (.tuple #[.int .u64 S, .int .i64 0]) ∧ w = w' := by
  have c0 := hb.cell 0
  have c1 := hb.cell 1
  simp at c0 c1
  clear hb
  go_enter Tryd.func50, Tryd.ntmps50
  go_wp2_with fail
  go_ret2
  exact ⟨rfl, rfl⟩
theorem or_lt (S i : Nat) (hi : i < 64) (hS : S < 18446744073709551616) : S ||| 2 ^ i < 18446744073709551616 :=
  Nat.or_lt_two_pow (n := 64) hS (Nat.pow_lt_pow_right (by omega) hi)
set_option maxRecDepth 100000 in
theorem With_any (S i : Nat) (hi : i < 64) (hS : S < 18446744073709551616) (w : World) :
    Calls Tryd.prog 39 #[.int .u64 S, .int .i64 i] w fun e w' => e = .returned (.tuple #[.int .u64 (S ||| 2 ^ i : Nat), .int .i64 0]) ∧ Below w.heap.size w w' := by
  have b0 := Blk.new w #[.int .u64 S, .nilIface] 70
  have b1 := b0.alloc (.cells #[.int .i64 i] 3)
  have hB1 := ((Below.refl w.heap.size w).alloc (Nat.le_refl _) (.cells #[.int .u64 S, .nilIface] 70)).alloc (by simp) (.cells #[.int .i64 i] 3)
  have HW := Lib.hid (catWith_any w.heap.size (w.heap.size + 1) 1 S i hi hS _ b1 (by simp) (by omega))
  go_enter Tryd.func39, Tryd.ntmps39
  go_wp2_with fail
  refine HW.out.mono ?_
  rintro e w2 ⟨rfl, hb2, hg2⟩
  have HE := Lib.hid (catEnd_any w.heap.size (S ||| 2 ^ i) w2 hb2)
  clear HW hb2
  go_wp2_with fail
  refine HE.out.mono ?_
  rintro e w3 ⟨rfl, rfl⟩
  go_wp2_with fail
  go_ret2
  exact ⟨rfl, hB1.grown hg2 (by simp; omega) (fun k hk => by cases hk; exact Nat.le_refl _)⟩
end Go.Proofs.YtgobdhedeodpiaaDoor
