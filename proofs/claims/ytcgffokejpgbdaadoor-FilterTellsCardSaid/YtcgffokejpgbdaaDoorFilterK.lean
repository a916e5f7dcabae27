/- Walks of layer 13: a number's digits read. -/
import Derived.Test.YtcgffokejpgbdaaDoorKit
namespace Go.Proofs.YtcgffokejpgbdaaDoor
open Go.RowKit
def numFrom : Nat → List UInt8 → Int
  | n, [] => n
  | n, c :: r => if (c.toNat : Int) < 48 ∨ 57 < (c.toNat : Int) ∨ 200 < n then -1 else numFrom (n * 10 + (c.toNat - 48)) r
def numL (l : List UInt8) : Int := numFrom 0 l
theorem numFrom_le : ∀ (l : List UInt8) (n : Nat), n ≤ 2009 → -1 ≤ numFrom n l ∧ numFrom n l ≤ 2009
  | [], n, h => by simp [numFrom]; omega
  | c :: r, n, h => by
    rw [numFrom]; split
    · omega
    · rename_i hc; exact numFrom_le r _ (by omega)
theorem iter_below (w : World) (s : ByteArray) (p : Nat) : Below w.heap.size w (w.iter s p) := (Below.refl _ w).alloc (Nat.le_refl _) _

set_option maxHeartbeats 1000000 in
theorem number_any (l : List UInt8) (w : World) :
    Calls Tryd.prog 38 #[.string ⟨l.toArray⟩] w fun e w' => e = .returned (.int .i64 (numL l)) ∧ Below w.heap.size w w' := by
  go_enter Tryd.func38, Tryd.ntmps38
  go_wp2
  go_loopw [3] (fun t wr => ∃ pos n : Nat, pos ≤ l.length ∧ n ≤ 2009 ∧ t = .int .i64 n ∧ wr = w.iter ⟨l.toArray⟩ pos ∧ Hid (numL l = numFrom n (l.drop pos))) (fun _ wr => l.length - wr.iterPos w.heap.size)
  case atStart => exact ⟨0, 0, Nat.zero_le _, by omega, rfl, rfl, rfl⟩
  case round =>
    obtain ⟨pos, n, hp, hn, rfl, rfl, hnum⟩ := hrel
    by_cases hlt : pos < l.length
    · have hs : pos < (ByteArray.mk l.toArray).size := by rw [ba_size]; exact hlt
      by_cases ha : l[pos].toNat < 128
      · have hN := fun ty => run_next_ascii (P := Tryd.prog) w ⟨l.toArray⟩ pos ty hs (by rw [ba_get]; exact ha)
        rw [ba_get] at hN
        have HF : Hid (numL l = if (l[pos].toNat : Int) < 48 ∨ 57 < (l[pos].toNat : Int) ∨ 200 < n then -1 else numFrom (n * 10 + (l[pos].toNat - 48)) (l.drop (pos + 1))) := by
          show numL l = _
          rw [hnum.out, drop_cons l pos hlt]; rfl
        clear hnum
        generalize l[pos] = c at *
        by_cases h1 : (c.toNat : Int) < 48
        · have HX : Hid (numL l = -1) := by show _ = _; rw [HF.out, if_pos (.inl h1)]
          clear HF
          go_wp2
          go_ret
          exact ⟨ret_int HX.out.symm, iter_below _ _ _⟩
        · by_cases h2 : 57 < (c.toNat : Int)
          · have HX : Hid (numL l = -1) := by show _ = _; rw [HF.out, if_pos (.inr (.inl h2))]
            clear HF
            go_wp2
            go_ret
            exact ⟨ret_int HX.out.symm, iter_below _ _ _⟩
          · by_cases h3 : 200 < n
            · have HX : Hid (numL l = -1) := by show _ = _; rw [HF.out, if_pos (.inr (.inr h3))]
              clear HF
              go_wp2
              go_ret
              exact ⟨ret_int HX.out.symm, iter_below _ _ _⟩
            · have HX : Hid (numL l = numFrom (n * 10 + (c.toNat - 48)) (l.drop (pos + 1))) := by show _ = _; rw [HF.out, if_neg (by omega)]
              clear HF
              go_wp2
              go_roundw
              case rel => exact ⟨pos + 1, n * 10 + (c.toNat - 48), by omega, by omega, by go_num, rfl, HX⟩
              case measure => simp; omega
      · have hN := fun ty => run_next_any (P := Tryd.prog) w ⟨l.toArray⟩ pos ty hs
        have hd := decode_high ⟨l.toArray⟩ pos hs (by rw [ba_get]; omega)
        generalize Utf8.decode ⟨l.toArray⟩ pos = d at hN hd
        obtain ⟨d1, d2⟩ := d
        have hd1 : (57 : Int) < (d1 : Int) := by have := hd.1; simp at this; omega
        have hd0 : ¬ (d1 : Int) < 48 := by omega
        have HX : Hid (numL l = -1) := by
          show numL l = -1
          rw [hnum.out, drop_cons l pos hlt, numFrom, if_pos (by omega)]
        clear hnum hd
        simp only at hN
        go_wp2
        go_ret
        exact ⟨ret_int HX.out.symm, iter_below _ _ _⟩
    · have hN := fun ty => run_next_end (P := Tryd.prog) w ⟨l.toArray⟩ pos ty (by rw [ba_size]; exact hlt)
      have HX : Hid (numL l = n) := by show _ = _; rw [hnum.out, List.drop_of_length_le (by omega)]; rfl
      clear hnum
      go_wp2
      go_ret
      exact ⟨ret_int HX.out.symm, iter_below _ _ _⟩
end Go.Proofs.YtcgffokejpgbdaaDoor
