/- Walks of labtext.Digits: the iterator over a number's digits, and the text made of them. -/
import Derived.Test.YtgobdhedeodpiaaDoorRange
namespace Go.Proofs.YtgobdhedeodpiaaDoor
open Go.RowKit Go.Shelf
attribute [local go_sem] Oper.semAt_some
/-- a number's digits' bytes, the last one first -/
def dch (n : Nat) : UInt8 := UInt8.ofNat (48 + n % 10)
theorem dch_nat (n : Nat) : ((dch n).toNat : Int) = 48 + (n : Int) % 10 := by simp [dch, UInt8.toNat_ofNat']; omega
def revD (n : Nat) : List UInt8 := if n < 10 then [dch n] else dch n :: revD (n / 10)
termination_by n
theorem revD_ne (n : Nat) : revD n ≠ [] := by rw [revD]; split <;> simp
theorem revD_len : ∀ (k n : Nat), n < 10 ^ (k + 1) → (revD n).length ≤ k + 1
  | 0, n, h => by rw [revD, if_pos (by simpa using h)]; simp
  | k + 1, n, h => by
    rw [revD]; split
    · simp
    · have := revD_len k (n / 10) (by rw [Nat.pow_succ] at h; omega)
      simp; omega
theorem revD_len19 (n : Nat) (h : (n : Int) ≤ 9223372036854775807) : (revD n).length ≤ 19 := revD_len 18 n (by omega)
def digL (n : Int) : List UInt8 := if n < 0 then [] else (revD n.toNat).reverse

/-- what the box holds, for a loop's measure -/
def boxN (b : Nat) (W : World) : Nat := (intOf ((W.cell? ⟨b, 0, none⟩).getD undef)).toNat
theorem boxN_eq {b : Nat} {W : World} {t : TypeId} {k : IntKind} {m : Int} (h : Boxed W b t (.int k m)) : boxN b W = m.toNat := by simp [boxN, h.cell, intOf]

set_option maxRecDepth 100000 in
set_option maxHeartbeats 1000000 in
theorem digits1_seq (n : Nat) (b x : Nat) (hx : (x : Int) ≤ 9223372036854775807) (W : World) (hb : Boxed W b 3 (.int .i64 x)) :
    SeqG Fence.wide n Tryd.prog 36 #[.pointer (some ⟨b, 0, none⟩)] (fun d : UInt8 => #[Value.int .u8 d.toNat]) (boxG b) (boxK b) (fun xs _ => xs = revD x) (fun _ _ => True) (revD x).length W := by
  intro l J Jx hJ hJx hY h0
  (refine callsIn_of_wp Tryd.func36 rfl trivial ?_ rfl; simp only [Tryd.ntmps36, List.size_toArray, List.length_cons, List.length_nil, Nat.reduceAdd, Nat.reduceSub, Array.replicate_succ, Array.replicate_zero, List.push_toArray, List.append_toArray, List.nil_append, List.cons_append])
  refine wpIn_scope_w ?_
  gi_wp2
  refine wpIn_label ?_
  gi_wp2
  gi_loopw [] (fun wr => ∃ (pre : List UInt8) (m : Nat), Hid (revD x = pre ++ revD m) ∧ (m : Int) ≤ 9223372036854775807 ∧ Boxed wr b 3 (.int .i64 m) ∧ J pre wr) (fun wr => boxN b wr)
  case atStart => exact ⟨[], x, rfl, hx, hb, h0⟩
  case round =>
    obtain ⟨pre, m, hd, hm, hbox, hj⟩ := hrel
    have hc := hbox.cell
    have hf := hbox.frozen
    have hmod : (0 : Int) ≤ (m : Int) % 10 ∧ (m : Int) % 10 < 10 := by omega
    obtain ⟨fn, tmps, assign, body, hy, hR⟩ := hY pre (dch m) wr hj (by
      rw [hd.out, List.length_append]; have := List.length_pos_iff.2 (revD_ne m); omega)
    rw [dch_nat] at hy
    gi_wp2
    refine ⟨fun h => (by cases h), hR.mono ?_⟩
    rintro e V (⟨rfl, hj3, hk3⟩ | ⟨rfl, hj3⟩)
    · have hbox3 : Boxed V b 3 (.int .i64 m) := hk3.trans hbox
      have hc3 := hbox3.cell
      have hf3 := hbox3.frozen
      have hj4 : J (pre ++ [dch m]) (V.setCell ⟨b, 0, none⟩ (.int .i64 ((m : Int) / 10))) := hJ _ _ _ hj3 (grownBy_setCell' _ _ _)
      have hbox4 : Boxed (V.setCell ⟨b, 0, none⟩ (.int .i64 ((m : Int) / 10))) b 3 (.int .i64 ((m : Int) / 10)) := hbox3.set _
      have hc4 := hbox4.cell
      by_cases hlast : m < 10
      · have he : ((m : Int) / 10 == 0) = true := by simp; omega
        have HD : Hid (revD x = pre ++ [dch m]) := by
          show revD x = _
          rw [hd.out, revD, if_pos hlast]
        clear hd
        gi_wp2
        simp only [Exit.noGoto_normal]
        go_end0
        exact ⟨⟨_, rfl⟩, .inl ⟨_, HD.out.symm, hj4⟩⟩
      · have he : ((m : Int) / 10 == 0) = false := by simp; omega
        have HD : Hid (revD x = (pre ++ [dch m]) ++ revD (m / 10)) := by
          show revD x = _
          rw [hd.out, revD, if_neg hlast, List.append_assoc]; rfl
        clear hd
        gi_wp2
        go_roundw
        case rel => exact ⟨_, m / 10, HD, by omega, by simpa using hbox4, hj4⟩
        case measure => rw [boxN_eq hbox4, boxN_eq hbox]; omega
    · gi_wp2
      simp only [Exit.noGoto_normal]
      go_end0
      exact ⟨⟨_, rfl⟩, .inr ⟨_, trivial, hj3⟩⟩

/-- digits(n): the number is boxed, the function value captures the box -/
theorem digits_any (n : Int) (w : World) :
    Calls Tryd.prog 23 #[.int .i64 n] w fun e w' => e = .returned (.func (.func 36) #[] #[.pointer (some ⟨w.heap.size, 0, none⟩)]) ∧ w.alloc (.cells #[.int .i64 n] 3) = w' := by
  have hmf : ∀ (fn : Fn) (first cap : Array Value) (w : World), (Instr.makeFunc fn first cap).run Tryd.prog w = .ok (.func fn first cap) w := fun _ _ _ _ => rfl
  go_enter Tryd.func23, Tryd.ntmps23
  go_wp2
  go_ret
  exact ⟨rfl, rfl⟩


theorem Digits_neg (n : Int) (w : World) (hn : n < 0) :
    Calls Tryd.prog 12 #[.int .i64 n] w fun e w' => e = .returned (.string ⟨(digL n).toArray⟩) ∧ Below w.heap.size w w' := by
  have hd : digL n = [] := by rw [digL, if_pos hn]
  rw [hd]
  go_enter Tryd.func12, Tryd.ntmps12
  go_wp2
  go_ret
  exact ⟨rfl, (Below.refl _ _).alloc (Nat.le_refl _) _⟩

set_option maxRecDepth 100000 in
set_option maxHeartbeats 1000000 in
theorem Digits_pos (n : Nat) (w : World) (hn : (n : Int) ≤ 9223372036854775807) :
    Calls Tryd.prog 12 #[.int .i64 n] w fun e w' => e = .returned (.string ⟨(digL n).toArray⟩) ∧ Below w.heap.size w w' := by
  have h0 : ¬ (n : Int) < 0 := by omega
  refine (callsIn_wide (n := 3)).1 ?_
  (refine callsIn_of_wp_marks Tryd.func12 rfl trivial ?_ rfl; simp only [Tryd.ntmps12, List.size_toArray, List.length_cons, List.length_nil, Nat.reduceAdd, Nat.reduceSub, Array.replicate_succ, Array.replicate_zero, List.push_toArray, List.append_toArray, List.nil_append, List.cons_append])
  gi_wp2_with (refine ⟨trivial, ?_⟩; gi_at_call 23; refine (callsIn_wide.2 (digits_any _ _)).mono ?_; rintro e w' ⟨rfl, rfl⟩)
  have b0 := Boxed.new w 9 (.string ⟨#[]⟩)
  have b1 := Boxed.new (w.alloc (.cells #[.string ⟨#[]⟩] 9)) 3 (.int .i64 n)
  rw [World.size_alloc] at b1
  have b0' := b0.alloc (.cells #[.int .i64 n] 3)
  have hB0 : Below w.heap.size w ((w.alloc (.cells #[.string ⟨#[]⟩] 9)).alloc (.cells #[.int .i64 n] 3)) := ((Below.refl _ w).alloc (Nat.le_refl _) _).alloc (by simp) _
  refine range_law rfl (by omega) (gf := 36) (lb := #[.pointer (some ⟨w.heap.size + 1, 0, none⟩)]) rfl trivial (enters_of Tryd.func36 (by kernel_rfl) rfl)
    (G := boxG (w.heap.size + 1)) (Kp := boxK (w.heap.size + 1)) (fun W hW _ => digits1_seq _ _ n hn W ((hW.block _ (by simp)).trans b1)) boxK_t (boxK_b (by simp)) (boxG_keeps (by simp)) (fun _ => rfl)
    (fun pre W => Boxed W w.heap.size 9 (.string ⟨pre.reverse.toArray⟩) ∧ Below w.heap.size w W ∧ w.heap.size + 2 ≤ W.heap.size) (fun _ _ _ => False)
    ((bears_boxed _ _ _ _).and ((bears_below (Nat.le_refl _) (by simp; omega)).and (bears_size _ _))) (fun _ => bears_const _ _) (bears_const _ _) (bears_const _ _)
    (fun s A B h hg => ⟨Boxed_boxG h.1 hg (by omega), Below_boxG h.2.1 hg (Nat.le_refl _) (by omega), Nat.le_trans h.2.2 (size_boxG hg)⟩) (fun _ _ _ _ h _ => h) ⟨b0', hB0, by simp⟩
    (fun x => { tmps := #[.int .i64 n, undef, .string ⟨#[]⟩, .pointer (some ⟨w.heap.size, 0, none⟩), .int .u8 x.toNat, .int .i64 n, .bool false, undef, .int .i64 n, .func (.func 36) #[] #[.pointer (some ⟨w.heap.size + 1, 0, none⟩)], .int .u8 x.toNat, undef, undef, undef, undef, undef, undef], defers := [] }) ?assign ?body ?done ?stop
  case assign =>
    intro l x W K hK
    gi_wp2
    exact hK
  case body =>
    rintro l pre x W ⟨hb, hB, hz⟩ hlen
    have hc := hb.cell
    have hf := hb.frozen
    have hcv := conv_byte1 (P := Tryd.prog) W 46 9 5 x Tryd.underlying46 Tryd.underlying5 Tryd.underlying9
    have hc1 := (hb.alloc (.cells #[.int .u8 x.toNat] 5)).cell
    have hf1 := (hb.alloc (.cells #[.int .u8 x.toNat] 5)).frozen
    have hl := revD_len19 n hn
    have hl2 : pre.length ≤ 19 := by omega
    gi_wp2
    have hb1 := hb.alloc (.cells #[.int .u8 x.toNat] 5)
    refine ⟨(Keeps.alloc _ _ _).trans (Keeps.setCell _ _ _ _ hb1), ?_, ?_, ?_, ?_⟩
    · show _ = _
      rw [Below.heap_setCell _ _ _ _ (by simp), Below.heap_alloc _ _ _ (by omega)]
    · have := hb1.set (.string ⟨(pre ++ [x]).reverse.toArray⟩)
      simpa using this
    · exact (hB.alloc hB.size _).setCell (p := ⟨w.heap.size, 0, none⟩) (Nat.le_refl _) _
    · rw [size_setCell, World.size_alloc]; omega
  case done =>
    rintro D xs W hD rfl ⟨hb, hB, hz⟩ hK
    have hc := hb.cell
    gi_wp2
    refine ⟨by simp, .inl ⟨_, _, rfl, run_takeDeferred hK, ?_⟩⟩
    refine ⟨_, results_tmp rfl _ _ _, ?_, hB.trans (belowK_b (w := w) (Nat.le_refl _) W D _ _ (by simp at hD; omega) hK rfl rfl)⟩
    rw [digL, if_neg (by omega)]
    rfl
  case stop =>
    rintro D c pre W _ _ h _
    exact h.elim
theorem digL_len (n : Int) (h : n ≤ 9223372036854775807) : (digL n).length ≤ 19 := by
  unfold digL; split
  · simp
  · rw [List.length_reverse]; exact revD_len19 _ (by omega)
end Go.Proofs.YtgobdhedeodpiaaDoor
