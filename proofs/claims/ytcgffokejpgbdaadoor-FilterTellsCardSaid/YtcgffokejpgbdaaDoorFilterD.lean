/- Walks of layer 13: the record of a form. -/
import Derived.Test.YtcgffokejpgbdaaDoorFilterC
namespace Go.Proofs.YtcgffokejpgbdaaDoor
open Go.RowKit Go.Shelf
attribute [local go_sem] Oper.semAt_some
theorem infoU8 : (Tryd.prog.info? 5).map (fun i => (i.zero, i.size, i.bytes)) = some (some (.int .u8 0), 1, 1) := by kernel_rfl

/-- r.signs(): the receiver is boxed; the function value captures the box -/
theorem signs_any (p : Option Addr) (w : World) :
    Calls Tryd.prog 50 #[.pointer p] w fun e w' => e = .returned (.func (.func 58) #[] #[.pointer (some ⟨w.heap.size, 0, none⟩)]) ∧ w.alloc (.cells #[.pointer p] 86) = w' := by
  have hmf : ∀ (fn : Fn) (first cap : Array Value) (w : World), (Instr.makeFunc fn first cap).run Tryd.prog w = .ok (.func fn first cap) w := fun _ _ _ _ => rfl
  go_enter Tryd.func50, Tryd.ntmps50
  go_wp2
  go_ret
  exact ⟨rfl, rfl⟩

def recOk (form : List UInt8) : Bool := !form.isEmpty && (spr form).2

set_option maxRecDepth 100000 in
set_option maxHeartbeats 2000000 in
theorem record_any (form : List UInt8) (hl : form.length ≤ 1000) (ea : Addr) (w : World) (hge : w.cell? ⟨0, 0, none⟩ = some (eV ea)) :
    Calls Tryd.prog 42 #[.string ⟨form.toArray⟩] w fun e w' => e = .returned (.tuple #[.string ⟨(spr form).1.toArray⟩, evOf (recOk form) .nilIface ea]) ∧ Below w.heap.size w w' := by
  have hgs : 0 < w.heap.size := World.block_lt_of_cell? w _ hge
  obtain ⟨i0, hi, hz0, hz1, hz2⟩ := info_parts infoU8
  refine (callsIn_wide (n := 3)).1 ?_
  (refine callsIn_of_wp_marks Tryd.func42 rfl trivial ?_ rfl; simp only [Tryd.ntmps42, List.size_toArray, List.length_cons, List.length_nil, Nat.reduceAdd, Nat.reduceSub, Array.replicate_succ, Array.replicate_zero, List.push_toArray, List.append_toArray, List.nil_append, List.cons_append])
  gi_wp2_with (refine ⟨trivial, ?_⟩; gi_at_call 50; refine (callsIn_wide.2 (signs_any _ _)).mono ?_; rintro e w' ⟨rfl, rfl⟩)
  have r0 : Rd (w.alloc (.cells #[.string ⟨form.toArray⟩, .nilIface] 90)) w.heap.size form .nilIface := Blk.new _ _ _
  have o0 := Boxed.new (w.alloc (.cells #[.string ⟨form.toArray⟩, .nilIface] 90)) 81 (.slice none 0 0)
  have q0 := Boxed.new ((w.alloc (.cells #[.string ⟨form.toArray⟩, .nilIface] 90)).alloc (.cells #[.slice none 0 0] 81)) 86 (.pointer (some ⟨w.heap.size, 0, none⟩))
  rw [World.size_alloc] at o0
  rw [World.size_alloc, World.size_alloc] at q0
  have r1 := (r0.alloc (.cells #[.slice none 0 0] 81)).alloc (.cells #[.pointer (some ⟨w.heap.size, 0, none⟩)] 86)
  have o1 := o0.alloc (.cells #[.pointer (some ⟨w.heap.size, 0, none⟩)] 86)
  have hB0 : Below w.heap.size w (((w.alloc (.cells #[.string ⟨form.toArray⟩, .nilIface] 90)).alloc (.cells #[.slice none 0 0] 81)).alloc (.cells #[.pointer (some ⟨w.heap.size, 0, none⟩)] 86)) :=
    (((Below.refl _ w).alloc (Nat.le_refl _) _).alloc (by simp) _).alloc (by simp; omega) _
  have hz0' : (((w.alloc (.cells #[.string ⟨form.toArray⟩, .nilIface] 90)).alloc (.cells #[.slice none 0 0] 81)).alloc (.cells #[.pointer (some ⟨w.heap.size, 0, none⟩)] 86)).heap.size = w.heap.size + 3 := by simp
  obtain ⟨W0, hW0⟩ : ∃ W0, ((w.alloc (.cells #[.string ⟨form.toArray⟩, .nilIface] 90)).alloc (.cells #[.slice none 0 0] 81)).alloc (.cells #[.pointer (some ⟨w.heap.size, 0, none⟩)] 86) = W0 := ⟨_, rfl⟩
  rw [hW0] at r1 o1 q0 hB0 hz0' ⊢
  clear hW0 r0 o0
  have hsl := spr_len _ form (Nat.le_refl _)
  have hgW0 : W0.cell? ⟨0, 0, none⟩ = some (eV ea) := (hB0.cell (p := ⟨0, 0, none⟩) hgs).trans hge
  refine range_law rfl (by omega) (gf := 58) (lb := #[.pointer (some ⟨w.heap.size + 2, 0, none⟩)]) rfl trivial (enters_of Tryd.func58 (by kernel_rfl) rfl)
    (G := boxG w.heap.size) (Kp := keepK (w.heap.size + 3) (w.heap.size + 1))
    (fun W hW _ => signs1_seq _ w.heap.size (w.heap.size + 2) (w.heap.size + 1) (w.heap.size + 3) form (by unfold maxLen; omega) ea W (r1.below hW (by omega)) (Blk.below q0 hW (by omega)) ((hW.cell (p := ⟨0, 0, none⟩) (by show 0 < _; omega)).trans hgW0)
      (by omega) (by omega) (by omega) (by omega) (by omega) (by omega) (by omega) (by omega)) keepK_t (by rw [hz0']; exact keepK_b) (boxG_keeps (by omega)) (fun _ => rfl)
    (fun pre W => (∃ v, Boxed W (w.heap.size + 1) 81 v ∧ W.ownsRow (w.heap.size + 3) 5 1 v pre.length (pre.map fun c => Value.int .u8 c.toNat)) ∧ Below w.heap.size w W ∧ w.heap.size + 3 ≤ W.heap.size) (fun _ _ _ => False)
    ((bears_ex fun v => (bears_boxed _ _ _ (fun _ => v)).and (bears_row _ _ _ _ (fun _ => v) _ _)).and ((bears_below (Nat.le_refl _) (by omega)).and (bears_size _ _))) (fun _ => bears_const _ _)
    ((bears_const _ _).and (bears_ex fun rest => bears_blk _ _ _ (fun _ => #[.string ⟨rest.toArray⟩, evOf (spr form).2 .nilIface ea]))) (bears_const _ _)
    (fun s A B ⟨⟨v, hv, hr⟩, hb, hs⟩ hg => ⟨⟨v, Boxed_boxG hv hg (by omega), row_boxG hr hg (by omega)⟩, Below_boxG hb hg (Nat.le_refl _) (Nat.le_refl _), Nat.le_trans hs (size_boxG hg)⟩) (fun _ _ _ _ h _ => h)
    ⟨⟨_, o1, World.ownsRow_nil _ _ _ _⟩, hB0, by omega⟩
    (fun x => { tmps := #[.string ⟨form.toArray⟩, undef, .string ⟨#[]⟩, .nilIface, .pointer (some ⟨w.heap.size, 0, none⟩), .pointer (some ⟨w.heap.size + 1, 0, none⟩), .int .u8 x.toNat, .string ⟨form.toArray⟩, .agg #[.string ⟨form.toArray⟩], .agg #[.string ⟨form.toArray⟩, .nilIface],
      .pointer (some ⟨w.heap.size, 0, none⟩), .pointer (some ⟨w.heap.size, 0, none⟩), .func (.func 58) #[] #[.pointer (some ⟨w.heap.size + 2, 0, none⟩)], .int .u8 x.toNat, undef, undef, undef, undef, undef, undef, undef, undef, undef, undef, undef, undef, undef], defers := [] }) ?assign ?body ?done ?stop
  case assign =>
    intro l x W K hK
    gi_wp2
    exact hK
  case body =>
    rintro l pre x W ⟨⟨v, hv, hrow⟩, hB, hz⟩ hlen
    have hc := hv.cell
    gi_wp2_with (gi_at_builtin; refine wpListIn_append_own _ rfl _ _ 81 rfl (w.heap.size + 3) 5 i0 (.int .u8 0) 1 1 Tryd.underlying81 hi hz0 hz1 hz2 rfl (by decide) _ _ _ rfl (hrow.alloc _) ⟨W.heap.size, 0, none⟩ 1 1 [.int .u8 x.toNat] rfl rfl (cell_one_new _ _ _) (by simp [Value.oneCell']) (by unfold maxLen; omega) (by omega) (by simp; omega) ?_; intro v' w1 hown' hgrow _; obtain ⟨g', cap', rfl⟩ := ownsRow_succ hown'; obtain ⟨hv1, hv2, hr2, hk2, hs2, hi2, hb2⟩ := appended hv (by decide) hrow hown' hgrow; have hc1 := hv1.cell; have hf1 := hv1.frozen)
    exact ⟨hk2 _, fun i hi ho => hi2 i (by omega) (by omega) ho, ⟨_, hv2, by simpa using hr2⟩, hB.trans (hb2 _ (by omega) (by omega) (by omega)), by omega⟩
  case done =>
    rintro D xs W hD ⟨rfl, rest, hrd⟩ ⟨⟨v, hv, hrow⟩, hB, hz⟩ hK
    have hc := hv.cell
    have c1 := hrd.cell 1
    have hgW : W.cell? ⟨0, 0, none⟩ = some (eV ea) := (hB.cell (p := ⟨0, 0, none⟩) hgs).trans hge
    have hend : Below w.heap.size w (W.putObj D (.deferred none)) := hB.trans (belowK_b (w := w) (Nat.le_refl _) W D _ _ (by omega) hK rfl rfl)
    have hcv : ∀ nq, (convert 81 9 v).run Tryd.prog (W.drewN nq) = .ok (.string ⟨(spr form).1.toArray⟩) (W.drewN nq) := by
      intro nq
      obtain ⟨hlen, hv2⟩ := row_cells hrow
      rcases hv2 with ⟨rfl, h0⟩ | ⟨g, cap, rfl, _, hcells⟩
      · have : (spr form).1 = [] := List.length_eq_zero_iff.1 h0
        rw [this]
        rw [run_convert_bytes_string _ _ _ _ _ _ _ Tryd.underlying81 Tryd.underlying5 Tryd.underlying9]
        rfl
      · refine conv_bytes (W.drewN nq) _ _ 5 ⟨g, 0, none⟩ cap (spr form).1 Tryd.underlying81 Tryd.underlying5 Tryd.underlying9 fun j hj => ?_
        have := hcells j (by simpa using hj)
        rw [show (⟨g, 0, none⟩ : Addr).add j = ⟨g, j, none⟩ by simp only [Addr.add]; split <;> simp_all]
        simpa using this
    by_cases hf : form = []
    · subst hf
      gi_wp2
      refine wpIn_wide.2 ?_
      go_quiet (fail)
      gi_wp2
      refine ⟨by simp, .inl ⟨_, _, rfl, run_takeDeferred (w := W.drewN nq) hK, ?_⟩⟩
      exact ⟨_, results_tmp2 rfl _ _ _, by rw [show (spr []).1 = [] by rw [spr]]; rfl, hend.os, hend.tape, hend.output, hend.size, hend.block⟩
    · have he : form.isEmpty = false := by simpa using hf
      gi_wp2
      refine wpIn_wide.2 ?_
      go_quiet (fail)
      gi_wp2
      refine ⟨by simp, .inl ⟨_, _, rfl, run_takeDeferred (w := W.drewN nq) hK, ?_⟩⟩
      exact ⟨_, results_tmp2 rfl _ _ _, by rw [show recOk form = (spr form).2 by simp [recOk, he]]; rfl, hend.os, hend.tape, hend.output, hend.size, hend.block⟩
  case stop =>
    rintro D c pre W _ _ h _
    exact h.elim
end Go.Proofs.YtcgffokejpgbdaaDoor
