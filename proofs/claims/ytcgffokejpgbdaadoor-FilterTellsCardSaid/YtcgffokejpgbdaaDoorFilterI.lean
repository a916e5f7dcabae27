/- Walks of layer 13: the kinds' words, made once. -/
import Derived.Test.YtcgffokejpgbdaaDoorOnce
import Derived.Maps.Own
import Derived.Maps.OwnOps
import Derived.Maps.OwnSet
import Derived.Maps.RangeWalk
import Derived.RangeFuncBox
namespace Go.Proofs.YtcgffokejpgbdaaDoor
open Go.RowKit Go.Maps
theorem keyStr : Keyed Tryd.prog 9 := string_keyed Tryd.underlying9
def wLen : List UInt8 := [108, 101, 110]
def wClass : List UInt8 := [99, 108, 97, 115, 115]
def wForm : List UInt8 := [102, 111, 114, 109]
def kindsD : DataW Unit := (((DataW.map []).put (.string wLen) (.lit (.int .i64 1))).put (.string wClass) (.lit (.int .i64 2))).put (.string wForm) (.lit (.int .i64 3))
abbrev ownsKinds (w : World) (mb : Nat) : Prop := w.ownsMap Tryd.prog 9 (plainElem Tryd.prog 3) mb 3 kindsD

set_option maxHeartbeats 1000000 in
theorem kinds1_any (b pb : Nat) (v0 v1 v2 : Value) (w : World) (hp : w.cell? ⟨pb, 0, none⟩ = some (.pointer (some ⟨b, 0, none⟩))) (hb : Blk w b #[v0, v1, v2, .map none] 69) :
    Calls Tryd.prog 46 #[.pointer (some ⟨pb, 0, none⟩)] w fun e w' => e = .returned (.tuple #[]) ∧ ∃ mb, Blk w' b #[v0, v1, v2, .map (some mb)] 69 ∧ ownsKinds w' mb ∧ w.grownBy w' (some b) := by
  have hmm := @run_makeMap Tryd.prog
  have h0 := World.ownsMap_made (H := Unit) w Tryd.prog 9 (plainElem Tryd.prog 3)
  obtain ⟨W1, r1, o1, t1⟩ := h0.store keyStr Tryd.underlying54 (by decide) (key := .string ⟨wLen.toArray⟩) (kl := .string wLen) (val := .int .i64 1) (WideMaps.keyOf_string_mk Tryd.underlying9 (by decide)) (plainElem_int Tryd.underlying3 (by decide))
  obtain ⟨W2, r2, o2, t2⟩ := o1.store keyStr Tryd.underlying54 (by decide) (key := .string ⟨wClass.toArray⟩) (kl := .string wClass) (val := .int .i64 2) (WideMaps.keyOf_string_mk Tryd.underlying9 (by decide)) (plainElem_int Tryd.underlying3 (by decide))
  obtain ⟨W3, r3, o3, t3⟩ := o2.store keyStr Tryd.underlying54 (by decide) (key := .string ⟨wForm.toArray⟩) (kl := .string wForm) (val := .int .i64 3) (WideMaps.keyOf_string_mk Tryd.underlying9 (by decide)) (plainElem_int Tryd.underlying3 (by decide))
  have g1 : w.grownBy W1 none := by
    have := t1.grown
    exact ⟨this.os, this.tape, this.output, by have := this.size; rw [World.size_alloc] at this; omega, fun k hk _ => (this.block k (by rw [World.size_alloc]; omega) (by simp; omega)).trans (Below.heap_alloc w _ k hk)⟩
  have lt1 := o1.lt
  have lt2 := o2.lt
  have lt3 := o3.lt
  have hbm : b ≠ w.heap.size := fun e => by have := hb.lt; omega
  have b1 : Blk W1 b #[v0, v1, v2, .map none] 69 := hb.kept g1 (by simp)
  have b2 : Blk W2 b #[v0, v1, v2, .map none] 69 := b1.kept t2.grown (by simpa using hbm)
  have b3 : Blk W3 b #[v0, v1, v2, .map none] 69 := b2.kept t3.grown (by simpa using hbm)
  have c3 := b3.cell 3
  have f3 := b3.frozen 3
  have b4 := b3.set 3 (.map (some w.heap.size))
  have hfin : ∃ mb, Blk (W3.setCell ⟨b, 3, none⟩ (.map (some w.heap.size))) b #[v0, v1, v2, .map (some mb)] 69 ∧ ownsKinds (W3.setCell ⟨b, 3, none⟩ (.map (some w.heap.size))) mb ∧ w.grownBy (W3.setCell ⟨b, 3, none⟩ (.map (some w.heap.size))) (some b) := by
    refine ⟨w.heap.size, by simpa using b4, o3.setCell (Ne.symm hbm) _, ?_⟩
    have g2 : w.grownBy W3 none := ⟨t3.grown.os.trans (t2.grown.os.trans g1.os), t3.grown.tape.trans (t2.grown.tape.trans g1.tape), t3.grown.output.trans (t2.grown.output.trans g1.output), Nat.le_trans g1.size (Nat.le_trans t2.grown.size t3.grown.size),
      fun k hk _ => (t3.grown.block k (Nat.lt_of_lt_of_le hk (Nat.le_trans g1.size t2.grown.size)) (by simp; omega)).trans ((t2.grown.block k (Nat.lt_of_lt_of_le hk g1.size) (by simp; omega)).trans (g1.block k hk (by simp)))⟩
    exact grownBy_t (g2.but (some b)) (grownBy_setCellB _ _ _ _)
  have HF : Hid _ := hfin
  clear hfin b4 b1 b2 b3 o1 o2 o3 t1 t2 t3 g1 h0 lt1 lt2 lt3
  simp only [wLen, wClass, wForm] at r1 r2 r3
  go_enter Tryd.func46, Tryd.ntmps46
  go_wp2
  go_end0
  exact ⟨rfl, HF.out⟩

def KindsEnd (b : Nat) (v2 : Value) (w w' : World) : Prop := ∃ mb, Blk w' b #[.int .u32 1, .int .i32 0, v2, .map (some mb)] 69 ∧ ownsKinds w' mb ∧ w.grownBy w' (some b)

set_option maxRecDepth 100000 in
set_option maxHeartbeats 1600000 in
theorem slow_any (b pb : Nat) (hpb : pb ≠ b) (v2 : Value) (w : World) (hp : w.cell? ⟨pb, 0, none⟩ = some (.pointer (some ⟨b, 0, none⟩))) (hb : Blk w b #[.int .u32 0, .int .i32 0, v2, .map none] 69) :
    Calls Tryd.prog 55 #[.pointer (some ⟨b, 0, none⟩), .func (.func 46) #[] #[.pointer (some ⟨pb, 0, none⟩)]] w fun e w' => e = .returned (.tuple #[]) ∧ KindsEnd b v2 w w' := by
  have hnot : ∀ (x : Bool) (w : World), (Op.unary .not (.bool x)).run Tryd.prog w = .ok (.bool (!x)) w := fun _ _ => rfl
  have c1 := hb.cell 1
  have f1 := hb.frozen 1
  simp at c1
  have b1 := hb.set 1 (.int .i32 1)
  have g1 := grownBy_setCellB w b 1 (.int .i32 1)
  have hp1 : (w.setCell ⟨b, 1, none⟩ (.int .i32 1)).cell? ⟨pb, 0, none⟩ = some (.pointer (some ⟨b, 0, none⟩)) := g1.cell hp (by simpa using hpb)
  have c0 := b1.cell 0
  simp at c0
  have hl := run_call_load (P := Tryd.prog) Tryd.func60 (by kernel_rfl) (by kernel_rfl) (by kernel_rfl) .u32 (by kernel_rfl) (w := w.setCell ⟨b, 1, none⟩ (.int .i32 1)) (a := ⟨b, 0, none⟩) (x := 0) c0
  have HK := kinds1_any b pb (.int .u32 0) (.int .i32 1) v2 _ hp1 (by simpa using b1)
  go_enter_defers Tryd.func55, Tryd.ntmps55
  go_wp2_with (go_at_call 61; refine (once_lock ⟨b, 1, none⟩ _ (by go_simp) (by go_simp)).mono ?_; rintro e w' ⟨rfl, rfl⟩)
  go_wp2_with (first | (go_at_call 46; refine HK.mono ?_; rintro e W ⟨rfl, mb, hb2, ho2, hg2⟩) | (go_at_call 54; go_in))
  have d0 := hb2.cell 0
  have z0 := hb2.frozen 0
  simp at d0
  have hb2d : Blk W.drew b #[.int .u32 0, .int .i32 1, v2, .map (some mb)] 69 := hb2
  have b3 := hb2d.set 0 (.int .u32 1)
  have b4 := b3.set 1 (.int .i32 0)
  have d1 := b3.cell 1
  have z1 := b3.frozen 1
  simp at d1
  have hne : mb ≠ b := fun e => by
    subst e
    obtain ⟨es, clock, h, _⟩ := ho2
    rw [show W.heap[mb]? = _ from hb2] at h; cases h
  have hend : KindsEnd b v2 w ((W.drew.setCell ⟨b, 0, none⟩ (.int .u32 1)).setCell ⟨b, 1, none⟩ (.int .i32 0)) :=
    ⟨mb, by simpa using b4, (World.ownsMap.setCell (World.ownsMap.setCell ho2.drew (a := ⟨b, 0, none⟩) hne _) (a := ⟨b, 1, none⟩) hne _),
      grownBy_t (grownBy_t (grownBy_t g1 hg2) (grownBy_t (show W.grownBy W.drew (some b) from ⟨rfl, rfl, rfl, Nat.le_refl _, fun _ _ _ => rfl⟩) (grownBy_setCellB W.drew b 0 _))) (grownBy_setCellB _ b 1 _)⟩
  refine leaves_cons (f := 63) (args := #[.pointer (some ⟨b, 0, none⟩), .bool true]) (by simp) (by simp [go_sem]) ?_
  refine (once_store ⟨b, 0, none⟩ (.int .u32 0) .returning _ d0 z0).mono ?_
  rintro e u' w'' ⟨rfl, rfl, rfl⟩
  refine leaves_cons (f := 62) (args := #[.pointer (some ⟨b, 1, none⟩)]) (by simp [settle]) (by simp [go_sem]) ?_
  refine (once_unlock ⟨b, 1, none⟩ _ _ d1 z1).mono ?_
  rintro e u' w'' ⟨rfl, rfl, rfl⟩
  simp only [Leaves, settle, results, Tryd.results55]
  simpa using hend

set_option maxRecDepth 100000 in
set_option maxHeartbeats 1600000 in
theorem do_any (b pb : Nat) (hpb : pb ≠ b) (v2 : Value) (w : World) (hp : w.cell? ⟨pb, 0, none⟩ = some (.pointer (some ⟨b, 0, none⟩))) (hb : Blk w b #[.int .u32 0, .int .i32 0, v2, .map none] 69) :
    Calls Tryd.prog 45 #[.pointer (some ⟨b, 0, none⟩), .func (.func 46) #[] #[.pointer (some ⟨pb, 0, none⟩)]] w fun e w' => e = .returned (.tuple #[]) ∧ KindsEnd b v2 w w' := by
  have hnot : ∀ (x : Bool) (w : World), (Op.unary .not (.bool x)).run Tryd.prog w = .ok (.bool (!x)) w := fun _ _ => rfl
  have c0 := hb.cell 0
  simp at c0
  have hl := run_call_load (P := Tryd.prog) Tryd.func60 (by kernel_rfl) (by kernel_rfl) (by kernel_rfl) .u32 (by kernel_rfl) (w := w) (a := ⟨b, 0, none⟩) (x := 0) c0
  have HS := slow_any b pb hpb v2 w hp hb
  go_enter Tryd.func45, Tryd.ntmps45
  go_wp2_with (first | (go_at_call 55; refine HS.mono ?_; rintro e w' ⟨rfl, hk⟩) | (go_at_call 54; go_in))
  go_end0
  exact ⟨rfl, hk⟩

set_option maxHeartbeats 1600000 in
/-- The kinds' words, of words just made. -/
theorem kinds_any (b : Nat) (v2 : Value) (w : World) (hb : Blk w b #[.int .u32 0, .int .i32 0, v2, .map none] 69) :
    Calls Tryd.prog 33 #[.pointer (some ⟨b, 0, none⟩)] w fun e w' => ∃ mb, e = .returned (.map (some mb)) ∧ ownsKinds w' mb ∧ w.grownBy w' (some b) := by
  have hmf : ∀ (fn : Fn) (first cap : Array Value) (w : World), (Instr.makeFunc fn first cap).run Tryd.prog w = .ok (.func fn first cap) w := fun _ _ _ _ => rfl
  have hlt := hb.lt
  have hb1 := hb.alloc (.cells #[.pointer (some ⟨b, 0, none⟩)] 55)
  have q1 := Boxed.new w 55 (.pointer (some ⟨b, 0, none⟩))
  have HD := do_any b w.heap.size (by omega) v2 _ q1.cell hb1
  have g0 := World.grownBy_alloc w (.cells #[.pointer (some ⟨b, 0, none⟩)] 55) (some b)
  go_enter Tryd.func33, Tryd.ntmps33
  go_wp2_with (go_at_call 45; refine HD.mono ?_; rintro e W ⟨rfl, mb, hb2, ho2, hg2⟩; have hq2 := hg2.cell q1.cell (by simp; omega); have c3 := hb2.cell 3; simp at c3)
  go_ret
  exact ⟨mb, rfl, ho2, grownBy_t g0 hg2⟩
end Go.Proofs.YtcgffokejpgbdaaDoor
