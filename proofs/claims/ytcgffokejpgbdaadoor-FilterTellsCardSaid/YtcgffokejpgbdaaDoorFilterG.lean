/- Walks of layer 13: a filter's tests. -/
import Derived.Test.YtcgffokejpgbdaaDoorFilterA
import Derived.Test.YtcgffokejpgbdaaDoorFilterD
import Derived.Test.YtcgffokejpgbdaaDoorFilterF
namespace Go.Proofs.YtcgffokejpgbdaaDoor
open Go.RowKit
theorem testShort {w : World} {b : Nat} {m : Int} (h : w.cell? ⟨b, 1, none⟩ = some (.int .i64 m)) : TestAt w (.func (.func 39) #[] #[.pointer (some ⟨b, 0, none⟩)]) (fun k _ => decide ((k : Int) < m)) :=
  ⟨_, _, rfl, enters_of Tryd.func39 (by kernel_rfl) rfl, fun k c W hW => short_any k m c b W ((hW.cell (p := ⟨b, 1, none⟩) (World.block_lt_of_cell? w _ h)).trans h)⟩
theorem testOf {w : World} {b : Nat} {form : List UInt8} (hl : form.length ≤ 1000) (h : w.cell? ⟨b, 0, none⟩ = some (.string ⟨form.toArray⟩)) : TestAt w (.func (.func 49) #[] #[.pointer (some ⟨b, 0, none⟩)]) (fun _ c => ofL form c) :=
  ⟨_, _, rfl, enters_of Tryd.func49 (by kernel_rfl) rfl, fun k c W hW => of_any form hl k c b W ((hW.cell (p := ⟨b, 0, none⟩) (World.block_lt_of_cell? w _ h)).trans h)⟩
theorem testIn {w : World} {b : Nat} {signs : List UInt8} (h : w.cell? ⟨b, 0, none⟩ = some (.string ⟨signs.toArray⟩)) : TestAt w (.func (.func 51) #[] #[.pointer (some ⟨b, 0, none⟩)]) (fun k c => inL signs k c) :=
  ⟨_, _, rfl, enters_of Tryd.func51 (by kernel_rfl) rfl, fun k c W hW => in_any signs k c b W ((hW.cell (p := ⟨b, 0, none⟩) (World.block_lt_of_cell? w _ h)).trans h)⟩
theorem isOf_any (l : List UInt8) (w : World) :
    Calls Tryd.prog 41 #[.string ⟨l.toArray⟩] w fun e w' => e = .returned (.func (.func 49) #[] #[.pointer (some ⟨w.heap.size, 0, none⟩)]) ∧ w.alloc (.cells #[.string ⟨l.toArray⟩] 9) = w' := by
  have hmf : ∀ (fn : Fn) (first cap : Array Value) (w : World), (Instr.makeFunc fn first cap).run Tryd.prog w = .ok (.func fn first cap) w := fun _ _ _ _ => rfl
  go_enter Tryd.func41, Tryd.ntmps41
  go_wp2
  go_ret
  exact ⟨rfl, rfl⟩
theorem isIn_any (l : List UInt8) (w : World) :
    Calls Tryd.prog 43 #[.string ⟨l.toArray⟩] w fun e w' => e = .returned (.func (.func 51) #[] #[.pointer (some ⟨w.heap.size, 0, none⟩)]) ∧ w.alloc (.cells #[.string ⟨l.toArray⟩] 9) = w' := by
  have hmf : ∀ (fn : Fn) (first cap : Array Value) (w : World), (Instr.makeFunc fn first cap).run Tryd.prog w = .ok (.func fn first cap) w := fun _ _ _ _ => rfl
  go_enter Tryd.func43, Tryd.ntmps43
  go_wp2
  go_ret
  exact ⟨rfl, rfl⟩

/-- A filter as the program has it. -/
abbrev fV (k m : Int) (form : List UInt8) : Value := .agg #[.int .i64 k, .int .i64 m, .string ⟨form.toArray⟩]
def inB (m : Int) (form : List UInt8) : Prop := 0 ≤ m ∧ m ≤ 200 ∧ form.length ≤ 40
/-- is it a filter? -/
def rightB (k m : Int) (form : List UInt8) : Bool := decide (0 ≤ m) && decide (m ≤ 200) && decide (form.length ≤ 40) && ((k == 1 && form.isEmpty) || (k == 2 && clsB form) || (k == 3 && recOk form))
/-- its tests -/
def predsOf (k m : Int) (form : List UInt8) : List (Nat → UInt8 → Bool) :=
  if k = 1 then [fun i _ => decide ((i : Int) < m)] else if k = 2 then [fun i _ => decide ((i : Int) < m), fun _ c => ofL form c] else [fun i _ => decide ((i : Int) < m), fun i c => inL (spr form).1 i c]
def sizeOf (k : Int) (form : List UInt8) : Nat := if k = 3 then (spr form).1.length else 0
/-- What checked hands back. -/
def CheckedEnd (k m : Int) (form : List UInt8) (ea : Addr) (e : Ending) (w' : World) : Prop :=
  ∃ tv sz ev, e = .returned (.tuple #[tv, .int .i64 sz, ev]) ∧ ((rightB k m form = true ∧ ev = .nilIface ∧ sz = (sizeOf k form : Int) ∧ ∃ ts : List Test, TestsAt w' tv ts ∧ ts.map Prod.snd = predsOf k m form) ∨ (rightB k m form = false ∧ ev = eV ea))

set_option maxRecDepth 100000 in
set_option maxHeartbeats 2000000 in
theorem checked_out (k m : Int) (form : List UInt8) (hl : form.length ≤ maxLen) (ea : Addr) (w : World) (hge : w.cell? ⟨0, 0, none⟩ = some (eV ea)) (hb : ¬ inB m form) :
    Calls Tryd.prog 26 #[fV k m form] w fun e w' => CheckedEnd k m form ea e w' ∧ Below w.heap.size w w' := by
  unfold maxLen at hl
  have hr : rightB k m form = false := by
    have h' : ¬ (0 ≤ m ∧ m ≤ 200 ∧ form.length ≤ 40) := hb
    rw [rightB, show (decide (0 ≤ m) && decide (m ≤ 200) && decide (form.length ≤ 40)) = false by simp; omega]; rfl
  have hgs : 0 < w.heap.size := World.block_lt_of_cell? w _ hge
  have hg1 : (w.alloc (.cells #[.int .i64 k, .int .i64 m, .string ⟨form.toArray⟩] 23)).cell? ⟨0, 0, none⟩ = some (eV ea) := ((Below.refl _ w).alloc (Nat.le_refl _) _).cell (p := ⟨0, 0, none⟩) hgs |>.trans hge
  have hend : ∀ tv sz w', CheckedEnd k m form ea (.returned (.tuple #[tv, .int .i64 sz, eV ea])) w' := fun tv sz w' => ⟨tv, sz, _, rfl, .inr ⟨hr, rfl⟩⟩
  have HE := Lib.hid hend; clear hend hr
  by_cases h1 : m < 0
  · clear hb
    go_enter Tryd.func26, Tryd.ntmps26
    go_wp2
    go_quiet (fail)
    go_wp2
    go_ret3
    exact ⟨HE.out _ _ _, below_drewN ((Below.refl _ w).alloc (Nat.le_refl _) _) _⟩
  · by_cases h2 : 200 < m
    · clear hb
      go_enter Tryd.func26, Tryd.ntmps26
      go_wp2
      go_quiet (fail)
      go_wp2
      go_ret3
      exact ⟨HE.out _ _ _, below_drewN ((Below.refl _ w).alloc (Nat.le_refl _) _) _⟩
    · have h3 : (40 : Int) < form.length := by
        have h' : ¬ (0 ≤ m ∧ m ≤ 200 ∧ form.length ≤ 40) := hb
        omega
      clear hb
      go_enter Tryd.func26, Tryd.ntmps26
      go_wp2
      go_quiet (fail)
      go_wp2
      go_ret3
      exact ⟨HE.out _ _ _, below_drewN ((Below.refl _ w).alloc (Nat.le_refl _) _) _⟩

/-- A kind that is none, or a form that is not of its kind. -/
theorem checked_no (k m : Int) (form : List UInt8) (ea : Addr) (w : World) (hge : w.cell? ⟨0, 0, none⟩ = some (eV ea)) (hb : inB m form)
    (h : (k ≠ 1 ∧ k ≠ 2 ∧ k ≠ 3) ∨ (k = 1 ∧ form ≠ []) ∨ (k = 2 ∧ clsB form = false)) :
    Calls Tryd.prog 26 #[fV k m form] w fun e w' => CheckedEnd k m form ea e w' ∧ Below w.heap.size w w' := by
  obtain ⟨h1, h2, h3⟩ := hb
  have hr : rightB k m form = false := by
    rw [rightB]
    rcases h with ⟨a, b, c⟩ | ⟨a, b⟩ | ⟨a, b⟩
    · have e1 : (k == 1) = false := by simpa using a
      have e2 : (k == 2) = false := by simpa using b
      have e3 : (k == 3) = false := by simpa using c
      rw [e1, e2, e3]; simp
    · subst a; simp [b]
    · subst a; simp [b]
  have hgs : 0 < w.heap.size := World.block_lt_of_cell? w _ hge
  have hg1 : (w.alloc (.cells #[.int .i64 k, .int .i64 m, .string ⟨form.toArray⟩] 23)).cell? ⟨0, 0, none⟩ = some (eV ea) := ((Below.refl _ w).alloc (Nat.le_refl _) _).cell (p := ⟨0, 0, none⟩) hgs |>.trans hge
  have hmf : ∀ (fn : Fn) (first cap : Array Value) (w : World), (Instr.makeFunc fn first cap).run Tryd.prog w = .ok (.func fn first cap) w := fun _ _ _ _ => rfl
  have hend : ∀ tv sz w', CheckedEnd k m form ea (.returned (.tuple #[tv, .int .i64 sz, eV ea])) w' := fun tv sz w' => ⟨tv, sz, _, rfl, .inr ⟨hr, rfl⟩⟩
  have HE := Lib.hid hend; clear hend hr
  rcases h with ⟨a, b, c⟩ | ⟨a, b⟩ | ⟨a, b⟩
  · have e1 : (k == 1) = false := by simpa using a
    have e2 : (k == 2) = false := by simpa using b
    have e3 : (k == 3) = false := by simpa using c
    clear a b c
    go_enter Tryd.func26, Tryd.ntmps26
    go_wp2
    go_quiet (fail)
    go_wp2
    go_ret3
    exact ⟨HE.out _ _ _, below_drewN ((Below.refl _ w).alloc (Nat.le_refl _) _) _⟩
  · subst a
    have e1 : form.isEmpty = false := by simpa using b
    go_enter Tryd.func26, Tryd.ntmps26
    go_wp2
    go_quiet (fail)
    go_wp2
    go_ret3
    exact ⟨HE.out _ _ _, below_drewN ((Below.refl _ w).alloc (Nat.le_refl _) _) _⟩
  · subst a
    have HC := isClass_any form (w.alloc (.cells #[.int .i64 2, .int .i64 m, .string ⟨form.toArray⟩] 23)) (by unfold maxLen; omega)
    rw [b] at HC
    go_enter Tryd.func26, Tryd.ntmps26
    go_wp2_with (go_at_call 40; refine HC.mono ?_; rintro e w' ⟨rfl, nq, rfl⟩)
    clear HC
    go_quiet (fail)
    go_wp2
    go_ret3
    exact ⟨HE.out _ _ _, below_drewN (below_drewN ((Below.refl _ w).alloc (Nat.le_refl _) _) _) _⟩

/-- A row of one test, of two. -/
theorem testsAt1 {w : World} {v : Value} {p : Nat → UInt8 → Bool} (h : TestAt w v p) (W : World) (hW : Below w.heap.size w W) : TestsAt (W.alloc (.cells #[v] 76)) (.slice (some ⟨W.heap.size, 0, none⟩) 1 1) [(v, p)] :=
  ⟨W.heap.size, rfl, by simp, fun j hj => by
    obtain rfl : j = 0 := by simpa using hj
    exact ⟨by simp, h.below (hW.trans ((Below.refl _ _).alloc hW.size _))⟩⟩
theorem testsAt2 {w : World} {v u : Value} {p q : Nat → UInt8 → Bool} (h : TestAt w v p) (k : TestAt w u q) (W : World) (hW : Below w.heap.size w W) : TestsAt (W.alloc (.cells #[v, u] 76)) (.slice (some ⟨W.heap.size, 0, none⟩) 2 2) [(v, p), (u, q)] :=
  ⟨W.heap.size, rfl, by simp, fun j hj => by
    have h2 : j = 0 ∨ j = 1 := by simp at hj; omega
    have hb := hW.trans ((Below.refl _ _).alloc hW.size (.cells #[v, u] 76))
    rcases h2 with rfl | rfl
    · exact ⟨by simp, h.below hb⟩
    · exact ⟨by simp, k.below hb⟩⟩

theorem checked_len (m : Int) (ea : Addr) (w : World) (hb : inB m []) :
    Calls Tryd.prog 26 #[fV 1 m []] w fun e w' => CheckedEnd 1 m [] ea e w' ∧ Below w.heap.size w w' := by
  obtain ⟨h1, h2, h3⟩ := hb
  have hr : rightB 1 m [] = true := by simp [rightB, h1, h2]
  have hmf : ∀ (fn : Fn) (first cap : Array Value) (w : World), (Instr.makeFunc fn first cap).run Tryd.prog w = .ok (.func fn first cap) w := fun _ _ _ _ => rfl
  have hT := testShort (w := w.alloc (.cells #[.int .i64 1, .int .i64 m, .string ⟨#[]⟩] 23)) (b := w.heap.size) (m := m) (by simp)
  have hend : CheckedEnd 1 m [] ea (.returned (.tuple #[.slice (some ⟨(w.alloc (.cells #[.int .i64 1, .int .i64 m, .string ⟨#[]⟩] 23)).heap.size, 0, none⟩) 1 1, .int .i64 0, .nilIface])) ((w.alloc (.cells #[.int .i64 1, .int .i64 m, .string ⟨#[]⟩] 23)).alloc (.cells #[.func (.func 39) #[] #[.pointer (some ⟨w.heap.size, 0, none⟩)]] 76)) :=
    ⟨_, _, _, rfl, .inl ⟨hr, rfl, rfl, _, testsAt1 hT _ (Below.refl _ _), rfl⟩⟩
  have HE := Lib.hid hend; clear hend hr hT
  go_enter Tryd.func26, Tryd.ntmps26
  go_wp2
  go_ret3
  exact ⟨by simpa using HE.out, ((Below.refl _ w).alloc (Nat.le_refl _) _).alloc (by simp) _⟩

set_option maxHeartbeats 1000000 in
theorem checked_class (m : Int) (form : List UInt8) (ea : Addr) (w : World) (hb : inB m form) (hc : clsB form = true) :
    Calls Tryd.prog 26 #[fV 2 m form] w fun e w' => CheckedEnd 2 m form ea e w' ∧ Below w.heap.size w w' := by
  obtain ⟨h1, h2, h3⟩ := hb
  have hr : rightB 2 m form = true := by simp [rightB, h1, h2, h3, hc]
  have hmf : ∀ (fn : Fn) (first cap : Array Value) (w : World), (Instr.makeFunc fn first cap).run Tryd.prog w = .ok (.func fn first cap) w := fun _ _ _ _ => rfl
  have HC := isClass_any form (w.alloc (.cells #[.int .i64 2, .int .i64 m, .string ⟨form.toArray⟩] 23)) (by unfold maxLen; omega)
  rw [hc] at HC
  go_enter Tryd.func26, Tryd.ntmps26
  go_wp2_with (first | (go_at_call 40; refine HC.mono ?_; rintro e w' ⟨rfl, nq, rfl⟩) | (go_at_call 41; refine (isOf_any form _).mono ?_; rintro e w' ⟨rfl, rfl⟩))
  go_ret3
  clear HC
  have hB1 := below_drewN ((Below.refl w.heap.size w).alloc (Nat.le_refl _) (.cells #[.int .i64 2, .int .i64 m, .string ⟨form.toArray⟩] 23)) nq
  have c1 : ((w.alloc (.cells #[.int .i64 2, .int .i64 m, .string ⟨form.toArray⟩] 23)).drewN nq).cell? ⟨w.heap.size, 1, none⟩ = some (.int .i64 m) := by simp
  have hz : ((w.alloc (.cells #[.int .i64 2, .int .i64 m, .string ⟨form.toArray⟩] 23)).drewN nq).heap.size = w.heap.size + 1 := by simp
  generalize (w.alloc (.cells #[.int .i64 2, .int .i64 m, .string ⟨form.toArray⟩] 23)).drewN nq = W1 at hB1 c1 hz ⊢
  have hB2 := (Below.refl W1.heap.size W1).alloc (Nat.le_refl _) (.cells #[.string ⟨form.toArray⟩] 9)
  have hz2 : (W1.alloc (.cells #[.string ⟨form.toArray⟩] 9)).heap.size = w.heap.size + 1 + 1 := by rw [World.size_alloc, hz]
  have c2 : (W1.alloc (.cells #[.string ⟨form.toArray⟩] 9)).cell? ⟨w.heap.size + 1, 0, none⟩ = some (.string ⟨form.toArray⟩) := by rw [← hz]; simp
  have c1' := (hB2.cell (p := ⟨w.heap.size, 1, none⟩) (by show w.heap.size < _; omega)).trans c1
  have hT := testsAt2 (testShort c1') (testOf (by omega) c2) _ (Below.refl _ _)
  rw [hz2] at hT
  exact ⟨⟨_, 0, _, rfl, .inl ⟨hr, rfl, rfl, _, hT, rfl⟩⟩, (hB1.alloc (by omega) _).alloc (by rw [hz2]; omega) _⟩

set_option maxHeartbeats 1000000 in
theorem checked_form (m : Int) (form : List UInt8) (ea : Addr) (w : World) (hge : w.cell? ⟨0, 0, none⟩ = some (eV ea)) (hb : inB m form) :
    Calls Tryd.prog 26 #[fV 3 m form] w fun e w' => CheckedEnd 3 m form ea e w' ∧ Below w.heap.size w w' := by
  obtain ⟨h1, h2, h3⟩ := hb
  have hr : rightB 3 m form = recOk form := by simp [rightB, h1, h2, h3]
  have hgs : 0 < w.heap.size := World.block_lt_of_cell? w _ hge
  have hg1 : (w.alloc (.cells #[.int .i64 3, .int .i64 m, .string ⟨form.toArray⟩] 23)).cell? ⟨0, 0, none⟩ = some (eV ea) := ((Below.refl _ w).alloc (Nat.le_refl _) _).cell (p := ⟨0, 0, none⟩) hgs |>.trans hge
  have hmf : ∀ (fn : Fn) (first cap : Array Value) (w : World), (Instr.makeFunc fn first cap).run Tryd.prog w = .ok (.func fn first cap) w := fun _ _ _ _ => rfl
  have HC := record_any form (by omega) ea _ hg1
  rw [World.size_alloc] at HC
  have HR := Lib.hid hr; clear hr
  have hsl := spr_len _ form (Nat.le_refl _)
  go_enter Tryd.func26, Tryd.ntmps26
  go_wp2_with (first | (go_at_call 42; refine HC.mono ?_; rintro e w1 ⟨rfl, hb1⟩; have hz1 := hb1.size) | (go_at_call 43; refine (isIn_any _ _).mono ?_; rintro e w' ⟨rfl, rfl⟩))
  go_ret3
  clear HC
  have c1 : (w.alloc (.cells #[.int .i64 3, .int .i64 m, .string ⟨form.toArray⟩] 23)).cell? ⟨w.heap.size, 1, none⟩ = some (.int .i64 m) := by simp
  have hB0 : Below w.heap.size w w1 := ((Below.refl w.heap.size w).alloc (Nat.le_refl _) _).trans (hb1.mono (by omega))
  have hz : (w.alloc (.cells #[.int .i64 3, .int .i64 m, .string ⟨form.toArray⟩] 23)).heap.size = w.heap.size + 1 := by simp
  have c1' := (hb1.cell (p := ⟨w.heap.size, 1, none⟩) (by show w.heap.size < _; omega)).trans c1
  have hB2 := (Below.refl w1.heap.size w1).alloc (Nat.le_refl _) (.cells #[.string ⟨(spr form).1.toArray⟩] 9)
  have hz2 : (w1.alloc (.cells #[.string ⟨(spr form).1.toArray⟩] 9)).heap.size = w1.heap.size + 1 := by rw [World.size_alloc]
  have c2 : (w1.alloc (.cells #[.string ⟨(spr form).1.toArray⟩] 9)).cell? ⟨w1.heap.size, 0, none⟩ = some (.string ⟨(spr form).1.toArray⟩) := by simp
  have c1'' := (hB2.cell (p := ⟨w.heap.size, 1, none⟩) (by show w.heap.size < _; omega)).trans c1'
  have hT := testsAt2 (testShort c1'') (testIn c2) _ (Below.refl _ _)
  rw [hz2] at hT
  refine ⟨⟨_, _, _, rfl, ?_⟩, (hB0.alloc (by omega) _).alloc (by rw [hz2]; omega) _⟩
  have hr := HR.out
  cases hk : recOk form with
  | true => exact .inl ⟨by rw [hr, hk], rfl, rfl, _, hT, rfl⟩
  | false => exact .inr ⟨by rw [hr, hk], rfl⟩

/-- checked, of whatever filter. -/
theorem checked_any (k m : Int) (form : List UInt8) (hl : form.length ≤ maxLen) (ea : Addr) (w : World) (hge : w.cell? ⟨0, 0, none⟩ = some (eV ea)) :
    Calls Tryd.prog 26 #[fV k m form] w fun e w' => CheckedEnd k m form ea e w' ∧ Below w.heap.size w w' := by
  by_cases hb : inB m form
  · by_cases h1 : k = 1
    · subst h1
      by_cases hf : form = []
      · subst hf; exact checked_len m ea w hb
      · exact checked_no _ m form ea w hge hb (.inr (.inl ⟨rfl, hf⟩))
    · by_cases h2 : k = 2
      · subst h2
        cases hc : clsB form with
        | true => exact checked_class m form ea w hb hc
        | false => exact checked_no _ m form ea w hge hb (.inr (.inr ⟨rfl, hc⟩))
      · by_cases h3 : k = 3
        · subst h3; exact checked_form m form ea w hge hb
        · exact checked_no k m form ea w hge hb (.inl ⟨h1, h2, h3⟩)
  · exact checked_out k m form hl ea w hge hb
end Go.Proofs.YtcgffokejpgbdaaDoor
