/- Walks of layer 5: the reader of a label's text. -/
import Derived.Test.YtgobdhedeodpiaaDoorLabB
import Derived.Stop.IfaceNil
namespace Go.Proofs.YtgobdhedeodpiaaDoor
open Go.RowKit Go.Shelf
attribute [local go_sem] Oper.semAt_some
/-- where something is wrong -/
def errL (bad : Bool) (at_ : Int) : Value := if bad then .iface 78 (.agg #[.int .i64 at_]) else .nilIface
/-- the reader: what is left, the size, whether something is wrong -/
def RdL (W : World) (b : Nat) (n : Nat) (s : List UInt8 × Bool) : Prop := Blk W b #[.string ⟨s.1.toArray⟩, .int .i64 n, errL s.2 ((n : Int) - s.1.length)] 53
def lift {α : Type} (d : α) (f : List UInt8 → PR α) (s : List UInt8 × Bool) : α × (List UInt8 × Bool) :=
  if s.2 then (d, s) else match f s.1 with
    | (none, r) => (d, (r, true))
    | (some a, r) => (a, (r, false))
theorem RdL.cells {W : World} {b n : Nat} {s : List UInt8 × Bool} (h : RdL W b n s) : W.cell? ⟨b, 0, none⟩ = some (.string ⟨s.1.toArray⟩) ∧ W.cell? ⟨b, 1, none⟩ = some (.int .i64 n) ∧ W.cell? ⟨b, 2, none⟩ = some (errL s.2 ((n : Int) - s.1.length)) := by
  have c0 := Blk.cell h 0
  have c1 := Blk.cell h 1
  have c2 := Blk.cell h 2
  simp at c0 c1 c2
  exact ⟨c0, c1, c2⟩
theorem fail_any (b n : Nat) (r : List UInt8) (bad : Bool) (w : World) (h : RdL w b n (r, bad)) (hl : r.length ≤ n) (hn : n ≤ 1000000) :
    Calls Tryd.prog 27 #[.pointer (some ⟨b, 0, none⟩)] w fun e w' => e = .returned (.tuple #[]) ∧ RdL w' b n (r, true) ∧ w.grownBy w' (some b) := by
  obtain ⟨c0, c1, c2⟩ := h.cells
  have f2 := Blk.frozen h 2
  have f0 := Blk.frozen h 0
  cases bad with
  | true =>
    simp only [errL, if_true] at c2
    have hx : Hid (RdL w b n (r, true)) := h
    have hI : Tryd.prog.isIface 51 = true := by kernel_rfl
    go_enter Tryd.func27, Tryd.ntmps27
    go_wp2
    go_end0
    exact ⟨rfl, hx, .refl _ _⟩
  | false =>
    simp only [errL, Bool.false_eq_true, if_false] at c2
    have H := Lib.hid h
    clear h
    go_enter Tryd.func27, Tryd.ntmps27
    go_wp2_with fail
    have hs0 := fun v => Blk.cell (Blk.set 2 v H.out) 0
    have hs1 := fun v => Blk.cell (Blk.set 2 v H.out) 1
    have hw : IntKind.i64.wrap ((n : Int) - r.length) = n - r.length := IntWalk.i64_in _ (by omega)
    simp at hs0 hs1
    go_region_held3 (fun u => u.cell? ⟨b, 0, none⟩ = some (.string ⟨r.toArray⟩) ∧ u.cell? ⟨b, 1, none⟩ = some (.int .i64 n)) (first | go_keep | exact ⟨hs0 _, hs1 _⟩) (fail)
    all_goals go_wp2_with fail
    all_goals go_end0
    all_goals exact ⟨rfl, by simpa [RdL, errL] using (Blk.set 2 (.iface 78 (.agg #[.int .i64 ((n : Int) - r.length)])) H.out).drew, grown_drew (grownBy_setCellB w b 2 _)⟩
/-- a sign, if it is there -/
theorem is_any (c : UInt8) (b n : Nat) (r : List UInt8) (bad : Bool) (w : World) (h : RdL w b n (r, bad)) (hn : r.length ≤ 1000000) :
    Calls Tryd.prog 37 #[.pointer (some ⟨b, 0, none⟩), .string ⟨#[c]⟩] w fun e w' => e = .returned (.bool (lift false (pis c) (r, bad)).1) ∧ RdL w' b n (lift false (pis c) (r, bad)).2 ∧ w.grownBy w' (some b) := by
  have hI : Tryd.prog.isIface 51 = true := by kernel_rfl
  obtain ⟨c0, c1, c2⟩ := h.cells
  have f0 := Blk.frozen h 0
  have hCP : ∀ W, Calls Tryd.prog 47 #[.string ⟨r.toArray⟩, .string ⟨#[c]⟩] W fun e w' => e = .returned (.tuple #[.string ⟨(Lib.trimPrefix (ByteArray.mk r.toArray).data.toList (ByteArray.mk #[c]).data.toList).toArray⟩, .bool (Lib.hasPrefix (ByteArray.mk r.toArray).data.toList (ByteArray.mk #[c]).data.toList)]) ∧ W = w' :=
    fun W => (Tryd.strings_CutPrefix ⟨r.toArray⟩ ⟨#[c]⟩ W).mono fun _ _ h => ⟨h.1, h.2.symm⟩
  have H := Lib.hid h
  clear h
  cases bad with
  | true =>
    simp only [errL, if_true] at c2
    have hL : lift false (pis c) (r, true) = (false, (r, true)) := rfl
    rw [hL]
    generalize Lib.hasPrefix (ByteArray.mk r.toArray).data.toList (ByteArray.mk #[c]).data.toList = HB at *
    generalize (Lib.trimPrefix (ByteArray.mk r.toArray).data.toList (ByteArray.mk #[c]).data.toList) = TB at *
    cases HB with
    | true =>
      go_enter Tryd.func37, Tryd.ntmps37
      go_wp2_with (go_at_call 47; refine (hCP _).mono ?_; rintro e w' ⟨rfl, rfl⟩)
      go_ret
      exact ⟨rfl, H.out, .refl _ _⟩
    | false =>
      go_enter Tryd.func37, Tryd.ntmps37
      go_wp2_with (go_at_call 47; refine (hCP _).mono ?_; rintro e w' ⟨rfl, rfl⟩)
      go_ret
      exact ⟨rfl, H.out, .refl _ _⟩
  | false =>
    simp only [errL, Bool.false_eq_true, if_false] at c2
    have yes : ∀ r', r = c :: r' → Lib.hasPrefix (ByteArray.mk r.toArray).data.toList (ByteArray.mk #[c]).data.toList = true ∧ Lib.trimPrefix (ByteArray.mk r.toArray).data.toList (ByteArray.mk #[c]).data.toList = r' := by
      rintro r' rfl; constructor
      · simp [Lib.hasPrefix]
      · simp [Lib.trimPrefix, Lib.hasPrefix]
    have no : (∀ r', r ≠ c :: r') → Lib.hasPrefix (ByteArray.mk r.toArray).data.toList (ByteArray.mk #[c]).data.toList = false ∧ pis c r = (some false, r) := by
      intro hr
      cases r with
      | nil => exact ⟨rfl, rfl⟩
      | cons d r =>
        have hd : d ≠ c := fun e => hr r (by rw [e])
        have hd' : (c == d) = false := by simpa using fun e => hd e.symm
        exact ⟨by show [c].isPrefixOf (d :: r) = false; rw [List.isPrefixOf, hd']; rfl, by simp [pis, hd]⟩
    by_cases hr : ∃ r', r = c :: r'
    · obtain ⟨r', rfl⟩ := hr
      obtain ⟨e1, e2⟩ := yes r' rfl
      have hL : lift false (pis c) (c :: r', false) = (true, (r', false)) := by simp [lift, pis]
      rw [hL]
      rw [e1, e2] at hCP
      clear e1 e2 yes no hL
      have hs := Blk.set 0 (.string ⟨r'.toArray⟩) H.out
      have HS := Lib.hid hs
      clear hs
      go_enter Tryd.func37, Tryd.ntmps37
      go_wp2_with (go_at_call 47; refine (hCP _).mono ?_; rintro e w' ⟨rfl, rfl⟩)
      go_ret
      exact ⟨rfl, by simpa [RdL, errL] using HS.out, grownBy_setCellB w b 0 _⟩
    · obtain ⟨e1, e2⟩ := no fun r' e => hr ⟨r', e⟩
      have hL : lift false (pis c) (r, false) = (false, (r, false)) := by simp [lift, e2]
      rw [hL]
      rw [e1] at hCP
      clear e1 e2 yes no hL hr
      go_enter Tryd.func37, Tryd.ntmps37
      go_wp2_with (go_at_call 47; refine (hCP _).mono ?_; rintro e w' ⟨rfl, rfl⟩)
      go_ret
      exact ⟨rfl, H.out, .refl _ _⟩
/-- a sign -/
theorem must_any (c : UInt8) (b n : Nat) (r : List UInt8) (bad : Bool) (w : World) (h : RdL w b n (r, bad)) (hl : r.length ≤ n) (hn : n ≤ 1000000) :
    Calls Tryd.prog 24 #[.pointer (some ⟨b, 0, none⟩), .string ⟨#[c]⟩] w fun e w' => e = .returned (.tuple #[]) ∧ RdL w' b n (lift () (pmust c) (r, bad)).2 ∧ w.grownBy w' (some b) := by
  have HI := is_any c b n r bad w h (by omega)
  have hfail := fun (r2 : List UInt8) (bad2 : Bool) u (hu : RdL u b n (r2, bad2)) (hl2 : r2.length ≤ n) => fail_any b n r2 bad2 u hu hl2 hn
  have hcase : ((lift false (pis c) (r, bad)).1 = true ∧ (lift () (pmust c) (r, bad)).2 = (lift false (pis c) (r, bad)).2) ∨ ((lift false (pis c) (r, bad)).1 = false ∧ (lift false (pis c) (r, bad)).2 = (r, bad) ∧ (lift () (pmust c) (r, bad)).2 = (r, true)) := by
    cases bad with
    | true => exact .inr ⟨rfl, rfl, rfl⟩
    | false =>
      cases r with
      | nil => exact .inr ⟨rfl, rfl, rfl⟩
      | cons d r =>
        by_cases hd : d = c
        · left; simp [lift, pis, pmust, hd]
        · right; simp [lift, pis, pmust, hd]
  rcases hcase with ⟨h1, h2⟩ | ⟨h1, h2, h3⟩
  · rw [h2]
    rw [h1] at HI
    generalize (lift false (pis c) (r, bad)).2 = s2 at *
    clear h1 h2 hfail
    have HIH := Lib.hid HI
    clear HI
    go_enter Tryd.func24, Tryd.ntmps24
    go_wp2_with fail
    refine HIH.out.mono ?_
    rintro e w1 ⟨rfl, hr1, hg1⟩
    have HR := Lib.hid hr1
    clear hr1
    go_wp2_with fail
    go_end0
    exact ⟨rfl, HR.out, hg1⟩
  · rw [h3]
    rw [h1, h2] at HI
    clear h1 h2 h3
    have HIH := Lib.hid HI
    clear HI h
    go_enter Tryd.func24, Tryd.ntmps24
    go_wp2_with fail
    refine HIH.out.mono ?_
    rintro e w1 ⟨rfl, hr1, hg1⟩
    have HF := Lib.hid (hfail r bad w1 hr1 hl)
    clear hr1 hfail
    go_wp2_with fail
    refine HF.out.mono ?_
    rintro e w2 ⟨rfl, hr2, hg2⟩
    have HR := Lib.hid hr2
    clear hr2
    go_wp2_with fail
    go_end0
    exact ⟨rfl, HR.out, grownBy_t hg1 hg2⟩
end Go.Proofs.YtgobdhedeodpiaaDoor
