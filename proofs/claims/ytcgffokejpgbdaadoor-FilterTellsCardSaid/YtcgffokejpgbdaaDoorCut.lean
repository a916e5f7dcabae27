/- strings.Cut at a space. -/
import Derived.Test.YtcgffokejpgbdaaDoorKit
import Derived.Test.YtcgffokejpgbdaaDoorShelf
namespace Go.Proofs.YtcgffokejpgbdaaDoor
open Go.RowKit
/-- what stands ahead of the first c; behind it; whether there is one -/
def cutL (c : UInt8) : List UInt8 → List UInt8 × List UInt8 × Bool
  | [] => ([], [], false)
  | x :: r => if x = c then ([], r, true) else (x :: (cutL c r).1, (cutL c r).2.1, (cutL c r).2.2)
theorem cutL_yes (c : UInt8) : ∀ l : List UInt8, (cutL c l).2.2 = true → Lib.indexByte l c = (cutL c l).1.length ∧ l = (cutL c l).1 ++ c :: (cutL c l).2.1
  | [], h => by simp [cutL] at h
  | x :: r, h => by
    by_cases e : x = c
    · subst e; simp [cutL, Lib.indexByte]
    · have h' : (cutL c r).2.2 = true := by simpa [cutL, e] using h
      obtain ⟨h1, h2⟩ := cutL_yes c r h'
      constructor
      · have hb : (x == c) = false := by simpa using e
        have hn : ((((cutL c r).1.length : Nat) : Int) == -1) = false := by simp
        simp [Lib.indexByte, cutL, e, hb, h1, hn]
      · simp only [cutL, e, if_false, List.cons_append]; rw [← h2]
theorem cutL_no (c : UInt8) : ∀ l : List UInt8, (cutL c l).2.2 = false → Lib.indexByte l c = -1 ∧ (cutL c l).1 = l ∧ (cutL c l).2.1 = []
  | [], _ => by simp [cutL, Lib.indexByte]
  | x :: r, h => by
    by_cases e : x = c
    · subst e; simp [cutL] at h
    · have h' : (cutL c r).2.2 = false := by simpa [cutL, e] using h
      obtain ⟨h1, h2, h3⟩ := cutL_no c r h'
      refine ⟨?_, ?_, ?_⟩
      · have hb : (x == c) = false := by simpa using e
        simp [Lib.indexByte, hb, h1]
      · simp only [cutL, e, if_false, h2]
      · simp only [cutL, e, if_false, h3]
theorem cutL_len (c : UInt8) (l : List UInt8) : (cutL c l).1.length ≤ l.length ∧ (cutL c l).2.1.length ≤ l.length := by
  induction l with
  | nil => simp [cutL]
  | cons x r ih =>
    rw [cutL]; split
    · simp
    · simp; omega

set_option maxHeartbeats 1000000 in
theorem lcut_any (c : UInt8) (l : List UInt8) (hl : l.length ≤ 1000000) (w : World) :
    Calls Tryd.prog 48 #[.string ⟨l.toArray⟩, .string ⟨#[c]⟩] w fun e w' => e = .returned (.tuple #[.string ⟨(cutL c l).1.toArray⟩, .string ⟨(cutL c l).2.1.toArray⟩, .bool (cutL c l).2.2]) ∧ ∃ n, w' = w.drewN n := by
  have HI := Tryd.stringslite_Index_one ⟨l.toArray⟩ c w
  obtain ⟨hq1, hq2⟩ := cutL_len c l
  cases hf : (cutL c l).2.2 with
  | true =>
    obtain ⟨h1, h2⟩ := cutL_yes c l hf
    have h1' : Lib.indexByte (ByteArray.mk l.toArray).data.toList c = (cutL c l).1.length := h1
    rw [h1'] at HI
    generalize (cutL c l).1 = A at *
    generalize (cutL c l).2.1 = B at *
    clear h1 h1' hf
    subst h2
    have w0 : A.length + (B.length + 1) = (A ++ c :: B).length := by simp
    have w1 : IntKind.i64.wrap ((A.length : Int) + 1) = A.length + 1 := IntWalk.i64_in _ (by omega)
    have w2 : ((A.length : Int) + 1).toNat = A.length + 1 := by omega
    have w3 : (0 : Int) ≤ (A.length : Int) + 1 := by omega
    have w4 : (A.length : Int) + 1 ≤ (A ++ c :: B).length := by omega
    have w5 : (A.length : Int) ≤ (A ++ c :: B).length := by omega
    have e1 : (A ++ c :: B).take A.length = A := by simp
    have e2 : ((A ++ c :: B).drop (A.length + 1)).take ((A ++ c :: B).length - (A.length + 1)) = B := by simp; exact List.take_of_length_le (by omega)
    clear w0
    generalize A ++ c :: B = l at *
    have E1 := Lib.hid e1; clear e1
    have E2 := Lib.hid e2; clear e2
    go_enter Tryd.func48, Tryd.ntmps48
    go_wp2_with (go_at_call 57; refine HI.mono ?_; rintro e w' ⟨rfl, rfl⟩)
    go_quiet (fail)
    go_wp2
    go_ret3
    refine ⟨?_, _, rfl⟩
    show Ending.returned (.tuple #[.string ⟨(l.take A.length).toArray⟩, .string ⟨((l.drop (A.length + 1)).take (l.length - (A.length + 1))).toArray⟩, .bool true]) = _
    rw [E1.out, E2.out]
  | false =>
    obtain ⟨h1, h2, h3⟩ := cutL_no c l hf
    have h1' : Lib.indexByte (ByteArray.mk l.toArray).data.toList c = -1 := h1
    rw [h1'] at HI
    rw [h2, h3]
    clear h1 h1' h2 h3 hf
    go_enter Tryd.func48, Tryd.ntmps48
    go_wp2_with (go_at_call 57; refine HI.mono ?_; rintro e w' ⟨rfl, rfl⟩)
    go_ret3
    exact ⟨rfl, 0, rfl⟩
theorem cut_any (c : UInt8) (l : List UInt8) (hl : l.length ≤ 1000000) (w : World) :
    Calls Tryd.prog 37 #[.string ⟨l.toArray⟩, .string ⟨#[c]⟩] w fun e w' => e = .returned (.tuple #[.string ⟨(cutL c l).1.toArray⟩, .string ⟨(cutL c l).2.1.toArray⟩, .bool (cutL c l).2.2]) ∧ ∃ n, w' = w.drewN n := by
  have H := lcut_any c l hl w
  generalize (cutL c l).1 = A at *
  generalize (cutL c l).2.1 = B at *
  generalize (cutL c l).2.2 = C at *
  go_enter Tryd.func37, Tryd.ntmps37
  go_wp2_with (go_at_call 48; refine H.mono ?_; rintro e w' ⟨rfl, n, rfl⟩)
  go_ret3
  exact ⟨rfl, n, rfl⟩
end Go.Proofs.YtcgffokejpgbdaaDoor
