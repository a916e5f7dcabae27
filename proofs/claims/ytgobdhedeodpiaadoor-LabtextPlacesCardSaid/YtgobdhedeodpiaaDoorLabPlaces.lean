/- LabtextPlaces: its walk and its plain law. -/
import Derived.Test.YtgobdhedeodpiaaDoorLabLaw
namespace Go.Proofs.YtgobdhedeodpiaaDoor
open Go.RowKit Go.Shelf
attribute [local go_sem] Oper.semAt_some
theorem places_plain (s : List UInt8) : (parE s = 0 ∧ parAt s = 0) ∨ (parE s = 50 ∧ ∃ k : Nat, k ≤ s.length ∧ parAt s = k ∧ (parE (s.take k) = 0 ∨ parAt (s.take k) = k) ∧ (k < s.length → parE (s.take (k + 1)) = 50 ∧ parAt (s.take (k + 1)) = k)) := by
  rcases h : ptext s with ⟨_ | x, b⟩
  · right
    obtain ⟨a, h1, h2, h3⟩ := text_places s b h
    have e1 : s.take a.length = a := by rw [h1]; simp
    have hl : s.length = a.length + b.length := by rw [h1]; simp
    refine ⟨by unfold parE; rw [h], a.length, by omega, ?_, ?_, ?_⟩
    · unfold parAt; rw [h]; show (s.length : Int) - (b.length : Int) = _; omega
    · rw [e1]
      unfold parE parAt
      rcases hp : ptext a with ⟨_ | y, r⟩
      · right
        rw [hp] at h2
        have h2' : r = [] := h2
        subst h2'
        show (a.length : Int) - (([] : List UInt8).length : Int) = _; simp
      · left; rfl
    · intro hk
      cases b with
      | nil => simp at hl; omega
      | cons c b' =>
        have e2 : s.take (a.length + 1) = a ++ [c] := by
          rw [h1, List.take_append, List.take_of_length_le (by omega)]; simp
        have := h3 c b' rfl
        rw [e2]
        unfold parE parAt
        rw [this]
        refine ⟨rfl, ?_⟩
        show ((a ++ [c]).length : Int) - (([c] : List UInt8).length : Int) = _; simp
  · left
    unfold parE parAt; rw [h]; exact ⟨rfl, rfl⟩
theorem min_succ (k n : Nat) (h : k ≤ n) : (min ((k : Int) + 1) (n : Int)).toNat = if k < n then k + 1 else n := by
  split <;> omega
set_option maxHeartbeats 4000000 in
set_option maxRecDepth 100000 in
theorem places_law (l : List UInt8) (w : World) (hT : Tab w) (hg : ErrT w) :
    Calls Tryd.prog 7 #[.string ⟨l.toArray⟩] w fun e w' => e = .returned (.bool true) ∧ Below w.heap.size w w' := by
  have hgl := World.block_lt_of_cell? w _ hg
  have HS := Lib.hid (shown_any w hT hg)
  have HCut := cut_any l
  have HL : (l.take 300).length ≤ 300 := by simp; omega
  generalize l.take 300 = L at HCut HL
  have HP := fun u hu => parse_any L (by omega) u hu
  have hpl := places_plain L
  generalize hPL : parL L = PL at *
  obtain ⟨p1, p2, p3⟩ := PL
  clear hPL
  rcases hpl with ⟨e1, e2⟩ | ⟨e1, k, hk, e2, hf, hm⟩
  · rw [e1, e2] at HP
    clear e1 e2
    go_enter Tryd.func7, Tryd.ntmps7
    go_wp2_with fail
    refine HS.out.mono ?_
    rintro e w1 ⟨rfl, hb1⟩
    go_wp2_with (go_at_call 15; refine (HCut _).mono ?_; rintro e w' ⟨rfl, rfl⟩)
    refine (HP _ ((hb1.cell (p := ⟨0, 0, none⟩) hgl).trans hg)).mono ?_
    rintro e w2 ⟨rfl, hb2⟩
    have hB2 := hb1.trans (hb2.mono hb1.size)
    go_wp2_with fail
    go_ret
    exact ⟨rfl, hB2.alloc hB2.size _⟩
  · rw [e1, e2] at HP
    clear e1 e2
    have HA := fun u hu => parse_any (L.take k) (by simp; omega) u hu
    have hk0 : (0 : Int) ≤ k := by omega
    have hk1 : (k : Int) ≤ L.length := by omega
    generalize parL (L.take k) = PA at HA
    obtain ⟨a1, a2, a3⟩ := PA
    rcases Nat.lt_or_ge k L.length with hlt | hge
    · obtain ⟨m1, m2⟩ := hm hlt
      have HM := fun u hu => parse_any (L.take (k + 1)) (by simp; omega) u hu
      rw [m1, m2] at HM
      generalize parL (L.take (k + 1)) = PM at HM
      obtain ⟨c1, c2, c3⟩ := PM
      have hmin : min ((k : Int) + 1) (L.length : Int) = k + 1 := by omega
      have hne : ((k : Int) == (L.length : Int)) = false := by simp; omega
      have hlt' : (k : Int) + 1 ≤ L.length := by omega
      have hlt'' : (k : Int) < L.length := by omega
      generalize parE (L.take k) = f at HA hf
      generalize parAt (L.take k) = at2 at HA hf
      clear m1 m2 hm hk
      go_enter Tryd.func7, Tryd.ntmps7
      go_wp2_with fail
      refine HS.out.mono ?_
      rintro e w1 ⟨rfl, hb1⟩
      go_wp2_with (go_at_call 15; refine (HCut _).mono ?_; rintro e w' ⟨rfl, rfl⟩)
      refine (HP _ ((hb1.cell (p := ⟨0, 0, none⟩) hgl).trans hg)).mono ?_
      rintro e w2 ⟨rfl, hb2⟩
      have hB2 := hb1.trans (hb2.mono hb1.size)
      have hB2' := hB2.alloc hB2.size (.cells #[.int .i64 p1, .int .u64 p2, .int .i64 p3] 24)
      go_wp2_with fail
      refine (HA _ ((hB2'.cell (p := ⟨0, 0, none⟩) hgl).trans hg)).mono ?_
      rintro e w3 ⟨rfl, hb3⟩
      have hB3 := hB2'.trans (hb3.mono hB2'.size)
      have hB3' := hB3.alloc hB3.size (.cells #[.int .i64 a1, .int .u64 a2, .int .i64 a3] 24)
      go_wp2_with fail
      refine (HM _ ((hB3'.cell (p := ⟨0, 0, none⟩) hgl).trans hg)).mono ?_
      rintro e w4 ⟨rfl, hb4⟩
      have hB4 := hB3'.trans (hb4.mono hB3'.size)
      have hB4' := hB4.alloc hB4.size (.cells #[.int .i64 c1, .int .u64 c2, .int .i64 c3] 24)
      have hfb : (f == 0) = true ∨ ((f == 0) = false ∧ (at2 == (k : Int)) = true) := by
        rcases hf with h | h
        · exact .inl (by simpa using h)
        · by_cases h0 : f = 0
          · exact .inl (by simpa using h0)
          · exact .inr ⟨by simpa using h0, by simpa using h⟩
      clear hf
      rcases hfb with hfb | ⟨hfb, hfc⟩
      all_goals
        go_wp2_with fail
        go_ret
        exact ⟨rfl, hB4'⟩
    · obtain rfl : k = L.length := by omega
      clear hm hge hk
      have HM := fun u hu => parse_any L (by omega) u hu
      generalize parL L = PM at HM
      obtain ⟨c1, c2, c3⟩ := PM
      have hmin : min ((L.length : Int) + 1) (L.length : Int) = L.length := by omega
      have hTl2 : L.take L.length = L := List.take_length
      rw [hTl2] at HA hf
      clear hTl2
      generalize parE L = f at HA hf HM
      generalize parAt L = at2 at HA hf HM
      go_enter Tryd.func7, Tryd.ntmps7
      go_wp2_with fail
      refine HS.out.mono ?_
      rintro e w1 ⟨rfl, hb1⟩
      go_wp2_with (go_at_call 15; refine (HCut _).mono ?_; rintro e w' ⟨rfl, rfl⟩)
      refine (HP _ ((hb1.cell (p := ⟨0, 0, none⟩) hgl).trans hg)).mono ?_
      rintro e w2 ⟨rfl, hb2⟩
      have hB2 := hb1.trans (hb2.mono hb1.size)
      have hB2' := hB2.alloc hB2.size (.cells #[.int .i64 p1, .int .u64 p2, .int .i64 p3] 24)
      go_wp2_with fail
      refine (HA _ ((hB2'.cell (p := ⟨0, 0, none⟩) hgl).trans hg)).mono ?_
      rintro e w3 ⟨rfl, hb3⟩
      have hB3 := hB2'.trans (hb3.mono hB2'.size)
      have hB3' := hB3.alloc hB3.size (.cells #[.int .i64 a1, .int .u64 a2, .int .i64 a3] 24)
      go_wp2_with fail
      refine (HM _ ((hB3'.cell (p := ⟨0, 0, none⟩) hgl).trans hg)).mono ?_
      rintro e w4 ⟨rfl, hb4⟩
      have hB4 := hB3'.trans (hb4.mono hB3'.size)
      have hB4' := hB4.alloc hB4.size (.cells #[.int .i64 c1, .int .u64 c2, .int .i64 c3] 24)
      have hfb : (f == 0) = true ∨ ((f == 0) = false ∧ (at2 == (L.length : Int)) = true) := by
        rcases hf with h | h
        · exact .inl (by simpa using h)
        · by_cases h0 : f = 0
          · exact .inl (by simpa using h0)
          · exact .inr ⟨by simpa using h0, by simpa using h⟩
      clear hf
      rcases hfb with hfb | ⟨hfb, hfc⟩
      all_goals
        go_wp2_with fail
        go_ret
        exact ⟨rfl, hB4'⟩
end Go.Proofs.YtgobdhedeodpiaaDoor
