/- Walk of the document's answer for layer 13: Parse. -/
import Derived.Test.YtcgffokejpgbdaaDoorFilterR5
namespace Go.Proofs.YtcgffokejpgbdaaDoor
open Go.RowKit Go.Maps
def headOf (k n : Int) : List UInt8 := wordOf k ++ 32 :: digL n
def formOf (k n : Int) (l : List UInt8) : List UInt8 := if k = 1 then [] else l.drop ((headOf k n).length + 1)
def hitB (k n : Int) (l : List UInt8) : Bool := rightB k n (formOf k n l) && (printL k n (formOf k n l) == l)
theorem head_len (k n : Int) (h : n ≤ 9223372036854775807) : (headOf k n).length ≤ 25 := by
  have h1 := (word_ok k).2
  have h2 := digL_len n h
  unfold headOf; simp; omega
theorem hit_head (k n : Int) (l : List UInt8) (h : hitB k n l = true) : List.take (headOf k n).length l = headOf k n := by
  simp only [hitB, Bool.and_eq_true, beq_iff_eq] at h
  have e : l = headOf k n ++ (if k = 1 then [] else 32 :: formOf k n l) := by rw [← h.2]; simp only [h.2]; rw [printL] at h; exact h.2.symm
  rw [e]; simp
theorem hit_yes (k n : Int) (l : List UInt8) (h : hitB k n l = true) : parK l = k ∧ parM l = n ∧ parF l = formOf k n l ∧ parE l = 0 := by
  simp only [hitB, Bool.and_eq_true, beq_iff_eq] at h
  have hp := back_there k n (formOf k n l) h.1
  have e : printA k n (formOf k n l) = l := by rw [printA, h.1]; exact h.2
  rw [e] at hp
  exact hp
theorem hit_none (l : List UInt8) (h : ∀ (k n : Nat), 1 ≤ k → k ≤ 3 → n ≤ 200 → hitB k n l = false) : parK l = 0 ∧ parM l = 0 ∧ parF l = [] ∧ parE l = 130 := by
  have hno : parOk l = false := by
    rw [Bool.eq_false_iff]
    intro ho
    simp only [parOk, Bool.and_eq_true, beq_iff_eq] at ho
    obtain ⟨hr, hl⟩ := ho
    have hf := right_facts hr
    generalize pKind l = K at *
    generalize pMax l = M at *
    generalize pForm l = F at *
    obtain ⟨k, rfl⟩ := Int.eq_ofNat_of_zero_le (show 0 ≤ K by omega)
    obtain ⟨m, rfl⟩ := Int.eq_ofNat_of_zero_le hf.1
    have hfo : formOf k m l = F := by
      unfold formOf
      split
      · rename_i h1
        rw [h1] at hr
        exact (right_lenform hr).symm
      · rename_i h1
        rw [← hl]
        have e : printL k m F = headOf k m ++ 32 :: F := by rw [printL, if_neg h1]; rfl
        rw [e, List.drop_append]
        simp
    have := h k m (by omega) (by omega) (by omega)
    rw [hitB, hfo, hr, hl] at this
    simp at this
  rw [parK, parM, parF, parE, hno]
  exact ⟨rfl, rfl, rfl, rfl⟩
theorem hit_as (k n : Int) (l : List UInt8) : hitB k n l = ((errE k n (formOf k n l) == 0) && (printA k n (formOf k n l) == l)) := by
  rw [hitB, errE, printA]
  cases rightB k n (formOf k n l) <;> simp
set_option maxRecDepth 100000 in
set_option maxHeartbeats 8000000 in
theorem parseR_any (l : List UInt8) (hl : l.length ≤ 1000) (w : World) :
    Calls Tryd.prog 25 #[.string ⟨l.toArray⟩] w fun e w' => e = .returned (.tuple #[fV (parK l) (parM l) (parF l), .int .i64 (parE l)]) ∧ Below w.heap.size w w' := by
  have hB0 := (Below.refl w.heap.size w).alloc (Nat.le_refl _) (.cells #[.int .i64 0, .int .i64 0, .string ⟨#[]⟩] 23)
  have b0 := Blk.new w #[.int .i64 0, .int .i64 0, .string ⟨#[]⟩] 23
  go_enter Tryd.func25, Tryd.ntmps25
  go_wp2
  go_loopw [4] (fun i wr => ∃ k : Nat, 1 ≤ k ∧ k ≤ 4 ∧ i = .int .i64 k ∧ Blk wr w.heap.size #[.int .i64 0, .int .i64 0, .string ⟨#[]⟩] 23 ∧ Below w.heap.size w wr ∧ Hid (∀ (k' n : Nat), 1 ≤ k' → k' < k → n ≤ 200 → hitB k' n l = false)) (fun i _ => 4 - (intOf i).toNat)
  case atStart => exact ⟨1, Nat.le_refl _, by omega, rfl, b0, hB0, fun k' n h1 h2 => absurd h2 (by omega)⟩
  case round =>
    obtain ⟨k, hk1, hk4, rfl, hb, hB, hc⟩ := hrel
    clear b0 hB0
    by_cases hlt : k ≤ 3
    · have hk3 : (k : Int) ≤ 3 := by omega
      go_wp2
      go_loopw [5] (fun i wr => ∃ n : Nat, n ≤ 201 ∧ i = .int .i64 n ∧ Blk wr w.heap.size #[.int .i64 0, .int .i64 0, .string ⟨#[]⟩] 23 ∧ Below w.heap.size w wr ∧ Hid (∀ n' : Nat, n' < n → hitB k n' l = false)) (fun i _ => 201 - (intOf i).toNat)
      case atStart => exact ⟨0, by omega, rfl, hb, hB, fun n' h => absurd h (by omega)⟩
      case round =>
        obtain ⟨n, hn, rfl, hb2, hB2, hc2⟩ := hrel
        clear hb hB
        by_cases hn2 : n ≤ 200
        · have hH := head_len k n (by omega)
          have hhd := Lib.hid (hit_head k n l)
          have hyes := Lib.hid (hit_yes k n l)
          have has := Lib.hid (hit_as k n l)
          have hfo : Hid (formOf k n l = if (k : Int) = 1 then [] else l.drop ((headOf k n).length + 1)) := rfl
          have HW := fun u => word_any k u
          have HD := fun u => digitsR_any n (by omega) (by omega) u
          have hfl : (formOf k n l).length ≤ 1000 := by unfold formOf; split <;> simp; omega
          have HP := fun u => printR_any k n (formOf k n l) hfl u
          have hwd : wordOf k ++ [32] ++ digL n = headOf k n := by simp [headOf]
          have hwl := (word_ok k).2
          have hdl := digL_len n (by omega)
          have HN : Hid (hitB k n l = false → ∀ n' : Nat, n' < n + 1 → hitB k n' l = false) := by
            intro hf n' h
            rcases Nat.lt_or_ge n' n with h' | h'
            · exact hc2.out n' h'
            · obtain rfl : n' = n := by omega
              exact hf
          clear hc2
          generalize wordOf k = WK at *
          generalize digL n = DN at *
          generalize headOf k n = H at *
          have hn3 : (n : Int) ≤ 200 := by omega
          by_cases hpre : List.take H.length l = H
          · have hpl : H.length ≤ l.length := by rw [← hpre]; simp; omega
            have hpre' : (List.take H.length l == H) = true := by rw [hpre]; simp
            by_cases h1 : (k : Int) = 1
            · have hk1' : ((k : Int) != 1) = false := by simpa using h1
              have hfe : formOf k n l = [] := by rw [hfo.out, if_pos h1]
              rw [hfe] at HP has hyes
              clear hfo hhd hpre h1 hfe hfl
              go_wp2_with (first
                | (go_at_call 35; refine (HW _).mono ?_; rintro e w' ⟨rfl, rfl⟩)
                | (go_at_call 36; refine (HD _).mono ?_; rintro e w3 ⟨rfl, hb3⟩))
              have hB3 := hB2.trans (hb3.mono hB2.size)
              have hb3b := hb2.below hb3 hb2.lt
              have hbf : Blk (w3.alloc (.cells #[.int .i64 k, .int .i64 n, .string ⟨(([] : List UInt8)).toArray⟩] 23)) w3.heap.size #[.int .i64 k, .int .i64 n, .string ⟨(([] : List UInt8)).toArray⟩] 23 := Blk.new _ _ _
              have hbo := hb3b.alloc (.cells #[.int .i64 k, .int .i64 n, .string ⟨(([] : List UInt8)).toArray⟩] 23)
              have hB4 := hB3.alloc hB3.size (.cells #[.int .i64 k, .int .i64 n, .string ⟨(([] : List UInt8)).toArray⟩] 23)
              refine (HP _).mono ?_
              rintro e w4 ⟨rfl, hb4⟩
              have hB5 := hB4.trans (hb4.mono hB4.size)
              have hf5 := hbf.below hb4 hbf.lt
              have ho5 := hbo.below hb4 hbo.lt
              clear HW HD HP hb2 hB2 hb3 hB3 hb3b hbf hbo hB4 hb4
              have hHIT := Lib.hid (show hitB k n l = ((errE k n (([] : List UInt8)) == 0) && (printA k n (([] : List UInt8)) == l)) from has.out)
              clear has
              generalize errE k n (([] : List UInt8)) = ER at *
              generalize printA k n (([] : List UInt8)) = PA at *
              have x0 := hf5.cell 0
              have x1 := hf5.cell 1
              have x2 := hf5.cell 2
              have y0 := ho5.cell 0
              have y1 := ho5.cell 1
              have y2 := ho5.cell 2
              have z0 := ho5.frozen 0
              have z1 := ho5.frozen 1
              have z2 := ho5.frozen 2
              simp at x0 x1 x2 y0 y1 y2
              cases he : (ER == 0) with
              | false =>
                have hN' := Lib.hid (HN.out (by rw [hHIT.out, he]; rfl))
                clear hHIT HN hyes x0 x1 x2 y0 y1 y2 z0 z1 z2
                go_wp2_with fail
                go_round
                case rel => exact ⟨n + 1, by omega, by go_num, ho5, hB5, hN'⟩
                case measure => simp [intOf]; omega
              | true =>
                obtain rfl : ER = 0 := by simpa using he
                cases hp : (PA == l) with
                | false =>
                  have hN' := Lib.hid (HN.out (by rw [hHIT.out, hp]; simp))
                  clear hHIT HN hyes x0 x1 x2 y0 y1 y2 z0 z1 z2
                  go_wp2_with fail
                  go_round
                  case rel => exact ⟨n + 1, by omega, by go_num, ho5, hB5, hN'⟩
                  case measure => simp [intOf]; omega
                | true =>
                  have HY := Lib.hid (hyes.out (by rw [hHIT.out, hp]; rfl))
                  clear hHIT HN hyes hc
                  go_wp2_with fail
                  have hfin := ((ho5.set 0 (.int .i64 k)).set 1 (.int .i64 n)).set 2 (.string ⟨(([] : List UInt8)).toArray⟩)
                  have q0 := hfin.cell 0
                  have q1 := hfin.cell 1
                  have q2 := hfin.cell 2
                  simp at q0 q1 q2
                  have hBf : Below w.heap.size w (((w4.setCell ⟨w.heap.size, 0, none⟩ (.int .i64 k)).setCell ⟨w.heap.size, 1, none⟩ (.int .i64 n)).setCell ⟨w.heap.size, 2, none⟩ (.string ⟨(([] : List UInt8)).toArray⟩)) :=
                    ((hB5.setCell (p := ⟨w.heap.size, 0, none⟩) (Nat.le_refl _) _).setCell (p := ⟨w.heap.size, 1, none⟩) (Nat.le_refl _) _).setCell (p := ⟨w.heap.size, 2, none⟩) (Nat.le_refl _) _
                  refine bodyPost_ret (v := .tuple #[fV k n (([] : List UInt8)), .int .i64 0]) (by simp [results, Tryd.results25, go_sem, q0, q1, q2]) rfl ⟨by rw [HY.out.1, HY.out.2.1, HY.out.2.2.1, HY.out.2.2.2], hBf⟩
            · have hk1' : ((k : Int) != 1) = true := by simpa using h1
              have hfe : formOf k n l = l.drop (H.length + 1) := by rw [hfo.out, if_neg h1]
              rw [hfe] at HP has hyes
              clear hfo hhd hpre h1 hfe hfl
              by_cases hlong : H.length < l.length
              · obtain ⟨v1, v2, v3⟩ := sum_i H.length 1 (H.length+1) (by omega) (by omega)
                have v4 : (H.length : Int) + 1 ≤ l.length := by clear v1 v3; omega
                have htake : List.take (l.length - (H.length + 1)) (List.drop (H.length + 1) l) = List.drop (H.length + 1) l := List.take_of_length_le (by simp)
                go_upto_region 11 with (first
                  | (go_at_call 35; refine (HW _).mono ?_; rintro e w' ⟨rfl, rfl⟩)
                  | (go_at_call 36; refine (HD _).mono ?_; rintro e w3 ⟨rfl, hb3⟩))
                go_upto_region 12 with fail
                clear htake v1 v2 v3 v4
                generalize List.drop (H.length + 1) l = FO at *
                go_wp2_with fail
                have hB3 := hB2.trans (hb3.mono hB2.size)
                have hb3b := hb2.below hb3 hb2.lt
                have hbf : Blk (w3.alloc (.cells #[.int .i64 k, .int .i64 n, .string ⟨(FO).toArray⟩] 23)) w3.heap.size #[.int .i64 k, .int .i64 n, .string ⟨(FO).toArray⟩] 23 := Blk.new _ _ _
                have hbo := hb3b.alloc (.cells #[.int .i64 k, .int .i64 n, .string ⟨(FO).toArray⟩] 23)
                have hB4 := hB3.alloc hB3.size (.cells #[.int .i64 k, .int .i64 n, .string ⟨(FO).toArray⟩] 23)
                refine (HP _).mono ?_
                rintro e w4 ⟨rfl, hb4⟩
                have hB5 := hB4.trans (hb4.mono hB4.size)
                have hf5 := hbf.below hb4 hbf.lt
                have ho5 := hbo.below hb4 hbo.lt
                clear HW HD HP hb2 hB2 hb3 hB3 hb3b hbf hbo hB4 hb4
                have hHIT := Lib.hid (show hitB k n l = ((errE k n (FO) == 0) && (printA k n (FO) == l)) from has.out)
                clear has
                generalize errE k n (FO) = ER at *
                generalize printA k n (FO) = PA at *
                have x0 := hf5.cell 0
                have x1 := hf5.cell 1
                have x2 := hf5.cell 2
                have y0 := ho5.cell 0
                have y1 := ho5.cell 1
                have y2 := ho5.cell 2
                have z0 := ho5.frozen 0
                have z1 := ho5.frozen 1
                have z2 := ho5.frozen 2
                simp at x0 x1 x2 y0 y1 y2
                cases he : (ER == 0) with
                | false =>
                  have hN' := Lib.hid (HN.out (by rw [hHIT.out, he]; rfl))
                  clear hHIT HN hyes x0 x1 x2 y0 y1 y2 z0 z1 z2
                  go_wp2_with fail
                  go_round
                  case rel => exact ⟨n + 1, by omega, by go_num, ho5, hB5, hN'⟩
                  case measure => simp [intOf]; omega
                | true =>
                  obtain rfl : ER = 0 := by simpa using he
                  cases hp : (PA == l) with
                  | false =>
                    have hN' := Lib.hid (HN.out (by rw [hHIT.out, hp]; simp))
                    clear hHIT HN hyes x0 x1 x2 y0 y1 y2 z0 z1 z2
                    go_wp2_with fail
                    go_round
                    case rel => exact ⟨n + 1, by omega, by go_num, ho5, hB5, hN'⟩
                    case measure => simp [intOf]; omega
                  | true =>
                    have HY := Lib.hid (hyes.out (by rw [hHIT.out, hp]; rfl))
                    clear hHIT HN hyes hc
                    go_wp2_with fail
                    have hfin := ((ho5.set 0 (.int .i64 k)).set 1 (.int .i64 n)).set 2 (.string ⟨(FO).toArray⟩)
                    have q0 := hfin.cell 0
                    have q1 := hfin.cell 1
                    have q2 := hfin.cell 2
                    simp at q0 q1 q2
                    have hBf : Below w.heap.size w (((w4.setCell ⟨w.heap.size, 0, none⟩ (.int .i64 k)).setCell ⟨w.heap.size, 1, none⟩ (.int .i64 n)).setCell ⟨w.heap.size, 2, none⟩ (.string ⟨(FO).toArray⟩)) :=
                      ((hB5.setCell (p := ⟨w.heap.size, 0, none⟩) (Nat.le_refl _) _).setCell (p := ⟨w.heap.size, 1, none⟩) (Nat.le_refl _) _).setCell (p := ⟨w.heap.size, 2, none⟩) (Nat.le_refl _) _
                    refine bodyPost_ret (v := .tuple #[fV k n (FO), .int .i64 0]) (by simp [results, Tryd.results25, go_sem, q0, q1, q2]) rfl ⟨by rw [HY.out.1, HY.out.2.1, HY.out.2.2.1, HY.out.2.2.2], hBf⟩
              · have hemp : l.drop (H.length + 1) = [] := List.drop_eq_nil_of_le (by omega)
                rw [hemp] at HP has hyes
                clear hemp
                go_wp2_with (first
                  | (go_at_call 35; refine (HW _).mono ?_; rintro e w' ⟨rfl, rfl⟩)
                  | (go_at_call 36; refine (HD _).mono ?_; rintro e w3 ⟨rfl, hb3⟩))
                have hB3 := hB2.trans (hb3.mono hB2.size)
                have hb3b := hb2.below hb3 hb2.lt
                have hbf : Blk (w3.alloc (.cells #[.int .i64 k, .int .i64 n, .string ⟨(([] : List UInt8)).toArray⟩] 23)) w3.heap.size #[.int .i64 k, .int .i64 n, .string ⟨(([] : List UInt8)).toArray⟩] 23 := Blk.new _ _ _
                have hbo := hb3b.alloc (.cells #[.int .i64 k, .int .i64 n, .string ⟨(([] : List UInt8)).toArray⟩] 23)
                have hB4 := hB3.alloc hB3.size (.cells #[.int .i64 k, .int .i64 n, .string ⟨(([] : List UInt8)).toArray⟩] 23)
                refine (HP _).mono ?_
                rintro e w4 ⟨rfl, hb4⟩
                have hB5 := hB4.trans (hb4.mono hB4.size)
                have hf5 := hbf.below hb4 hbf.lt
                have ho5 := hbo.below hb4 hbo.lt
                clear HW HD HP hb2 hB2 hb3 hB3 hb3b hbf hbo hB4 hb4
                have hHIT := Lib.hid (show hitB k n l = ((errE k n (([] : List UInt8)) == 0) && (printA k n (([] : List UInt8)) == l)) from has.out)
                clear has
                generalize errE k n (([] : List UInt8)) = ER at *
                generalize printA k n (([] : List UInt8)) = PA at *
                have x0 := hf5.cell 0
                have x1 := hf5.cell 1
                have x2 := hf5.cell 2
                have y0 := ho5.cell 0
                have y1 := ho5.cell 1
                have y2 := ho5.cell 2
                have z0 := ho5.frozen 0
                have z1 := ho5.frozen 1
                have z2 := ho5.frozen 2
                simp at x0 x1 x2 y0 y1 y2
                cases he : (ER == 0) with
                | false =>
                  have hN' := Lib.hid (HN.out (by rw [hHIT.out, he]; rfl))
                  clear hHIT HN hyes x0 x1 x2 y0 y1 y2 z0 z1 z2
                  go_wp2_with fail
                  go_round
                  case rel => exact ⟨n + 1, by omega, by go_num, ho5, hB5, hN'⟩
                  case measure => simp [intOf]; omega
                | true =>
                  obtain rfl : ER = 0 := by simpa using he
                  cases hp : (PA == l) with
                  | false =>
                    have hN' := Lib.hid (HN.out (by rw [hHIT.out, hp]; simp))
                    clear hHIT HN hyes x0 x1 x2 y0 y1 y2 z0 z1 z2
                    go_wp2_with fail
                    go_round
                    case rel => exact ⟨n + 1, by omega, by go_num, ho5, hB5, hN'⟩
                    case measure => simp [intOf]; omega
                  | true =>
                    have HY := Lib.hid (hyes.out (by rw [hHIT.out, hp]; rfl))
                    clear hHIT HN hyes hc
                    go_wp2_with fail
                    have hfin := ((ho5.set 0 (.int .i64 k)).set 1 (.int .i64 n)).set 2 (.string ⟨(([] : List UInt8)).toArray⟩)
                    have q0 := hfin.cell 0
                    have q1 := hfin.cell 1
                    have q2 := hfin.cell 2
                    simp at q0 q1 q2
                    have hBf : Below w.heap.size w (((w4.setCell ⟨w.heap.size, 0, none⟩ (.int .i64 k)).setCell ⟨w.heap.size, 1, none⟩ (.int .i64 n)).setCell ⟨w.heap.size, 2, none⟩ (.string ⟨(([] : List UInt8)).toArray⟩)) :=
                      ((hB5.setCell (p := ⟨w.heap.size, 0, none⟩) (Nat.le_refl _) _).setCell (p := ⟨w.heap.size, 1, none⟩) (Nat.le_refl _) _).setCell (p := ⟨w.heap.size, 2, none⟩) (Nat.le_refl _) _
                    refine bodyPost_ret (v := .tuple #[fV k n (([] : List UInt8)), .int .i64 0]) (by simp [results, Tryd.results25, go_sem, q0, q1, q2]) rfl ⟨by rw [HY.out.1, HY.out.2.1, HY.out.2.2.1, HY.out.2.2.2], hBf⟩
          · have hf : hitB k n l = false := by
              rw [Bool.eq_false_iff]; exact fun h => hpre (hhd.out h)
            have hN := HN.out hf
            have hpre' : (List.take H.length l == H) = false := by simpa using hpre
            have HN' := Lib.hid hN
            clear hN HN hf hpre hhd hyes has hfo HP
            go_wp2_with (first
              | (go_at_call 35; refine (HW _).mono ?_; rintro e w' ⟨rfl, rfl⟩)
              | (go_at_call 36; refine (HD _).mono ?_; rintro e w3 ⟨rfl, hb3⟩))
            all_goals
              go_round
              case rel => exact ⟨n + 1, by omega, by go_num, hb2.below hb3 hb2.lt, hB2.trans (hb3.mono hB2.size), HN'⟩
              case measure => simp [intOf]; omega
        · have hn4 : ¬ ((n : Int) ≤ 200) := by omega
          have HN : Hid (∀ (k' n : Nat), 1 ≤ k' → k' < k + 1 → n ≤ 200 → hitB k' n l = false) := by
            intro k' n' h1 h2 h3
            rcases Nat.lt_or_ge k' k with h' | h'
            · exact hc.out k' n' h1 h' h3
            · obtain rfl : k' = k := by omega
              exact hc2.out n' (by omega)
          clear hc hc2
          go_wp2
          go_round
          case rel => exact ⟨k + 1, by omega, by omega, by go_num, hb2, hB2, HN⟩
          case measure => simp [intOf]; omega
    · have hk5 : ¬ ((k : Int) ≤ 3) := by omega
      have HE := Lib.hid (hit_none l (fun k' n h1 h2 h3 => hc.out k' n h1 (by omega) h3))
      clear hc
      have b1 := hb.cell 0
      have b2 := hb.cell 1
      have b3 := hb.cell 2
      have f1 := hb.frozen 0
      have f2 := hb.frozen 1
      have f3 := hb.frozen 2
      simp at b1 b2 b3
      go_wp2
      have hfin := ((hb.set 0 (.int .i64 0)).set 1 (.int .i64 0)).set 2 (.string ⟨#[]⟩)
      have q0 := hfin.cell 0
      have q1 := hfin.cell 1
      have q2 := hfin.cell 2
      simp at q0 q1 q2
      have hBf : Below w.heap.size w (((wr.setCell ⟨w.heap.size, 0, none⟩ (.int .i64 0)).setCell ⟨w.heap.size, 1, none⟩ (.int .i64 0)).setCell ⟨w.heap.size, 2, none⟩ (.string ⟨#[]⟩)) :=
        ((hB.setCell (p := ⟨w.heap.size, 0, none⟩) (Nat.le_refl _) _).setCell (p := ⟨w.heap.size, 1, none⟩) (Nat.le_refl _) _).setCell (p := ⟨w.heap.size, 2, none⟩) (Nat.le_refl _) _
      refine bodyPost_ret (v := .tuple #[fV 0 0 [], .int .i64 130]) (by simp [results, Tryd.results25, go_sem, q0, q1, q2]) rfl ⟨by rw [HE.out.1, HE.out.2.1, HE.out.2.2.1, HE.out.2.2.2], hBf⟩
end Go.Proofs.YtcgffokejpgbdaaDoor
