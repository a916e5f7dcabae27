/- Walks of the document's answer for layer 13: Place, Pass. -/
import Derived.Test.YtcgffokejpgbdaaDoorFilterR3
namespace Go.Proofs.YtcgffokejpgbdaaDoor
open Go.RowKit
theorem placeI_at {k m : Int} {form l : List UInt8} {i : Nat} (hi : i < l.length) (hc : firstL (predsOf k m form) 0 l = firstL (predsOf k m form) i (l.drop i)) (hf : passB (predsOf k m form) i l[i] = false) : placeI k m form l = i := by
  have : firstL (predsOf k m form) 0 l = i := by rw [hc, drop_cons l i hi, firstL, hf]; simp
  rw [placeI, if_neg (by omega), this]
theorem placeI_on {k m : Int} {form l : List UInt8} {i : Nat} (hi : i < l.length) (hc : firstL (predsOf k m form) 0 l = firstL (predsOf k m form) i (l.drop i)) (hf : passB (predsOf k m form) i l[i] = true) : firstL (predsOf k m form) 0 l = firstL (predsOf k m form) (i + 1) (l.drop (i + 1)) := by
  rw [hc, drop_cons l i hi, firstL, hf]; simp
theorem placeI_end {k m : Int} {form l : List UInt8} (hc : firstL (predsOf k m form) 0 l = firstL (predsOf k m form) l.length (l.drop l.length)) : placeI k m form l = if l.length < sizeOf k form then (l.length : Int) else -1 := by
  have : firstL (predsOf k m form) 0 l = -1 := by rw [hc]; simp [firstL]
  rw [placeI, this]; simp

set_option maxRecDepth 100000 in
set_option maxHeartbeats 20000000 in
theorem placeR_any (k m : Int) (form l : List UInt8) (hl : form.length ≤ 1000) (hll : l.length ≤ 100000) (w : World) :
    Calls Tryd.prog 17 #[fV k m form, .string ⟨l.toArray⟩] w fun e w' => e = .returned (.tuple #[.int .i64 (placeA k m form l), .int .i64 (errE k m form)]) ∧ Below w.heap.size w w' := by
  have hB0 := (Below.refl w.heap.size w).alloc (Nat.le_refl _) (.cells #[.int .i64 k, .int .i64 m, .string ⟨form.toArray⟩] 23)
  have b0 := Blk.new w #[.int .i64 k, .int .i64 m, .string ⟨form.toArray⟩] 23
  have HR := rightR_any k m form hl (w.alloc (.cells #[.int .i64 k, .int .i64 m, .string ⟨form.toArray⟩] 23))
  cases hr : rightB k m form with
  | false =>
    have HZ : Hid (placeA k m form l = 0 ∧ errE k m form = 130) := by show _ ∧ _; rw [placeA, errE, hr]; exact ⟨rfl, rfl⟩
    rw [hr] at HR
    clear hr
    go_enter Tryd.func17, Tryd.ntmps17
    go_wp2_with (go_at_call 21; refine HR.mono ?_; rintro e w1 ⟨rfl, hb1⟩)
    go_ret2
    exact ⟨by rw [HZ.out.1, HZ.out.2]; rfl, hB0.trans (hb1.mono hB0.size)⟩
  | true =>
    have HZ : Hid (placeA k m form l = placeI k m form l ∧ errE k m form = 0) := by show _ ∧ _; rw [placeA, errE, hr]; exact ⟨rfl, rfl⟩
    have HS := fun u => spread_any form hl u
    have HO := fun (c : UInt8) u => ofR_any form hl c u
    have hf := right_facts hr
    have hs3 := Lib.hid (fun h : k = 3 => right_spr (m := m) (form := form) (h ▸ hr))
    have hsl : (sprS form).length ≤ 9 * form.length := by
      have := spr_len form.length form (Nat.le_refl _)
      unfold sprS; split
      · exact this
      · simp
    rw [hr] at HR
    clear hr
    generalize hSS : sprS form = SS at *
    generalize recOk form = RO at *
    go_enter Tryd.func17, Tryd.ntmps17
    go_wp2_with fail
    refine HR.mono ?_
    rintro e w1 ⟨rfl, hb1⟩
    have hB1 := hB0.trans (hb1.mono hB0.size)
    have b1 := b0.below hb1 b0.lt
    have b10 := b1.cell 0
    have b11 := b1.cell 1
    have b12 := b1.cell 2
    simp at b10 b11 b12
    clear HR hb1 b0
    go_wp2_with (go_at_call 29; refine (HS _).mono ?_; rintro e w' ⟨rfl, rfl⟩)
    go_loopw [8] (fun i wr => ∃ j n : Nat, j ≤ l.length ∧ (j : Int) ≤ m ∧ i = .int .i64 j ∧ wr = w1.drewN n ∧ Hid (firstL (predsOf k m form) 0 l = firstL (predsOf k m form) j (l.drop j))) (fun i _ => l.length - (intOf i).toNat)
    case atStart => exact ⟨0, 0, Nat.zero_le _, hf.1, rfl, rfl, rfl⟩
    case round =>
      obtain ⟨j, n, hj, hjm, rfl, rfl, hc⟩ := hrel
      by_cases hlt : j < l.length
      · have hp := passB_eq k m form j l[j]
        obtain ⟨v1, v2, v3⟩ := sum_i j 1 (j+1) (by omega) (by omega)
        by_cases hm : (j : Int) = m
        · have HPI : Hid (placeI k m form l = j) := placeI_at hlt hc.out (by rw [hp]; simp [hm])
          have hm' : ((j : Int) == m) = true := by simpa using hm
          clear hc hp hm
          go_wp2
          go_quiet (fail)
          go_wp2
          go_ret2
          exact ⟨by rw [HZ.out.1, HZ.out.2, HPI.out]; rfl, below_drewN (below_drewN hB1 _) _⟩
        · have hm' : ((j : Int) == m) = false := by simpa using hm
          have hjm2 : (j : Int) < m := by omega
          rcases hf.2.2.2 with rfl | rfl | rfl
          · have HN := Lib.hid (placeI_on hlt hc.out (by rw [hp]; simp [hjm2]))
            clear hc hp hm
            go_wp2
            go_quiet (fail)
            clear v1
            go_wp2
            go_round
            case rel => exact ⟨j + 1, _, by omega, by omega, by go_num, by first | rfl | exact World.drewN_drewN _ _ _, HN⟩
            case measure => simp [intOf]; omega
          · cases ho : ofL form l[j] with
            | false =>
              have HPI : Hid (placeI 2 m form l = j) := placeI_at hlt hc.out (by rw [hp]; simp [ho])
              have HO2 := fun u => HO l[j] u
              rw [ho] at HO2
              clear hc hp hm HO ho
              go_wp2
              go_quiet (first | (go_at_call 30; exact (HO2 _).mono fun _ _ h => ⟨h.1, _, h.2.symm⟩))
              go_wp2
              go_ret2
              exact ⟨by rw [HZ.out.1, HZ.out.2, HPI.out]; rfl, below_drewN (below_drewN hB1 _) _⟩
            | true =>
              have HN := Lib.hid (placeI_on hlt hc.out (by rw [hp]; simp [hjm2, ho]))
              have HO2 := fun u => HO l[j] u
              rw [ho] at HO2
              clear hc hp hm HO ho
              go_wp2
              go_quiet (first | (go_at_call 30; exact (HO2 _).mono fun _ _ h => ⟨h.1, _, h.2.symm⟩))
              clear v1
              go_wp2
              go_round
              case rel => exact ⟨j + 1, _, by omega, by omega, by go_num, by first | rfl | exact World.drewN_drewN _ _ _, HN⟩
              case measure => simp [intOf]; omega
          · have hs := hs3.out rfl
            by_cases hge : SS.length ≤ j
            · have HPI : Hid (placeI 3 m form l = j) := placeI_at hlt hc.out (by rw [hp, ← hs]; simp [inL, hge])
              have hge' : (SS.length : Int) ≤ j := by omega
              clear hc hp hm HO hs
              go_wp2
              go_quiet (fail)
              go_wp2
              go_ret2
              exact ⟨by rw [HZ.out.1, HZ.out.2, HPI.out]; rfl, below_drewN (below_drewN hB1 _) _⟩
            · have hlt2 : j < SS.length := by omega
              have hge' : (j : Int) < SS.length := by omega
              have hge2 : decide (SS.length ≤ j) = false := by simpa using hlt2
              have hge3 : decide ((SS.length : Int) ≤ j) = false := by simpa using hlt2
              have hin : inL (spr form).1 j l[j] = fitB SS[j] l[j] := by rw [← hs, inL, List.getElem?_eq_getElem hlt2]
              have HF := fun u => fits_any SS[j] l[j] u
              cases ho : fitB SS[j] l[j] with
              | false =>
                have HPI : Hid (placeI 3 m form l = j) := placeI_at hlt hc.out (by rw [hp]; simp [hin, ho])
                rw [ho] at HF
                clear hc hp hm HO ho hin hge hs
                go_wp2
                go_quiet (first | (go_at_call 31; exact (HF _).mono fun _ _ h => ⟨h.1, _, h.2.symm⟩))
                go_wp2
                go_ret2
                exact ⟨by rw [HZ.out.1, HZ.out.2, HPI.out]; rfl, below_drewN (below_drewN hB1 _) _⟩
              | true =>
                have HN := Lib.hid (placeI_on hlt hc.out (by rw [hp]; simp [hjm2, hin, ho]))
                rw [ho] at HF
                clear hc hp hm HO ho hin hge hs
                go_wp2
                go_quiet (first | (go_at_call 31; exact (HF _).mono fun _ _ h => ⟨h.1, _, h.2.symm⟩))
                clear v1
                go_wp2
                go_round
                case rel => exact ⟨j + 1, _, by omega, by omega, by go_num, by first | rfl | exact World.drewN_drewN _ _ _, HN⟩
                case measure => simp [intOf]; omega
      · obtain rfl : j = l.length := by omega
        have HPI := Lib.hid (placeI_end hc.out)
        clear hc
        by_cases hk3 : k = 3
        · subst hk3
          have hz : sizeOf 3 form = SS.length := by rw [hs3.out rfl]; simp [sizeOf]
          rw [hz] at HPI
          by_cases hsh : l.length < SS.length
          · have hP : Hid (placeI 3 m form l = l.length) := by show _ = _; rw [HPI.out, if_pos hsh]
            clear HPI
            go_wp2
            go_ret2
            exact ⟨by rw [HZ.out.1, HZ.out.2, hP.out]; rfl, below_drewN hB1 _⟩
          · have hP : Hid (placeI 3 m form l = -1) := by show _ = _; rw [HPI.out, if_neg hsh]
            clear HPI
            go_wp2
            go_ret2
            exact ⟨by rw [HZ.out.1, HZ.out.2, hP.out]; rfl, below_drewN hB1 _⟩
        · have hP : Hid (placeI k m form l = -1) := by show _ = _; rw [HPI.out, if_neg (by simp [sizeOf, hk3])]
          have hk' : (k == 3) = false := by simpa using hk3
          clear HPI
          go_wp2
          go_ret2
          exact ⟨by rw [HZ.out.1, HZ.out.2, hP.out]; rfl, below_drewN hB1 _⟩

set_option maxHeartbeats 1000000 in
theorem passR_any (k m : Int) (form l : List UInt8) (hl : form.length ≤ 1000) (hll : l.length ≤ 100000) (w : World) :
    Calls Tryd.prog 15 #[fV k m form, .string ⟨l.toArray⟩] w fun e w' => e = .returned (.tuple #[.bool (passA k m form l), .int .i64 (errE k m form)]) ∧ Below w.heap.size w w' := by
  have hB0 := (Below.refl w.heap.size w).alloc (Nat.le_refl _) (.cells #[.int .i64 k, .int .i64 m, .string ⟨form.toArray⟩] 23)
  have HP := placeR_any k m form l hl hll (w.alloc (.cells #[.int .i64 k, .int .i64 m, .string ⟨form.toArray⟩] 23))
  cases hr : rightB k m form with
  | false =>
    have HZ : Hid (passA k m form l = false ∧ errE k m form = 130) := by show _ ∧ _; rw [passA, errE, hr]; exact ⟨rfl, rfl⟩
    have hz : errE k m form = 130 := HZ.out.2
    rw [hz] at HP
    clear hr hz
    generalize placeA k m form l = PL at HP
    go_enter Tryd.func15, Tryd.ntmps15
    go_wp2_with (go_at_call 17; refine HP.mono ?_; rintro e w1 ⟨rfl, hb1⟩)
    go_ret2
    exact ⟨by rw [HZ.out.1, HZ.out.2]; rfl, hB0.trans (hb1.mono hB0.size)⟩
  | true =>
    have HZ : Hid (passA k m form l = decide (placeI k m form l < 0) ∧ errE k m form = 0) := by show _ ∧ _; rw [passA, errE, hr]; exact ⟨rfl, rfl⟩
    have hz : errE k m form = 0 ∧ placeA k m form l = placeI k m form l := ⟨HZ.out.2, by rw [placeA, hr]; rfl⟩
    rw [hz.1, hz.2] at HP
    clear hr hz
    generalize placeI k m form l = PL at *
    go_enter Tryd.func15, Tryd.ntmps15
    go_wp2_with (go_at_call 17; refine HP.mono ?_; rintro e w1 ⟨rfl, hb1⟩)
    go_ret2
    exact ⟨by rw [HZ.out.1, HZ.out.2]; rfl, hB0.trans (hb1.mono hB0.size)⟩
end Go.Proofs.YtcgffokejpgbdaaDoor
