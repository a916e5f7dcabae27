/- Walks of the document's answer for layer 13: spread. -/
import Derived.Test.YtcgffokejpgbdaaDoorFilterR1
import Derived.Test.YtcgffokejpgbdaaDoorFilterRound
import Derived.Deep.DeepCutAuto
namespace Go.Proofs.YtcgffokejpgbdaaDoor
open Go.RowKit
def sprS (l : List UInt8) : List UInt8 := if (spr l).2 then (spr l).1 else []
theorem spr_cons (c : UInt8) (r : List UInt8) : spr (c :: r) = if (sgn c r).2.2 then (List.replicate (sgn c r).1 c ++ (spr (sgn c r).2.1).1, (spr (sgn c r).2.1).2) else ([], false) := by rw [spr]
theorem sgn_sep {c : UInt8} (r : List UInt8) (h : isSepB c = true) : sgn c r = (1, r, true) := by unfold sgn; simp [h]
theorem sgn_nil {c : UInt8} (h : ¬ isSepB c = true) (h2 : isDA c = true) : (sgn c []).2.2 = false := by unfold sgn; simp [h, h2]
theorem sgn_rep {c d : UInt8} (r : List UInt8) (h : ¬ isSepB c = true) (h2 : isDA c = true) (h3 : isRep d = true) : sgn c (d :: r) = (d.toNat - 48, r, true) := by unfold sgn; simp [h, h2, h3]
theorem sgn_norep {c d : UInt8} (r : List UInt8) (h : ¬ isSepB c = true) (h2 : isDA c = true) (h3 : ¬ isRep d = true) : (sgn c (d :: r)).2.2 = false := by unfold sgn; simp [h, h2, h3]
theorem sgn_other {c : UInt8} (r : List UInt8) (h : ¬ isSepB c = true) (h2 : ¬ isDA c = true) : (sgn c r).2.2 = false := by unfold sgn; simp [h, h2]
theorem spr_bad {l out : List UInt8} {k : Nat} {c : UInt8} {r : List UInt8} (hc : spr l = (out ++ (spr (l.drop k)).1, (spr (l.drop k)).2)) (hd : l.drop k = c :: r) (hs : (sgn c r).2.2 = false) : sprS l = [] ∧ recOk l = false := by
  have : (spr l).2 = false := by rw [hc, hd, spr_cons, hs]; rfl
  exact ⟨by rw [sprS, this]; rfl, by rw [recOk, this]; simp⟩
set_option maxHeartbeats 4000000 in
theorem spread_any (l : List UInt8) (hl : l.length ≤ 1000) (w : World) :
    Calls Tryd.prog 29 #[.string ⟨l.toArray⟩] w fun e w' => e = .returned (.tuple #[.string ⟨(sprS l).toArray⟩, .bool (recOk l)]) ∧ w = w' := by
  go_enter Tryd.func29, Tryd.ntmps29
  go_wp2
  go_loop [4, 5] (fun o i => ∃ (k : Nat) (out : List UInt8), k ≤ l.length ∧ o = .string ⟨out.toArray⟩ ∧ i = .int .i64 k ∧ Hid (spr l = (out ++ (spr (l.drop k)).1, (spr (l.drop k)).2)) ∧ out.length ≤ 9 * k) (fun _ i => l.length - (intOf i).toNat)
  case atStart => exact ⟨0, [], Nat.zero_le _, rfl, rfl, rfl, by simp⟩
  case round =>
    obtain ⟨k, out, hk, rfl, rfl, hc, ho⟩ := hrel
    by_cases hlt : k < l.length
    · obtain ⟨w1, w2, w3⟩ := sum_i k 1 (k+1) (by omega) (by omega)
      have w4 : (k : Int) + 1 ≤ l.length := by clear w1 w3; omega
      obtain ⟨c, hcc⟩ : ∃ c, l[k] = c := ⟨_, rfl⟩
      have hdr : l.drop k = c :: l.drop (k + 1) := by rw [drop_cons l k hlt, hcc]
      have hs : List.take 1 (List.drop k l) = [c] := by rw [hdr]; rfl
      by_cases hsep : isSepB c = true
      · have hN : Hid (spr l = ((out ++ [c]) ++ (spr (l.drop (k + 1))).1, (spr (l.drop (k + 1))).2)) := by
          show _ = _
          rw [hc.out, hdr, spr_cons, sgn_sep _ hsep]; simp
        clear hc hdr
        simp [isSepB] at hsep
        rcases hsep with (rfl | rfl) | rfl
        all_goals
          go_wp2
          go_round
          case rel => exact ⟨k + 1, _, by omega, rfl, by go_num, hN, by simp; omega⟩
          case measure => simp [intOf]; omega
      · by_cases hda : isDA c = true
        · by_cases hlen : k + 1 < l.length
          · obtain ⟨d, hdd⟩ : ∃ d, l[k + 1] = d := ⟨_, rfl⟩
            have hdr2 : l.drop (k + 1) = d :: l.drop (k + 2) := by rw [drop_cons l (k + 1) hlen, hdd]
            have w5 : (k : Int) + 1 < l.length := by clear w1 w3; omega
            have w6 : ((k : Int) + 1 == l.length) = false := by simp; omega
            by_cases hr : isRep d = true
            · have hN : Hid (spr l = ((out ++ List.replicate (d.toNat - 48) c) ++ (spr (l.drop (k + 2))).1, (spr (l.drop (k + 2))).2)) := by
                show _ = _
                rw [hc.out, hdr, spr_cons, hdr2, sgn_rep _ hsep hda hr]; simp
              clear hc hdr hdr2
              simp [isSepB, isDA] at hsep hda
              simp only [isRep, Bool.and_eq_true, decide_eq_true_eq] at hr
              obtain ⟨hr1, hr2⟩ := hr
              obtain ⟨m, hm⟩ : ∃ m, m = d.toNat - 48 := ⟨_, rfl⟩
              rw [← hm] at hN
              have hm1 : IntKind.u8.wrap ((d.toNat : Int) - 48) = (m : Int) := (IntWalk.u8_in _ (by omega)).trans (by omega)
              have hm2 : m ≤ 9 := by omega
              clear hm
              obtain ⟨y, hy⟩ : ∃ y, y = c := ⟨_, rfl⟩
              rw [← hy] at hN
              rcases hda with rfl | rfl
              all_goals
                go_wp2
                go_loop [4, 7] (fun o j => ∃ (jn : Nat), jn ≤ m ∧ o = .string ⟨(out ++ List.replicate jn y).toArray⟩ ∧ j = .int .i64 jn) (fun _ j => m - (intOf j).toNat)
                case atStart => exact ⟨0, Nat.zero_le _, by simp, rfl⟩
                case round =>
                  obtain ⟨j, hj, rfl, rfl⟩ := hrel
                  by_cases hjm : j < m
                  · obtain ⟨v1, v2, v3⟩ := sum_i j 1 (j+1) (by omega) (by omega)
                    go_wp2
                    go_round
                    case rel => exact ⟨j + 1, by omega, by rw [List.replicate_succ', hy], by go_num⟩
                    case measure => simp [intOf]; omega
                  · obtain rfl : j = m := by omega
                    obtain ⟨v1, v2, v3⟩ := sum_i k 2 (k+2) (by omega) (by omega)
                    go_wp2
                    go_round
                    case rel => exact ⟨k + 2, _, by omega, rfl, by go_num, hN, by simp; omega⟩
                    case measure => simp [intOf]; omega
            · have HB := Lib.hid (spr_bad hc.out hdr (by rw [hdr2]; exact sgn_norep _ hsep hda hr))
              clear hc hdr hdr2
              simp [isSepB, isDA] at hsep hda
              by_cases h49 : (d.toNat : Int) < 49
              · rcases hda with rfl | rfl
                all_goals
                  go_wp2
                  go_ret2
                  exact ⟨by rw [HB.out.1, HB.out.2]; rfl, rfl⟩
              · have h49' : decide ((d.toNat : Int) < 49) = false := by simpa using h49
                have h57 : 57 < (d.toNat : Int) := by simp [isRep] at hr; omega
                rcases hda with rfl | rfl
                all_goals
                  go_wp2
                  go_ret2
                  exact ⟨by rw [HB.out.1, HB.out.2]; rfl, rfl⟩
          · have hend : l.drop (k + 1) = [] := List.drop_eq_nil_of_le (by omega)
            have HB := Lib.hid (spr_bad hc.out hdr (by rw [hend]; exact sgn_nil hsep hda))
            have w6 : ((k : Int) + 1 == l.length) = true := by simp; omega
            clear hc hdr hend
            simp [isSepB, isDA] at hsep hda
            rcases hda with rfl | rfl
            all_goals
              go_wp2
              go_ret2
              exact ⟨by rw [HB.out.1, HB.out.2]; rfl, rfl⟩
        · have HB := Lib.hid (spr_bad hc.out hdr (sgn_other _ hsep hda))
          clear hc hdr
          simp [isSepB, isDA] at hsep hda
          have n1 : ([c] == [45]) = false := by simp [hsep]
          have n2 : ([c] == [58]) = false := by simp [hsep]
          have n3 : ([c] == [47]) = false := by simp [hsep]
          have n4 : ([c] == [100]) = false := by simp [hda]
          have n5 : ([c] == [97]) = false := by simp [hda]
          go_wp2
          go_ret2
          exact ⟨by rw [HB.out.1, HB.out.2]; rfl, rfl⟩
    · have hend : l.drop k = [] := List.drop_eq_nil_of_le (by omega)
      have hF : Hid (spr l = (out, true)) := by
        show _ = _
        rw [hc.out, hend, spr]; simp
      clear hc hend
      have hS : Hid (sprS l = out) := by show _ = _; rw [sprS, hF.out]; rfl
      have hR : Hid (recOk l = !l.isEmpty) := by show _ = _; rw [recOk, hF.out]; simp
      clear hF
      go_wp2
      all_goals go_ret2
      all_goals exact ⟨by rw [hS.out, hR.out]; simp_all, rfl⟩
end Go.Proofs.YtcgffokejpgbdaaDoor
