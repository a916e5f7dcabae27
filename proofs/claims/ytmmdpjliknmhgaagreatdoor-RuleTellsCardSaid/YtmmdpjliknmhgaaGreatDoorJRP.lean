/- Joined: FlrR1; FlrR2; FlrR3; LabQ1; RqA -/
import Derived.Test.YtmmdpjliknmhgaaGreatDoorJRD
import Derived.BigQuiet
import Derived.Test.YtmmdpjliknmhgaaGreatDoorJRE
import Derived.Deep.DeepCutAuto
import Derived.Test.YtmmdpjliknmhgaaGreatDoorJRF
import Derived.Test.YtmmdpjliknmhgaaGreatDoorJRG
/- Walks of the document's answer for layer 13: class, of, fits. -/
namespace Go.Proofs.YtmmdpjliknmhgaaGreatDoor
open Go.RowKit
theorem fdif_i (k : Nat) (m : Nat) (hm : (m : Int) = k - 1) (h : k ≤ 9223372036854775807) : IntKind.i64.wrap ((k : Int) - 1) = k - 1 ∧ (0 : Int) ≤ k - 1 ∧ ((k : Int) - 1).toNat = m :=
  ⟨IntWalk.i64_in _ (by omega), by omega, by omega⟩
def clsOk (l : List UInt8) (j : Nat) : Prop := ∀ c, l[j]? = some c → 33 ≤ c.toNat ∧ c.toNat ≤ 126 ∧ (j % 2 = 1 → ∀ d, l[j-1]? = some d → d.toNat ≤ c.toNat)
theorem clsL_iff : ∀ l : List UInt8, clsL l = true ↔ l.length % 2 = 0 ∧ ∀ j, clsOk l j
  | [] => by simp [clsL, clsOk]
  | [a] => by simp [clsL]
  | a :: b :: r => by
    rw [clsL, Bool.and_eq_true, clsL_iff r]
    simp only [Bool.and_eq_true, Bool.not_eq_true', decide_eq_false_iff_not]
    constructor
    · rintro ⟨⟨⟨h1, h2⟩, h3⟩, h4, h5⟩
      refine ⟨by simp; omega, fun j => ?_⟩
      match j with
      | 0 => intro c hc; simp at hc; subst hc; exact ⟨by omega, by omega, by omega⟩
      | 1 => intro c hc; simp at hc; subst hc; exact ⟨by omega, by omega, fun _ d hd => by simp at hd; subst hd; omega⟩
      | j + 2 =>
        intro c hc
        simp at hc
        obtain ⟨x, y, z⟩ := h5 j c hc
        refine ⟨x, y, fun ho d hd => z (by omega) d ?_⟩
        rw [show j + 2 - 1 = (j - 1) + 2 by omega] at hd
        simpa using hd
    · rintro ⟨h1, h2⟩
      have a0 := h2 0 a rfl
      have b0 := h2 1 b rfl
      have := b0.2.2 rfl a rfl
      refine ⟨⟨⟨by omega, by omega⟩, by omega⟩, by simp at h1; omega, fun j c hc => ?_⟩
      obtain ⟨x, y, z⟩ := h2 (j + 2) c (by simpa using hc)
      refine ⟨x, y, fun ho d hd => z (by omega) d ?_⟩
      rw [show j + 2 - 1 = (j - 1) + 2 by omega]
      simpa using hd
theorem cls_bad (l : List UInt8) (j : Nat) (h : ¬ clsOk l j) : clsB l = false := by
  rw [clsB]
  cases hc : clsL l with
  | false => simp
  | true => exact absurd (((clsL_iff l).1 hc).2 j) h
theorem cls_end (l : List UInt8) (h : ∀ j, j < l.length → clsOk l j) : clsB l = (!l.isEmpty && (((l.length : Int) % 2) == 0)) := by
  have h' : ∀ j, clsOk l j := fun j => by
    rcases Nat.lt_or_ge j l.length with hl | hl
    · exact h j hl
    · intro c hc; rw [List.getElem?_eq_none hl] at hc; cases hc
  rw [clsB]
  congr 1
  rw [Bool.eq_iff_iff, clsL_iff, beq_iff_eq]
  exact ⟨fun a => by omega, fun a => ⟨by omega, h'⟩⟩

set_option maxHeartbeats 1000000 in
theorem fclass_any (l : List UInt8) (hl : l.length ≤ 1000) (w : World) :
    Calls Tryz.prog 82 #[.string ⟨l.toArray⟩] w fun e w' => e = .returned (.bool (clsB l)) ∧ ∃ n, w' = w.drewN n := by
  go_enter Tryz.func82, Tryz.ntmps82
  go_wp2
  go_loopw [3] (fun i wr => ∃ k n : Nat, k ≤ l.length ∧ i = .int .i64 k ∧ wr = w.drewN n ∧ Hid (∀ j, j < k → clsOk l j)) (fun i _ => l.length - (intOf i).toNat)
  case atStart => exact ⟨0, 0, Nat.zero_le _, rfl, rfl, fun j h => absurd h (by omega)⟩
  case round =>
    obtain ⟨k, n, hk, rfl, rfl, hc⟩ := hrel
    by_cases hlt : k < l.length
    · have hat : l[k]? = some l[k] := List.getElem?_eq_getElem hlt
      by_cases h1 : (l[k].toNat : Int) < 33
      · have HB : Hid (clsB l = false) := cls_bad l k (fun h => by have := (h _ hat).1; omega)
        clear hc hat
        go_wp2
        go_quiet (fail)
        go_wp2
        go_ret
        exact ⟨ret_bool HB.out.symm, _, World.drewN_drewN _ _ _⟩
      · have h1' : decide ((l[k].toNat : Int) < 33) = false := by simpa using h1
        by_cases h2 : 126 < (l[k].toNat : Int)
        · have HB : Hid (clsB l = false) := cls_bad l k (fun h => by have := (h _ hat).2.1; omega)
          clear hc hat
          go_wp2
          go_quiet (fail)
          go_wp2
          go_ret
          exact ⟨ret_bool HB.out.symm, _, World.drewN_drewN _ _ _⟩
        · have h2' : decide (126 < (l[k].toNat : Int)) = false := by simpa using h2
          by_cases h3 : k % 2 = 1
          · have h3' : ((k : Int) % 2 == 1) = true := by simp; omega
            obtain ⟨p, hp⟩ : ∃ p : Nat, p = k - 1 := ⟨_, rfl⟩
            have hlt1 : p < l.length := by omega
            have hat1 : l[k - 1]? = some l[p] := by rw [← hp]; exact List.getElem?_eq_getElem hlt1
            have w1 : IntKind.i64.wrap ((k : Int) - 1) = p := (IntWalk.i64_in _ (by omega)).trans (by omega)
            have w2 : (p : Int) < l.length := by omega
            by_cases h4 : (l[k].toNat : Int) < l[p].toNat
            · have HB : Hid (clsB l = false) := cls_bad l k (fun h => by have := (h _ hat).2.2 h3 _ hat1; omega)
              clear hc hat hat1 h3 hp
              go_wp2
              go_quiet (fail)
              clear w1
              go_wp2
              go_ret
              exact ⟨ret_bool HB.out.symm, _, World.drewN_drewN _ _ _⟩
            · have h4' : decide ((l[k].toNat : Int) < l[p].toNat) = false := by simpa using h4
              have HN : Hid (∀ j, j < k + 1 → clsOk l j) := by
                intro j hj
                rcases Nat.lt_or_ge j k with h | h
                · exact hc.out j h
                · obtain rfl : j = k := by omega
                  intro c hcc
                  rw [hat] at hcc; cases hcc
                  exact ⟨by omega, by omega, fun _ d hd => by rw [hat1] at hd; cases hd; omega⟩
              clear hc hat hat1 h3 hp
              go_wp2
              go_quiet (fail)
              clear w1
              go_wp2
              go_round
              case rel => exact ⟨k + 1, _, by omega, by go_num, by first | rfl | exact World.drewN_drewN _ _ _, HN⟩
              case measure => simp [intOf]; omega
          · have h3' : ((k : Int) % 2 == 1) = false := by simp; omega
            have HN : Hid (∀ j, j < k + 1 → clsOk l j) := by
              intro j hj
              rcases Nat.lt_or_ge j k with h | h
              · exact hc.out j h
              · obtain rfl : j = k := by omega
                intro c hcc
                rw [hat] at hcc; cases hcc
                exact ⟨by omega, by omega, fun ho => absurd ho h3⟩
            clear hc hat h3
            go_wp2
            go_quiet (fail)
            go_wp2
            go_round
            case rel => exact ⟨k + 1, _, by omega, by go_num, by first | rfl | exact World.drewN_drewN _ _ _, HN⟩
            case measure => simp [intOf]; omega
    · obtain rfl : k = l.length := by omega
      have HB := Lib.hid (cls_end l hc.out)
      clear hc
      by_cases h0 : l = []
      · subst h0
        go_wp2
        go_ret
        exact ⟨ret_bool HB.out.symm, _, rfl⟩
      · have hpos : 0 < (l.length : Int) := by have := List.length_pos_iff.2 h0; omega
        have hE : Hid (clsB l = ((l.length : Int) % 2 == 0)) := by show clsB l = _; rw [HB.out]; simp [h0]
        clear HB
        go_wp2
        all_goals go_ret
        all_goals exact ⟨ret_bool hE.out.symm, _, rfl⟩

end Go.Proofs.YtmmdpjliknmhgaaGreatDoor
/- Walks of the document's answer for layer 13: spread. -/
namespace Go.Proofs.YtmmdpjliknmhgaaGreatDoor
open Go.RowKit
def sprS (l : List UInt8) : List UInt8 := if (spr l).2 then (spr l).1 else []
theorem spr_cons (c : UInt8) (r : List UInt8) : spr (c :: r) = if (sgn c r).2.2 then (List.replicate (sgn c r).1 c ++ (spr (sgn c r).2.1).1, (spr (sgn c r).2.1).2) else ([], false) := by rw [spr]
theorem sgn_sep {c : UInt8} (r : List UInt8) (h : isSepB c = true) : sgn c r = (1, r, true) := by unfold sgn; simp [h]
theorem sgn_nil {c : UInt8} (h : ¬ isSepB c = true) (h2 : isDA c = true) : (sgn c []).2.2 = false := by unfold sgn; simp [h, h2]
theorem sgn_rep {c d : UInt8} (r : List UInt8) (h : ¬ isSepB c = true) (h2 : isDA c = true) (h3 : isRep d = true) : sgn c (d :: r) = (d.toNat - 48, r, true) := by unfold sgn; simp [h, h2, h3]
theorem sgn_norep {c d : UInt8} (r : List UInt8) (h : ¬ isSepB c = true) (h2 : isDA c = true) (h3 : ¬ isRep d = true) : (sgn c (d :: r)).2.2 = false := by unfold sgn; simp [h, h2, h3]
theorem sgn_other {c : UInt8} (r : List UInt8) (h : ¬ isSepB c = true) (h2 : ¬ isDA c = true) : (sgn c r).2.2 = false := by unfold sgn; simp [h, h2]
theorem spr_bad {l out : List UInt8} {k : Nat} {c : UInt8} {r : List UInt8} (hc : spr l = (out ++ (spr (l.drop k)).1, (spr (l.drop k)).2)) (hd : l.drop k = c :: r) (hs : (sgn c r).2.2 = false) : sprS l = [] ∧ recOk l = false := by
  have : (spr l).2 = false := by rw [hc, hd, spr_cons, hs]; rfl
  exact ⟨by rw [sprS, this]; rfl, by rw [recOk, this]; simp⟩
set_option maxHeartbeats 4000000 in
theorem spread_any (l : List UInt8) (hl : l.length ≤ 1000) (w : World) :
    Calls Tryz.prog 83 #[.string ⟨l.toArray⟩] w fun e w' => e = .returned (.tuple #[.string ⟨(sprS l).toArray⟩, .bool (recOk l)]) ∧ w = w' := by
  go_enter Tryz.func83, Tryz.ntmps83
  go_wp2
  go_loop [4, 5] (fun o i => ∃ (k : Nat) (out : List UInt8), k ≤ l.length ∧ o = .string ⟨out.toArray⟩ ∧ i = .int .i64 k ∧ Hid (spr l = (out ++ (spr (l.drop k)).1, (spr (l.drop k)).2)) ∧ out.length ≤ 9 * k) (fun _ i => l.length - (intOf i).toNat)
  case atStart => exact ⟨0, [], Nat.zero_le _, rfl, rfl, rfl, by simp⟩
  case round =>
    obtain ⟨k, out, hk, rfl, rfl, hc, ho⟩ := hrel
    by_cases hlt : k < l.length
    · obtain ⟨w1, w2, w3⟩ := sum_i k 1 (k+1) (by omega) (by omega)
      have w4 : (k : Int) + 1 ≤ l.length := by clear w1 w3; omega
      obtain ⟨c, hcc⟩ : ∃ c, l[k] = c := ⟨_, rfl⟩
      have hdr : l.drop k = c :: l.drop (k + 1) := by rw [drop_cons l k hlt, hcc]
      have hs : List.take 1 (List.drop k l) = [c] := by rw [hdr]; rfl
      by_cases hsep : isSepB c = true
      · have hN : Hid (spr l = ((out ++ [c]) ++ (spr (l.drop (k + 1))).1, (spr (l.drop (k + 1))).2)) := by
          show _ = _
          rw [hc.out, hdr, spr_cons, sgn_sep _ hsep]; simp
        clear hc hdr
        simp [isSepB] at hsep
        rcases hsep with (rfl | rfl) | rfl
        all_goals
          go_wp2
          go_round
          case rel => exact ⟨k + 1, _, by omega, rfl, by go_num, hN, by simp; omega⟩
          case measure => simp [intOf]; omega
      · by_cases hda : isDA c = true
        · by_cases hlen : k + 1 < l.length
          · obtain ⟨d, hdd⟩ : ∃ d, l[k + 1] = d := ⟨_, rfl⟩
            have hdr2 : l.drop (k + 1) = d :: l.drop (k + 2) := by rw [drop_cons l (k + 1) hlen, hdd]
            have w5 : (k : Int) + 1 < l.length := by clear w1 w3; omega
            have w6 : ((k : Int) + 1 == l.length) = false := by simp; omega
            by_cases hr : isRep d = true
            · have hN : Hid (spr l = ((out ++ List.replicate (d.toNat - 48) c) ++ (spr (l.drop (k + 2))).1, (spr (l.drop (k + 2))).2)) := by
                show _ = _
                rw [hc.out, hdr, spr_cons, hdr2, sgn_rep _ hsep hda hr]; simp
              clear hc hdr hdr2
              simp [isSepB, isDA] at hsep hda
              simp only [isRep, Bool.and_eq_true, decide_eq_true_eq] at hr
              obtain ⟨hr1, hr2⟩ := hr
              obtain ⟨m, hm⟩ : ∃ m, m = d.toNat - 48 := ⟨_, rfl⟩
              rw [← hm] at hN
              have hm1 : IntKind.u8.wrap ((d.toNat : Int) - 48) = (m : Int) := (IntWalk.u8_in _ (by omega)).trans (by omega)
              have hm2 : m ≤ 9 := by omega
              clear hm
              obtain ⟨y, hy⟩ : ∃ y, y = c := ⟨_, rfl⟩
              rw [← hy] at hN
              rcases hda with rfl | rfl
              all_goals
                go_wp2
                go_loop [4, 7] (fun o j => ∃ (jn : Nat), jn ≤ m ∧ o = .string ⟨(out ++ List.replicate jn y).toArray⟩ ∧ j = .int .i64 jn) (fun _ j => m - (intOf j).toNat)
                case atStart => exact ⟨0, Nat.zero_le _, by simp, rfl⟩
                case round =>
                  obtain ⟨j, hj, rfl, rfl⟩ := hrel
                  by_cases hjm : j < m
                  · obtain ⟨v1, v2, v3⟩ := sum_i j 1 (j+1) (by omega) (by omega)
                    go_wp2
                    go_round
                    case rel => exact ⟨j + 1, by omega, by rw [List.replicate_succ', hy], by go_num⟩
                    case measure => simp [intOf]; omega
                  · obtain rfl : j = m := by omega
                    obtain ⟨v1, v2, v3⟩ := sum_i k 2 (k+2) (by omega) (by omega)
                    go_wp2
                    go_round
                    case rel => exact ⟨k + 2, _, by omega, rfl, by go_num, hN, by simp; omega⟩
                    case measure => simp [intOf]; omega
            · have HB := Lib.hid (spr_bad hc.out hdr (by rw [hdr2]; exact sgn_norep _ hsep hda hr))
              clear hc hdr hdr2
              simp [isSepB, isDA] at hsep hda
              by_cases h49 : (d.toNat : Int) < 49
              · rcases hda with rfl | rfl
                all_goals
                  go_wp2
                  go_ret2
                  exact ⟨by rw [HB.out.1, HB.out.2]; rfl, rfl⟩
              · have h49' : decide ((d.toNat : Int) < 49) = false := by simpa using h49
                have h57 : 57 < (d.toNat : Int) := by simp [isRep] at hr; omega
                rcases hda with rfl | rfl
                all_goals
                  go_wp2
                  go_ret2
                  exact ⟨by rw [HB.out.1, HB.out.2]; rfl, rfl⟩
          · have hend : l.drop (k + 1) = [] := List.drop_eq_nil_of_le (by omega)
            have HB := Lib.hid (spr_bad hc.out hdr (by rw [hend]; exact sgn_nil hsep hda))
            have w6 : ((k : Int) + 1 == l.length) = true := by simp; omega
            clear hc hdr hend
            simp [isSepB, isDA] at hsep hda
            rcases hda with rfl | rfl
            all_goals
              go_wp2
              go_ret2
              exact ⟨by rw [HB.out.1, HB.out.2]; rfl, rfl⟩
        · have HB := Lib.hid (spr_bad hc.out hdr (sgn_other _ hsep hda))
          clear hc hdr
          simp [isSepB, isDA] at hsep hda
          have n1 : ([c] == [45]) = false := by simp [hsep]
          have n2 : ([c] == [58]) = false := by simp [hsep]
          have n3 : ([c] == [47]) = false := by simp [hsep]
          have n4 : ([c] == [100]) = false := by simp [hda]
          have n5 : ([c] == [97]) = false := by simp [hda]
          go_wp2
          go_ret2
          exact ⟨by rw [HB.out.1, HB.out.2]; rfl, rfl⟩
    · have hend : l.drop k = [] := List.drop_eq_nil_of_le (by omega)
      have hF : Hid (spr l = (out, true)) := by
        show _ = _
        rw [hc.out, hend, spr]; simp
      clear hc hend
      have hS : Hid (sprS l = out) := by show _ = _; rw [sprS, hF.out]; rfl
      have hR : Hid (recOk l = !l.isEmpty) := by show _ = _; rw [recOk, hF.out]; simp
      clear hF
      go_wp2
      all_goals go_ret2
      all_goals exact ⟨by rw [hS.out, hR.out]; simp_all, rfl⟩
end Go.Proofs.YtmmdpjliknmhgaaGreatDoor
/- Walks of the document's answer for layer 13: Right, Size. -/
namespace Go.Proofs.YtmmdpjliknmhgaaGreatDoor
open Go.RowKit
set_option maxHeartbeats 2000000 in
theorem frightR_any (k m : Int) (form : List UInt8) (hl : form.length ≤ 1000) (w : World) :
    Calls Tryz.prog 57 #[fV k m form] w fun e w' => e = .returned (.bool (rightB k m form)) ∧ Below w.heap.size w w' := by
  have hB0 := (Below.refl w.heap.size w).alloc (Nat.le_refl _) (.cells #[.int .i64 k, .int .i64 m, .string ⟨form.toArray⟩] 38)
  by_cases h1 : m < 0
  · have HB : Hid (rightB k m form = false) := by
      show _ = _
      have : decide (0 ≤ m) = false := by simpa using h1
      simp [rightB, this]
    go_enter Tryz.func57, Tryz.ntmps57
    go_wp2
    go_ret
    exact ⟨ret_bool HB.out.symm, hB0⟩
  · by_cases h2 : 200 < m
    · have HB : Hid (rightB k m form = false) := by
        show _ = _
        have : decide (m ≤ 200) = false := by simpa using h2
        simp [rightB, this]
      go_enter Tryz.func57, Tryz.ntmps57
      go_wp2
      go_ret
      exact ⟨ret_bool HB.out.symm, hB0⟩
    · by_cases h3 : 40 < (form.length : Int)
      · have HB : Hid (rightB k m form = false) := by
          show _ = _
          have : decide (form.length ≤ 40) = false := by simp; omega
          simp [rightB, this]
        go_enter Tryz.func57, Tryz.ntmps57
        go_wp2
        go_ret
        exact ⟨ret_bool HB.out.symm, hB0⟩
      · have HB : Hid (rightB k m form = ((k == 1 && form.isEmpty) || (k == 2 && clsB form) || (k == 3 && recOk form))) := by
          show _ = _
          have a1 : decide (0 ≤ m) = true := by simp; omega
          have a2 : decide (m ≤ 200) = true := by simp; omega
          have a3 : decide (form.length ≤ 40) = true := by simp; omega
          simp [rightB, a1, a2, a3]
        by_cases k1 : k = 1
        · subst k1
          have HB2 : Hid (rightB 1 m form = form.isEmpty) := by show _ = _; rw [HB.out]; simp
          clear HB
          cases hf : form with
          | nil =>
            subst hf
            go_enter Tryz.func57, Tryz.ntmps57
            go_wp2
            go_ret
            exact ⟨ret_bool HB2.out.symm, hB0⟩
          | cons x r =>
            subst hf
            have hne : ((x :: r) == ([] : List UInt8)) = false := rfl
            go_enter Tryz.func57, Tryz.ntmps57
            go_wp2
            go_ret
            exact ⟨ret_bool HB2.out.symm, hB0⟩
        · by_cases k2 : k = 2
          · subst k2
            have HB2 : Hid (rightB 2 m form = clsB form) := by show _ = _; rw [HB.out]; simp
            clear HB k1
            have HC := fun u => fclass_any form hl u
            generalize clsB form = CB at *
            go_enter Tryz.func57, Tryz.ntmps57
            go_wp2_with (go_at_call 82; refine (HC _).mono ?_; rintro e w' ⟨rfl, n, rfl⟩)
            go_ret
            exact ⟨ret_bool HB2.out.symm, below_drewN hB0 _⟩
          · by_cases k3 : k = 3
            · subst k3
              have HB2 : Hid (rightB 3 m form = recOk form) := by show _ = _; rw [HB.out]; simp
              clear HB k1 k2
              have HC := fun u => spread_any form hl u
              generalize recOk form = CB at *
              generalize sprS form = SS at *
              go_enter Tryz.func57, Tryz.ntmps57
              go_wp2_with (go_at_call 83; refine (HC _).mono ?_; rintro e w' ⟨rfl, rfl⟩)
              go_ret
              exact ⟨ret_bool HB2.out.symm, hB0⟩
            · have HB2 : Hid (rightB k m form = false) := by show _ = _; rw [HB.out]; simp [k1, k2, k3]
              clear HB
              have e1 : (k == 1) = false := by simpa using k1
              have e2 : (k == 2) = false := by simpa using k2
              have e3 : (k == 3) = false := by simpa using k3
              go_enter Tryz.func57, Tryz.ntmps57
              go_wp2
              go_ret
              exact ⟨ret_bool HB2.out.symm, hB0⟩
theorem right_form {m : Int} {form : List UInt8} (h : rightB 3 m form = true) : recOk form = true := by
  simp [rightB] at h; exact h.2
theorem right_spr {m : Int} {form : List UInt8} (h : rightB 3 m form = true) : sprS form = (spr form).1 := by
  have := right_form h
  simp only [recOk, Bool.and_eq_true] at this
  rw [sprS, this.2]; rfl
end Go.Proofs.YtmmdpjliknmhgaaGreatDoor
/- Walks of the document's answer for layers 1, 2 and 5: Right, Has, List, Digits. -/
namespace Go.Proofs.YtmmdpjliknmhgaaGreatDoor
open Go.RowKit Go.Shelf
attribute [local go_sem] Oper.semAt_some
theorem rightR_any (lv ig : Int) (S : Nat) (w : World) :
    Calls Tryz.prog 56 #[labV lv S ig] w fun e w' => e = .returned (.bool (labB lv ig)) ∧ Below w.heap.size w w' := by
  have H : Hid (∀ b : Bool, (b = true ↔ (0 ≤ lv ∧ lv ≤ 15 ∧ 0 ≤ ig ∧ ig ≤ 7)) → b = labB lv ig) := by
    show ∀ b : Bool, _ → _
    intro b h; rw [Bool.eq_iff_iff, labB_iff]; exact h
  go_enter Tryz.func56, Tryz.ntmps56
  by_cases h1 : 0 ≤ lv
  · by_cases h2 : lv ≤ 15
    · by_cases h3 : 0 ≤ ig
      · go_wp2
        go_ret
        exact ⟨ret_bool (H.out _ (by simp; omega)), (Below.refl _ w).alloc (Nat.le_refl _) _⟩
      · go_wp2
        go_ret
        exact ⟨ret_bool (H.out _ (by simp; omega)), (Below.refl _ w).alloc (Nat.le_refl _) _⟩
    · go_wp2
      go_ret
      exact ⟨ret_bool (H.out _ (by simp; omega)), (Below.refl _ w).alloc (Nat.le_refl _) _⟩
  · go_wp2
    go_ret
    exact ⟨ret_bool (H.out _ (by simp; omega)), (Below.refl _ w).alloc (Nat.le_refl _) _⟩
theorem bit_eq (S i : Nat) : (((S : Int) / 2 ^ i) % 2 == 1) = S.testBit i := by
  rw [Nat.testBit_eq_decide_div_mod_eq, Bool.eq_iff_iff, beq_iff_eq, decide_eq_true_eq]
  have e : (S : Int) / 2 ^ i = ((S / 2 ^ i : Nat) : Int) := by
    rw [show ((2 : Int) ^ i) = ((2 ^ i : Nat) : Int) from (Int.natCast_pow 2 i).symm]; rfl
  rw [e]; omega
theorem hasR_any (S i : Nat) (hi : i < 64) (hS : S < 18446744073709551616) (w : World) :
    Calls Tryz.prog 54 #[.int .u64 S, .int .i64 i] w fun e w' => e = .returned (.bool (S.testBit i)) ∧ w = w' := by
  have hi0 : (0 : Int) ≤ (i : Int) := by omega
  have hi1 : (i : Int) < 64 := by omega
  have hq : (0 : Int) ≤ (S : Int) / 2 ^ i := Int.ediv_nonneg (by omega) (Int.pow_nonneg (by omega))
  have HB := Lib.hid (bit_eq S i)
  go_enter Tryz.func54, Tryz.ntmps54
  go_wp2
  go_ret
  exact ⟨by rw [← HB.out]; rfl, rfl⟩
theorem digL_stepQ (n : Nat) (h : ¬ n < 10) : digL n = digL (n / 10 : Nat) ++ digL (n % 10 : Nat) := by
  rw [digL_lt10 (n % 10) (by omega)]
  have e : dch (n % 10) = dch n := by simp [dch]
  rw [e, digL, if_neg (by omega), Int.toNat_natCast, revD, if_neg h, digL, if_neg (by omega), Int.toNat_natCast, List.reverse_cons]
set_option maxRecDepth 100000 in
set_option maxHeartbeats 1000000 in
theorem digitsR_nat : ∀ (b n : Nat), n < b → (n : Int) ≤ 9223372036854775807 → ∀ (w : World), Calls Tryz.prog 46 #[.int .i64 n] w fun e w' => e = .returned (.string ⟨(digL n).toArray⟩) ∧ Below w.heap.size w w'
  | 0, n, h, _, w => absurd h (by omega)
  | b + 1, n, h, hn, w => by
    by_cases hs : n < 10
    · have HD := Lib.hid (digL_lt10 n hs)
      have hd := dch_nat n
      have hd1 : (dch n).toNat = 48 + n := by omega
      have hc := conv_byte1 (P := Tryz.prog) w 54 9 5 (dch n) Tryz.underlying54 Tryz.underlying5 Tryz.underlying9
      rw [hd1] at hc
      have hs' : (n : Int) < 10 := by omega
      have w1 : IntKind.i64.wrap (48 + (n : Int)) = 48 + n := IntWalk.i64_in _ (by omega)
      have w2 : IntKind.u8.wrap (48 + (n : Int)) = 48 + n := IntWalk.u8_in _ (by omega)
      push_cast at hc
      clear hd hd1 hs
      go_enter Tryz.func46, Tryz.ntmps46
      go_wp2
      go_ret
      exact ⟨ret_str HD.out.symm, (Below.refl _ w).alloc (Nat.le_refl _) _⟩
    · have HQ := fun u => digitsR_nat b (n / 10) (by omega) (by omega) u
      have HM := fun u => digitsR_nat b (n % 10) (by omega) (by omega) u
      have HD := Lib.hid (digL_stepQ n hs)
      have hs' : ¬ ((n : Int) < 10) := by omega
      have hl1 := digL_len ((n / 10 : Nat) : Int) (by omega)
      have hl2 := digL_len ((n % 10 : Nat) : Int) (by omega)
      generalize digL ((n / 10 : Nat) : Int) = DQ at *
      generalize digL ((n % 10 : Nat) : Int) = DM at *
      push_cast at HQ HM
      clear hs
      go_enter Tryz.func46, Tryz.ntmps46
      go_wp2_with fail
      refine (HQ _).mono ?_
      rintro e w1 ⟨rfl, hb1⟩
      go_wp2_with fail
      refine (HM _).mono ?_
      rintro e w2 ⟨rfl, hb2⟩
      go_wp2_with fail
      go_ret
      exact ⟨ret_str HD.out.symm, hb1.trans (hb2.mono hb1.size)⟩
theorem digitsR_any (n : Int) (h : n ≤ 9223372036854775807) (w : World) : Calls Tryz.prog 46 #[.int .i64 n] w fun e w' => e = .returned (.string ⟨(digL n).toArray⟩) ∧ Below w.heap.size w w' := by
  rcases Int.lt_or_le n 0 with h0 | h0
  · have hd : digL n = [] := by rw [digL, if_pos h0]
    rw [hd]
    go_enter Tryz.func46, Tryz.ntmps46
    go_wp2
    go_ret
    exact ⟨rfl, Below.refl _ _⟩
  · obtain ⟨k, rfl⟩ := Int.eq_ofNat_of_zero_le h0
    exact digitsR_nat (k + 1) k (by omega) h w
theorem row_grow0 {W2 W W1 : World} {e : TypeId} {v : Value} {k : Nat} {xs : List Value} {o : Obj} (hbr : Below W2.heap.size W2 W) (hown : W.ownsRow W2.heap.size e 1 v k xs) (hgrow : (W.alloc o).grownBy W1 v.ownBlock) : Below W2.heap.size W2 W1 :=
  row_grow hbr (Below.refl _ _) hown hgrow
/-- the categories below k -/
def catsTo (S k : Nat) : List Nat := (List.range k).filter (S.testBit ·)
theorem catsTo_step (S k : Nat) : catsTo S (k + 1) = if S.testBit k then catsTo S k ++ [k] else catsTo S k := by
  unfold catsTo
  rw [List.range_succ, List.filter_append]
  cases h : S.testBit k <;> simp [h]
theorem catsTo_len (S k : Nat) : (catsTo S k).length ≤ k := by unfold catsTo; exact Nat.le_trans (List.length_filter_le _ _) (by simp)
set_option maxRecDepth 100000 in
set_option maxHeartbeats 2000000 in
theorem listR_any (S : Nat) (hS : S < 18446744073709551616) (w : World) :
    Calls Tryz.prog 71 #[.int .u64 S] w fun e w' => RowOf w.heap.size 3 (catsL S).length (intsV (catsL S)) e w' ∧ Below w.heap.size w w' := by
  obtain ⟨i0, hi, hz0, hz1, hz2⟩ := info_parts infoI
  go_enter Tryz.func71, Tryz.ntmps71
  go_wp2_with fail
  go_loopw [3, 4] (fun v i wr => ∃ k : Nat, k ≤ 64 ∧ i = .int .i64 k ∧ wr.ownsRow w.heap.size 3 1 v (catsTo S k).length (intsV (catsTo S k)) ∧ Below w.heap.size w wr) (fun _ i _ => 64 - (intOf i).toNat)
  case atStart => exact ⟨0, by omega, rfl, World.ownsRow_nil _ _ _ _, Below.refl _ _⟩
  case round =>
    obtain ⟨k, hk, rfl, hown, hbr⟩ := hrel
    by_cases hlt : k < 64
    · have HH := fun u => hasR_any S k hlt hS u
      have HC := Lib.hid (catsTo_step S k)
      have hcl := catsTo_len S k
      have hlt' : (k : Int) < 64 := by omega
      cases hb : S.testBit k with
      | false =>
        have HC' : Hid (catsTo S (k + 1) = catsTo S k) := by show _ = _; rw [HC.out, hb]; rfl
        rw [hb] at HH
        clear HC hb
        go_wp2_with (go_at_call 54; refine (HH _).mono ?_; rintro e w' ⟨rfl, rfl⟩)
        go_roundw
        case rel => exact ⟨k + 1, by omega, by go_num, by rw [HC'.out]; exact hown, hbr⟩
        case measure => simp [intOf]; omega
      | true =>
        have HC' : Hid (catsTo S (k + 1) = catsTo S k ++ [k]) := by show _ = _; rw [HC.out, hb]; rfl
        rw [hb] at HH
        clear HC hb
        have hz := hbr.size
        go_wp2_with (first
          | (go_at_call 54; refine (HH _).mono ?_; rintro e w' ⟨rfl, rfl⟩)
          | (at_builtin; refine wpList_append_own _ rfl _ _ 108 rfl w.heap.size 3 i0 (.int .i64 0) 1 8 Tryz.underlying108 hi hz0 hz1 hz2 rfl (by decide) _ _ _ rfl (hown.alloc _) ⟨wr.heap.size, 0, none⟩ 1 1 [.int .i64 k] rfl rfl (cell_one_new _ _ _) (by simp [Value.oneCell']) (by unfold maxLen; omega) (by omega) (by simp; omega) ?_; intro v' w1' hown' hgrow _))
        go_roundw
        case rel => exact ⟨k + 1, by omega, by go_num, by rw [HC'.out]; simpa [intsV] using hown', row_grow0 hbr hown hgrow⟩
        case measure => simp [intOf]; omega
    · obtain rfl : k = 64 := by omega
      have HC : Hid (catsTo S 64 = catsL S) := rfl
      go_wp2_with fail
      go_ret
      exact ⟨⟨_, rfl, hown⟩, hbr⟩
end Go.Proofs.YtmmdpjliknmhgaaGreatDoor
/- Walks of the reference, layer 14: is. -/
namespace Go.Proofs.YtmmdpjliknmhgaaGreatDoor
open Go.RowKit Go.Shelf
attribute [local go_sem] Oper.semAt_some
/-- a rule whose form is a short text -/
def OkQ (r : RuT) : Prop := r.src.2.1 < 18446744073709551616 ∧ r.dst.2.1 < 18446744073709551616 ∧ r.what.2.2.length ≤ 1000
theorem OkQ.ok {r : RuT} (h : OkQ r) : OkR r := ⟨h.1, h.2.1, by have := h.2.2; omega⟩
set_option maxRecDepth 100000 in
set_option maxHeartbeats 8000000 in
theorem ruIs_any (r : RuT) (hr : OkQ r) (w : World) :
    Calls Tryz.prog 37 #[ruV r] w fun e w' => e = .returned (.bool (isRX labK filK r)) ∧ Below w.heap.size w w' := by
  obtain ⟨id, ⟨l1, S1, i1⟩, ⟨l2, S2, i2⟩, bu, ⟨k, m, form⟩⟩ := r
  obtain ⟨hS1, hS2, hfm⟩ := hr
  dsimp only at hS1 hS2 hfm
  have H1 := fun W => rightR_any l1 i1 S1 W
  have H2 := fun W => rightR_any l2 i2 S2 W
  have H3 := fun W => frightR_any k m form hfm W
  have hR : Hid (isRX labK filK ⟨id, (l1, S1, i1), (l2, S2, i2), bu, (k, m, form)⟩ = (decide (1 ≤ id) && decide (id ≤ 99) && labB l1 i1 && labB l2 i2 && !decide (((l1, S1, i1) : LaT) = (l2, S2, i2)) && decide (0 ≤ bu) && decide (bu ≤ 1000) && rightB k m form)) := by
    show _ = _
    unfold isRX
    simp only [labK, filK, decide_eq_true hS1, decide_eq_true hS2, Bool.and_true]
  generalize isRX labK filK ⟨id, (l1, S1, i1), (l2, S2, i2), bu, (k, m, form)⟩ = R at *
  generalize labB l1 i1 = x at *
  generalize labB l2 i2 = y at *
  generalize rightB k m form = z at *
  have B0 := (Below.refl _ w).alloc (Nat.le_refl _) (.cells #[.int .i64 id, .int .i64 l1, .int .u64 S1, .int .i64 i1, .int .i64 l2, .int .u64 S2, .int .i64 i2, .int .i64 bu, .int .i64 k, .int .i64 m, .string ⟨form.toArray⟩] 40)
  have n0 := Blk.new w #[.int .i64 id, .int .i64 l1, .int .u64 S1, .int .i64 i1, .int .i64 l2, .int .u64 S2, .int .i64 i2, .int .i64 bu, .int .i64 k, .int .i64 m, .string ⟨form.toArray⟩] 40
  obtain ⟨W0, hW0⟩ : ∃ W0, w.alloc (.cells #[.int .i64 id, .int .i64 l1, .int .u64 S1, .int .i64 i1, .int .i64 l2, .int .u64 S2, .int .i64 i2, .int .i64 bu, .int .i64 k, .int .i64 m, .string ⟨form.toArray⟩] 40) = W0 := ⟨_, rfl⟩
  rw [hW0] at B0 n0
  have SK : Hid (∀ W, Below W0.heap.size W0 W → W.cell? ⟨w.heap.size, 0, none⟩ = some (.int .i64 id) ∧ (W.cell? ⟨w.heap.size, 1, none⟩ = some (.int .i64 l1) ∧ W.cell? ⟨w.heap.size, 2, none⟩ = some (.int .u64 S1) ∧ W.cell? ⟨w.heap.size, 3, none⟩ = some (.int .i64 i1)) ∧ (W.cell? ⟨w.heap.size, 4, none⟩ = some (.int .i64 l2) ∧ W.cell? ⟨w.heap.size, 5, none⟩ = some (.int .u64 S2) ∧ W.cell? ⟨w.heap.size, 6, none⟩ = some (.int .i64 i2)) ∧ W.cell? ⟨w.heap.size, 7, none⟩ = some (.int .i64 bu) ∧
      (W.cell? ⟨w.heap.size, 8, none⟩ = some (.int .i64 k) ∧ W.cell? ⟨w.heap.size, 9, none⟩ = some (.int .i64 m) ∧ W.cell? ⟨w.heap.size, 10, none⟩ = some (.string ⟨form.toArray⟩))) := by
    show ∀ W, _
    intro W h
    have q := n0.below h n0.lt
    exact ⟨(q.cell 0).trans rfl, ⟨(q.cell 1).trans rfl, (q.cell 2).trans rfl, (q.cell 3).trans rfl⟩, ⟨(q.cell 4).trans rfl, (q.cell 5).trans rfl, (q.cell 6).trans rfl⟩, (q.cell 7).trans rfl, (q.cell 8).trans rfl, (q.cell 9).trans rfl, (q.cell 10).trans rfl⟩
  obtain ⟨c0, ⟨c1, c2, c3⟩, ⟨c4, c5, c6⟩, c7, c8, c9, c10⟩ := SK.out W0 (Below.refl _ _)
  clear n0 hfm hS1 hS2
  go_enter Tryz.func37, Tryz.ntmps37
  try simp only [List.append_eq, List.cons_append, List.nil_append]
  by_cases a1 : 1 ≤ id
  rotate_left 1
  · have hF : R = false := by rw [hR.out]; simp [a1]
    subst hF
    clear hR H1 H2 H3 SK
    go_wp2_with fail
    go_ret
    exact ⟨rfl, B0⟩
  by_cases a2 : id ≤ 99
  rotate_left 1
  · have hF : R = false := by rw [hR.out]; simp [a2]
    subst hF
    clear hR H1 H2 H3 SK
    go_wp2_with fail
    go_ret
    exact ⟨rfl, B0⟩
  go_wp2_with fail
  with_reducible refine (H1 _).mono ?_
  rintro e w1 ⟨rfl, b1⟩
  have B1 := B0.trans (b1.mono B0.size)
  clear c0 c1 c2 c3 c4 c5 c6 c7 c8 c9 c10
  obtain ⟨c0, ⟨c1, c2, c3⟩, ⟨c4, c5, c6⟩, c7, c8, c9, c10⟩ := SK.out w1 b1
  cases x with
  | false =>
    have hF : R = false := by rw [hR.out]; simp
    subst hF
    clear hR H1 H2 H3 SK
    go_wp2_with fail
    go_ret
    exact ⟨rfl, B1⟩
  | true =>
  go_wp2_with fail
  with_reducible refine (H2 _).mono ?_
  rintro e w2 ⟨rfl, b2⟩
  have C2 := b1.trans (b2.mono b1.size)
  have B2 := B1.trans (b2.mono B1.size)
  clear c0 c1 c2 c3 c4 c5 c6 c7 c8 c9 c10
  obtain ⟨c0, ⟨c1, c2, c3⟩, ⟨c4, c5, c6⟩, c7, c8, c9, c10⟩ := SK.out w2 C2
  cases y with
  | false =>
    have hF : R = false := by rw [hR.out]; simp
    subst hF
    clear hR H1 H2 H3 SK
    go_wp2_with fail
    go_ret
    exact ⟨rfl, B2⟩
  | true =>
  rcases la_cases l1 S1 i1 l2 S2 i2 with ⟨hEq, rfl, rfl, rfl⟩ | ⟨hNe, hy⟩
  · have hF : R = false := by rw [hR.out]; simp
    subst hF
    clear hR H1 H2 H3 SK hEq
    go_wp2_with fail
    go_ret
    exact ⟨rfl, B2⟩
  · have hD : decide (((l1, S1, i1) : LaT) = (l2, S2, i2)) = false := decide_eq_false hNe
    rcases hy with hy | ⟨hy1, hy⟩ | ⟨hy1, hy2, hy⟩
    all_goals
      by_cases a3 : 0 ≤ bu
      rotate_left 1
      · have hF : R = false := by rw [hR.out]; simp [a3]
        subst hF
        clear hR H1 H2 H3 SK hD hNe
        go_wp2_with fail
        go_ret
        exact ⟨rfl, B2⟩
      by_cases a4 : bu ≤ 1000
      rotate_left 1
      · have hF : R = false := by rw [hR.out]; simp [a4]
        subst hF
        clear hR H1 H2 H3 SK hD hNe
        go_wp2_with fail
        go_ret
        exact ⟨rfl, B2⟩
      have hF : R = z := by rw [hR.out, hD]; simp [a1, a2, a3, a4]
      subst hF
      have H3x := H3 w2
      clear hR H1 H2 H3 SK hD hNe
      go_wp2_with fail
      with_reducible refine H3x.mono ?_
      rintro e w3 ⟨rfl, b3⟩
      go_wp2_with fail
      go_ret
      exact ⟨rfl, B2.trans (b3.mono B2.size)⟩
end Go.Proofs.YtmmdpjliknmhgaaGreatDoor
