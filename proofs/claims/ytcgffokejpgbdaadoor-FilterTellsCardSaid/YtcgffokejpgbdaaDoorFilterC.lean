/- Walks of layer 13: the iterator over a form's signs, and the record made of them. -/
import Derived.Test.YtcgffokejpgbdaaDoorFilterB
namespace Go.Proofs.YtcgffokejpgbdaaDoor
open Go.RowKit Go.Shelf
attribute [local go_sem] Oper.semAt_some
/-- how many bytes the reader has left, for a loop's measure -/
def rdN (b : Nat) (W : World) : Nat := match W.cell? ⟨b, 0, none⟩ with | some (.string s) => s.size | _ => 0
theorem rdN_eq {b : Nat} {W : World} {l : List UInt8} {ev : Value} (h : Rd W b l ev) : rdN b W = l.length := by
  have c0 := h.cell 0
  simp at c0
  simp [rdN, c0, ba_size]

def SignsEnd (form : List UInt8) (rb : Nat) (ea : Addr) (xs : List UInt8) (V : World) : Prop := xs = (spr form).1 ∧ ∃ rest, Rd V rb rest (evOf (spr form).2 .nilIface ea)

set_option maxRecDepth 100000 in
set_option maxHeartbeats 2000000 in
theorem signs1_seq (n rb qb ob m : Nat) (form : List UInt8) (hl : form.length ≤ maxLen) (ea : Addr) (W : World) (hr : Rd W rb form .nilIface) (hq : Boxed W qb 86 (.pointer (some ⟨rb, 0, none⟩)))
    (hge : W.cell? ⟨0, 0, none⟩ = some (eV ea)) (h1 : rb ≠ 0) (h2 : qb ≠ rb) (h3 : ob ≠ rb) (h4 : ob ≠ qb) (h5 : ob ≠ 0) (h6 : rb < m) (h7 : qb < m) (h8 : 0 < m) :
    SeqG Fence.wide n Tryd.prog 58 #[.pointer (some ⟨qb, 0, none⟩)] (fun d : UInt8 => #[Value.int .u8 d.toNat]) (boxG rb) (keepK m ob)
      (SignsEnd form rb ea) (fun _ _ => True) (spr form).1.length W := by
  intro l J Jx hJ hJx hY h0
  (refine callsIn_of_wp Tryd.func58 rfl trivial ?_ rfl; simp only [Tryd.ntmps58, List.size_toArray, List.length_cons, List.length_nil, Nat.reduceAdd, Nat.reduceSub, Array.replicate_succ, Array.replicate_zero, List.push_toArray, List.append_toArray, List.nil_append, List.cons_append])
  refine wpIn_scope_w ?_
  gi_wp2
  refine wpIn_label ?_
  gi_wp2
  gi_loopw [] (fun wr => ∃ (pre rest : List UInt8), Hid ((spr form).1 = pre ++ (spr rest).1 ∧ (spr form).2 = (spr rest).2) ∧ rest.length ≤ form.length ∧ Rd wr rb rest .nilIface ∧ Boxed wr qb 86 (.pointer (some ⟨rb, 0, none⟩)) ∧ wr.cell? ⟨0, 0, none⟩ = some (eV ea) ∧ J pre wr) (fun wr => rdN rb wr)
  case atStart => exact ⟨[], form, ⟨rfl, rfl⟩, Nat.le_refl _, hr, hq, hge, h0⟩
  case round =>
    obtain ⟨pre, rest, hsp, hlen, hrd, hqb, hgc, hj⟩ := hrel
    have c0 := hrd.cell 0
    have c1 := hrd.cell 1
    simp at c0 c1
    have cq := hqb.cell
    unfold maxLen at hl
    cases rest with
    | nil =>
      gi_wp2
      simp only [Exit.noGoto_normal]
      go_end0
      refine ⟨⟨_, rfl⟩, .inl ⟨_, ⟨hsp.out.1.symm, [], ?_⟩, by rw [show (spr []).1 = [] by rw [spr], List.append_nil]; exact hj⟩⟩
      rw [hsp.out.2, show (spr []).2 = true by rw [spr]]
      exact hrd
    | cons c r =>
      have hlr := sgn_len c r
      have hn9 := sgn_small c r
      obtain ⟨q1, q2, q3, hq⟩ : ∃ q1 q2 q3, sgn c r = (q1, q2, q3) := ⟨_, _, _, rfl⟩
      have HC := sign_any rb c r .nilIface ea wr hrd (by unfold maxLen; omega) hgc h1
      rw [hq] at HC hlr hn9
      have HS : Hid (q3 = true → (spr form).1 = pre ++ List.replicate q1 c ++ (spr q2).1 ∧ (spr form).2 = (spr q2).2) := by
        intro h3
        have e := hsp.out
        rw [spr, hq] at e
        simp only [h3, if_true] at e
        exact ⟨by rw [e.1, List.append_assoc], e.2⟩
      have HN : Hid (q3 = false → q1 = 0 ∧ (spr form).1 = pre ∧ (spr form).2 = false) := by
        intro h3
        have e := hsp.out
        rw [spr, hq] at e
        simp only [h3, Bool.false_eq_true, if_false, List.append_nil] at e
        have e2 := sgn_no c r (by rw [hq]; exact h3)
        rw [hq] at e2
        exact ⟨e2, e⟩
      clear hq hsp
      gi_wp2_with (refine ⟨trivial, fun h => (by cases h), ?_⟩; gi_at_call 59; refine (callsIn_wide.2 HC).mono ?_; rintro e W1 ⟨rfl, hrd1, hg1⟩)
      clear HC
      have hqb1 : Boxed W1 qb 86 (.pointer (some ⟨rb, 0, none⟩)) := hqb.kept hg1 (by simpa using h2)
      have hgc1 := hg1.cell hgc (by simpa using Ne.symm h1)
      have hj1 : J pre W1 := hJ _ _ _ hj hg1
      have HM : Hid (rdN rb wr = (c :: r).length) := rdN_eq hrd
      clear hg1 hrd hqb hgc hj c0 c1 cq
      gi_loopw [17] (fun t wr => ∃ (k : Nat), k ≤ q1 ∧ t = .int .i64 k ∧ Rd wr rb q2 (evOf q3 .nilIface ea) ∧ Boxed wr qb 86 (.pointer (some ⟨rb, 0, none⟩)) ∧ wr.cell? ⟨0, 0, none⟩ = some (eV ea) ∧ J (pre ++ List.replicate k c) wr) (fun t wr => q1 - (intOf t).toNat)
      case atStart => exact ⟨0, Nat.zero_le _, rfl, hrd1, hqb1, hgc1, by simpa using hj1⟩
      case round =>
        obtain ⟨k, hk, rfl, hrd2, hqb2, hgc2, hj2⟩ := hrel
        by_cases hlt : k < q1
        · have hlen2 : (pre ++ List.replicate k c).length < (spr form).1.length := by
            cases q3 with
            | true => rw [(HS.out rfl).1]; simp; omega
            | false => have := (HN.out rfl).1; omega
          obtain ⟨fn, tmps, assign, body, hy, hR⟩ := hY (pre ++ List.replicate k c) c wr hj2 hlen2
          clear hlen2
          gi_wp2
          refine ⟨fun h => (by cases h), hR.mono ?_⟩
          rintro e V (⟨rfl, hj3, hk3⟩ | ⟨rfl, hj3⟩)
          · have hrd3 : Rd V rb q2 (evOf q3 .nilIface ea) := (hk3 rb h6 (Ne.symm h3)).trans hrd2
            have hqb3 : Boxed V qb 86 (.pointer (some ⟨rb, 0, none⟩)) := (hk3 qb h7 (Ne.symm h4)).trans hqb2
            have hgc3 : V.cell? ⟨0, 0, none⟩ = some (eV ea) := (World.cell?_of_block (w := wr) (a := ⟨0, 0, none⟩) (hk3 _ h8 (Ne.symm h5))).trans hgc2
            gi_wp2
            go_roundw
            case rel => exact ⟨k + 1, by omega, by go_num, hrd3, hqb3, hgc3, by rw [List.replicate_succ', ← List.append_assoc]; exact hj3⟩
            case measure => simp [intOf]; omega
          · gi_wp2
            simp only [Exit.noGoto_normal]
            go_end0
            exact ⟨⟨_, rfl⟩, .inr ⟨_, trivial, hj3⟩⟩
        · obtain rfl : k = q1 := by omega
          have cq := hqb2.cell
          have c1 := hrd2.cell 1
          cases q3 with
          | true =>
            have c1' : wr.cell? ⟨rb, 1, none⟩ = some .nilIface := by simpa [evOf] using c1
            clear c1
            gi_wp2
            go_roundw
            case rel => exact ⟨_, q2, HS.out rfl, by have := hlr; simp at hlen; omega, hrd2, hqb2, hgc2, hj2⟩
            case measure => rw [rdN_eq hrd2, HM.out]; simp; omega
          | false =>
            have c1' : wr.cell? ⟨rb, 1, none⟩ = some (eV ea) := by simpa [evOf] using c1
            clear c1
            obtain ⟨rfl, z2, z3⟩ := HN.out rfl
            have hfin : SignsEnd form rb ea pre wr := ⟨z2.symm, q2, by rw [z3]; exact hrd2⟩
            have hj5 : J pre wr := by simpa using hj2
            clear z2 z3 HN HS
            gi_wp2
            simp only [Exit.noGoto_normal]
            go_end0
            exact ⟨⟨_, rfl⟩, .inl ⟨pre, hfin, hj5⟩⟩
end Go.Proofs.YtcgffokejpgbdaaDoor
