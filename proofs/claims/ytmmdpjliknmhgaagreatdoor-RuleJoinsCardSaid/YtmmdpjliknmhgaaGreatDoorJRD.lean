/- Joined: FlrB; FlrC; FlrD; FlrE; FlrF; FlrG -/
import Derived.Test.YtmmdpjliknmhgaaGreatDoorJRB
import Derived.Test.YtmmdpjliknmhgaaGreatDoorShelf
import Derived.Test.YtmmdpjliknmhgaaGreatDoorJRC
import Derived.Test.YtmmdpjliknmhgaaGreatDoorJRA
import Derived.Lib.ConvBytes
/- Walks of layer 13: the reader of forms: one sign. -/
namespace Go.Proofs.YtmmdpjliknmhgaaGreatDoor
open Go.RowKit
abbrev sepL : List UInt8 := [45, 58, 47]
theorem idx_yes (c : UInt8) (h : c = 45 ∨ c = 58 ∨ c = 47) (w : World) :
    Calls Tryz.prog 152 #[.string ⟨#[45, 58, 47]⟩, .int .u8 c.toNat] w fun e w' => (∃ k : Nat, e = .returned (.int .i64 k)) ∧ w = w' := by
  refine (Tryz.strings_IndexByte ⟨#[45, 58, 47]⟩ c.toNat w).mono ?_
  rintro e w' ⟨rfl, rfl⟩
  refine ⟨?_, rfl⟩
  rcases h with rfl | rfl | rfl
  · exact ⟨0, rfl⟩
  · exact ⟨1, rfl⟩
  · exact ⟨2, rfl⟩
theorem idx_no (c : UInt8) (h1 : c ≠ 45) (h2 : c ≠ 58) (h3 : c ≠ 47) (w : World) :
    Calls Tryz.prog 152 #[.string ⟨#[45, 58, 47]⟩, .int .u8 c.toNat] w fun e w' => e = .returned (.int .i64 (-1)) ∧ w = w' := by
  refine (Tryz.strings_IndexByte ⟨#[45, 58, 47]⟩ c.toNat w).mono ?_
  rintro e w' ⟨rfl, rfl⟩
  refine ⟨?_, rfl⟩
  have hc : ((c.toNat : Int)).toNat.toUInt8 = c := by simp
  rw [hc]
  simp [Lib.indexByte, Ne.symm h1, Ne.symm h2, Ne.symm h3]
def isSep (c : UInt8) : Prop := c = 45 ∨ c = 58 ∨ c = 47

theorem da_tests (c : UInt8) (hc : c = 100 ∨ c = 97) : c ≠ 45 ∧ c ≠ 58 ∧ c ≠ 47 ∧ (((c.toNat : Int) != 100) = false ∨ ((c.toNat : Int) != 100) = true ∧ ((c.toNat : Int) != 97) = false) := by
  rcases hc with rfl | rfl <;> decide

/-- The reader's block: what is left, what went wrong. -/
abbrev Rd (W : World) (b : Nat) (l : List UInt8) (ev : Value) : Prop := Blk W b #[.string ⟨l.toArray⟩, ev] 202

set_option maxRecDepth 100000 in
set_option maxHeartbeats 1000000 in
theorem sign_sep (b : Nat) (c : UInt8) (r : List UInt8) (ev : Value) (w : World) (h : Rd w b (c :: r) ev) (hl : (c :: r).length ≤ maxLen) (hc : isSep c) :
    Calls Tryz.prog 140 #[.pointer (some ⟨b, 0, none⟩)] w fun e w' => e = .returned (.tuple #[.int .u8 c.toNat, .int .i64 1]) ∧ Rd w' b r ev ∧ w.grownBy w' (some b) := by
  unfold maxLen at hl
  have c0 := h.cell 0
  have f0 := h.frozen 0
  have hl' : r.length + 1 ≤ 2 ^ 63 - 1 := hl
  simp at c0
  go_enter Tryz.func140, Tryz.ntmps140
  go_wp2_with (go_at_call 152; refine (idx_yes c hc _).mono ?_; rintro e w' ⟨⟨k, rfl⟩, rfl⟩)
  go_ret2
  exact ⟨rfl, by simpa using h.set 0 (.string ⟨r.toArray⟩), grownBy_setCellB _ _ _ _⟩

set_option maxRecDepth 100000 in
set_option maxHeartbeats 1000000 in
theorem sign_run (b : Nat) (c d : UInt8) (r : List UInt8) (ev : Value) (w : World) (h : Rd w b (c :: d :: r) ev) (hl : (c :: d :: r).length ≤ maxLen) (hc : c = 100 ∨ c = 97) (hd1 : 49 ≤ (d.toNat : Int)) (hd2 : (d.toNat : Int) ≤ 57) :
    Calls Tryz.prog 140 #[.pointer (some ⟨b, 0, none⟩)] w fun e w' => e = .returned (.tuple #[.int .u8 c.toNat, .int .i64 (d.toNat - 48)]) ∧ Rd w' b r ev ∧ w.grownBy w' (some b) := by
  unfold maxLen at hl
  have c0 := h.cell 0
  have f0 := h.frozen 0
  have hl' : r.length + 2 ≤ 2 ^ 63 - 1 := hl
  simp at c0
  have H1 := h.set 0 (.string ⟨(d :: r).toArray⟩)
  have c1 := H1.cell 0
  have f1 := H1.frozen 0
  simp at c1
  have H2 := H1.set 0 (.string ⟨r.toArray⟩)
  have hg := grownBy_t (grownBy_setCellB w b 0 (.string ⟨(d :: r).toArray⟩)) (grownBy_setCellB _ b 0 (.string ⟨r.toArray⟩))
  obtain ⟨n1, n2, n3, hT⟩ := da_tests c hc
  clear hc
  rcases hT with e1 | ⟨e1, e2⟩
  all_goals
    go_enter Tryz.func140, Tryz.ntmps140
    go_wp2_with (go_at_call 152; refine (idx_no c n1 n2 n3 _).mono ?_; rintro e w' ⟨rfl, rfl⟩)
    go_ret2
    exact ⟨rfl, by simpa using H2, hg⟩




set_option maxRecDepth 100000 in
set_option maxHeartbeats 1000000 in
/-- No sign: c is none, or nothing or no digit from 1 to 9 stands behind it. -/
theorem sign_bad (b : Nat) (c : UInt8) (r : List UInt8) (ev : Value) (ea : Addr) (w : World) (h : Rd w b (c :: r) ev) (hl : (c :: r).length ≤ maxLen) (hge : w.cell? ⟨1, 0, none⟩ = some (eV ea)) (hb : b ≠ 1)
    (hc : ¬ isSep c) (hbad : (c ≠ 100 ∧ c ≠ 97) ∨ r = [] ∨ ∃ d r', r = d :: r' ∧ ((d.toNat : Int) < 49 ∨ 57 < (d.toNat : Int))) :
    Calls Tryz.prog 140 #[.pointer (some ⟨b, 0, none⟩)] w fun e w' => e = .returned (.tuple #[.int .u8 c.toNat, .int .i64 0]) ∧ Rd w' b r (eV ea) ∧ w.grownBy w' (some b) := by
  unfold maxLen at hl
  have c0 := h.cell 0
  have f0 := h.frozen 0
  have hl' : r.length + 1 ≤ 2 ^ 63 - 1 := hl
  simp at c0
  have H1 := h.set 0 (.string ⟨r.toArray⟩)
  have c1 := H1.cell 0
  have f1 := H1.frozen 0
  have f1' := H1.frozen 1
  have c1' := H1.cell 1
  simp at c1 c1'
  have hg1 := grownBy_setCellB w b 0 (.string ⟨r.toArray⟩)
  have cg := hg1.cell hge (by simpa using Ne.symm hb)
  have H2 := H1.set 1 (eV ea)
  have hg := grownBy_t hg1 (grownBy_setCellB _ b 1 (eV ea))
  have n1 : c ≠ 45 := fun e => hc (.inl e)
  have n2 : c ≠ 58 := fun e => hc (.inr (.inl e))
  have n3 : c ≠ 47 := fun e => hc (.inr (.inr e))
  clear hc
  by_cases hda : c = 100 ∨ c = 97
  · have hb2 : r = [] ∨ ∃ d r', r = d :: r' ∧ ((d.toNat : Int) < 49 ∨ 57 < (d.toNat : Int)) := by
      rcases hbad with h | h
      · rcases hda with e | e
        · exact absurd e h.1
        · exact absurd e h.2
      · exact h
    clear hbad
    obtain ⟨_, _, _, hT⟩ := da_tests c hda
    clear hda
    rcases hb2 with rfl | ⟨d, r', rfl, hd⟩
    · rcases hT with e1 | ⟨e1, e2⟩
      all_goals
        go_enter Tryz.func140, Tryz.ntmps140
        go_wp2_with (go_at_call 152; refine (idx_no c n1 n2 n3 _).mono ?_; rintro e w' ⟨rfl, rfl⟩)
        go_ret2
        exact ⟨rfl, by simpa using H2, hg⟩
    · rcases hT with e1 | ⟨e1, e2⟩
      all_goals rcases hd with hd | hd
      all_goals
        go_enter Tryz.func140, Tryz.ntmps140
        go_wp2_with (go_at_call 152; refine (idx_no c n1 n2 n3 _).mono ?_; rintro e w' ⟨rfl, rfl⟩)
        all_goals (go_ret2; exact ⟨rfl, by simpa using H2, hg⟩)
  · have e1 : ((c.toNat : Int) != 100) = true := by
      rw [bne_iff_ne]; intro e; exact hda (.inl (u8_eq (by have : ((100:UInt8).toNat : Int) = 100 := rfl; omega)))
    have e2 : ((c.toNat : Int) != 97) = true := by
      rw [bne_iff_ne]; intro e; exact hda (.inr (u8_eq (by have : ((97:UInt8).toNat : Int) = 97 := rfl; omega)))
    clear hda hbad
    go_enter Tryz.func140, Tryz.ntmps140
    go_wp2_with (go_at_call 152; refine (idx_no c n1 n2 n3 _).mono ?_; rintro e w' ⟨rfl, rfl⟩)
    go_ret2
    exact ⟨rfl, by simpa using H2, hg⟩

theorem isSep_iff (c : UInt8) : isSep c ↔ isSepB c = true := by simp [isSep, isSepB, or_assoc]
theorem isRep_iff (d : UInt8) : isRep d = true ↔ 49 ≤ (d.toNat : Int) ∧ (d.toNat : Int) ≤ 57 := by simp [isRep]

def evOf (ok : Bool) (ev : Value) (ea : Addr) : Value := if ok then ev else eV ea
/-- One sign, of whatever make. -/
theorem sign_any (b : Nat) (c : UInt8) (r : List UInt8) (ev : Value) (ea : Addr) (w : World) (h : Rd w b (c :: r) ev) (hl : (c :: r).length ≤ maxLen) (hge : w.cell? ⟨1, 0, none⟩ = some (eV ea)) (hb : b ≠ 1) :
    Calls Tryz.prog 140 #[.pointer (some ⟨b, 0, none⟩)] w fun e w' => e = .returned (.tuple #[.int .u8 c.toNat, .int .i64 (sgn c r).1]) ∧ Rd w' b (sgn c r).2.1 (evOf (sgn c r).2.2 ev ea) ∧ w.grownBy w' (some b) := by
  by_cases hs : isSepB c = true
  · have e : sgn c r = (1, r, true) := by unfold sgn; rw [if_pos hs]
    rw [e]
    exact sign_sep b c r ev w h hl ((isSep_iff c).2 hs)
  · have hs' : ¬ isSep c := fun x => hs ((isSep_iff c).1 x)
    by_cases hd : isDA c = true
    · have hd' : c = 100 ∨ c = 97 := by simpa [isDA] using hd
      cases r with
      | nil =>
        have e : sgn c [] = (0, [], false) := by rw [sgn, if_neg hs, if_pos hd]
        rw [e]
        exact sign_bad b c [] ev ea w h hl hge hb hs' (.inr (.inl rfl))
      | cons d r =>
        by_cases hr : isRep d = true
        · have e : sgn c (d :: r) = (d.toNat - 48, r, true) := by rw [sgn, if_neg hs, if_pos hd]; simp [hr]
          have h2 := (isRep_iff d).1 hr
          rw [e]
          have e2 : (((d.toNat - 48, r, true).1 : Nat) : Int) = (d.toNat : Int) - 48 := by show ((d.toNat - 48 : Nat) : Int) = _; omega
          rw [e2]
          exact sign_run b c d r ev w h hl hd' h2.1 h2.2
        · have e : sgn c (d :: r) = (0, d :: r, false) := by rw [sgn, if_neg hs, if_pos hd]; simp [hr]
          rw [e]
          refine sign_bad b c (d :: r) ev ea w h hl hge hb hs' (.inr (.inr ⟨d, r, rfl, ?_⟩))
          have : ¬ (49 ≤ (d.toNat : Int) ∧ (d.toNat : Int) ≤ 57) := fun x => hr ((isRep_iff d).2 x)
          omega
    · have e : sgn c r = (0, r, false) := by unfold sgn; rw [if_neg hs, if_neg hd]
      rw [e]
      refine sign_bad b c r ev ea w h hl hge hb hs' (.inl ?_)
      simp [isDA] at hd; exact hd
end Go.Proofs.YtmmdpjliknmhgaaGreatDoor
/- Walks of layer 13: the iterator over a form's signs, and the record made of them. -/
namespace Go.Proofs.YtmmdpjliknmhgaaGreatDoor
open Go.RowKit Go.Shelf
attribute [local go_sem] Oper.semAt_some
/-- how many bytes the reader has left, for a loop's measure -/
def rdN (b : Nat) (W : World) : Nat := match W.cell? ⟨b, 0, none⟩ with | some (.string s) => s.size | _ => 0
theorem rdN_eq {b : Nat} {W : World} {l : List UInt8} {ev : Value} (h : Rd W b l ev) : rdN b W = l.length := by
  have c0 := h.cell 0
  simp at c0
  simp [rdN, c0, ba_size]

def SignsEnd (form : List UInt8) (rb : Nat) (ea : Addr) (xs : List UInt8) (V : World) : Prop := xs = (spr form).1 ∧ ∃ rest, Rd V rb rest (evOf (spr form).2 .nilIface ea)

set_option maxRecDepth 100000 in
set_option maxHeartbeats 2000000 in
theorem signs1_seq (n rb qb ob m : Nat) (form : List UInt8) (hl : form.length ≤ maxLen) (ea : Addr) (W : World) (hr : Rd W rb form .nilIface) (hq : Boxed W qb 198 (.pointer (some ⟨rb, 0, none⟩)))
    (hge : W.cell? ⟨1, 0, none⟩ = some (eV ea)) (h1 : rb ≠ 1) (h2 : qb ≠ rb) (h3 : ob ≠ rb) (h4 : ob ≠ qb) (h5 : ob ≠ 1) (h6 : rb < m) (h7 : qb < m) (h8 : 1 < m) :
    SeqG Fence.wide n Tryz.prog 139 #[.pointer (some ⟨qb, 0, none⟩)] (fun d : UInt8 => #[Value.int .u8 d.toNat]) (boxG rb) (keepK m ob)
      (SignsEnd form rb ea) (fun _ _ => True) (spr form).1.length W := by
  intro l J Jx hJ hJx hY h0
  (refine callsIn_of_wp Tryz.func139 rfl trivial ?_ rfl; simp only [Tryz.ntmps139, List.size_toArray, List.length_cons, List.length_nil, Nat.reduceAdd, Nat.reduceSub, Array.replicate_succ, Array.replicate_zero, List.push_toArray, List.append_toArray, List.nil_append, List.cons_append])
  refine wpIn_scope_w ?_
  gi_wp2
  refine wpIn_label ?_
  gi_wp2
  gi_loopw [] (fun wr => ∃ (pre rest : List UInt8), Hid ((spr form).1 = pre ++ (spr rest).1 ∧ (spr form).2 = (spr rest).2) ∧ rest.length ≤ form.length ∧ Rd wr rb rest .nilIface ∧ Boxed wr qb 198 (.pointer (some ⟨rb, 0, none⟩)) ∧ wr.cell? ⟨1, 0, none⟩ = some (eV ea) ∧ J pre wr) (fun wr => rdN rb wr)
  case atStart => exact ⟨[], form, ⟨rfl, rfl⟩, Nat.le_refl _, hr, hq, hge, h0⟩
  case round =>
    obtain ⟨pre, rest, hsp, hlen, hrd, hqb, hgc, hj⟩ := hrel
    have c0 := hrd.cell 0
    have c1 := hrd.cell 1
    simp at c0 c1
    have cq := hqb.cell
    unfold maxLen at hl
    cases rest with
    | nil =>
      gi_wp2
      simp only [Exit.noGoto_normal]
      go_end0
      refine ⟨⟨_, rfl⟩, .inl ⟨_, ⟨hsp.out.1.symm, [], ?_⟩, by rw [show (spr []).1 = [] by rw [spr], List.append_nil]; exact hj⟩⟩
      rw [hsp.out.2, show (spr []).2 = true by rw [spr]]
      exact hrd
    | cons c r =>
      have hlr := sgn_len c r
      have hn9 := sgn_small c r
      obtain ⟨q1, q2, q3, hq⟩ : ∃ q1 q2 q3, sgn c r = (q1, q2, q3) := ⟨_, _, _, rfl⟩
      have HC := sign_any rb c r .nilIface ea wr hrd (by unfold maxLen; omega) hgc h1
      rw [hq] at HC hlr hn9
      have HS : Hid (q3 = true → (spr form).1 = pre ++ List.replicate q1 c ++ (spr q2).1 ∧ (spr form).2 = (spr q2).2) := by
        intro h3
        have e := hsp.out
        rw [spr, hq] at e
        simp only [h3, if_true] at e
        exact ⟨by rw [e.1, List.append_assoc], e.2⟩
      have HN : Hid (q3 = false → q1 = 0 ∧ (spr form).1 = pre ∧ (spr form).2 = false) := by
        intro h3
        have e := hsp.out
        rw [spr, hq] at e
        simp only [h3, Bool.false_eq_true, if_false, List.append_nil] at e
        have e2 := sgn_no c r (by rw [hq]; exact h3)
        rw [hq] at e2
        exact ⟨e2, e⟩
      clear hq hsp
      gi_wp2_with (refine ⟨trivial, fun h => (by cases h), ?_⟩; gi_at_call 140; refine (callsIn_wide.2 HC).mono ?_; rintro e W1 ⟨rfl, hrd1, hg1⟩)
      clear HC
      have hqb1 : Boxed W1 qb 198 (.pointer (some ⟨rb, 0, none⟩)) := hqb.kept hg1 (by simpa using h2)
      have hgc1 := hg1.cell hgc (by simpa using Ne.symm h1)
      have hj1 : J pre W1 := hJ _ _ _ hj hg1
      have HM : Hid (rdN rb wr = (c :: r).length) := rdN_eq hrd
      clear hg1 hrd hqb hgc hj c0 c1 cq
      gi_loopw [17] (fun t wr => ∃ (k : Nat), k ≤ q1 ∧ t = .int .i64 k ∧ Rd wr rb q2 (evOf q3 .nilIface ea) ∧ Boxed wr qb 198 (.pointer (some ⟨rb, 0, none⟩)) ∧ wr.cell? ⟨1, 0, none⟩ = some (eV ea) ∧ J (pre ++ List.replicate k c) wr) (fun t wr => q1 - (intOf t).toNat)
      case atStart => exact ⟨0, Nat.zero_le _, rfl, hrd1, hqb1, hgc1, by simpa using hj1⟩
      case round =>
        obtain ⟨k, hk, rfl, hrd2, hqb2, hgc2, hj2⟩ := hrel
        by_cases hlt : k < q1
        · have hlen2 : (pre ++ List.replicate k c).length < (spr form).1.length := by
            cases q3 with
            | true => rw [(HS.out rfl).1]; simp; omega
            | false => have := (HN.out rfl).1; omega
          obtain ⟨fn, tmps, assign, body, hy, hR⟩ := hY (pre ++ List.replicate k c) c wr hj2 hlen2
          clear hlen2
          gi_wp2
          refine ⟨fun h => (by cases h), hR.mono ?_⟩
          rintro e V (⟨rfl, hj3, hk3⟩ | ⟨rfl, hj3⟩)
          · have hrd3 : Rd V rb q2 (evOf q3 .nilIface ea) := (hk3 rb h6 (Ne.symm h3)).trans hrd2
            have hqb3 : Boxed V qb 198 (.pointer (some ⟨rb, 0, none⟩)) := (hk3 qb h7 (Ne.symm h4)).trans hqb2
            have hgc3 : V.cell? ⟨1, 0, none⟩ = some (eV ea) := (World.cell?_of_block (w := wr) (a := ⟨1, 0, none⟩) (hk3 _ h8 (Ne.symm h5))).trans hgc2
            gi_wp2
            go_roundw
            case rel => exact ⟨k + 1, by omega, by go_num, hrd3, hqb3, hgc3, by rw [List.replicate_succ', ← List.append_assoc]; exact hj3⟩
            case measure => simp [intOf]; omega
          · gi_wp2
            simp only [Exit.noGoto_normal]
            go_end0
            exact ⟨⟨_, rfl⟩, .inr ⟨_, trivial, hj3⟩⟩
        · obtain rfl : k = q1 := by omega
          have cq := hqb2.cell
          have c1 := hrd2.cell 1
          cases q3 with
          | true =>
            have c1' : wr.cell? ⟨rb, 1, none⟩ = some .nilIface := by simpa [evOf] using c1
            clear c1
            gi_wp2
            go_roundw
            case rel => exact ⟨_, q2, HS.out rfl, by have := hlr; simp at hlen; omega, hrd2, hqb2, hgc2, hj2⟩
            case measure => rw [rdN_eq hrd2, HM.out]; simp; omega
          | false =>
            have c1' : wr.cell? ⟨rb, 1, none⟩ = some (eV ea) := by simpa [evOf] using c1
            clear c1
            obtain ⟨rfl, z2, z3⟩ := HN.out rfl
            have hfin : SignsEnd form rb ea pre wr := ⟨z2.symm, q2, by rw [z3]; exact hrd2⟩
            have hj5 : J pre wr := by simpa using hj2
            clear z2 z3 HN HS
            gi_wp2
            simp only [Exit.noGoto_normal]
            go_end0
            exact ⟨⟨_, rfl⟩, .inl ⟨pre, hfin, hj5⟩⟩
end Go.Proofs.YtmmdpjliknmhgaaGreatDoor
/- Walks of layer 13: the record of a form. -/
namespace Go.Proofs.YtmmdpjliknmhgaaGreatDoor
open Go.RowKit Go.Shelf
attribute [local go_sem] Oper.semAt_some
theorem infoU8 : (Tryz.prog.info? 5).map (fun i => (i.zero, i.size, i.bytes)) = some (some (.int .u8 0), 1, 1) := by kernel_rfl

/-- r.signs(): the receiver is boxed; the function value captures the box -/
theorem signs_any (p : Option Addr) (w : World) :
    Calls Tryz.prog 122 #[.pointer p] w fun e w' => e = .returned (.func (.func 139) #[] #[.pointer (some ⟨w.heap.size, 0, none⟩)]) ∧ w.alloc (.cells #[.pointer p] 198) = w' := by
  have hmf : ∀ (fn : Fn) (first cap : Array Value) (w : World), (Instr.makeFunc fn first cap).run Tryz.prog w = .ok (.func fn first cap) w := fun _ _ _ _ => rfl
  go_enter Tryz.func122, Tryz.ntmps122
  go_wp2
  go_ret
  exact ⟨rfl, rfl⟩

def recOk (form : List UInt8) : Bool := !form.isEmpty && (spr form).2

set_option maxRecDepth 100000 in
set_option maxHeartbeats 2000000 in
theorem record_any (form : List UInt8) (hl : form.length ≤ 1000) (ea : Addr) (w : World) (hge : w.cell? ⟨1, 0, none⟩ = some (eV ea)) :
    Calls Tryz.prog 108 #[.string ⟨form.toArray⟩] w fun e w' => e = .returned (.tuple #[.string ⟨(spr form).1.toArray⟩, evOf (recOk form) .nilIface ea]) ∧ Below w.heap.size w w' := by
  have hgs : 1 < w.heap.size := World.block_lt_of_cell? w _ hge
  obtain ⟨i0, hi, hz0, hz1, hz2⟩ := info_parts infoU8
  refine (callsIn_wide (n := 3)).1 ?_
  (refine callsIn_of_wp_marks Tryz.func108 rfl trivial ?_ rfl; simp only [Tryz.ntmps108, List.size_toArray, List.length_cons, List.length_nil, Nat.reduceAdd, Nat.reduceSub, Array.replicate_succ, Array.replicate_zero, List.push_toArray, List.append_toArray, List.nil_append, List.cons_append])
  gi_wp2_with (refine ⟨trivial, ?_⟩; gi_at_call 122; refine (callsIn_wide.2 (signs_any _ _)).mono ?_; rintro e w' ⟨rfl, rfl⟩)
  have r0 : Rd (w.alloc (.cells #[.string ⟨form.toArray⟩, .nilIface] 202)) w.heap.size form .nilIface := Blk.new _ _ _
  have o0 := Boxed.new (w.alloc (.cells #[.string ⟨form.toArray⟩, .nilIface] 202)) 54 (.slice none 0 0)
  have q0 := Boxed.new ((w.alloc (.cells #[.string ⟨form.toArray⟩, .nilIface] 202)).alloc (.cells #[.slice none 0 0] 54)) 198 (.pointer (some ⟨w.heap.size, 0, none⟩))
  rw [World.size_alloc] at o0
  rw [World.size_alloc, World.size_alloc] at q0
  have r1 := (r0.alloc (.cells #[.slice none 0 0] 54)).alloc (.cells #[.pointer (some ⟨w.heap.size, 0, none⟩)] 198)
  have o1 := o0.alloc (.cells #[.pointer (some ⟨w.heap.size, 0, none⟩)] 198)
  have hB0 : Below w.heap.size w (((w.alloc (.cells #[.string ⟨form.toArray⟩, .nilIface] 202)).alloc (.cells #[.slice none 0 0] 54)).alloc (.cells #[.pointer (some ⟨w.heap.size, 0, none⟩)] 198)) :=
    (((Below.refl _ w).alloc (Nat.le_refl _) _).alloc (by simp) _).alloc (by simp; omega) _
  have hz0' : (((w.alloc (.cells #[.string ⟨form.toArray⟩, .nilIface] 202)).alloc (.cells #[.slice none 0 0] 54)).alloc (.cells #[.pointer (some ⟨w.heap.size, 0, none⟩)] 198)).heap.size = w.heap.size + 3 := by simp
  obtain ⟨W0, hW0⟩ : ∃ W0, ((w.alloc (.cells #[.string ⟨form.toArray⟩, .nilIface] 202)).alloc (.cells #[.slice none 0 0] 54)).alloc (.cells #[.pointer (some ⟨w.heap.size, 0, none⟩)] 198) = W0 := ⟨_, rfl⟩
  rw [hW0] at r1 o1 q0 hB0 hz0' ⊢
  clear hW0 r0 o0
  have hsl := spr_len _ form (Nat.le_refl _)
  have hgW0 : W0.cell? ⟨1, 0, none⟩ = some (eV ea) := (hB0.cell (p := ⟨1, 0, none⟩) hgs).trans hge
  refine range_law rfl (by omega) (gf := 139) (lb := #[.pointer (some ⟨w.heap.size + 2, 0, none⟩)]) rfl trivial (enters_of Tryz.func139 (by kernel_rfl) rfl)
    (G := boxG w.heap.size) (Kp := keepK (w.heap.size + 3) (w.heap.size + 1))
    (fun W hW _ => signs1_seq _ w.heap.size (w.heap.size + 2) (w.heap.size + 1) (w.heap.size + 3) form (by unfold maxLen; omega) ea W (r1.below hW (by omega)) (Blk.below q0 hW (by omega)) ((hW.cell (p := ⟨1, 0, none⟩) (by show 1 < _; omega)).trans hgW0)
      (by omega) (by omega) (by omega) (by omega) (by omega) (by omega) (by omega) (by omega)) keepK_t (by rw [hz0']; exact keepK_b) (boxG_keeps (by omega)) (fun _ => rfl)
    (fun pre W => (∃ v, Boxed W (w.heap.size + 1) 54 v ∧ W.ownsRow (w.heap.size + 3) 5 1 v pre.length (pre.map fun c => Value.int .u8 c.toNat)) ∧ Below w.heap.size w W ∧ w.heap.size + 3 ≤ W.heap.size) (fun _ _ _ => False)
    ((bears_ex fun v => (bears_boxed _ _ _ (fun _ => v)).and (bears_row _ _ _ _ (fun _ => v) _ _)).and ((bears_below (Nat.le_refl _) (by omega)).and (bears_size _ _))) (fun _ => bears_const _ _)
    ((bears_const _ _).and (bears_ex fun rest => bears_blk _ _ _ (fun _ => #[.string ⟨rest.toArray⟩, evOf (spr form).2 .nilIface ea]))) (bears_const _ _)
    (fun s A B ⟨⟨v, hv, hr⟩, hb, hs⟩ hg => ⟨⟨v, Boxed_boxG hv hg (by omega), row_boxG hr hg (by omega)⟩, Below_boxG hb hg (Nat.le_refl _) (Nat.le_refl _), Nat.le_trans hs (size_boxG hg)⟩) (fun _ _ _ _ h _ => h)
    ⟨⟨_, o1, World.ownsRow_nil _ _ _ _⟩, hB0, by omega⟩
    (fun x => { tmps := #[.string ⟨form.toArray⟩, undef, .string ⟨#[]⟩, .nilIface, .pointer (some ⟨w.heap.size, 0, none⟩), .pointer (some ⟨w.heap.size + 1, 0, none⟩), .int .u8 x.toNat, .string ⟨form.toArray⟩, .agg #[.string ⟨form.toArray⟩], .agg #[.string ⟨form.toArray⟩, .nilIface],
      .pointer (some ⟨w.heap.size, 0, none⟩), .pointer (some ⟨w.heap.size, 0, none⟩), .func (.func 139) #[] #[.pointer (some ⟨w.heap.size + 2, 0, none⟩)], .int .u8 x.toNat, undef, undef, undef, undef, undef, undef, undef, undef, undef, undef, undef, undef, undef], defers := [] }) ?assign ?body ?done ?stop
  case assign =>
    intro l x W K hK
    gi_wp2
    exact hK
  case body =>
    rintro l pre x W ⟨⟨v, hv, hrow⟩, hB, hz⟩ hlen
    have hc := hv.cell
    gi_wp2_with (gi_at_builtin; refine wpListIn_append_own _ rfl _ _ 54 rfl (w.heap.size + 3) 5 i0 (.int .u8 0) 1 1 Tryz.underlying54 hi hz0 hz1 hz2 rfl (by decide) _ _ _ rfl (hrow.alloc _) ⟨W.heap.size, 0, none⟩ 1 1 [.int .u8 x.toNat] rfl rfl (cell_one_new _ _ _) (by simp [Value.oneCell']) (by unfold maxLen; omega) (by omega) (by simp; omega) ?_; intro v' w1 hown' hgrow _; obtain ⟨g', cap', rfl⟩ := ownsRow_succ hown'; obtain ⟨hv1, hv2, hr2, hk2, hs2, hi2, hb2⟩ := appended hv (by decide) hrow hown' hgrow; have hc1 := hv1.cell; have hf1 := hv1.frozen)
    exact ⟨hk2 _, fun i hi ho => hi2 i (by omega) (by omega) ho, ⟨_, hv2, by simpa using hr2⟩, hB.trans (hb2 _ (by omega) (by omega) (by omega)), by omega⟩
  case done =>
    rintro D xs W hD ⟨rfl, rest, hrd⟩ ⟨⟨v, hv, hrow⟩, hB, hz⟩ hK
    have hc := hv.cell
    have c1 := hrd.cell 1
    have hgW : W.cell? ⟨1, 0, none⟩ = some (eV ea) := (hB.cell (p := ⟨1, 0, none⟩) hgs).trans hge
    have hend : Below w.heap.size w (W.putObj D (.deferred none)) := hB.trans (belowK_b (w := w) (Nat.le_refl _) W D _ _ (by omega) hK rfl rfl)
    have hcv : ∀ nq, (convert 54 9 v).run Tryz.prog (W.drewN nq) = .ok (.string ⟨(spr form).1.toArray⟩) (W.drewN nq) := by
      intro nq
      obtain ⟨hlen, hv2⟩ := row_cells hrow
      rcases hv2 with ⟨rfl, h0⟩ | ⟨g, cap, rfl, _, hcells⟩
      · have : (spr form).1 = [] := List.length_eq_zero_iff.1 h0
        rw [this]
        rw [run_convert_bytes_string _ _ _ _ _ _ _ Tryz.underlying54 Tryz.underlying5 Tryz.underlying9]
        rfl
      · refine conv_bytes (W.drewN nq) _ _ 5 ⟨g, 0, none⟩ cap (spr form).1 Tryz.underlying54 Tryz.underlying5 Tryz.underlying9 fun j hj => ?_
        have := hcells j (by simpa using hj)
        rw [show (⟨g, 0, none⟩ : Addr).add j = ⟨g, j, none⟩ by simp only [Addr.add]; split <;> simp_all]
        simpa using this
    by_cases hf : form = []
    · subst hf
      gi_wp2
      refine wpIn_wide.2 ?_
      go_quiet (fail)
      gi_wp2
      refine ⟨by simp, .inl ⟨_, _, rfl, run_takeDeferred (w := W.drewN nq) hK, ?_⟩⟩
      exact ⟨_, results_tmp2 rfl _ _ _, by rw [show (spr []).1 = [] by rw [spr]]; rfl, hend.os, hend.tape, hend.output, hend.size, hend.block⟩
    · have he : form.isEmpty = false := by simpa using hf
      gi_wp2
      refine wpIn_wide.2 ?_
      go_quiet (fail)
      gi_wp2
      refine ⟨by simp, .inl ⟨_, _, rfl, run_takeDeferred (w := W.drewN nq) hK, ?_⟩⟩
      exact ⟨_, results_tmp2 rfl _ _ _, by rw [show recOk form = (spr form).2 by simp [recOk, he]]; rfl, hend.os, hend.tape, hend.output, hend.size, hend.block⟩
  case stop =>
    rintro D c pre W _ _ h _
    exact h.elim
end Go.Proofs.YtmmdpjliknmhgaaGreatDoor
/- Walks of layer 13: the tests (closures). -/
namespace Go.Proofs.YtmmdpjliknmhgaaGreatDoor
open Go.RowKit
/-- a byte is of a class -/
def ofL : List UInt8 → UInt8 → Bool
  | a :: b :: r, c => (decide (a.toNat ≤ c.toNat) && decide (c.toNat ≤ b.toNat)) || ofL r c
  | _, _ => false
/-- a byte fits a sign -/
def fitB (g c : UInt8) : Bool := if ((g.toNat : Int) == 100) then decide (48 ≤ (c.toNat : Int)) && decide ((c.toNat : Int) ≤ 57) else if ((g.toNat : Int) == 97) then decide (97 ≤ (c.toNat : Int)) && decide ((c.toNat : Int) ≤ 122) else ((c.toNat : Int) == (g.toNat : Int))
/-- a byte is what a record has at a place -/
def inL (signs : List UInt8) (k : Nat) (c : UInt8) : Bool := match signs[k]? with | none => false | some g => fitB g c

theorem short_any (k m : Int) (c : UInt8) (b : Nat) (w : World) (h : w.cell? ⟨b, 1, none⟩ = some (.int .i64 m)) :
    Calls Tryz.prog 105 #[.int .i64 k, .int .u8 c.toNat, .pointer (some ⟨b, 0, none⟩)] w fun e w' => e = .returned (.bool (decide (k < m))) ∧ w = w' := by
  go_enter Tryz.func105, Tryz.ntmps105
  go_wp2
  go_ret
  exact ⟨rfl, rfl⟩

set_option maxHeartbeats 1000000 in
theorem of_any (form : List UInt8) (hl : form.length ≤ 1000) (k : Int) (c : UInt8) (b : Nat) (w : World) (h : w.cell? ⟨b, 0, none⟩ = some (.string ⟨form.toArray⟩)) :
    Calls Tryz.prog 121 #[.int .i64 k, .int .u8 c.toNat, .pointer (some ⟨b, 0, none⟩)] w fun e w' => e = .returned (.bool (ofL form c)) ∧ w = w' := by
  go_enter Tryz.func121, Tryz.ntmps121
  go_wp2
  go_loop [6] (fun i => ∃ j : Nat, j ≤ form.length + 1 ∧ i = .int .i64 j ∧ Hid (ofL (form.drop j) c = ofL form c)) (fun i => form.length + 1 - (intOf i).toNat)
  case atStart => exact ⟨0, Nat.zero_le _, rfl, rfl⟩
  case round =>
    obtain ⟨j, hj, rfl, hc⟩ := hrel
    by_cases hlt : j + 1 < form.length
    · have hlt1 : j < form.length := by omega
      have HC : Hid (ofL form c = ((decide (form[j].toNat ≤ c.toNat) && decide (c.toNat ≤ form[j + 1].toNat)) || ofL (form.drop (j + 2)) c)) := by
        show ofL form c = _
        rw [← hc.out, drop_cons form j hlt1, drop_cons form (j + 1) hlt]; rfl
      clear hc
      by_cases h1 : form[j].toNat ≤ c.toNat
      · by_cases h2 : c.toNat ≤ form[j + 1].toNat
        · go_wp2
          go_ret
          exact ⟨ret_bool (by rw [HC.out]; simp [h1, h2]), rfl⟩
        · go_wp2
          go_round
          case rel => exact ⟨j + 2, by omega, by go_num, by show ofL _ c = _; rw [HC.out]; simp [h2]⟩
          case measure => simp [intOf]; omega
      · go_wp2
        go_round
        case rel => exact ⟨j + 2, by omega, by go_num, by show ofL _ c = _; rw [HC.out]; simp [h1]⟩
        case measure => simp [intOf]; omega
    · have HC : Hid (ofL form c = false) := by
        show ofL form c = false
        rw [← hc.out]
        have : (form.drop j).length ≤ 1 := by simp; omega
        match hd : form.drop j, this with
        | [], _ => rfl
        | [_], _ => rfl
      go_wp2
      go_ret
      exact ⟨ret_bool HC.out.symm, rfl⟩

set_option maxHeartbeats 1000000 in
theorem in_any (signs : List UInt8) (k : Nat) (c : UInt8) (b : Nat) (w : World) (h : w.cell? ⟨b, 0, none⟩ = some (.string ⟨signs.toArray⟩)) :
    Calls Tryz.prog 123 #[.int .i64 k, .int .u8 c.toNat, .pointer (some ⟨b, 0, none⟩)] w fun e w' => e = .returned (.bool (inL signs k c)) ∧ w = w' := by
  by_cases hk : k < signs.length
  · have hin : inL signs k c = fitB signs[k] c := by simp [inL, List.getElem?_eq_getElem hk]
    rw [hin]
    generalize hg : signs[k] = g
    have HG := Lib.hid hg; clear hg hin
    go_enter Tryz.func123, Tryz.ntmps123
    go_wp2
    all_goals (go_ret; refine ⟨ret_bool ?_, rfl⟩; rw [← HG.out, fitB]; first | (simp [*]; done) | (simp [*]; intros; omega))
  · have hin : inL signs k c = false := by simp [inL, List.getElem?_eq_none (by omega : signs.length ≤ k)]
    rw [hin]
    go_enter Tryz.func123, Tryz.ntmps123
    go_wp2
    go_ret
    exact ⟨rfl, rfl⟩
end Go.Proofs.YtmmdpjliknmhgaaGreatDoor
/- Walks of layer 13: the first place that some test does not let through. -/
namespace Go.Proofs.YtmmdpjliknmhgaaGreatDoor
open Go.RowKit
/-- v is a function value that tells p of a place and a byte, in the world w and in all that keep what lies there -/
def TestAt (w : World) (v : Value) (p : Nat → UInt8 → Bool) : Prop := ∃ (fn : Nat) (a : Addr), v = .func (.func fn) #[] #[.pointer (some a)] ∧ (∀ args w', (callFunc fn args).run Tryz.prog w' = .ok (.enter fn args) w') ∧
  ∀ (k : Nat) (c : UInt8) (W : World), Below w.heap.size w W → Calls Tryz.prog fn #[.int .i64 k, .int .u8 c.toNat, .pointer (some a)] W fun e w' => e = .returned (.bool (p k c)) ∧ W = w'
theorem TestAt.below {w W : World} {v : Value} {p : Nat → UInt8 → Bool} (h : TestAt w v p) (hb : Below w.heap.size w W) : TestAt W v p := by
  obtain ⟨fn, a, hv, he, hc⟩ := h
  exact ⟨fn, a, hv, he, fun k c X hX => hc k c X (hb.trans (hX.mono hb.size))⟩
abbrev Test := Value × (Nat → UInt8 → Bool)
/-- a slice of tests -/
def TestsAt (w : World) (v : Value) (ts : List Test) : Prop := ∃ tb, v = .slice (some ⟨tb, 0, none⟩) ts.length ts.length ∧ tb < w.heap.size ∧ ∀ j (hj : j < ts.length), w.cell? ⟨tb, j, none⟩ = some ts[j].1 ∧ TestAt w ts[j].1 ts[j].2
def passB (ps : List (Nat → UInt8 → Bool)) (k : Nat) (c : UInt8) : Bool := ps.all fun p => p k c
def firstL (ps : List (Nat → UInt8 → Bool)) : Nat → List UInt8 → Int
  | _, [] => -1
  | k, c :: r => if passB ps k c then firstL ps (k + 1) r else k
theorem firstL_step (ts : List Test) (l : List UInt8) (i : Nat) (hi : i < l.length) : firstL (ts.map Prod.snd) i (l.drop i) = if passB (ts.map Prod.snd) i l[i] then firstL (ts.map Prod.snd) (i + 1) (l.drop (i + 1)) else i := by
  rw [drop_cons l i hi]; rfl
theorem passB_true (ts : List Test) (k : Nat) (c : UInt8) (h : ∀ m (hm : m < ts.length), ts[m].2 k c = true) : passB (ts.map Prod.snd) k c = true := by
  unfold passB; rw [List.all_eq_true]; intro t ht
  obtain ⟨m, hm, rfl⟩ := List.mem_iff_getElem.1 ht
  simpa using h m (by simpa using hm)
theorem passB_false (ts : List Test) (k : Nat) (c : UInt8) (m : Nat) (hm : m < ts.length) (h : ts[m].2 k c = false) : passB (ts.map Prod.snd) k c = false := by
  unfold passB; rw [List.all_eq_false]
  exact ⟨ts[m].2, List.mem_map.2 ⟨_, List.getElem_mem hm, rfl⟩, by simp [h]⟩
theorem Lib_below (w : World) (e : TypeId) (s : ByteArray) : Below w.heap.size w (Lib.bytesWorld w e s) :=
  ⟨rfl, rfl, rfl, by rw [Lib.bytesWorld_size]; omega, fun k hk => Lib.bytesWorld_at_old w e s k hk⟩

end Go.Proofs.YtmmdpjliknmhgaaGreatDoor
/- Walks of layer 13: a filter's tests. -/
namespace Go.Proofs.YtmmdpjliknmhgaaGreatDoor
open Go.RowKit
theorem testShort {w : World} {b : Nat} {m : Int} (h : w.cell? ⟨b, 1, none⟩ = some (.int .i64 m)) : TestAt w (.func (.func 105) #[] #[.pointer (some ⟨b, 0, none⟩)]) (fun k _ => decide ((k : Int) < m)) :=
  ⟨_, _, rfl, enters_of Tryz.func105 (by kernel_rfl) rfl, fun k c W hW => short_any k m c b W ((hW.cell (p := ⟨b, 1, none⟩) (World.block_lt_of_cell? w _ h)).trans h)⟩
theorem testOf {w : World} {b : Nat} {form : List UInt8} (hl : form.length ≤ 1000) (h : w.cell? ⟨b, 0, none⟩ = some (.string ⟨form.toArray⟩)) : TestAt w (.func (.func 121) #[] #[.pointer (some ⟨b, 0, none⟩)]) (fun _ c => ofL form c) :=
  ⟨_, _, rfl, enters_of Tryz.func121 (by kernel_rfl) rfl, fun k c W hW => of_any form hl k c b W ((hW.cell (p := ⟨b, 0, none⟩) (World.block_lt_of_cell? w _ h)).trans h)⟩
theorem testIn {w : World} {b : Nat} {signs : List UInt8} (h : w.cell? ⟨b, 0, none⟩ = some (.string ⟨signs.toArray⟩)) : TestAt w (.func (.func 123) #[] #[.pointer (some ⟨b, 0, none⟩)]) (fun k c => inL signs k c) :=
  ⟨_, _, rfl, enters_of Tryz.func123 (by kernel_rfl) rfl, fun k c W hW => in_any signs k c b W ((hW.cell (p := ⟨b, 0, none⟩) (World.block_lt_of_cell? w _ h)).trans h)⟩
theorem isOf_any (l : List UInt8) (w : World) :
    Calls Tryz.prog 107 #[.string ⟨l.toArray⟩] w fun e w' => e = .returned (.func (.func 121) #[] #[.pointer (some ⟨w.heap.size, 0, none⟩)]) ∧ w.alloc (.cells #[.string ⟨l.toArray⟩] 9) = w' := by
  have hmf : ∀ (fn : Fn) (first cap : Array Value) (w : World), (Instr.makeFunc fn first cap).run Tryz.prog w = .ok (.func fn first cap) w := fun _ _ _ _ => rfl
  go_enter Tryz.func107, Tryz.ntmps107
  go_wp2
  go_ret
  exact ⟨rfl, rfl⟩
theorem isIn_any (l : List UInt8) (w : World) :
    Calls Tryz.prog 109 #[.string ⟨l.toArray⟩] w fun e w' => e = .returned (.func (.func 123) #[] #[.pointer (some ⟨w.heap.size, 0, none⟩)]) ∧ w.alloc (.cells #[.string ⟨l.toArray⟩] 9) = w' := by
  have hmf : ∀ (fn : Fn) (first cap : Array Value) (w : World), (Instr.makeFunc fn first cap).run Tryz.prog w = .ok (.func fn first cap) w := fun _ _ _ _ => rfl
  go_enter Tryz.func109, Tryz.ntmps109
  go_wp2
  go_ret
  exact ⟨rfl, rfl⟩

/-- A filter as the program has it. -/
abbrev fV (k m : Int) (form : List UInt8) : Value := .agg #[.int .i64 k, .int .i64 m, .string ⟨form.toArray⟩]
def inB (m : Int) (form : List UInt8) : Prop := 0 ≤ m ∧ m ≤ 200 ∧ form.length ≤ 40
/-- is it a filter? -/
def rightB (k m : Int) (form : List UInt8) : Bool := decide (0 ≤ m) && decide (m ≤ 200) && decide (form.length ≤ 40) && ((k == 1 && form.isEmpty) || (k == 2 && clsB form) || (k == 3 && recOk form))
/-- its tests -/
def predsOf (k m : Int) (form : List UInt8) : List (Nat → UInt8 → Bool) :=
  if k = 1 then [fun i _ => decide ((i : Int) < m)] else if k = 2 then [fun i _ => decide ((i : Int) < m), fun _ c => ofL form c] else [fun i _ => decide ((i : Int) < m), fun i c => inL (spr form).1 i c]
def sizeOf (k : Int) (form : List UInt8) : Nat := if k = 3 then (spr form).1.length else 0
/-- What checked hands back. -/
def CheckedEnd (k m : Int) (form : List UInt8) (ea : Addr) (e : Ending) (w' : World) : Prop :=
  ∃ tv sz ev, e = .returned (.tuple #[tv, .int .i64 sz, ev]) ∧ ((rightB k m form = true ∧ ev = .nilIface ∧ sz = (sizeOf k form : Int) ∧ ∃ ts : List Test, TestsAt w' tv ts ∧ ts.map Prod.snd = predsOf k m form) ∨ (rightB k m form = false ∧ ev = eV ea))

set_option maxRecDepth 100000 in
set_option maxHeartbeats 2000000 in
theorem checked_out (k m : Int) (form : List UInt8) (hl : form.length ≤ maxLen) (ea : Addr) (w : World) (hge : w.cell? ⟨1, 0, none⟩ = some (eV ea)) (hb : ¬ inB m form) :
    Calls Tryz.prog 88 #[fV k m form] w fun e w' => CheckedEnd k m form ea e w' ∧ Below w.heap.size w w' := by
  unfold maxLen at hl
  have hr : rightB k m form = false := by
    have h' : ¬ (0 ≤ m ∧ m ≤ 200 ∧ form.length ≤ 40) := hb
    rw [rightB, show (decide (0 ≤ m) && decide (m ≤ 200) && decide (form.length ≤ 40)) = false by simp; omega]; rfl
  have hgs : 1 < w.heap.size := World.block_lt_of_cell? w _ hge
  have hg1 : (w.alloc (.cells #[.int .i64 k, .int .i64 m, .string ⟨form.toArray⟩] 38)).cell? ⟨1, 0, none⟩ = some (eV ea) := ((Below.refl _ w).alloc (Nat.le_refl _) _).cell (p := ⟨1, 0, none⟩) hgs |>.trans hge
  have hend : ∀ tv sz w', CheckedEnd k m form ea (.returned (.tuple #[tv, .int .i64 sz, eV ea])) w' := fun tv sz w' => ⟨tv, sz, _, rfl, .inr ⟨hr, rfl⟩⟩
  have HE := Lib.hid hend; clear hend hr
  by_cases h1 : m < 0
  · clear hb
    go_enter Tryz.func88, Tryz.ntmps88
    go_wp2
    go_quiet (fail)
    go_wp2
    go_ret3
    exact ⟨HE.out _ _ _, below_drewN ((Below.refl _ w).alloc (Nat.le_refl _) _) _⟩
  · by_cases h2 : 200 < m
    · clear hb
      go_enter Tryz.func88, Tryz.ntmps88
      go_wp2
      go_quiet (fail)
      go_wp2
      go_ret3
      exact ⟨HE.out _ _ _, below_drewN ((Below.refl _ w).alloc (Nat.le_refl _) _) _⟩
    · have h3 : (40 : Int) < form.length := by
        have h' : ¬ (0 ≤ m ∧ m ≤ 200 ∧ form.length ≤ 40) := hb
        omega
      clear hb
      go_enter Tryz.func88, Tryz.ntmps88
      go_wp2
      go_quiet (fail)
      go_wp2
      go_ret3
      exact ⟨HE.out _ _ _, below_drewN ((Below.refl _ w).alloc (Nat.le_refl _) _) _⟩

/-- A kind that is none, or a form that is not of its kind. -/
theorem checked_no (k m : Int) (form : List UInt8) (ea : Addr) (w : World) (hge : w.cell? ⟨1, 0, none⟩ = some (eV ea)) (hb : inB m form)
    (h : (k ≠ 1 ∧ k ≠ 2 ∧ k ≠ 3) ∨ (k = 1 ∧ form ≠ []) ∨ (k = 2 ∧ clsB form = false)) :
    Calls Tryz.prog 88 #[fV k m form] w fun e w' => CheckedEnd k m form ea e w' ∧ Below w.heap.size w w' := by
  obtain ⟨h1, h2, h3⟩ := hb
  have hr : rightB k m form = false := by
    rw [rightB]
    rcases h with ⟨a, b, c⟩ | ⟨a, b⟩ | ⟨a, b⟩
    · have e1 : (k == 1) = false := by simpa using a
      have e2 : (k == 2) = false := by simpa using b
      have e3 : (k == 3) = false := by simpa using c
      rw [e1, e2, e3]; simp
    · subst a; simp [b]
    · subst a; simp [b]
  have hgs : 1 < w.heap.size := World.block_lt_of_cell? w _ hge
  have hg1 : (w.alloc (.cells #[.int .i64 k, .int .i64 m, .string ⟨form.toArray⟩] 38)).cell? ⟨1, 0, none⟩ = some (eV ea) := ((Below.refl _ w).alloc (Nat.le_refl _) _).cell (p := ⟨1, 0, none⟩) hgs |>.trans hge
  have hmf : ∀ (fn : Fn) (first cap : Array Value) (w : World), (Instr.makeFunc fn first cap).run Tryz.prog w = .ok (.func fn first cap) w := fun _ _ _ _ => rfl
  have hend : ∀ tv sz w', CheckedEnd k m form ea (.returned (.tuple #[tv, .int .i64 sz, eV ea])) w' := fun tv sz w' => ⟨tv, sz, _, rfl, .inr ⟨hr, rfl⟩⟩
  have HE := Lib.hid hend; clear hend hr
  rcases h with ⟨a, b, c⟩ | ⟨a, b⟩ | ⟨a, b⟩
  · have e1 : (k == 1) = false := by simpa using a
    have e2 : (k == 2) = false := by simpa using b
    have e3 : (k == 3) = false := by simpa using c
    clear a b c
    go_enter Tryz.func88, Tryz.ntmps88
    go_wp2
    go_quiet (fail)
    go_wp2
    go_ret3
    exact ⟨HE.out _ _ _, below_drewN ((Below.refl _ w).alloc (Nat.le_refl _) _) _⟩
  · subst a
    have e1 : form.isEmpty = false := by simpa using b
    go_enter Tryz.func88, Tryz.ntmps88
    go_wp2
    go_quiet (fail)
    go_wp2
    go_ret3
    exact ⟨HE.out _ _ _, below_drewN ((Below.refl _ w).alloc (Nat.le_refl _) _) _⟩
  · subst a
    have HC := isClass_any form (w.alloc (.cells #[.int .i64 2, .int .i64 m, .string ⟨form.toArray⟩] 38)) (by unfold maxLen; omega)
    rw [b] at HC
    go_enter Tryz.func88, Tryz.ntmps88
    go_wp2_with (go_at_call 106; refine HC.mono ?_; rintro e w' ⟨rfl, nq, rfl⟩)
    clear HC
    go_quiet (fail)
    go_wp2
    go_ret3
    exact ⟨HE.out _ _ _, below_drewN (below_drewN ((Below.refl _ w).alloc (Nat.le_refl _) _) _) _⟩

/-- A row of one test, of two. -/
theorem testsAt1 {w : World} {v : Value} {p : Nat → UInt8 → Bool} (h : TestAt w v p) (W : World) (hW : Below w.heap.size w W) : TestsAt (W.alloc (.cells #[v] 183)) (.slice (some ⟨W.heap.size, 0, none⟩) 1 1) [(v, p)] :=
  ⟨W.heap.size, rfl, by simp, fun j hj => by
    obtain rfl : j = 0 := by simpa using hj
    exact ⟨by simp, h.below (hW.trans ((Below.refl _ _).alloc hW.size _))⟩⟩
theorem testsAt2 {w : World} {v u : Value} {p q : Nat → UInt8 → Bool} (h : TestAt w v p) (k : TestAt w u q) (W : World) (hW : Below w.heap.size w W) : TestsAt (W.alloc (.cells #[v, u] 183)) (.slice (some ⟨W.heap.size, 0, none⟩) 2 2) [(v, p), (u, q)] :=
  ⟨W.heap.size, rfl, by simp, fun j hj => by
    have h2 : j = 0 ∨ j = 1 := by simp at hj; omega
    have hb := hW.trans ((Below.refl _ _).alloc hW.size (.cells #[v, u] 183))
    rcases h2 with rfl | rfl
    · exact ⟨by simp, h.below hb⟩
    · exact ⟨by simp, k.below hb⟩⟩

theorem checked_len (m : Int) (ea : Addr) (w : World) (hb : inB m []) :
    Calls Tryz.prog 88 #[fV 1 m []] w fun e w' => CheckedEnd 1 m [] ea e w' ∧ Below w.heap.size w w' := by
  obtain ⟨h1, h2, h3⟩ := hb
  have hr : rightB 1 m [] = true := by simp [rightB, h1, h2]
  have hmf : ∀ (fn : Fn) (first cap : Array Value) (w : World), (Instr.makeFunc fn first cap).run Tryz.prog w = .ok (.func fn first cap) w := fun _ _ _ _ => rfl
  have hT := testShort (w := w.alloc (.cells #[.int .i64 1, .int .i64 m, .string ⟨#[]⟩] 38)) (b := w.heap.size) (m := m) (by simp)
  have hend : CheckedEnd 1 m [] ea (.returned (.tuple #[.slice (some ⟨(w.alloc (.cells #[.int .i64 1, .int .i64 m, .string ⟨#[]⟩] 38)).heap.size, 0, none⟩) 1 1, .int .i64 0, .nilIface])) ((w.alloc (.cells #[.int .i64 1, .int .i64 m, .string ⟨#[]⟩] 38)).alloc (.cells #[.func (.func 105) #[] #[.pointer (some ⟨w.heap.size, 0, none⟩)]] 183)) :=
    ⟨_, _, _, rfl, .inl ⟨hr, rfl, rfl, _, testsAt1 hT _ (Below.refl _ _), rfl⟩⟩
  have HE := Lib.hid hend; clear hend hr hT
  go_enter Tryz.func88, Tryz.ntmps88
  go_wp2
  go_ret3
  exact ⟨by simpa using HE.out, ((Below.refl _ w).alloc (Nat.le_refl _) _).alloc (by simp) _⟩

set_option maxHeartbeats 1000000 in
theorem checked_class (m : Int) (form : List UInt8) (ea : Addr) (w : World) (hb : inB m form) (hc : clsB form = true) :
    Calls Tryz.prog 88 #[fV 2 m form] w fun e w' => CheckedEnd 2 m form ea e w' ∧ Below w.heap.size w w' := by
  obtain ⟨h1, h2, h3⟩ := hb
  have hr : rightB 2 m form = true := by simp [rightB, h1, h2, h3, hc]
  have hmf : ∀ (fn : Fn) (first cap : Array Value) (w : World), (Instr.makeFunc fn first cap).run Tryz.prog w = .ok (.func fn first cap) w := fun _ _ _ _ => rfl
  have HC := isClass_any form (w.alloc (.cells #[.int .i64 2, .int .i64 m, .string ⟨form.toArray⟩] 38)) (by unfold maxLen; omega)
  rw [hc] at HC
  go_enter Tryz.func88, Tryz.ntmps88
  go_wp2_with (first | (go_at_call 106; refine HC.mono ?_; rintro e w' ⟨rfl, nq, rfl⟩) | (go_at_call 107; refine (isOf_any form _).mono ?_; rintro e w' ⟨rfl, rfl⟩))
  go_ret3
  clear HC
  have hB1 := below_drewN ((Below.refl w.heap.size w).alloc (Nat.le_refl _) (.cells #[.int .i64 2, .int .i64 m, .string ⟨form.toArray⟩] 38)) nq
  have c1 : ((w.alloc (.cells #[.int .i64 2, .int .i64 m, .string ⟨form.toArray⟩] 38)).drewN nq).cell? ⟨w.heap.size, 1, none⟩ = some (.int .i64 m) := by simp
  have hz : ((w.alloc (.cells #[.int .i64 2, .int .i64 m, .string ⟨form.toArray⟩] 38)).drewN nq).heap.size = w.heap.size + 1 := by simp
  generalize (w.alloc (.cells #[.int .i64 2, .int .i64 m, .string ⟨form.toArray⟩] 38)).drewN nq = W1 at hB1 c1 hz ⊢
  have hB2 := (Below.refl W1.heap.size W1).alloc (Nat.le_refl _) (.cells #[.string ⟨form.toArray⟩] 9)
  have hz2 : (W1.alloc (.cells #[.string ⟨form.toArray⟩] 9)).heap.size = w.heap.size + 1 + 1 := by rw [World.size_alloc, hz]
  have c2 : (W1.alloc (.cells #[.string ⟨form.toArray⟩] 9)).cell? ⟨w.heap.size + 1, 0, none⟩ = some (.string ⟨form.toArray⟩) := by rw [← hz]; simp
  have c1' := (hB2.cell (p := ⟨w.heap.size, 1, none⟩) (by show w.heap.size < _; omega)).trans c1
  have hT := testsAt2 (testShort c1') (testOf (by omega) c2) _ (Below.refl _ _)
  rw [hz2] at hT
  exact ⟨⟨_, 0, _, rfl, .inl ⟨hr, rfl, rfl, _, hT, rfl⟩⟩, (hB1.alloc (by omega) _).alloc (by rw [hz2]; omega) _⟩

set_option maxHeartbeats 1000000 in
theorem checked_form (m : Int) (form : List UInt8) (ea : Addr) (w : World) (hge : w.cell? ⟨1, 0, none⟩ = some (eV ea)) (hb : inB m form) :
    Calls Tryz.prog 88 #[fV 3 m form] w fun e w' => CheckedEnd 3 m form ea e w' ∧ Below w.heap.size w w' := by
  obtain ⟨h1, h2, h3⟩ := hb
  have hr : rightB 3 m form = recOk form := by simp [rightB, h1, h2, h3]
  have hgs : 1 < w.heap.size := World.block_lt_of_cell? w _ hge
  have hg1 : (w.alloc (.cells #[.int .i64 3, .int .i64 m, .string ⟨form.toArray⟩] 38)).cell? ⟨1, 0, none⟩ = some (eV ea) := ((Below.refl _ w).alloc (Nat.le_refl _) _).cell (p := ⟨1, 0, none⟩) hgs |>.trans hge
  have hmf : ∀ (fn : Fn) (first cap : Array Value) (w : World), (Instr.makeFunc fn first cap).run Tryz.prog w = .ok (.func fn first cap) w := fun _ _ _ _ => rfl
  have HC := record_any form (by omega) ea _ hg1
  rw [World.size_alloc] at HC
  have HR := Lib.hid hr; clear hr
  have hsl := spr_len _ form (Nat.le_refl _)
  go_enter Tryz.func88, Tryz.ntmps88
  go_wp2_with (first | (go_at_call 108; refine HC.mono ?_; rintro e w1 ⟨rfl, hb1⟩; have hz1 := hb1.size) | (go_at_call 109; refine (isIn_any _ _).mono ?_; rintro e w' ⟨rfl, rfl⟩))
  go_ret3
  clear HC
  have c1 : (w.alloc (.cells #[.int .i64 3, .int .i64 m, .string ⟨form.toArray⟩] 38)).cell? ⟨w.heap.size, 1, none⟩ = some (.int .i64 m) := by simp
  have hB0 : Below w.heap.size w w1 := ((Below.refl w.heap.size w).alloc (Nat.le_refl _) _).trans (hb1.mono (by omega))
  have hz : (w.alloc (.cells #[.int .i64 3, .int .i64 m, .string ⟨form.toArray⟩] 38)).heap.size = w.heap.size + 1 := by simp
  have c1' := (hb1.cell (p := ⟨w.heap.size, 1, none⟩) (by show w.heap.size < _; omega)).trans c1
  have hB2 := (Below.refl w1.heap.size w1).alloc (Nat.le_refl _) (.cells #[.string ⟨(spr form).1.toArray⟩] 9)
  have hz2 : (w1.alloc (.cells #[.string ⟨(spr form).1.toArray⟩] 9)).heap.size = w1.heap.size + 1 := by rw [World.size_alloc]
  have c2 : (w1.alloc (.cells #[.string ⟨(spr form).1.toArray⟩] 9)).cell? ⟨w1.heap.size, 0, none⟩ = some (.string ⟨(spr form).1.toArray⟩) := by simp
  have c1'' := (hB2.cell (p := ⟨w.heap.size, 1, none⟩) (by show w.heap.size < _; omega)).trans c1'
  have hT := testsAt2 (testShort c1'') (testIn c2) _ (Below.refl _ _)
  rw [hz2] at hT
  refine ⟨⟨_, _, _, rfl, ?_⟩, (hB0.alloc (by omega) _).alloc (by rw [hz2]; omega) _⟩
  have hr := HR.out
  cases hk : recOk form with
  | true => exact .inl ⟨by rw [hr, hk], rfl, rfl, _, hT, rfl⟩
  | false => exact .inr ⟨by rw [hr, hk], rfl⟩

/-- checked, of whatever filter. -/
theorem checked_any (k m : Int) (form : List UInt8) (hl : form.length ≤ maxLen) (ea : Addr) (w : World) (hge : w.cell? ⟨1, 0, none⟩ = some (eV ea)) :
    Calls Tryz.prog 88 #[fV k m form] w fun e w' => CheckedEnd k m form ea e w' ∧ Below w.heap.size w w' := by
  by_cases hb : inB m form
  · by_cases h1 : k = 1
    · subst h1
      by_cases hf : form = []
      · subst hf; exact checked_len m ea w hb
      · exact checked_no _ m form ea w hge hb (.inr (.inl ⟨rfl, hf⟩))
    · by_cases h2 : k = 2
      · subst h2
        cases hc : clsB form with
        | true => exact checked_class m form ea w hb hc
        | false => exact checked_no _ m form ea w hge hb (.inr (.inr ⟨rfl, hc⟩))
      · by_cases h3 : k = 3
        · subst h3; exact checked_form m form ea w hge hb
        · exact checked_no k m form ea w hge hb (.inl ⟨h1, h2, h3⟩)
  · exact checked_out k m form hl ea w hge hb
end Go.Proofs.YtmmdpjliknmhgaaGreatDoor
