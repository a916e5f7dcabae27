/- Joined: SpcA; SpcB; SpcC; SpcD; SpcE; SpcG; SpcH; SpcI; SpcJ; SpcK; SpcL; SpcM -/
import Derived.Test.YtmjmmcdhpognaaaGreatDoorJWB
/- Walks of layer 10: names. -/
namespace Go.Proofs.YtmjmmcdhpognaaaGreatDoor
open Go.RowKit Go.Shelf
attribute [local go_sem] Oper.semAt_some
def chN (c : Nat) : Bool := (decide (97 ≤ c) && decide (c ≤ 122)) || (decide (48 ≤ c) && decide (c ≤ 57)) || c == 46
theorem chN_iff (c : Nat) : chN c = true ↔ (97 ≤ c ∧ c ≤ 122) ∨ (48 ≤ c ∧ c ≤ 57) ∨ c = 46 := by simp [chN, or_assoc]
theorem chN_no {c : Nat} (h : ¬ ((97 ≤ c ∧ c ≤ 122) ∨ (48 ≤ c ∧ c ≤ 57) ∨ c = 46)) : chN c = false := by
  cases hc : chN c with
  | false => rfl
  | true => exact absurd ((chN_iff c).1 hc) h
theorem chB_eq (c : UInt8) : chB c = chN c.toNat := rfl
theorem isRune_any (c : Nat) (w : World) : Calls Tryz.prog 84 #[.int .i32 c] w fun e w' => e = .returned (.bool (chN c)) ∧ w' = w := by
  generalize hR : chN c = R
  have HR := Lib.hid hR
  clear hR
  by_cases h1 : (97 : Int) ≤ c
  · by_cases h2 : (c : Int) ≤ 122
    · go_enter Tryz.func84, Tryz.ntmps84
      go_wp2
      go_ret
      exact ⟨ret_bool (by rw [← HR.out]; exact ((chN_iff c).2 (by omega)).symm), rfl⟩
    · have h3 : (48 : Int) ≤ c := by omega
      have h4 : ¬ (c : Int) ≤ 57 := by omega
      have h5 : ((c : Int) == 46) = false := by simp; omega
      go_enter Tryz.func84, Tryz.ntmps84
      go_wp2
      go_ret
      exact ⟨ret_bool (by rw [← HR.out]; exact (chN_no (c := c) (by omega)).symm), rfl⟩
  · by_cases h3 : (48 : Int) ≤ c
    · by_cases h4 : (c : Int) ≤ 57
      · go_enter Tryz.func84, Tryz.ntmps84
        go_wp2
        go_ret
        exact ⟨ret_bool (by rw [← HR.out]; exact ((chN_iff c).2 (by omega)).symm), rfl⟩
      · have h5 : ((c : Int) == 46) = false := by simp; omega
        go_enter Tryz.func84, Tryz.ntmps84
        go_wp2
        go_ret
        exact ⟨ret_bool (by rw [← HR.out]; exact (chN_no (c := c) (by omega)).symm), rfl⟩
    · by_cases h5 : c = 46
      · subst h5
        go_enter Tryz.func84, Tryz.ntmps84
        go_wp2
        go_ret
        exact ⟨ret_bool (by rw [← HR.out]; rfl), rfl⟩
      · have h5' : ((c : Int) == 46) = false := by simp; omega
        go_enter Tryz.func84, Tryz.ntmps84
        go_wp2
        go_ret
        exact ⟨ret_bool (by rw [← HR.out]; exact (chN_no (c := c) (by omega)).symm), rfl⟩
theorem iter_below' (w : World) (s : ByteArray) (p : Nat) : Below w.heap.size w (w.iter s p) := (Below.refl _ w).alloc (Nat.le_refl _) _
theorem take_all {s : List UInt8} (pos : Nat) (hp : pos < s.length) (h : (s.take pos).all chB = true) (hc : chB s[pos] = true) : (s.take (pos + 1)).all chB = true := by
  rw [List.take_succ_eq_append_getElem hp, List.all_append, h]; simp [hc]
theorem all_no {s : List UInt8} (pos : Nat) (hp : pos < s.length) (hc : chB s[pos] = false) : nameB s = false := by
  have : s.all chB = false := List.all_eq_false.2 ⟨_, List.getElem_mem hp, by simp [hc]⟩
  rw [nameB, this]; rfl
set_option maxHeartbeats 1000000 in
theorem isName_any (s : List UInt8) (hl : s.length ≤ maxLen) (w : World) : Calls Tryz.prog 66 #[.string ⟨s.toArray⟩] w fun e w' => e = .returned (.bool (nameB s)) ∧ Below w.heap.size w w' := by
  have hsm : s.length ≤ 9223372036854775807 := Nat.le_trans hl (by decide)
  generalize hR : nameB s = R
  have HR := Lib.hid hR
  clear hR
  go_enter Tryz.func66, Tryz.ntmps66
  go_wp2_with fail
  go_loopw [] (fun wr => ∃ pos : Nat, pos ≤ s.length ∧ wr = w.iter ⟨s.toArray⟩ pos ∧ Hid ((s.take pos).all chB = true)) (fun wr => s.length - wr.iterPos w.heap.size)
  case atStart => exact ⟨0, Nat.zero_le _, rfl, rfl⟩
  case round =>
    obtain ⟨pos, hp, rfl, hall⟩ := hrel
    by_cases hlt : pos < s.length
    · have hs : pos < (ByteArray.mk s.toArray).size := by rw [ba_size]; exact hlt
      by_cases ha : s[pos].toNat < 128
      · have hN := fun ty => run_next_ascii (P := Tryz.prog) w ⟨s.toArray⟩ pos ty hs (by rw [ba_get]; exact ha)
        rw [ba_get] at hN
        have hy := take_all pos hlt hall.out
        have hn := all_no pos hlt
        clear hall
        generalize s[pos] = c at *
        rw [chB_eq] at hy hn
        have hI := isRune_any c.toNat
        generalize chN c.toNat = ok at *
        cases ok with
        | true =>
          have HY := Lib.hid (hy rfl)
          clear hy hn
          go_wp2_with (go_at_call 84; refine (hI _).mono ?_; rintro e w' ⟨rfl, rfl⟩)
          go_roundw
          case rel => exact ⟨pos + 1, by omega, rfl, HY.out⟩
          case measure => simp; omega
        | false =>
          have HN := Lib.hid (hn rfl)
          clear hy hn
          go_wp2_with (go_at_call 84; refine (hI _).mono ?_; rintro e w' ⟨rfl, rfl⟩)
          go_ret
          exact ⟨ret_bool (by rw [← HR.out, HN.out]), iter_below' _ _ _⟩
      · have hN := fun ty => run_next_any (P := Tryz.prog) w ⟨s.toArray⟩ pos ty hs
        have hd := decode_high ⟨s.toArray⟩ pos hs (by rw [ba_get]; omega)
        have hcn : chB s[pos] = false := by rw [chB_eq]; exact chN_no (by omega)
        have HN := Lib.hid (all_no pos hlt hcn)
        clear hcn hall
        generalize Utf8.decode ⟨s.toArray⟩ pos = d at hN hd
        obtain ⟨d1, d2⟩ := d
        have hI := isRune_any d1
        have hd1 : chN d1 = false := chN_no (by have := hd.1; simp at this; omega)
        rw [hd1] at hI
        clear hd
        simp only at hN
        go_wp2_with (go_at_call 84; refine (hI _).mono ?_; rintro e w' ⟨rfl, rfl⟩)
        go_ret
        exact ⟨ret_bool (by rw [← HR.out, HN.out]), iter_below' _ _ _⟩
    · have hN := fun ty => run_next_end (P := Tryz.prog) w ⟨s.toArray⟩ pos ty (by rw [ba_size]; exact hlt)
      have hA : s.all chB = true := by have := hall.out; rwa [List.take_of_length_le (by omega)] at this
      have HR2 : Hid ((!s.isEmpty && decide (s.length ≤ 20)) = R) := by show _ = _; rw [← HR.out, nameB, hA]; rfl
      clear hall HR hA
      cases s with
      | nil =>
        go_wp2
        go_ret
        exact ⟨ret_bool (by rw [← HR2.out]; rfl), iter_below' _ _ _⟩
      | cons c r =>
        have hne : ((c :: r) == ([] : List UInt8)) = false := rfl
        have hz := ba_size (c :: r)
        rw [List.length_cons] at hz
        by_cases h20 : r.length + 1 ≤ 20
        · have h20' : ((r.length + 1 : Nat) : Int) ≤ 20 := by omega
          go_wp2
          go_ret
          exact ⟨ret_bool (by rw [← HR2.out]; simp; omega), iter_below' _ _ _⟩
        · have h20' : ¬ ((r.length + 1 : Nat) : Int) ≤ 20 := by omega
          go_wp2
          go_ret
          exact ⟨ret_bool (by rw [← HR2.out]; simp; omega), iter_below' _ _ _⟩
end Go.Proofs.YtmjmmcdhpognaaaGreatDoor
/- Walks of layer 10's reference: names. -/
namespace Go.Proofs.YtmjmmcdhpognaaaGreatDoor
open Go.RowKit Go.Shelf
attribute [local go_sem] Oper.semAt_some
set_option maxHeartbeats 2000000 in
theorem isNameR_any (s : List UInt8) (hl : s.length ≤ maxLen) (w : World) : Calls Tryz.prog 70 #[.string ⟨s.toArray⟩] w fun e w' => e = .returned (.bool (nameB s)) ∧ ∃ q, w' = w.drewN q := by
  have hsm : s.length ≤ 9223372036854775807 := Nat.le_trans hl (by decide)
  generalize hR : nameB s = R
  have HR := Lib.hid hR
  clear hR
  have hz := ba_size s
  go_enter Tryz.func70, Tryz.ntmps70
  go_wp2_with fail
  go_loopg [3] s.length (fun gg s3 wr => ∃ kk : Nat, kk ≤ s.length ∧ s.length - kk ≤ gg ∧ s3 = .int .i64 kk ∧ wr = w ∧ Aside ((s.take kk).all chB = true))
  case atStart => exact ⟨0, Nat.zero_le _, by omega, rfl, rfl, rfl⟩
  case round =>
    obtain ⟨kk, hkk, hg, rfl, rfl, A⟩ := hrel
    by_cases hlt : kk < s.length
    · have hltz : (kk : Int) < (s.length : Int) := by omega
      obtain ⟨c, hc⟩ : ∃ c, s[kk] = c := ⟨_, rfl⟩
      have hy := take_all kk hlt A.out
      have hn := all_no kk hlt
      rw [hc, chB_eq] at hy hn
      have hi := chN_iff c.toNat
      generalize chN c.toNat = ok at *
      cases ok with
      | true =>
        have HY := Lib.hid (hy rfl)
        have hi2 := hi.1 rfl
        clear hy hn hi
        rcases hi2 with h | h | h
        · have d0 := decide_eq_false (p := (c.toNat : Int) < 97) (by omega)
          have d1 := decide_eq_false (p := 122 < (c.toNat : Int)) (by omega)
          go_wp2_with fail
          go_roundg (s.length - (kk + 1))
          case measure => omega
          case rel => exact ⟨kk + 1, by omega, by omega, by go_num, rfl, (show Aside _ from HY.out)⟩
        · have d0 := decide_eq_true (p := (c.toNat : Int) < 97) (by omega)
          have d1 := decide_eq_false (p := (c.toNat : Int) < 48) (by omega)
          have d2 := decide_eq_false (p := 57 < (c.toNat : Int)) (by omega)
          go_wp2_with fail
          go_roundg (s.length - (kk + 1))
          case measure => omega
          case rel => exact ⟨kk + 1, by omega, by omega, by go_num, rfl, (show Aside _ from HY.out)⟩
        · have d0 := decide_eq_true (p := (c.toNat : Int) < 97) (by omega)
          have d1 := decide_eq_true (p := (c.toNat : Int) < 48) (by omega)
          have d2 : ((c.toNat : Int) != 46) = false := by simp; omega
          go_wp2_with fail
          go_roundg (s.length - (kk + 1))
          case measure => omega
          case rel => exact ⟨kk + 1, by omega, by omega, by go_num, rfl, (show Aside _ from HY.out)⟩
      | false =>
        have HN := Lib.hid (hn rfl)
        have hi2 : ¬ _ := fun h => by have := hi.2 h; cases this
        clear hy hn hi
        rcases (show ((c.toNat : Int) < 48 ∧ c.toNat ≠ 46) ∨ (57 < (c.toNat : Int) ∧ (c.toNat : Int) < 97) ∨ 122 < (c.toNat : Int) by omega) with h | h | h
        · have d0 := decide_eq_true (p := (c.toNat : Int) < 97) (by omega)
          have d1 := decide_eq_true (p := (c.toNat : Int) < 48) (by omega)
          have d2 : ((c.toNat : Int) != 46) = true := by simp; omega
          go_wp2_with fail
          go_ret
          exact ⟨ret_bool (by rw [← HR.out, HN.out]), 0, rfl⟩
        · have d0 := decide_eq_true (p := (c.toNat : Int) < 97) (by omega)
          have d1 := decide_eq_false (p := (c.toNat : Int) < 48) (by omega)
          have d2 := decide_eq_true (p := 57 < (c.toNat : Int)) (by omega)
          have d3 : ((c.toNat : Int) != 46) = true := by simp; omega
          go_wp2_with fail
          go_ret
          exact ⟨ret_bool (by rw [← HR.out, HN.out]), 0, rfl⟩
        · have d0 := decide_eq_false (p := (c.toNat : Int) < 97) (by omega)
          have d1 := decide_eq_true (p := 122 < (c.toNat : Int)) (by omega)
          have d2 := decide_eq_false (p := (c.toNat : Int) < 48) (by omega)
          have d3 := decide_eq_true (p := 57 < (c.toNat : Int)) (by omega)
          have d4 : ((c.toNat : Int) != 46) = true := by simp; omega
          go_wp2_with fail
          go_ret
          exact ⟨ret_bool (by rw [← HR.out, HN.out]), 0, rfl⟩
    · have hltz : ¬ (kk : Int) < (s.length : Int) := by omega
      have hA : s.all chB = true := by have := A.out; rwa [List.take_of_length_le (by omega)] at this
      have HR2 : Hid ((!s.isEmpty && decide (s.length ≤ 20)) = R) := by show _ = _; rw [← HR.out, nameB, hA]; rfl
      clear A HR hA
      by_cases h1 : (1 : Int) ≤ s.length
      · have hne : s.isEmpty = false := by cases s with
          | nil => simp at h1
          | cons _ _ => rfl
        have HR3 : Hid (decide (s.length ≤ 20) = R) := by show _ = _; rw [← HR2.out, hne]; rfl
        clear HR2 hne
        by_cases h20 : (s.length : Int) ≤ 20
        · go_wp2_with fail
          go_ret
          exact ⟨ret_bool (by rw [← HR3.out]; simp; omega), 0, rfl⟩
        · go_wp2_with fail
          go_ret
          exact ⟨ret_bool (by rw [← HR3.out]; simp; omega), 0, rfl⟩
      · have hne : s.isEmpty = true := by cases s with
          | nil => rfl
          | cons _ _ => simp at h1; omega
        have HR3 : Hid (false = R) := by show _ = _; rw [← HR2.out, hne]; rfl
        clear HR2 hne
        go_wp2_with fail
        go_ret
        exact ⟨ret_bool (by rw [← HR3.out]), 0, rfl⟩
end Go.Proofs.YtmjmmcdhpognaaaGreatDoor
/- Walks of layer 10: objects. -/
namespace Go.Proofs.YtmjmmcdhpognaaaGreatDoor
open Go.RowKit Go.Shelf
attribute [local go_sem] Oper.semAt_some
abbrev objV (x : ObjD) (lv : Value) : Value := .agg #[.string ⟨x.name.toArray⟩, .int .i64 x.kind, .string ⟨x.data.toArray⟩, .int .i64 x.max, lv]
def FitsO (x : ObjD) : Prop := x.name.length ≤ maxLen ∧ x.data.length ≤ maxLen ∧ FitsL x.items
set_option maxRecDepth 100000 in
set_option maxHeartbeats 2000000 in
theorem isObj_any (x : ObjD) (hx : FitsO x) (lv : Value) (ea : Addr) (w : World) (hge : w.cell? ⟨1, 0, none⟩ = some (errV8 ea)) (hv : StrsV w lv x.items) :
    Calls Tryz.prog 44 #[objV x lv] w fun e w' => e = .returned (.bool (objB x)) ∧ Below w.heap.size w w' := by
  obtain ⟨name, kind, data, max, items⟩ := x
  obtain ⟨hn, hd, hl⟩ := hx
  dsimp only at hn hd hl hv
  have hB1 := (Below.refl w.heap.size w).alloc (Nat.le_refl _) (.cells #[.string ⟨name.toArray⟩, .int .i64 kind, .string ⟨data.toArray⟩, .int .i64 max, lv] 40)
  have b1 := Blk.new w #[.string ⟨name.toArray⟩, .int .i64 kind, .string ⟨data.toArray⟩, .int .i64 max, lv] 40
  have hN := fun W => isName_any name hn W
  unfold objB
  dsimp only
  by_cases hk : kind = 1
  · subst hk
    rw [if_pos rfl]
    obtain ⟨a, cap, rfl, -⟩ := hv.at
    have hlm : items.length ≤ 1000000 := hl.1
    have hdm : data.length ≤ 9223372036854775807 := Nat.le_trans hd (by decide)
    have hz := ba_size data
    clear hv hge
    generalize hR : (nameB name && decide (data.length ≤ 1000) && (max == 0) && items.isEmpty) = R
    have HR := Lib.hid hR
    clear hR
    go_enter Tryz.func44, Tryz.ntmps44
    go_wp2_with fail
    refine (hN _).mono ?_
    rintro e w2 ⟨rfl, hb2⟩
    have hB2 := hB1.trans (hb2.mono hB1.size)
    have b2 := b1.below hb2 b1.lt
    have c2 : w2.cell? ⟨w.heap.size, 2, none⟩ = _ := b2.cell 2
    have c3 : w2.cell? ⟨w.heap.size, 3, none⟩ = _ := b2.cell 3
    have c4 : w2.cell? ⟨w.heap.size, 4, none⟩ = _ := b2.cell 4
    simp at c2 c3 c4
    clear b1 b2 hb2 hN
    generalize nameB name = nb at *
    cases nb with
    | false =>
      go_wp2_with fail
      go_ret
      exact ⟨ret_bool (by rw [← HR.out]; rfl), hB2⟩
    | true =>
      by_cases h1 : data.length ≤ 1000
      · by_cases h2 : max = 0
        · subst h2
          by_cases h3 : items.length = 0
          · have hi : items = [] := List.length_eq_zero_iff.1 h3
            subst hi
            go_wp2_with fail
            go_ret
            exact ⟨ret_bool (by rw [← HR.out, decide_eq_true h1]; rfl), hB2⟩
          · have hi : items.isEmpty = false := by cases items with
              | nil => simp at h3
              | cons _ _ => rfl
            have h3' : ((items.length : Int) == 0) = false := beq_false_of_ne (by omega)
            have HR2 : Hid (false = R) := by show _ = _; rw [← HR.out, hi]; simp
            clear HR hi
            go_wp2_with fail
            go_ret
            exact ⟨ret_bool (by rw [← HR2.out]), hB2⟩
        · have h2' : (max == 0) = false := beq_false_of_ne h2
          have HR2 : Hid (false = R) := by show _ = _; rw [← HR.out, h2']; simp
          clear HR
          go_wp2_with fail
          go_ret
          exact ⟨ret_bool (by rw [← HR2.out]), hB2⟩
      · have HR2 : Hid (false = R) := by show _ = _; rw [← HR.out, decide_eq_false h1]; simp
        clear HR
        go_wp2_with fail
        go_ret
        exact ⟨ret_bool (by rw [← HR2.out]), hB2⟩
  · rw [if_neg hk]
    by_cases hk2 : kind = 2
    · subst hk2
      rw [if_pos rfl]
      have hR8 := fun W (h : KeepC w W) => ringRight_any items hl max lv ea W (h.2 _ _ _ hge) (hv.keep h)
      clear hv hge
      generalize hR : (nameB name && data.isEmpty && ringB max items) = R
      have HR := Lib.hid hR
      clear hR
      go_enter Tryz.func44, Tryz.ntmps44
      go_wp2_with fail
      refine (hN _).mono ?_
      rintro e w2 ⟨rfl, hb2⟩
      have hB2 := hB1.trans (hb2.mono hB1.size)
      have b2 := b1.below hb2 b1.lt
      have c2 : w2.cell? ⟨w.heap.size, 2, none⟩ = _ := b2.cell 2
      have c3 : w2.cell? ⟨w.heap.size, 3, none⟩ = _ := b2.cell 3
      have c4 : w2.cell? ⟨w.heap.size, 4, none⟩ = _ := b2.cell 4
      simp at c2 c3 c4
      clear b1 b2 hb2 hN
      have hR9 := hR8 w2 (KeepC.of_below hB2)
      clear hR8
      generalize nameB name = nb at *
      generalize ringB max items = rb at *
      cases nb with
      | false =>
        go_wp2_with fail
        go_ret
        exact ⟨ret_bool (by rw [← HR.out]; rfl), hB2⟩
      | true =>
        cases data with
        | nil =>
          go_wp2_with fail
          refine hR9.mono ?_
          rintro e w3 ⟨rfl, hb3⟩
          go_wp2_with fail
          go_ret
          exact ⟨ret_bool (by rw [← HR.out]; rfl), hB2.trans (hb3.mono hB2.size)⟩
        | cons c r =>
          have hne : ((c :: r) == ([] : List UInt8)) = false := rfl
          go_wp2_with fail
          go_ret
          exact ⟨ret_bool (by rw [← HR.out]; rfl), hB2⟩
    · rw [if_neg hk2]
      have hk' : (kind == 1) = false := beq_false_of_ne hk
      have hk2' : (kind == 2) = false := beq_false_of_ne hk2
      clear b1
      go_enter Tryz.func44, Tryz.ntmps44
      go_wp2_with fail
      go_ret
      exact ⟨rfl, hB1⟩
end Go.Proofs.YtmjmmcdhpognaaaGreatDoor
/- Walks of layer 10: whether objects are a space. -/
namespace Go.Proofs.YtmjmmcdhpognaaaGreatDoor
open Go.RowKit Go.Shelf
attribute [local go_sem] Oper.semAt_some
def FitsS (l : List ObjD) : Prop := l.length ≤ 1000000 ∧ ∀ x ∈ l, FitsO x
/-- what is at the i-th place -/
theorem ObjsV.at {w : World} {v : Value} {l : List ObjD} (h : ObjsV w v l) : ∃ a cap, v = .slice a l.length cap ∧ ∀ i (hi : i < l.length), ∃ b o lv, a = some ⟨b, o, none⟩ ∧ b < w.heap.size ∧ StrsV w lv l[i].items ∧
    w.cell? ⟨b, o + i * 5, none⟩ = some (.string ⟨l[i].name.toArray⟩) ∧ w.cell? ⟨b, o + i * 5 + 1, none⟩ = some (.int .i64 l[i].kind) ∧ w.cell? ⟨b, o + i * 5 + 2, none⟩ = some (.string ⟨l[i].data.toArray⟩) ∧ w.cell? ⟨b, o + i * 5 + 3, none⟩ = some (.int .i64 l[i].max) ∧ w.cell? ⟨b, o + i * 5 + 4, none⟩ = some lv := by
  rcases Nat.eq_zero_or_pos l.length with h0 | h0
  · have e := List.length_eq_zero_iff.1 h0
    subst e
    obtain ⟨a, cap, rfl⟩ := h.zero
    exact ⟨a, cap, rfl, fun i hi => absurd hi (by simp)⟩
  · obtain ⟨b, o, cap, rfl, -, hb, hc⟩ := h.pos h0
    refine ⟨_, cap, rfl, fun i hi => ?_⟩
    obtain ⟨h1, h2, h3, h4, lv, h5, h6⟩ := hc i hi
    exact ⟨b, o, lv, rfl, hb, h6, h1, h2, h3, h4, h5⟩
set_option maxRecDepth 100000 in
set_option maxHeartbeats 4000000 in
theorem spaceRight_any (l : List ObjD) (hl : FitsS l) (v : Value) (ea : Addr) (w : World) (hge : w.cell? ⟨1, 0, none⟩ = some (errV8 ea)) (hv : ObjsV w v l) :
    Calls Tryz.prog 21 #[v] w fun e w' => e = .returned (.bool (spaceB l)) ∧ Below w.heap.size w w' := by
  obtain ⟨a, cap, rfl, hc⟩ := hv.at
  have hlm : l.length ≤ 1000000 := hl.1
  generalize hR : spaceB l = R
  have HR := Lib.hid hR
  clear hR hv
  go_enter Tryz.func21, Tryz.ntmps21
  go_wp2_with fail
  go_loopg [3, 8] l.length (fun gg s3 s8 wr => ∃ (kk : Nat) (last : List UInt8), kk ≤ l.length ∧ l.length - kk ≤ gg ∧ s3 = .string ⟨last.toArray⟩ ∧ s8 = .int .i64 kk ∧ Below w.heap.size w wr ∧ Hid (spB [] l = spB last (l.drop kk)))
  case atStart => exact ⟨0, [], Nat.zero_le _, by omega, rfl, rfl, Below.refl _ _, rfl⟩
  case round =>
    obtain ⟨kk, last, hkk, hg, rfl, rfl, hB, hS⟩ := hrel
    by_cases hlt : kk < l.length
    · have hltz : (kk : Int) < (l.length : Int) := by omega
      obtain ⟨b, o, lv, rfl, hb, hlv, k0, k1, k2, k3, k4⟩ := hc kk hlt
      have hfx := hl.2 l[kk] (List.getElem_mem _)
      have HS : Hid (spB [] l = spB last (l[kk] :: l.drop (kk + 1))) := by show _ = _; rw [hS.out, drop_cons l kk hlt]
      clear hS
      have hBk := KeepC.of_below hB
      have c0 := hBk.2 _ _ _ k0
      have c1 := hBk.2 _ _ _ k1
      have c2 := hBk.2 _ _ _ k2
      have c3 := hBk.2 _ _ _ k3
      have c4 := hBk.2 _ _ _ k4
      clear k0 k1 k2 k3 k4
      have hlv2 := hlv.keep hBk
      have hge2 := hBk.2 _ _ _ hge
      have HC := Lib.hid hc
      clear hc hlv
      generalize l[kk] = x at *
      have HI := fun W (h : KeepC wr W) => isObj_any x hfx lv ea W (h.2 _ _ _ hge2) (hlv2.keep h)
      obtain ⟨name, kind, data, max, items⟩ := x
      dsimp only at *
      obtain ⟨a2, cap2, rfl, -⟩ := hlv2.at
      have hB1 := (Below.refl wr.heap.size wr).alloc (Nat.le_refl _) (.cells #[.string ⟨name.toArray⟩, .int .i64 kind, .string ⟨data.toArray⟩, .int .i64 max, .slice a2 items.length cap2] 40)
      have b1 := Blk.new wr #[.string ⟨name.toArray⟩, .int .i64 kind, .string ⟨data.toArray⟩, .int .i64 max, .slice a2 items.length cap2] 40
      have HI1 := HI _ (KeepC.of_below hB1)
      clear HI hge2 hlv2 hfx
      generalize hO : objB ⟨name, kind, data, max, items⟩ = ob at HI1
      have HO := Lib.hid hO
      clear hO
      go_wp2_with fail
      refine HI1.mono ?_
      rintro e w2 ⟨rfl, hb2⟩
      have hB12 := hB1.trans (hb2.mono hB1.size)
      have hB2 := hB.trans (hB12.mono hB.size)
      have b2 := b1.below hb2 b1.lt
      have c20 : w2.cell? ⟨wr.heap.size, 0, none⟩ = _ := b2.cell 0
      simp at c20
      clear HI1 c0 c1 c2 c3 c4 b1 b2 hb2 hB1
      have hle := leq_not name last
      cases ob with
      | false =>
        have HR2 : Hid (false = R) := by
          show _ = _
          rw [← HR.out, spaceB, HS.out, spB, HO.out]; rfl
        clear HR HS
        go_wp2_with fail
        go_ret
        exact ⟨ret_bool (by rw [← HR2.out]), hB2⟩
      | true =>
        generalize hb : Op.bytesLess last name = lb at hle
        have HLB := Lib.hid hb
        clear hb
        cases lb with
        | true =>
          have HS2 : Hid (spB [] l = spB name (l.drop (kk + 1))) := by
            show _ = _
            rw [HS.out, spB, HO.out, HLB.out]; rfl
          clear HS HO HLB
          go_wp2_with fail
          go_roundg (l.length - (kk + 1))
          case measure => omega
          case rel => exact ⟨kk + 1, name, by omega, by omega, rfl, by go_num, hB2, HS2⟩
        | false =>
          have HR2 : Hid (false = R) := by
            show _ = _
            rw [← HR.out, spaceB, HS.out, spB, HO.out, HLB.out]; rfl
          clear HR HS
          go_wp2_with fail
          go_ret
          exact ⟨ret_bool (by rw [← HR2.out]), hB2⟩
    · have hltz : ¬ (kk : Int) < (l.length : Int) := by omega
      have HR2 : Hid (decide (l.length ≤ 20) = R) := by
        show _ = _
        rw [← HR.out, spaceB, hS.out, List.drop_of_length_le (by omega)]; rfl
      clear hS HR hc
      by_cases h20 : (l.length : Int) ≤ 20
      · go_wp2_with fail
        go_ret
        exact ⟨ret_bool (by rw [← HR2.out]; simp; omega), hB⟩
      · go_wp2_with fail
        go_ret
        exact ⟨ret_bool (by rw [← HR2.out]; simp; omega), hB⟩
end Go.Proofs.YtmjmmcdhpognaaaGreatDoor
/- Walks of layer 10's reference: objects. -/
namespace Go.Proofs.YtmjmmcdhpognaaaGreatDoor
open Go.RowKit Go.Shelf
attribute [local go_sem] Oper.semAt_some
theorem isNameR_below (s : List UInt8) (hl : s.length ≤ maxLen) (w : World) : Calls Tryz.prog 70 #[.string ⟨s.toArray⟩] w fun e w' => e = .returned (.bool (nameB s)) ∧ Below w.heap.size w w' :=
  (isNameR_any s hl w).mono fun _ _ ⟨h1, q, h2⟩ => ⟨h1, by rw [h2]; exact below_drewN (Below.refl _ _) _⟩
set_option maxRecDepth 100000 in
set_option maxHeartbeats 2000000 in
theorem isObjR_any (x : ObjD) (hx : FitsO x) (lv : Value) (w : World) (hv : StrsV w lv x.items) :
    Calls Tryz.prog 48 #[objV x lv] w fun e w' => e = .returned (.bool (objB x)) ∧ Below w.heap.size w w' := by
  obtain ⟨name, kind, data, max, items⟩ := x
  obtain ⟨hn, hd, hl⟩ := hx
  dsimp only at hn hd hl hv
  have hB1 := (Below.refl w.heap.size w).alloc (Nat.le_refl _) (.cells #[.string ⟨name.toArray⟩, .int .i64 kind, .string ⟨data.toArray⟩, .int .i64 max, lv] 40)
  have b1 := Blk.new w #[.string ⟨name.toArray⟩, .int .i64 kind, .string ⟨data.toArray⟩, .int .i64 max, lv] 40
  have hN := fun W => isNameR_below name hn W
  unfold objB
  dsimp only
  by_cases hk : kind = 1
  · subst hk
    rw [if_pos rfl]
    obtain ⟨a, cap, rfl, -⟩ := hv.at
    have hlm : items.length ≤ 1000000 := hl.1
    have hdm : data.length ≤ 9223372036854775807 := Nat.le_trans hd (by decide)
    have hz := ba_size data
    clear hv
    generalize hR : (nameB name && decide (data.length ≤ 1000) && (max == 0) && items.isEmpty) = R
    have HR := Lib.hid hR
    clear hR
    go_enter Tryz.func48, Tryz.ntmps48
    go_wp2_with fail
    refine (hN _).mono ?_
    rintro e w2 ⟨rfl, hb2⟩
    have hB2 := hB1.trans (hb2.mono hB1.size)
    have b2 := b1.below hb2 b1.lt
    have c2 : w2.cell? ⟨w.heap.size, 2, none⟩ = _ := b2.cell 2
    have c3 : w2.cell? ⟨w.heap.size, 3, none⟩ = _ := b2.cell 3
    have c4 : w2.cell? ⟨w.heap.size, 4, none⟩ = _ := b2.cell 4
    simp at c2 c3 c4
    clear b1 b2 hb2 hN
    generalize nameB name = nb at *
    cases nb with
    | false =>
      go_wp2_with fail
      go_ret
      exact ⟨ret_bool (by rw [← HR.out]; rfl), hB2⟩
    | true =>
      by_cases h1 : data.length ≤ 1000
      · by_cases h2 : max = 0
        · subst h2
          by_cases h3 : items.length = 0
          · have hi : items = [] := List.length_eq_zero_iff.1 h3
            subst hi
            go_wp2_with fail
            go_ret
            exact ⟨ret_bool (by rw [← HR.out, decide_eq_true h1]; rfl), hB2⟩
          · have hi : items.isEmpty = false := by cases items with
              | nil => simp at h3
              | cons _ _ => rfl
            have h3' : ((items.length : Int) == 0) = false := beq_false_of_ne (by omega)
            have HR2 : Hid (false = R) := by show _ = _; rw [← HR.out, hi]; simp
            clear HR hi
            go_wp2_with fail
            go_ret
            exact ⟨ret_bool (by rw [← HR2.out]), hB2⟩
        · have h2' : (max == 0) = false := beq_false_of_ne h2
          have HR2 : Hid (false = R) := by show _ = _; rw [← HR.out, h2']; simp
          clear HR
          go_wp2_with fail
          go_ret
          exact ⟨ret_bool (by rw [← HR2.out]), hB2⟩
      · have HR2 : Hid (false = R) := by show _ = _; rw [← HR.out, decide_eq_false h1]; simp
        clear HR
        go_wp2_with fail
        go_ret
        exact ⟨ret_bool (by rw [← HR2.out]), hB2⟩
  · rw [if_neg hk]
    by_cases hk2 : kind = 2
    · subst hk2
      rw [if_pos rfl]
      have hR8 := fun W (h : KeepC w W) => ringRightR_any items hl max lv W (hv.keep h)
      clear hv
      generalize hR : (nameB name && data.isEmpty && ringB max items) = R
      have HR := Lib.hid hR
      clear hR
      go_enter Tryz.func48, Tryz.ntmps48
      go_wp2_with fail
      refine (hN _).mono ?_
      rintro e w2 ⟨rfl, hb2⟩
      have hB2 := hB1.trans (hb2.mono hB1.size)
      have b2 := b1.below hb2 b1.lt
      have c2 : w2.cell? ⟨w.heap.size, 2, none⟩ = _ := b2.cell 2
      have c3 : w2.cell? ⟨w.heap.size, 3, none⟩ = _ := b2.cell 3
      have c4 : w2.cell? ⟨w.heap.size, 4, none⟩ = _ := b2.cell 4
      simp at c2 c3 c4
      clear b1 b2 hb2 hN
      have hR9 := hR8 w2 (KeepC.of_below hB2)
      clear hR8
      generalize nameB name = nb at *
      generalize ringB max items = rb at *
      cases nb with
      | false =>
        go_wp2_with fail
        go_ret
        exact ⟨ret_bool (by rw [← HR.out]; rfl), hB2⟩
      | true =>
        cases data with
        | nil =>
          go_wp2_with fail
          refine hR9.mono ?_
          rintro e w3 ⟨rfl, hb3⟩
          go_wp2_with fail
          go_ret
          exact ⟨ret_bool (by rw [← HR.out]; rfl), hB2.trans (hb3.mono hB2.size)⟩
        | cons c r =>
          have hne : ((c :: r) == ([] : List UInt8)) = false := rfl
          go_wp2_with fail
          go_ret
          exact ⟨ret_bool (by rw [← HR.out]; rfl), hB2⟩
    · rw [if_neg hk2]
      have hk' : (kind == 1) = false := beq_false_of_ne hk
      have hk2' : (kind == 2) = false := beq_false_of_ne hk2
      clear b1
      go_enter Tryz.func48, Tryz.ntmps48
      go_wp2_with fail
      go_ret
      exact ⟨rfl, hB1⟩
end Go.Proofs.YtmjmmcdhpognaaaGreatDoor
/- Walks of layer 10: what a space costs. -/
namespace Go.Proofs.YtmjmmcdhpognaaaGreatDoor
open Go.RowKit Go.Shelf
attribute [local go_sem] Oper.semAt_some
def SmallS (l : List ObjD) : Prop := ∀ x ∈ l, x.name.length ≤ 20 ∧ x.data.length ≤ 1000 ∧ 0 ≤ x.max ∧ x.max ≤ 2000
theorem costs_any (b : Nat) (w : World) : Calls Tryz.prog 76 #[.pointer (some ⟨b, 0, none⟩)] w fun e w' => e = .returned (.func (.func 88) #[] #[.pointer (some ⟨w.heap.size, 0, none⟩)]) ∧ w.alloc (.cells #[.pointer (some ⟨b, 0, none⟩)] 87) = w' := by
  have hmf : ∀ (fn : Fn) (first cap : Array Value) (w : World), (Instr.makeFunc fn first cap).run Tryz.prog w = .ok (.func fn first cap) w := fun _ _ _ _ => rfl
  go_enter Tryz.func76, Tryz.ntmps76
  go_wp2
  go_ret
  exact ⟨rfl, rfl⟩
/-- what a round must keep: blocks below m but its own box; the heap does not shrink -/
def keepS (m ob : Nat) (A B : World) : Prop := keepK m ob A B ∧ A.heap.size ≤ B.heap.size
theorem keepS_t {m ob : Nat} {A B C : World} (h : keepS m ob A B) (k : keepS m ob B C) : keepS m ob A C := ⟨keepK_t h.1 k.1, Nat.le_trans h.2 k.2⟩
theorem keepS_b {m ob : Nat} (W : World) (l : Nat) (o o' : Obj) (hl : m ≤ l) (h1 : W.heap[l]? = some o) (h2 : o.isCells = false) : keepS m ob W (W.putObj l o') := ⟨keepK_b W l o o' hl h1 h2, by rw [World.putObj_size]; exact Nat.le_refl _⟩
set_option maxRecDepth 100000 in
set_option maxHeartbeats 2000000 in
theorem costs1_seq (n b ob m q : Nat) (l : List ObjD) (hl : FitsS l) (hsm : SmallS l) (v : Value) (W : World) (hb : Boxed W b 87 (.pointer (some ⟨q, 0, none⟩))) (hq : W.cell? ⟨q, 0, none⟩ = some v) (hv : ObjsV W v l) (hmW : m ≤ W.heap.size) (hm : ∀ g o c k, v = .slice (some ⟨g, o, none⟩) k c → 0 < k → g < m ∧ g ≠ ob) :
    SeqG Fence.wide n Tryz.prog 88 #[.pointer (some ⟨b, 0, none⟩)] (fun d : Int => #[Value.int .i64 d]) (fun A B => A.grownBy B none) (keepS m ob) (fun xs _ => xs = l.map costO) (fun _ _ => True) l.length W := by
  intro lp J Jx hJ hJx hY h0
  have hc := hb.cell
  obtain ⟨a, cap, rfl, hcell⟩ := hv.at
  have hlm : l.length ≤ 1000000 := hl.1
  (refine callsIn_of_wp Tryz.func88 rfl trivial ?_ rfl; simp only [Tryz.ntmps88, List.size_toArray, List.length_cons, List.length_nil, Nat.reduceAdd, Nat.reduceSub, Array.replicate_succ, Array.replicate_zero, List.push_toArray, List.append_toArray, List.nil_append, List.cons_append])
  refine wpIn_scope_w ?_
  gi_wp2
  refine wpIn_label ?_
  gi_wp2
  clear hc hq
  have hcs : ∀ i (hi : i < l.length), ∃ b o a2 n2 cap2, a = some ⟨b, o, none⟩ ∧ b < m ∧ b ≠ ob ∧ W.cell? ⟨b, o + i * 5, none⟩ = some (.string ⟨l[i].name.toArray⟩) ∧ W.cell? ⟨b, o + i * 5 + 1, none⟩ = some (.int .i64 l[i].kind) ∧ W.cell? ⟨b, o + i * 5 + 2, none⟩ = some (.string ⟨l[i].data.toArray⟩) ∧ W.cell? ⟨b, o + i * 5 + 3, none⟩ = some (.int .i64 l[i].max) ∧ W.cell? ⟨b, o + i * 5 + 4, none⟩ = some (.slice a2 n2 cap2) := fun i hi => by
    obtain ⟨b, o, lv, rfl, hb, hlv, k0, k1, k2, k3, k4⟩ := hcell i hi
    obtain ⟨a2, cap2, rfl, -⟩ := hlv.at
    obtain ⟨h1, h2⟩ := hm b o cap l.length rfl (by omega)
    exact ⟨b, o, a2, _, cap2, rfl, h1, h2, k0, k1, k2, k3, k4⟩
  clear hcell hm hv
  gi_loopw [10] (fun t wr => ∃ k : Nat, k ≤ l.length ∧ t = .int .i64 k ∧ J ((l.map costO).take k) wr ∧ m ≤ wr.heap.size ∧ Hid (∀ g o, g < m → g ≠ ob → wr.cell? ⟨g, o, none⟩ = W.cell? ⟨g, o, none⟩)) (fun t wr => l.length - (intOf t).toNat)
  case atStart => exact ⟨0, Nat.zero_le _, rfl, h0, hmW, fun _ _ _ _ => rfl⟩
  case round =>
    obtain ⟨k, hk, rfl, hj, hmw, hC⟩ := hrel
    by_cases hlt : k < l.length
    · have hltz : (k : Int) < (l.length : Int) := by omega
      obtain ⟨g, o, a2, n2, cap2, rfl, hg1, hg2, k0, k1, k2, k3, k4⟩ := hcs k hlt
      have hCo := hC.out
      rw [← hCo _ _ hg1 hg2] at k0 k1 k2 k3 k4
      have hgw : g < wr.heap.size := by omega
      have hlen2 : ((l.map costO).take k).length < l.length := by rw [List.length_take, List.length_map]; omega
      have hel := hsm l[k] (List.getElem_mem _)
      have hts : (l.map costO).take k ++ [costO l[k]] = (l.map costO).take (k + 1) := by rw [List.take_succ_eq_append_getElem (by rw [List.length_map]; exact hlt)]; simp
      have hY1 := fun V hJV => hY ((l.map costO).take k) (costO l[k]) V hJV hlen2
      rw [hts] at hY1
      clear hlen2 hts hCo
      obtain ⟨x, hx⟩ : ∃ x, l[k] = x := ⟨_, rfl⟩
      rw [hx] at k0 k1 k2 k3 hel hY1
      clear hx hcs
      obtain ⟨name, kind, data, max, items⟩ := x
      dsimp only at *
      have hz1 := ba_size name
      have hz2 := ba_size data
      have hw1 : IntKind.i64.wrap ((10 : Int) + name.length) = 10 + name.length := IntWalk.i64_in _ (by omega)
      have hw2 : IntKind.i64.wrap ((10 : Int) + name.length + data.length) = 10 + name.length + data.length := IntWalk.i64_in _ (by omega)
      have hw3 : IntKind.i64.wrap ((10 : Int) + name.length + data.length + max) = 10 + name.length + data.length + max := IntWalk.i64_in _ (by omega)
      have hco : costO ⟨name, kind, data, max, items⟩ = 10 + name.length + data.length + max := rfl
      rw [hco] at hY1
      clear hco
      obtain ⟨W2, hW2⟩ : ∃ W2, W2 = wr.alloc (.cells #[.string ⟨name.toArray⟩, .int .i64 kind, .string ⟨data.toArray⟩, .int .i64 max, .slice a2 n2 cap2] 40) := ⟨_, rfl⟩
      have hg : wr.grownBy W2 none := by rw [hW2]; exact World.grownBy_alloc _ _ _
      have hY2 := hY1 W2 (hJ _ _ _ hj hg)
      clear hY1 hj
      obtain ⟨fn, tmps, assign, body, hy, hR⟩ := hY2
      rw [hW2] at hy
      have hRH := Lib.hid hR
      clear hR
      gi_wp2
      rw [← hW2]
      refine ⟨fun h => (by cases h), hRH.out.mono ?_⟩
      have hW2m : m ≤ W2.heap.size := Nat.le_trans hmw hg.size
      have hWC : Hid (∀ g o, g < m → g ≠ ob → W2.cell? ⟨g, o, none⟩ = W.cell? ⟨g, o, none⟩) := fun g' o' h1 h2 => (World.cell?_of_block (w := wr) (a := ⟨g', o', none⟩) (hg.block g' (by omega) (by simp))).trans (hC.out g' o' h1 h2)
      clear k0 k1 k2 k3 k4 hC hW2
      rintro e V (⟨rfl, hj3, hk3, hsz⟩ | ⟨rfl, hj3⟩)
      · gi_wp2
        go_roundw
        case rel => exact ⟨k + 1, by omega, by go_num, hj3, Nat.le_trans hW2m hsz, fun g' o' h1 h2 => (World.cell?_of_block (w := W2) (a := ⟨g', o', none⟩) (hk3 _ h1 h2)).trans (hWC.out g' o' h1 h2)⟩
        case measure => simp [intOf]; omega
      · gi_wp2
        simp only [Exit.noGoto_normal]
        go_end0
        exact ⟨⟨_, rfl⟩, .inr ⟨_, trivial, hj3⟩⟩
    · have hltz : ¬ (k : Int) < (l.length : Int) := by omega
      have hkl : k = l.length := by omega
      subst hkl
      rw [List.take_of_length_le (by rw [List.length_map]; exact Nat.le_refl _)] at hj
      clear hcs
      gi_wp2
      go_end0
      exact ⟨⟨_, rfl⟩, .inl hj⟩
end Go.Proofs.YtmjmmcdhpognaaaGreatDoor
/- Walks of layer 10: what a space costs in all. -/
namespace Go.Proofs.YtmjmmcdhpognaaaGreatDoor
open Go.RowKit Go.Shelf
attribute [local go_sem] Oper.semAt_some
def wsumI (pre : List Int) : Int := IntKind.i64.wrap pre.sum
theorem wsumI_nil : wsumI [] = 0 := by simp [wsumI, IntKind.wrap_i64]
theorem wsumI_snoc (pre : List Int) (x : Int) : IntKind.i64.wrap (wsumI pre + x) = wsumI (pre ++ [x]) := by
  simp only [wsumI, IntKind.wrap_i64, List.sum_append, List.sum_cons, List.sum_nil]; omega
theorem costL_in {l : List ObjD} (h : SmallS l) : 0 ≤ costL l ∧ costL l ≤ l.length * 3030 := by
  induction l with
  | nil => simp [costL]
  | cons x l ih =>
    have h1 := h x (by simp)
    have h2 := ih fun t ht => h t (by simp [ht])
    have e : costL (x :: l) = costO x + costL l := by simp [costL]
    have e2 : costO x = 10 + x.name.length + x.data.length + x.max := rfl
    rw [e, e2, List.length_cons]
    omega
theorem wsumI_in {l : List ObjD} (hl : l.length ≤ 1000000) (h : SmallS l) : wsumI (l.map costO) = costL l := by
  have := costL_in h
  show IntKind.i64.wrap (costL l) = costL l
  exact IntWalk.i64_in _ (by omega)
set_option maxRecDepth 100000 in
set_option maxHeartbeats 2000000 in
theorem cost_any (q : Nat) (l : List ObjD) (hl : FitsS l) (hsm : SmallS l) (v : Value) (w : World) (hq : w.cell? ⟨q, 0, none⟩ = some v) (hv : ObjsV w v l) :
    Calls Tryz.prog 58 #[.pointer (some ⟨q, 0, none⟩)] w fun e w' => e = .returned (.int .i64 (costL l)) ∧ Below w.heap.size w w' := by
  refine (callsIn_wide (n := 3)).1 ?_
  (refine callsIn_of_wp_marks Tryz.func58 rfl trivial ?_ rfl; simp only [Tryz.ntmps58, List.size_toArray, List.length_cons, List.length_nil, Nat.reduceAdd, Nat.reduceSub, Array.replicate_succ, Array.replicate_zero, List.push_toArray, List.append_toArray, List.nil_append, List.cons_append])
  gi_wp2_with (refine ⟨trivial, ?_⟩; gi_at_call 76; refine (callsIn_wide.2 (costs_any q _)).mono ?_; rintro e w' ⟨rfl, rfl⟩)
  have o0 := Boxed.new w 3 (.int .i64 0)
  have q0 := Boxed.new (w.alloc (.cells #[.int .i64 0] 3)) 87 (.pointer (some ⟨q, 0, none⟩))
  rw [World.size_alloc] at q0
  have o1 := o0.alloc (.cells #[.pointer (some ⟨q, 0, none⟩)] 87)
  have hB0 : Below w.heap.size w ((w.alloc (.cells #[.int .i64 0] 3)).alloc (.cells #[.pointer (some ⟨q, 0, none⟩)] 87)) :=
    ((Below.refl _ w).alloc (Nat.le_refl _) _).alloc (by simp) _
  have hz0' : ((w.alloc (.cells #[.int .i64 0] 3)).alloc (.cells #[.pointer (some ⟨q, 0, none⟩)] 87)).heap.size = w.heap.size + 2 := by simp
  obtain ⟨W0, hW0⟩ : ∃ W0, (w.alloc (.cells #[.int .i64 0] 3)).alloc (.cells #[.pointer (some ⟨q, 0, none⟩)] 87) = W0 := ⟨_, rfl⟩
  rw [hW0] at o1 q0 hB0 hz0' ⊢
  clear hW0 o0
  rw [← wsumI_nil] at o1
  have hlm := hl.1
  have hK0 := KeepC.of_below hB0
  have hqlt := World.block_lt_of_cell? w _ hq
  refine range_law rfl (by omega) (gf := 88) (lb := #[.pointer (some ⟨w.heap.size + 1, 0, none⟩)]) rfl trivial (enters_of Tryz.func88 (by kernel_rfl) rfl)
    (G := fun A B => A.grownBy B none) (Kp := keepS (w.heap.size + 2) w.heap.size)
    (fun W hW hWz => costs1_seq _ (w.heap.size + 1) w.heap.size (w.heap.size + 2) q l hl hsm v W ((hW.block _ (by omega)).trans q0) ((KeepC.of_below hW).2 _ _ _ (hK0.2 _ _ _ hq)) ((hv.keep hK0).keep (KeepC.of_below hW)) (by omega)
      (fun g o c k e hk => by
        have hlt : g < w.heap.size := by
          obtain ⟨a, cap, e2, hc⟩ := hv.at
          rw [e2] at e
          cases e
          obtain ⟨b, o', lv, e3, hb, _⟩ := hc 0 hk
          cases e3
          exact hb
        omega)) keepS_t (by rw [hz0']; exact keepS_b) (fun A B h k o _ ho _ => (h.block k (Array.getElem?_eq_some_iff.1 ho).1 (by simp)).trans ho) (fun _ => rfl)
    (fun pre W => Boxed W w.heap.size 3 (.int .i64 (wsumI pre)) ∧ Below w.heap.size w W ∧ w.heap.size + 2 ≤ W.heap.size) (fun _ _ _ => False)
    ((bears_boxed _ _ _ (fun pre => .int .i64 (wsumI pre))).and ((bears_below (Nat.le_refl _) (by omega)).and (bears_size _ _))) (fun _ => bears_const _ _)
    (bears_const _ _) (bears_const _ _)
    (fun s A B h hg => ⟨h.1.kept hg (by simp), h.2.1.grown hg h.2.1.size (fun k e => by cases e), Nat.le_trans h.2.2 hg.size⟩) (fun _ _ _ _ h _ => h)
    ⟨o1, hB0, by omega⟩
    (fun x => { tmps := #[.pointer (some ⟨q, 0, none⟩), undef, .int .i64 0, .pointer (some ⟨w.heap.size, 0, none⟩), .int .i64 x, .pointer (some ⟨q, 0, none⟩), .func (.func 88) #[] #[.pointer (some ⟨w.heap.size + 1, 0, none⟩)], .int .i64 x, undef, undef, undef, undef], defers := [] }) ?assign ?body ?done ?stop
  case assign =>
    intro lp x W K hK
    gi_wp2
    exact hK
  case body =>
    rintro lp pre x W ⟨hb, hB, hz⟩ hlen
    have hc := hb.cell
    have hf := hb.frozen
    have hws := wsumI_snoc pre x
    have hbH := Lib.hid hb
    clear hb
    generalize wsumI pre = y at hc hws hbH
    gi_wp2
    exact ⟨Keeps.setCell _ _ _ _ hbH.out, ⟨fun i _ ho => Below.heap_setCell _ _ _ _ ho, by rw [size_setCell]; exact Nat.le_refl _⟩, hbH.out.set _, hB.setCell (p := ⟨w.heap.size, 0, none⟩) (Nat.le_refl _) _, by rw [size_setCell]; exact hz⟩
  case done =>
    rintro D xs W hD rfl ⟨hb, hB, hz⟩ hK
    have hc := hb.cell
    have hend : Below w.heap.size w (W.putObj D (.deferred none)) := hB.trans (belowK_b (w := w) (Nat.le_refl _) W D _ _ (by omega) hK rfl rfl)
    rw [wsumI_in hlm hsm] at hc
    gi_wp2
    refine ⟨by simp, .inl ⟨_, _, rfl, run_takeDeferred hK, ?_⟩⟩
    refine ⟨_, results_tmp rfl _ _ _, rfl, hend⟩
  case stop =>
    rintro D c pre W _ _ h _
    exact h.elim
end Go.Proofs.YtmjmmcdhpognaaaGreatDoor
/- Walks of layer 10: Cost. -/
namespace Go.Proofs.YtmjmmcdhpognaaaGreatDoor
open Go.RowKit Go.Shelf
attribute [local go_sem] Oper.semAt_some
theorem small_obj {x : ObjD} (h : objB x = true) : x.name.length ≤ 20 ∧ x.data.length ≤ 1000 ∧ 0 ≤ x.max ∧ x.max ≤ 2000 := by
  unfold objB at h
  split at h
  · simp only [nameB, Bool.and_eq_true, decide_eq_true_eq, beq_iff_eq] at h
    obtain ⟨⟨⟨h1, h2⟩, h3⟩, -⟩ := h
    exact ⟨h1.2, h2, by omega, by omega⟩
  · split at h
    · simp only [nameB, ringB, Bool.and_eq_true, decide_eq_true_eq, List.isEmpty_iff] at h
      obtain ⟨⟨h1, h2⟩, h3⟩ := h
      exact ⟨h1.2, by rw [h2]; simp, by omega, by omega⟩
    · cases h
theorem small_of {l : List ObjD} (h : spaceB l = true) : SmallS l := by
  have aux : ∀ (l : List ObjD) (last : List UInt8), spB last l = true → SmallS l := by
    intro l
    induction l with
    | nil => intro _ _ x hx; cases hx
    | cons y l ih =>
      intro last h x hx
      simp only [spB, Bool.and_eq_true] at h
      rcases List.mem_cons.1 hx with rfl | hx
      · exact small_obj h.1.1
      · exact ih _ h.2 x hx
  simp only [spaceB, Bool.and_eq_true] at h
  exact aux _ _ h.1
set_option maxHeartbeats 1000000 in
theorem Cost_any (l : List ObjD) (hl : FitsS l) (v : Value) (ea : Addr) (w : World) (hge : w.cell? ⟨1, 0, none⟩ = some (errV8 ea)) (hv : ObjsV w v l) :
    Calls Tryz.prog 33 #[v] w fun e w' => e = .returned (.int .i64 (costS l)) ∧ Below w.heap.size w w' := by
  obtain ⟨a, cap, rfl, -⟩ := hv.at
  have HR := spaceRight_any l hl _ ea w hge hv
  have HC := fun (hs : spaceB l = true) (W : World) (hB : Below w.heap.size w W) => cost_any W.heap.size l hl (small_of hs) _ (W.alloc (.cells #[.slice a l.length cap] 89)) ((Blk.new W #[.slice a l.length cap] 89).cell 0) ((hv.keep (KeepC.of_below hB)).keep (KeepC.alloc _ _))
  have hcs : costS l = if spaceB l = true then costL l else 0 := rfl
  rw [hcs]
  clear hv hge hcs
  generalize spaceB l = r at *
  cases r with
  | false =>
    rw [if_neg (by simp)]
    clear HC
    go_enter Tryz.func33, Tryz.ntmps33
    go_wp2_with fail
    refine HR.mono ?_
    rintro e w2 ⟨rfl, hb2⟩
    go_wp2_with fail
    go_ret
    exact ⟨rfl, hb2⟩
  | true =>
    rw [if_pos rfl]
    have HC2 := Lib.hid (HC rfl)
    clear HC
    go_enter Tryz.func33, Tryz.ntmps33
    go_wp2_with fail
    refine HR.mono ?_
    rintro e w2 ⟨rfl, hb2⟩
    have H := HC2.out w2 hb2
    clear HC2 HR
    go_wp2_with fail
    refine H.mono ?_
    rintro e w3 ⟨rfl, hb3⟩
    go_wp2_with fail
    go_ret
    exact ⟨rfl, (hb2.alloc hb2.size _).trans (hb3.mono (by simp; exact Nat.le_succ_of_le hb2.size))⟩
end Go.Proofs.YtmjmmcdhpognaaaGreatDoor
/- Walks of layer 10: whether two objects are the same. -/
namespace Go.Proofs.YtmjmmcdhpognaaaGreatDoor
open Go.RowKit Go.Shelf
attribute [local go_sem] Oper.semAt_some
set_option maxRecDepth 100000 in
set_option maxHeartbeats 2000000 in
theorem sameObj_any (x y : ObjD) (hx : FitsO x) (hy : FitsO y) (lv lu : Value) (w : World) (hv : StrsV w lv x.items) (hu : StrsV w lu y.items) :
    Calls Tryz.prog 61 #[objV x lv, objV y lu] w fun e w' => e = .returned (.bool (sameO x y)) ∧ Below w.heap.size w w' := by
  obtain ⟨n1, k1, d1, m1, i1⟩ := x
  obtain ⟨n2, k2, d2, m2, i2⟩ := y
  obtain ⟨hn1, hd1, hl1⟩ := hx
  obtain ⟨hn2, hd2, hl2⟩ := hy
  dsimp only at *
  obtain ⟨a1, c1, rfl, -⟩ := hv.at
  obtain ⟨a2, c2, rfl, -⟩ := hu.at
  have hB1 := ((Below.refl w.heap.size w).alloc (Nat.le_refl _) (.cells #[.string ⟨n1.toArray⟩, .int .i64 k1, .string ⟨d1.toArray⟩, .int .i64 m1, .slice a1 i1.length c1] 40)).alloc (by simp) (.cells #[.string ⟨n2.toArray⟩, .int .i64 k2, .string ⟨d2.toArray⟩, .int .i64 m2, .slice a2 i2.length c2] 40)
  have HE := ringSame_any i1 i2 hl1 hl2 m1 m2 _ _ _ (hv.keep (KeepC.of_below hB1)) (hu.keep (KeepC.of_below hB1))
  generalize hR : sameO ⟨n1, k1, d1, m1, i1⟩ ⟨n2, k2, d2, m2, i2⟩ = R
  simp only [sameO] at hR
  generalize (m1 == m2 && i1 == i2) = r at *
  have HR := Lib.hid hR
  clear hR hv hu
  cases h1 : (n1 == n2) with
  | false =>
    have HR2 : Hid (false = R) := by show _ = _; rw [← HR.out, h1]; rfl
    clear HR HE
    go_enter Tryz.func61, Tryz.ntmps61
    go_wp2_with fail
    go_ret
    exact ⟨ret_bool (by rw [← HR2.out]), hB1⟩
  | true =>
    cases h2 : (k1 == k2) with
    | false =>
      have HR2 : Hid (false = R) := by show _ = _; rw [← HR.out, h2]; simp
      clear HR HE
      go_enter Tryz.func61, Tryz.ntmps61
      go_wp2_with fail
      go_ret
      exact ⟨ret_bool (by rw [← HR2.out]), hB1⟩
    | true =>
      cases h3 : (d1 == d2) with
      | false =>
        have HR2 : Hid (false = R) := by show _ = _; rw [← HR.out, h3]; simp
        clear HR HE
        go_enter Tryz.func61, Tryz.ntmps61
        go_wp2_with fail
        go_ret
        exact ⟨ret_bool (by rw [← HR2.out]), hB1⟩
      | true =>
        have HR2 : Hid (r = R) := by show _ = _; rw [← HR.out, h1, h2, h3]; simp
        clear HR
        have HE2 := Lib.hid HE
        clear HE
        go_enter Tryz.func61, Tryz.ntmps61
        go_wp2_with fail
        refine HE2.out.mono ?_
        rintro e w2 ⟨rfl, hb2⟩
        go_wp2_with fail
        go_ret
        exact ⟨ret_bool (by rw [← HR2.out]), hB1.trans (hb2.mono hB1.size)⟩
set_option maxRecDepth 100000 in
set_option maxHeartbeats 2000000 in
theorem one_any (x y : ObjD) (hx : FitsO x) (hy : FitsO y) (lv lu : Value) (w : World) (hv : StrsV w lv x.items) (hu : StrsV w lu y.items) :
    Calls Tryz.prog 26 #[objV x lv, objV y lu] w fun e w' => e = .returned (.bool (sameO x y)) ∧ Below w.heap.size w w' := by
  obtain ⟨n1, k1, d1, m1, i1⟩ := x
  obtain ⟨n2, k2, d2, m2, i2⟩ := y
  obtain ⟨hn1, hd1, hl1⟩ := hx
  obtain ⟨hn2, hd2, hl2⟩ := hy
  dsimp only at *
  obtain ⟨a1, c1, rfl, -⟩ := hv.at
  obtain ⟨a2, c2, rfl, -⟩ := hu.at
  have hB1 := ((Below.refl w.heap.size w).alloc (Nat.le_refl _) (.cells #[.string ⟨n1.toArray⟩, .int .i64 k1, .string ⟨d1.toArray⟩, .int .i64 m1, .slice a1 i1.length c1] 40)).alloc (by simp) (.cells #[.string ⟨n2.toArray⟩, .int .i64 k2, .string ⟨d2.toArray⟩, .int .i64 m2, .slice a2 i2.length c2] 40)
  have HE := ringSameR_any i1 i2 hl1 hl2 m1 m2 _ _ _ (hv.keep (KeepC.of_below hB1)) (hu.keep (KeepC.of_below hB1))
  generalize hR : sameO ⟨n1, k1, d1, m1, i1⟩ ⟨n2, k2, d2, m2, i2⟩ = R
  simp only [sameO] at hR
  generalize (m1 == m2 && i1 == i2) = r at *
  have HR := Lib.hid hR
  clear hR hv hu
  cases h1 : (n1 == n2) with
  | false =>
    have HR2 : Hid (false = R) := by show _ = _; rw [← HR.out, h1]; rfl
    clear HR HE
    go_enter Tryz.func26, Tryz.ntmps26
    go_wp2_with fail
    go_ret
    exact ⟨ret_bool (by rw [← HR2.out]), hB1⟩
  | true =>
    cases h2 : (k1 == k2) with
    | false =>
      have HR2 : Hid (false = R) := by show _ = _; rw [← HR.out, h2]; simp
      clear HR HE
      go_enter Tryz.func26, Tryz.ntmps26
      go_wp2_with fail
      go_ret
      exact ⟨ret_bool (by rw [← HR2.out]), hB1⟩
    | true =>
      cases h3 : (d1 == d2) with
      | false =>
        have HR2 : Hid (false = R) := by show _ = _; rw [← HR.out, h3]; simp
        clear HR HE
        go_enter Tryz.func26, Tryz.ntmps26
        go_wp2_with fail
        go_ret
        exact ⟨ret_bool (by rw [← HR2.out]), hB1⟩
      | true =>
        have HR2 : Hid (r = R) := by show _ = _; rw [← HR.out, h1, h2, h3]; simp
        clear HR
        have HE2 := Lib.hid HE
        clear HE
        go_enter Tryz.func26, Tryz.ntmps26
        go_wp2_with fail
        refine HE2.out.mono ?_
        rintro e w2 ⟨rfl, hb2⟩
        go_wp2_with fail
        go_ret
        exact ⟨ret_bool (by rw [← HR2.out]), hB1.trans (hb2.mono hB1.size)⟩
end Go.Proofs.YtmjmmcdhpognaaaGreatDoor
/- Walks of layer 10: whether two spaces are the same. -/
namespace Go.Proofs.YtmjmmcdhpognaaaGreatDoor
open Go.RowKit Go.Shelf
attribute [local go_sem] Oper.semAt_some
theorem zipAll_take {a b : List ObjD} (k : Nat) (h1 : k < a.length) (h2 : k < b.length) : ((a.zip b).take (k + 1)).all (fun p => sameO p.1 p.2) = (((a.zip b).take k).all (fun p => sameO p.1 p.2) && sameO a[k] b[k]) := by
  rw [List.take_succ_eq_append_getElem (by rw [List.length_zip]; omega), List.all_append]; simp
theorem zipAll_no {a b : List ObjD} (k : Nat) (h1 : k < a.length) (h2 : k < b.length) (h : sameO a[k] b[k] = false) : ((a.zip b).all fun p => sameO p.1 p.2) = false := by
  rw [List.all_eq_false]
  have hk : k < (a.zip b).length := by rw [List.length_zip]; omega
  have e : (a.zip b)[k] = (a[k], b[k]) := List.getElem_zip
  exact ⟨(a[k], b[k]), by rw [← e]; exact List.getElem_mem _, by simp [h]⟩
set_option maxRecDepth 100000 in
set_option maxHeartbeats 4000000 in
theorem equalO_any (l m : List ObjD) (hl : FitsS l) (hm : FitsS m) (v u : Value) (w : World) (hv : ObjsV w v l) (hu : ObjsV w u m) :
    Calls Tryz.prog 60 #[v, u, .func (.func 61) #[] #[]] w fun e w' => e = .returned (.bool (sameS l m)) ∧ Below w.heap.size w w' := by
  obtain ⟨a, cap, rfl, hc⟩ := hv.at
  obtain ⟨a2, cap2, rfl, hc2⟩ := hu.at
  have hlm : l.length ≤ 1000000 := hl.1
  have hmm : m.length ≤ 1000000 := hm.1
  have eg : ∀ args w, (callFunc 61 args).run Tryz.prog w = .ok (.enter 61 args) w := enters_of Tryz.func61 (by kernel_rfl) rfl
  by_cases hlen : l.length = m.length
  · rw [← hlen]
    have hlH := Lib.hid hlen
    generalize hR : sameS l m = R
    rw [sameS, decide_eq_true hlen, Bool.true_and] at hR
    have HR := Lib.hid hR
    clear hR hv hu
    have hc2' : ∀ i (hi : i < l.length), ∃ y b o lv, m[i]? = some y ∧ a2 = some ⟨b, o, none⟩ ∧ StrsV w lv y.items ∧ w.cell? ⟨b, o + i * 5, none⟩ = some (.string ⟨y.name.toArray⟩) ∧ w.cell? ⟨b, o + i * 5 + 1, none⟩ = some (.int .i64 y.kind) ∧ w.cell? ⟨b, o + i * 5 + 2, none⟩ = some (.string ⟨y.data.toArray⟩) ∧ w.cell? ⟨b, o + i * 5 + 3, none⟩ = some (.int .i64 y.max) ∧ w.cell? ⟨b, o + i * 5 + 4, none⟩ = some lv := fun i hi => by
      have h2 : i < m.length := by omega
      obtain ⟨b, o, lv, e1, _, e2, e3⟩ := hc2 i h2
      exact ⟨m[i], b, o, lv, List.getElem?_eq_getElem h2, e1, e2, e3⟩
    clear hc2 hlen
    go_enter Tryz.func60, Tryz.ntmps60
    go_wp2_with fail
    go_loopg [17] l.length (fun gg s17 wr => ∃ kk : Nat, kk ≤ l.length ∧ l.length - kk ≤ gg ∧ s17 = .int .i64 kk ∧ Below w.heap.size w wr ∧ Hid (((l.zip m).take kk).all (fun p => sameO p.1 p.2) = true))
    case atStart => exact ⟨0, Nat.zero_le _, by omega, rfl, Below.refl _ _, rfl⟩
    case round =>
      obtain ⟨kk, hkk, hg, rfl, hB, hS⟩ := hrel
      by_cases hlt : kk < l.length
      · have hltz : (kk : Int) < (l.length : Int) := by omega
        have hk2 : kk < m.length := by rw [← hlH.out]; exact hlt
        obtain ⟨b, o, lv, rfl, -, hlv, k0, k1, k2, k3, k4⟩ := hc kk hlt
        obtain ⟨y, b2, o2, lu, hy, rfl, hlu, j0, j1, j2, j3, j4⟩ := hc2' kk hlt
        obtain rfl : m[kk] = y := by rw [List.getElem?_eq_getElem hk2] at hy; injection hy
        have hfx := hl.2 l[kk] (List.getElem_mem _)
        have hfy := hm.2 m[kk] (List.getElem_mem _)
        have hyes := zipAll_take kk hlt hk2
        have hno := zipAll_no kk hlt hk2
        rw [hS.out] at hyes
        have hBk := KeepC.of_below hB
        replace k0 := hBk.2 _ _ _ k0
        replace k1 := hBk.2 _ _ _ k1
        replace k2 := hBk.2 _ _ _ k2
        replace k3 := hBk.2 _ _ _ k3
        replace k4 := hBk.2 _ _ _ k4
        replace j0 := hBk.2 _ _ _ j0
        replace j1 := hBk.2 _ _ _ j1
        replace j2 := hBk.2 _ _ _ j2
        replace j3 := hBk.2 _ _ _ j3
        replace j4 := hBk.2 _ _ _ j4
        replace hlv := hlv.keep hBk
        replace hlu := hlu.keep hBk
        have hblt : b < wr.heap.size := World.block_lt_of_cell? wr _ k0
        have hb2lt : b2 < wr.heap.size := World.block_lt_of_cell? wr _ j0
        have hbn : b2 ≠ wr.heap.size := by omega
        clear hc hc2' hy hS hBk
        generalize l[kk] = x at *
        generalize m[kk] = y at *
        have HE := fun W (h : KeepC wr W) => sameObj_any x y hfx hfy lv lu W (hlv.keep h) (hlu.keep h)
        obtain ⟨n1, p1, d1, m1, i1⟩ := x
        obtain ⟨n2, p2, d2, m2, i2⟩ := y
        dsimp only at *
        obtain ⟨a3, c3, rfl, -⟩ := hlv.at
        obtain ⟨a4, c4, rfl, -⟩ := hlu.at
        have hB1 := ((Below.refl wr.heap.size wr).alloc (Nat.le_refl _) (.cells #[.string ⟨n1.toArray⟩, .int .i64 p1, .string ⟨d1.toArray⟩, .int .i64 m1, .slice a3 i1.length c3] 40)).alloc (by simp) (.cells #[.string ⟨n2.toArray⟩, .int .i64 p2, .string ⟨d2.toArray⟩, .int .i64 m2, .slice a4 i2.length c4] 40)
        have HE1 := HE _ (KeepC.of_below hB1)
        clear HE hlv hlu hfx hfy
        generalize sameO ⟨n1, p1, d1, m1, i1⟩ ⟨n2, p2, d2, m2, i2⟩ = r at *
        have HE2 := Lib.hid HE1
        clear HE1
        cases r with
        | true =>
          have HY := Lib.hid hyes
          clear hyes hno
          go_wp2_with (go_at_fn 61; refine HE2.out.mono ?_; rintro e w2 ⟨rfl, hb2⟩)
          go_roundg (l.length - (kk + 1))
          case measure => omega
          case rel => exact ⟨kk + 1, by omega, by omega, by go_num, hB.trans ((hB1.trans (hb2.mono hB1.size)).mono hB.size), HY.out⟩
        | false =>
          have HN := Lib.hid (hno rfl)
          clear hyes hno
          go_wp2_with (go_at_fn 61; refine HE2.out.mono ?_; rintro e w2 ⟨rfl, hb2⟩)
          go_ret
          exact ⟨ret_bool (by rw [← HR.out, HN.out]), hB.trans ((hB1.trans (hb2.mono hB1.size)).mono hB.size)⟩
      · have hltz : ¬ (kk : Int) < (l.length : Int) := by omega
        have hA : ((l.zip m).all fun p => sameO p.1 p.2) = true := by have := hS.out; rwa [List.take_of_length_le (by rw [List.length_zip]; omega)] at this
        have HR2 : Hid (true = R) := by show _ = _; rw [← HR.out, hA]
        clear hS hA HR hc hc2'
        go_wp2_with fail
        go_ret
        exact ⟨ret_bool (by rw [← HR2.out]), hB⟩
  · have hne : sameS l m = false := by rw [sameS, decide_eq_false hlen]; rfl
    rw [hne]
    clear hv hu hc hc2
    have hz : ¬ (l.length : Int) = (m.length : Int) := by omega
    go_enter Tryz.func60, Tryz.ntmps60
    go_wp2
    go_ret
    exact ⟨rfl, Below.refl _ _⟩
end Go.Proofs.YtmjmmcdhpognaaaGreatDoor
/- Walks of layer 10: Same. -/
namespace Go.Proofs.YtmjmmcdhpognaaaGreatDoor
open Go.RowKit Go.Shelf
attribute [local go_sem] Oper.semAt_some
theorem spaceSame_any (l m : List ObjD) (hl : FitsS l) (hm : FitsS m) (v u : Value) (w : World) (hv : ObjsV w v l) (hu : ObjsV w u m) :
    Calls Tryz.prog 38 #[v, u] w fun e w' => e = .returned (.bool (sameS l m)) ∧ Below w.heap.size w w' := by
  have H := equalO_any l m hl hm v u w hv hu
  generalize sameS l m = r at *
  go_enter Tryz.func38, Tryz.ntmps38
  go_wp2_with (go_at_call 60; refine H.mono ?_; rintro e w' ⟨rfl, hb⟩)
  go_ret
  exact ⟨rfl, hb⟩
end Go.Proofs.YtmjmmcdhpognaaaGreatDoor
/- Walks of layer 10's reference: Same. -/
namespace Go.Proofs.YtmjmmcdhpognaaaGreatDoor
open Go.RowKit Go.Shelf
attribute [local go_sem] Oper.semAt_some
set_option maxRecDepth 100000 in
set_option maxHeartbeats 4000000 in
theorem sameR_any (l m : List ObjD) (hl : FitsS l) (hm : FitsS m) (v u : Value) (w : World) (hv : ObjsV w v l) (hu : ObjsV w u m) :
    Calls Tryz.prog 8 #[v, u] w fun e w' => e = .returned (.bool (sameS l m)) ∧ Below w.heap.size w w' := by
  obtain ⟨a, cap, rfl, hc⟩ := hv.at
  obtain ⟨a2, cap2, rfl, hc2⟩ := hu.at
  have hlm : l.length ≤ 1000000 := hl.1
  have hmm : m.length ≤ 1000000 := hm.1
  by_cases hlen : l.length = m.length
  · rw [← hlen]
    have hlH := Lib.hid hlen
    generalize hR : sameS l m = R
    rw [sameS, decide_eq_true hlen, Bool.true_and] at hR
    have HR := Lib.hid hR
    clear hR hv hu
    have hc2' : ∀ i (hi : i < l.length), ∃ y b o lv, m[i]? = some y ∧ a2 = some ⟨b, o, none⟩ ∧ StrsV w lv y.items ∧ w.cell? ⟨b, o + i * 5, none⟩ = some (.string ⟨y.name.toArray⟩) ∧ w.cell? ⟨b, o + i * 5 + 1, none⟩ = some (.int .i64 y.kind) ∧ w.cell? ⟨b, o + i * 5 + 2, none⟩ = some (.string ⟨y.data.toArray⟩) ∧ w.cell? ⟨b, o + i * 5 + 3, none⟩ = some (.int .i64 y.max) ∧ w.cell? ⟨b, o + i * 5 + 4, none⟩ = some lv := fun i hi => by
      have h2 : i < m.length := by omega
      obtain ⟨b, o, lv, e1, _, e2, e3⟩ := hc2 i h2
      exact ⟨m[i], b, o, lv, List.getElem?_eq_getElem h2, e1, e2, e3⟩
    clear hc2 hlen
    go_enter Tryz.func8, Tryz.ntmps8
    go_wp2_with fail
    go_loopg [5] l.length (fun gg s17 wr => ∃ kk : Nat, kk ≤ l.length ∧ l.length - kk ≤ gg ∧ s17 = .int .i64 kk ∧ Below w.heap.size w wr ∧ Hid (((l.zip m).take kk).all (fun p => sameO p.1 p.2) = true))
    case atStart => exact ⟨0, Nat.zero_le _, by omega, rfl, Below.refl _ _, rfl⟩
    case round =>
      obtain ⟨kk, hkk, hg, rfl, hB, hS⟩ := hrel
      by_cases hlt : kk < l.length
      · have hltz : (kk : Int) < (l.length : Int) := by omega
        have hk2 : kk < m.length := by rw [← hlH.out]; exact hlt
        obtain ⟨b, o, lv, rfl, -, hlv, k0, k1, k2, k3, k4⟩ := hc kk hlt
        obtain ⟨y, b2, o2, lu, hy, rfl, hlu, j0, j1, j2, j3, j4⟩ := hc2' kk hlt
        obtain rfl : m[kk] = y := by rw [List.getElem?_eq_getElem hk2] at hy; injection hy
        have hfx := hl.2 l[kk] (List.getElem_mem _)
        have hfy := hm.2 m[kk] (List.getElem_mem _)
        have hyes := zipAll_take kk hlt hk2
        have hno := zipAll_no kk hlt hk2
        rw [hS.out] at hyes
        have hBk := KeepC.of_below hB
        replace k0 := hBk.2 _ _ _ k0
        replace k1 := hBk.2 _ _ _ k1
        replace k2 := hBk.2 _ _ _ k2
        replace k3 := hBk.2 _ _ _ k3
        replace k4 := hBk.2 _ _ _ k4
        replace j0 := hBk.2 _ _ _ j0
        replace j1 := hBk.2 _ _ _ j1
        replace j2 := hBk.2 _ _ _ j2
        replace j3 := hBk.2 _ _ _ j3
        replace j4 := hBk.2 _ _ _ j4
        replace hlv := hlv.keep hBk
        replace hlu := hlu.keep hBk
        have hblt : b < wr.heap.size := World.block_lt_of_cell? wr _ k0
        have hb2lt : b2 < wr.heap.size := World.block_lt_of_cell? wr _ j0
        have hbn : b2 ≠ wr.heap.size := by omega
        clear hc hc2' hy hS hBk
        generalize l[kk] = x at *
        generalize m[kk] = y at *
        have HE := fun W (h : KeepC wr W) => one_any x y hfx hfy lv lu W (hlv.keep h) (hlu.keep h)
        obtain ⟨n1, p1, d1, m1, i1⟩ := x
        obtain ⟨n2, p2, d2, m2, i2⟩ := y
        dsimp only at *
        obtain ⟨a3, c3, rfl, -⟩ := hlv.at
        obtain ⟨a4, c4, rfl, -⟩ := hlu.at
        have hkd : KeepC wr wr.drew := ⟨Nat.le_refl _, fun _ _ _ h => h⟩
        have HE1 := HE wr.drew hkd
        clear HE hlv hlu hfx hfy
        have SK : Hid (∀ W, Below wr.heap.size wr W → (W.cell? ⟨b, o + kk * 5, none⟩ = some (.string ⟨n1.toArray⟩) ∧ W.cell? ⟨b, o + kk * 5 + 1, none⟩ = some (.int .i64 p1) ∧ W.cell? ⟨b, o + kk * 5 + 2, none⟩ = some (.string ⟨d1.toArray⟩) ∧ W.cell? ⟨b, o + kk * 5 + 3, none⟩ = some (.int .i64 m1) ∧ W.cell? ⟨b, o + kk * 5 + 4, none⟩ = some (.slice a3 i1.length c3)) ∧ (W.cell? ⟨b2, o2 + kk * 5, none⟩ = some (.string ⟨n2.toArray⟩) ∧ W.cell? ⟨b2, o2 + kk * 5 + 1, none⟩ = some (.int .i64 p2) ∧ W.cell? ⟨b2, o2 + kk * 5 + 2, none⟩ = some (.string ⟨d2.toArray⟩) ∧ W.cell? ⟨b2, o2 + kk * 5 + 3, none⟩ = some (.int .i64 m2) ∧ W.cell? ⟨b2, o2 + kk * 5 + 4, none⟩ = some (.slice a4 i2.length c4))) := by
          show ∀ W, _
          intro W h
          have hk := (KeepC.of_below h).2
          exact ⟨⟨hk _ _ _ k0, hk _ _ _ k1, hk _ _ _ k2, hk _ _ _ k3, hk _ _ _ k4⟩, hk _ _ _ j0, hk _ _ _ j1, hk _ _ _ j2, hk _ _ _ j3, hk _ _ _ j4⟩
        generalize sameO ⟨n1, p1, d1, m1, i1⟩ ⟨n2, p2, d2, m2, i2⟩ = r at *
        go_wp2_with fail
        go_region_held3 (fun u => (u.cell? ⟨b, o + kk * 5, none⟩ = some (.string ⟨n1.toArray⟩) ∧ u.cell? ⟨b, o + kk * 5 + 1, none⟩ = some (.int .i64 p1) ∧ u.cell? ⟨b, o + kk * 5 + 2, none⟩ = some (.string ⟨d1.toArray⟩) ∧ u.cell? ⟨b, o + kk * 5 + 3, none⟩ = some (.int .i64 m1) ∧ u.cell? ⟨b, o + kk * 5 + 4, none⟩ = some (.slice a3 i1.length c3)) ∧ (u.cell? ⟨b2, o2 + kk * 5, none⟩ = some (.string ⟨n2.toArray⟩) ∧ u.cell? ⟨b2, o2 + kk * 5 + 1, none⟩ = some (.int .i64 p2) ∧ u.cell? ⟨b2, o2 + kk * 5 + 2, none⟩ = some (.string ⟨d2.toArray⟩) ∧ u.cell? ⟨b2, o2 + kk * 5 + 3, none⟩ = some (.int .i64 m2) ∧ u.cell? ⟨b2, o2 + kk * 5 + 4, none⟩ = some (.slice a4 i2.length c4)))
          (first | go_keep | exact kk1)
          (first
            | (go_at_call 26; go_must (with_reducible refine HE1.mono ?_); rintro e w2 ⟨rfl, hb2⟩; have hbb := (Below.refl wr.heap.size wr).drew.trans hb2; have kk1 := SK.out _ hbb))
        all_goals (cases r with
          | true =>
            have HY := Lib.hid hyes
            clear hyes hno
            go_wp2_with fail
            go_roundg (l.length - (kk + 1))
            case measure => omega
            case rel => exact ⟨kk + 1, by omega, by omega, by go_num, hB.trans (hbb.mono hB.size), HY.out⟩
          | false =>
            have HN := Lib.hid (hno rfl)
            clear hyes hno
            go_wp2_with fail
            go_ret
            exact ⟨ret_bool (by rw [← HR.out, HN.out]), hB.trans (hbb.mono hB.size)⟩)
      · have hltz : ¬ (kk : Int) < (l.length : Int) := by omega
        have hA : ((l.zip m).all fun p => sameO p.1 p.2) = true := by have := hS.out; rwa [List.take_of_length_le (by rw [List.length_zip]; omega)] at this
        have HR2 : Hid (true = R) := by show _ = _; rw [← HR.out, hA]
        clear hS hA HR hc hc2'
        go_wp2_with fail
        go_ret
        exact ⟨ret_bool (by rw [← HR2.out]), hB⟩
  · have hne : sameS l m = false := by rw [sameS, decide_eq_false hlen]; rfl
    rw [hne]
    clear hv hu hc hc2
    have hz : ¬ (l.length : Int) = (m.length : Int) := by omega
    go_enter Tryz.func8, Tryz.ntmps8
    go_wp2
    go_ret
    exact ⟨rfl, Below.refl _ _⟩
end Go.Proofs.YtmjmmcdhpognaaaGreatDoor
