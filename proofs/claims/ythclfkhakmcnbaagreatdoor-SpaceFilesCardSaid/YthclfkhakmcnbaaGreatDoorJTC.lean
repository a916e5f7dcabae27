/- Joined: SpcA; SpcB; SpcC; SpcD; SpcE -/
import Derived.Test.YthclfkhakmcnbaaGreatDoorJTB
/- Walks of layer 10: names. -/
namespace Go.Proofs.YthclfkhakmcnbaaGreatDoor
open Go.RowKit Go.Shelf
attribute [local go_sem] Oper.semAt_some
def chN (c : Nat) : Bool := (decide (97 ≤ c) && decide (c ≤ 122)) || (decide (48 ≤ c) && decide (c ≤ 57)) || c == 46
theorem chN_iff (c : Nat) : chN c = true ↔ (97 ≤ c ∧ c ≤ 122) ∨ (48 ≤ c ∧ c ≤ 57) ∨ c = 46 := by simp [chN, or_assoc]
theorem chN_no {c : Nat} (h : ¬ ((97 ≤ c ∧ c ≤ 122) ∨ (48 ≤ c ∧ c ≤ 57) ∨ c = 46)) : chN c = false := by
  cases hc : chN c with
  | false => rfl
  | true => exact absurd ((chN_iff c).1 hc) h
theorem chB_eq (c : UInt8) : chB c = chN c.toNat := rfl
theorem isRune_any (c : Nat) (w : World) : Calls Tryz.prog 69 #[.int .i32 c] w fun e w' => e = .returned (.bool (chN c)) ∧ w' = w := by
  generalize hR : chN c = R
  have HR := Lib.hid hR
  clear hR
  by_cases h1 : (97 : Int) ≤ c
  · by_cases h2 : (c : Int) ≤ 122
    · go_enter Tryz.func69, Tryz.ntmps69
      go_wp2
      go_ret
      exact ⟨ret_bool (by rw [← HR.out]; exact ((chN_iff c).2 (by omega)).symm), rfl⟩
    · have h3 : (48 : Int) ≤ c := by omega
      have h4 : ¬ (c : Int) ≤ 57 := by omega
      have h5 : ((c : Int) == 46) = false := by simp; omega
      go_enter Tryz.func69, Tryz.ntmps69
      go_wp2
      go_ret
      exact ⟨ret_bool (by rw [← HR.out]; exact (chN_no (c := c) (by omega)).symm), rfl⟩
  · by_cases h3 : (48 : Int) ≤ c
    · by_cases h4 : (c : Int) ≤ 57
      · go_enter Tryz.func69, Tryz.ntmps69
        go_wp2
        go_ret
        exact ⟨ret_bool (by rw [← HR.out]; exact ((chN_iff c).2 (by omega)).symm), rfl⟩
      · have h5 : ((c : Int) == 46) = false := by simp; omega
        go_enter Tryz.func69, Tryz.ntmps69
        go_wp2
        go_ret
        exact ⟨ret_bool (by rw [← HR.out]; exact (chN_no (c := c) (by omega)).symm), rfl⟩
    · by_cases h5 : c = 46
      · subst h5
        go_enter Tryz.func69, Tryz.ntmps69
        go_wp2
        go_ret
        exact ⟨ret_bool (by rw [← HR.out]; rfl), rfl⟩
      · have h5' : ((c : Int) == 46) = false := by simp; omega
        go_enter Tryz.func69, Tryz.ntmps69
        go_wp2
        go_ret
        exact ⟨ret_bool (by rw [← HR.out]; exact (chN_no (c := c) (by omega)).symm), rfl⟩
theorem iter_below' (w : World) (s : ByteArray) (p : Nat) : Below w.heap.size w (w.iter s p) := (Below.refl _ w).alloc (Nat.le_refl _) _
theorem take_all {s : List UInt8} (pos : Nat) (hp : pos < s.length) (h : (s.take pos).all chB = true) (hc : chB s[pos] = true) : (s.take (pos + 1)).all chB = true := by
  rw [List.take_succ_eq_append_getElem hp, List.all_append, h]; simp [hc]
theorem all_no {s : List UInt8} (pos : Nat) (hp : pos < s.length) (hc : chB s[pos] = false) : nameB s = false := by
  have : s.all chB = false := List.all_eq_false.2 ⟨_, List.getElem_mem hp, by simp [hc]⟩
  rw [nameB, this]; rfl
set_option maxHeartbeats 1000000 in
theorem isName_any (s : List UInt8) (hl : s.length ≤ maxLen) (w : World) : Calls Tryz.prog 25 #[.string ⟨s.toArray⟩] w fun e w' => e = .returned (.bool (nameB s)) ∧ Below w.heap.size w w' := by
  have hsm : s.length ≤ 9223372036854775807 := Nat.le_trans hl (by decide)
  generalize hR : nameB s = R
  have HR := Lib.hid hR
  clear hR
  go_enter Tryz.func25, Tryz.ntmps25
  go_wp2_with fail
  go_loopw [] (fun wr => ∃ pos : Nat, pos ≤ s.length ∧ wr = w.iter ⟨s.toArray⟩ pos ∧ Hid ((s.take pos).all chB = true)) (fun wr => s.length - wr.iterPos w.heap.size)
  case atStart => exact ⟨0, Nat.zero_le _, rfl, rfl⟩
  case round =>
    obtain ⟨pos, hp, rfl, hall⟩ := hrel
    by_cases hlt : pos < s.length
    · have hs : pos < (ByteArray.mk s.toArray).size := by rw [ba_size]; exact hlt
      by_cases ha : s[pos].toNat < 128
      · have hN := fun ty => run_next_ascii (P := Tryz.prog) w ⟨s.toArray⟩ pos ty hs (by rw [ba_get]; exact ha)
        rw [ba_get] at hN
        have hy := take_all pos hlt hall.out
        have hn := all_no pos hlt
        clear hall
        generalize s[pos] = c at *
        rw [chB_eq] at hy hn
        have hI := isRune_any c.toNat
        generalize chN c.toNat = ok at *
        cases ok with
        | true =>
          have HY := Lib.hid (hy rfl)
          clear hy hn
          go_wp2_with (go_at_call 69; refine (hI _).mono ?_; rintro e w' ⟨rfl, rfl⟩)
          go_roundw
          case rel => exact ⟨pos + 1, by omega, rfl, HY.out⟩
          case measure => simp; omega
        | false =>
          have HN := Lib.hid (hn rfl)
          clear hy hn
          go_wp2_with (go_at_call 69; refine (hI _).mono ?_; rintro e w' ⟨rfl, rfl⟩)
          go_ret
          exact ⟨ret_bool (by rw [← HR.out, HN.out]), iter_below' _ _ _⟩
      · have hN := fun ty => run_next_any (P := Tryz.prog) w ⟨s.toArray⟩ pos ty hs
        have hd := decode_high ⟨s.toArray⟩ pos hs (by rw [ba_get]; omega)
        have hcn : chB s[pos] = false := by rw [chB_eq]; exact chN_no (by omega)
        have HN := Lib.hid (all_no pos hlt hcn)
        clear hcn hall
        generalize Utf8.decode ⟨s.toArray⟩ pos = d at hN hd
        obtain ⟨d1, d2⟩ := d
        have hI := isRune_any d1
        have hd1 : chN d1 = false := chN_no (by have := hd.1; simp at this; omega)
        rw [hd1] at hI
        clear hd
        simp only at hN
        go_wp2_with (go_at_call 69; refine (hI _).mono ?_; rintro e w' ⟨rfl, rfl⟩)
        go_ret
        exact ⟨ret_bool (by rw [← HR.out, HN.out]), iter_below' _ _ _⟩
    · have hN := fun ty => run_next_end (P := Tryz.prog) w ⟨s.toArray⟩ pos ty (by rw [ba_size]; exact hlt)
      have hA : s.all chB = true := by have := hall.out; rwa [List.take_of_length_le (by omega)] at this
      have HR2 : Hid ((!s.isEmpty && decide (s.length ≤ 20)) = R) := by show _ = _; rw [← HR.out, nameB, hA]; rfl
      clear hall HR hA
      cases s with
      | nil =>
        go_wp2
        go_ret
        exact ⟨ret_bool (by rw [← HR2.out]; rfl), iter_below' _ _ _⟩
      | cons c r =>
        have hne : ((c :: r) == ([] : List UInt8)) = false := rfl
        have hz := ba_size (c :: r)
        rw [List.length_cons] at hz
        by_cases h20 : r.length + 1 ≤ 20
        · have h20' : ((r.length + 1 : Nat) : Int) ≤ 20 := by omega
          go_wp2
          go_ret
          exact ⟨ret_bool (by rw [← HR2.out]; simp; omega), iter_below' _ _ _⟩
        · have h20' : ¬ ((r.length + 1 : Nat) : Int) ≤ 20 := by omega
          go_wp2
          go_ret
          exact ⟨ret_bool (by rw [← HR2.out]; simp; omega), iter_below' _ _ _⟩
end Go.Proofs.YthclfkhakmcnbaaGreatDoor
/- Walks of layer 10's reference: names. -/
namespace Go.Proofs.YthclfkhakmcnbaaGreatDoor
open Go.RowKit Go.Shelf
attribute [local go_sem] Oper.semAt_some
set_option maxHeartbeats 2000000 in
theorem isNameR_any (s : List UInt8) (hl : s.length ≤ maxLen) (w : World) : Calls Tryz.prog 26 #[.string ⟨s.toArray⟩] w fun e w' => e = .returned (.bool (nameB s)) ∧ ∃ q, w' = w.drewN q := by
  have hsm : s.length ≤ 9223372036854775807 := Nat.le_trans hl (by decide)
  generalize hR : nameB s = R
  have HR := Lib.hid hR
  clear hR
  have hz := ba_size s
  go_enter Tryz.func26, Tryz.ntmps26
  go_wp2_with fail
  go_loopg [3] s.length (fun gg s3 wr => ∃ kk : Nat, kk ≤ s.length ∧ s.length - kk ≤ gg ∧ s3 = .int .i64 kk ∧ wr = w ∧ Aside ((s.take kk).all chB = true))
  case atStart => exact ⟨0, Nat.zero_le _, by omega, rfl, rfl, rfl⟩
  case round =>
    obtain ⟨kk, hkk, hg, rfl, rfl, A⟩ := hrel
    by_cases hlt : kk < s.length
    · have hltz : (kk : Int) < (s.length : Int) := by omega
      obtain ⟨c, hc⟩ : ∃ c, s[kk] = c := ⟨_, rfl⟩
      have hy := take_all kk hlt A.out
      have hn := all_no kk hlt
      rw [hc, chB_eq] at hy hn
      have hi := chN_iff c.toNat
      generalize chN c.toNat = ok at *
      cases ok with
      | true =>
        have HY := Lib.hid (hy rfl)
        have hi2 := hi.1 rfl
        clear hy hn hi
        rcases hi2 with h | h | h
        · have d0 := decide_eq_false (p := (c.toNat : Int) < 97) (by omega)
          have d1 := decide_eq_false (p := 122 < (c.toNat : Int)) (by omega)
          go_wp2_with fail
          go_roundg (s.length - (kk + 1))
          case measure => omega
          case rel => exact ⟨kk + 1, by omega, by omega, by go_num, rfl, (show Aside _ from HY.out)⟩
        · have d0 := decide_eq_true (p := (c.toNat : Int) < 97) (by omega)
          have d1 := decide_eq_false (p := (c.toNat : Int) < 48) (by omega)
          have d2 := decide_eq_false (p := 57 < (c.toNat : Int)) (by omega)
          go_wp2_with fail
          go_roundg (s.length - (kk + 1))
          case measure => omega
          case rel => exact ⟨kk + 1, by omega, by omega, by go_num, rfl, (show Aside _ from HY.out)⟩
        · have d0 := decide_eq_true (p := (c.toNat : Int) < 97) (by omega)
          have d1 := decide_eq_true (p := (c.toNat : Int) < 48) (by omega)
          have d2 : ((c.toNat : Int) != 46) = false := by simp; omega
          go_wp2_with fail
          go_roundg (s.length - (kk + 1))
          case measure => omega
          case rel => exact ⟨kk + 1, by omega, by omega, by go_num, rfl, (show Aside _ from HY.out)⟩
      | false =>
        have HN := Lib.hid (hn rfl)
        have hi2 : ¬ _ := fun h => by have := hi.2 h; cases this
        clear hy hn hi
        rcases (show ((c.toNat : Int) < 48 ∧ c.toNat ≠ 46) ∨ (57 < (c.toNat : Int) ∧ (c.toNat : Int) < 97) ∨ 122 < (c.toNat : Int) by omega) with h | h | h
        · have d0 := decide_eq_true (p := (c.toNat : Int) < 97) (by omega)
          have d1 := decide_eq_true (p := (c.toNat : Int) < 48) (by omega)
          have d2 : ((c.toNat : Int) != 46) = true := by simp; omega
          go_wp2_with fail
          go_ret
          exact ⟨ret_bool (by rw [← HR.out, HN.out]), 0, rfl⟩
        · have d0 := decide_eq_true (p := (c.toNat : Int) < 97) (by omega)
          have d1 := decide_eq_false (p := (c.toNat : Int) < 48) (by omega)
          have d2 := decide_eq_true (p := 57 < (c.toNat : Int)) (by omega)
          have d3 : ((c.toNat : Int) != 46) = true := by simp; omega
          go_wp2_with fail
          go_ret
          exact ⟨ret_bool (by rw [← HR.out, HN.out]), 0, rfl⟩
        · have d0 := decide_eq_false (p := (c.toNat : Int) < 97) (by omega)
          have d1 := decide_eq_true (p := 122 < (c.toNat : Int)) (by omega)
          have d2 := decide_eq_false (p := (c.toNat : Int) < 48) (by omega)
          have d3 := decide_eq_true (p := 57 < (c.toNat : Int)) (by omega)
          have d4 : ((c.toNat : Int) != 46) = true := by simp; omega
          go_wp2_with fail
          go_ret
          exact ⟨ret_bool (by rw [← HR.out, HN.out]), 0, rfl⟩
    · have hltz : ¬ (kk : Int) < (s.length : Int) := by omega
      have hA : s.all chB = true := by have := A.out; rwa [List.take_of_length_le (by omega)] at this
      have HR2 : Hid ((!s.isEmpty && decide (s.length ≤ 20)) = R) := by show _ = _; rw [← HR.out, nameB, hA]; rfl
      clear A HR hA
      by_cases h1 : (1 : Int) ≤ s.length
      · have hne : s.isEmpty = false := by cases s with
          | nil => simp at h1
          | cons _ _ => rfl
        have HR3 : Hid (decide (s.length ≤ 20) = R) := by show _ = _; rw [← HR2.out, hne]; rfl
        clear HR2 hne
        by_cases h20 : (s.length : Int) ≤ 20
        · go_wp2_with fail
          go_ret
          exact ⟨ret_bool (by rw [← HR3.out]; simp; omega), 0, rfl⟩
        · go_wp2_with fail
          go_ret
          exact ⟨ret_bool (by rw [← HR3.out]; simp; omega), 0, rfl⟩
      · have hne : s.isEmpty = true := by cases s with
          | nil => rfl
          | cons _ _ => simp at h1; omega
        have HR3 : Hid (false = R) := by show _ = _; rw [← HR2.out, hne]; rfl
        clear HR2 hne
        go_wp2_with fail
        go_ret
        exact ⟨ret_bool (by rw [← HR3.out]), 0, rfl⟩
end Go.Proofs.YthclfkhakmcnbaaGreatDoor
/- Walks of layer 10: objects. -/
namespace Go.Proofs.YthclfkhakmcnbaaGreatDoor
open Go.RowKit Go.Shelf
attribute [local go_sem] Oper.semAt_some
abbrev objV (x : ObjD) (lv : Value) : Value := .agg #[.string ⟨x.name.toArray⟩, .int .i64 x.kind, .string ⟨x.data.toArray⟩, .int .i64 x.max, lv]
def FitsO (x : ObjD) : Prop := x.name.length ≤ maxLen ∧ x.data.length ≤ maxLen ∧ FitsL x.items
set_option maxRecDepth 100000 in
set_option maxHeartbeats 2000000 in
theorem isObj_any (x : ObjD) (hx : FitsO x) (lv : Value) (ea : Addr) (w : World) (hge : w.cell? ⟨0, 0, none⟩ = some (errV8 ea)) (hv : StrsV w lv x.items) :
    Calls Tryz.prog 70 #[objV x lv] w fun e w' => e = .returned (.bool (objB x)) ∧ Below w.heap.size w w' := by
  obtain ⟨name, kind, data, max, items⟩ := x
  obtain ⟨hn, hd, hl⟩ := hx
  dsimp only at hn hd hl hv
  have hB1 := (Below.refl w.heap.size w).alloc (Nat.le_refl _) (.cells #[.string ⟨name.toArray⟩, .int .i64 kind, .string ⟨data.toArray⟩, .int .i64 max, lv] 48)
  have b1 := Blk.new w #[.string ⟨name.toArray⟩, .int .i64 kind, .string ⟨data.toArray⟩, .int .i64 max, lv] 48
  have hN := fun W => isName_any name hn W
  unfold objB
  dsimp only
  by_cases hk : kind = 1
  · subst hk
    rw [if_pos rfl]
    obtain ⟨a, cap, rfl, -⟩ := hv.at
    have hlm : items.length ≤ 1000000 := hl.1
    have hdm : data.length ≤ 9223372036854775807 := Nat.le_trans hd (by decide)
    have hz := ba_size data
    clear hv hge
    generalize hR : (nameB name && decide (data.length ≤ 1000) && (max == 0) && items.isEmpty) = R
    have HR := Lib.hid hR
    clear hR
    go_enter Tryz.func70, Tryz.ntmps70
    go_wp2_with fail
    refine (hN _).mono ?_
    rintro e w2 ⟨rfl, hb2⟩
    have hB2 := hB1.trans (hb2.mono hB1.size)
    have b2 := b1.below hb2 b1.lt
    have c2 : w2.cell? ⟨w.heap.size, 2, none⟩ = _ := b2.cell 2
    have c3 : w2.cell? ⟨w.heap.size, 3, none⟩ = _ := b2.cell 3
    have c4 : w2.cell? ⟨w.heap.size, 4, none⟩ = _ := b2.cell 4
    simp at c2 c3 c4
    clear b1 b2 hb2 hN
    generalize nameB name = nb at *
    cases nb with
    | false =>
      go_wp2_with fail
      go_ret
      exact ⟨ret_bool (by rw [← HR.out]; rfl), hB2⟩
    | true =>
      by_cases h1 : data.length ≤ 1000
      · by_cases h2 : max = 0
        · subst h2
          by_cases h3 : items.length = 0
          · have hi : items = [] := List.length_eq_zero_iff.1 h3
            subst hi
            go_wp2_with fail
            go_ret
            exact ⟨ret_bool (by rw [← HR.out, decide_eq_true h1]; rfl), hB2⟩
          · have hi : items.isEmpty = false := by cases items with
              | nil => simp at h3
              | cons _ _ => rfl
            have h3' : ((items.length : Int) == 0) = false := beq_false_of_ne (by omega)
            have HR2 : Hid (false = R) := by show _ = _; rw [← HR.out, hi]; simp
            clear HR hi
            go_wp2_with fail
            go_ret
            exact ⟨ret_bool (by rw [← HR2.out]), hB2⟩
        · have h2' : (max == 0) = false := beq_false_of_ne h2
          have HR2 : Hid (false = R) := by show _ = _; rw [← HR.out, h2']; simp
          clear HR
          go_wp2_with fail
          go_ret
          exact ⟨ret_bool (by rw [← HR2.out]), hB2⟩
      · have HR2 : Hid (false = R) := by show _ = _; rw [← HR.out, decide_eq_false h1]; simp
        clear HR
        go_wp2_with fail
        go_ret
        exact ⟨ret_bool (by rw [← HR2.out]), hB2⟩
  · rw [if_neg hk]
    by_cases hk2 : kind = 2
    · subst hk2
      rw [if_pos rfl]
      have hR8 := fun W (h : KeepC w W) => ringRight_any items hl max lv ea W (h.2 _ _ _ hge) (hv.keep h)
      clear hv hge
      generalize hR : (nameB name && data.isEmpty && ringB max items) = R
      have HR := Lib.hid hR
      clear hR
      go_enter Tryz.func70, Tryz.ntmps70
      go_wp2_with fail
      refine (hN _).mono ?_
      rintro e w2 ⟨rfl, hb2⟩
      have hB2 := hB1.trans (hb2.mono hB1.size)
      have b2 := b1.below hb2 b1.lt
      have c2 : w2.cell? ⟨w.heap.size, 2, none⟩ = _ := b2.cell 2
      have c3 : w2.cell? ⟨w.heap.size, 3, none⟩ = _ := b2.cell 3
      have c4 : w2.cell? ⟨w.heap.size, 4, none⟩ = _ := b2.cell 4
      simp at c2 c3 c4
      clear b1 b2 hb2 hN
      have hR9 := hR8 w2 (KeepC.of_below hB2)
      clear hR8
      generalize nameB name = nb at *
      generalize ringB max items = rb at *
      cases nb with
      | false =>
        go_wp2_with fail
        go_ret
        exact ⟨ret_bool (by rw [← HR.out]; rfl), hB2⟩
      | true =>
        cases data with
        | nil =>
          go_wp2_with fail
          refine hR9.mono ?_
          rintro e w3 ⟨rfl, hb3⟩
          go_wp2_with fail
          go_ret
          exact ⟨ret_bool (by rw [← HR.out]; rfl), hB2.trans (hb3.mono hB2.size)⟩
        | cons c r =>
          have hne : ((c :: r) == ([] : List UInt8)) = false := rfl
          go_wp2_with fail
          go_ret
          exact ⟨ret_bool (by rw [← HR.out]; rfl), hB2⟩
    · rw [if_neg hk2]
      have hk' : (kind == 1) = false := beq_false_of_ne hk
      have hk2' : (kind == 2) = false := beq_false_of_ne hk2
      clear b1
      go_enter Tryz.func70, Tryz.ntmps70
      go_wp2_with fail
      go_ret
      exact ⟨rfl, hB1⟩
end Go.Proofs.YthclfkhakmcnbaaGreatDoor
/- Walks of layer 10: whether objects are a space. -/
namespace Go.Proofs.YthclfkhakmcnbaaGreatDoor
open Go.RowKit Go.Shelf
attribute [local go_sem] Oper.semAt_some
def FitsS (l : List ObjD) : Prop := l.length ≤ 1000000 ∧ ∀ x ∈ l, FitsO x
/-- what is at the i-th place -/
theorem ObjsV.at {w : World} {v : Value} {l : List ObjD} (h : ObjsV w v l) : ∃ a cap, v = .slice a l.length cap ∧ ∀ i (hi : i < l.length), ∃ b o lv, a = some ⟨b, o, none⟩ ∧ b < w.heap.size ∧ StrsV w lv l[i].items ∧
    w.cell? ⟨b, o + i * 5, none⟩ = some (.string ⟨l[i].name.toArray⟩) ∧ w.cell? ⟨b, o + i * 5 + 1, none⟩ = some (.int .i64 l[i].kind) ∧ w.cell? ⟨b, o + i * 5 + 2, none⟩ = some (.string ⟨l[i].data.toArray⟩) ∧ w.cell? ⟨b, o + i * 5 + 3, none⟩ = some (.int .i64 l[i].max) ∧ w.cell? ⟨b, o + i * 5 + 4, none⟩ = some lv := by
  rcases Nat.eq_zero_or_pos l.length with h0 | h0
  · have e := List.length_eq_zero_iff.1 h0
    subst e
    obtain ⟨a, cap, rfl⟩ := h.zero
    exact ⟨a, cap, rfl, fun i hi => absurd hi (by simp)⟩
  · obtain ⟨b, o, cap, rfl, -, hb, hc⟩ := h.pos h0
    refine ⟨_, cap, rfl, fun i hi => ?_⟩
    obtain ⟨h1, h2, h3, h4, lv, h5, h6⟩ := hc i hi
    exact ⟨b, o, lv, rfl, hb, h6, h1, h2, h3, h4, h5⟩
set_option maxRecDepth 100000 in
set_option maxHeartbeats 4000000 in
theorem spaceRight_any (l : List ObjD) (hl : FitsS l) (v : Value) (ea : Addr) (w : World) (hge : w.cell? ⟨0, 0, none⟩ = some (errV8 ea)) (hv : ObjsV w v l) :
    Calls Tryz.prog 27 #[v] w fun e w' => e = .returned (.bool (spaceB l)) ∧ Below w.heap.size w w' := by
  obtain ⟨a, cap, rfl, hc⟩ := hv.at
  have hlm : l.length ≤ 1000000 := hl.1
  generalize hR : spaceB l = R
  have HR := Lib.hid hR
  clear hR hv
  go_enter Tryz.func27, Tryz.ntmps27
  go_wp2_with fail
  go_loopg [3, 8] l.length (fun gg s3 s8 wr => ∃ (kk : Nat) (last : List UInt8), kk ≤ l.length ∧ l.length - kk ≤ gg ∧ s3 = .string ⟨last.toArray⟩ ∧ s8 = .int .i64 kk ∧ Below w.heap.size w wr ∧ Hid (spB [] l = spB last (l.drop kk)))
  case atStart => exact ⟨0, [], Nat.zero_le _, by omega, rfl, rfl, Below.refl _ _, rfl⟩
  case round =>
    obtain ⟨kk, last, hkk, hg, rfl, rfl, hB, hS⟩ := hrel
    by_cases hlt : kk < l.length
    · have hltz : (kk : Int) < (l.length : Int) := by omega
      obtain ⟨b, o, lv, rfl, hb, hlv, k0, k1, k2, k3, k4⟩ := hc kk hlt
      have hfx := hl.2 l[kk] (List.getElem_mem _)
      have HS : Hid (spB [] l = spB last (l[kk] :: l.drop (kk + 1))) := by show _ = _; rw [hS.out, drop_cons l kk hlt]
      clear hS
      have hBk := KeepC.of_below hB
      have c0 := hBk.2 _ _ _ k0
      have c1 := hBk.2 _ _ _ k1
      have c2 := hBk.2 _ _ _ k2
      have c3 := hBk.2 _ _ _ k3
      have c4 := hBk.2 _ _ _ k4
      clear k0 k1 k2 k3 k4
      have hlv2 := hlv.keep hBk
      have hge2 := hBk.2 _ _ _ hge
      have HC := Lib.hid hc
      clear hc hlv
      generalize l[kk] = x at *
      have HI := fun W (h : KeepC wr W) => isObj_any x hfx lv ea W (h.2 _ _ _ hge2) (hlv2.keep h)
      obtain ⟨name, kind, data, max, items⟩ := x
      dsimp only at *
      obtain ⟨a2, cap2, rfl, -⟩ := hlv2.at
      have hB1 := (Below.refl wr.heap.size wr).alloc (Nat.le_refl _) (.cells #[.string ⟨name.toArray⟩, .int .i64 kind, .string ⟨data.toArray⟩, .int .i64 max, .slice a2 items.length cap2] 48)
      have b1 := Blk.new wr #[.string ⟨name.toArray⟩, .int .i64 kind, .string ⟨data.toArray⟩, .int .i64 max, .slice a2 items.length cap2] 48
      have HI1 := HI _ (KeepC.of_below hB1)
      clear HI hge2 hlv2 hfx
      generalize hO : objB ⟨name, kind, data, max, items⟩ = ob at HI1
      have HO := Lib.hid hO
      clear hO
      go_wp2_with fail
      refine HI1.mono ?_
      rintro e w2 ⟨rfl, hb2⟩
      have hB12 := hB1.trans (hb2.mono hB1.size)
      have hB2 := hB.trans (hB12.mono hB.size)
      have b2 := b1.below hb2 b1.lt
      have c20 : w2.cell? ⟨wr.heap.size, 0, none⟩ = _ := b2.cell 0
      simp at c20
      clear HI1 c0 c1 c2 c3 c4 b1 b2 hb2 hB1
      have hle := leq_not name last
      cases ob with
      | false =>
        have HR2 : Hid (false = R) := by
          show _ = _
          rw [← HR.out, spaceB, HS.out, spB, HO.out]; rfl
        clear HR HS
        go_wp2_with fail
        go_ret
        exact ⟨ret_bool (by rw [← HR2.out]), hB2⟩
      | true =>
        generalize hb : Op.bytesLess last name = lb at hle
        have HLB := Lib.hid hb
        clear hb
        cases lb with
        | true =>
          have HS2 : Hid (spB [] l = spB name (l.drop (kk + 1))) := by
            show _ = _
            rw [HS.out, spB, HO.out, HLB.out]; rfl
          clear HS HO HLB
          go_wp2_with fail
          go_roundg (l.length - (kk + 1))
          case measure => omega
          case rel => exact ⟨kk + 1, name, by omega, by omega, rfl, by go_num, hB2, HS2⟩
        | false =>
          have HR2 : Hid (false = R) := by
            show _ = _
            rw [← HR.out, spaceB, HS.out, spB, HO.out, HLB.out]; rfl
          clear HR HS
          go_wp2_with fail
          go_ret
          exact ⟨ret_bool (by rw [← HR2.out]), hB2⟩
    · have hltz : ¬ (kk : Int) < (l.length : Int) := by omega
      have HR2 : Hid (decide (l.length ≤ 20) = R) := by
        show _ = _
        rw [← HR.out, spaceB, hS.out, List.drop_of_length_le (by omega)]; rfl
      clear hS HR hc
      by_cases h20 : (l.length : Int) ≤ 20
      · go_wp2_with fail
        go_ret
        exact ⟨ret_bool (by rw [← HR2.out]; simp; omega), hB⟩
      · go_wp2_with fail
        go_ret
        exact ⟨ret_bool (by rw [← HR2.out]; simp; omega), hB⟩
end Go.Proofs.YthclfkhakmcnbaaGreatDoor
/- Walks of layer 10's reference: objects. -/
namespace Go.Proofs.YthclfkhakmcnbaaGreatDoor
open Go.RowKit Go.Shelf
attribute [local go_sem] Oper.semAt_some
theorem isNameR_below (s : List UInt8) (hl : s.length ≤ maxLen) (w : World) : Calls Tryz.prog 26 #[.string ⟨s.toArray⟩] w fun e w' => e = .returned (.bool (nameB s)) ∧ Below w.heap.size w w' :=
  (isNameR_any s hl w).mono fun _ _ ⟨h1, q, h2⟩ => ⟨h1, by rw [h2]; exact below_drewN (Below.refl _ _) _⟩
set_option maxRecDepth 100000 in
set_option maxHeartbeats 2000000 in
theorem isObjR_any (x : ObjD) (hx : FitsO x) (lv : Value) (w : World) (hv : StrsV w lv x.items) :
    Calls Tryz.prog 71 #[objV x lv] w fun e w' => e = .returned (.bool (objB x)) ∧ Below w.heap.size w w' := by
  obtain ⟨name, kind, data, max, items⟩ := x
  obtain ⟨hn, hd, hl⟩ := hx
  dsimp only at hn hd hl hv
  have hB1 := (Below.refl w.heap.size w).alloc (Nat.le_refl _) (.cells #[.string ⟨name.toArray⟩, .int .i64 kind, .string ⟨data.toArray⟩, .int .i64 max, lv] 48)
  have b1 := Blk.new w #[.string ⟨name.toArray⟩, .int .i64 kind, .string ⟨data.toArray⟩, .int .i64 max, lv] 48
  have hN := fun W => isNameR_below name hn W
  unfold objB
  dsimp only
  by_cases hk : kind = 1
  · subst hk
    rw [if_pos rfl]
    obtain ⟨a, cap, rfl, -⟩ := hv.at
    have hlm : items.length ≤ 1000000 := hl.1
    have hdm : data.length ≤ 9223372036854775807 := Nat.le_trans hd (by decide)
    have hz := ba_size data
    clear hv
    generalize hR : (nameB name && decide (data.length ≤ 1000) && (max == 0) && items.isEmpty) = R
    have HR := Lib.hid hR
    clear hR
    go_enter Tryz.func71, Tryz.ntmps71
    go_wp2_with fail
    refine (hN _).mono ?_
    rintro e w2 ⟨rfl, hb2⟩
    have hB2 := hB1.trans (hb2.mono hB1.size)
    have b2 := b1.below hb2 b1.lt
    have c2 : w2.cell? ⟨w.heap.size, 2, none⟩ = _ := b2.cell 2
    have c3 : w2.cell? ⟨w.heap.size, 3, none⟩ = _ := b2.cell 3
    have c4 : w2.cell? ⟨w.heap.size, 4, none⟩ = _ := b2.cell 4
    simp at c2 c3 c4
    clear b1 b2 hb2 hN
    generalize nameB name = nb at *
    cases nb with
    | false =>
      go_wp2_with fail
      go_ret
      exact ⟨ret_bool (by rw [← HR.out]; rfl), hB2⟩
    | true =>
      by_cases h1 : data.length ≤ 1000
      · by_cases h2 : max = 0
        · subst h2
          by_cases h3 : items.length = 0
          · have hi : items = [] := List.length_eq_zero_iff.1 h3
            subst hi
            go_wp2_with fail
            go_ret
            exact ⟨ret_bool (by rw [← HR.out, decide_eq_true h1]; rfl), hB2⟩
          · have hi : items.isEmpty = false := by cases items with
              | nil => simp at h3
              | cons _ _ => rfl
            have h3' : ((items.length : Int) == 0) = false := beq_false_of_ne (by omega)
            have HR2 : Hid (false = R) := by show _ = _; rw [← HR.out, hi]; simp
            clear HR hi
            go_wp2_with fail
            go_ret
            exact ⟨ret_bool (by rw [← HR2.out]), hB2⟩
        · have h2' : (max == 0) = false := beq_false_of_ne h2
          have HR2 : Hid (false = R) := by show _ = _; rw [← HR.out, h2']; simp
          clear HR
          go_wp2_with fail
          go_ret
          exact ⟨ret_bool (by rw [← HR2.out]), hB2⟩
      · have HR2 : Hid (false = R) := by show _ = _; rw [← HR.out, decide_eq_false h1]; simp
        clear HR
        go_wp2_with fail
        go_ret
        exact ⟨ret_bool (by rw [← HR2.out]), hB2⟩
  · rw [if_neg hk]
    by_cases hk2 : kind = 2
    · subst hk2
      rw [if_pos rfl]
      have hR8 := fun W (h : KeepC w W) => ringRightR_any items hl max lv W (hv.keep h)
      clear hv
      generalize hR : (nameB name && data.isEmpty && ringB max items) = R
      have HR := Lib.hid hR
      clear hR
      go_enter Tryz.func71, Tryz.ntmps71
      go_wp2_with fail
      refine (hN _).mono ?_
      rintro e w2 ⟨rfl, hb2⟩
      have hB2 := hB1.trans (hb2.mono hB1.size)
      have b2 := b1.below hb2 b1.lt
      have c2 : w2.cell? ⟨w.heap.size, 2, none⟩ = _ := b2.cell 2
      have c3 : w2.cell? ⟨w.heap.size, 3, none⟩ = _ := b2.cell 3
      have c4 : w2.cell? ⟨w.heap.size, 4, none⟩ = _ := b2.cell 4
      simp at c2 c3 c4
      clear b1 b2 hb2 hN
      have hR9 := hR8 w2 (KeepC.of_below hB2)
      clear hR8
      generalize nameB name = nb at *
      generalize ringB max items = rb at *
      cases nb with
      | false =>
        go_wp2_with fail
        go_ret
        exact ⟨ret_bool (by rw [← HR.out]; rfl), hB2⟩
      | true =>
        cases data with
        | nil =>
          go_wp2_with fail
          refine hR9.mono ?_
          rintro e w3 ⟨rfl, hb3⟩
          go_wp2_with fail
          go_ret
          exact ⟨ret_bool (by rw [← HR.out]; rfl), hB2.trans (hb3.mono hB2.size)⟩
        | cons c r =>
          have hne : ((c :: r) == ([] : List UInt8)) = false := rfl
          go_wp2_with fail
          go_ret
          exact ⟨ret_bool (by rw [← HR.out]; rfl), hB2⟩
    · rw [if_neg hk2]
      have hk' : (kind == 1) = false := beq_false_of_ne hk
      have hk2' : (kind == 2) = false := beq_false_of_ne hk2
      clear b1
      go_enter Tryz.func71, Tryz.ntmps71
      go_wp2_with fail
      go_ret
      exact ⟨rfl, hB1⟩
end Go.Proofs.YthclfkhakmcnbaaGreatDoor
