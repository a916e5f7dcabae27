/- Joined: EdB; EdC -/
import Derived.Test.YthclfkhakmcnbaaGreatDoorJTE
import Derived.Test.YthclfkhakmcnbaaGreatDoorJTF
import Derived.Test.YthclfkhakmcnbaaGreatDoorJTA
/- Walks of layer 10: Find; the number of an error; end. -/
namespace Go.Proofs.YthclfkhakmcnbaaGreatDoor
open Go.RowKit Go.Shelf
attribute [local go_sem] Oper.semAt_some
theorem idx_eq {l : List ObjD} {n : List UInt8} {k : Nat} (hk : k < l.length) (h : ∀ i (hi : i < l.length), i < k → l[i].name ≠ n) (hn : l[k].name = n) : idxS l n = k := by
  unfold idxS
  rw [List.findIdx_eq hk]
  exact ⟨by simpa using hn, fun j hj => by simpa using h j (by omega) hj⟩
theorem idx_none {l : List ObjD} {n : List UInt8} (h : ∀ i (hi : i < l.length), i < l.length → l[i].name ≠ n) : idxS l n = l.length := by
  unfold idxS
  rw [List.findIdx_eq_length]
  intro x hx
  obtain ⟨i, hi, rfl⟩ := List.mem_iff_getElem.1 hx
  simpa using h i hi hi
set_option maxRecDepth 100000 in
set_option maxHeartbeats 2000000 in
theorem findO1_any (x : ObjD) (lv : Value) (nb : Nat) (n : List UInt8) (w : World) (hq : w.cell? ⟨nb, 0, none⟩ = some (.string ⟨n.toArray⟩)) :
    Calls Tryz.prog 73 #[objV x lv, .pointer (some ⟨nb, 0, none⟩)] w fun e w' => e = .returned (.bool (x.name == n)) ∧ Below w.heap.size w w' := by
  obtain ⟨n1, p1, d1, m1, i1⟩ := x
  have hB := (Below.refl _ w).alloc (Nat.le_refl _) (.cells #[.string ⟨n1.toArray⟩, .int .i64 p1, .string ⟨d1.toArray⟩, .int .i64 m1, lv] 48)
  have b0 := Blk.new w #[.string ⟨n1.toArray⟩, .int .i64 p1, .string ⟨d1.toArray⟩, .int .i64 m1, lv] 48
  have hq0 := (KeepC.of_below hB).2 _ _ _ hq
  have j0 := b0.cell 0
  simp at j0
  clear b0 hq
  go_enter Tryz.func73, Tryz.ntmps73
  go_wp2
  go_ret
  exact ⟨ret_bool (by simp), hB⟩
set_option maxRecDepth 100000 in
set_option maxHeartbeats 4000000 in
theorem indexO_any (l : List ObjD) (hm : l.length ≤ 1000000) (v : Value) (nb : Nat) (n : List UInt8) (w : World) (hq : w.cell? ⟨nb, 0, none⟩ = some (.string ⟨n.toArray⟩)) (hv : ObjsV w v l) :
    Calls Tryz.prog 72 #[v, .func (.func 73) #[] #[.pointer (some ⟨nb, 0, none⟩)]] w fun e w' => e = .returned (.int .i64 (findS l n)) ∧ Below w.heap.size w w' := by
  obtain ⟨a, cap, rfl, hc⟩ := hv.at
  have eg : ∀ args w, (callFunc 73 args).run Tryz.prog w = .ok (.enter 73 args) w := enters_of Tryz.func73 (by kernel_rfl) rfl
  have hin := fun k (hk : k < l.length) (h : ∀ i (hi : i < l.length), i < k → l[i].name ≠ n) (hn : l[k].name = n) => idx_eq hk h hn
  have hout := fun (h : ∀ i (hi : i < l.length), i < l.length → l[i].name ≠ n) => idx_none h
  have hfin : ∀ k, idxS l n = k → findS l n = if k < l.length then (k : Int) else -1 := fun k hk => by unfold findS; rw [hk]
  generalize findS l n = R at *
  clear hv
  go_enter Tryz.func72, Tryz.ntmps72
  go_wp2_with fail
  go_loopg [5, 8] l.length (fun gg _ s8 wr => ∃ kk : Nat, kk ≤ l.length ∧ l.length - kk ≤ gg ∧ s8 = .int .i64 kk ∧ Below w.heap.size w wr ∧ Hid (∀ i (hi : i < l.length), i < kk → l[i].name ≠ n))
  case atStart => exact ⟨0, Nat.zero_le _, by omega, rfl, Below.refl _ _, fun i _ h => absurd h (by omega)⟩
  case round =>
    obtain ⟨kk, hkk, hg, rfl, hB, A⟩ := hrel
    by_cases hlt : kk < l.length
    · have hltz : (kk : Int) < (l.length : Int) := by omega
      obtain ⟨b, o, lv, rfl, -, hlv, k0, k1, k2, k3, k4⟩ := hc kk hlt
      have hBk := KeepC.of_below hB
      replace k0 := hBk.2 _ _ _ k0
      replace k1 := hBk.2 _ _ _ k1
      replace k2 := hBk.2 _ _ _ k2
      replace k3 := hBk.2 _ _ _ k3
      replace k4 := hBk.2 _ _ _ k4
      have HE := findO1_any l[kk] lv nb n wr (hBk.2 _ _ _ hq)
      obtain ⟨a4, c4, rfl, -⟩ := hlv.at
      have HY : Hid (l[kk].name = n → R = (kk : Int)) := fun h => by rw [hfin _ (hin kk hlt A.out h), if_pos hlt]
      have HN : Hid (l[kk].name ≠ n → ∀ i (hi : i < l.length), i < kk + 1 → l[i].name ≠ n) := fun h i hi hik => by
        by_cases e : i = kk
        · subst e; exact h
        · exact A.out i hi (by omega)
      clear hc hlv hBk A hin hout hfin
      generalize l[kk].items.length = il at *
      obtain ⟨y, hy⟩ : ∃ y, l[kk] = y := ⟨_, rfl⟩
      rw [hy] at k0 k1 k2 k3 HE HY HN
      clear hy
      obtain ⟨n1, p1, d1, m1, i1⟩ := y
      dsimp only at *
      by_cases e : n1 = n
      · have hr : R = (kk : Int) := HY.out e
        have hb : (n1 == n) = true := by simpa using e
        rw [hb] at HE
        subst hr
        have HE1 := Lib.hid HE
        clear HE HY HN e hb
        go_wp2_with (go_at_fn 73; refine HE1.out.mono ?_; rintro e w2 ⟨rfl, hb2⟩)
        go_ret
        exact ⟨rfl, hB.trans (hb2.mono hB.size)⟩
      · have hb : (n1 == n) = false := by simpa using e
        rw [hb] at HE
        have HE1 := Lib.hid HE
        have HN1 := Lib.hid (HN.out e)
        clear HE HY HN e hb
        go_wp2_with (go_at_fn 73; refine HE1.out.mono ?_; rintro e w2 ⟨rfl, hb2⟩)
        go_roundg (l.length - (kk + 1))
        case measure => omega
        case rel => exact ⟨kk + 1, by omega, by omega, by go_num, hB.trans (hb2.mono hB.size), HN1.out⟩
    · have hltz : ¬ (kk : Int) < (l.length : Int) := by omega
      have hkl : kk = l.length := by omega
      subst hkl
      have hr : R = -1 := by rw [hfin _ (hout A.out), if_neg (by omega)]
      subst hr
      clear hc hin hout hfin A
      go_wp2_with fail
      go_ret
      exact ⟨rfl, hB⟩
set_option maxRecDepth 100000 in
theorem Find_any (l : List ObjD) (hm : l.length ≤ 1000000) (v : Value) (n : List UInt8) (w : World) (hv : ObjsV w v l) :
    Calls Tryz.prog 31 #[v, .string ⟨n.toArray⟩] w fun e w' => e = .returned (.int .i64 (findS l n)) ∧ Below w.heap.size w w' := by
  have hB := (Below.refl _ w).alloc (Nat.le_refl _) (.cells #[.string ⟨n.toArray⟩] 9)
  have HI := indexO_any l hm v w.heap.size n _ ((Blk.new w #[.string ⟨n.toArray⟩] 9).cell 0) (hv.keep (KeepC.of_below hB))
  obtain ⟨a, cap, rfl, -⟩ := hv.at
  generalize findS l n = R at *
  clear hv
  go_enter Tryz.func31, Tryz.ntmps31
  go_wp2_with fail
  with_reducible refine HI.mono ?_
  rintro e w2 ⟨rfl, hb2⟩
  go_wp2_with fail
  go_ret
  exact ⟨rfl, hB.trans (hb2.mono hB.size)⟩
/-- an error of this layer's: its number -/
def errIs (ev : Value) (e : Int) : Prop := (ev = .nilIface ∧ e = 0) ∨ (e ≠ 0 ∧ ev = wrongV e) ∨ (e ≠ 0 ∧ ∃ nm, ev = .iface 104 (.agg #[.string nm, wrongV e]))
abbrev ErrT (w : World) : Prop := w.cell? ⟨4, 0, none⟩ = some (.iface SpcAs.RT (.agg #[SpcAs.H 69]))
set_option maxRecDepth 100000 in
set_option maxHeartbeats 2000000 in
theorem toldO_any (ev : Value) (x : Int) (hx : x ≠ 0) (he : errIs ev x) (w : World) (hg : ErrT w) :
    Calls Tryz.prog 93 #[ev] w fun e w' => e = .returned (.int .i64 x) ∧ Below w.heap.size w w' := by
  have b0 := Blk.new w #[.int .i64 0] 102
  have hB0 := (Below.refl w.heap.size w).alloc (Nat.le_refl _) (.cells #[.int .i64 0] 102)
  have hgl := World.block_lt_of_cell? w _ hg
  have hg0 := (hB0.cell (p := ⟨4, 0, none⟩) hgl).trans hg
  rcases he with ⟨-, h0⟩ | ⟨-, rfl⟩ | ⟨-, nm, rfl⟩
  · exact absurd h0 hx
  · have HA := Lib.hid (SpcAs.as_hit x w.heap.size _ _ hg0 b0)
    clear hg hg0 hx
    go_enter Tryz.func93, Tryz.ntmps93
    go_wp2_with fail
    with_reducible refine HA.out.mono ?_
    rintro e w1 ⟨rfl, hw1⟩
    have hB1 : Below w.heap.size w w1 := by
      rw [hw1]
      exact ((((hB0.alloc (by simp) _).alloc (by simp; omega) _).alloc (by simp; omega) _).alloc (by simp; omega) _).setCell (p := ⟨w.heap.size, 0, none⟩) (Nat.le_refl _) _
    have hc : w1.cell? ⟨w.heap.size, 0, none⟩ = some (.int .i64 x) := by
      have b4 := (((b0.alloc (.cells #[.pointer (some ⟨w.heap.size, 0, none⟩)] SpcAs.PT)).alloc (.cells #[SpcAs.H SpcAs.PT, .pointer (some ⟨w.heap.size + 1, 0, none⟩), .int .u64 150] SpcAs.VT)).alloc (.cells #[SpcAs.H SpcAs.PT, .pointer (some ⟨w.heap.size + 1, 0, none⟩), .int .u64 150] SpcAs.VT)).alloc (.cells #[.int .i64 x] SpcAs.T)
      have := (b4.set 0 (.int .i64 x)).cell 0
      rw [hw1]
      simpa [SpcAs.W3, SpcAs.W1] using this
    clear hw1 HA
    go_wp2_with fail
    go_ret
    exact ⟨rfl, hB1⟩
  · have HA := Lib.hid (SpcAs.as_within x nm w.heap.size _ _ hg0 b0)
    clear hg hg0 hx
    go_enter Tryz.func93, Tryz.ntmps93
    go_wp2_with fail
    with_reducible refine HA.out.mono ?_
    rintro e w1 ⟨rfl, hw1⟩
    have hB1 : Below w.heap.size w w1 := by
      rw [hw1]
      exact (((((hB0.alloc (by simp) _).alloc (by simp; omega) _).alloc (by simp; omega) _).alloc (by simp; omega) _).alloc (by simp; omega) _).setCell (p := ⟨w.heap.size, 0, none⟩) (Nat.le_refl _) _
    have hc : w1.cell? ⟨w.heap.size, 0, none⟩ = some (.int .i64 x) := by
      have b4 := ((((b0.alloc (.cells #[.pointer (some ⟨w.heap.size, 0, none⟩)] SpcAs.PT)).alloc (.cells #[SpcAs.H SpcAs.PT, .pointer (some ⟨w.heap.size + 1, 0, none⟩), .int .u64 150] SpcAs.VT)).alloc (.cells #[SpcAs.H SpcAs.PT, .pointer (some ⟨w.heap.size + 1, 0, none⟩), .int .u64 150] SpcAs.VT)).alloc (.cells #[.string nm, wrongV x] SpcAs.TW)).alloc (.cells #[.int .i64 x] SpcAs.T)
      have := (b4.set 0 (.int .i64 x)).cell 0
      rw [hw1]
      simpa [SpcAs.W3, SpcAs.W1] using this
    clear hw1 HA
    go_wp2_with fail
    go_ret
    exact ⟨rfl, hB1⟩
set_option maxRecDepth 100000 in
set_option maxHeartbeats 2000000 in
theorem end_any (q : Nat) (v ev : Value) (x : Int) (hev : errIs ev x) (hvs : ∃ a n c, v = .slice a n c) (w : World) (hg : ErrT w) (hq : Blk w q #[v, ev] 71) :
    Calls Tryz.prog 53 #[.pointer (some ⟨q, 0, none⟩)] w fun e w' => e = .returned (.tuple #[if x = 0 then v else .slice none 0 0, .int .i64 x]) ∧ Below w.heap.size w w' := by
  obtain ⟨a, n, c, rfl⟩ := hvs
  have e0 := hq.cell 0
  have e1 := hq.cell 1
  simp at e0 e1
  have HT := fun hx => toldO_any ev x hx hev w hg
  rcases hev with ⟨rfl, rfl⟩ | ⟨hx, rfl⟩ | ⟨hx, nm, rfl⟩
  · clear HT
    go_enter Tryz.func53, Tryz.ntmps53
    go_wp2_with fail
    go_ret2
    exact ⟨rfl, Below.refl _ _⟩
  · have HTx := HT hx
    rw [if_neg hx]
    clear HT
    go_enter Tryz.func53, Tryz.ntmps53
    go_wp2_with fail
    with_reducible refine HTx.mono ?_
    rintro e w1 ⟨rfl, hb1⟩
    go_wp2_with fail
    go_ret2
    exact ⟨rfl, hb1⟩
  · have HTx := HT hx
    rw [if_neg hx]
    clear HT
    go_enter Tryz.func53, Tryz.ntmps53
    go_wp2_with fail
    with_reducible refine HTx.mono ?_
    rintro e w1 ⟨rfl, hb1⟩
    go_wp2_with fail
    go_ret2
    exact ⟨rfl, hb1⟩
end Go.Proofs.YthclfkhakmcnbaaGreatDoor
/- Walks of layer 10: edit. -/
namespace Go.Proofs.YthclfkhakmcnbaaGreatDoor
open Go.RowKit Go.Shelf
attribute [local go_sem] Oper.semAt_some
set_option maxRecDepth 100000 in
theorem must_ok (q : Nat) (v ev : Value) (is : Bool) (why : Int) (w : World) (h : (ev = .nilIface ∧ is = true) ∨ ∃ t u, ev = .iface t u) (hq : Blk w q #[v, ev] 71) :
    Calls Tryz.prog 59 #[.pointer (some ⟨q, 0, none⟩), .bool is, .int .i64 why] w fun e w' => e = .returned (.tuple #[]) ∧ w = w' := by
  have e1 := hq.cell 1
  simp at e1
  rcases h with ⟨rfl, rfl⟩ | ⟨t, u, rfl⟩
  all_goals (go_enter Tryz.func59, Tryz.ntmps59; go_wp2_with fail; go_end0; exact ⟨rfl, rfl⟩)
set_option maxRecDepth 100000 in
theorem must_no (q : Nat) (v : Value) (why : Int) (w : World) (hq : Blk w q #[v, .nilIface] 71) :
    Calls Tryz.prog 59 #[.pointer (some ⟨q, 0, none⟩), .bool false, .int .i64 why] w fun e w' => e = .returned (.tuple #[]) ∧ w.setCell ⟨q, 1, none⟩ (wrongV why) = w' := by
  have e1 := hq.cell 1
  have f1 := hq.frozen 1
  simp at e1
  go_enter Tryz.func59, Tryz.ntmps59
  go_wp2_with fail
  go_end0
  exact ⟨rfl, rfl⟩
abbrev withinV (n : List UInt8) (e : Int) : Value := .iface 104 (.agg #[.string ⟨n.toArray⟩, wrongV e])
theorem find_yes {l : List ObjD} {n : List UInt8} (h : idxS l n < l.length) : findS l n = (idxS l n : Int) := by unfold findS; rw [if_pos h]
theorem find_no {l : List ObjD} {n : List UInt8} (h : ¬ idxS l n < l.length) : findS l n = -1 := by unfold findS; rw [if_neg h]
set_option maxRecDepth 100000 in
set_option maxHeartbeats 4000000 in
/-- nothing is edited -/
theorem edit_no (q : Nat) (v : Value) (l : List ObjD) (hm : l.length ≤ 1000000) (n : List UInt8) (k : Int) (hk : k = 0 ∨ k = 1 ∨ k = 2) (fv : Value) (w : World) (hq : Blk w q #[v, if spaceB l then .nilIface else wrongV 110] 71) (hv : ObjsV w v l) (hE : editE l n k ≠ 0) :
    Calls Tryz.prog 50 #[.pointer (some ⟨q, 0, none⟩), .string ⟨n.toArray⟩, .int .i64 k, fv] w fun e w' => e = .returned (.tuple #[]) ∧ Blk w' q #[v, wrongV (editE l n k)] 71 ∧ w.grownBy w' (some q) := by
  obtain ⟨a, cap, rfl, hc⟩ := hv.at
  have HF := Find_any l hm _ n w hv
  have hql := hq.lt
  have e0 := hq.cell 0
  simp at e0
  have he : editE l n k = if spaceB l then if h : idxS l n < l.length then if k == 0 || l[idxS l n].kind == k then 0 else 103 else 102 else 110 := rfl
  cases hsp : spaceB l with
  | false =>
    rw [hsp] at he hq
    simp only [Bool.false_eq_true, if_false] at he hq
    rw [he]
    generalize findS l n = R at *
    clear hc hv hE he
    go_enter Tryz.func50, Tryz.ntmps50
    go_wp2_with fail
    with_reducible refine HF.mono ?_
    rintro e w1 ⟨rfl, hb1⟩
    have q1 := hq.below hb1 hql
    have e1 := q1.cell 1
    simp at e1
    have g1 := grown_of_below hb1 (some q)
    go_wp2_with fail
    with_reducible refine (must_ok q _ _ _ _ _ (.inr ⟨_, _, rfl⟩) q1).mono ?_
    rintro e w2 ⟨rfl, rfl⟩
    go_wp2_with fail
    exact bodyPost_ret (results_none rfl _ _ _) rfl ⟨rfl, q1, g1⟩
  | true =>
    rw [hsp] at he hq
    simp only [if_true] at he hq
    by_cases hi : idxS l n < l.length
    · rw [dif_pos hi] at he
      rw [find_yes hi] at HF
      have hkk : (k == 0 || l[idxS l n].kind == k) = false := by
        cases hx : (k == 0 || l[idxS l n].kind == k) with
        | false => rfl
        | true => rw [hx] at he; exact absurd he hE
      rw [hkk] at he
      simp only [Bool.false_eq_true, if_false] at he
      rw [he]
      obtain ⟨b, o, lv, rfl, hbl, hlv, k0, k1, k2, k3, k4⟩ := hc _ hi
      simp only [Bool.or_eq_false_iff] at hkk
      obtain ⟨hkk1, hkk2⟩ := hkk
      have hge : (0 : Int) ≤ (idxS l n : Int) := by omega
      have hltz : ((idxS l n : Nat) : Int) < (l.length : Int) := by omega
      generalize l[idxS l n].kind = kd at *
      generalize idxS l n = ix at *
      clear hc hv hE he hlv k0 k2 k3 k4 hi
      go_enter Tryz.func50, Tryz.ntmps50
      go_wp2_with fail
      with_reducible refine HF.mono ?_
      rintro e w1 ⟨rfl, hb1⟩
      have q1 := hq.below hb1 hql
      have e1 := q1.cell 1
      have e01 := q1.cell 0
      simp at e1 e01
      have k11 := (KeepC.of_below hb1).2 _ _ _ k1
      have g1 := grown_of_below hb1 (some q)
      go_wp2_with fail
      with_reducible refine (must_ok q _ _ _ _ _ (.inl ⟨rfl, by simp⟩) q1).mono ?_
      rintro e w2 ⟨rfl, rfl⟩
      go_wp2_with fail
      with_reducible refine (must_no q _ _ _ q1).mono ?_
      rintro e w3 ⟨rfl, rfl⟩
      have q3 := q1.set 1 (wrongV 103)
      simp at q3
      have e3 := q3.cell 1
      simp at e3
      go_wp2_with fail
      exact bodyPost_ret (results_none rfl _ _ _) rfl ⟨rfl, q3, grownBy_t g1 (grownBy_setCellB w1 q 1 _)⟩
    · rw [dif_neg hi] at he
      rw [find_no hi] at HF
      rw [he]
      clear hc hv hE he hi
      go_enter Tryz.func50, Tryz.ntmps50
      go_wp2_with fail
      with_reducible refine HF.mono ?_
      rintro e w1 ⟨rfl, hb1⟩
      have q1 := hq.below hb1 hql
      have g1 := grown_of_below hb1 (some q)
      go_wp2_with fail
      with_reducible refine (must_no q _ _ _ q1).mono ?_
      rintro e w3 ⟨rfl, rfl⟩
      have q3 := q1.set 1 (wrongV 102)
      simp at q3
      have e3 := q3.cell 1
      simp at e3
      go_wp2_with fail
      exact bodyPost_ret (results_none rfl _ _ _) rfl ⟨rfl, q3, grownBy_t g1 (grownBy_setCellB w1 q 1 _)⟩
set_option maxRecDepth 100000 in
set_option maxHeartbeats 4000000 in
/-- what is edited is there -/
theorem edit_do (q : Nat) (v : Value) (l : List ObjD) (hm : l.length ≤ 1000000) (n : List UInt8) (k : Int) (hk : k = 0 ∨ k = 1 ∨ k = 2) (gf : Nat) (caps : Array Value) (R : Int → World → Prop) (w : World) (hq : Blk w q #[v, if spaceB l then .nilIface else wrongV 110] 71) (hv : ObjsV w v l) (hE : editE l n k = 0)
    (eg : ∀ args w, (callFunc gf args).run Tryz.prog w = .ok (.enter gf args) w)
    (hdo : ∀ W, Below w.heap.size w W → Calls Tryz.prog gf (#[.int .i64 (idxS l n)] ++ caps) W fun e W' => ∃ why, e = .returned (.int .i64 why) ∧ R why W' ∧ ∃ u, Blk W' q #[u, .nilIface] 71) :
    Calls Tryz.prog 50 #[.pointer (some ⟨q, 0, none⟩), .string ⟨n.toArray⟩, .int .i64 k, .func (.func gf) #[] caps] w fun e w' => e = .returned (.tuple #[]) ∧ ∃ why W, R why W ∧ (∃ u, Blk W q #[u, .nilIface] 71) ∧ (if why = 0 then W else W.setCell ⟨q, 1, none⟩ (withinV n why)) = w' := by
  obtain ⟨a, cap, rfl, hc⟩ := hv.at
  have HF := Find_any l hm _ n w hv
  have hql := hq.lt
  have e0 := hq.cell 0
  simp at e0
  obtain ⟨hsp, hi, hkk⟩ := edit_zero.1 hE
  rw [hsp] at hq
  simp only [if_true] at hq
  rw [find_yes hi] at HF
  rw [objS_at hi] at hkk
  obtain ⟨b, o, lv, rfl, hbl, hlv, k0, k1, k2, k3, k4⟩ := hc _ hi
  have hge : (0 : Int) ≤ (idxS l n : Int) := by omega
  have hltz : ((idxS l n : Nat) : Int) < (l.length : Int) := by omega
  have HD := Lib.hid hdo
  generalize l[idxS l n].kind = kd at *
  generalize idxS l n = ix at *
  clear hc hv hE hlv k0 k2 k3 k4 hi hdo
  go_enter Tryz.func50, Tryz.ntmps50
  go_wp2_with fail
  with_reducible refine HF.mono ?_
  rintro e w1 ⟨rfl, hb1⟩
  have q1 := hq.below hb1 hql
  have e1 := q1.cell 1
  have e01 := q1.cell 0
  simp at e1 e01
  have k11 := (KeepC.of_below hb1).2 _ _ _ k1
  go_wp2_with fail
  with_reducible refine (must_ok q _ _ _ _ _ (.inl ⟨rfl, by simp⟩) q1).mono ?_
  rintro e w2 ⟨rfl, rfl⟩
  have HDx := Lib.hid (HD.out _ hb1)
  clear HD
  have tail : True := trivial
  by_cases h0 : k = 0
  · subst h0
    go_wp2_with fail
    with_reducible refine (must_ok q _ _ _ _ _ (.inl ⟨rfl, by simp⟩) q1).mono ?_
    rintro e w2 ⟨rfl, rfl⟩
    go_wp2_with (go_at_fn gf; refine HDx.out.mono ?_; rintro e w3 ⟨why, rfl, hR, u, q3⟩; refine Hid.out ?_)
    unfold Hid
    have f3 := q3.frozen 1
    have e3 := q3.cell 1
    simp at e3
    by_cases hw : why = 0
    · subst hw
      go_wp2_with fail
      go_end0
      exact ⟨rfl, _, _, hR, ⟨u, q3⟩, rfl⟩
    · have hwb : (why != 0) = true := by simpa using hw
      go_wp2_with fail
      go_end0
      exact ⟨rfl, _, _, hR, ⟨u, q3⟩, by rw [if_neg hw]⟩
  · have h0b : (k == 0) = false := by simpa using h0
    have hkd : kd = k := by rw [h0b] at hkk; simpa using hkk
    subst hkd
    have hkb : (kd == kd) = true := by simp
    go_wp2_with fail
    with_reducible refine (must_ok q _ _ _ _ _ (.inl ⟨rfl, by simp⟩) q1).mono ?_
    rintro e w2 ⟨rfl, rfl⟩
    go_wp2_with (go_at_fn gf; refine HDx.out.mono ?_; rintro e w3 ⟨why, rfl, hR, u, q3⟩; refine Hid.out ?_)
    unfold Hid
    have f3 := q3.frozen 1
    have e3 := q3.cell 1
    simp at e3
    by_cases hw : why = 0
    · subst hw
      go_wp2_with fail
      go_end0
      exact ⟨rfl, _, _, hR, ⟨u, q3⟩, rfl⟩
    · have hwb : (why != 0) = true := by simpa using hw
      go_wp2_with fail
      go_end0
      exact ⟨rfl, _, _, hR, ⟨u, q3⟩, by rw [if_neg hw]⟩
end Go.Proofs.YthclfkhakmcnbaaGreatDoor
