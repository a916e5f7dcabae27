/- Walks of layer 5: digits that begin a number's, a number. -/
import Derived.Test.YtgobdhedeodpiaaDoorLabNum
import Derived.Test.YtgobdhedeodpiaaDoorLabR
import Derived.Lib.OthersKept
namespace Go.Proofs.YtgobdhedeodpiaaDoor
open Go.RowKit Go.Shelf
attribute [local go_sem] Oper.semAt_some
set_option maxHeartbeats 1000000 in
theorem begins_any (p : List UInt8) (lo hi : Nat) (h2 : hi ≤ 63) (w : World) :
    Calls Tryd.prog 38 #[.string ⟨p.toArray⟩, .int .i64 lo, .int .i64 hi] w fun e w' => e = .returned (.bool (begI lo hi p)) ∧ Below w.heap.size w w' := by
  go_enter Tryd.func38, Tryd.ntmps38
  go_wp2
  go_loopw [7] (fun i wr => ∃ k : Nat, lo ≤ k ∧ i = .int .i64 k ∧ Hid (begI lo hi p = begI k hi p) ∧ (k ≤ 64 ∨ k = lo) ∧ Below w.heap.size w wr) (fun i _ => hi + 1 - (intOf i).toNat)
  case atStart => exact ⟨lo, Nat.le_refl _, rfl, rfl, .inr rfl, Below.refl _ _⟩
  case round =>
    obtain ⟨k, hk, rfl, hb, hk64, hbr⟩ := hrel
    by_cases hlt : k ≤ hi
    · have hD := Digits_any (k : Int) wr (by omega)
      have hP : ∀ W, Calls Tryd.prog 48 #[.string ⟨(digL k).toArray⟩, .string ⟨p.toArray⟩] W fun e w' => e = .returned (.bool (p.isPrefixOf (digL k))) ∧ W = w' :=
        fun W => (Tryd.strings_HasPrefix ⟨(digL k).toArray⟩ ⟨p.toArray⟩ W).mono fun _ _ h => ⟨h.1, h.2.symm⟩
      have HB : Hid (begI lo hi p = (p.isPrefixOf (digL k) || begI (k + 1) hi p)) := by show _ = _; rw [hb.out, begI_step k hi p hlt]
      clear hb
      generalize digL k = DK at *
      generalize p.isPrefixOf DK = PB at *
      go_wp2_with fail
      refine hD.mono ?_
      rintro e w1 ⟨rfl, hb1⟩
      clear hD
      have hbr1 := hbr.trans (hb1.mono hbr.size)
      cases PB with
      | true =>
        go_wp2_with (go_at_call 48; refine (hP _).mono ?_; rintro e w' ⟨rfl, rfl⟩)
        go_ret
        exact ⟨by rw [HB.out]; rfl, hbr1⟩
      | false =>
        go_wp2_with (go_at_call 48; refine (hP _).mono ?_; rintro e w' ⟨rfl, rfl⟩)
        go_roundw
        case rel => exact ⟨k + 1, by omega, by go_num, by show _ = _; rw [HB.out]; rfl, by omega, hbr1⟩
        case measure => simp [intOf]; omega
    · have HB : Hid (begI lo hi p = false) := by show _ = _; rw [hb.out, begI_end k hi p (by omega)]
      clear hb
      go_wp2_with fail
      go_ret
      exact ⟨by rw [HB.out]; rfl, hbr⟩
/-- where a number's digits end -/
def NumAt (lo hi : Nat) (r : List UInt8) (pos : Nat) (m : Int) : Prop := pos ≤ r.length ∧ (m = -1 ∧ pos = 0 ∨ 0 ≤ m ∧ m ≤ 63 ∧ 0 < pos) ∧ pfx m = r.take pos ∧ numS lo hi (-1) r = numS lo hi m (r.drop pos)
def nV (m : Int) : Int := if m < 0 then 0 else m
theorem numAt_stop {lo hi : Nat} {r : List UInt8} {pos : Nat} {m : Int} (h : NumAt lo hi r pos m) (hs : ∀ (hp : pos < r.length), goesB lo hi m r[pos] = false) : numS lo hi (-1) r = (m, r.drop pos) := by
  rw [h.2.2.2]
  by_cases hp : pos < r.length
  · rw [drop_cons r pos hp, numS, hs hp]; rfl
  · rw [List.drop_of_length_le (by omega)]; rfl
theorem numAt_next {lo hi : Nat} (hhi : hi ≤ 63) {r : List UInt8} {pos : Nat} {m : Int} (h : NumAt lo hi r pos m) (hp : pos < r.length) (hs : goesB lo hi m r[pos] = true) : NumAt lo hi r (pos + 1) (nxt m r[pos]) ∧ nV (nxt m r[pos]) = nV m * 10 + dvl r[pos] := by
  obtain ⟨h1, h2, h3, h4⟩ := h
  obtain ⟨g1, g2, g3⟩ := pfx_next lo hi hhi m (by omega) r[pos] hs
  refine ⟨⟨by omega, .inr ⟨g2, g3, by omega⟩, ?_, ?_⟩, ?_⟩
  · rw [g1, h3, List.take_succ_eq_append_getElem hp]
  · rw [h4, drop_cons r pos hp, numS, if_pos hs]
  · by_cases hm : m < 0
    · rw [nV, if_neg (by omega), nV, if_pos hm, nxt, if_pos hm]; omega
    · rw [nV, if_neg (by omega), nV, if_neg hm, nxt, if_neg hm]; omega
theorem nV_le {lo hi : Nat} {r : List UInt8} {pos : Nat} {m : Int} (h : NumAt lo hi r pos m) : 0 ≤ nV m ∧ nV m ≤ 63 := by
  have := h.2.1
  unfold nV; split <;> omega
theorem not_dg {c : UInt8} (h : (c.toNat : Int) < 48 ∨ 57 < (c.toNat : Int)) (lo hi m : Int) : goesB lo hi m c = false := not_goes _ _ _ _ (by
  cases hd : dgB c with
  | false => rfl
  | true => simp only [dgB, Bool.and_eq_true, decide_eq_true_eq] at hd; omega)
set_option maxRecDepth 100000 in
set_option maxHeartbeats 4000000 in
theorem number_any (lo hi : Nat) (h1 : lo ≤ hi) (h2 : hi ≤ 63) (b n : Nat) (r : List UInt8) (bad : Bool) (w : World) (h : RdL w b n (r, bad)) (hl : r.length ≤ n) (hn : n ≤ 1000000) :
    Calls Tryd.prog 25 #[.pointer (some ⟨b, 0, none⟩), .int .i64 lo, .int .i64 hi] w fun e w' => e = .returned (.int .i64 (lift 0 (pnum lo hi) (r, bad)).1) ∧ RdL w' b n (lift 0 (pnum lo hi) (r, bad)).2 ∧ w.grownBy w' (some b) := by
  obtain ⟨c0, c1, c2⟩ := h.cells
  have hb := Blk.lt h
  have H := Lib.hid h
  clear h
  go_enter Tryd.func25, Tryd.ntmps25
  go_upto_block 0 with (fail)
  go_cut [7, 8] (fun x7 x8 wx => ∃ (pos : Nat) (m : Int), Hid (NumAt lo hi r pos m ∧ numS lo hi (-1) r = (m, r.drop pos)) ∧ x7 = .int .i64 pos ∧ x8 = .int .i64 (nV m) ∧ Below w.heap.size w wx)
  case first =>
    go_wp2_with fail
    go_loopw [7, 8] (fun x7 x8 wx => ∃ (pos : Nat) (m : Int), Hid (NumAt lo hi r pos m) ∧ x7 = .int .i64 pos ∧ x8 = .int .i64 (nV m) ∧ 0 ≤ nV m ∧ nV m ≤ 63 ∧ wx.heap[w.heap.size]? = some (.stringIter ⟨r.toArray⟩ pos) ∧ Below w.heap.size w wx) (fun x7 _ _ => r.length + 1 - (intOf x7).toNat)
    case atStart => exact ⟨0, -1, ⟨by omega, .inl ⟨rfl, rfl⟩, rfl, rfl⟩, rfl, rfl, by decide, by decide, World.iter_heap w _ 0, (Below.refl _ w).alloc (Nat.le_refl _) _⟩
    case round =>
      obtain ⟨pos, m, hnum, rfl, rfl, hn0, hn63, hit, hbw⟩ := hrel
      by_cases hlt : pos < r.length
      · have hs : pos < (ByteArray.mk r.toArray).size := by rw [ba_size]; exact hlt
        have hnx : ∀ ty, (Instr.next (.pointer (some ⟨w.heap.size, 0, none⟩)) true ty).run Tryd.prog wr = _ := fun ty => Lib.run_next_any_at wr w.heap.size ⟨r.toArray⟩ pos ty hit hs
        by_cases ha : r[pos].toNat < 128
        · have hdec := decode_ascii ⟨r.toArray⟩ pos hs (by rw [ba_get]; exact ha)
          rw [ba_get] at hdec
          rw [hdec] at hnx
          clear hdec ha
          have hit2 := Lib.iterAt_heap wr w.heap.size ⟨r.toArray⟩ pos (pos + 1) hit
          have hbw2 := Lib.below_iterAt hbw (k := w.heap.size) (Nat.le_refl _) ⟨r.toArray⟩ (pos + 1)
          have HC := fun (hd : dgB r[pos] = true) => Lib.hid (beg_goes lo hi h1 h2 m (by have := hnum.out.2.1; omega) r[pos] hd)
          rw [hnum.out.2.2.1, ← List.take_succ_eq_append_getElem hlt] at HC
          have HS : Hid (goesB lo hi m r[pos] = false → NumAt lo hi r pos m ∧ numS lo hi (-1) r = (m, r.drop pos)) := fun hg => ⟨hnum.out, numAt_stop hnum.out fun _ => hg⟩
          have HX : Hid (goesB lo hi m r[pos] = true → NumAt lo hi r (pos + 1) (nxt m r[pos]) ∧ nV (nxt m r[pos]) = nV m * 10 + dvl r[pos]) := numAt_next h2 hnum.out hlt
          have HNG : Hid ((r[pos].toNat : Int) < 48 ∨ 57 < (r[pos].toNat : Int) → goesB lo hi m r[pos] = false) := fun h => not_dg h _ _ _
          have hlt0 : (pos : Int) < r.length := by omega
          have hn' : (r.length : Int) ≤ 1000000 := by omega
          clear hnum hit
          generalize r[pos] = c at *
          obtain ⟨W, hWd⟩ : ∃ W, wr.iterAt w.heap.size ⟨r.toArray⟩ (pos + 1) = W := ⟨_, rfl⟩
          rw [hWd] at hnx hit2 hbw2
          clear hWd
          by_cases k1 : (c.toNat : Int) < 48
          · go_wp2_with fail
            go_meet
            exact ⟨pos, m, HS.out (HNG.out (.inl k1)), rfl, rfl, hbw2⟩
          · by_cases k2 : 57 < (c.toNat : Int)
            · go_wp2_with fail
              go_meet
              exact ⟨pos, m, HS.out (HNG.out (.inr k2)), rfl, rfl, hbw2⟩
            · have hdc : dgB c = true := by simp only [dgB, Bool.and_eq_true, decide_eq_true_eq]; omega
              have HB := begins_any (r.take (pos + 1)) lo hi h2 W
              rw [(HC hdc).out] at HB
              clear HC HNG hdc
              have cw0 : W.cell? ⟨b, 0, none⟩ = some (.string ⟨r.toArray⟩) := (hbw2.cell (p := ⟨b, 0, none⟩) hb).trans c0
              cases hg : goesB lo hi m c with
              | false =>
                have HS' := Lib.hid (HS.out hg)
                rw [hg] at HB
                clear HS HX hg
                go_wp2_with (go_at_call 38; (refine HB.mono ?_); rintro e w2 ⟨rfl, hb2⟩)
                go_meet
                exact ⟨pos, m, HS'.out, rfl, rfl, hbw2.trans (hb2.mono hbw2.size)⟩
              | true =>
                have HX' := Lib.hid (HX.out hg)
                rw [hg] at HB
                have hv := (HX.out hg).2
                have hv2 := nV_le (HX.out hg).1
                have hv3 : nV (nxt m c) = nV m * 10 + (c.toNat - 48) := hv
                have HV := Lib.hid hv3
                have hv4 : 0 ≤ nV m * 10 + ((c.toNat : Int) - 48) ∧ nV m * 10 + ((c.toNat : Int) - 48) ≤ 63 := by omega
                clear HS HX hg hv hv3 hv2
                go_wp2_with (go_at_call 38; (refine HB.mono ?_); rintro e w2 ⟨rfl, hb2⟩)
                go_roundw
                case rel => exact ⟨pos + 1, nxt m c, HX'.out.1, by go_num, by rw [HV.out], by rw [HV.out]; omega, by rw [HV.out]; omega, (hb2.block _ (Array.getElem?_eq_some_iff.1 hit2).1).trans hit2, hbw2.trans (hb2.mono hbw2.size)⟩
                case measure => simp [intOf]; omega
        · have hdh := decode_high ⟨r.toArray⟩ pos hs (by rw [ba_get]; omega)
          have HS : Hid (NumAt lo hi r pos m ∧ numS lo hi (-1) r = (m, r.drop pos)) := ⟨hnum.out, numAt_stop hnum.out fun _ => not_dg (.inr (by omega)) _ _ _⟩
          have hbw2 := fun k => Lib.below_iterAt hbw (k := w.heap.size) (Nat.le_refl _) ⟨r.toArray⟩ (pos + k)
          generalize Utf8.decode ⟨r.toArray⟩ pos = d at hnx hdh
          obtain ⟨d1, d2⟩ := d
          have hd1 : (57 : Int) < (d1 : Int) := by have := hdh.1; simp at this; omega
          have hd0 : ¬ (d1 : Int) < 48 := by omega
          clear hdh hnum
          simp only at hnx
          go_wp2_with fail
          go_meet
          exact ⟨pos, m, HS.out, rfl, rfl, hbw2 _⟩
      · have hnx : ∀ ty, (Instr.next (.pointer (some ⟨w.heap.size, 0, none⟩)) true ty).run Tryd.prog wr = _ := fun ty => Lib.run_next_end_at wr w.heap.size ⟨r.toArray⟩ pos ty hit (by rw [ba_size]; exact hlt)
        have HS : Hid (NumAt lo hi r pos m ∧ numS lo hi (-1) r = (m, r.drop pos)) := ⟨hnum.out, numAt_stop hnum.out fun hp => absurd hp hlt⟩
        clear hnum
        go_wp2_with fail
        go_meet
        exact ⟨pos, m, HS.out, rfl, rfl, hbw⟩
  case rest =>
    obtain ⟨pos, m, HN, rfl, rfl, hbw⟩ := hcut
    have hw : RdL wc b n (r, bad) := Blk.below H.out hbw hb
    obtain ⟨d0, d1, d2⟩ := hw.cells
    simp only at d0
    have f0 := Blk.frozen hw 0
    have hI : Tryd.prog.isIface 51 = true := by kernel_rfl
    have hgw := grown_of_below hbw (some b)
    clear c0 c1 c2 H hbw
    have HW := Lib.hid hw
    clear hw
    cases bad with
    | true =>
      simp only [errL, if_true] at d2
      have hL : lift 0 (pnum lo hi) (r, true) = (0, (r, true)) := rfl
      have HL := Lib.hid hL
      clear hL
      go_wp2_with fail
      go_ret
      exact ⟨by rw [HL.out]; rfl, by rw [HL.out]; exact HW.out, hgw⟩
    | false =>
      simp only [errL, Bool.false_eq_true, if_false] at d2
      have hpos := HN.out.1.1
      have hset : RdL (wc.setCell ⟨b, 0, none⟩ (.string ⟨(r.drop pos).toArray⟩)) b n (r.drop pos, false) := by
        have := Blk.set 0 (.string ⟨(r.drop pos).toArray⟩) HW.out
        simpa [RdL, errL] using this
      have hg2 := grownBy_t hgw (grownBy_setCellB wc b 0 (.string ⟨(r.drop pos).toArray⟩))
      have hdl : (r.drop pos).length = r.length - pos := List.length_drop
      have hlp : (pos : Int) ≤ r.length := by omega
      have hTk : List.take (r.length - pos) (List.drop pos r) = List.drop pos r := by rw [List.take_of_length_le (by omega)]
      have HTk := Lib.hid hTk
      clear hTk
      have hcase : (m < lo ∧ (pos = 0 ∨ 0 < pos ∧ nV m < lo) ∧ lift 0 (pnum lo hi) (r, false) = (0, (r.drop pos, true))) ∨ (0 < pos ∧ (lo : Int) ≤ nV m ∧ lift 0 (pnum lo hi) (r, false) = (nV m, (r.drop pos, false))) := by
        have hp : numS lo hi (-1) r = (m, r.drop pos) := HN.out.2
        have hm := HN.out.1.2.1
        by_cases hlo : m < lo
        · refine .inl ⟨hlo, ?_, ?_⟩
          · unfold nV; split <;> omega
          · simp [lift, pnum, hp, hlo]
        · refine .inr ⟨by omega, by unfold nV; split <;> omega, ?_⟩
          have : nV m = m := by unfold nV; rw [if_neg (by omega)]
          simp [lift, pnum, hp, hlo, this]
      clear HN
      obtain ⟨R, hR⟩ : ∃ R, r.drop pos = R := ⟨_, rfl⟩
      have hTk : List.take (r.length - pos) (List.drop pos r) = R := HTk.out.trans hR
      have HR0 := Lib.hid hR
      clear HTk
      rw [hR] at hset hg2 hdl hcase
      clear hR
      generalize nV m = v at *
      have HS := Lib.hid hset
      rcases hcase with ⟨_, hc, hL⟩ | ⟨hc1, hc2, hL⟩
      · have HL := Lib.hid hL
        have hF := Lib.hid (fail_any b n R false _ hset (by omega) hn)
        clear hset hL
        rcases hc with rfl | ⟨hc1, hc2⟩
        · obtain rfl : r = R := HR0.out
          clear hTk hdl
          go_wp2_with fail
          refine hF.out.mono ?_
          rintro e w2 ⟨rfl, hr2, hgf⟩
          have HR := Lib.hid hr2
          clear hr2 hF
          go_wp2_with fail
          go_ret
          exact ⟨by rw [HL.out]; rfl, by rw [HL.out]; exact HR.out, grownBy_t hg2 hgf⟩
        · have hne : ((pos : Int) == 0) = false := by simp; omega
          go_wp2_with fail
          refine hF.out.mono ?_
          rintro e w2 ⟨rfl, hr2, hgf⟩
          have HR := Lib.hid hr2
          clear hr2 hF
          go_wp2_with fail
          go_ret
          exact ⟨by rw [HL.out]; rfl, by rw [HL.out]; exact HR.out, grownBy_t hg2 hgf⟩
      · have HL := Lib.hid hL
        clear hset hL
        have hne : ((pos : Int) == 0) = false := by simp; omega
        go_wp2_with fail
        go_ret
        exact ⟨by rw [HL.out]; rfl, by rw [HL.out]; exact HS.out, hg2⟩
theorem number_i (lo hi : Int) (h0 : 0 ≤ lo) (h1 : lo ≤ hi) (h2 : hi ≤ 63) (b n : Nat) (r : List UInt8) (bad : Bool) (w : World) (h : RdL w b n (r, bad)) (hl : r.length ≤ n) (hn : n ≤ 1000000) :
    Calls Tryd.prog 25 #[.pointer (some ⟨b, 0, none⟩), .int .i64 lo, .int .i64 hi] w fun e w' => e = .returned (.int .i64 (lift 0 (pnum lo hi) (r, bad)).1) ∧ RdL w' b n (lift 0 (pnum lo hi) (r, bad)).2 ∧ w.grownBy w' (some b) := by
  obtain ⟨l, rfl⟩ := Int.eq_ofNat_of_zero_le h0
  obtain ⟨k, rfl⟩ := Int.eq_ofNat_of_zero_le (show 0 ≤ hi by omega)
  exact number_any l k (by omega) (by omega) b n r bad w h hl hn
end Go.Proofs.YtgobdhedeodpiaaDoor
