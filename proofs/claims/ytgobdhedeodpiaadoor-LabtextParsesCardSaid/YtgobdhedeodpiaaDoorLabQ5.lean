/- Walks of the document's answer for layer 5: a number. -/
import Derived.Test.YtgobdhedeodpiaaDoorLabQ4
namespace Go.Proofs.YtgobdhedeodpiaaDoor
open Go.RowKit Go.Shelf
attribute [local go_sem] Oper.semAt_some
theorem canR_i (n lo hi : Int) (h0 : 0 ≤ lo) (h1 : lo ≤ hi) (h2 : hi ≤ 63) (hn0 : 0 ≤ n) (hn : n ≤ 1000) (w : World) :
    Calls Tryd.prog 41 #[.int .i64 n, .int .i64 lo, .int .i64 hi] w fun e w' => e = .returned (.bool (canP lo hi n)) ∧ w = w' := by
  obtain ⟨a, rfl⟩ := Int.eq_ofNat_of_zero_le h0
  obtain ⟨c, rfl⟩ := Int.eq_ofNat_of_zero_le (show 0 ≤ hi by omega)
  obtain ⟨d, rfl⟩ := Int.eq_ofNat_of_zero_le hn0
  exact canR_any d a c (by omega) (by omega) (by omega) w
def NumPost (b : Nat) (s : List UInt8) (x : Int × (List UInt8 × Bool)) (w : World) (e : Ending) (w' : World) : Prop := ∃ v : Int, -1 ≤ v ∧ v ≤ 63 ∧ e = .returned (.int .i64 v) ∧ RdQ w' b s x.2 ∧ (x.2.2 = false → v = x.1) ∧ w.grownBy w' (some b)
/-- where a number's digits end, for the document's answer -/
def NumQ (lo hi : Int) (r0 s : List UInt8) (k : Nat) (m : Int) : Prop := (m = -1 ∨ 0 ≤ m ∧ m ≤ 63) ∧ numS lo hi (-1) r0 = numS lo hi m (s.drop k)
theorem numQ_stop {lo hi : Int} {r0 s : List UInt8} {k : Nat} {m : Int} (h : NumQ lo hi r0 s k m) (hs : ∀ (hp : k < s.length), goesB lo hi m s[k] = false) : numS lo hi (-1) r0 = (m, s.drop k) := by
  rw [h.2]
  by_cases hp : k < s.length
  · rw [drop_cons s k hp, numS, hs hp]; rfl
  · rw [List.drop_of_length_le (by omega)]; rfl
theorem numQ_next {lo hi : Int} (hhi : hi ≤ 63) {r0 s : List UInt8} {k : Nat} {m : Int} (h : NumQ lo hi r0 s k m) (hp : k < s.length) (hg : goesB lo hi m s[k] = true) : NumQ lo hi r0 s (k + 1) (nxt m s[k]) := by
  obtain ⟨h1, h2⟩ := h
  obtain ⟨g1, g2, g3⟩ := goesB_to hg
  have hd := dvl_le g1
  have hc := canP_to g3
  refine ⟨.inr ?_, ?_⟩
  · unfold nxt at hc ⊢
    split at hc <;> rename_i hm
    · rw [if_pos hm]; omega
    · rw [if_neg hm]; omega
  · rw [h2, drop_cons s k hp, numS, if_pos hg]
theorem not_dgQ {c : UInt8} (h : (c.toNat : Int) < 48 ∨ 57 < (c.toNat : Int)) (lo hi m : Int) : goesB lo hi m c = false := not_goes _ _ _ _ (by
  cases hd : dgB c with
  | false => rfl
  | true => simp only [dgB, Bool.and_eq_true, decide_eq_true_eq] at hd; omega)
set_option maxRecDepth 100000 in
set_option maxHeartbeats 4000000 in
theorem numberR_any (lo hi : Int) (h0 : 0 ≤ lo) (h1 : lo ≤ hi) (h2 : hi ≤ 63) (b : Nat) (s r : List UInt8) (bad : Bool) (w : World) (h : RdQ w b s (r, bad)) (hn : s.length ≤ 1000000) :
    Calls Tryd.prog 30 #[.pointer (some ⟨b, 0, none⟩), .int .i64 lo, .int .i64 hi] w (NumPost b s (lift 0 (pnum lo hi) (r, bad)) w) := by
  obtain ⟨k0, hk0, hr, hb⟩ := h
  simp only at hr
  cases bad with
  | true =>
    have c0 := hb.cell 0
    have c1 := hb.cell 1
    have c2 := hb.cell 2
    have f2 := hb.frozen 2
    simp at c0 c1 c2
    have hL : lift 0 (pnum lo hi) (r, true) = (0, (r, true)) := rfl
    rw [hL]
    have HB := Lib.hid (fun nn => Blk.set 2 (.bool true) (hb.drewN nn))
    have HR := Lib.hid hr
    clear hb hr hL
    go_enter Tryd.func30, Tryd.ntmps30
    go_wp2_with fail
    refine wp_loop_rounds 1 ?_
    rw [rounds_succ]
    go_wp2_with fail
    go_quiet (fail)
    go_wp2_with fail
    go_ret
    exact ⟨-1, by omega, by omega, rfl, ⟨k0, hk0, HR.out, by simpa using HB.out _⟩, (fun h => by cases h), grownBy_t (grown_drewNr w _ _) (grownBy_setCellB _ b 2 _)⟩
  | false =>
    go_enter Tryd.func30, Tryd.ntmps30
    go_upto_block 0 with (fail)
    go_cut [7] (fun x7 wx => ∃ (k : Nat) (m : Int), Hid (numS lo hi (-1) r = (m, s.drop k)) ∧ -1 ≤ m ∧ m ≤ 63 ∧ k ≤ s.length ∧ x7 = .int .i64 m ∧ Blk wx b #[.string ⟨s.toArray⟩, .int .i64 k, .bool false] 61 ∧ w.grownBy wx (some b))
    case first =>
      go_wp2_with fail
      go_loopw [7] (fun x7 wx => ∃ (k : Nat) (m : Int), Hid (NumQ lo hi r s k m) ∧ -1 ≤ m ∧ m ≤ 63 ∧ k ≤ s.length ∧ x7 = .int .i64 m ∧ Blk wx b #[.string ⟨s.toArray⟩, .int .i64 k, .bool false] 61 ∧ w.grownBy wx (some b)) (fun _ wx => s.length - (intOf ((wx.cell? ⟨b, 1, none⟩).getD undef)).toNat)
      case atStart => exact ⟨k0, -1, ⟨.inl rfl, by rw [hr]⟩, by omega, by omega, hk0, rfl, hb, .refl _ _⟩
      case round =>
        obtain ⟨k, m, hq, hm1, hm2, hk, rfl, hbk, hgr⟩ := hrel
        clear hb hr hk0
        have c0 := hbk.cell 0
        have c1 := hbk.cell 1
        have c2 := hbk.cell 2
        have f1 := hbk.frozen 1
        simp at c0 c1 c2
        by_cases hlt : k < s.length
        · have hlt1 : decide (k < s.length) = true := by simpa using hlt
          have hlt2 : (k : Int) < s.length := by omega
          have hlt0 : (0 : Int) ≤ k := by omega
          have HST : Hid (goesB lo hi m s[k] = false → numS lo hi (-1) r = (m, s.drop k)) := fun hg => numQ_stop hq.out fun _ => hg
          have HNX : Hid (goesB lo hi m s[k] = true → NumQ lo hi r s (k + 1) (nxt m s[k])) := numQ_next h2 hq.out hlt
          have HNG : Hid ((s[k].toNat : Int) < 48 ∨ 57 < (s[k].toNat : Int) → goesB lo hi m s[k] = false) := fun h => not_dgQ h _ _ _
          have HGO : Hid (dgB s[k] = true → goesB lo hi m s[k] = (!(m == 0) && canP lo hi (nxt m s[k]))) := fun h => by simp [goesB, h]
          have HB := Lib.hid hbk
          clear hq hbk
          obtain ⟨c, hc⟩ : ∃ c, s[k] = c := ⟨_, rfl⟩
          rw [hc] at HST HNX HNG HGO
          by_cases k1 : (48 : Int) ≤ c.toNat
          · have k1' : decide ((48 : Int) ≤ c.toNat) = true := by simpa using k1
            by_cases k2 : (c.toNat : Int) ≤ 57
            · have k2' : decide ((c.toNat : Int) ≤ 57) = true := by simpa using k2
              have hdg : dgB c = true := by simp only [dgB, k1', k2', Bool.and_self]
              have HGO' := Lib.hid (HGO.out hdg)
              clear HGO HNG
              have hdv : dvl c = (c.toNat : Int) - 48 := rfl
              have w1 : IntKind.u8.wrap ((c.toNat : Int) - 48) = (c.toNat : Int) - 48 := IntWalk.u8_in _ (by omega)
              have hd0 : (0 : Int) ≤ (c.toNat : Int) - 48 := by omega
              have hd9 : (c.toNat : Int) - 48 ≤ 9 := by omega
              by_cases hm0 : m = 0
              · subst hm0
                have hS := Lib.hid (HST.out (by rw [HGO'.out]; rfl))
                clear HST HNX HGO' hdg hdv
                go_wp2_with fail
                go_quiet (fail)
                go_wp2_with fail
                go_quiet (fail)
                go_wp2_with fail
                go_meet
                exact ⟨k, 0, hS, hm1, hm2, hk, rfl, HB.out.drewN _, grownBy_t hgr (grown_drewNr _ _ _)⟩
              · have hm0' : (m == 0) = false := by simpa using hm0
                obtain ⟨nx, hnx, hcase⟩ : ∃ nx, nxt m c = nx ∧ ((m < 0 ∧ nx = (c.toNat : Int) - 48) ∨ (0 ≤ m ∧ nx = 10 * m + ((c.toNat : Int) - 48))) := by
                  refine ⟨_, rfl, ?_⟩
                  unfold nxt; rw [hdv]
                  by_cases h : m < 0
                  · exact .inl ⟨h, by rw [if_pos h]⟩
                  · exact .inr ⟨by omega, by rw [if_neg h]⟩
                rw [hnx, hm0', Bool.not_false, Bool.true_and] at HGO'
                rw [hnx] at HNX
                have hnxb : 0 ≤ nx ∧ nx ≤ 1000 := by omega
                have hcan := fun u => canR_i nx lo hi h0 h1 h2 hnxb.1 hnxb.2 u
                cases hcp : canP lo hi nx with
                | false =>
                  have hS := Lib.hid (HST.out (by rw [HGO'.out]; exact hcp))
                  rw [hcp] at hcan
                  clear HST HNX HGO' hdg hdv hcp hnx
                  rcases hcase with ⟨hm3, rfl⟩ | ⟨hm3, rfl⟩
                  all_goals
                    go_wp2_with fail
                    go_quiet (fail)
                    go_wp2_with fail
                    go_quiet (fail)
                    go_wp2_with (go_at_call 41; refine (hcan _).mono ?_; rintro e w' ⟨rfl, rfl⟩)
                    go_meet
                    exact ⟨k, m, hS, hm1, hm2, hk, rfl, HB.out.drewN _, grownBy_t hgr (grown_drewNr _ _ _)⟩
                | true =>
                  have hN := Lib.hid (HNX.out (by rw [HGO'.out]; exact hcp))
                  have hn63 : nx ≤ 63 := by
                    have := hN.out.1; omega
                  have hBn := Lib.hid (fun q => Blk.set 1 (.int .i64 ((k + 1 : Nat) : Int)) (HB.out.drewN q))
                  rw [hcp] at hcan
                  clear HST HNX HGO' hdg hdv hcp hnx
                  rcases hcase with ⟨hm3, rfl⟩ | ⟨hm3, rfl⟩
                  all_goals
                    go_wp2_with fail
                    go_quiet (fail)
                    go_wp2_with fail
                    go_quiet (fail)
                    go_wp2_with (go_at_call 41; refine (hcan _).mono ?_; rintro e w' ⟨rfl, rfl⟩)
                    go_roundw
                    case rel => exact ⟨k + 1, _, hN, by omega, by omega, by omega, rfl, by simpa using hBn.out _, grownBy_t (grownBy_t hgr (grown_drewNr _ _ _)) (grownBy_setCellB _ b 1 _)⟩
                    case measure => (have q1 := fun q => (hBn.out q).cell 1); simp at q1; simp [c1, q1, intOf]; omega
            · have k2' : decide ((c.toNat : Int) ≤ 57) = false := by simpa using k2
              have hS := Lib.hid (HST.out (HNG.out (.inr (by omega))))
              clear HST HNX HNG HGO
              go_wp2_with fail
              go_quiet (fail)
              go_wp2_with fail
              go_meet
              exact ⟨k, m, hS, hm1, hm2, hk, rfl, HB.out.drewN _, grownBy_t hgr (grown_drewNr _ _ _)⟩
          · have k1' : decide ((48 : Int) ≤ c.toNat) = false := by simpa using k1
            have hS := Lib.hid (HST.out (HNG.out (.inl (by omega))))
            clear HST HNX HNG HGO
            go_wp2_with fail
            go_quiet (fail)
            go_wp2_with fail
            go_meet
            exact ⟨k, m, hS, hm1, hm2, hk, rfl, HB.out.drewN _, grownBy_t hgr (grown_drewNr _ _ _)⟩
        · have hlt1 : decide (k < s.length) = false := by simpa using hlt
          have hS := Lib.hid (numQ_stop hq.out fun hp => absurd hp hlt)
          have HB := Lib.hid hbk
          clear hq hbk
          go_wp2_with fail
          go_quiet (fail)
          go_wp2_with fail
          go_meet
          exact ⟨k, m, hS, hm1, hm2, hk, rfl, HB.out.drewN _, grownBy_t hgr (grown_drewNr _ _ _)⟩
    case rest =>
      obtain ⟨k, m, hS, hm1, hm2, hk, rfl, hbk, hgr⟩ := hcut
      clear hb hr hk0
      have f2 := hbk.frozen 2
      have c2 := hbk.cell 2
      simp at c2
      by_cases hlo : m < lo
      · have hL : lift 0 (pnum lo hi) (r, false) = (0, (s.drop k, true)) := by
          rw [lift_false, pnum, hS.out]; simp [hlo]
        have HL := Lib.hid hL
        have HB := Lib.hid (Blk.set 2 (.bool true) hbk)
        clear hL hbk
        go_wp2_with fail
        go_ret
        exact ⟨m, hm1, hm2, rfl, by rw [HL.out]; exact ⟨k, hk, rfl, by simpa using HB.out⟩, by rw [HL.out]; exact (fun h => by cases h), grownBy_t hgr (grownBy_setCellB _ b 2 _)⟩
      · have hL : lift 0 (pnum lo hi) (r, false) = (m, (s.drop k, false)) := by
          rw [lift_false, pnum, hS.out]; simp [hlo]
        have HL := Lib.hid hL
        have HB := Lib.hid hbk
        clear hL hbk
        go_wp2_with fail
        go_ret
        exact ⟨m, hm1, hm2, rfl, by rw [HL.out]; exact ⟨k, hk, rfl, HB.out⟩, by rw [HL.out]; exact fun _ => rfl, hgr⟩
end Go.Proofs.YtgobdhedeodpiaaDoor
