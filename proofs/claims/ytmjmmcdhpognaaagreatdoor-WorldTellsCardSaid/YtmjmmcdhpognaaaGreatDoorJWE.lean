/- Joined: WldE; WldF; WldG; WldH; WldI; WldAs; WldJ -/
import Derived.Test.YtmjmmcdhpognaaaGreatDoorJWD
import Derived.Lib.AppendZeros
import Derived.Laws.AppendOwnNone
import Derived.Test.YtmjmmcdhpognaaaGreatDoorJWA
import Derived.LaidEql
import Derived.Stop.Asserts
import Derived.RowKitTokens
/- Walks of layer 11: copies of lists. -/
namespace Go.Proofs.YtmjmmcdhpognaaaGreatDoor
open Go.RowKit Go.Shelf
attribute [local go_sem] Oper.semAt_some
theorem infoS : (Tryz.prog.info? 9).map (fun i => (i.zero, i.size, i.bytes)) = some (some (.string ⟨#[]⟩), 1, 16) := by kernel_rfl
theorem infoO : (Tryz.prog.info? 40).map (fun i => (i.zero, i.size, i.bytes)) = some (some (.agg #[.string ⟨#[]⟩, .int .i64 0, .string ⟨#[]⟩, .int .i64 0, .slice none 0 0]), 5, 72) := by kernel_rfl
theorem infoP : (Tryz.prog.info? 46).map (fun i => (i.zero, i.size, i.bytes)) = some (some (.agg #[.int .i64 0, .int .u64 0, .int .i64 0, .slice none 0 0]), 4, 48) := by kernel_rfl
theorem strsC_one {l : List (List UInt8)} : ∀ u ∈ strsC l, u.oneCell' = true := by intro u hu; obtain ⟨x, _, rfl⟩ := List.mem_map.1 hu; rfl
theorem objs_one {W : World} : ∀ {l : List ObjD} {cs : List Value}, Rows (ObjC W) l cs → ∀ u ∈ cs, u.oneCell' = true
  | [], cs, h, u, hu => by have h' : cs = [] := h; subst h'; cases hu
  | x :: l, cs, ⟨c, r, e, ⟨lv, e2, hl⟩, h2⟩, u, hu => by
    subst e e2
    obtain ⟨a, cap, rfl, -⟩ := hl.at
    rcases List.mem_append.1 hu with h | h
    · simp at h; rcases h with rfl | rfl | rfl | rfl | rfl <;> rfl
    · exact objs_one h2 u h
theorem parts_one {W : World} : ∀ {l : List PartD} {cs : List Value}, Rows (PartC W) l cs → ∀ u ∈ cs, u.oneCell' = true
  | [], cs, h, u, hu => by have h' : cs = [] := h; subst h'; cases hu
  | x :: l, cs, ⟨c, r, e, ⟨lv, e2, hl⟩, h2⟩, u, hu => by
    subst e e2
    obtain ⟨a, cap, rfl, -⟩ := hl.at
    rcases List.mem_append.1 hu with h | h
    · simp at h; rcases h with rfl | rfl | rfl | rfl <;> rfl
    · exact parts_one h2 u h
/-- the cells of a slice, from whatever address it has -/
theorem SlR.cells {k : Nat} {W : World} {a : Addr} {n m cap : Nat} {cs : List Value} (h : SlR k W (.slice (some a) m cap) n cs) : m = n ∧ ∀ j u, cs[j]? = some u → W.cell? (a.add j) = some u := by
  obtain ⟨h1, a', cap', h2, h3, h4⟩ := h
  cases h2
  refine ⟨rfl, fun j u hj => ?_⟩
  obtain ⟨hlt, rfl⟩ := List.getElem?_eq_some_iff.1 hj
  rcases h4 with h4 | ⟨b, o, e, -, hc⟩
  · subst h4; rw [Nat.zero_mul] at h1; omega
  · cases e; rw [Addr.add_lit]; exact hc j hlt
set_option maxHeartbeats 2000000 in
set_option maxRecDepth 100000 in
theorem cloneS_any (n : Nat) (cs : List Value) (hn : n ≤ 1000000) (h1 : ∀ u ∈ cs, u.oneCell' = true) (v : Value) (w : World) (hv : SlR 1 w v n cs) :
    Calls Tryz.prog 53 #[v] w fun e w' => ∃ v', e = .returned v' ∧ w'.ownsRow w.heap.size 9 1 v' n cs ∧ Below w.heap.size w w' := by
  obtain ⟨i0, hi, hz0, hz1, hz2⟩ := info_parts infoS
  have q24 : ∀ (w : World) (a : Option Addr) (n c n' c' : Nat), (binOp .eql 36 (.slice a n c) (.slice none n' c')).run Tryz.prog w = .ok (.bool a.isNone) w := fun w a n c n' c' => Lib.run_eql_slice_nil w _ _ a n c n' c' Tryz.underlying36
  have u24 : ∀ w, Sem.run Tryz.prog (underlying 36) w = .ok (TypeDesc.slice 9) w := run_underlying Tryz.underlying36
  obtain ⟨hl, a, cap, rfl, hcap, h4⟩ := id hv
  cases a with
  | none =>
    have h0 : n = 0 := by
      rcases h4 with h4 | ⟨b, o, e, _⟩
      · exact h4
      · cases e
    subst h0
    have hnil : cs = [] := List.eq_nil_of_length_eq_zero (by simpa using hl)
    subst hnil
    clear hv h4 h1
    go_enter Tryz.func53, Tryz.ntmps53
    go_wp2
    go_ret
    exact ⟨_, rfl, World.ownsRow_nil _ _ _ _, Below.refl _ _⟩
  | some ad =>
    have hcs : ∀ W, KeepC w W → ∀ j u, cs[j]? = some u → W.cell? (ad.add j) = some u := fun W hW => (hv.keep hW).cells.2
    have A := Lib.hid hcs
    have A1 := Lib.hid h1
    have AL := Lib.hid hl
    clear hv h4 hcs h1 hl
    go_enter Tryz.func53, Tryz.ntmps53
    go_wp2_with (at_builtin; refine wpList_append_own _ rfl _ _ 36 rfl w.heap.size 9 i0 (.string ⟨#[]⟩) 1 16 Tryz.underlying36 hi hz0 hz1 hz2 rfl (by decide) _ _ _ rfl (World.ownsRow_made w #[] 0 (Nat.le_refl _) (Nat.zero_le _) rfl) ad n cap cs rfl AL.out (A.out _ (KeepC.alloc w _)) A1.out (by unfold maxLen; omega) (by omega) (by simp) ?_)
    intro v' w1 hown hgrow hnil
    go_wp2
    go_ret
    refine ⟨v', rfl, by simpa using hown, ?_⟩
    exact ((Below.refl _ w).alloc (Nat.le_refl _) _).grown hgrow (by simp) (by intro k hk; simp [Value.ownBlock] at hk; omega)
set_option maxHeartbeats 2000000 in
set_option maxRecDepth 100000 in
theorem cloneO_any (n : Nat) (cs : List Value) (hn : n ≤ 1000000) (h1 : ∀ u ∈ cs, u.oneCell' = true) (v : Value) (w : World) (hv : SlR 5 w v n cs) :
    Calls Tryz.prog 52 #[v] w fun e w' => ∃ v', e = .returned v' ∧ w'.ownsRow w.heap.size 40 5 v' n cs ∧ Below w.heap.size w w' := by
  obtain ⟨i0, hi, hz0, hz1, hz2⟩ := info_parts infoO
  have q24 : ∀ (w : World) (a : Option Addr) (n c n' c' : Nat), (binOp .eql 30 (.slice a n c) (.slice none n' c')).run Tryz.prog w = .ok (.bool a.isNone) w := fun w a n c n' c' => Lib.run_eql_slice_nil w _ _ a n c n' c' Tryz.underlying30
  have u24 : ∀ w, Sem.run Tryz.prog (underlying 30) w = .ok (TypeDesc.slice 40) w := run_underlying Tryz.underlying30
  obtain ⟨hl, a, cap, rfl, hcap, h4⟩ := id hv
  cases a with
  | none =>
    have h0 : n = 0 := by
      rcases h4 with h4 | ⟨b, o, e, _⟩
      · exact h4
      · cases e
    subst h0
    have hnil : cs = [] := List.eq_nil_of_length_eq_zero (by simpa using hl)
    subst hnil
    clear hv h4 h1
    go_enter Tryz.func52, Tryz.ntmps52
    go_wp2
    go_ret
    exact ⟨_, rfl, World.ownsRow_nil _ _ _ _, Below.refl _ _⟩
  | some ad =>
    have hcs : ∀ W, KeepC w W → ∀ j u, cs[j]? = some u → W.cell? (ad.add j) = some u := fun W hW => (hv.keep hW).cells.2
    have A := Lib.hid hcs
    have A1 := Lib.hid h1
    have AL := Lib.hid hl
    clear hv h4 hcs h1 hl
    go_enter Tryz.func52, Tryz.ntmps52
    go_wp2_with (at_builtin; refine wpList_append_own _ rfl _ _ 30 rfl w.heap.size 40 i0 (.agg #[.string ⟨#[]⟩, .int .i64 0, .string ⟨#[]⟩, .int .i64 0, .slice none 0 0]) 5 72 Tryz.underlying30 hi hz0 hz1 hz2 rfl (by decide) _ _ _ rfl (World.ownsRow_made w #[] 0 (Nat.le_refl _) (Nat.zero_le _) rfl) ad n cap cs rfl AL.out (A.out _ (KeepC.alloc w _)) A1.out (by unfold maxLen; omega) (by omega) (by simp) ?_)
    intro v' w1 hown hgrow hnil
    go_wp2
    go_ret
    refine ⟨v', rfl, by simpa using hown, ?_⟩
    exact ((Below.refl _ w).alloc (Nat.le_refl _) _).grown hgrow (by simp) (by intro k hk; simp [Value.ownBlock] at hk; omega)
set_option maxHeartbeats 2000000 in
set_option maxRecDepth 100000 in
theorem cloneP_any (n : Nat) (cs : List Value) (hn : n ≤ 1000000) (h1 : ∀ u ∈ cs, u.oneCell' = true) (v : Value) (w : World) (hv : SlR 4 w v n cs) :
    Calls Tryz.prog 56 #[v] w fun e w' => ∃ v', e = .returned v' ∧ w'.ownsRow w.heap.size 46 4 v' n cs ∧ Below w.heap.size w w' := by
  obtain ⟨i0, hi, hz0, hz1, hz2⟩ := info_parts infoP
  have q24 : ∀ (w : World) (a : Option Addr) (n c n' c' : Nat), (binOp .eql 22 (.slice a n c) (.slice none n' c')).run Tryz.prog w = .ok (.bool a.isNone) w := fun w a n c n' c' => Lib.run_eql_slice_nil w _ _ a n c n' c' Tryz.underlying22
  have u24 : ∀ w, Sem.run Tryz.prog (underlying 22) w = .ok (TypeDesc.slice 46) w := run_underlying Tryz.underlying22
  obtain ⟨hl, a, cap, rfl, hcap, h4⟩ := id hv
  cases a with
  | none =>
    have h0 : n = 0 := by
      rcases h4 with h4 | ⟨b, o, e, _⟩
      · exact h4
      · cases e
    subst h0
    have hnil : cs = [] := List.eq_nil_of_length_eq_zero (by simpa using hl)
    subst hnil
    clear hv h4 h1
    go_enter Tryz.func56, Tryz.ntmps56
    go_wp2
    go_ret
    exact ⟨_, rfl, World.ownsRow_nil _ _ _ _, Below.refl _ _⟩
  | some ad =>
    have hcs : ∀ W, KeepC w W → ∀ j u, cs[j]? = some u → W.cell? (ad.add j) = some u := fun W hW => (hv.keep hW).cells.2
    have A := Lib.hid hcs
    have A1 := Lib.hid h1
    have AL := Lib.hid hl
    clear hv h4 hcs h1 hl
    go_enter Tryz.func56, Tryz.ntmps56
    go_wp2_with (at_builtin; refine wpList_append_own _ rfl _ _ 22 rfl w.heap.size 46 i0 (.agg #[.int .i64 0, .int .u64 0, .int .i64 0, .slice none 0 0]) 4 48 Tryz.underlying22 hi hz0 hz1 hz2 rfl (by decide) _ _ _ rfl (World.ownsRow_made w #[] 0 (Nat.le_refl _) (Nat.zero_le _) rfl) ad n cap cs rfl AL.out (A.out _ (KeepC.alloc w _)) A1.out (by unfold maxLen; omega) (by omega) (by simp) ?_)
    intro v' w1 hown hgrow hnil
    go_wp2
    go_ret
    refine ⟨v', rfl, by simpa using hown, ?_⟩
    exact ((Below.refl _ w).alloc (Nat.le_refl _) _).grown hgrow (by simp) (by intro k hk; simp [Value.ownBlock] at hk; omega)
end Go.Proofs.YtmjmmcdhpognaaaGreatDoor
/- Walks of layer 11: objects that share no list. -/
namespace Go.Proofs.YtmjmmcdhpognaaaGreatDoor
open Go.RowKit Go.Shelf
attribute [local go_sem] Oper.semAt_some
set_option maxRecDepth 100000 in
set_option maxHeartbeats 4000000 in
theorem objects_any (l : List ObjD) (hn : l.length ≤ 1000000) (hi : ∀ x ∈ l, x.items.length ≤ 1000000) (v : Value) (w : World) (hv : ObjsV w v l) :
    Calls Tryz.prog 28 #[v] w fun e w' => ∃ v', e = .returned v' ∧ ObjsO w.heap.size 40 9 w' v' l ∧ Below w.heap.size w w' := by
  obtain ⟨cs0, hs0, hr0⟩ := id hv
  have HC := cloneO_any l.length cs0 hn (objs_one hr0) v w hs0
  clear hs0
  have HS := fun (s : List (List UInt8)) (hs : s.length ≤ 1000000) lv W (h : StrsV W lv s) => cloneS_any s.length (strsC s) hs strsC_one lv W h
  go_enter Tryz.func28, Tryz.ntmps28
  go_wp2_with fail
  with_reducible refine HC.mono ?_
  rintro e w1 ⟨v1, rfl, hrow, hb1⟩
  clear HC
  rcases hrow.2 with ⟨rfl, h0⟩ | ⟨g, cap, cur, rfl, hbg, -, hcap, -⟩
  · have hl0 : l = [] := List.length_eq_zero_iff.1 h0
    subst hl0
    go_wp2_with fail
    refine wp_loop_rounds 1 ?_
    rw [rounds_succ]
    go_wp2_with fail
    go_ret
    exact ⟨_, rfl, ObjsO.nil _ _ _ _, hb1⟩
  · have hM : Mix (ObjO w.heap.size 9 w1) (ObjC w) 0 l cs0 := Mix.start hr0
    clear hr0
    go_wp2_with fail
    go_loopg [10] l.length (fun gg s10 wr => ∃ (kk : Nat) (cs : List Value), kk ≤ l.length ∧ l.length - kk ≤ gg ∧ s10 = .int .i64 kk ∧ Hid (wr.ownsRow w.heap.size 40 5 (.slice (some ⟨g, 0, none⟩) l.length cap) l.length cs ∧ Mix (ObjO w.heap.size 9 wr) (ObjC w) kk l cs ∧ Below w.heap.size w wr))
    case atStart => exact ⟨0, cs0, Nat.zero_le _, by omega, rfl, hrow, hM, hb1⟩
    case round =>
      clear hM hrow hb1
      obtain ⟨kk, cs, hkk, hg, rfl, HI⟩ := hrel
      by_cases hlt : kk < l.length
      · have hltz : (kk : Int) < (l.length : Int) := by omega
        have hkz : (0 : Int) ≤ (kk : Int) := by omega
        obtain ⟨c, ⟨lv, rfl, hlv⟩, hat, hstep⟩ := HI.out.2.1.step (k := 5) ObjO.len ObjC.len hlt
        have hrow := HI.out.1
        have k0 := row_at hrow (kk * 5 + 0) (by omega) _ (hat 0 (by omega))
        have k1 := row_at hrow (kk * 5 + 1) (by omega) _ (hat 1 (by omega))
        have k2 := row_at hrow (kk * 5 + 2) (by omega) _ (hat 2 (by omega))
        have k3 := row_at hrow (kk * 5 + 3) (by omega) _ (hat 3 (by omega))
        have k4 := row_at hrow (kk * 5 + 4) (by omega) _ (hat 4 (by omega))
        have hf := hrow.frozenAt (kk * 5 + 4)
        simp only [Nat.add_zero] at k0
        have hlx := hi l[kk] (List.getElem_mem _)
        have hxl : l[kk] = l[kk] := rfl
        have HST : Hid (∀ (W : World) (u : Value), (∀ x ∈ l, ∀ c, ObjO w.heap.size 9 wr x c → ObjO w.heap.size 9 W x c) → StrsO w.heap.size 9 W u l[kk].items → Mix (ObjO w.heap.size 9 W) (ObjC w) (kk + 1) l (cs.set (kk * 5 + 4) u)) := by
          show ∀ W, _
          intro W u hmono hs
          obtain ⟨c', ⟨lv', rfl, -⟩, -, hst⟩ := (HI.out.2.1.mono hmono).step (k := 5) ObjO.len ObjC.len hlt
          exact hst 4 u (by omega) ⟨u, rfl, hs⟩
        clear hat hstep hxl
        generalize l[kk] = x at *
        obtain ⟨name, kind, data, max, items⟩ := x
        dsimp only at *
        obtain ⟨a2, cap2, rfl, -⟩ := hlv.at
        have hB1 := (Below.refl wr.heap.size wr).alloc (Nat.le_refl _) (.cells #[.string ⟨name.toArray⟩, .int .i64 kind, .string ⟨data.toArray⟩, .int .i64 max, .slice a2 items.length cap2] 40)
        have hB1w := HI.out.2.2.trans (hB1.mono HI.out.2.2.size)
        have HS1 := HS items hlx _ _ (hlv.keep (KeepC.of_below hB1w))
        have hgl : g < wr.heap.size := World.block_lt_of_cell? wr _ k0
        clear hrow hlv
        go_wp2_with fail
        with_reducible refine HS1.mono ?_
        rintro e w2 ⟨v2, rfl, hs2, hb2⟩
        obtain ⟨-, a3, cap3, rfl, -⟩ := id (SlR.of_row hs2)
        have hB2 := hB1.trans (hb2.mono hB1.size)
        have hrow2 := HI.out.1.kept (grown_of_below hB2 none) (.inr (by simp [Value.ownBlock]))
        have hcg : w2.cell? ⟨g, kk * 5 + 4, none⟩ = some (.slice a2 items.length cap2) := (KeepC.of_below hB2).2 _ _ _ k4
        have hfg := hrow2.frozenAt (kk * 5 + 4)
        have HX : Hid (∀ u, (w2.setCell ⟨g, kk * 5 + 4, none⟩ u).ownsRow w.heap.size 40 5 (.slice (some ⟨g, 0, none⟩) l.length cap) l.length (cs.set (kk * 5 + 4) u) ∧ w2.grownBy (w2.setCell ⟨g, kk * 5 + 4, none⟩ u) (some g)) := by
          show ∀ u, _
          intro u; exact hrow2.stored _ u
        have hbs : w.heap.size ≤ (wr.alloc (.cells #[.string ⟨name.toArray⟩, .int .i64 kind, .string ⟨data.toArray⟩, .int .i64 max, .slice a2 items.length cap2] 40)).heap.size := by rw [World.size_alloc]; have := HI.out.2.2.size; omega
        have HS2 := Lib.hid (own_base hs2 hbs)
        clear hs2 HS1 hrow2 hb2 hbs
        clear k0 k1 k2 k3 k4 hf
        go_wp2_with fail
        go_roundg (l.length - (kk + 1))
        case measure => omega
        case rel =>
          obtain ⟨hr3, hg3⟩ := HX.out (.slice a3 items.length cap3)
          have hg23 : wr.grownBy (w2.setCell ⟨g, kk * 5 + 4, none⟩ (.slice a3 items.length cap3)) (some g) := grownBy_t (grown_of_below hB2 _) hg3
          have hrt : RowT wr [9] (some g) := by
            have := RowT.of_row HI.out.1 [9] (by decide)
            simpa [Value.ownBlock] using this
          have hrt2 : RowT w2 [9] (some g) := by
            have := RowT.of_row (HI.out.1.kept (grown_of_below hB2 none) (.inr (by simp [Value.ownBlock]))) [9] (by decide)
            simpa [Value.ownBlock] using this
          refine ⟨kk + 1, _, by omega, by omega, by go_num, hr3, HST.out _ _ (fun x _ c hc => hc.kept hg23 hrt) (own_kept HS2.out hg3 hrt2), ?_⟩
          exact (HI.out.2.2.trans (hB2.mono HI.out.2.2.size)).setCell (p := ⟨g, _, none⟩) hbg _
      · have hltz : ¬ (kk : Int) < (l.length : Int) := by omega
        have hkl : kk = l.length := by omega
        subst hkl
        go_wp2_with fail
        go_ret
        exact ⟨_, rfl, ⟨cs, HI.out.1, HI.out.2.1.all⟩, HI.out.2.2⟩
end Go.Proofs.YtmjmmcdhpognaaaGreatDoor
/- Walks of layer 11: parts that share no list. -/
namespace Go.Proofs.YtmjmmcdhpognaaaGreatDoor
open Go.RowKit Go.Shelf
attribute [local go_sem] Oper.semAt_some
theorem fits_items {l : List ObjD} (h : FitsS l) : ∀ x ∈ l, x.items.length ≤ 1000000 := fun x hx => (h.2 x hx).2.2.1
set_option maxRecDepth 100000 in
set_option maxHeartbeats 4000000 in
theorem own_any (l : List PartD) (hl : FitsW l) (v : Value) (w : World) (hv : PartsV w v l) :
    Calls Tryz.prog 30 #[v] w fun e w' => ∃ v', e = .returned v' ∧ PartsO w.heap.size 46 40 9 w' v' l ∧ Below w.heap.size w w' := by
  obtain ⟨cs0, hs0, hr0⟩ := id hv
  have HC := cloneP_any l.length cs0 hl.1 (parts_one hr0) v w hs0
  clear hs0
  have hn := hl.1
  have HS := fun (x : PartD) (hx : x ∈ l) ov W (h : ObjsV W ov x.l) => objects_any x.l (hl.2 x hx).1 (fits_items (hl.2 x hx)) ov W h
  go_enter Tryz.func30, Tryz.ntmps30
  go_wp2_with fail
  with_reducible refine HC.mono ?_
  rintro e w1 ⟨v1, rfl, hrow, hb1⟩
  clear HC
  rcases hrow.2 with ⟨rfl, h0⟩ | ⟨g, cap, cur, rfl, hbg, -, hcap, -⟩
  · have hl0 : l = [] := List.length_eq_zero_iff.1 h0
    subst hl0
    go_wp2_with fail
    refine wp_loop_rounds 1 ?_
    rw [rounds_succ]
    go_wp2_with fail
    go_ret
    exact ⟨_, rfl, PartsO.nil _ _ _ _ _, hb1⟩
  · have hM : Mix (PartO w.heap.size 40 9 w1) (PartC w) 0 l cs0 := Mix.start hr0
    clear hr0
    go_wp2_with fail
    go_loopg [10] l.length (fun gg s10 wr => ∃ (kk : Nat) (cs : List Value), kk ≤ l.length ∧ l.length - kk ≤ gg ∧ s10 = .int .i64 kk ∧ Hid (wr.ownsRow w.heap.size 46 4 (.slice (some ⟨g, 0, none⟩) l.length cap) l.length cs ∧ Mix (PartO w.heap.size 40 9 wr) (PartC w) kk l cs ∧ Below w.heap.size w wr))
    case atStart => exact ⟨0, cs0, Nat.zero_le _, by omega, rfl, hrow, hM, hb1⟩
    case round =>
      clear hM hrow hb1
      obtain ⟨kk, cs, hkk, hg, rfl, HI⟩ := hrel
      by_cases hlt : kk < l.length
      · have hltz : (kk : Int) < (l.length : Int) := by omega
        have hkz : (0 : Int) ≤ (kk : Int) := by omega
        obtain ⟨c, ⟨ov, rfl, hov⟩, hat, hstep⟩ := HI.out.2.1.step (k := 4) PartO.len PartC.len hlt
        have hrow := HI.out.1
        have k0 := row_at hrow (kk * 4 + 0) (by omega) _ (hat 0 (by omega))
        have k1 := row_at hrow (kk * 4 + 1) (by omega) _ (hat 1 (by omega))
        have k2 := row_at hrow (kk * 4 + 2) (by omega) _ (hat 2 (by omega))
        have k3 := row_at hrow (kk * 4 + 3) (by omega) _ (hat 3 (by omega))
        have hf := hrow.frozenAt (kk * 4 + 3)
        simp only [Nat.add_zero] at k0
        have HST : Hid (∀ (W : World) (u : Value), (∀ x ∈ l, ∀ c, PartO w.heap.size 40 9 wr x c → PartO w.heap.size 40 9 W x c) → ObjsO w.heap.size 40 9 W u l[kk].l → Mix (PartO w.heap.size 40 9 W) (PartC w) (kk + 1) l (cs.set (kk * 4 + 3) u)) := by
          show ∀ W, _
          intro W u hmono hs
          obtain ⟨c', ⟨lv', rfl, -⟩, -, hst⟩ := (HI.out.2.1.mono hmono).step (k := 4) PartO.len PartC.len hlt
          exact hst 3 u (by omega) ⟨u, rfl, hs⟩
        clear hat hstep
        have HSx := fun W => HS l[kk] (List.getElem_mem _) ov W
        clear HS
        generalize l[kk] = x at *
        obtain ⟨lv, S, ig, pl⟩ := x
        dsimp only at *
        obtain ⟨a2, cap2, rfl, -⟩ := hov.at
        have hB1 := (Below.refl wr.heap.size wr).alloc (Nat.le_refl _) (.cells #[.int .i64 lv, .int .u64 S, .int .i64 ig, .slice a2 pl.length cap2] 46)
        have hB1w := HI.out.2.2.trans (hB1.mono HI.out.2.2.size)
        have HS1 := HSx _ (hov.keep (KeepC.of_below hB1w))
        have hgl : g < wr.heap.size := World.block_lt_of_cell? wr _ k0
        clear hrow hov HSx
        go_wp2_with fail
        with_reducible refine HS1.mono ?_
        rintro e w2 ⟨v2, rfl, hs2, hb2⟩
        obtain ⟨a3, cap3, rfl, -⟩ := hs2.view.at
        have hB2 := hB1.trans (hb2.mono hB1.size)
        have hrow2 := HI.out.1.kept (grown_of_below hB2 none) (.inr (by simp [Value.ownBlock]))
        have hcg : w2.cell? ⟨g, kk * 4 + 3, none⟩ = some (.slice a2 pl.length cap2) := (KeepC.of_below hB2).2 _ _ _ k3
        have hfg := hrow2.frozenAt (kk * 4 + 3)
        have HX : Hid (∀ u, (w2.setCell ⟨g, kk * 4 + 3, none⟩ u).ownsRow w.heap.size 46 4 (.slice (some ⟨g, 0, none⟩) l.length cap) l.length (cs.set (kk * 4 + 3) u) ∧ w2.grownBy (w2.setCell ⟨g, kk * 4 + 3, none⟩ u) (some g)) := by
          show ∀ u, _
          intro u; exact hrow2.stored _ u
        have hbs : w.heap.size ≤ (wr.alloc (.cells #[.int .i64 lv, .int .u64 S, .int .i64 ig, .slice a2 pl.length cap2] 46)).heap.size := by rw [World.size_alloc]; have := HI.out.2.2.size; omega
        have HS2 := Lib.hid (hs2.base hbs)
        clear hs2 HS1 hrow2 hb2 hbs
        clear k0 k1 k2 k3 hf
        go_wp2_with fail
        go_roundg (l.length - (kk + 1))
        case measure => omega
        case rel =>
          obtain ⟨hr3, hg3⟩ := HX.out (.slice a3 pl.length cap3)
          have hg23 : wr.grownBy (w2.setCell ⟨g, kk * 4 + 3, none⟩ (.slice a3 pl.length cap3)) (some g) := grownBy_t (grown_of_below hB2 _) hg3
          have hrt : RowT wr [40, 9] (some g) := by
            have := RowT.of_row HI.out.1 [40, 9] (by decide)
            simpa [Value.ownBlock] using this
          have hrt2 : RowT w2 [40, 9] (some g) := by
            have := RowT.of_row (HI.out.1.kept (grown_of_below hB2 none) (.inr (by simp [Value.ownBlock]))) [40, 9] (by decide)
            simpa [Value.ownBlock] using this
          refine ⟨kk + 1, _, by omega, by omega, by go_num, hr3, HST.out _ _ (fun x _ c hc => hc.kept hg23 hrt) (HS2.out.kept hg3 hrt2), ?_⟩
          exact (HI.out.2.2.trans (hB2.mono HI.out.2.2.size)).setCell (p := ⟨g, _, none⟩) hbg _
      · have hltz : ¬ (kk : Int) < (l.length : Int) := by omega
        have hkl : kk = l.length := by omega
        subst hkl
        go_wp2_with fail
        go_ret
        exact ⟨_, rfl, ⟨cs, HI.out.1, HI.out.2.1.all⟩, HI.out.2.2⟩
end Go.Proofs.YtmjmmcdhpognaaaGreatDoor
/- Walks of layer 11: slices.Grow and slices.Concat at parts. -/
namespace Go.Proofs.YtmjmmcdhpognaaaGreatDoor
open Go.RowKit Go.Shelf
attribute [local go_sem] Oper.semAt_some
/-- an append of whatever slice's cells to a row of the call's own -/
theorem wpList_append_sl {P : Program} (w : World) {ops : Array Oper} {rest : List Oper} {o : Oper} {a : Act} {Q : Exit → Act → World → Prop} (hgd : o.guard = none) (s x : Operand) (t : TypeId)
    (ho : o.op = .call { callee := .builtin .append, args := #[s, x], argTypes := #[t, t] })
    (base : Nat) (e : TypeId) (i : TypeInfo) (z : Value) (size bytes : Nat) (ht : P.underlying t = some (.slice e)) (hi : P.info? e = some i) (hz : i.zero = some z)
    (hsize : i.size = size) (hby : i.bytes = bytes) (hzs : z.cells.size = size) (hsz : 0 < size)
    (v : Value) (n : Nat) (xs : List Value) (hs : a.eval s = v) (hown : w.ownsRow base e size v n xs)
    (ao : Option Addr) (m c : Nat) (news : List Value) (hx : a.eval x = .slice ao m c) (hsl : SlR size w (.slice ao m c) m news) (hnc : ao = none → c = 0) (h1 : ∀ u ∈ news, u.oneCell' = true)
    (h63 : n + m ≤ maxLen) (hbytes : (n + m) * bytes ≤ 140737488355328) (hbase : base ≤ w.heap.size)
    (h : ∀ v' w', w'.ownsRow base e size v' (n + m) (xs ++ news) → w.grownBy w' v.ownBlock → wpList P ops Q rest (a.put o.dst v') w') : wpList P ops Q (o :: rest) a w := by
  cases ao with
  | some ad => exact wpList_append_own w hgd s x t ho base e i z size bytes ht hi hz hsize hby hzs hsz v n xs hs hown ad m c news hx hsl.1 hsl.cells.2 h1 h63 hbytes hbase (fun v' w' h2 h3 _ => h v' w' h2 h3)
  | none =>
    obtain ⟨hl, a', cap', e', -, h4⟩ := hsl
    have hm : m = 0 := by
      rcases h4 with h4 | ⟨b, o, e2, _⟩
      · exact h4
      · cases e'; cases e2
    subst hm
    have hn : news = [] := List.eq_nil_of_length_eq_zero (by simpa using hl)
    subst hn
    obtain rfl := hnc rfl
    exact wpList_append_own_none hgd s x t ho base e i size ht hi v n xs hs hown hx (h v w (by simpa using hown) (World.grownBy.refl _ _))
set_option maxRecDepth 100000 in
set_option maxHeartbeats 2000000 in
theorem grow_any (n : Nat) (hn : n ≤ 3000000) (w : World) :
    Calls Tryz.prog 78 #[.slice none 0 0, .int .i64 n] w fun e w' => ∃ v', e = .returned v' ∧ w'.ownsRow w.heap.size 46 4 v' 0 [] ∧ Below w.heap.size w w' := by
  obtain ⟨i0, hi, hz0, hz1, hz2⟩ := info_parts infoP
  by_cases h0 : n = 0
  · subst h0
    go_enter Tryz.func78, Tryz.ntmps78
    go_wp2
    go_ret
    exact ⟨_, rfl, World.ownsRow_nil _ _ _ _, Below.refl _ _⟩
  · have hpos : (0 : Int) < (n : Int) := by omega
    have hneg : ¬ ((n : Int) < 0) := by omega
    have happ := Lib.run_append_nil_zeros (P := Tryz.prog) w 22 3 22 46 i0 _ .i64 .i64 Tryz.underlying22 Tryz.underlying3 hi hz0 n (by omega) (by rw [hz1]; omega) (by omega) (by rw [hz2]; omega)
    have hge := grownCap_ge w n 0 46
    have hle := grownCap_le_maxLen w n 0 46 (by unfold maxLen; omega)
    have HW : Hid ((w.drew.alloc (.cells (Builtin.zeroCells (Value.cells (.agg #[.int .i64 0, .int .u64 0, .int .i64 0, .slice none 0 0])) n ++ Builtin.zeroCells (Value.cells (.agg #[.int .i64 0, .int .u64 0, .int .i64 0, .slice none 0 0])) (grownCap w n 0 46 - n)) 46)).ownsRow w.heap.size 46 4 (.slice (some ⟨w.heap.size, 0, none⟩) 0 (grownCap w n 0 46)) 0 []) := by
      show World.ownsRow _ _ _ _ _ _ _
      refine ⟨rfl, .inr ⟨w.heap.size, grownCap w n 0 46, _, rfl, Nat.le_refl _, heap_alloc_new w.drew _, Nat.zero_le _, hle, ?_, by simp⟩⟩
      rw [Array.size_append, size_zeroCells, size_zeroCells, ← Nat.add_mul, show n + (grownCap w n 0 46 - n) = grownCap w n 0 46 by omega]
      rfl
    have hB : Below w.heap.size w (w.drew.alloc (.cells (Builtin.zeroCells (Value.cells (.agg #[.int .i64 0, .int .u64 0, .int .i64 0, .slice none 0 0])) n ++ Builtin.zeroCells (Value.cells (.agg #[.int .i64 0, .int .u64 0, .int .i64 0, .slice none 0 0])) (grownCap w n 0 46 - n)) 46)) := (Below.refl _ w).drew.alloc (Nat.le_refl _) _
    generalize grownCap w n 0 46 = G at *
    generalize (w.drew.alloc (.cells (Builtin.zeroCells (Value.cells (.agg #[.int .i64 0, .int .u64 0, .int .i64 0, .slice none 0 0])) n ++ Builtin.zeroCells (Value.cells (.agg #[.int .i64 0, .int .u64 0, .int .i64 0, .slice none 0 0])) (G - n)) 46)) = W at *
    go_enter Tryz.func78, Tryz.ntmps78
    go_wp2_with (at_builtin; refine Lib.wpList_append_run _ rfl _ _ _ _ rfl _ _ rfl rfl _ _ happ ?_)
    go_ret
    exact ⟨_, rfl, HW.out, hB⟩
end Go.Proofs.YtmjmmcdhpognaaaGreatDoor
/- Walks of layer 11: slices.Concat at three lists of parts. -/
namespace Go.Proofs.YtmjmmcdhpognaaaGreatDoor
open Go.RowKit Go.Shelf
attribute [local go_sem] Oper.semAt_some
set_option maxRecDepth 100000 in
set_option maxHeartbeats 4000000 in
theorem concat_any (g : Nat) (a1 a2 a3 : Option Addr) (n1 n2 n3 c1 c2 c3 : Nat) (x1 x2 x3 : List Value) (w : World)
    (k0 : w.cell? ⟨g, 0, none⟩ = some (.slice a1 n1 c1)) (k1 : w.cell? ⟨g, 1, none⟩ = some (.slice a2 n2 c2)) (k2 : w.cell? ⟨g, 2, none⟩ = some (.slice a3 n3 c3))
    (s1 : SlR 4 w (.slice a1 n1 c1) n1 x1) (s2 : SlR 4 w (.slice a2 n2 c2) n2 x2) (s3 : SlR 4 w (.slice a3 n3 c3) n3 x3)
    (z1 : a1 = none → c1 = 0) (z2 : a2 = none → c2 = 0) (z3 : a3 = none → c3 = 0)
    (o1 : ∀ u ∈ x1, u.oneCell' = true) (o2 : ∀ u ∈ x2, u.oneCell' = true) (o3 : ∀ u ∈ x3, u.oneCell' = true) (h1 : n1 ≤ 1000000) (h2 : n2 ≤ 1000000) (h3 : n3 ≤ 1000000) :
    Calls Tryz.prog 63 #[.slice (some ⟨g, 0, none⟩) 3 3] w fun e w' => ∃ v', e = .returned v' ∧ w'.ownsRow w.heap.size 46 4 v' (n1 + n2 + n3) (x1 ++ x2 ++ x3) ∧ Below w.heap.size w w' := by
  obtain ⟨i0, hi, hz0, hz1, hz2⟩ := info_parts infoP
  have HG := grow_any (n1 + n2 + n3) (by omega) w
  rw [Int.natCast_add, Int.natCast_add] at HG
  have e1 : IntKind.i64.wrap (n1 : Int) = n1 := IntWalk.i64_in _ (by omega)
  have e2 : IntKind.i64.wrap ((n1 : Int) + n2) = (n1 : Int) + n2 := IntWalk.i64_in _ (by omega)
  have e3 : IntKind.i64.wrap ((n1 : Int) + n2 + n3) = (n1 : Int) + n2 + n3 := IntWalk.i64_in _ (by omega)
  have d2 : ¬ ((n1 : Int) + n2 < 0) := by omega
  have d3 : ¬ ((n1 : Int) + n2 + n3 < 0) := by omega
  have hl1 : ((n1 : Nat) : Int) ≤ 1000000 := by omega
  have hl2 : ((n2 : Nat) : Int) ≤ 1000000 := by omega
  have hl3 : ((n3 : Nat) : Int) ≤ 1000000 := by omega
  have S1 := Lib.hid s1
  have S2 := Lib.hid s2
  have S3 := Lib.hid s3
  have O1 := Lib.hid o1
  have O2 := Lib.hid o2
  have O3 := Lib.hid o3
  clear s1 s2 s3 o1 o2 o3
  go_enter Tryz.func63, Tryz.ntmps63
  go_wp2_with fail
  refine wp_loop_rounds 4 ?_
  rw [rounds_succ]
  go_wp2_with fail
  rw [rounds_succ]
  go_wp2_with fail
  rw [rounds_succ]
  go_wp2_with fail
  rw [rounds_succ]
  go_wp2_with fail
  with_reducible refine HG.mono ?_
  rintro e w0 ⟨v0, rfl, r0, b0⟩
  have q0 := (KeepC.of_below b0).2 _ _ _ k0
  go_wp2_with fail
  refine wp_loop_rounds 4 ?_
  rw [rounds_succ]
  go_wp2_with (at_builtin; refine wpList_append_sl _ rfl _ _ 22 rfl w.heap.size 46 i0 (.agg #[.int .i64 0, .int .u64 0, .int .i64 0, .slice none 0 0]) 4 48 Tryz.underlying22 hi hz0 hz1 hz2 rfl (by decide) _ 0 [] rfl r0 a1 n1 c1 x1 rfl (S1.out.keep (KeepC.of_below b0)) z1 O1.out (by unfold maxLen; omega) (by omega) (by have := b0.size; omega) ?_)
  intro v1 w1 r1 g1
  have b1 : Below w.heap.size w w1 := b0.grown g1 b0.size (fun k hk => (r0.lt k hk).1)
  have q1 := (KeepC.of_below b1).2 _ _ _ k1
  go_wp2_with fail
  rw [rounds_succ]
  go_wp2_with (at_builtin; refine wpList_append_sl _ rfl _ _ 22 rfl w.heap.size 46 i0 (.agg #[.int .i64 0, .int .u64 0, .int .i64 0, .slice none 0 0]) 4 48 Tryz.underlying22 hi hz0 hz1 hz2 rfl (by decide) _ n1 x1 rfl r1 a2 n2 c2 x2 rfl (S2.out.keep (KeepC.of_below b1)) z2 O2.out (by unfold maxLen; omega) (by omega) (by have := b1.size; omega) ?_)
  intro v2 w2 r2 g2
  have b2 : Below w.heap.size w w2 := b1.grown g2 b1.size (fun k hk => (r1.lt k hk).1)
  have q2 := (KeepC.of_below b2).2 _ _ _ k2
  go_wp2_with fail
  rw [rounds_succ]
  go_wp2_with (at_builtin; refine wpList_append_sl _ rfl _ _ 22 rfl w.heap.size 46 i0 (.agg #[.int .i64 0, .int .u64 0, .int .i64 0, .slice none 0 0]) 4 48 Tryz.underlying22 hi hz0 hz1 hz2 rfl (by decide) _ (n1 + n2) (x1 ++ x2) rfl r2 a3 n3 c3 x3 rfl (S3.out.keep (KeepC.of_below b2)) z3 O3.out (by unfold maxLen; omega) (by omega) (by have := b2.size; omega) ?_)
  intro v3 w3 r3 g3
  have b3 : Below w.heap.size w w3 := b2.grown g3 b2.size (fun k hk => (r2.lt k hk).1)
  go_wp2_with fail
  rw [rounds_succ]
  go_wp2_with fail
  go_ret
  exact ⟨_, rfl, by simpa using r3, b3⟩
end Go.Proofs.YtmjmmcdhpognaaaGreatDoor
/- errors.As at a concrete target: a struct of one number. (Turned from the worked Toyas texts.) -/
namespace Go.Proofs.YtmjmmcdhpognaaaGreatDoor.WldAs
open Go.RowKit Go.Extern.Stop Go.Stop Go.Extern
abbrev T : Nat := 71
abbrev PT : Nat := 95
abbrev RT : Nat := 132
/-- the handle of a type -/
abbrev H (t : Nat) : Value := .pointer (some ⟨2, t, none⟩)
theorem valueOfP (t : Addr) (w : World) : (ReflectliteValue.unpack (.iface PT (.pointer (some t)))).run Tryz.prog w
    = .ok (.agg #[H PT, .pointer (some ⟨w.heap.size, 0, none⟩), .int .u64 150]) (w.alloc (.cells #[.pointer (some t)] PT)) := by kernel_rfl
theorem typeP (a : Addr) (w : World) : (ReflectliteValue.methodAny (ReflectliteValue.valueError "reflectlite.Value.Type" 0) (fun t _ _ _ => ReflectliteType.toType t) #[.agg #[H PT, .pointer (some a), .int .u64 150]]).run Tryz.prog w
    = .ok (.iface RT (.agg #[H PT])) w := by kernel_rfl
theorem methodKind (h : Value) (w : World) : (Go.method 280 RT (.agg #[h]) "Kind").run Tryz.prog w = .ok (114, h) w := by kernel_rfl
theorem kindP (w : World) : ((ReflectliteType.abiMethod fun t => (fun a : Nat => Value.int IntKind.u8 (a : Int)) <$> Rtype.kind t) #[H PT]).run Tryz.prog w = .ok (.int .u8 22) w := by kernel_rfl
theorem kindT (w : World) : ((ReflectliteType.abiMethod fun t => (fun a : Nat => Value.int IntKind.u8 (a : Int)) <$> Rtype.kind t) #[H T]).run Tryz.prog w = .ok (.int .u8 25) w := by kernel_rfl
theorem rlm (z : Sem Value) (f : TypeId → Addr → Nat → Nat → Sem Value) (v : Value) :
    ReflectliteValue.method z f #[v] = (do match ← ReflectliteValue.parts v with | none => z | some (t, a, fl) => f t a fl (fl % 32)) := rfl
theorem partsP (a : Addr) (w : World) : (ReflectliteValue.parts (.agg #[H PT, .pointer (some a), .int .u64 150])).run Tryz.prog w = .ok (some (PT, a, 150)) w := by kernel_rfl
theorem isNilP (a p : Addr) (W : World) (ha : W.cell? a = some (.pointer (some p))) :
    (ReflectliteValue.method (ReflectliteValue.valueError "reflectlite.Value.IsNil" 0) ReflectliteValue.isNil #[.agg #[H PT, .pointer (some a), .int .u64 150]]).run Tryz.prog W = .ok (.bool false) W := by
  rw [rlm]
  simp only [Sem.run_bind, partsP, Result.andThen]
  simp [ReflectliteValue.isNil, loadVar, isAgg, underlying, Tryz.underlying95, ha, Result.andThen]
theorem methodElem (h : Value) (w : World) : (Go.method 280 RT (.agg #[h]) "Elem").run Tryz.prog w = .ok (125, .agg #[h]) w := by kernel_rfl
theorem methodImplements (h : Value) (w : World) : (Go.method 280 RT (.agg #[h]) "Implements").run Tryz.prog w = .ok (126, .agg #[h]) w := by kernel_rfl
theorem methodAssignableTo (h : Value) (w : World) : (Go.method 280 RT (.agg #[h]) "AssignableTo").run Tryz.prog w = .ok (123, .agg #[h]) w := by kernel_rfl
theorem elemP (w : World) : (ReflectliteType.method ReflectliteType.elem #[.agg #[H PT]]).run Tryz.prog w = .ok (.iface RT (.agg #[H T])) w := by kernel_rfl
theorem implementsT (w : World) : (ReflectliteType.relation "Implements" ReflectliteType.implements_ #[.agg #[H T], .iface RT (.agg #[H 73])]).run Tryz.prog w = .ok (.bool true) w := by kernel_rfl
theorem typeOfT (v : Value) (w : World) : (ReflectliteType.typeOf #[.iface T v]).run Tryz.prog w = .ok (.iface RT (.agg #[H T])) w := by kernel_rfl
theorem assignableT (w : World) : (ReflectliteType.relation "AssignableTo" ReflectliteType.assignableTo #[.agg #[H T], .iface RT (.agg #[H T])]).run Tryz.prog w = .ok (.bool true) w := by kernel_rfl
theorem valueOfT (x : Int) (w : World) : (ReflectliteValue.unpack (.iface T (.agg #[.int .i64 x]))).run Tryz.prog w
    = .ok (.agg #[H T, .pointer (some ⟨w.heap.size, 0, none⟩), .int .u64 153]) (w.alloc (.cells #[.int .i64 x] T)) := by kernel_rfl
theorem elemOfP (w : World) : (Rtype.elem? PT).run Tryz.prog w = .ok (some T) w := by kernel_rfl
theorem mkT (p : Addr) (w : World) : (ReflectliteValue.mk T p ReflectliteValue.flagAddr).run Tryz.prog w = .ok (.agg #[H T, .pointer (some p), .int .u64 409]) w := by kernel_rfl
theorem elemVP (a p : Addr) (W : World) (ha : W.cell? a = some (.pointer (some p))) :
    (ReflectliteValue.method (ReflectliteValue.valueError "reflectlite.Value.Elem" 0) ReflectliteValue.elem #[.agg #[H PT, .pointer (some a), .int .u64 150]]).run Tryz.prog W
      = .ok (.agg #[H T, .pointer (some p), .int .u64 409]) W := by
  rw [rlm]
  simp only [Sem.run_bind, partsP, Result.andThen]
  simp [ReflectliteValue.elem, loadVar, isAgg, underlying, Tryz.underlying95, ha, Result.andThen, elemOfP, mkT]
theorem rls (v x : Value) : ReflectliteValue.set #[v, x] = (do
    let (some (dst, a, fl), some (src, b, _)) := (← ReflectliteValue.parts v, ← ReflectliteValue.parts x)
      | unsupported (.noEntry "extern/(internal/reflectlite.Value).Set.zeroValue")
    if fl / ReflectliteValue.flagAddr % 2 == 0 then unsupported (.noEntry "extern/(internal/reflectlite.Value).Set.unaddressable")
    let val ← loadVar src b
    if ← Rtype.directlyAssignable dst src then storeVar dst a val
    else if ← Rtype.implements dst src then
      if (← Rtype.kind src) == 20 then
        match val with
        | .nilIface => unsupported (.noEntry "extern/reflectlite: a nil value of one interface type handed on as a value of another")
        | _ => storeVar dst a val
      else storeVar dst a (.iface src val)
    else panicString ("reflectlite.Set: value of type " ++ (← Rtype.spelt src) ++ " is not assignable to type " ++ (← Rtype.spelt dst))
    pure (.tuple #[])) := rfl
theorem partsTa (a : Addr) (w : World) : (ReflectliteValue.parts (.agg #[H T, .pointer (some a), .int .u64 409])).run Tryz.prog w = .ok (some (T, a, 409)) w := by kernel_rfl
theorem partsT (a : Addr) (w : World) : (ReflectliteValue.parts (.agg #[H T, .pointer (some a), .int .u64 153])).run Tryz.prog w = .ok (some (T, a, 153)) w := by kernel_rfl
theorem directT (w : World) : (Rtype.directlyAssignable T T).run Tryz.prog w = .ok true w := by kernel_rfl
theorem sizeT (w : World) : (sizeOf T).run Tryz.prog w = .ok 1 w := by kernel_rfl
theorem isAggT (w : World) : (isAgg T).run Tryz.prog w = .ok true w := by kernel_rfl
theorem setT (ta b : Addr) (x : Int) (old : Value) (W : World) (hb : W.cell? b = some (.int .i64 x)) (ht : W.cell? ta = some old) (hf : W.frozen? ta = false) :
    (ReflectliteValue.set #[.agg #[H T, .pointer (some ta), .int .u64 409], .agg #[H T, .pointer (some b), .int .u64 153]]).run Tryz.prog W
      = .ok (.tuple #[]) (W.setCell ta (.int .i64 x)) := by
  rw [rls]
  simp only [Sem.run_bind, partsTa, partsT, Result.andThen]
  have hl : (loadCells b 1).run Tryz.prog W = .ok #[.int .i64 x] W := by
    have := run_loadCells_list (P := Tryz.prog) (w := W) b [.int .i64 x] (by
      intro j v hv
      cases j with
      | zero => simp at hv; subst hv; rw [show b.add 0 = b by cases b; simp [Addr.add]]; exact hb
      | succ j => simp at hv)
    simpa using this
  have ha0 : ta.add 0 = ta := by cases ta; simp [Addr.add]
  simp [ReflectliteValue.flagAddr, loadVar, isAggT, sizeT, hl, Result.andThen, directT, storeVar, Value.cells, storeCells, ha0]
  rw [run_store Tryz.prog W ta _ _ (by rfl)]
  simp [ht, hf]
theorem as_nil (t : Value) (w : World) :
    Calls Tryz.prog 64 #[.nilIface, t] w fun e w' => e = .returned (.bool false) ∧ w = w' := by
  go_enter Tryz.func64, Tryz.ntmps64
  go_wp2
  go_ret
  exact ⟨rfl, rfl⟩
abbrev W1 (w : World) (tb : Nat) : World := w.alloc (.cells #[.pointer (some ⟨tb, 0, none⟩)] PT)
abbrev VT : Nat := 115
abbrev W3 (w : World) (tb : Nat) : World := ((W1 w tb).alloc (.cells #[H PT, .pointer (some ⟨w.heap.size, 0, none⟩), .int .u64 150] VT)).alloc (.cells #[H PT, .pointer (some ⟨w.heap.size, 0, none⟩), .int .u64 150] VT)
set_option maxRecDepth 100000 in
set_option maxHeartbeats 4000000 in
theorem as_hit (x : Int) (tb : Nat) (old : Value) (w : World) (hg : w.cell? ⟨0, 0, none⟩ = some (.iface RT (.agg #[H 73]))) (ht : Blk w tb #[old] T) :
    Calls Tryz.prog 64 #[.iface T (.agg #[.int .i64 x]), .iface PT (.pointer (some ⟨tb, 0, none⟩))] w fun e w' => e = .returned (.bool true) ∧ w' = ((W3 w tb).alloc (.cells #[.int .i64 x] T)).setCell ⟨tb, 0, none⟩ (.int .i64 x) := by
  have h6 := @run_callFunc_extern Tryz.prog 79 _ (fun args => ReflectliteValue.unpack (args.getD 0 (.tuple #[]))) Tryz.func79 (by kernel_rfl) (by kernel_rfl) (by kernel_rfl) (by kernel_rfl)
  have h7 := @run_callFunc_extern Tryz.prog 80 _ (ReflectliteValue.methodAny (ReflectliteValue.valueError "reflectlite.Value.Type" 0) (fun t _ _ _ => ReflectliteType.toType t)) Tryz.func80 (by kernel_rfl) (by kernel_rfl) (by kernel_rfl) (by kernel_rfl)
  have h8 := @run_callFunc_extern Tryz.prog 81 _ (ReflectliteValue.method (ReflectliteValue.valueError "reflectlite.Value.IsNil" 0) ReflectliteValue.isNil) Tryz.func81 (by kernel_rfl) (by kernel_rfl) (by kernel_rfl) (by kernel_rfl)
  have h27 := @run_callFunc_extern Tryz.prog 114 _ (ReflectliteType.abiMethod fun t => do pure (.int .u8 (← Rtype.kind t))) Tryz.func114 (by kernel_rfl) (by kernel_rfl) (by kernel_rfl) (by kernel_rfl)
  have h37 := @run_callFunc_extern Tryz.prog 125 _ (ReflectliteType.method ReflectliteType.elem) Tryz.func125 (by kernel_rfl) (by kernel_rfl) (by kernel_rfl) (by kernel_rfl)
  have h38 := @run_callFunc_extern Tryz.prog 126 _ (ReflectliteType.relation "Implements" ReflectliteType.implements_) Tryz.func126 (by kernel_rfl) (by kernel_rfl) (by kernel_rfl) (by kernel_rfl)
  have h10 := @run_callFunc_extern Tryz.prog 89 _ ReflectliteType.typeOf Tryz.func89 (by kernel_rfl) (by kernel_rfl) (by kernel_rfl) (by kernel_rfl)
  have h35 := @run_callFunc_extern Tryz.prog 123 _ (ReflectliteType.relation "AssignableTo" ReflectliteType.assignableTo) Tryz.func123 (by kernel_rfl) (by kernel_rfl) (by kernel_rfl) (by kernel_rfl)
  have h11 := @run_callFunc_extern Tryz.prog 90 _ (ReflectliteValue.method (ReflectliteValue.valueError "reflectlite.Value.Elem" 0) ReflectliteValue.elem) Tryz.func90 (by kernel_rfl) (by kernel_rfl) (by kernel_rfl) (by kernel_rfl)
  have h12 := @run_callFunc_extern Tryz.prog 91 _ ReflectliteValue.set Tryz.func91 (by kernel_rfl) (by kernel_rfl) (by kernel_rfl) (by kernel_rfl)
  have tO := typeOfT
  have mA := methodAssignableTo
  have a25 := assignableT
  have v25 := valueOfT
  have f6 := valueOfP
  have f7 := typeP
  have mK := methodKind
  have mE := methodElem
  have mI := methodImplements
  have k27 := kindP
  have k25 := kindT
  have e27 := elemP
  have i25 := implementsT
  have htl := ht.lt
  have hgl := World.block_lt_of_cell? w _ hg
  have b1 := Blk.new w #[.pointer (some ⟨tb, 0, none⟩)] PT
  have b2 := b1.alloc (.cells #[H PT, .pointer (some ⟨w.heap.size, 0, none⟩), .int .u64 150] VT)
  have b3 := b2.alloc (.cells #[H PT, .pointer (some ⟨w.heap.size, 0, none⟩), .int .u64 150] VT)
  have n8 := isNilP ⟨w.heap.size, 0, none⟩ ⟨tb, 0, none⟩ _ ((b2.cell 0).trans rfl)
  have hB2 := ((Below.refl w.heap.size w).alloc (Nat.le_refl _) (.cells #[.pointer (some ⟨tb, 0, none⟩)] PT)).alloc (by simp) (.cells #[H PT, .pointer (some ⟨w.heap.size, 0, none⟩), .int .u64 150] VT)
  have hB3 := hB2.alloc (by simp; omega) (.cells #[H PT, .pointer (some ⟨w.heap.size, 0, none⟩), .int .u64 150] VT)
  have hg2 := (hB2.cell (p := ⟨0, 0, none⟩) hgl).trans hg
  have el := elemVP ⟨w.heap.size, 0, none⟩ ⟨tb, 0, none⟩ _ ((b3.cell 0).trans rfl)
  have ht4 := (ht.below hB3 htl).alloc (.cells #[.int .i64 x] T)
  have st := setT ⟨tb, 0, none⟩ ⟨w.heap.size + 1 + 1 + 1, 0, none⟩ x old ((W3 w tb).alloc (.cells #[.int .i64 x] T))
    (by have := (Blk.new (W3 w tb) #[.int .i64 x] T).cell 0; rw [show (W3 w tb).heap.size = w.heap.size + 1 + 1 + 1 by simp] at this; exact this.trans rfl) ((ht4.cell 0).trans rfl) (ht4.frozen 0)
  clear b1 b2 b3 hB2 hB3 ht4 ht hg htl
  go_enter Tryz.func64, Tryz.ntmps64
  go_wp2
  refine wp_loop_rounds 1 ?_
  rw [rounds_succ]
  go_wp2
  go_ret
  exact ⟨rfl, rfl⟩
end Go.Proofs.YtmjmmcdhpognaaaGreatDoor.WldAs
/- Walks of layer 11: the number of an error; parts of slices. -/
namespace Go.Proofs.YtmjmmcdhpognaaaGreatDoor
open Go.RowKit Go.Shelf
attribute [local go_sem] Oper.semAt_some
abbrev ErrT (w : World) : Prop := w.cell? ⟨0, 0, none⟩ = some (.iface WldAs.RT (.agg #[WldAs.H 73]))
set_option maxRecDepth 100000 in
theorem told_any (x : Int) (w : World) (hg : ErrT w) :
    Calls Tryz.prog 40 #[.iface 71 (.agg #[.int .i64 x])] w fun e w' => e = .returned (.int .i64 x) ∧ Below w.heap.size w w' := by
  have b0 := Blk.new w #[.int .i64 0] 71
  have hB0 := (Below.refl w.heap.size w).alloc (Nat.le_refl _) (.cells #[.int .i64 0] 71)
  have hgl := World.block_lt_of_cell? w _ hg
  have HA := Lib.hid (WldAs.as_hit x w.heap.size _ _ ((hB0.cell (p := ⟨0, 0, none⟩) hgl).trans hg) b0)
  clear hg
  go_enter Tryz.func40, Tryz.ntmps40
  go_wp2_with fail
  with_reducible refine HA.out.mono ?_
  rintro e w1 ⟨rfl, hw1⟩
  have hB1 : Below w.heap.size w w1 := by
    rw [hw1]
    exact ((((hB0.alloc (by simp) _).alloc (by simp; omega) _).alloc (by simp; omega) _).alloc (by simp; omega) _).setCell (p := ⟨w.heap.size, 0, none⟩) (Nat.le_refl _) _
  have hc : w1.cell? ⟨w.heap.size, 0, none⟩ = some (.int .i64 x) := by
    have b4 := (((b0.alloc (.cells #[.pointer (some ⟨w.heap.size, 0, none⟩)] WldAs.PT)).alloc (.cells #[WldAs.H WldAs.PT, .pointer (some ⟨w.heap.size + 1, 0, none⟩), .int .u64 150] WldAs.VT)).alloc (.cells #[WldAs.H WldAs.PT, .pointer (some ⟨w.heap.size + 1, 0, none⟩), .int .u64 150] WldAs.VT)).alloc (.cells #[.int .i64 x] WldAs.T)
    have := (b4.set 0 (.int .i64 x)).cell 0
    rw [hw1]
    simpa [WldAs.W3, WldAs.W1] using this
  clear hw1 HA
  go_wp2_with fail
  go_ret
  exact ⟨rfl, hB1⟩
theorem PartsV.sub {W : World} {ao : Option Addr} {cap : Nat} {l : List PartD} (h : PartsV W (.slice ao l.length cap) l) (lo hi m : Nat) (h1 : lo ≤ hi) (h2 : hi ≤ l.length) (h3 : hi ≤ m) (h4 : m ≤ cap) : PartsV W (sliced ao lo hi m 4) ((l.drop lo).take (hi - lo)) := by
  obtain ⟨cs, hs, hr⟩ := h
  refine ⟨(cs.drop (lo * 4)).take ((hi - lo) * 4), ?_, (hr.drop PartC.len lo).take PartC.len (hi - lo)⟩
  have := hs.sub lo hi m h1 h2 h3 h4
  rwa [show ((l.drop lo).take (hi - lo)).length = hi - lo by rw [List.length_take, List.length_drop]; omega]
theorem PartsV.cap_le {W : World} {ao : Option Addr} {cap : Nat} {l : List PartD} (h : PartsV W (.slice ao l.length cap) l) : l.length ≤ cap := by
  obtain ⟨cs, ⟨_, a', c', e, hn, _⟩, _⟩ := h
  cases e; exact hn
theorem partO_one {base tO tS : Nat} {W : World} {l : List PartD} {cs : List Value} (h : Rows (PartO base tO tS W) l cs) : ∀ u ∈ cs, u.oneCell' = true := parts_one (h.mono fun _ _ _ hc => hc.view)
end Go.Proofs.YtmjmmcdhpognaaaGreatDoor
