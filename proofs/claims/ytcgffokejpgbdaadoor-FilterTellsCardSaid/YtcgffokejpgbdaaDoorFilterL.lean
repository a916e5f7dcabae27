/- Walks of layer 13: the filter of a print. -/
import Derived.Test.YtcgffokejpgbdaaDoorFilterJ
import Derived.Test.YtcgffokejpgbdaaDoorFilterK
import Derived.Test.YtcgffokejpgbdaaDoorCut
import Derived.Deep.RegionWith
import Derived.Deep.DeepCutAuto
namespace Go.Proofs.YtcgffokejpgbdaaDoor
open Go.RowKit Go.Maps
/-- a word's kind; 0: it is none -/
def kindOf (l : List UInt8) : Int := if l = wLen then 1 else if l = wClass then 2 else if l = wForm then 3 else 0
theorem kindOf_at (l : List UInt8) : kindsD.atKey (.string l) (.lit (.int .i64 0)) = .lit (.int .i64 (kindOf l)) := by
  rw [kindsD_eq]
  by_cases h1 : l = wLen
  · subst h1; rfl
  · by_cases h2 : l = wClass
    · subst h2; rfl
    · by_cases h3 : l = wForm
      · subst h3; rfl
      · simp [DataW.atKey, Lit.sameKey, kindOf, h1, h2, h3, Ne.symm h1, Ne.symm h2, Ne.symm h3]
theorem zeroI (w : World) : (zeroValue 3).run Tryd.prog w = .ok (.int .i64 0) w := by kernel_rfl
theorem lookK (l : List UInt8) (hl : l.length ≤ maxLen) (mb : Nat) (w : World) (h : ownsKinds w mb) : (Instr.lookup 54 (.map (some mb)) (.string ⟨l.toArray⟩) false).run Tryd.prog w = .ok (.int .i64 (kindOf l)) w := by
  obtain ⟨c, hrun, hat, _⟩ := h.lookup_int (t := 54) keyStr Tryd.underlying54 Tryd.underlying3 (zeroI w) (key := .string ⟨l.toArray⟩) (kl := .string l) (WideMaps.keyOf_string_mk Tryd.underlying9 (by rw [ba_size]; exact hl))
  rw [kindOf_at] at hat
  cases hat
  exact hrun
def pWord (l : List UInt8) : List UInt8 := (cutL 32 l).1
def pRest (l : List UInt8) : List UInt8 := (cutL 32 l).2.1
def pKind (l : List UInt8) : Int := kindOf (pWord l)
def pMax (l : List UInt8) : Int := numL (cutL 32 (pRest l)).1
def pForm (l : List UInt8) : List UInt8 := (cutL 32 (pRest l)).2.1
abbrev zF : Array Value := #[.int .i64 0, .int .i64 0, .string ⟨#[]⟩]

def parseV2 (k m : Int) (form l : List UInt8) : Ending := .returned (if rightB k m form && (printL k m form == l) then .tuple #[fV k m form, .int .i64 0] else .tuple #[.agg zF, .int .i64 130])
/-- What Parse hands back. -/
def parseV (l : List UInt8) : Ending := parseV2 (pKind l) (pMax l) (pForm l) l
/-- What the region that builds the filter leaves. -/
def Built (w : World) (k m : Int) (form : List UInt8) (v : Value) (wx : World) : Prop :=
  ∃ g, v = .pointer (some ⟨g, 0, none⟩) ∧ w.heap.size < g ∧ Blk wx g #[.int .i64 k, .int .i64 m, .string ⟨form.toArray⟩] 23 ∧ Blk wx w.heap.size zF 23 ∧ Below w.heap.size w wx

theorem built_new (w W : World) (k m : Int) (form : List UInt8) (hk : Blk W w.heap.size zF 23) (hb : Below w.heap.size w W) :
    Built w k m form (.pointer (some ⟨W.heap.size, 0, none⟩)) (W.alloc (.cells #[.int .i64 k, .int .i64 m, .string ⟨form.toArray⟩] 23)) :=
  ⟨W.heap.size, rfl, hk.lt, Blk.new _ _ _, hk.alloc _, hb.alloc hb.size _⟩
theorem built_store (w W : World) (g : Nat) (k m : Int) (form : List UInt8) (hz : Blk W g zF 23) (hk : Blk W w.heap.size zF 23) (hb : Below w.heap.size w W) (hg : w.heap.size < g) :
    Built w k m form (.pointer (some ⟨g, 0, none⟩)) (((W.setCell ⟨g, 0, none⟩ (.int .i64 k)).setCell ⟨g, 1, none⟩ (.int .i64 m)).setCell ⟨g, 2, none⟩ (.string ⟨form.toArray⟩)) :=
  ⟨g, rfl, hg, by simpa using ((hz.set 0 (.int .i64 k)).set 1 (.int .i64 m)).set 2 (.string ⟨form.toArray⟩), ((hk.other 0 _ (by omega)).other 1 _ (by omega)).other 2 _ (by omega),
    ((hb.setCell (p := ⟨g, 0, none⟩) (by show w.heap.size ≤ g; omega) _).setCell (p := ⟨g, 1, none⟩) (by show w.heap.size ≤ g; omega) _).setCell (p := ⟨g, 2, none⟩) (by show w.heap.size ≤ g; omega) _⟩

theorem mid2 {w U w2 : World} {o1 : Obj} {b : Nat} (hk : Blk U w.heap.size zF 23) (hb : Below w.heap.size w U) (hs : U.heap.size = w.heap.size + 1) (hg : (U.alloc o1).grownBy w2 (some b)) (h : w.heap.size < b) : Blk w2 w.heap.size zF 23 ∧ Below w.heap.size w w2 :=
  ⟨(hk.alloc _).kept hg (by simp only [ne_eq, Option.some.injEq]; omega), (hb.alloc (by omega) _).grown hg (by rw [World.size_alloc]; omega) (fun k e => by cases e; omega)⟩
theorem mid2b {w U w2 : World} {o1 o2 : Obj} {b : Nat} (hk : Blk U w.heap.size zF 23) (hb : Below w.heap.size w U) (hs : U.heap.size = w.heap.size + 1) (hg : ((U.alloc o1).alloc o2).grownBy w2 (some b)) (h : w.heap.size < b) : Blk w2 w.heap.size zF 23 ∧ Below w.heap.size w w2 :=
  ⟨((hk.alloc _).alloc _).kept hg (by simp only [ne_eq, Option.some.injEq]; omega), ((hb.alloc (by omega) _).alloc (by rw [World.size_alloc]; omega) _).grown hg (by rw [World.size_alloc, World.size_alloc]; omega) (fun k e => by cases e; omega)⟩
/-- the zero block laid ahead of the words' box, behind it -/
theorem mid2z {w U w2 : World} {o2 : Obj} (hs : U.heap.size = w.heap.size + 1) (hg : ((U.alloc (.cells zF 23)).alloc o2).grownBy w2 (some (w.heap.size + 1 + 1))) : Blk w2 (w.heap.size + 1) zF 23 :=
  ((Blk_at hs.symm).alloc _).kept hg (by simp only [ne_eq, Option.some.injEq]; omega)
theorem mid2y {w U w2 : World} {o1 : Obj} (hs : U.heap.size = w.heap.size + 1) (hg : ((U.alloc o1).alloc (.cells zF 23)).grownBy w2 (some (w.heap.size + 1))) : Blk w2 (w.heap.size + 1 + 1) zF 23 :=
  (Blk_at (by rw [World.size_alloc, hs])).kept hg (by simp only [ne_eq, Option.some.injEq]; omega)
theorem mid3 {w w2 w3 : World} (h : Blk w2 w.heap.size zF 23 ∧ Below w.heap.size w w2) (hb : Below w2.heap.size w2 w3) : Blk w3 w.heap.size zF 23 ∧ Below w.heap.size w w3 :=
  ⟨h.1.below hb h.1.lt, h.2.trans (hb.mono h.2.size)⟩
theorem mid3b {w w2 w3 : World} {o : Obj} (h : Blk w2 w.heap.size zF 23 ∧ Below w.heap.size w w2) (hb : Below (w2.alloc o).heap.size (w2.alloc o) w3) : Blk w3 w.heap.size zF 23 ∧ Below w.heap.size w w3 :=
  ⟨(h.1.alloc o).below hb (h.1.alloc o).lt, (h.2.alloc h.2.size o).trans (hb.mono (by rw [World.size_alloc]; have := h.2.size; omega))⟩

set_option maxRecDepth 100000 in
set_option maxHeartbeats 4000000 in
theorem parse_any (l : List UInt8) (hl : l.length ≤ 1000000) (ea : Addr) (w : World) (hge : w.cell? ⟨0, 0, none⟩ = some (eV ea)) :
    Calls Tryd.prog 24 #[.string ⟨l.toArray⟩] w fun e w' => e = parseV l ∧ Below w.heap.size w w' := by
  have hgs : 0 < w.heap.size := World.block_lt_of_cell? w _ hge
  have hB0 := (Below.refl w.heap.size w).alloc (Nat.le_refl _) (.cells zF 23)
  have hC1 := fun W => cut_any 32 l hl W
  have hC2 := fun W => cut_any 32 (cutL 32 l).2.1 (by have := (cutL_len 32 l).2; omega) W
  have hlw : (cutL 32 l).1.length ≤ maxLen := by have := (cutL_len 32 l).1; unfold maxLen; omega
  have hKW := fun mb W h => lookK (cutL 32 l).1 hlw mb W h
  have hN := number_any (cutL 32 (cutL 32 l).2.1).1
  have hPV : parseV l = parseV2 (kindOf (cutL 32 l).1) (numL (cutL 32 (cutL 32 l).2.1).1) (cutL 32 (cutL 32 l).2.1).2.1 l := rfl
  rw [hPV]
  clear hPV
  have hlf : (cutL 32 (cutL 32 l).2.1).2.1.length ≤ 1000000 := by have h1 := (cutL_len 32 l).2; have h2 := (cutL_len 32 (cutL 32 l).2.1).2; omega
  generalize hA : (cutL 32 l).1 = A at *
  generalize hB : (cutL 32 l).2.1 = B at *
  generalize (cutL 32 l).2.2 = C at *
  generalize hA2 : (cutL 32 B).1 = A2 at *
  generalize hB2 : (cutL 32 B).2.1 = B2 at *
  generalize (cutL 32 B).2.2 = C2 at *
  generalize kindOf A = K at *
  generalize numL A2 = M at *
  have HC1 := Lib.hid hC1; have HC2 := Lib.hid hC2; have HKW := Lib.hid hKW; have HN := Lib.hid hN
  clear hC1 hC2 hKW hN hA hB hA2 hB2
  go_enter Tryd.func24, Tryd.ntmps24
  go_upto_region 3 with (first | (go_at_call_of 37 (Value.string ⟨l.toArray⟩); refine (HC1.out _).mono ?_; rintro e w' ⟨rfl, n1, rfl⟩) | (go_at_call_of 37 (Value.string ⟨B.toArray⟩); refine (HC2.out _).mono ?_; rintro e w' ⟨rfl, n2, rfl⟩))
  have b0 : Blk (((w.alloc (.cells zF 23)).drewN n1).drewN n2) w.heap.size zF 23 := Blk.new w _ _
  have hB1 : Below w.heap.size w (((w.alloc (.cells zF 23)).drewN n1).drewN n2) := below_drewN (below_drewN hB0 n1) n2
  have hz1 : (((w.alloc (.cells zF 23)).drewN n1).drewN n2).heap.size = w.heap.size + 1 := by simp
  clear HC1 HC2 hB0
  go_cut [10] (fun v wx => Built w K M B2 v wx)
  case first =>
    go_region_with (first
      | (go_at_call 33; refine (kinds_any _ (.int .u32 0) _ (by first | exact Blk_at (by simp) | exact Blk_at2 (by simp) | exact Blk.drew (Blk_at (by simp)) | exact Blk.drew (Blk_at2 (by simp)))).mono ?_; rintro e w2 ⟨mb, rfl, ho2, hg2⟩; have hk2 := HKW.out mb w2 ho2; have ho2a := World.ownsMap.alloc ho2 (.cells zF 23); have hk2a := HKW.out mb _ ho2a; obtain ⟨hc2, hf2⟩ := grown_cells hg2; have hz2 := hg2.size; (try simp at hz2); (try have hz2a : w.heap.size + 1 < w2.heap.size := by omega); (try have hz2b : w.heap.size + 1 + 1 < w2.heap.size := by omega))
      | (go_at_call 38; refine (HN.out _).mono ?_; rintro e w3 ⟨rfl, hb3⟩; have ho3 : ownsKinds w3 _ := World.ownsMap.kept (by first | exact ho2 | exact ho2a) (grown_of_below hb3 none) (by simp); have hk3 := HKW.out _ w3 ho3; have ho3a := World.ownsMap.alloc ho3 (.cells zF 23); have hk3a := HKW.out _ _ ho3a; obtain ⟨hc3, hf3⟩ := below_cells hb3; have hz3 := hb3.size; (try simp at hz3); (try have hz3a : w.heap.size + 1 < w3.heap.size := by omega); (try have hz3b : w.heap.size + 1 + 1 < w3.heap.size := by omega)))
    all_goals (go_wp2_with fail; go_meet)
    all_goals
      have hU : Blk ((w.alloc (.cells zF 23)).drewN (n1 + n2 + 1)) w.heap.size zF 23 ∧ Below w.heap.size w ((w.alloc (.cells zF 23)).drewN (n1 + n2 + 1)) ∧ ((w.alloc (.cells zF 23)).drewN (n1 + n2 + 1)).heap.size = w.heap.size + 1 := ⟨Blk.new w _ _, below_drewN ((Below.refl _ w).alloc (Nat.le_refl _) _) _, by simp⟩
      have h2 : Blk w2 w.heap.size zF 23 ∧ Below w.heap.size w w2 := by
        first | exact mid2 hU.1 hU.2.1 hU.2.2 hg2 (by omega) | exact mid2b hU.1 hU.2.1 hU.2.2 hg2 (by omega)
      have h3 : Blk w3 w.heap.size zF 23 ∧ Below w.heap.size w w3 := by
        first | exact mid3 h2 hb3 | exact mid3b h2 hb3
      first
        | exact built_new w w3 K M B2 h3.1 h3.2
        | exact built_store w w3 _ K M B2 ((Blk.new w2 zF 23).below hb3 (by rw [World.size_alloc]; omega)) h3.1 h3.2 (by omega)
        | exact built_store w w3 _ K M B2 ((mid2z hU.2.2 hg2).below hb3 (by omega)) h3.1 h3.2 (by omega)
        | exact built_store w w3 _ K M B2 ((mid2y hU.2.2 hg2).below hb3 (by omega)) h3.1 h3.2 (by omega)
  case rest =>
    obtain ⟨g, rfl, hgw, hfg, hf0, hBc⟩ := hcut
    have g0 := hfg.cell 0
    have g1 := hfg.cell 1
    have g2 := hfg.cell 2
    have r0 := hf0.cell 0
    have r1 := hf0.cell 1
    have r2 := hf0.cell 2
    have f0 := hf0.frozen 0
    have f1 := hf0.frozen 1
    have f2 := hf0.frozen 2
    simp at g0 g1 g2 r0 r1 r2
    have hgc : wc.cell? ⟨0, 0, none⟩ = some (eV ea) := (hBc.cell (p := ⟨0, 0, none⟩) hgs).trans hge
    clear HKW HN b0 hB1 hz1
    cases hr : rightB K M B2 with
    | false =>
      have HP := print_no K M B2 (by unfold maxLen; omega) ea wc hgc hr
      have HV : Hid (parseV2 K M B2 l = .returned (.tuple #[.agg zF, .int .i64 130])) := by show _ = _; rw [parseV2, hr]; rfl
      clear hr r0 r1 r2 f0 f1 f2
      go_wp2_with fail
      refine HP.mono ?_
      rintro e w6 ⟨rfl, hb6⟩
      clear HP
      have hf6 := hf0.below hb6 hf0.lt
      have hB6 : Below w.heap.size w w6 := hBc.trans (hb6.mono hBc.size)
      have hg6 : w6.cell? ⟨0, 0, none⟩ = some (eV ea) := (hB6.cell (p := ⟨0, 0, none⟩) hgs).trans hge
      have r0 := hf6.cell 0
      have r1 := hf6.cell 1
      have r2 := hf6.cell 2
      have f0 := hf6.frozen 0
      have f1 := hf6.frozen 1
      have f2 := hf6.frozen 2
      simp at r0 r1 r2
      have hT := told_any ea w6 hg6
      clear hb6
      go_wp2_with (go_at_call 27; refine hT.mono ?_; rintro e w' ⟨rfl, rfl⟩)
      have hfin := ((hf6.set 0 (.int .i64 0)).set 1 (.int .i64 0)).set 2 (.string ⟨#[]⟩)
      have q0 := hfin.cell 0
      have q1 := hfin.cell 1
      have q2 := hfin.cell 2
      simp at q0 q1 q2
      have hBf : Below w.heap.size w (((w6.setCell ⟨w.heap.size, 0, none⟩ (.int .i64 0)).setCell ⟨w.heap.size, 1, none⟩ (.int .i64 0)).setCell ⟨w.heap.size, 2, none⟩ (.string ⟨#[]⟩)) :=
        ((hB6.setCell (p := ⟨w.heap.size, 0, none⟩) (Nat.le_refl _) _).setCell (p := ⟨w.heap.size, 1, none⟩) (Nat.le_refl _) _).setCell (p := ⟨w.heap.size, 2, none⟩) (Nat.le_refl _) _
      refine bodyPost_ret (v := .tuple #[.agg zF, .int .i64 130]) (by simp [results, Tryd.results24, go_sem, q0, q1, q2]) rfl ⟨HV.out.symm, hBf⟩
    | true =>
      have HP := print_yes K M B2 (by unfold maxLen; omega) ea wc hgc hr
      have hv : parseV2 K M B2 l = .returned (if (printL K M B2 == l) then .tuple #[fV K M B2, .int .i64 0] else .tuple #[.agg zF, .int .i64 130]) := by rw [parseV2, hr]; rfl
      generalize printL K M B2 = PL at HP hv
      clear hr r0 r1 r2 f0 f1 f2
      cases hpl : (PL == l) with
      | false =>
        rw [hpl] at hv
        have HV := Lib.hid hv; clear hv
        go_wp2_with fail
        refine HP.mono ?_
        rintro e w6 ⟨rfl, hb6⟩
        clear HP
        have hf6 := hf0.below hb6 hf0.lt
        have hB6 : Below w.heap.size w w6 := hBc.trans (hb6.mono hBc.size)
        have hg6 : w6.cell? ⟨0, 0, none⟩ = some (eV ea) := (hB6.cell (p := ⟨0, 0, none⟩) hgs).trans hge
        have r0 := hf6.cell 0
        have r1 := hf6.cell 1
        have r2 := hf6.cell 2
        have f0 := hf6.frozen 0
        have f1 := hf6.frozen 1
        have f2 := hf6.frozen 2
        simp at r0 r1 r2
        have hT := told_any ea w6 hg6
        clear hb6
        go_wp2_with (go_at_call 27; refine hT.mono ?_; rintro e w' ⟨rfl, rfl⟩)
        have hfin := ((hf6.set 0 (.int .i64 0)).set 1 (.int .i64 0)).set 2 (.string ⟨#[]⟩)
        have q0 := hfin.cell 0
        have q1 := hfin.cell 1
        have q2 := hfin.cell 2
        simp at q0 q1 q2
        have hBf : Below w.heap.size w (((w6.setCell ⟨w.heap.size, 0, none⟩ (.int .i64 0)).setCell ⟨w.heap.size, 1, none⟩ (.int .i64 0)).setCell ⟨w.heap.size, 2, none⟩ (.string ⟨#[]⟩)) :=
          ((hB6.setCell (p := ⟨w.heap.size, 0, none⟩) (Nat.le_refl _) _).setCell (p := ⟨w.heap.size, 1, none⟩) (Nat.le_refl _) _).setCell (p := ⟨w.heap.size, 2, none⟩) (Nat.le_refl _) _
        refine bodyPost_ret (v := .tuple #[.agg zF, .int .i64 130]) (by simp [results, Tryd.results24, go_sem, q0, q1, q2]) rfl ⟨HV.out.symm, hBf⟩
      | true =>
        rw [hpl] at hv
        have HV := Lib.hid hv; clear hv
        go_wp2_with fail
        refine HP.mono ?_
        rintro e w6 ⟨rfl, hb6⟩
        clear HP
        have hf6 := hf0.below hb6 hf0.lt
        have hB6 : Below w.heap.size w w6 := hBc.trans (hb6.mono hBc.size)
        have hg6 : w6.cell? ⟨0, 0, none⟩ = some (eV ea) := (hB6.cell (p := ⟨0, 0, none⟩) hgs).trans hge
        have r0 := hf6.cell 0
        have r1 := hf6.cell 1
        have r2 := hf6.cell 2
        have f0 := hf6.frozen 0
        have f1 := hf6.frozen 1
        have f2 := hf6.frozen 2
        simp at r0 r1 r2
        have hg6' := hfg.below hb6 hfg.lt
        have g0' := hg6'.cell 0
        have g1' := hg6'.cell 1
        have g2' := hg6'.cell 2
        simp at g0' g1' g2'
        clear hb6
        go_wp2
        have hfin := ((hf6.set 0 (.int .i64 K)).set 1 (.int .i64 M)).set 2 (.string ⟨B2.toArray⟩)
        have q0 := hfin.cell 0
        have q1 := hfin.cell 1
        have q2 := hfin.cell 2
        simp at q0 q1 q2
        have hBf : Below w.heap.size w (((w6.setCell ⟨w.heap.size, 0, none⟩ (.int .i64 K)).setCell ⟨w.heap.size, 1, none⟩ (.int .i64 M)).setCell ⟨w.heap.size, 2, none⟩ (.string ⟨B2.toArray⟩)) :=
          ((hB6.setCell (p := ⟨w.heap.size, 0, none⟩) (Nat.le_refl _) _).setCell (p := ⟨w.heap.size, 1, none⟩) (Nat.le_refl _) _).setCell (p := ⟨w.heap.size, 2, none⟩) (Nat.le_refl _) _
        refine bodyPost_ret (v := .tuple #[fV K M B2, .int .i64 0]) (by simp [results, Tryd.results24, go_sem, q0, q1, q2]) rfl ⟨HV.out.symm, hBf⟩
end Go.Proofs.YtcgffokejpgbdaaDoor
