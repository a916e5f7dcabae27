/- Joined: LawG -/
import Derived.Test.YtmjmmcdhpognaaaDoorJWO
import Derived.Test.YtmjmmcdhpognaaaDoorJWM
import Derived.Test.YtmjmmcdhpognaaaDoorJWK
/- The law WorldOwn, walked. -/
namespace Go.Proofs.YtmjmmcdhpognaaaDoor
open Go.RowKit Go.Shelf
attribute [local go_sem] Oper.semAt_some
theorem fewI_idem (l : List (List UInt8)) : fewI (fewI l) = fewI l := by
  unfold fewI
  rw [List.take_of_length_le (by simp; omega), List.map_map]
  exact List.map_congr_left fun s _ => by simp [List.take_take]
theorem fewO_idem (x : ObjD) : fewO (fewO x) = fewO x := by
  unfold fewO
  simp only [fewI_idem, List.take_take, Nat.min_self]
theorem fewS_idem (l : List ObjD) : fewS (fewS l) = fewS l := by
  have h := fewS_len l
  generalize hx : fewS l = x at h
  unfold fewS
  rw [List.take_of_length_le h, ← hx]
  unfold fewS
  rw [List.map_map]
  exact List.map_congr_left fun s _ => fewO_idem s
theorem fewW_idem (l : List PartD) : fewW (fewW l) = fewW l := by
  have h := fewW_len l
  generalize hx : fewW l = x at h
  unfold fewW
  rw [List.take_of_length_le h, ← hx]
  unfold fewW
  rw [List.map_map]
  exact List.map_congr_left fun s _ => by simp only [Function.comp_apply, fewP, fewS_idem]
theorem fitsK_ok {k : Nat} {l : List PartD} (h : FitsK k l) : ∀ x ∈ l, OkP x := fun x hx => by
  have hs := h.2 x hx
  have hm : 1000000 ≤ maxLen := by unfold maxLen; omega
  exact ⟨Nat.le_trans hs.1 hm, fun y hy => ⟨(hs.2 y hy).1, (hs.2 y hy).2.1, Nat.le_trans (hs.2 y hy).2.2.1 hm, (hs.2 y hy).2.2.2⟩⟩
set_option maxRecDepth 100000 in
set_option maxHeartbeats 4000000 in
theorem ownl_any (l : List PartD) (hl : l.length ≤ maxLen) (hi : ∀ x ∈ l, OkP x) (hcl : CsK l) (v : Value) (a : LblD) (ea : Addr) (w : World)
    (hge : w.cell? ⟨1, 0, none⟩ = some (errV8 ea)) (het : ErrT w) (hv : PartsV w v l) :
    Calls Tryd.prog 7 #[v, lblV a] w fun e w' => e = .returned (.bool true) ∧ Below w.heap.size w w' := by
  have HSh := fun W (h : KeepC w W) => shown_any ea W (h.2 _ _ _ hge) (h.2 _ _ _ het)
  have HF := fun W (h : KeepC w W) => few11_any l hl hi v W (hv.keep h)
  have fL := fewW_fits l
  have HF2 := fun W v (h : PartsV W v (fewW l)) => few11_any (fewW l) (Nat.le_trans (fewW_len l) (by decide)) (fitsK_ok fL) v W h
  simp only [fewW_idem] at HF2
  have cL := few_cs hcl
  generalize fewW l = L at *
  have fX := set_fits (a := topL) fL nil_fitS
  have fG := get_fits a fL
  have HG := fun W (h : KeepC w W) v1 (h1 : PartsV W v1 L) => Get_any L fL.w v1 a ea W (h.2 _ _ _ hge) h1
  have HX := fun W (h : KeepC w W) v1 v2 (h1 : PartsV W v1 L) (h2 : ObjsV W v2 []) => Set_any L (fL.w) [] nil_fitS v1 v2 topL ea W (h.2 _ _ _ hge) (h.2 _ _ _ het) h1 h2
  have HL := fun W v1 (h1 : PartsV W v1 L) => Seen_any L (fL.w) cL v1 topL (by decide) W h1
  have fY := seen_fits topL fL
  have HS := fun W v1 v2 (h1 : PartsV W v1 L) (h2 : PartsV W v2 L) => refSame_any L L fL.w fL.w v1 v2 W h1 h2
  rw [sameW_refl] at HS
  have hE : setE L topL [] = 0 ∨ setW L topL [] = [] := by
    by_cases h : setE L topL [] = 0
    · exact .inl h
    · exact .inr (setW_no h)
  have HP := fun B (W0 w : World) v (hp : PartsO B 39 51 9 W0 v (setW L topL [])) (hs : Sq B W0 w) => spoil_any B _ v W0 w hp hs fX.w.1 (fun x hx => (fX.2 x hx).1)
  have HQ := fun B (W0 w : World) v (hp : PartsO B 39 51 9 W0 v (seenW L topL)) (hs : Sq B W0 w) => spoil_any B _ v W0 w hp hs fY.w.1 (fun x hx => (fY.2 x hx).1)
  have hxlen := fX.1
  generalize seenW L topL = Y at *
  generalize setW L topL [] = X at *
  generalize setE L topL [] = E at *
  have hglen : (getW L a).length ≤ 1000000 := fG.1
  generalize getW L a = gt at *
  obtain ⟨l1, S1, i1⟩ := a
  have B0 := (Below.refl _ w).alloc (Nat.le_refl _) (.cells #[.int .i64 l1, .int .u64 S1, .int .i64 i1] 25)
  have n1 := Blk.new w #[.int .i64 l1, .int .u64 S1, .int .i64 i1] 25
  have HE := Lib.hid hE
  clear hge het hv hi fX fL fY hl cL hcl hE fG
  go_enter Tryd.func7, Tryd.ntmps7
  go_wp2_with fail
  generalize (w.alloc (.cells #[.int .i64 l1, .int .u64 S1, .int .i64 i1] 25)) = W0 at *
  with_reducible refine (HSh _ (KeepC.of_below B0)).mono ?_
  rintro e w1 ⟨rfl, b1⟩
  have C1 := b1
  have B1 := B0.trans (b1.mono B0.size)
  go_wp2_with fail
  with_reducible refine (HF _ (KeepC.of_below B1)).mono ?_
  rintro e w2 ⟨vL, rfl, oL, b2⟩
  have C2 := C1.trans (b2.mono C1.size)
  have B2 := B1.trans (b2.mono B1.size)
  clear HSh b1
  have pL := oL.view
  go_wp2_with fail
  with_reducible refine (HF2 _ _ pL).mono ?_
  rintro e w3 ⟨vM, rfl, oM, b3⟩
  have C3 := C2.trans (b3.mono C2.size)
  have B3 := B2.trans (b3.mono B2.size)
  replace pL := pL.keep (KeepC.of_below b3)
  have pM := oM.view
  clear HF HF2 oL b2 oM
  have m := n1.below C3 n1.lt
  have d0 := m.cell 0
  have d1 := m.cell 1
  have d2 := m.cell 2
  simp at d0 d1 d2
  go_wp2_with fail
  with_reducible refine (HG _ (KeepC.of_below B3) _ pL).mono ?_
  rintro e w4 ⟨v4, rfl, o4, b4⟩
  have D4 := b4
  have B4 := B3.trans (b4.mono B3.size)
  clear HG d0 d1 d2 m b3
  go_wp2_with fail
  with_reducible refine (top_any _).mono ?_
  rintro e w5 ⟨rfl, b5⟩
  have D5 := D4.trans (b5.mono D4.size)
  have B5 := B4.trans (b5.mono B4.size)
  have p5 := pL.keep (KeepC.of_below D5)
  go_wp2_with fail
  with_reducible refine (HX _ (KeepC.of_below B5) _ _ p5 (ObjsV.nil _)).mono ?_
  rintro e w6 ⟨v6, rfl, o6, b6⟩
  have D6 := D5.trans (b6.mono D5.size)
  have B6 := B5.trans (b6.mono B5.size)
  clear HX p5
  go_wp2_with fail
  with_reducible refine (top_any _).mono ?_
  rintro e w7 ⟨rfl, b7⟩
  have D7 := D6.trans (b7.mono D6.size)
  have B7 := B6.trans (b7.mono B6.size)
  have p7 := pL.keep (KeepC.of_below D7)
  go_wp2_with fail
  with_reducible refine (HL _ _ p7).mono ?_
  rintro e w8 ⟨v8, rfl, o8, b8⟩
  have D8 := D7.trans (b8.mono D7.size)
  have B8 := B7.trans (b8.mono B7.size)
  clear HL p7
  have E48 : Below w4.heap.size w4 w8 := ((b5.trans (b6.mono b5.size)).trans (b7.mono (b5.trans (b6.mono b5.size)).size)).trans (b8.mono ((b5.trans (b6.mono b5.size)).trans (b7.mono (b5.trans (b6.mono b5.size)).size)).size)
  have E68 : Below w6.heap.size w6 w8 := b7.trans (b8.mono b7.size)
  have q4 : ObjsO w3.heap.size 51 9 w8 v4 gt := o4.kept (grown_of_below E48 none) (RowT.none _ _)
  have q6 : PartsO w3.heap.size 39 51 9 w8 v6 X := (o6.kept (grown_of_below E68 none) (RowT.none _ _)).base D5.size
  have q8 : PartsO w3.heap.size 39 51 9 w8 v8 Y := o8.base D7.size
  have HP6 := fun W h => HP w3.heap.size w8 W v6 q6 h
  have HQ8 := fun W h => HQ w3.heap.size w8 W v8 q8 h
  obtain ⟨a6, c6, e6, -, -⟩ := q6.atW
  subst e6
  obtain ⟨ao, co, rfl, hco, hato⟩ := q4.atW
  clear HP HQ o4 o6 o8 q4 q6 q8 b4 b5 b6 b7 b8 E48 E68 D4 D5 D6 D7 B4 B5 B6 B7
  have FIN : Hid (∀ W', Sq w3.heap.size w8 W' → PartsV W' vL L ∧ PartsV W' vM L ∧ Below w.heap.size w W') := by
    show ∀ W', _
    intro W' h
    have k := KeepC.of_below (D8.trans h.1)
    exact ⟨pL.keep k, pM.keep k, B8.trans (h.1.mono B3.size)⟩
  clear pL pM D8 B8 B3 B2 B1 B0 C1 C2 C3 n1
  generalize w3.heap.size = B at *
  go_wp2_with fail
  go_loopg [11] gt.length (fun gg s3 wr => ∃ (jj : Nat), jj ≤ gt.length ∧ gt.length - jj ≤ gg ∧ s3 = .int .i64 jj ∧ Sq B w8 wr)
  case atStart => exact ⟨0, Nat.zero_le _, by omega, rfl, Sq.refl _ _⟩
  case round =>
    obtain ⟨jj, hjj, hgj, rfl, hBj⟩ := hrel
    by_cases hltj : jj < gt.length
    · have hltzj : (jj : Int) < (gt.length : Int) := by omega
      have hjz : (0 : Int) ≤ (jj : Int) := by omega
      obtain ⟨g2, s0, s2, a2, n2, c2, rfl, hg2, j0, j2, j4, hnc, hhead, hfr⟩ := hato jj hltj
      obtain ⟨t0, j0'⟩ := hBj.text j0 rfl
      have f0' := hBj.2.2 _ (hfr (jj * 5))
      have S1 := hBj.set j0' hg2 ⟨#[111, 116, 104, 101, 114]⟩
      have j4' := S1.same j4 rfl
      clear hato HP6 HQ8 HS
      rcases hhead with rfl | ⟨g3, s3, rfl, hg3, j5, f5⟩
      · go_wp2_with fail
        go_roundg (gt.length - (jj + 1))
        case measure => omega
        case rel => exact ⟨jj + 1, by omega, by omega, by go_num, S1⟩
      · by_cases hn2 : n2 = 0
        · subst hn2
          go_wp2_with fail
          go_roundg (gt.length - (jj + 1))
          case measure => omega
          case rel => exact ⟨jj + 1, by omega, by omega, by go_num, S1⟩
        · have hn2z : (0 : Int) < (n2 : Int) := by omega
          obtain ⟨t5, j5'⟩ := S1.text j5 rfl
          have f5' := S1.2.2 _ f5
          have S2 := S1.set j5' hg3 ⟨#[111, 116, 104, 101, 114]⟩
          go_wp2_with fail
          go_roundg (gt.length - (jj + 1))
          case measure => omega
          case rel => exact ⟨jj + 1, by omega, by omega, by go_num, S2⟩
    · have hltzj : ¬ (jj : Int) < (gt.length : Int) := by omega
      clear hato
      go_wp2_with fail
      with_reducible refine (HP6 _ hBj).mono ?_
      rintro e w9 ⟨rfl, hs9⟩
      go_wp2_with fail
      with_reducible refine (HQ8 _ hs9).mono ?_
      rintro e w10 ⟨rfl, hs10⟩
      have hfin := FIN.out _ hs10
      clear HP6 HQ8 FIN
      go_wp2_with fail
      with_reducible refine (HS _ _ _ hfin.1 hfin.2.1).mono ?_
      rintro e w11 ⟨rfl, b11⟩
      have B11 := hfin.2.2.trans (b11.mono hfin.2.2.size)
      rcases HE.out with rfl | hX
      · go_wp2_with fail
        go_ret
        exact ⟨rfl, B11⟩
      · have hxl : X.length = 0 := by rw [hX]; rfl
        clear hX
        generalize X.length = xl at *
        subst hxl
        by_cases hE0 : E = 0
        · subst hE0
          go_wp2_with fail
          go_ret
          exact ⟨rfl, B11⟩
        · have hE' : (E == 0) = false := by simpa using hE0
          go_wp2_with fail
          go_ret
          exact ⟨rfl, B11⟩
end Go.Proofs.YtmjmmcdhpognaaaDoor
