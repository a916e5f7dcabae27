/- Joined: RuFd; SlRuleFinds -/
import Derived.Test.YtmmdpjliknmhgaaGreatDoorJRN
import Derived.Deep.DeepMust
import Derived.Deep.QuietTactic
import Derived.BigQuiet
/- What RuleFinds leans on: rules that are right, by their Ids and labels. Plain. -/
namespace Go.Proofs.YtmmdpjliknmhgaaGreatDoor
theorem ru_asc {F : List RuT} (h : ruL.right F = true) : ruL.asc 0 F = true := by
  unfold LineS.right at h
  simp only [Bool.and_eq_true] at h
  exact h.1
theorem find_at {F : List RuT} (h : ruL.right F = true) (r : RuT) (hr : r ∈ F) : findRu F r.id = some r := by
  have := ruL.find_self (ru_asc h) r hr
  unfold findRu
  exact this
theorem ids_ne {F : List RuT} (h : ruL.right F = true) {x y : RuT} (hx : x ∈ F) (hy : y ∈ F) (hne : x ≠ y) : x.id ≠ y.id := fun e => by
  have h1 := find_at h x hx
  have h2 := find_at h y hy
  rw [e, h2] at h1
  exact hne (Option.some.inj h1).symm
theorem from_mem {F : List RuT} {a : LaT} {x : RuT} (h : x ∈ fromRu F a) : x ∈ F ∧ x.src = a := by
  unfold fromRu at h
  simpa using h
theorem mem_from {F : List RuT} {x : RuT} (h : x ∈ F) : x ∈ fromRu F x.src := by
  unfold fromRu
  simpa using h
theorem from_le (F : List RuT) (a : LaT) : (fromRu F a).length ≤ F.length := List.length_filter_le _ _
end Go.Proofs.YtmmdpjliknmhgaaGreatDoor
/- A statement of layer 14: RuleFinds. -/
namespace Go.Proofs.YtmmdpjliknmhgaaGreatDoor
open Go.RowKit Go.Shelf
attribute [local go_sem] Oper.semAt_some
/-- whether a rule is among some -/
def InQ (b : Bool) (x : RuT) (l : List RuT) : Prop := b = true ↔ x ∈ l
theorem mem_take_succ {α : Type} (G : List α) (x : α) (k : Nat) (hk : k < G.length) : x ∈ G.take (k + 1) ↔ x ∈ G.take k ∨ x = G[k] := by
  rw [List.take_succ_eq_append_getElem hk, List.mem_append, List.mem_singleton]
set_option maxRecDepth 100000 in
set_option maxHeartbeats 8000000 in
theorem ruleFinds_any (l : List RuT) (hl : l.length ≤ maxLen) (hf : ∀ r ∈ l, r.what.2.2.length ≤ maxLen) (hS : ∀ r ∈ l, r.src.2.1 < 18446744073709551616 ∧ r.dst.2.1 < 18446744073709551616) (v : Value) (ea : Addr) (mx : Int) (w : World) (hG : Glob ea mx w) (hv : RulesV w v l) :
    Calls Tryz.prog 8 #[v] w fun e w' => e = .returned (.bool true) ∧ Below w.heap.size w w' := by
  have hGk := fun W (h : Below w.heap.size w W) => hG.same (W := W) h.block
  have HSh := fun W (h : Below w.heap.size w W) => shown14_any ea mx W (hGk W h)
  have HF := fun W (h : Below w.heap.size w W) => few14_any l hl hf v W (hv.keep (KeepC.of_below h))
  have hFl := fewRu_len l
  have hFo := fewRu_ok l hS
  have HR := fun W (h : Below w.heap.size w W) u hu => ruRight_any (fewRu l) (by omega) hFo u ea W (hGk W h).1 hu
  clear hG hGk hv hFo hS hf hl
  generalize fewRu l = F at *
  cases hR : ruL.right F with
  | false =>
    rw [hR] at HR
    clear hR
    go_enter Tryz.func8, Tryz.ntmps8
    go_wp2_with fail
    with_reducible refine (HSh w (Below.refl w.heap.size w)).mono ?_
    rintro e w1 ⟨rfl, b1⟩
    have B1 := (Below.refl w.heap.size w).trans (b1.mono (Below.refl w.heap.size w).size)
    clear b1
    go_wp2_with fail
    with_reducible refine (HF w1 B1).mono ?_
    rintro e w2 ⟨v2, rfl, o2, b2⟩
    have B2 := B1.trans (b2.mono B1.size)
    clear b2
    obtain ⟨a2, cap2, rfl⟩ := ruOwn_shape o2
    have V2 := RulesO.view o2
    clear o2
    go_wp2_with fail
    with_reducible refine (HR w2 B2 _ V2).mono ?_
    rintro e w3 ⟨rfl, b3⟩
    have B3 := B2.trans (b3.mono B2.size)
    replace V2 := V2.keep (KeepC.of_below b3)
    clear b3
    go_wp2_with fail
    go_ret
    exact ⟨rfl, B3⟩
  | true =>
    rw [hR] at HR
    have hfind := fun x hx => find_at hR x hx
    have hne := fun x y hx hy => ids_ne (x := x) (y := y) hR hx hy
    have HN := fun W n u hu => ruFind_any F (by omega) u n W hu
    have HM := fun W lb u hu => ruFrom_any F (by omega) u lb W hu
    clear hR
    go_enter Tryz.func8, Tryz.ntmps8
    go_wp2_with fail
    with_reducible refine (HSh w (Below.refl w.heap.size w)).mono ?_
    rintro e w1 ⟨rfl, b1⟩
    have B1 := (Below.refl w.heap.size w).trans (b1.mono (Below.refl w.heap.size w).size)
    clear b1
    go_wp2_with fail
    with_reducible refine (HF w1 B1).mono ?_
    rintro e w2 ⟨v2, rfl, o2, b2⟩
    have B2 := B1.trans (b2.mono B1.size)
    clear b2
    obtain ⟨a2, cap2, rfl⟩ := ruOwn_shape o2
    have V2 := RulesO.view o2
    clear o2
    go_wp2_with fail
    with_reducible refine (HR w2 B2 _ V2).mono ?_
    rintro e w3 ⟨rfl, b3⟩
    have B3 := B2.trans (b3.mono B2.size)
    replace V2 := V2.keep (KeepC.of_below b3)
    clear b3
    clear HSh HF HR
    obtain ⟨A2, C2, x2, -, hc⟩ := V2.at
    cases x2
    go_wp2_with fail
    go_loopg [4] F.length (fun gg s4 wr => ∃ kk : Nat, kk ≤ F.length ∧ F.length - kk ≤ gg ∧ s4 = .int .i64 kk ∧ Below w3.heap.size w3 wr)
    case atStart => exact ⟨0, Nat.zero_le _, by omega, rfl, Below.refl _ _⟩
    case round =>
      obtain ⟨kk, hkk, hg, rfl, hB⟩ := hrel
      by_cases hlt : kk < F.length
      · have hltz : (kk : Int) < (F.length : Int) := by omega
        have hkz : (0 : Int) ≤ (kk : Int) := by omega
        have hmem := List.getElem_mem hlt
        obtain ⟨b, o, rfl, -, hcl⟩ := hc kk hlt
        have HN1 := HN wr F[kk].id _ (V2.keep (KeepC.of_below hB))
        rw [hfind _ hmem] at HN1
        have HM1 := fun W (h : Below w3.heap.size w3 W) => HM W F[kk].src _ (V2.keep (KeepC.of_below h))
        have hin := mem_from hmem
        have hof := @from_mem F (F[kk]'hlt).src
        have hid := fun y hy => hne y _ hy hmem
        have hgl := from_le F F[kk].src
        generalize fromRu F F[kk].src = G at *
        clear hc HN HM hfind hne hmem
        obtain ⟨x, hx⟩ : ∃ x, F[kk] = x := ⟨_, rfl⟩
        simp only [hx] at HN1 HM1 hin hof hid hcl
        clear hx
        obtain ⟨id, ⟨l1, S1, i1⟩, ⟨l2, S2, i2⟩, bu, ⟨k, m, form⟩⟩ := x
        dsimp only [Option.getD_some, Option.isSome_some] at *
        obtain ⟨k0, k1, k2, k3, k4, k5, k6, k7, k8, k9, k10⟩ := hcl _ (KeepC.of_below hB)
        go_wp2_with fail
        with_reducible refine HN1.mono ?_
        rintro e w4 ⟨rfl, b4⟩
        have B4 := hB.trans (b4.mono hB.size)
        clear HN1 b4 k0 k1 k2 k3 k4 k5 k6 k7 k8 k9 k10
        have r5 := Blk.new w4 #[.int .i64 id, .int .i64 l1, .int .u64 S1, .int .i64 i1, .int .i64 l2, .int .u64 S2, .int .i64 i2, .int .i64 bu, .int .i64 k, .int .i64 m, .string ⟨form.toArray⟩] 40
        have B5 := B4.alloc B4.size (.cells #[.int .i64 id, .int .i64 l1, .int .u64 S1, .int .i64 i1, .int .i64 l2, .int .u64 S2, .int .i64 i2, .int .i64 bu, .int .i64 k, .int .i64 m, .string ⟨form.toArray⟩] 40)
        have b5 := (Below.refl _ w4).alloc (Nat.le_refl _) (.cells #[.int .i64 id, .int .i64 l1, .int .u64 S1, .int .i64 i1, .int .i64 l2, .int .u64 S2, .int .i64 i2, .int .i64 bu, .int .i64 k, .int .i64 m, .string ⟨form.toArray⟩] 40)
        obtain ⟨k0, k1, k2, k3, k4, k5, k6, k7, k8, k9, k10⟩ := hcl _ (KeepC.of_below B5)
        have HM2 := HM1 _ B5
        go_wp2_with fail
        with_reducible refine HM2.mono ?_
        rintro e w6 ⟨v6, rfl, o6, b6⟩
        generalize w4.alloc (.cells #[.int .i64 id, .int .i64 l1, .int .u64 S1, .int .i64 i1, .int .i64 l2, .int .u64 S2, .int .i64 i2, .int .i64 bu, .int .i64 k, .int .i64 m, .string ⟨form.toArray⟩] 40) = w5 at *
        have B6 := B5.trans (b6.mono B5.size)
        have r6 := r5.below b6 r5.lt
        obtain ⟨a6, cap6, rfl⟩ := ruOwn_shape o6
        have V6 := RulesO.view o6
        clear HM1 HM2 b5 b6 o6 B5 B4 r5 k0 k1 k2 k3 k4 k5 k6 k7 k8 k9 k10
        obtain ⟨A6, C6, x6, -, hc6⟩ := V6.at
        cases x6
        clear V6
        generalize w4.heap.size = rb at *
        go_wp2_with fail
        go_loopg [7, 9] G.length (fun gg s7 s9 wr => ∃ (n2 : Nat) (bb : Bool), n2 ≤ G.length ∧ G.length - n2 ≤ gg ∧ s7 = .bool bb ∧ s9 = .int .i64 n2 ∧ Hid (InQ bb (⟨id, (l1, S1, i1), (l2, S2, i2), bu, (k, m, form)⟩ : RuT) (G.take n2)) ∧ Below w6.heap.size w6 wr)
        case atStart => exact ⟨0, false, Nat.zero_le _, by omega, rfl, rfl, by show _ ↔ _; simp, Below.refl _ _⟩
        case round =>
          obtain ⟨n2, bb, hk2, hg2, hs7, rfl, hI, hB2⟩ := hrel
          subst hs7
          have B7 := B6.trans (hB2.mono B6.size)
          obtain ⟨k0, k1, k2, k3, k4, k5, k6, k7, k8, k9, k10⟩ := hcl _ (KeepC.of_below B7)
          by_cases hlt2 : n2 < G.length
          · have hltz2 : (n2 : Int) < (G.length : Int) := by omega
            have hkz2 : (0 : Int) ≤ (n2 : Int) := by omega
            obtain ⟨b3, o3, rfl, -, hdl⟩ := hc6 n2 hlt2
            obtain ⟨j0, j1, j2, j3, j4, j5, j6, j7, j8, j9, j10⟩ := hdl _ (KeepC.of_below hB2)
            have hst := mem_take_succ G ⟨id, (l1, S1, i1), (l2, S2, i2), bu, (k, m, form)⟩ n2 hlt2
            have hmy := List.getElem_mem hlt2
            obtain ⟨hyF, hys⟩ := hof hmy
            have hyn := hid _ hyF
            clear hof hid hdl hcl hc6 hmy hyF r6
            obtain ⟨y, hy⟩ : ∃ y, G[n2] = y := ⟨_, rfl⟩
            rw [hy] at hst hys hyn j0 j1 j2 j3 j4 j5 j6 j7 j8 j9 j10
            clear hy
            obtain ⟨idy, ⟨l1y, S1y, i1y⟩, ⟨l2y, S2y, i2y⟩, buy, ⟨ky, my, formy⟩⟩ := y
            dsimp only at hst hys hyn j0 j1 j2 j3 j4 j5 j6 j7 j8 j9 j10
            cases hys
            by_cases he : (⟨idy, (l1, S1, i1), (l2y, S2y, i2y), buy, (ky, my, formy)⟩ : RuT) = ⟨id, (l1, S1, i1), (l2, S2, i2), bu, (k, m, form)⟩
            · cases he
              have hI2 : Hid (InQ true (⟨id, (l1, S1, i1), (l2, S2, i2), bu, (k, m, form)⟩ : RuT) (G.take (n2 + 1))) := by show _ ↔ _; rw [hst]; simp
              clear hst hyn hI hin
              cases bb
              all_goals
                go_wp2_with fail
                go_quiet (fail)
                go_wp2_with fail
                go_quiet (fail)
                go_wp2_with fail
                go_roundg (G.length - (n2 + 1))
                case measure => omega
                case rel => exact ⟨n2 + 1, true, by omega, by omega, rfl, by go_num, hI2, below_drewN hB2 _⟩
            · have hI2 : Hid (InQ bb (⟨id, (l1, S1, i1), (l2, S2, i2), bu, (k, m, form)⟩ : RuT) (G.take (n2 + 1))) := by have hI0 : bb = true ↔ _ := hI.out; show _ ↔ _; rw [hst, hI0]; exact ⟨.inl, fun h => h.resolve_right fun e => he e.symm⟩
              have zI : (idy == id) = false := by rw [beq_eq_false_iff_ne]; exact hyn he
              clear hst hyn hI hin he
              cases bb
              all_goals
                go_wp2_with fail
                go_quiet (fail)
                go_wp2_with fail
                go_quiet (fail)
                go_wp2_with fail
                go_roundg (G.length - (n2 + 1))
                case measure => omega
                case rel => exact ⟨n2 + 1, _, by omega, by omega, rfl, by go_num, hI2, below_drewN hB2 _⟩
          · have hltz2 : ¬ (n2 : Int) < (G.length : Int) := by omega
            have hbb : bb = true := by have hI0 : bb = true ↔ _ := hI.out; rw [hI0, List.take_of_length_le (by omega)]; exact hin
            subst hbb
            have r7 := r6.below hB2 r6.lt
            have c0 : wr.cell? ⟨rb, 0, none⟩ = some (.int .i64 id) := (r7.cell 0).trans rfl
            have c1 : wr.cell? ⟨rb, 1, none⟩ = some (.int .i64 l1) := (r7.cell 1).trans rfl
            have c2 : wr.cell? ⟨rb, 2, none⟩ = some (.int .u64 S1) := (r7.cell 2).trans rfl
            have c3 : wr.cell? ⟨rb, 3, none⟩ = some (.int .i64 i1) := (r7.cell 3).trans rfl
            have c4 : wr.cell? ⟨rb, 4, none⟩ = some (.int .i64 l2) := (r7.cell 4).trans rfl
            have c5 : wr.cell? ⟨rb, 5, none⟩ = some (.int .u64 S2) := (r7.cell 5).trans rfl
            have c6 : wr.cell? ⟨rb, 6, none⟩ = some (.int .i64 i2) := (r7.cell 6).trans rfl
            have c7 : wr.cell? ⟨rb, 7, none⟩ = some (.int .i64 bu) := (r7.cell 7).trans rfl
            have c8 : wr.cell? ⟨rb, 8, none⟩ = some (.int .i64 k) := (r7.cell 8).trans rfl
            have c9 : wr.cell? ⟨rb, 9, none⟩ = some (.int .i64 m) := (r7.cell 9).trans rfl
            have c10 : wr.cell? ⟨rb, 10, none⟩ = some (.string ⟨form.toArray⟩) := (r7.cell 10).trans rfl
            clear hI hin hof hid hcl hc6 r6 r7
            go_wp2_with fail
            go_quiet (fail)
            have B8 := below_drewN B7 nq
            go_wp2_with fail
            go_roundg (F.length - (kk + 1))
            case measure => omega
            case rel => exact ⟨kk + 1, by omega, by omega, by go_num, B8⟩
      · have hltz : ¬ (kk : Int) < (F.length : Int) := by omega
        clear hc HN HM hfind hne
        go_wp2_with fail
        go_ret
        exact ⟨rfl, B3.trans (hB.mono B3.size)⟩
end Go.Proofs.YtmmdpjliknmhgaaGreatDoor
