/- Joined: RuCa; RuH; RuF; RuSm; RuQ; RuK -/
import Derived.Test.YtmmdpjliknmhgaaGreatDoorJRC
import Derived.Test.YtmmdpjliknmhgaaGreatDoorJRA
import Derived.Test.YtmmdpjliknmhgaaGreatDoorJRI
import Derived.Test.YtmmdpjliknmhgaaGreatDoorJRM
import Derived.Test.YtmmdpjliknmhgaaGreatDoorJRK
import Derived.Deep.DeepMust
import Derived.Test.YtmmdpjliknmhgaaGreatDoorJRH
import Derived.Deep.QuietTactic
import Derived.BigQuiet
/- Walks of layer 14: Cats. -/
namespace Go.Proofs.YtmmdpjliknmhgaaGreatDoor
open Go.RowKit Go.Shelf
attribute [local go_sem] Oper.semAt_some
def lessI (a b : Nat) : Int := bits BinOp.andNot IntKind.u64 (a : Int) (b : Int)
theorem less_any (a b : Nat) (w : World) : Calls Tryz.prog 35 #[.int .u64 a, .int .u64 b] w fun e w' => e = .returned (.int .u64 (lessI a b)) ∧ w = w' := by
  have H : Hid (bits BinOp.andNot IntKind.u64 (a : Int) (b : Int) = lessI a b) := rfl
  go_enter Tryz.func35, Tryz.ntmps35
  go_wp2_with fail
  go_ret
  exact ⟨rfl, rfl⟩
set_option maxRecDepth 100000 in
theorem ruCats_any (r : RuT) (w : World) : Calls Tryz.prog 20 #[ruV r] w fun e w' => e = .returned (.int .u64 (lessI r.src.2.1 r.dst.2.1)) ∧ Below w.heap.size w w' := by
  obtain ⟨id, ⟨l1, S1, i1⟩, ⟨l2, S2, i2⟩, bu, ⟨k, m, form⟩⟩ := r
  have HL := fun W => less_any S1 S2 W
  have B0 := (Below.refl _ w).alloc (Nat.le_refl _) (.cells #[.int .i64 id, .int .i64 l1, .int .u64 S1, .int .i64 i1, .int .i64 l2, .int .u64 S2, .int .i64 i2, .int .i64 bu, .int .i64 k, .int .i64 m, .string ⟨form.toArray⟩] 40)
  dsimp only
  generalize lessI S1 S2 = X at *
  go_enter Tryz.func20, Tryz.ntmps20
  go_wp2_with fail
  with_reducible refine (HL _).mono ?_
  rintro e w1 ⟨rfl, rfl⟩
  go_wp2_with fail
  go_ret
  exact ⟨rfl, B0⟩
end Go.Proofs.YtmmdpjliknmhgaaGreatDoor
/- Walks of layer 14's statements: shown. -/
namespace Go.Proofs.YtmmdpjliknmhgaaGreatDoor
open Go.RowKit Go.Shelf
attribute [local go_sem] Oper.semAt_some
theorem ruBottom_any (w : World) : Calls Tryz.prog 25 #[] w fun e w' => e = .returned (.agg #[.int .i64 0, .int .u64 0, .int .i64 7]) ∧ Below w.heap.size w w' := by
  go_enter Tryz.func25, Tryz.ntmps25
  go_wp2
  exact bodyPost_ret (v := .agg #[.int .i64 0, .int .u64 0, .int .i64 7]) (by simp [results, Tryz.results25, go_sem]) rfl ⟨rfl, (Below.refl _ w).alloc (Nat.le_refl _) _⟩
abbrev shR : RuT := ⟨7, (2, 2, 7), (0, 0, 7), 50, (1, 20, [])⟩
abbrev shT : List UInt8 := [114, 117, 108, 101, 32, 55, 32, 76, 50, 123, 49, 125, 73, 55, 32, 76, 48, 73, 55, 32, 53, 48, 32, 108, 101, 110, 32, 50, 48, 10]
theorem sh_right : ruL.right [shR] = true := by decide +kernel
theorem sh_text : ruL.text [shR] = shT := by decide +kernel
theorem sh_pE : ruL.pE [shR] = 0 := (ruL.pE_zero).2 sh_right
theorem sh_pT : ruL.pT [shR] = shT := by unfold LineS.pT; rw [if_pos sh_right]; exact sh_text
theorem sh_there : ruL.rL shT = [shR] ∧ ruL.rN shT = 0 ∧ ruL.rE shT = 0 := by
  have := ruL.law_there sh_pE
  rw [sh_pT] at this; exact this
theorem sh_x : ruL.read [120] = none := rfl
theorem sh_bad : ruL.rE (shT ++ [120, 10]) = 140 ∧ ruL.rN (shT ++ [120, 10]) = 1 := by
  have := (ruL.law_lines sh_pE [120] [] (by decide) (by decide) sh_x).1
  rw [sh_pT] at this; exact this
theorem sh_ok : ∀ r ∈ [shR], OkR r := fun r hr => by rcases List.mem_singleton.1 hr with rfl; exact ⟨by decide, by decide, by decide⟩
theorem sh_less : lessI 2 0 = 2 := by decide +kernel
set_option maxRecDepth 100000 in
set_option maxHeartbeats 8000000 in
theorem shown14_any (ea : Addr) (mx : Int) (w : World) (hG : Glob ea mx w) :
    Calls Tryz.prog 9 #[] w fun e w' => e = .returned (.bool true) ∧ Below w.heap.size w w' := by
  have hGk := fun W (h : Below w.heap.size w W) => hG.same (W := W) h.block
  have HP := fun W (h : Below w.heap.size w W) v hv => ruPrint_any [shR] (by decide) sh_ok v ea W (hGk W h).1 (hGk W h).2.1 (hGk W h).2.2.1 hv
  have H1 := fun W (h : Below w.heap.size w W) => ruParse_any shT (by decide) ea mx W (hGk W h)
  have H2 := fun W (h : Below w.heap.size w W) => ruParse_any (shT ++ [120, 10]) (by decide) ea mx W (hGk W h)
  have HC := fun W => ruCats_any shR W
  rw [sh_pT, sh_pE] at HP
  rw [sh_there.1, sh_there.2.1, sh_there.2.2] at H1
  rw [sh_bad.1, sh_bad.2] at H2
  rw [sh_less] at HC
  clear hGk hG
  go_enter Tryz.func9, Tryz.ntmps9
  go_wp2_with fail
  with_reducible refine (ruBottom_any _).mono ?_
  rintro e w1 ⟨rfl, b1⟩
  go_wp2_with fail
  obtain ⟨W1, hW1⟩ : ∃ W1, w1.alloc (.cells #[.int .i64 7, .int .i64 2, .int .u64 2, .int .i64 7, .int .i64 0, .int .u64 0, .int .i64 7, .int .i64 50, .int .i64 1, .int .i64 20, .string ⟨#[]⟩] 40) = W1 := ⟨_, rfl⟩
  have r1 : Blk W1 w1.heap.size #[.int .i64 7, .int .i64 2, .int .u64 2, .int .i64 7, .int .i64 0, .int .u64 0, .int .i64 7, .int .i64 50, .int .i64 1, .int .i64 20, .string ⟨#[]⟩] 40 := hW1 ▸ Blk.new w1 _ _
  have B1 : Below w.heap.size w W1 := hW1 ▸ b1.alloc b1.size _
  have hz1 : W1.heap.size = w1.heap.size + 1 := by rw [← hW1]; simp
  obtain ⟨W2, hW2⟩ : ∃ W2, W1.alloc (.cells #[.int .i64 7, .int .i64 2, .int .u64 2, .int .i64 7, .int .i64 0, .int .u64 0, .int .i64 7, .int .i64 50, .int .i64 1, .int .i64 20, .string ⟨#[]⟩] 40) = W2 := ⟨_, rfl⟩
  have n2 : Blk W2 (w1.heap.size + 1) #[.int .i64 7, .int .i64 2, .int .u64 2, .int .i64 7, .int .i64 0, .int .u64 0, .int .i64 7, .int .i64 50, .int .i64 1, .int .i64 20, .string ⟨#[]⟩] 40 := hz1 ▸ hW2 ▸ Blk.new W1 _ _
  have B2 : Below w.heap.size w W2 := hW2 ▸ B1.alloc B1.size _
  have b12 : Below W1.heap.size W1 W2 := hW2 ▸ (Below.refl _ W1).alloc (Nat.le_refl _) _
  have r2 := r1.below b12 r1.lt
  have v2 : RulesV W2 (.slice (some ⟨w1.heap.size + 1, 0, none⟩) 1 1) [shR] := ⟨rfl, some ⟨w1.heap.size + 1, 0, none⟩, 1, rfl, Nat.le_refl _, .inr ⟨_, 0, rfl, n2.lt, fun j hj => by
    rw [Nat.zero_add, n2.cell]
    have hj' : j < 11 := hj
    match j, hj' with
    | 0, _ => rfl
    | 1, _ => rfl
    | 2, _ => rfl
    | 3, _ => rfl
    | 4, _ => rfl
    | 5, _ => rfl
    | 6, _ => rfl
    | 7, _ => rfl
    | 8, _ => rfl
    | 9, _ => rfl
    | 10, _ => rfl⟩⟩
  have HP2 := HP W2 B2 _ v2
  try rw [hW1]
  try rw [hW2]
  with_reducible refine HP2.mono ?_
  rintro e w3 ⟨rfl, b3⟩
  have B3 := B2.trans (b3.mono B2.size)
  have r3 := r2.below b3 r2.lt
  have H13 := H1 w3 B3
  clear HP HP2 v2 n2 hW1 hW2 r1 b12 hz1
  go_wp2_with fail
  with_reducible refine H13.mono ?_
  rintro e w4 ⟨v4, rfl, o4, b4⟩
  have B4 := B3.trans (b4.mono B3.size)
  have r4 := r3.below b4 r3.lt
  have H24 := H2 w4 B4
  have hlx : (shT ++ [120, 10]).toArray = (#[114, 117, 108, 101, 32, 55, 32, 76, 50, 123, 49, 125, 73, 55, 32, 76, 48, 73, 55, 32, 53, 48, 32, 108, 101, 110, 32, 50, 48, 10, 120, 10] : Array UInt8) := rfl
  rw [hlx] at H24
  clear hlx
  clear H1 H13
  go_wp2_with fail
  with_reducible refine H24.mono ?_
  rintro e w5 ⟨v5, rfl, -, b5⟩
  have B5 := B4.trans (b5.mono B4.size)
  have r5 := r4.below b5 r4.lt
  have V5 := (RulesO.view o4).keep (KeepC.of_below b5)
  obtain ⟨aL, cL, rfl, -, hcL⟩ := V5.at
  obtain ⟨bL, oL, rfl, -, hL⟩ := hcL 0 (by decide)
  have SK : Hid (∀ U, Below w5.heap.size w5 U → (U.cell? ⟨w1.heap.size, 0, none⟩ = some (.int .i64 7) ∧ U.cell? ⟨w1.heap.size, 1, none⟩ = some (.int .i64 2) ∧ U.cell? ⟨w1.heap.size, 2, none⟩ = some (.int .u64 2) ∧ U.cell? ⟨w1.heap.size, 3, none⟩ = some (.int .i64 7) ∧ U.cell? ⟨w1.heap.size, 4, none⟩ = some (.int .i64 0) ∧ U.cell? ⟨w1.heap.size, 5, none⟩ = some (.int .u64 0) ∧ U.cell? ⟨w1.heap.size, 6, none⟩ = some (.int .i64 7) ∧ U.cell? ⟨w1.heap.size, 7, none⟩ = some (.int .i64 50) ∧ U.cell? ⟨w1.heap.size, 8, none⟩ = some (.int .i64 1) ∧ U.cell? ⟨w1.heap.size, 9, none⟩ = some (.int .i64 20) ∧ U.cell? ⟨w1.heap.size, 10, none⟩ = some (.string ⟨#[]⟩)) ∧ (U.cell? ⟨bL, oL, none⟩ = some (.int .i64 7) ∧ U.cell? ⟨bL, oL + 1, none⟩ = some (.int .i64 2) ∧ U.cell? ⟨bL, oL + 2, none⟩ = some (.int .u64 2) ∧ U.cell? ⟨bL, oL + 3, none⟩ = some (.int .i64 7) ∧ U.cell? ⟨bL, oL + 4, none⟩ = some (.int .i64 0) ∧ U.cell? ⟨bL, oL + 5, none⟩ = some (.int .u64 0) ∧ U.cell? ⟨bL, oL + 6, none⟩ = some (.int .i64 7) ∧ U.cell? ⟨bL, oL + 7, none⟩ = some (.int .i64 50) ∧ U.cell? ⟨bL, oL + 8, none⟩ = some (.int .i64 1) ∧ U.cell? ⟨bL, oL + 9, none⟩ = some (.int .i64 20) ∧ U.cell? ⟨bL, oL + 10, none⟩ = some (.string ⟨#[]⟩))) := by
    show ∀ U, _
    intro U h
    have x := r5.below h r5.lt
    have y := hL U (KeepC.of_below h)
    simp only [Nat.zero_mul, Nat.add_zero] at y
    exact ⟨⟨(x.cell 0).trans rfl, (x.cell 1).trans rfl, (x.cell 2).trans rfl, (x.cell 3).trans rfl, (x.cell 4).trans rfl, (x.cell 5).trans rfl, (x.cell 6).trans rfl, (x.cell 7).trans rfl, (x.cell 8).trans rfl, (x.cell 9).trans rfl, (x.cell 10).trans rfl⟩, y⟩
  clear H2 H24 o4 V5 hcL hL r3 r4 b1 b3 b4 b5
  have hlit : ((⟨(shT).toArray⟩ : ByteArray) == ⟨#[114, 117, 108, 101, 32, 55, 32, 76, 50, 123, 49, 125, 73, 55, 32, 76, 48, 73, 55, 32, 53, 48, 32, 108, 101, 110, 32, 50, 48, 10]⟩) = true := by decide
  go_wp2_with fail
  have D5 : Below w5.heap.size w5 w5.drew := (Below.refl _ w5).drew
  refine wp_region_noPanic ?_
  refine wp_region_held_drew (S := (fun U => (U.cell? ⟨w1.heap.size, 0, none⟩ = some (.int .i64 7) ∧ U.cell? ⟨w1.heap.size, 1, none⟩ = some (.int .i64 2) ∧ U.cell? ⟨w1.heap.size, 2, none⟩ = some (.int .u64 2) ∧ U.cell? ⟨w1.heap.size, 3, none⟩ = some (.int .i64 7) ∧ U.cell? ⟨w1.heap.size, 4, none⟩ = some (.int .i64 0) ∧ U.cell? ⟨w1.heap.size, 5, none⟩ = some (.int .u64 0) ∧ U.cell? ⟨w1.heap.size, 6, none⟩ = some (.int .i64 7) ∧ U.cell? ⟨w1.heap.size, 7, none⟩ = some (.int .i64 50) ∧ U.cell? ⟨w1.heap.size, 8, none⟩ = some (.int .i64 1) ∧ U.cell? ⟨w1.heap.size, 9, none⟩ = some (.int .i64 20) ∧ U.cell? ⟨w1.heap.size, 10, none⟩ = some (.string ⟨#[]⟩)) ∧ (U.cell? ⟨bL, oL, none⟩ = some (.int .i64 7) ∧ U.cell? ⟨bL, oL + 1, none⟩ = some (.int .i64 2) ∧ U.cell? ⟨bL, oL + 2, none⟩ = some (.int .u64 2) ∧ U.cell? ⟨bL, oL + 3, none⟩ = some (.int .i64 7) ∧ U.cell? ⟨bL, oL + 4, none⟩ = some (.int .i64 0) ∧ U.cell? ⟨bL, oL + 5, none⟩ = some (.int .u64 0) ∧ U.cell? ⟨bL, oL + 6, none⟩ = some (.int .i64 7) ∧ U.cell? ⟨bL, oL + 7, none⟩ = some (.int .i64 50) ∧ U.cell? ⟨bL, oL + 8, none⟩ = some (.int .i64 1) ∧ U.cell? ⟨bL, oL + 9, none⟩ = some (.int .i64 20) ∧ U.cell? ⟨bL, oL + 10, none⟩ = some (.string ⟨#[]⟩)))) (by kernel_rfl) ?_ (fun hHeld => ?_)
  · exact SK.out w5 (Below.refl _ _)
  refine wpAnyH_take (i := 0) (oi := _) (v := ?_) (nth_at rfl) (by kernel_rfl) (by kernel_rfl) (by kernel_rfl) (fun _ _ _ h => h) (Or.inl ⟨by rfl, ?_⟩) (by assumption) ?_
  rotate_left 1
  · intro w hSw; (try dsimp only at hSw); (go_simp <;> with_reducible rfl)
  try simp only [Act.put, List.setIfInBounds_toArray, List.set_cons_zero, List.set_cons_succ]
  refine wpAnyH_take (i := 1) (oi := _) (v := ?_) (nth_at rfl) (by kernel_rfl) (by kernel_rfl) (by kernel_rfl) (fun _ _ _ h => h) (Or.inl ⟨by rfl, ?_⟩) (by assumption) ?_
  rotate_left 1
  · intro w hSw; (try dsimp only at hSw); (go_simp <;> with_reducible rfl)
  try simp only [Act.put, List.setIfInBounds_toArray, List.set_cons_zero, List.set_cons_succ]
  refine wpAnyH_take (i := 2) (oi := _) (v := ?_) (nth_at rfl) (by kernel_rfl) (by kernel_rfl) (by kernel_rfl) (fun _ _ _ h => h) (Or.inl ⟨by rfl, ?_⟩) (by assumption) ?_
  rotate_left 1
  · intro w hSw; (try dsimp only at hSw); (go_simp <;> with_reducible rfl)
  try simp only [Act.put, List.setIfInBounds_toArray, List.set_cons_zero, List.set_cons_succ]
  refine wpAnyH_take (i := 3) (oi := _) (v := ?_) (nth_at rfl) (by kernel_rfl) (by kernel_rfl) (by kernel_rfl) (fun _ _ _ h => h) (Or.inl ⟨by rfl, ?_⟩) (by assumption) ?_
  rotate_left 1
  · intro w hSw; (try dsimp only at hSw); (go_simp <;> with_reducible rfl)
  try simp only [Act.put, List.setIfInBounds_toArray, List.set_cons_zero, List.set_cons_succ]
  refine wpAnyH_take (i := 4) (oi := _) (v := ?_) (nth_at rfl) (by kernel_rfl) (by kernel_rfl) (by kernel_rfl) (fun _ _ _ h => h) (Or.inl ⟨by rfl, ?_⟩) (by assumption) ?_
  rotate_left 1
  · intro w hSw; (try dsimp only at hSw); (go_simp <;> with_reducible rfl)
  try simp only [Act.put, List.setIfInBounds_toArray, List.set_cons_zero, List.set_cons_succ]
  refine wpAnyH_take (i := 5) (oi := _) (v := ?_) (nth_at rfl) (by kernel_rfl) (by kernel_rfl) (by kernel_rfl) (fun _ _ _ h => h) (Or.inl ⟨by rfl, ?_⟩) (by assumption) ?_
  rotate_left 1
  · intro w hSw; (try dsimp only at hSw); (go_simp <;> with_reducible rfl)
  try simp only [Act.put, List.setIfInBounds_toArray, List.set_cons_zero, List.set_cons_succ]
  refine wpAnyH_take (i := 6) (oi := _) (v := ?_) (nth_at rfl) (by kernel_rfl) (by kernel_rfl) (by kernel_rfl) (fun _ _ _ h => h) (Or.inl ⟨by rfl, ?_⟩) (by assumption) ?_
  rotate_left 1
  · intro w hSw; (try dsimp only at hSw); (go_simp <;> with_reducible rfl)
  try simp only [Act.put, List.setIfInBounds_toArray, List.set_cons_zero, List.set_cons_succ]
  refine wpAnyH_take (i := 7) (oi := _) (v := ?_) (nth_at rfl) (by kernel_rfl) (by kernel_rfl) (by kernel_rfl) (fun _ _ _ h => h) (Or.inl ⟨by rfl, ?_⟩) (by assumption) ?_
  rotate_left 1
  · intro w hSw; (try dsimp only at hSw); (go_simp <;> with_reducible rfl)
  try simp only [Act.put, List.setIfInBounds_toArray, List.set_cons_zero, List.set_cons_succ]
  refine wpAnyH_take (i := 8) (oi := _) (v := ?_) (nth_at rfl) (by kernel_rfl) (by kernel_rfl) (by kernel_rfl) (fun _ _ _ h => h) (Or.inl ⟨by rfl, ?_⟩) (by assumption) ?_
  rotate_left 1
  · intro w hSw; (try dsimp only at hSw); (go_simp <;> with_reducible rfl)
  try simp only [Act.put, List.setIfInBounds_toArray, List.set_cons_zero, List.set_cons_succ]
  refine wpAnyH_take (i := 9) (oi := _) (v := ?_) (nth_at rfl) (by kernel_rfl) (by kernel_rfl) (by kernel_rfl) (fun _ _ _ h => h) (Or.inl ⟨by rfl, ?_⟩) (by assumption) ?_
  rotate_left 1
  · intro w hSw; (try dsimp only at hSw); (go_simp <;> with_reducible rfl)
  try simp only [Act.put, List.setIfInBounds_toArray, List.set_cons_zero, List.set_cons_succ]
  refine wpAnyH_take (i := 10) (oi := _) (v := ?_) (nth_at rfl) (by kernel_rfl) (by kernel_rfl) (by kernel_rfl) (fun _ _ _ h => h) (Or.inl ⟨by rfl, ?_⟩) (by assumption) ?_
  rotate_left 1
  · intro w hSw; (try dsimp only at hSw); (go_simp <;> with_reducible rfl)
  try simp only [Act.put, List.setIfInBounds_toArray, List.set_cons_zero, List.set_cons_succ]
  refine wpAnyH_take (i := 11) (oi := _) (v := ?_) (nth_at rfl) (by kernel_rfl) (by kernel_rfl) (by kernel_rfl) (fun _ _ _ h => h) (Or.inl ⟨by rfl, ?_⟩) (by assumption) ?_
  rotate_left 1
  · intro w hSw; (try dsimp only at hSw); (go_simp <;> with_reducible rfl)
  try simp only [Act.put, List.setIfInBounds_toArray, List.set_cons_zero, List.set_cons_succ]
  refine wpAnyH_take (i := 12) (oi := _) (v := ?_) (nth_at rfl) (by kernel_rfl) (by kernel_rfl) (by kernel_rfl) (fun _ _ _ h => h) (Or.inl ⟨by rfl, ?_⟩) (by assumption) ?_
  rotate_left 1
  · intro w hSw; (try dsimp only at hSw); (go_simp <;> with_reducible rfl)
  try simp only [Act.put, List.setIfInBounds_toArray, List.set_cons_zero, List.set_cons_succ]
  refine wpAnyH_take (i := 13) (oi := _) (v := ?_) (nth_at rfl) (by kernel_rfl) (by kernel_rfl) (by kernel_rfl) (fun _ _ _ h => h) (Or.inl ⟨by rfl, ?_⟩) (by assumption) ?_
  rotate_left 1
  · intro w hSw; (try dsimp only at hSw); (go_simp <;> with_reducible rfl)
  try simp only [Act.put, List.setIfInBounds_toArray, List.set_cons_zero, List.set_cons_succ]
  refine wpAnyH_take (i := 14) (oi := _) (v := ?_) (nth_at rfl) (by kernel_rfl) (by kernel_rfl) (by kernel_rfl) (fun _ _ _ h => h) (Or.inl ⟨by rfl, ?_⟩) (by assumption) ?_
  rotate_left 1
  · intro w hSw; (try dsimp only at hSw); (go_simp <;> with_reducible rfl)
  try simp only [Act.put, List.setIfInBounds_toArray, List.set_cons_zero, List.set_cons_succ]
  refine wpAnyH_take (i := 15) (oi := _) (v := ?_) (nth_at rfl) (by kernel_rfl) (by kernel_rfl) (by kernel_rfl) (fun _ _ _ h => h) (Or.inl ⟨by rfl, ?_⟩) (by assumption) ?_
  rotate_left 1
  · intro w hSw; (try dsimp only at hSw); (go_simp <;> with_reducible rfl)
  try simp only [Act.put, List.setIfInBounds_toArray, List.set_cons_zero, List.set_cons_succ]
  refine wpAnyH_take (i := 16) (oi := _) (v := ?_) (nth_at rfl) (by kernel_rfl) (by kernel_rfl) (by kernel_rfl) (fun _ _ _ h => h) (Or.inl ⟨by rfl, ?_⟩) (by assumption) ?_
  rotate_left 1
  · intro w hSw; (try dsimp only at hSw); (go_simp <;> with_reducible rfl)
  try simp only [Act.put, List.setIfInBounds_toArray, List.set_cons_zero, List.set_cons_succ]
  refine wpAnyH_take (i := 17) (oi := _) (v := ?_) (nth_at rfl) (by kernel_rfl) (by kernel_rfl) (by kernel_rfl) (fun _ _ _ h => h) (Or.inl ⟨by rfl, ?_⟩) (by assumption) ?_
  rotate_left 1
  · intro w hSw; (try dsimp only at hSw); (go_simp <;> with_reducible rfl)
  try simp only [Act.put, List.setIfInBounds_toArray, List.set_cons_zero, List.set_cons_succ]
  refine wpAnyH_take (i := 18) (oi := _) (v := ?_) (nth_at rfl) (by kernel_rfl) (by kernel_rfl) (by kernel_rfl) (fun _ _ _ h => h) (Or.inl ⟨by rfl, ?_⟩) (by assumption) ?_
  rotate_left 1
  · intro w hSw; (try dsimp only at hSw); (go_simp <;> with_reducible rfl)
  try simp only [Act.put, List.setIfInBounds_toArray, List.set_cons_zero, List.set_cons_succ]
  refine wpAnyH_take (i := 19) (oi := _) (v := ?_) (nth_at rfl) (by kernel_rfl) (by kernel_rfl) (by kernel_rfl) (fun _ _ _ h => h) (Or.inl ⟨by rfl, ?_⟩) (by assumption) ?_
  rotate_left 1
  · intro w hSw; (try dsimp only at hSw); (go_simp <;> with_reducible rfl)
  try simp only [Act.put, List.setIfInBounds_toArray, List.set_cons_zero, List.set_cons_succ]
  refine wpAnyH_take (i := 20) (oi := _) (v := ?_) (nth_at rfl) (by kernel_rfl) (by kernel_rfl) (by kernel_rfl) (fun _ _ _ h => h) (Or.inl ⟨by rfl, ?_⟩) (by assumption) ?_
  rotate_left 1
  · intro w hSw; (try dsimp only at hSw); (go_simp <;> with_reducible rfl)
  try simp only [Act.put, List.setIfInBounds_toArray, List.set_cons_zero, List.set_cons_succ]
  refine wpAnyH_take (i := 21) (oi := _) (v := ?_) (nth_at rfl) (by kernel_rfl) (by kernel_rfl) (by kernel_rfl) (fun _ _ _ h => h) (Or.inl ⟨by rfl, ?_⟩) (by assumption) ?_
  rotate_left 1
  · intro w hSw; (try dsimp only at hSw); (go_simp <;> with_reducible rfl)
  try simp only [Act.put, List.setIfInBounds_toArray, List.set_cons_zero, List.set_cons_succ]
  refine wpAnyH_take (i := 22) (oi := _) (v := ?_) (nth_at rfl) (by kernel_rfl) (by kernel_rfl) (by kernel_rfl) (fun _ _ _ h => h) (Or.inl ⟨by rfl, ?_⟩) (by assumption) ?_
  rotate_left 1
  · intro w hSw; (try dsimp only at hSw); (go_simp <;> with_reducible rfl)
  try simp only [Act.put, List.setIfInBounds_toArray, List.set_cons_zero, List.set_cons_succ]
  refine wpAnyH_take (i := 23) (oi := _) (v := ?_) (nth_at rfl) (by kernel_rfl) (by kernel_rfl) (by kernel_rfl) (fun _ _ _ h => h) (Or.inl ⟨by rfl, ?_⟩) (by assumption) ?_
  rotate_left 1
  · intro w hSw; (try dsimp only at hSw); (go_simp <;> with_reducible rfl)
  try simp only [Act.put, List.setIfInBounds_toArray, List.set_cons_zero, List.set_cons_succ]
  refine wpAnyH_take (i := 24) (oi := _) (v := ?_) (nth_at rfl) (by kernel_rfl) (by kernel_rfl) (by kernel_rfl) (fun _ _ _ h => h) (Or.inl ⟨by rfl, ?_⟩) (by assumption) ?_
  rotate_left 1
  · intro w hSw; (try dsimp only at hSw); (go_simp <;> with_reducible rfl)
  try simp only [Act.put, List.setIfInBounds_toArray, List.set_cons_zero, List.set_cons_succ]
  refine wpAnyH_take (i := 25) (oi := _) (v := ?_) (nth_at rfl) (by kernel_rfl) (by kernel_rfl) (by kernel_rfl) (fun _ _ _ h => h) (Or.inl ⟨by rfl, ?_⟩) (by assumption) ?_
  rotate_left 1
  · intro w hSw; (try dsimp only at hSw); (go_simp <;> with_reducible rfl)
  try simp only [Act.put, List.setIfInBounds_toArray, List.set_cons_zero, List.set_cons_succ]
  refine wpAnyH_take (i := 26) (oi := _) (v := ?_) (nth_at rfl) (by kernel_rfl) (by kernel_rfl) (by kernel_rfl) (fun _ _ _ h => h) (Or.inl ⟨by rfl, ?_⟩) (by assumption) ?_
  rotate_left 1
  · intro w hSw; (try dsimp only at hSw); (go_simp <;> with_reducible rfl)
  try simp only [Act.put, List.setIfInBounds_toArray, List.set_cons_zero, List.set_cons_succ]
  refine wpAnyH_take (i := 27) (oi := _) (v := ?_) (nth_at rfl) (by kernel_rfl) (by kernel_rfl) (by kernel_rfl) (fun _ _ _ h => h) (Or.inl ⟨by rfl, ?_⟩) (by assumption) ?_
  rotate_left 1
  · intro w hSw; (try dsimp only at hSw); (go_simp <;> with_reducible rfl)
  try simp only [Act.put, List.setIfInBounds_toArray, List.set_cons_zero, List.set_cons_succ]
  refine wpAnyH_take (i := 28) (oi := _) (v := ?_) (nth_at rfl) (by kernel_rfl) (by kernel_rfl) (by kernel_rfl) (fun _ _ _ h => h) (Or.inl ⟨by rfl, ?_⟩) (by assumption) ?_
  rotate_left 1
  · intro w hSw; (try dsimp only at hSw); (go_simp <;> with_reducible rfl)
  try simp only [Act.put, List.setIfInBounds_toArray, List.set_cons_zero, List.set_cons_succ]
  refine wpAnyH_take (i := 29) (oi := _) (v := ?_) (nth_at rfl) (by kernel_rfl) (by kernel_rfl) (by kernel_rfl) (fun _ _ _ h => h) (Or.inl ⟨by rfl, ?_⟩) (by assumption) ?_
  rotate_left 1
  · intro w hSw; (try dsimp only at hSw); (go_simp <;> with_reducible rfl)
  try simp only [Act.put, List.setIfInBounds_toArray, List.set_cons_zero, List.set_cons_succ]
  refine wpAnyH_take (i := 30) (oi := _) (v := ?_) (nth_at rfl) (by kernel_rfl) (by kernel_rfl) (by kernel_rfl) (fun _ _ _ h => h) (Or.inl ⟨by rfl, ?_⟩) (by assumption) ?_
  rotate_left 1
  · intro w hSw; (try dsimp only at hSw); (go_simp <;> with_reducible rfl)
  try simp only [Act.put, List.setIfInBounds_toArray, List.set_cons_zero, List.set_cons_succ]
  refine wpAnyH_take (i := 31) (oi := _) (v := ?_) (nth_at rfl) (by kernel_rfl) (by kernel_rfl) (by kernel_rfl) (fun _ _ _ h => h) (Or.inl ⟨by rfl, ?_⟩) (by assumption) ?_
  rotate_left 1
  · intro w hSw; (try dsimp only at hSw); (go_simp <;> with_reducible rfl)
  try simp only [Act.put, List.setIfInBounds_toArray, List.set_cons_zero, List.set_cons_succ]
  refine wpAnyH_take (i := 32) (oi := _) (v := ?_) (nth_at rfl) (by kernel_rfl) (by kernel_rfl) (by kernel_rfl) (fun _ _ _ h => h) (Or.inl ⟨by rfl, ?_⟩) (by assumption) ?_
  rotate_left 1
  · intro w hSw; (try dsimp only at hSw); (go_simp <;> with_reducible rfl)
  try simp only [Act.put, List.setIfInBounds_toArray, List.set_cons_zero, List.set_cons_succ]
  refine wpAnyH_take (i := 33) (oi := _) (v := ?_) (nth_at rfl) (by kernel_rfl) (by kernel_rfl) (by kernel_rfl) (fun _ _ _ h => h) (Or.inl ⟨by rfl, ?_⟩) (by assumption) ?_
  rotate_left 1
  · intro w hSw; (try dsimp only at hSw); (go_simp <;> with_reducible rfl)
  try simp only [Act.put, List.setIfInBounds_toArray, List.set_cons_zero, List.set_cons_succ]
  refine wpAnyH_take (i := 34) (oi := _) (v := ?_) (nth_at rfl) (by kernel_rfl) (by kernel_rfl) (by kernel_rfl) (fun _ _ _ h => h) (Or.inl ⟨by rfl, ?_⟩) (by assumption) ?_
  rotate_left 1
  · intro w hSw; (try dsimp only at hSw); (go_simp <;> with_reducible rfl)
  try simp only [Act.put, List.setIfInBounds_toArray, List.set_cons_zero, List.set_cons_succ]
  refine wpAnyH_take (i := 35) (oi := _) (v := ?_) (nth_at rfl) (by kernel_rfl) (by kernel_rfl) (by kernel_rfl) (fun _ _ _ h => h) (Or.inl ⟨by rfl, ?_⟩) (by assumption) ?_
  rotate_left 1
  · intro w hSw; (try dsimp only at hSw); (go_simp <;> with_reducible rfl)
  try simp only [Act.put, List.setIfInBounds_toArray, List.set_cons_zero, List.set_cons_succ]
  refine wpAnyH_ready (rs := [36]) (by kernel_rfl) (by simp) ?_
  refine AllReadyH.cons (o := _) (nth_at rfl) (fun K hK => ?_) AllReadyH.nil
  go_simp
  refine (HC _).mono ?_
  rintro e w6 ⟨rfl, b6⟩
  have D6 := D5.trans (b6.mono D5.size)
  try clear hHeld
  refine hK.out _ _ ?_ (fun hHeld => ?_)
  · exact SK.out _ D6
  clear hK K
  try simp only [Act.put, List.setIfInBounds_toArray, List.set_cons_zero, List.set_cons_succ]
  refine wpAnyH_take (i := 37) (oi := _) (v := ?_) (nth_at rfl) (by kernel_rfl) (by kernel_rfl) (by kernel_rfl) (fun _ _ _ h => h) (Or.inl ⟨by rfl, ?_⟩) (by assumption) ?_
  rotate_left 1
  · intro w hSw; (try dsimp only at hSw); (go_simp <;> with_reducible rfl)
  try simp only [Act.put, List.setIfInBounds_toArray, List.set_cons_zero, List.set_cons_succ]
  refine wpAnyH_take (i := 38) (oi := _) (v := ?_) (nth_at rfl) (by kernel_rfl) (by kernel_rfl) (by kernel_rfl) (fun _ _ _ h => h) (Or.inl ⟨by rfl, ?_⟩) (by assumption) ?_
  rotate_left 1
  · intro w hSw; (try dsimp only at hSw); (go_simp <;> with_reducible rfl)
  try simp only [Act.put, List.setIfInBounds_toArray, List.set_cons_zero, List.set_cons_succ]
  refine wpAnyH_take (i := 39) (oi := _) (v := ?_) (nth_at rfl) (by kernel_rfl) (by kernel_rfl) (by kernel_rfl) (fun _ _ _ h => h) (Or.inl ⟨by rfl, ?_⟩) (by assumption) ?_
  rotate_left 1
  · intro w hSw; (try dsimp only at hSw); (go_simp <;> with_reducible rfl)
  try simp only [Act.put, List.setIfInBounds_toArray, List.set_cons_zero]
  refine wpAnyH_done (by kernel_rfl) ?_ _
  refine NoPanic.normal ?_
  try clear hHeld
  go_wp2_with fail
  go_ret
  exact ⟨rfl, B5.trans (D6.mono B5.size)⟩
end Go.Proofs.YtmmdpjliknmhgaaGreatDoor
/- Walks of layer 14's statements: cut, Few. -/
namespace Go.Proofs.YtmmdpjliknmhgaaGreatDoor
open Go.RowKit Go.Shelf
attribute [local go_sem] Oper.semAt_some
theorem take_min14 (s : List UInt8) (k : Nat) : s.take (min (s.length : Int) (k : Int)).toNat = s.take k := by
  by_cases h : s.length ≤ k
  · rw [List.take_of_length_le h, List.take_of_length_le]; omega
  · congr 1; omega
theorem cut14_any (s : List UInt8) (hs : s.length ≤ maxLen) (w : World) : Calls Tryz.prog 14 #[.string ⟨s.toArray⟩] w fun e w' => e = .returned (.string ⟨(s.take 1000).toArray⟩) ∧ w = w' := by
  have hz := ba_size s
  unfold maxLen at hs
  have hm := take_min14 s 1000
  have H := Lib.hid hm
  clear hm
  have h1 : (0 : Int) ≤ min (s.length : Int) 1000 := by omega
  have h2 : min (s.length : Int) 1000 ≤ (s.length : Int) := by omega
  go_enter Tryz.func14, Tryz.ntmps14
  go_wp2
  go_ret
  refine ⟨ret_str ?_, rfl⟩
  simpa using H.out
def fewR (r : RuT) : RuT := ⟨r.id, r.src, r.dst, r.budget, (r.what.1, r.what.2.1, r.what.2.2.take 50)⟩
def fewRu (l : List RuT) : List RuT := (l.take 10).map fewR
theorem fewRu_succ (l : List RuT) (k : Nat) (h : k < l.length) (h2 : k < 10) : fewRu (l.take (k + 1)) = fewRu (l.take k) ++ [fewR l[k]] := by
  unfold fewRu
  rw [List.take_take, List.take_take, Nat.min_eq_right (by omega), Nat.min_eq_right (by omega), List.take_succ_eq_append_getElem h, List.map_append]; rfl
theorem fewRu_end (l : List RuT) (k : Nat) (h : k ≤ l.length) (h2 : k ≤ 10) (hk : ¬ (k < l.length ∧ k < 10)) : fewRu (l.take k) = fewRu l := by
  unfold fewRu
  rw [List.take_take, Nat.min_eq_right h2]
  by_cases h3 : k < l.length
  · rw [show k = 10 by omega]
  · rw [show k = l.length by omega, List.take_of_length_le (Nat.le_refl _), List.take_of_length_le (by omega)]
theorem fewRu_at (l : List RuT) (k : Nat) (h : k ≤ l.length) (h2 : k ≤ 10) : (fewRu (l.take k)).length = k := by
  simp [fewRu]; omega
theorem fewRu_len (l : List RuT) : (fewRu l).length ≤ 10 := by simp [fewRu]; omega
theorem fewRu_ok (l : List RuT) (h : ∀ r ∈ l, r.src.2.1 < 18446744073709551616 ∧ r.dst.2.1 < 18446744073709551616) : ∀ r ∈ fewRu l, OkR r := by
  intro r hr
  simp only [fewRu, List.mem_map] at hr
  obtain ⟨x, hx, rfl⟩ := hr
  obtain ⟨h1, h2⟩ := h x (List.mem_of_mem_take hx)
  exact ⟨h1, h2, by simp [fewR]; omega⟩
set_option maxRecDepth 100000 in
set_option maxHeartbeats 4000000 in
theorem few14_any (l : List RuT) (hl : l.length ≤ maxLen) (hf : ∀ r ∈ l, r.what.2.2.length ≤ maxLen) (v : Value) (w : World) (hv : RulesV w v l) :
    Calls Tryz.prog 10 #[v] w fun e w' => ∃ v', e = .returned v' ∧ RulesO w.heap.size 40 w' v' (fewRu l) ∧ Below w.heap.size w w' := by
  obtain ⟨i0, hI, hz0, hz1, hz2⟩ := info_parts infoR
  obtain ⟨a, cap, rfl, -, hc⟩ := hv.at
  unfold maxLen at hl
  have hll : (l.length : Int) ≤ 9223372036854775807 := by omega
  clear hv
  go_enter Tryz.func10, Tryz.ntmps10
  go_wp2_with fail
  go_loopg [3, 4] 10 (fun gg s3 s4 wr => ∃ (kk : Nat) (vv : Value), kk ≤ l.length ∧ kk ≤ 10 ∧ 10 - kk ≤ gg ∧ s3 = vv ∧ s4 = .int .i64 kk ∧ Below w.heap.size w wr ∧ Hid (RulesO w.heap.size 40 wr vv (fewRu (l.take kk))))
  case atStart => exact ⟨0, _, Nat.zero_le _, by omega, by omega, rfl, rfl, Below.refl _ _, RulesO.nil _ _ _⟩
  case round =>
    obtain ⟨kk, s3, hkk, hk40, hg, rfl, rfl, hB, hO⟩ := hrel
    by_cases hlt : kk < l.length
    · have hltz : (kk : Int) < (l.length : Int) := by omega
      by_cases h40 : kk < 10
      · have h40z : (kk : Int) < 10 := by omega
        have hkz : (0 : Int) ≤ (kk : Int) := by omega
        obtain ⟨b, o, rfl, -, hcl⟩ := hc kk hlt
        obtain ⟨k0, k1, k2, k3, k4, k5, k6, k7, k8, k9, k10⟩ := hcl _ (KeepC.of_below hB)
        have hln := fewRu_at l kk hkk hk40
        have hln1 := fewRu_at l (kk + 1) (by omega) (by omega)
        have hs := fewRu_succ l kk hlt h40
        have hfl := hf l[kk] (List.getElem_mem _)
        have hrow := hO.out
        unfold RulesO at hrow
        rw [hln] at hrow
        clear hc hcl hO hf
        obtain ⟨x, hx⟩ : ∃ x, l[kk] = x := ⟨_, rfl⟩
        rw [hx] at k0 k1 k2 k3 k4 k5 k6 k7 k8 k9 k10 hs hfl
        clear hx
        obtain ⟨id, ⟨l1, S1, i1⟩, ⟨l2, S2, i2⟩, bu, ⟨k, m, form⟩⟩ := x
        dsimp only at *
        unfold maxLen at hfl
        have hz := ba_size form
        have hm := Lib.hid (take_min14 form 50)
        have hm1 : (0 : Int) ≤ min (form.length : Int) 50 := by omega
        have hm2 : min (form.length : Int) 50 ≤ (form.length : Int) := by omega
        have r1 := Blk.new wr #[.int .i64 id, .int .i64 l1, .int .u64 S1, .int .i64 i1, .int .i64 l2, .int .u64 S2, .int .i64 i2, .int .i64 bu, .int .i64 k, .int .i64 m, .string ⟨form.toArray⟩] 40
        obtain ⟨W0, hW0⟩ : ∃ W0, wr.alloc (.cells #[.int .i64 id, .int .i64 l1, .int .u64 S1, .int .i64 i1, .int .i64 l2, .int .u64 S2, .int .i64 i2, .int .i64 bu, .int .i64 k, .int .i64 m, .string ⟨form.toArray⟩] 40) = W0 := ⟨_, rfl⟩
        rw [hW0] at r1
        have bW : Below wr.heap.size wr W0 := hW0 ▸ (Below.refl _ wr).alloc (Nat.le_refl _) _
        have c0 : W0.cell? ⟨wr.heap.size, 0, none⟩ = some (.int .i64 id) := (r1.cell 0).trans rfl
        have c1 : W0.cell? ⟨wr.heap.size, 1, none⟩ = some (.int .i64 l1) := (r1.cell 1).trans rfl
        have c2 : W0.cell? ⟨wr.heap.size, 2, none⟩ = some (.int .u64 S1) := (r1.cell 2).trans rfl
        have c3 : W0.cell? ⟨wr.heap.size, 3, none⟩ = some (.int .i64 i1) := (r1.cell 3).trans rfl
        have c4 : W0.cell? ⟨wr.heap.size, 4, none⟩ = some (.int .i64 l2) := (r1.cell 4).trans rfl
        have c5 : W0.cell? ⟨wr.heap.size, 5, none⟩ = some (.int .u64 S2) := (r1.cell 5).trans rfl
        have c6 : W0.cell? ⟨wr.heap.size, 6, none⟩ = some (.int .i64 i2) := (r1.cell 6).trans rfl
        have c7 : W0.cell? ⟨wr.heap.size, 7, none⟩ = some (.int .i64 bu) := (r1.cell 7).trans rfl
        have c8 : W0.cell? ⟨wr.heap.size, 8, none⟩ = some (.int .i64 k) := (r1.cell 8).trans rfl
        have c9 : W0.cell? ⟨wr.heap.size, 9, none⟩ = some (.int .i64 m) := (r1.cell 9).trans rfl
        have c10 : W0.cell? ⟨wr.heap.size, 10, none⟩ = some (.string ⟨form.toArray⟩) := (r1.cell 10).trans rfl
        have f10 : W0.frozen? ⟨wr.heap.size, 10, none⟩ = false := r1.frozen 10
        obtain ⟨f2, hf2⟩ : ∃ f2, form.take (min (form.length : Int) 50).toNat = f2 := ⟨_, rfl⟩
        have hf2H : Hid (f2 = form.take 50) := by show _ = _; rw [← hf2]; exact hm.out
        have r2 : Blk (W0.setCell ⟨wr.heap.size, 10, none⟩ (.string ⟨f2.toArray⟩)) wr.heap.size #[.int .i64 id, .int .i64 l1, .int .u64 S1, .int .i64 i1, .int .i64 l2, .int .u64 S2, .int .i64 i2, .int .i64 bu, .int .i64 k, .int .i64 m, .string ⟨f2.toArray⟩] 40 := by simpa using r1.set 10 (.string ⟨f2.toArray⟩)
        have b2 : Below wr.heap.size wr (W0.setCell ⟨wr.heap.size, 10, none⟩ (.string ⟨f2.toArray⟩)) := bW.setCell (p := ⟨wr.heap.size, 10, none⟩) (Nat.le_refl _) _
        have B1 : Below w.heap.size w (W0.setCell ⟨wr.heap.size, 10, none⟩ (.string ⟨f2.toArray⟩)) := hB.trans (b2.mono hB.size)
        have hrow1 : World.ownsRow (W0.setCell ⟨wr.heap.size, 10, none⟩ (.string ⟨f2.toArray⟩)) w.heap.size 40 11 _ kk (rusC (fewRu (l.take kk))) := own_kept hrow (grown_of_below b2 none) (RowT.none _ _)
        have hO2 : Hid (∀ W v', W.ownsRow w.heap.size 40 11 v' (kk + 1) (rusC (fewRu (l.take kk)) ++ #[.int .i64 id, .int .i64 l1, .int .u64 S1, .int .i64 i1, .int .i64 l2, .int .u64 S2, .int .i64 i2, .int .i64 bu, .int .i64 k, .int .i64 m, .string ⟨f2.toArray⟩].toList) → RulesO w.heap.size 40 W v' (fewRu (l.take (kk + 1)))) := by
          show ∀ W, _
          intro W v' h
          unfold RulesO
          rw [hln1, hs, rusC_app]
          have : rusC [fewR (⟨id, (l1, S1, i1), (l2, S2, i2), bu, (k, m, form)⟩ : RuT)] = #[.int .i64 id, .int .i64 l1, .int .u64 S1, .int .i64 i1, .int .i64 l2, .int .u64 S2, .int .i64 i2, .int .i64 bu, .int .i64 k, .int .i64 m, .string ⟨f2.toArray⟩].toList := by simp [rusC, ruC, fewR, hf2H.out]
          rw [this]; exact h
        clear hs hln hln1 hrow r1 hm bW
        generalize rusC (fewRu (l.take kk)) = CS at *
        go_wp2_with (at_builtin; go_must (refine wpList_append_own _ rfl _ _ 22 rfl w.heap.size 40 i0 _ 11 96 Tryz.underlying22 hI hz0 hz1 hz2 rfl (by decide) _ _ _ rfl (hrow1.alloc _) ⟨W0.heap.size, 0, none⟩ 1 1 #[.int .i64 id, .int .i64 l1, .int .u64 S1, .int .i64 i1, .int .i64 l2, .int .u64 S2, .int .i64 i2, .int .i64 bu, .int .i64 k, .int .i64 m, .string ⟨f2.toArray⟩].toList rfl rfl (by have := ruBlk_srcs (Blk.new (W0.setCell ⟨wr.heap.size, 10, none⟩ (.string ⟨f2.toArray⟩)) #[.int .i64 id, .int .i64 l1, .int .u64 S1, .int .i64 i1, .int .i64 l2, .int .u64 S2, .int .i64 i2, .int .i64 bu, .int .i64 k, .int .i64 m, .string ⟨f2.toArray⟩] 40); rw [size_setCell] at this; exact this) (by simp [Value.oneCell']) (by unfold maxLen; omega) (by omega) (by have := B1.size; simp at this ⊢; omega) ?_))
        intro v' w2 hown hgrow _
        have hB2 : Below w.heap.size w w2 := (B1.alloc B1.size _).grown hgrow (by have := B1.size; simp at this ⊢; omega) (fun k hk => (hrow1.lt k hk).1)
        have HX2 := Lib.hid (hO2.out _ _ hown)
        clear hown hgrow hrow1
        go_wp2_with fail
        go_roundg (10 - (kk + 1))
        case measure => omega
        case rel => exact ⟨kk + 1, _, by omega, by omega, by omega, rfl, by go_num, hB2, HX2.out⟩
      · have h40z : ¬ (kk : Int) < 10 := by omega
        have he := fewRu_end l kk hkk hk40 (by omega)
        have hOo := hO.out
        rw [he] at hOo
        have hO3 := Lib.hid hOo
        clear hc hf hO hOo he
        go_wp2_with fail
        go_ret
        exact ⟨_, rfl, hO3.out, hB⟩
    · have hltz : ¬ (kk : Int) < (l.length : Int) := by omega
      have he := fewRu_end l kk hkk hk40 (by omega)
      have hOo := hO.out
      rw [he] at hOo
      have hO3 := Lib.hid hOo
      clear hc hf hO hOo he
      go_wp2_with fail
      go_ret
      exact ⟨_, rfl, hO3.out, hB⟩
end Go.Proofs.YtmmdpjliknmhgaaGreatDoor
/- Walks of the reference, layer 14: Same, at two lists of the same rules. -/
namespace Go.Proofs.YtmmdpjliknmhgaaGreatDoor
open Go.RowKit Go.Shelf
attribute [local go_sem] Oper.semAt_some
set_option maxRecDepth 100000 in
set_option maxHeartbeats 4000000 in
theorem ruSame_eq (l : List RuT) (hl : l.length ≤ 1000000) (v u : Value) (w : World) (hv : RulesV w v l) (hu : RulesV w u l) :
    Calls Tryz.prog 16 #[v, u] w fun e w' => e = .returned (.bool true) ∧ Below w.heap.size w w' := by
  obtain ⟨a, cap, rfl, -, hc⟩ := hv.at
  obtain ⟨a2, cap2, rfl, -, hd⟩ := hu.at
  clear hv hu
  go_enter Tryz.func16, Tryz.ntmps16
  go_wp2_with fail
  go_loopg [5] l.length (fun gg s5 wr => ∃ kk : Nat, kk ≤ l.length ∧ l.length - kk ≤ gg ∧ s5 = .int .i64 kk ∧ Below w.heap.size w wr)
  case atStart => exact ⟨0, Nat.zero_le _, by omega, rfl, Below.refl _ _⟩
  case round =>
    obtain ⟨kk, hkk, hg, rfl, hB⟩ := hrel
    by_cases hlt : kk < l.length
    · have hltz : (kk : Int) < (l.length : Int) := by omega
      have hkz : (0 : Int) ≤ (kk : Int) := by omega
      obtain ⟨b, o, rfl, -, hcl⟩ := hc kk hlt
      obtain ⟨b2, o2, rfl, -, hdl⟩ := hd kk hlt
      obtain ⟨k0, k1, k2, k3, k4, k5, k6, k7, k8, k9, k10⟩ := hcl _ (KeepC.of_below hB)
      obtain ⟨j0, j1, j2, j3, j4, j5, j6, j7, j8, j9, j10⟩ := hdl _ (KeepC.of_below hB)
      clear hc hcl hd hdl
      obtain ⟨x, hx⟩ : ∃ x, l[kk] = x := ⟨_, rfl⟩
      rw [hx] at k0 k1 k2 k3 k4 k5 k6 k7 k8 k9 k10 j0 j1 j2 j3 j4 j5 j6 j7 j8 j9 j10
      clear hx
      obtain ⟨id, ⟨l1, S1, i1⟩, ⟨l2, S2, i2⟩, bu, ⟨k, m, form⟩⟩ := x
      dsimp only at *
      go_wp2_with fail
      go_quiet (fail)
      have B2 : Below w.heap.size w (wr.drewN nq) := below_drewN hB nq
      generalize wr.drewN nq = w2 at *
      go_wp2_with fail
      go_roundg (l.length - (kk + 1))
      case measure => omega
      case rel => exact ⟨kk + 1, by omega, by omega, by go_num, B2⟩
    · have hltz : ¬ (kk : Int) < (l.length : Int) := by omega
      clear hc hd
      go_wp2_with fail
      go_ret
      exact ⟨rfl, hB⟩
end Go.Proofs.YtmmdpjliknmhgaaGreatDoor
/- Walks of layer 14: From, Cats. -/
namespace Go.Proofs.YtmmdpjliknmhgaaGreatDoor
open Go.RowKit Go.Shelf
attribute [local go_sem] Oper.semAt_some
def fromRu (l : List RuT) (a : LaT) : List RuT := l.filter fun r => decide (r.src = a)
theorem fromRu_succ (l : List RuT) (a : LaT) (k : Nat) (hk : k < l.length) : fromRu (l.take (k + 1)) a = fromRu (l.take k) a ++ (if l[k].src = a then [l[k]] else []) := by
  unfold fromRu
  rw [List.take_succ_eq_append_getElem hk, List.filter_append]
  congr 1
  by_cases h : l[k].src = a <;> simp [h]
theorem fromRu_len (l : List RuT) (a : LaT) (k : Nat) : (fromRu (l.take k) a).length ≤ k := Nat.le_trans (List.length_filter_le _ _) (by rw [List.length_take]; omega)
set_option maxRecDepth 100000 in
set_option maxHeartbeats 4000000 in
theorem ruFrom_any (l : List RuT) (hl : l.length ≤ 1000000) (v : Value) (lb : LaT) (w : World) (hv : RulesV w v l) :
    Calls Tryz.prog 23 #[v, .agg #[.int .i64 lb.1, .int .u64 lb.2.1, .int .i64 lb.2.2]] w fun e w' => ∃ v', e = .returned v' ∧ RulesO w.heap.size 40 w' v' (fromRu l lb) ∧ Below w.heap.size w w' := by
  obtain ⟨i0, hI, hz0, hz1, hz2⟩ := info_parts infoR
  obtain ⟨a, cap, rfl, -, hc⟩ := hv.at
  obtain ⟨la, Sa, ia⟩ := lb
  dsimp only
  have hsucc := Lib.hid (fromRu_succ l (la, Sa, ia))
  have hlen := Lib.hid (fromRu_len l (la, Sa, ia))
  have hend : Hid (fromRu (l.take l.length) (la, Sa, ia) = fromRu l (la, Sa, ia)) := by show _ = _; rw [List.take_length]
  have B0 := (Below.refl _ w).alloc (Nat.le_refl _) (.cells #[.int .i64 la, .int .u64 Sa, .int .i64 ia] 36)
  have a0 := Blk.new w #[.int .i64 la, .int .u64 Sa, .int .i64 ia] 36
  clear hv
  go_enter Tryz.func23, Tryz.ntmps23
  go_wp2_with fail
  generalize w.alloc (.cells #[.int .i64 la, .int .u64 Sa, .int .i64 ia] 36) = W0 at *
  go_loopg [5, 10] l.length (fun gg s5 s10 wr => ∃ (kk : Nat) (vv : Value), kk ≤ l.length ∧ l.length - kk ≤ gg ∧ s5 = vv ∧ s10 = .int .i64 kk ∧ Blk wr w.heap.size #[.int .i64 la, .int .u64 Sa, .int .i64 ia] 36 ∧ Below w.heap.size w wr ∧ Hid (RulesO w.heap.size 40 wr vv (fromRu (l.take kk) (la, Sa, ia))))
  case atStart => exact ⟨0, _, Nat.zero_le _, by omega, rfl, rfl, a0, B0, RulesO.nil _ _ _⟩
  case round =>
    obtain ⟨kk, s5, hkk, hg, hs5, rfl, hBr, hB, hO⟩ := hrel
    subst hs5
    by_cases hlt : kk < l.length
    · have hltz : (kk : Int) < (l.length : Int) := by omega
      have hkz : (0 : Int) ≤ (kk : Int) := by omega
      obtain ⟨b, o, rfl, -, hcl⟩ := hc kk hlt
      obtain ⟨k0, k1, k2, k3, k4, k5, k6, k7, k8, k9, k10⟩ := hcl _ (KeepC.of_below hB)
      have hs := hsucc.out kk hlt
      have hln := hlen.out kk
      clear hc hcl hsucc hlen hend
      obtain ⟨x, hx⟩ : ∃ x, l[kk] = x := ⟨_, rfl⟩
      rw [hx] at k0 k1 k2 k3 k4 k5 k6 k7 k8 k9 k10 hs
      clear hx
      obtain ⟨id, ⟨l1, S1, i1⟩, ⟨l2, S2, i2⟩, bu, ⟨k, m, form⟩⟩ := x
      dsimp only at *
      have hrow := hO.out
      unfold RulesO at hrow
      have r1 := Blk.new wr #[.int .i64 id, .int .i64 l1, .int .u64 S1, .int .i64 i1, .int .i64 l2, .int .u64 S2, .int .i64 i2, .int .i64 bu, .int .i64 k, .int .i64 m, .string ⟨form.toArray⟩] 40
      obtain ⟨W1, hW1⟩ : ∃ W1, wr.alloc (.cells #[.int .i64 id, .int .i64 l1, .int .u64 S1, .int .i64 i1, .int .i64 l2, .int .u64 S2, .int .i64 i2, .int .i64 bu, .int .i64 k, .int .i64 m, .string ⟨form.toArray⟩] 40) = W1 := ⟨_, rfl⟩
      rw [hW1] at r1
      have bW : Below wr.heap.size wr W1 := hW1 ▸ (Below.refl _ wr).alloc (Nat.le_refl _) _
      have B1 : Below w.heap.size w W1 := hB.trans (bW.mono hB.size)
      have a1 := hBr.below bW hBr.lt
      have hrow1 : W1.ownsRow w.heap.size 40 11 _ (fromRu (l.take kk) (la, Sa, ia)).length (rusC (fromRu (l.take kk) (la, Sa, ia))) := own_kept hrow (grown_of_below bW none) (RowT.none _ _)
      have c0 : W1.cell? ⟨wr.heap.size, 0, none⟩ = some (.int .i64 id) := (r1.cell 0).trans rfl
      have c1 : W1.cell? ⟨wr.heap.size, 1, none⟩ = some (.int .i64 l1) := (r1.cell 1).trans rfl
      have c2 : W1.cell? ⟨wr.heap.size, 2, none⟩ = some (.int .u64 S1) := (r1.cell 2).trans rfl
      have c3 : W1.cell? ⟨wr.heap.size, 3, none⟩ = some (.int .i64 i1) := (r1.cell 3).trans rfl
      have c4 : W1.cell? ⟨wr.heap.size, 4, none⟩ = some (.int .i64 l2) := (r1.cell 4).trans rfl
      have c5 : W1.cell? ⟨wr.heap.size, 5, none⟩ = some (.int .u64 S2) := (r1.cell 5).trans rfl
      have c6 : W1.cell? ⟨wr.heap.size, 6, none⟩ = some (.int .i64 i2) := (r1.cell 6).trans rfl
      have c7 : W1.cell? ⟨wr.heap.size, 7, none⟩ = some (.int .i64 bu) := (r1.cell 7).trans rfl
      have c8 : W1.cell? ⟨wr.heap.size, 8, none⟩ = some (.int .i64 k) := (r1.cell 8).trans rfl
      have c9 : W1.cell? ⟨wr.heap.size, 9, none⟩ = some (.int .i64 m) := (r1.cell 9).trans rfl
      have c10 : W1.cell? ⟨wr.heap.size, 10, none⟩ = some (.string ⟨form.toArray⟩) := (r1.cell 10).trans rfl
      have d0 : W1.cell? ⟨w.heap.size, 0, none⟩ = some (.int .i64 la) := (a1.cell 0).trans rfl
      have d1 : W1.cell? ⟨w.heap.size, 1, none⟩ = some (.int .u64 Sa) := (a1.cell 1).trans rfl
      have d2 : W1.cell? ⟨w.heap.size, 2, none⟩ = some (.int .i64 ia) := (a1.cell 2).trans rfl
      clear hO hrow r1
      rcases la_cases l1 S1 i1 la Sa ia with ⟨e, e1, e2, e3⟩ | ⟨e, h⟩
      · have hO2 : Hid (∀ W v', W.ownsRow w.heap.size 40 11 v' ((fromRu (l.take kk) (la, Sa, ia)).length + 1) (rusC (fromRu (l.take kk) (la, Sa, ia)) ++ #[.int .i64 id, .int .i64 l1, .int .u64 S1, .int .i64 i1, .int .i64 l2, .int .u64 S2, .int .i64 i2, .int .i64 bu, .int .i64 k, .int .i64 m, .string ⟨form.toArray⟩].toList) → RulesO w.heap.size 40 W v' (fromRu (l.take (kk + 1)) (la, Sa, ia))) := by
          show ∀ W, _
          intro W v' h
          unfold RulesO
          rw [hs, if_pos e, List.length_append, rusC_app]
          have : rusC [(⟨id, (l1, S1, i1), (l2, S2, i2), bu, (k, m, form)⟩ : RuT)] = #[.int .i64 id, .int .i64 l1, .int .u64 S1, .int .i64 i1, .int .i64 l2, .int .u64 S2, .int .i64 i2, .int .i64 bu, .int .i64 k, .int .i64 m, .string ⟨form.toArray⟩].toList := by simp [rusC, ruC]
          rw [this]; exact h
        clear hs e
        generalize rusC (fromRu (l.take kk) (la, Sa, ia)) = CS at *
        generalize (fromRu (l.take kk) (la, Sa, ia)).length = ln at *
        have z1 : (l1 == la) = true := by simpa using e1
        have z2 : ((S1 : Int) == (Sa : Int)) = true := by rw [beq_iff_eq]; omega
        have z3 : (i1 == ia) = true := by simpa using e3
        clear e1 e2 e3
        go_wp2_with (at_builtin; go_must (refine wpList_append_own _ rfl _ _ 22 rfl w.heap.size 40 i0 _ 11 96 Tryz.underlying22 hI hz0 hz1 hz2 rfl (by decide) _ _ _ rfl (hrow1.alloc _) ⟨W1.heap.size, 0, none⟩ 1 1 #[.int .i64 id, .int .i64 l1, .int .u64 S1, .int .i64 i1, .int .i64 l2, .int .u64 S2, .int .i64 i2, .int .i64 bu, .int .i64 k, .int .i64 m, .string ⟨form.toArray⟩].toList rfl rfl (ruBlk_srcs (Blk.new W1 _ _)) (by simp [Value.oneCell']) (by unfold maxLen; omega) (by omega) (by have := B1.size; simp; omega) ?_))
        intro v' w2 hown hgrow _
        have hB2 : Below w.heap.size w w2 := (B1.alloc B1.size _).grown hgrow (by have := B1.size; simp; omega) (fun k hk => (hrow1.lt k hk).1)
        have hBr2 : Blk w2 w.heap.size #[.int .i64 la, .int .u64 Sa, .int .i64 ia] 36 := (a1.alloc _).kept hgrow (fun e => by
          have hT := RowT.of_row hrow1 [36] (by decide)
          obtain ⟨cur, t, fr, hh, hne⟩ := hT _ e.symm
          have h' : W1.heap[w.heap.size]? = _ := a1
          rw [h'] at hh; cases hh; exact hne (by simp))
        have HX2 := Lib.hid (hO2.out _ _ hown)
        clear hown hgrow hrow1
        go_wp2_with fail
        go_roundg (l.length - (kk + 1))
        case measure => omega
        case rel => exact ⟨kk + 1, _, by omega, by omega, rfl, by go_num, hBr2, hB2, HX2.out⟩
      · have hO2 : Hid (RulesO w.heap.size 40 W1 u5 (fromRu (l.take (kk + 1)) (la, Sa, ia))) := by
          show RulesO _ _ _ _ _
          unfold RulesO
          rw [hs, if_neg e, List.append_nil]; exact hrow1
        clear hs e hrow1
        rcases h with h1 | ⟨h1, h2⟩ | ⟨h1, h2, h3⟩
        all_goals
          go_wp2_with fail
          go_roundg (l.length - (kk + 1))
          case measure => omega
          case rel => exact ⟨kk + 1, _, by omega, by omega, rfl, by go_num, a1, B1, hO2.out⟩
    · have hltz : ¬ (kk : Int) < (l.length : Int) := by omega
      have hkl : kk = l.length := by omega
      subst hkl
      have hO3 : Hid (RulesO w.heap.size 40 wr u5 (fromRu l (la, Sa, ia))) := by
        show RulesO _ _ _ _ _
        have := hO.out
        rw [hend.out] at this; exact this
      clear hc hsucc hlen hend hO
      go_wp2_with fail
      go_ret
      exact ⟨_, rfl, hO3.out, hB⟩
end Go.Proofs.YtmmdpjliknmhgaaGreatDoor
/- What the laws of layer 14 lean on. -/
namespace Go.Proofs.YtmmdpjliknmhgaaGreatDoor
open Go.RowKit Go.Shelf
theorem isRX_ok {r : RuT} (h : isRX labK filK r = true) : OkR r := (readX_ok (readX_there labK filK labK_plain filK_plain 1000 (by omega) r h).2).1
theorem right_ok {l : List RuT} (h : ruL.right l = true) : ∀ r ∈ l, OkR r := fun r hr => isRX_ok (ruL.right_isR h r hr)
theorem right_len {l : List RuT} (h : ruL.right l = true) : l.length ≤ 8 := by
  unfold LineS.right at h
  simp only [Bool.and_eq_true, decide_eq_true_eq] at h
  exact h.2
theorem pT_len (l : List RuT) : (ruL.pT l).length ≤ 80008 := by
  unfold LineS.pT
  split
  · rename_i h
    have h1 := text_len l (fun r hr => ruL.right_isR h r hr)
    have h2 := right_len h
    have h3 : l.length * 10001 ≤ 8 * 10001 := Nat.mul_le_mul_right _ h2
    omega
  · simp
theorem pE_cases (l : List RuT) : (ruL.pE l = 0 ∧ ruL.right l = true) ∨ (ruL.pE l = 140 ∧ ruL.right l = false ∧ ruL.pT l = []) := by
  unfold LineS.pE LineS.pT
  cases ruL.right l <;> simp
theorem rE_cases (s : List UInt8) : (ruL.rE s = 0 ∧ ruL.right (ruL.rL s) = true) ∨ (ruL.rE s = 140 ∧ ruL.rL s = []) := by
  by_cases h : ruL.rE s = 0
  · exact .inl ⟨h, (ruL.law_here h).2.1⟩
  · exact .inr ⟨(ruL.rL_bad h).2, (ruL.rL_bad h).1⟩
theorem rL_ok (s : List UInt8) : (∀ r ∈ ruL.rL s, OkR r) ∧ (ruL.rL s).length ≤ 8 := by
  rcases rE_cases s with ⟨-, h⟩ | ⟨-, h⟩
  · exact ⟨right_ok h, right_len h⟩
  · rw [h]; exact ⟨fun r hr => (by cases hr), by simp⟩
end Go.Proofs.YtmmdpjliknmhgaaGreatDoor
