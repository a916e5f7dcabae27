/- Walks of layer 13: the first place that some test does not let through. -/
import Derived.Test.YtcgffokejpgbdaaDoorFilterE
import Derived.Lib.ConvBytes
namespace Go.Proofs.YtcgffokejpgbdaaDoor
open Go.RowKit
/-- v is a function value that tells p of a place and a byte, in the world w and in all that keep what lies there -/
def TestAt (w : World) (v : Value) (p : Nat → UInt8 → Bool) : Prop := ∃ (fn : Nat) (a : Addr), v = .func (.func fn) #[] #[.pointer (some a)] ∧ (∀ args w', (callFunc fn args).run Tryd.prog w' = .ok (.enter fn args) w') ∧
  ∀ (k : Nat) (c : UInt8) (W : World), Below w.heap.size w W → Calls Tryd.prog fn #[.int .i64 k, .int .u8 c.toNat, .pointer (some a)] W fun e w' => e = .returned (.bool (p k c)) ∧ W = w'
theorem TestAt.below {w W : World} {v : Value} {p : Nat → UInt8 → Bool} (h : TestAt w v p) (hb : Below w.heap.size w W) : TestAt W v p := by
  obtain ⟨fn, a, hv, he, hc⟩ := h
  exact ⟨fn, a, hv, he, fun k c X hX => hc k c X (hb.trans (hX.mono hb.size))⟩
abbrev Test := Value × (Nat → UInt8 → Bool)
/-- a slice of tests -/
def TestsAt (w : World) (v : Value) (ts : List Test) : Prop := ∃ tb, v = .slice (some ⟨tb, 0, none⟩) ts.length ts.length ∧ tb < w.heap.size ∧ ∀ j (hj : j < ts.length), w.cell? ⟨tb, j, none⟩ = some ts[j].1 ∧ TestAt w ts[j].1 ts[j].2
def passB (ps : List (Nat → UInt8 → Bool)) (k : Nat) (c : UInt8) : Bool := ps.all fun p => p k c
def firstL (ps : List (Nat → UInt8 → Bool)) : Nat → List UInt8 → Int
  | _, [] => -1
  | k, c :: r => if passB ps k c then firstL ps (k + 1) r else k
theorem firstL_step (ts : List Test) (l : List UInt8) (i : Nat) (hi : i < l.length) : firstL (ts.map Prod.snd) i (l.drop i) = if passB (ts.map Prod.snd) i l[i] then firstL (ts.map Prod.snd) (i + 1) (l.drop (i + 1)) else i := by
  rw [drop_cons l i hi]; rfl
theorem passB_true (ts : List Test) (k : Nat) (c : UInt8) (h : ∀ m (hm : m < ts.length), ts[m].2 k c = true) : passB (ts.map Prod.snd) k c = true := by
  unfold passB; rw [List.all_eq_true]; intro t ht
  obtain ⟨m, hm, rfl⟩ := List.mem_iff_getElem.1 ht
  simpa using h m (by simpa using hm)
theorem passB_false (ts : List Test) (k : Nat) (c : UInt8) (m : Nat) (hm : m < ts.length) (h : ts[m].2 k c = false) : passB (ts.map Prod.snd) k c = false := by
  unfold passB; rw [List.all_eq_false]
  exact ⟨ts[m].2, List.mem_map.2 ⟨_, List.getElem_mem hm, rfl⟩, by simp [h]⟩
theorem Lib_below (w : World) (e : TypeId) (s : ByteArray) : Below w.heap.size w (Lib.bytesWorld w e s) :=
  ⟨rfl, rfl, rfl, by rw [Lib.bytesWorld_size]; omega, fun k hk => Lib.bytesWorld_at_old w e s k hk⟩

set_option maxRecDepth 100000 in
set_option maxHeartbeats 2000000 in
theorem first_any (l : List UInt8) (hl : l.length ≤ 100000) (v : Value) (ts : List Test) (hts : ts.length ≤ 100) (w : World) (h : TestsAt w v ts) :
    Calls Tryd.prog 28 #[.string ⟨l.toArray⟩, v] w fun e w' => e = .returned (.int .i64 (firstL (ts.map Prod.snd) 0 l)) ∧ Below w.heap.size w w' := by
  obtain ⟨tb, rfl, htb, hcs⟩ := h
  have hcv := Lib.run_convert_string_bytes (P := Tryd.prog) w 9 81 5 ⟨l.toArray⟩ Tryd.underlying9 Tryd.underlying81 Tryd.underlying5
  have hW := Lib_below w 5 ⟨l.toArray⟩
  have hcell := Lib.bytesWorld_cell w 5 ⟨l.toArray⟩
  generalize Lib.bytesWorld w 5 ⟨l.toArray⟩ = W0 at hcv hW hcell
  generalize grownCap w (ByteArray.mk l.toArray).size 0 5 = cap at hcv
  rw [ba_size] at hcv
  have hcs0 : ∀ j (hj : j < ts.length), W0.cell? ⟨tb, j, none⟩ = some ts[j].1 ∧ TestAt W0 ts[j].1 ts[j].2 := fun j hj => ⟨(hW.cell (p := ⟨tb, j, none⟩) htb).trans (hcs j hj).1, (hcs j hj).2.below hW⟩
  have HCS := Lib.hid hcs0; clear hcs hcs0
  have HB : ∀ j (hj : j < l.length), W0.cell? ⟨w.heap.size, j, none⟩ = some (.int .u8 l[j].toNat) := fun j hj => by
    have := hcell j (by rw [ba_size]; exact hj)
    simpa [hj] using this
  have HBB := Lib.hid HB; clear HB hcell
  go_enter Tryd.func28, Tryd.ntmps28
  go_wp2
  go_loop [12] (fun t => ∃ i : Nat, i ≤ l.length ∧ t = .int .i64 i ∧ Hid (firstL (ts.map Prod.snd) 0 l = firstL (ts.map Prod.snd) i (l.drop i))) (fun t => l.length - (intOf t).toNat)
  case atStart => exact ⟨0, Nat.zero_le _, rfl, rfl⟩
  case round =>
    obtain ⟨i, hi, rfl, hf⟩ := hrel
    by_cases hlt : i < l.length
    · have hc := HBB.out i hlt
      have HF : Hid (firstL (ts.map Prod.snd) 0 l = if passB (ts.map Prod.snd) i l[i] then firstL (ts.map Prod.snd) (i + 1) (l.drop (i + 1)) else i) := by
        show firstL (ts.map Prod.snd) 0 l = _
        rw [hf.out, firstL_step ts l i hlt]
      clear hf
      generalize l[i] = c at hc HF
      go_wp2
      go_loop [19] (fun t => ∃ j : Nat, j ≤ ts.length ∧ t = .int .i64 j ∧ Hid (∀ m (hm : m < ts.length), m < j → ts[m].2 i c = true)) (fun t => ts.length - (intOf t).toNat)
      case atStart => exact ⟨0, Nat.zero_le _, rfl, fun m _ h => absurd h (by omega)⟩
      case round =>
        obtain ⟨j, hj, rfl, hall⟩ := hrel
        by_cases hjt : j < ts.length
        · obtain ⟨hcj, fn, a, hv, he, hcall⟩ := HCS.out j hjt
          rw [hv] at hcj
          clear hv
          have HC := hcall i c W0 (Below.refl _ _)
          clear hcall
          generalize hb : ts[j].2 i c = bb at HC
          have HBV := Lib.hid hb; clear hb
          go_wp2_with fail
          refine HC.mono ?_
          rintro e W1 ⟨rfl, rfl⟩
          cases bb with
          | true =>
            go_wp2
            go_round
            case rel => exact ⟨j + 1, by omega, by go_num, fun m hm hmj => by
              by_cases e : m = j
              · subst e; exact HBV.out
              · exact hall.out m hm (by omega)⟩
            case measure => simp [intOf]; omega
          | false =>
            have hpf := passB_false ts i c j hjt HBV.out
            have HX : Hid (firstL (ts.map Prod.snd) 0 l = i) := by show firstL (ts.map Prod.snd) 0 l = _; rw [HF.out, hpf]; rfl
            clear hpf HF
            go_wp2
            go_ret
            exact ⟨ret_int HX.out.symm, hW⟩
        · have hpt := passB_true ts i c (fun m hm => hall.out m hm (by omega))
          have HX : Hid (firstL (ts.map Prod.snd) 0 l = firstL (ts.map Prod.snd) (i + 1) (l.drop (i + 1))) := by show firstL (ts.map Prod.snd) 0 l = _; rw [HF.out, hpt]; rfl
          clear hpt HF
          go_wp2
          go_round
          case rel => exact ⟨i + 1, by omega, by go_num, HX⟩
          case measure => simp [intOf]; omega
    · have HX : Hid (firstL (ts.map Prod.snd) 0 l = -1) := by
        show firstL (ts.map Prod.snd) 0 l = _
        rw [hf.out, List.drop_of_length_le (by omega)]; rfl
      clear hf
      go_wp2
      go_ret
      exact ⟨ret_int HX.out.symm, hW⟩
end Go.Proofs.YtcgffokejpgbdaaDoor
