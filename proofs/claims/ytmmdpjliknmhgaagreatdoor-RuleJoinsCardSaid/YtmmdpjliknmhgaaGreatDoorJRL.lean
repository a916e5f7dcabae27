/- Joined: RangeH -/
import Derived.Test.YtmmdpjliknmhgaaGreatDoorJRB
import Derived.RangeFuncCalls
import Derived.Deep.RegionHeld
/- A drawn region in the body of a range over a function, in the wide fence: as anywhere else. On no program. -/
namespace Go.Proofs.YtmmdpjliknmhgaaGreatDoor
open Go.RowKit
def noDefer (o : Oper) : Bool := match o.op with | .defer _ => false | _ => true
section
variable {P : Program} {l n : Nat} {ops : Array Oper} {Q : Exit → Act → World → Prop}
theorem uponIn_of_upon {o : Oper} {a : Act} {K : Act → World → Prop} (r : Result Next) (h : o.upon P a K Q r) : o.uponIn (Fence.wide.inRound l) n P a K Q r := by
  unfold Oper.upon at h
  split at h
  · exact h
  · exact h
  · exact h
  · exact ⟨fun (e : (Fence.wide.inRound l).depth.isSome = true) => absurd e (by simp [Fence.wide]), CallsIn.inRound l (callsIn_wide.2 h)⟩
  · exact ⟨fun (e : (Fence.wide.inRound l).depth.isSome = true) => absurd e (by simp [Fence.wide]), fun c cs _ => let ⟨v, w', r, s⟩ := h c cs; ⟨v, w', r, stepsIn_wide.2 s⟩⟩
  · exact h
  · exact h.elim
theorem wpOpIn_of_wpOp {i : Nat} {K : Act → World → Prop} {a : Act} {w : World} (hL : ¬ LetsOut Q) (hd : ops.all noDefer = true) (h : wpOp P ops Q i K a w) : wpOpIn (Fence.wide.inRound l) n P ops Q i K a w := by
  unfold wpOp at h
  unfold wpOpIn
  cases ho : ops[i]? with
  | none => rw [ho] at h; exact h
  | some o =>
    rw [ho] at h
    dsimp only at h ⊢
    split
    · rename_i hw
      rw [if_pos hw] at h
      refine ⟨fun _ _ => trivial, ?_⟩
      have hnd : ∀ c, o.op ≠ .defer c := by
        intro c e
        obtain ⟨hlt, ho'⟩ := Array.getElem?_eq_some_iff.1 ho
        have := Array.all_eq_true.1 hd i hlt
        rw [ho'] at this
        simp [noDefer, e] at this
      rw [Oper.semAt_plain _ _ _ hnd]
      exact uponIn_of_upon _ (h.resolve_right fun x => hL x.2)
    · rename_i hw
      rw [if_neg hw] at h
      exact ⟨fun _ _ => trivial, h⟩
theorem wpAnyIn_of_wpAny {md : Region.Mode} (hL : ¬ LetsOut Q) (hd : ops.all noDefer = true) : ∀ (fuel : Nat) (listed : Array Bool) (a : Act) (w : World), wpAny P md ops Q fuel listed a w → wpAnyIn (Fence.wide.inRound l) n P md ops Q fuel listed a w
  | 0, _, _, _, h => h
  | fuel + 1, _, _, _, h => ⟨h.1, fun i hi => wpOpIn_of_wpOp hL hd (wpOp_mono (fun a' w' h' => wpAnyIn_of_wpAny hL hd fuel _ a' w' h') (h.2 i hi))⟩
/-- any region of a body, every order -/
theorem wpInR_region_any {id : Nat} {a : Act} {w : World} (hm : P.follows .mixedOrders = true) (hL : ¬ LetsOut Q) (hd : ops.all noDefer = true)
    (h : wpAny P .any ops Q ops.size (Array.replicate ops.size false) a w.drew) : (Code.region id ops true).wpIn (Fence.wide.inRound l) n P Q a w :=
  wpIn_region_any hm (wpAnyIn_of_wpAny hL hd _ _ _ _ h)
/-- under a condition that is held -/
theorem wpInR_region_held {S : World → Prop} {id : Nat} {a : Act} {w : World} (hm : P.follows .mixedOrders = true) (hL : ¬ LetsOut Q) (hd : ops.all noDefer = true) (hS : S w.drew)
    (h : S w.drew → wpAnyH P .any ops Q S ops.size (Array.replicate ops.size false) a w.drew) : (Code.region id ops true).wpIn (Fence.wide.inRound l) n P Q a w :=
  wpInR_region_any hm hL hd (wpAny_of_held _ _ _ _ (h hS))
end
end Go.Proofs.YtmmdpjliknmhgaaGreatDoor
