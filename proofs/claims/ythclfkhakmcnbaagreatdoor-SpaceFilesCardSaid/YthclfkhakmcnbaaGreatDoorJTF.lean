/- Joined: SpcAs; SpcAt -/
import Derived.Test.YthclfkhakmcnbaaGreatDoorJTA
import Derived.LaidEql
import Derived.Stop.Asserts
import Derived.RowKitTokens
/- errors.As at a concrete target: a struct of one number. (Turned from the worked Toyas texts.) -/
namespace Go.Proofs.YthclfkhakmcnbaaGreatDoor.SpcAs
open Go.RowKit Go.Extern.Stop Go.Stop Go.Extern
abbrev T : Nat := 102
abbrev PT : Nat := 132
abbrev RT : Nat := 159
/-- the handle of a type -/
abbrev H (t : Nat) : Value := .pointer (some ⟨5, t, none⟩)
theorem valueOfP (t : Addr) (w : World) : (ReflectliteValue.unpack (.iface PT (.pointer (some t)))).run Tryz.prog w
    = .ok (.agg #[H PT, .pointer (some ⟨w.heap.size, 0, none⟩), .int .u64 150]) (w.alloc (.cells #[.pointer (some t)] PT)) := by kernel_rfl
theorem typeP (a : Addr) (w : World) : (ReflectliteValue.methodAny (ReflectliteValue.valueError "reflectlite.Value.Type" 0) (fun t _ _ _ => ReflectliteType.toType t) #[.agg #[H PT, .pointer (some a), .int .u64 150]]).run Tryz.prog w
    = .ok (.iface RT (.agg #[H PT])) w := by kernel_rfl
theorem methodKind (h : Value) (w : World) : (Go.method 307 RT (.agg #[h]) "Kind").run Tryz.prog w = .ok (146, h) w := by kernel_rfl
theorem kindP (w : World) : ((ReflectliteType.abiMethod fun t => (fun a : Nat => Value.int IntKind.u8 (a : Int)) <$> Rtype.kind t) #[H PT]).run Tryz.prog w = .ok (.int .u8 22) w := by kernel_rfl
theorem kindT (w : World) : ((ReflectliteType.abiMethod fun t => (fun a : Nat => Value.int IntKind.u8 (a : Int)) <$> Rtype.kind t) #[H T]).run Tryz.prog w = .ok (.int .u8 25) w := by kernel_rfl
theorem rlm (z : Sem Value) (f : TypeId → Addr → Nat → Nat → Sem Value) (v : Value) :
    ReflectliteValue.method z f #[v] = (do match ← ReflectliteValue.parts v with | none => z | some (t, a, fl) => f t a fl (fl % 32)) := rfl
theorem partsP (a : Addr) (w : World) : (ReflectliteValue.parts (.agg #[H PT, .pointer (some a), .int .u64 150])).run Tryz.prog w = .ok (some (PT, a, 150)) w := by kernel_rfl
theorem isNilP (a p : Addr) (W : World) (ha : W.cell? a = some (.pointer (some p))) :
    (ReflectliteValue.method (ReflectliteValue.valueError "reflectlite.Value.IsNil" 0) ReflectliteValue.isNil #[.agg #[H PT, .pointer (some a), .int .u64 150]]).run Tryz.prog W = .ok (.bool false) W := by
  rw [rlm]
  simp only [Sem.run_bind, partsP, Result.andThen]
  simp [ReflectliteValue.isNil, loadVar, isAgg, underlying, Tryz.underlying132, ha, Result.andThen]
theorem methodElem (h : Value) (w : World) : (Go.method 307 RT (.agg #[h]) "Elem").run Tryz.prog w = .ok (159, .agg #[h]) w := by kernel_rfl
theorem methodImplements (h : Value) (w : World) : (Go.method 307 RT (.agg #[h]) "Implements").run Tryz.prog w = .ok (160, .agg #[h]) w := by kernel_rfl
theorem methodAssignableTo (h : Value) (w : World) : (Go.method 307 RT (.agg #[h]) "AssignableTo").run Tryz.prog w = .ok (157, .agg #[h]) w := by kernel_rfl
theorem elemP (w : World) : (ReflectliteType.method ReflectliteType.elem #[.agg #[H PT]]).run Tryz.prog w = .ok (.iface RT (.agg #[H T])) w := by kernel_rfl
theorem implementsT (w : World) : (ReflectliteType.relation "Implements" ReflectliteType.implements_ #[.agg #[H T], .iface RT (.agg #[H 69])]).run Tryz.prog w = .ok (.bool true) w := by kernel_rfl
theorem typeOfT (v : Value) (w : World) : (ReflectliteType.typeOf #[.iface T v]).run Tryz.prog w = .ok (.iface RT (.agg #[H T])) w := by kernel_rfl
theorem assignableT (w : World) : (ReflectliteType.relation "AssignableTo" ReflectliteType.assignableTo #[.agg #[H T], .iface RT (.agg #[H T])]).run Tryz.prog w = .ok (.bool true) w := by kernel_rfl
theorem valueOfT (x : Int) (w : World) : (ReflectliteValue.unpack (.iface T (.agg #[.int .i64 x]))).run Tryz.prog w
    = .ok (.agg #[H T, .pointer (some ⟨w.heap.size, 0, none⟩), .int .u64 153]) (w.alloc (.cells #[.int .i64 x] T)) := by kernel_rfl
theorem elemOfP (w : World) : (Rtype.elem? PT).run Tryz.prog w = .ok (some T) w := by kernel_rfl
theorem mkT (p : Addr) (w : World) : (ReflectliteValue.mk T p ReflectliteValue.flagAddr).run Tryz.prog w = .ok (.agg #[H T, .pointer (some p), .int .u64 409]) w := by kernel_rfl
theorem elemVP (a p : Addr) (W : World) (ha : W.cell? a = some (.pointer (some p))) :
    (ReflectliteValue.method (ReflectliteValue.valueError "reflectlite.Value.Elem" 0) ReflectliteValue.elem #[.agg #[H PT, .pointer (some a), .int .u64 150]]).run Tryz.prog W
      = .ok (.agg #[H T, .pointer (some p), .int .u64 409]) W := by
  rw [rlm]
  simp only [Sem.run_bind, partsP, Result.andThen]
  simp [ReflectliteValue.elem, loadVar, isAgg, underlying, Tryz.underlying132, ha, Result.andThen, elemOfP, mkT]
theorem rls (v x : Value) : ReflectliteValue.set #[v, x] = (do
    let (some (dst, a, fl), some (src, b, _)) := (← ReflectliteValue.parts v, ← ReflectliteValue.parts x)
      | unsupported (.noEntry "extern/(internal/reflectlite.Value).Set.zeroValue")
    if fl / ReflectliteValue.flagAddr % 2 == 0 then unsupported (.noEntry "extern/(internal/reflectlite.Value).Set.unaddressable")
    let val ← loadVar src b
    if ← Rtype.directlyAssignable dst src then storeVar dst a val
    else if ← Rtype.implements dst src then
      if (← Rtype.kind src) == 20 then
        match val with
        | .nilIface => unsupported (.noEntry "extern/reflectlite: a nil value of one interface type handed on as a value of another")
        | _ => storeVar dst a val
      else storeVar dst a (.iface src val)
    else panicString ("reflectlite.Set: value of type " ++ (← Rtype.spelt src) ++ " is not assignable to type " ++ (← Rtype.spelt dst))
    pure (.tuple #[])) := rfl
theorem partsTa (a : Addr) (w : World) : (ReflectliteValue.parts (.agg #[H T, .pointer (some a), .int .u64 409])).run Tryz.prog w = .ok (some (T, a, 409)) w := by kernel_rfl
theorem partsT (a : Addr) (w : World) : (ReflectliteValue.parts (.agg #[H T, .pointer (some a), .int .u64 153])).run Tryz.prog w = .ok (some (T, a, 153)) w := by kernel_rfl
theorem directT (w : World) : (Rtype.directlyAssignable T T).run Tryz.prog w = .ok true w := by kernel_rfl
theorem sizeT (w : World) : (sizeOf T).run Tryz.prog w = .ok 1 w := by kernel_rfl
theorem isAggT (w : World) : (isAgg T).run Tryz.prog w = .ok true w := by kernel_rfl
theorem setT (ta b : Addr) (x : Int) (old : Value) (W : World) (hb : W.cell? b = some (.int .i64 x)) (ht : W.cell? ta = some old) (hf : W.frozen? ta = false) :
    (ReflectliteValue.set #[.agg #[H T, .pointer (some ta), .int .u64 409], .agg #[H T, .pointer (some b), .int .u64 153]]).run Tryz.prog W
      = .ok (.tuple #[]) (W.setCell ta (.int .i64 x)) := by
  rw [rls]
  simp only [Sem.run_bind, partsTa, partsT, Result.andThen]
  have hl : (loadCells b 1).run Tryz.prog W = .ok #[.int .i64 x] W := by
    have := run_loadCells_list (P := Tryz.prog) (w := W) b [.int .i64 x] (by
      intro j v hv
      cases j with
      | zero => simp at hv; subst hv; rw [show b.add 0 = b by cases b; simp [Addr.add]]; exact hb
      | succ j => simp at hv)
    simpa using this
  have ha0 : ta.add 0 = ta := by cases ta; simp [Addr.add]
  simp [ReflectliteValue.flagAddr, loadVar, isAggT, sizeT, hl, Result.andThen, directT, storeVar, Value.cells, storeCells, ha0]
  rw [run_store Tryz.prog W ta _ _ (by rfl)]
  simp [ht, hf]
theorem as_nil (t : Value) (w : World) :
    Calls Tryz.prog 110 #[.nilIface, t] w fun e w' => e = .returned (.bool false) ∧ w = w' := by
  go_enter Tryz.func110, Tryz.ntmps110
  go_wp2
  go_ret
  exact ⟨rfl, rfl⟩
abbrev W1 (w : World) (tb : Nat) : World := w.alloc (.cells #[.pointer (some ⟨tb, 0, none⟩)] PT)
abbrev VT : Nat := 145
abbrev W3 (w : World) (tb : Nat) : World := ((W1 w tb).alloc (.cells #[H PT, .pointer (some ⟨w.heap.size, 0, none⟩), .int .u64 150] VT)).alloc (.cells #[H PT, .pointer (some ⟨w.heap.size, 0, none⟩), .int .u64 150] VT)
set_option maxRecDepth 100000 in
set_option maxHeartbeats 4000000 in
theorem as_hit (x : Int) (tb : Nat) (old : Value) (w : World) (hg : w.cell? ⟨4, 0, none⟩ = some (.iface RT (.agg #[H 69]))) (ht : Blk w tb #[old] T) :
    Calls Tryz.prog 110 #[.iface T (.agg #[.int .i64 x]), .iface PT (.pointer (some ⟨tb, 0, none⟩))] w fun e w' => e = .returned (.bool true) ∧ w' = ((W3 w tb).alloc (.cells #[.int .i64 x] T)).setCell ⟨tb, 0, none⟩ (.int .i64 x) := by
  have h6 := @run_callFunc_extern Tryz.prog 118 _ (fun args => ReflectliteValue.unpack (args.getD 0 (.tuple #[]))) Tryz.func118 (by kernel_rfl) (by kernel_rfl) (by kernel_rfl) (by kernel_rfl)
  have h7 := @run_callFunc_extern Tryz.prog 119 _ (ReflectliteValue.methodAny (ReflectliteValue.valueError "reflectlite.Value.Type" 0) (fun t _ _ _ => ReflectliteType.toType t)) Tryz.func119 (by kernel_rfl) (by kernel_rfl) (by kernel_rfl) (by kernel_rfl)
  have h8 := @run_callFunc_extern Tryz.prog 120 _ (ReflectliteValue.method (ReflectliteValue.valueError "reflectlite.Value.IsNil" 0) ReflectliteValue.isNil) Tryz.func120 (by kernel_rfl) (by kernel_rfl) (by kernel_rfl) (by kernel_rfl)
  have h27 := @run_callFunc_extern Tryz.prog 146 _ (ReflectliteType.abiMethod fun t => do pure (.int .u8 (← Rtype.kind t))) Tryz.func146 (by kernel_rfl) (by kernel_rfl) (by kernel_rfl) (by kernel_rfl)
  have h37 := @run_callFunc_extern Tryz.prog 159 _ (ReflectliteType.method ReflectliteType.elem) Tryz.func159 (by kernel_rfl) (by kernel_rfl) (by kernel_rfl) (by kernel_rfl)
  have h38 := @run_callFunc_extern Tryz.prog 160 _ (ReflectliteType.relation "Implements" ReflectliteType.implements_) Tryz.func160 (by kernel_rfl) (by kernel_rfl) (by kernel_rfl) (by kernel_rfl)
  have h10 := @run_callFunc_extern Tryz.prog 123 _ ReflectliteType.typeOf Tryz.func123 (by kernel_rfl) (by kernel_rfl) (by kernel_rfl) (by kernel_rfl)
  have h35 := @run_callFunc_extern Tryz.prog 157 _ (ReflectliteType.relation "AssignableTo" ReflectliteType.assignableTo) Tryz.func157 (by kernel_rfl) (by kernel_rfl) (by kernel_rfl) (by kernel_rfl)
  have h11 := @run_callFunc_extern Tryz.prog 128 _ (ReflectliteValue.method (ReflectliteValue.valueError "reflectlite.Value.Elem" 0) ReflectliteValue.elem) Tryz.func128 (by kernel_rfl) (by kernel_rfl) (by kernel_rfl) (by kernel_rfl)
  have h12 := @run_callFunc_extern Tryz.prog 129 _ ReflectliteValue.set Tryz.func129 (by kernel_rfl) (by kernel_rfl) (by kernel_rfl) (by kernel_rfl)
  have tO := typeOfT
  have mA := methodAssignableTo
  have a25 := assignableT
  have v25 := valueOfT
  have f6 := valueOfP
  have f7 := typeP
  have mK := methodKind
  have mE := methodElem
  have mI := methodImplements
  have k27 := kindP
  have k25 := kindT
  have e27 := elemP
  have i25 := implementsT
  have htl := ht.lt
  have hgl := World.block_lt_of_cell? w _ hg
  have b1 := Blk.new w #[.pointer (some ⟨tb, 0, none⟩)] PT
  have b2 := b1.alloc (.cells #[H PT, .pointer (some ⟨w.heap.size, 0, none⟩), .int .u64 150] VT)
  have b3 := b2.alloc (.cells #[H PT, .pointer (some ⟨w.heap.size, 0, none⟩), .int .u64 150] VT)
  have n8 := isNilP ⟨w.heap.size, 0, none⟩ ⟨tb, 0, none⟩ _ ((b2.cell 0).trans rfl)
  have hB2 := ((Below.refl w.heap.size w).alloc (Nat.le_refl _) (.cells #[.pointer (some ⟨tb, 0, none⟩)] PT)).alloc (by simp) (.cells #[H PT, .pointer (some ⟨w.heap.size, 0, none⟩), .int .u64 150] VT)
  have hB3 := hB2.alloc (by simp; omega) (.cells #[H PT, .pointer (some ⟨w.heap.size, 0, none⟩), .int .u64 150] VT)
  have hg2 := (hB2.cell (p := ⟨4, 0, none⟩) hgl).trans hg
  have el := elemVP ⟨w.heap.size, 0, none⟩ ⟨tb, 0, none⟩ _ ((b3.cell 0).trans rfl)
  have ht4 := (ht.below hB3 htl).alloc (.cells #[.int .i64 x] T)
  have st := setT ⟨tb, 0, none⟩ ⟨w.heap.size + 1 + 1 + 1, 0, none⟩ x old ((W3 w tb).alloc (.cells #[.int .i64 x] T))
    (by have := (Blk.new (W3 w tb) #[.int .i64 x] T).cell 0; rw [show (W3 w tb).heap.size = w.heap.size + 1 + 1 + 1 by simp] at this; exact this.trans rfl) ((ht4.cell 0).trans rfl) (ht4.frozen 0)
  clear b1 b2 b3 hB2 hB3 ht4 ht hg htl
  go_enter Tryz.func110, Tryz.ntmps110
  go_wp2
  refine wp_loop_rounds 1 ?_
  rw [rounds_succ]
  go_wp2
  go_ret
  exact ⟨rfl, rfl⟩
end Go.Proofs.YthclfkhakmcnbaaGreatDoor.SpcAs
/- errors.As at space.wrong, told within another error. -/
namespace Go.Proofs.YthclfkhakmcnbaaGreatDoor.SpcAs
open Go.RowKit Go.Extern.Stop Go.Stop Go.Extern
abbrev TW : Nat := 104
theorem typeOfW (v : Value) (w : World) : (ReflectliteType.typeOf #[.iface TW v]).run Tryz.prog w = .ok (.iface RT (.agg #[H TW])) w := by kernel_rfl
theorem assignableW (w : World) : (ReflectliteType.relation "AssignableTo" ReflectliteType.assignableTo #[.agg #[H TW], .iface RT (.agg #[H T])]).run Tryz.prog w = .ok (.bool false) w := by kernel_rfl
theorem methodUnwrap (v : Value) (w : World) : (Go.method 307 TW v "Unwrap").run Tryz.prog w = .ok (151, v) w := by kernel_rfl
theorem noAsW (v : Value) (xT : TypeId) (w : World) : (Instr.typeAssert (.iface TW v) xT 163 true).run Tryz.prog w = .ok (.tuple #[.nilIface, .bool false]) w := run_typeAssert_lacksB Tryz.underlying163 (by kernel_rfl) (by kernel_rfl) v xT w
theorem hasUnwrapW (v : Value) (xT : TypeId) (w : World) : (Instr.typeAssert (.iface TW v) xT 166 true).run Tryz.prog w = .ok (.tuple #[.iface TW v, .bool true]) w := run_typeAssert_hasB Tryz.underlying166 (by kernel_rfl) v xT w
set_option maxRecDepth 100000 in
set_option maxHeartbeats 4000000 in
theorem as_within (x : Int) (nm : ByteArray) (tb : Nat) (old : Value) (w : World) (hg : w.cell? ⟨4, 0, none⟩ = some (.iface RT (.agg #[H 69]))) (ht : Blk w tb #[old] T) :
    Calls Tryz.prog 110 #[.iface TW (.agg #[.string nm, .iface T (.agg #[.int .i64 x])]), .iface PT (.pointer (some ⟨tb, 0, none⟩))] w fun e w' => e = .returned (.bool true) ∧ w' = (((W3 w tb).alloc (.cells #[.string nm, .iface T (.agg #[.int .i64 x])] TW)).alloc (.cells #[.int .i64 x] T)).setCell ⟨tb, 0, none⟩ (.int .i64 x) := by
  have h6 := @run_callFunc_extern Tryz.prog 118 _ (fun args => ReflectliteValue.unpack (args.getD 0 (.tuple #[]))) Tryz.func118 (by kernel_rfl) (by kernel_rfl) (by kernel_rfl) (by kernel_rfl)
  have h7 := @run_callFunc_extern Tryz.prog 119 _ (ReflectliteValue.methodAny (ReflectliteValue.valueError "reflectlite.Value.Type" 0) (fun t _ _ _ => ReflectliteType.toType t)) Tryz.func119 (by kernel_rfl) (by kernel_rfl) (by kernel_rfl) (by kernel_rfl)
  have h8 := @run_callFunc_extern Tryz.prog 120 _ (ReflectliteValue.method (ReflectliteValue.valueError "reflectlite.Value.IsNil" 0) ReflectliteValue.isNil) Tryz.func120 (by kernel_rfl) (by kernel_rfl) (by kernel_rfl) (by kernel_rfl)
  have h27 := @run_callFunc_extern Tryz.prog 146 _ (ReflectliteType.abiMethod fun t => do pure (.int .u8 (← Rtype.kind t))) Tryz.func146 (by kernel_rfl) (by kernel_rfl) (by kernel_rfl) (by kernel_rfl)
  have h37 := @run_callFunc_extern Tryz.prog 159 _ (ReflectliteType.method ReflectliteType.elem) Tryz.func159 (by kernel_rfl) (by kernel_rfl) (by kernel_rfl) (by kernel_rfl)
  have h38 := @run_callFunc_extern Tryz.prog 160 _ (ReflectliteType.relation "Implements" ReflectliteType.implements_) Tryz.func160 (by kernel_rfl) (by kernel_rfl) (by kernel_rfl) (by kernel_rfl)
  have h10 := @run_callFunc_extern Tryz.prog 123 _ ReflectliteType.typeOf Tryz.func123 (by kernel_rfl) (by kernel_rfl) (by kernel_rfl) (by kernel_rfl)
  have h35 := @run_callFunc_extern Tryz.prog 157 _ (ReflectliteType.relation "AssignableTo" ReflectliteType.assignableTo) Tryz.func157 (by kernel_rfl) (by kernel_rfl) (by kernel_rfl) (by kernel_rfl)
  have h11 := @run_callFunc_extern Tryz.prog 128 _ (ReflectliteValue.method (ReflectliteValue.valueError "reflectlite.Value.Elem" 0) ReflectliteValue.elem) Tryz.func128 (by kernel_rfl) (by kernel_rfl) (by kernel_rfl) (by kernel_rfl)
  have h12 := @run_callFunc_extern Tryz.prog 129 _ ReflectliteValue.set Tryz.func129 (by kernel_rfl) (by kernel_rfl) (by kernel_rfl) (by kernel_rfl)
  have tO := typeOfT
  have mA := methodAssignableTo
  have a25 := assignableT
  have v25 := valueOfT
  have f6 := valueOfP
  have f7 := typeP
  have mK := methodKind
  have mE := methodElem
  have mI := methodImplements
  have k27 := kindP
  have k25 := kindT
  have e27 := elemP
  have i25 := implementsT
  have htl := ht.lt
  have hgl := World.block_lt_of_cell? w _ hg
  have b1 := Blk.new w #[.pointer (some ⟨tb, 0, none⟩)] PT
  have b2 := b1.alloc (.cells #[H PT, .pointer (some ⟨w.heap.size, 0, none⟩), .int .u64 150] VT)
  have b3 := b2.alloc (.cells #[H PT, .pointer (some ⟨w.heap.size, 0, none⟩), .int .u64 150] VT)
  have n8 := isNilP ⟨w.heap.size, 0, none⟩ ⟨tb, 0, none⟩ _ ((b2.cell 0).trans rfl)
  have hB2 := ((Below.refl w.heap.size w).alloc (Nat.le_refl _) (.cells #[.pointer (some ⟨tb, 0, none⟩)] PT)).alloc (by simp) (.cells #[H PT, .pointer (some ⟨w.heap.size, 0, none⟩), .int .u64 150] VT)
  have hB3 := hB2.alloc (by simp; omega) (.cells #[H PT, .pointer (some ⟨w.heap.size, 0, none⟩), .int .u64 150] VT)
  have hg2 := (hB2.cell (p := ⟨4, 0, none⟩) hgl).trans hg
  have el := elemVP ⟨w.heap.size, 0, none⟩ ⟨tb, 0, none⟩ _ ((b3.cell 0).trans rfl)
  have ht4 := ((ht.below hB3 htl).alloc (.cells #[.string nm, .iface T (.agg #[.int .i64 x])] TW)).alloc (.cells #[.int .i64 x] T)
  have b4 := b3.alloc (.cells #[.string nm, .iface T (.agg #[.int .i64 x])] TW)
  have el4 := elemVP ⟨w.heap.size, 0, none⟩ ⟨tb, 0, none⟩ _ ((b4.cell 0).trans rfl)
  have b5 := b4.alloc (.cells #[.int .i64 x] T)
  have el5 := elemVP ⟨w.heap.size, 0, none⟩ ⟨tb, 0, none⟩ _ ((b5.cell 0).trans rfl)
  have st := setT ⟨tb, 0, none⟩ ⟨w.heap.size + 1 + 1 + 1 + 1, 0, none⟩ x old (((W3 w tb).alloc (.cells #[.string nm, .iface T (.agg #[.int .i64 x])] TW)).alloc (.cells #[.int .i64 x] T))
    (by have := (Blk.new ((W3 w tb).alloc (.cells #[.string nm, .iface T (.agg #[.int .i64 x])] TW)) #[.int .i64 x] T).cell 0; rw [show ((W3 w tb).alloc (.cells #[.string nm, .iface T (.agg #[.int .i64 x])] TW)).heap.size = w.heap.size + 1 + 1 + 1 + 1 by simp] at this; exact this.trans rfl) ((ht4.cell 0).trans rfl) (ht4.frozen 0)
  have tW := typeOfW
  have aW := assignableW
  have mU := methodUnwrap
  have nA := noAsW
  have hU := hasUnwrapW
  clear b1 b2 b3 b4 b5 hB2 hB3 ht4 ht hg htl
  go_enter Tryz.func110, Tryz.ntmps110
  go_wp2
  refine wp_loop_rounds 2 ?_
  rw [rounds_succ]
  go_wp2
  rw [rounds_succ]
  go_wp2
  go_ret
  exact ⟨rfl, rfl⟩
end Go.Proofs.YthclfkhakmcnbaaGreatDoor.SpcAs
