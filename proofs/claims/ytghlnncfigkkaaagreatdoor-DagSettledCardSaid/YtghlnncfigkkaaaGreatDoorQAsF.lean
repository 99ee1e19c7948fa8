/-
 errors.As at an error number: the target is a variable of the error numbers' type.
-/
import Derived.Test.YtghlnncfigkkaaaGreatDoorQNum
import Derived.Test.YtghlnncfigkkaaaGreatDoorRows
import Derived.WalkKit
import Derived.LaidEql
import Derived.Stop.Asserts
import Derived.RowKitTokens
import Derived.Lib.Hide
set_option linter.unusedVariables false
set_option linter.unusedSimpArgs false
namespace Go.Proofs.YtghlnncfigkkaaaGreatDoor
open Go.RowKit Go.Extern.Stop Go.Stop Go.Extern
abbrev hand (t:Nat):Value:=.pointer (some ⟨7,t,none⟩)
theorem rlm (z:Sem Value) (f:TypeId→Addr→Nat→Nat→Sem Value) (v:Value):
  ReflectliteValue.method z f #[v]=(do match ←ReflectliteValue.parts v with | none=>z | some (t,a,fl)=>f t a fl (fl % 32)):=rfl
theorem rls (v x:Value):ReflectliteValue.set #[v,x]=(do
  let (some (dst,a,fl),some (src,b,_)):=(←ReflectliteValue.parts v,←ReflectliteValue.parts x)
   | unsupported (.noEntry "extern/(internal/reflectlite.Value).Set.zeroValue")
  if fl / ReflectliteValue.flagAddr % 2==0 then unsupported (.noEntry "extern/(internal/reflectlite.Value).Set.unaddressable")
  let val ←loadVar src b
  if ←Rtype.directlyAssignable dst src then storeVar dst a val
  else if ←Rtype.implements dst src then
   if (←Rtype.kind src)==20 then
    match val with
    | .nilIface=>unsupported (.noEntry "extern/reflectlite: a nil value of one interface type handed on as a value of another")
    | _=>storeVar dst a val
   else storeVar dst a (.iface src val)
  else panicString ("reflectlite.Set: value of type "++(←Rtype.spelt src)++" is not assignable to type "++(←Rtype.spelt dst))
  pure (.tuple #[])):=rfl
theorem Zhy (t:Addr) (w:World):(ReflectliteValue.unpack (.iface 104 (.pointer (some t)))).run Tryz.prog w
  = .ok (.agg #[hand 104,.pointer (some ⟨w.heap.size,0,none⟩),.int .u64 150]) (w.alloc (.cells #[.pointer (some t)] 104)):=by kernel_rfl
theorem ZlU (a:Addr) (w:World):(ReflectliteValue.methodAny (ReflectliteValue.valueError "reflectlite.Value.Type" 0) (fun t _ _ _=>ReflectliteType.toType t) #[.agg #[hand 104,.pointer (some a),.int .u64 150]]).run Tryz.prog w
  = .ok (.iface 237 (.agg #[hand 104])) w:=by kernel_rfl
theorem Zdp (h:Value) (w:World):(Go.method 437 237 (.agg #[h]) "Kind").run Tryz.prog w=.ok (245,h) w:=by kernel_rfl
theorem ZlV (w:World):((ReflectliteType.abiMethod fun t=>(fun a:Nat=>Value.int IntKind.u8 (a:Int)) <$> Rtype.kind t) #[hand 104]).run Tryz.prog w=.ok (.int .u8 22) w:=by kernel_rfl
theorem Znh (w:World):((ReflectliteType.abiMethod fun t=>(fun a:Nat=>Value.int IntKind.u8 (a:Int)) <$> Rtype.kind t) #[hand 35]).run Tryz.prog w=.ok (.int .u8 2) w:=by kernel_rfl
theorem ZgI (a:Addr) (w:World):(ReflectliteValue.parts (.agg #[hand 104,.pointer (some a),.int .u64 150])).run Tryz.prog w=.ok (some (104,a,150)) w:=by kernel_rfl
theorem ZjX (a p:Addr) (W:World) (b:W.cell? a=some (.pointer (some p))):
  (ReflectliteValue.method (ReflectliteValue.valueError "reflectlite.Value.IsNil" 0) ReflectliteValue.isNil #[.agg #[hand 104,.pointer (some a),.int .u64 150]]).run Tryz.prog W=.ok (.bool false) W:=by
 rw [rlm];simp only [Sem.run_bind,ZgI,Result.andThen];simp [ReflectliteValue.isNil,loadVar,isAgg,underlying,Tryz.underlying104,b,Result.andThen]
theorem Zdq (h:Value) (w:World):(Go.method 437 237 (.agg #[h]) "Elem").run Tryz.prog w=.ok (257,.agg #[h]) w:=by kernel_rfl
theorem Zb4 (h:Value) (w:World):(Go.method 437 237 (.agg #[h]) "Implements").run Tryz.prog w=.ok (258,.agg #[h]) w:=by kernel_rfl
theorem ZaZ (h:Value) (w:World):(Go.method 437 237 (.agg #[h]) "AssignableTo").run Tryz.prog w=.ok (255,.agg #[h]) w:=by kernel_rfl
theorem Zni (w:World):(ReflectliteType.method ReflectliteType.elem #[.agg #[hand 104]]).run Tryz.prog w=.ok (.iface 237 (.agg #[hand 35])) w:=by kernel_rfl
theorem Zfo (w:World):(ReflectliteType.relation "Implements" ReflectliteType.implements_ #[.agg #[hand 35],.iface 237 (.agg #[hand 28])]).run Tryz.prog w=.ok (.bool true) w:=by kernel_rfl
theorem Zd3 (v:Value) (w:World):(ReflectliteType.typeOf #[.iface 35 v]).run Tryz.prog w=.ok (.iface 237 (.agg #[hand 35])) w:=by kernel_rfl
theorem Zdr (w:World):(ReflectliteType.relation "AssignableTo" ReflectliteType.assignableTo #[.agg #[hand 35],.iface 237 (.agg #[hand 35])]).run Tryz.prog w=.ok (.bool true) w:=by kernel_rfl
theorem Zfp (n:Int) (w:World):(ReflectliteValue.unpack (.iface 35 (.int .i64 n))).run Tryz.prog w
  = .ok (.agg #[hand 35,.pointer (some ⟨w.heap.size,0,none⟩),.int .u64 130]) (w.alloc (.cells #[.int .i64 n] 35)):=by kernel_rfl
theorem ZjY (w:World):(Rtype.elem? 104).run Tryz.prog w=.ok (some 35) w:=by kernel_rfl
theorem E_mk (p:Addr) (w:World):(ReflectliteValue.mk 35 p ReflectliteValue.flagAddr).run Tryz.prog w=.ok (.agg #[hand 35,.pointer (some p),.int .u64 386]) w:=by kernel_rfl
theorem Zij (a p:Addr) (W:World) (b:W.cell? a=some (.pointer (some p))):
  (ReflectliteValue.method (ReflectliteValue.valueError "reflectlite.Value.Elem" 0) ReflectliteValue.elem #[.agg #[hand 104,.pointer (some a),.int .u64 150]]).run Tryz.prog W
   = .ok (.agg #[hand 35,.pointer (some p),.int .u64 386]) W:=by
 rw [rlm];simp only [Sem.run_bind,ZgI,Result.andThen];simp [ReflectliteValue.elem,loadVar,isAgg,underlying,Tryz.underlying104,b,Result.andThen,ZjY,E_mk]
theorem ZjZ (a:Addr) (w:World):(ReflectliteValue.parts (.agg #[hand 35,.pointer (some a),.int .u64 386])).run Tryz.prog w=.ok (some (35,a,386)) w:=by kernel_rfl
theorem ZlW (a:Addr) (w:World):(ReflectliteValue.parts (.agg #[hand 35,.pointer (some a),.int .u64 130])).run Tryz.prog w=.ok (some (35,a,130)) w:=by kernel_rfl
theorem Zka (w:World):(Rtype.directlyAssignable 35 35).run Tryz.prog w=.ok true w:=by kernel_rfl
theorem E_set (a b:Addr) (n:Int) (old:Value) (W:World) (c:W.cell? b=some (.int .i64 n)) (d:W.cell? a=some old) (e:W.frozen? a=false):
  (ReflectliteValue.set #[.agg #[hand 35,.pointer (some a),.int .u64 386],.agg #[hand 35,.pointer (some b),.int .u64 130]]).run Tryz.prog W
   = .ok (.tuple #[]) (W.setCell a (.int .i64 n)):=by
 rw [rls];simp only [Sem.run_bind,ZjZ,ZlW,Result.andThen];simp [ReflectliteValue.flagAddr,loadVar,isAgg,underlying,Tryz.underlying35,c,Result.andThen,Zka,storeVar,Value.cells,storeCells,Addr.add];rw [run_store Tryz.prog W a _ _ (by rfl)]
 simp [d,e]
def ETy:Value:=.iface 237 (.agg #[hand 28])
theorem ZbP (a:Array Value) (w:World):(callFunc 89 a).run Tryz.prog w=(((fun a=>ReflectliteValue.unpack (a.getD 0 (.tuple #[]))) a).run Tryz.prog w).andThen fun v w'=>.ok (.value v) w':=
 run_callFunc_extern (e:=(fun a=>ReflectliteValue.unpack (a.getD 0 (.tuple #[])))) Tryz.func89 (by kernel_rfl) (by kernel_rfl) (by kernel_rfl) (by kernel_rfl) a w
theorem ZgJ (a:Array Value) (w:World):(callFunc 90 a).run Tryz.prog w=(((ReflectliteValue.methodAny (ReflectliteValue.valueError "reflectlite.Value.Type" 0) (fun t _ _ _=>ReflectliteType.toType t)) a).run Tryz.prog w).andThen fun v w'=>.ok (.value v) w':=
 run_callFunc_extern (e:=(ReflectliteValue.methodAny (ReflectliteValue.valueError "reflectlite.Value.Type" 0) (fun t _ _ _=>ReflectliteType.toType t))) Tryz.func90 (by kernel_rfl) (by kernel_rfl) (by kernel_rfl) (by kernel_rfl) a w
theorem Zfq (a:Array Value) (w:World):(callFunc 91 a).run Tryz.prog w=(((ReflectliteValue.method (ReflectliteValue.valueError "reflectlite.Value.IsNil" 0) ReflectliteValue.isNil) a).run Tryz.prog w).andThen fun v w'=>.ok (.value v) w':=
 run_callFunc_extern (e:=(ReflectliteValue.method (ReflectliteValue.valueError "reflectlite.Value.IsNil" 0) ReflectliteValue.isNil)) Tryz.func91 (by kernel_rfl) (by kernel_rfl) (by kernel_rfl) (by kernel_rfl) a w
theorem ZgK (a:Array Value) (w:World):(callFunc 245 a).run Tryz.prog w=(((ReflectliteType.abiMethod fun t=>do pure (.int .u8 (←Rtype.kind t))) a).run Tryz.prog w).andThen fun v w'=>.ok (.value v) w':=
 run_callFunc_extern (e:=(ReflectliteType.abiMethod fun t=>do pure (.int .u8 (←Rtype.kind t)))) Tryz.func245 (by kernel_rfl) (by kernel_rfl) (by kernel_rfl) (by kernel_rfl) a w
theorem ZgL (a:Array Value) (w:World):(callFunc 257 a).run Tryz.prog w=(((ReflectliteType.method ReflectliteType.elem) a).run Tryz.prog w).andThen fun v w'=>.ok (.value v) w':=
 run_callFunc_extern (e:=(ReflectliteType.method ReflectliteType.elem)) Tryz.func257 (by kernel_rfl) (by kernel_rfl) (by kernel_rfl) (by kernel_rfl) a w
theorem Zcu (a:Array Value) (w:World):(callFunc 258 a).run Tryz.prog w=(((ReflectliteType.relation "Implements" ReflectliteType.implements_) a).run Tryz.prog w).andThen fun v w'=>.ok (.value v) w':=
 run_callFunc_extern (e:=(ReflectliteType.relation "Implements" ReflectliteType.implements_)) Tryz.func258 (by kernel_rfl) (by kernel_rfl) (by kernel_rfl) (by kernel_rfl) a w
theorem Zcm (a:Array Value) (w:World):(callFunc 99 a).run Tryz.prog w=((ReflectliteType.typeOf a).run Tryz.prog w).andThen fun v w'=>.ok (.value v) w':=
 run_callFunc_extern (e:=ReflectliteType.typeOf) Tryz.func99 (by kernel_rfl) (by kernel_rfl) (by kernel_rfl) (by kernel_rfl) a w
theorem Zb7 (a:Array Value) (w:World):(callFunc 255 a).run Tryz.prog w=(((ReflectliteType.relation "AssignableTo" ReflectliteType.assignableTo) a).run Tryz.prog w).andThen fun v w'=>.ok (.value v) w':=
 run_callFunc_extern (e:=(ReflectliteType.relation "AssignableTo" ReflectliteType.assignableTo)) Tryz.func255 (by kernel_rfl) (by kernel_rfl) (by kernel_rfl) (by kernel_rfl) a w
theorem Zfr (a:Array Value) (w:World):(callFunc 145 a).run Tryz.prog w=(((ReflectliteValue.method (ReflectliteValue.valueError "reflectlite.Value.Elem" 0) ReflectliteValue.elem) a).run Tryz.prog w).andThen fun v w'=>.ok (.value v) w':=
 run_callFunc_extern (e:=(ReflectliteValue.method (ReflectliteValue.valueError "reflectlite.Value.Elem" 0) ReflectliteValue.elem)) Tryz.func145 (by kernel_rfl) (by kernel_rfl) (by kernel_rfl) (by kernel_rfl) a w
theorem Zik (a:Array Value) (w:World):(callFunc 146 a).run Tryz.prog w=((ReflectliteValue.set a).run Tryz.prog w).andThen fun v w'=>.ok (.value v) w':=
 run_callFunc_extern (e:=ReflectliteValue.set) Tryz.func146 (by kernel_rfl) (by kernel_rfl) (by kernel_rfl) (by kernel_rfl) a w
end Go.Proofs.YtghlnncfigkkaaaGreatDoor
