/-
  errors.Is and fault.Is over chains of places, the target a number; fault.Places at an error with one place.
-/
import Derived.Test.YtghlnncfigkkaaaGreatDoorQAsE
import Derived.Lib.IfaceEq
set_option maxRecDepth 100000
set_option maxHeartbeats 4000000
open Go.Lib (hid)
namespace Go.Proofs.YtghlnncfigkkaaaGreatDoor
set_option linter.unusedVariables false
set_option linter.unusedSimpArgs false
open Go.RowKit Go.Extern.Stop Go.Stop Go.Extern
theorem Zn3 (v:Value) (xT:TypeId) (w:World):(Instr.typeAssert (.iface 35 v) xT 259 true).run Tryz.prog w=.ok (.tuple #[.nilIface,.bool false]) w:=
 run_typeAssert_lacksB Tryz.underlying259 (by kernel_rfl) (by kernel_rfl) v xT w
theorem Zn4 (v:Value) (xT:TypeId) (w:World):(Instr.typeAssert (.iface 189 v) xT 259 true).run Tryz.prog w=.ok (.tuple #[.nilIface,.bool false]) w:=
 run_typeAssert_lacksB Tryz.underlying259 (by kernel_rfl) (by kernel_rfl) v xT w
theorem E_eql (a b:Int) (w:World):(binOp .eql 28 (.iface 35 (.int .i64 a)) (.iface 35 (.int .i64 b))).run Tryz.prog w=.ok (.bool (a==b)) w:=
 Lib.run_eql_iface_int w a b Tryz.underlying28 (by kernel_rfl) Tryz.underlying35
theorem Zn5 (v x:Value) (w:World):(binOp .eql 28 (.iface 189 v) (.iface 35 x)).run Tryz.prog w=.ok (.bool false) w:=
 run_eql_iface_types 189 35 v x Tryz.underlying28 (by decide) w
theorem ZkM (l:List (ByteArray × Int)) (code c:Int) (v:Value) (w:World) (hv:IsErr w v l code):
  Calls Tryz.prog 100 #[v,.iface 35 (.int .i64 c),.bool true] w fun e w'=>e=.returned (.bool (code==c))∧w=w':=by
 have n0:=Zn3
 have n1:=Zn4
 have n2:=Zfn
 have n3:=Zel
 have n4:=Zct
 have n5:=Zek
 have n6:=ZdD
 have q1:=E_eql
 have q2:=Zn5
 have hv1:AsRel w code v:=⟨l,hv⟩
 clear hv
 go_enter Tryz.func100,Tryz.ntmps100
 go_wp2
 go_loop [0] (fun v=>AsRel w code v) (fun v=>Zc9 w v)
 case atStart=>exact hv1
 case round=>
  clear hv1
  obtain ⟨r,hr⟩:=hrel
  cases r with
  | nil=>
   obtain rfl:=(show _=_ from hr)
   clear hr
   cases hcc:(code==c) with
   | true=>
    go_wp2
    go_ret
    exact ⟨rfl,rfl⟩
   | false=>
    go_wp2
    go_ret
    exact ⟨rfl,rfl⟩
  | cons p r=>
   have hl:=hid (ZbO hr)
   obtain ⟨g,inner,rfl,hc,hi⟩:=hr
   have hl2:=hid (ZbO hi)
   have HI:=hid hi
   have HC:=hid hc
   obtain ⟨ti,xi,rfl⟩:=hi.iface
   clear hi hc
   go_wp2_with (go_at_call 253;refine (Zem g _ _ _ _ _ HC.out).mono ?_;rintro e w' ⟨rfl,rfl⟩)
   exact ⟨⟨r,HI.out⟩,by rw [hl.out,hl2.out];simp⟩
abbrev cmpE:Array Value→Sem Value:=ReflectliteType.method fun t=>do Rtype.noPackHeld "Comparable" t;pure (.bool (←typeInfo t).comparable)
theorem Zef (args:Array Value) (w:World):(callFunc 256 args).run Tryz.prog w=((cmpE args).run Tryz.prog w).andThen fun v w'=>.ok (.value v) w':=
 run_callFunc_extern (e:=cmpE) Tryz.func256 (by kernel_rfl) (by kernel_rfl) (by kernel_rfl) (by kernel_rfl) args w
theorem ZfE (w:World):(cmpE #[.agg #[hand 35]]).run Tryz.prog w=.ok (.bool true) w:=by kernel_rfl
theorem ZcP (v:Value) (w:World):(Go.method 437 237 v "Comparable").run Tryz.prog w=.ok (256,v) w:=by kernel_rfl
theorem Zjb (l:List (ByteArray × Int)) (code c:Int) (v:Value) (w:World) (hv:IsErr w v l code):
  Calls Tryz.prog 57 #[v,.iface 35 (.int .i64 c)] w fun e w'=>e=.returned (.bool (code==c))∧w=w':=by
 have h8:=Zcm
 have h32:=Zef
 have tT:=Zd3
 have cT:=ZfE
 have mR:=ZcP
 have HC:=hid (ZkM l code c v w hv)
 obtain ⟨tv,xv,rfl⟩:=hv.iface
 clear hv
 go_enter Tryz.func57,Tryz.ntmps57
 go_wp2_with (go_at_call 100;refine HC.out.mono ?_;rintro e w' ⟨rfl,rfl⟩)
 go_ret
 exact ⟨rfl,rfl⟩
theorem Zn6 (l:List (ByteArray × Int)) (code c:Int) (v:Value) (w:World) (hv:IsErr w v l code):
  Calls Tryz.prog 24 #[v,.int .i64 c] w fun e w'=>e=.returned (.bool (code==c))∧w=w':=by
 have HC:=hid (Zjb l code c v w hv)
 obtain ⟨tv,xv,rfl⟩:=hv.iface
 clear hv
 go_enter Tryz.func24,Tryz.ntmps24
 go_wp2_with (go_at_call 57;refine HC.out.mono ?_;rintro e w' ⟨rfl,rfl⟩)
 go_ret
 exact ⟨rfl,rfl⟩
end Go.Proofs.YtghlnncfigkkaaaGreatDoor
