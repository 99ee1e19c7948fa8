/-
  errors.Is and fault.Is over chains of places, the target a number; fault.Places at an error with one place.
-/
import Derived.Test.YthnkeejiocnflaaGreatDoorQAsE
import Derived.Lib.IfaceEq
namespace Go.Proofs.YthnkeejiocnflaaGreatDoor
set_option linter.unusedVariables false
set_option linter.unusedSimpArgs false
open Go.RowKit Go.Extern.Stop Go.Stop Go.Extern
theorem E_noIs (v : Value) (xT : TypeId) (w : World) : (Instr.typeAssert (.iface 48 v) xT 142 true).run Tryz.prog w = .ok (.tuple #[.nilIface, .bool false]) w :=
  run_typeAssert_lacksB Tryz.underlying142 (by kernel_rfl) (by kernel_rfl) v xT w
theorem P_noIs (v : Value) (xT : TypeId) (w : World) : (Instr.typeAssert (.iface 121 v) xT 142 true).run Tryz.prog w = .ok (.tuple #[.nilIface, .bool false]) w :=
  run_typeAssert_lacksB Tryz.underlying142 (by kernel_rfl) (by kernel_rfl) v xT w
theorem E_eql (a b : Int) (w : World) : (binOp .eql 31 (.iface 48 (.int .i64 a)) (.iface 48 (.int .i64 b))).run Tryz.prog w = .ok (.bool (a == b)) w :=
  Lib.run_eql_iface_int w a b Tryz.underlying31 (by kernel_rfl) Tryz.underlying48
theorem PE_eql (v x : Value) (w : World) : (binOp .eql 31 (.iface 121 v) (.iface 48 x)).run Tryz.prog w = .ok (.bool false) w :=
  run_eql_iface_types 121 48 v x Tryz.underlying31 (by decide) w
set_option maxRecDepth 100000 in
set_option maxHeartbeats 4000000 in
theorem is_chain (l : List (ByteArray × Int)) (code c : Int) (v : Value) (w : World) (hv : IsErr w v l code) :
    Calls Tryz.prog 50 #[v, .iface 48 (.int .i64 c), .bool true] w fun e w' => e = .returned (.bool (code == c)) ∧ w = w' := by
  have n0 := E_noIs
  have n1 := P_noIs
  have n2 := P_unwraps
  have n3 := P_nilAhead
  have n4 := P_unwrapMethod
  have n5 := E_noUnwrap
  have n6 := E_noUnwraps
  have q1 := E_eql
  have q2 := PE_eql
  have hv1 : AsRel w code v := ⟨l, hv⟩
  clear hv
  go_enter Tryz.func50, Tryz.ntmps50
  go_wp2
  go_loop [0] (fun v => AsRel w code v) (fun v => chainLen w v)
  case atStart => exact hv1
  case round =>
    clear hv1
    obtain ⟨r, hr⟩ := hrel
    cases r with
    | nil =>
      obtain rfl := (show _ = _ from hr)
      clear hr
      cases hcc : (code == c) with
      | true =>
        go_wp2
        go_ret
        exact ⟨rfl, rfl⟩
      | false =>
        go_wp2
        go_ret
        exact ⟨rfl, rfl⟩
    | cons p r =>
      have hl := Lib.hid (chainLen_eq hr)
      obtain ⟨g, inner, rfl, hc, hi⟩ := hr
      have hl2 := Lib.hid (chainLen_eq hi)
      have HI := Lib.hid hi
      have HC := Lib.hid hc
      obtain ⟨ti, xi, rfl⟩ := hi.iface
      clear hi hc
      go_wp2_with (go_at_call 146; refine (Unwrap_any g _ _ _ _ _ HC.out).mono ?_; rintro e w' ⟨rfl, rfl⟩)
      exact ⟨⟨r, HI.out⟩, by rw [hl.out, hl2.out]; simp⟩
abbrev cmpE : Array Value → Sem Value := ReflectliteType.method fun t => do Rtype.noPackHeld "Comparable" t; pure (.bool (← typeInfo t).comparable)
theorem ext_Comparable (args : Array Value) (w : World) : (callFunc 149 args).run Tryz.prog w = ((cmpE args).run Tryz.prog w).andThen fun v w' => .ok (.value v) w' :=
  run_callFunc_extern (e := cmpE) Tryz.func149 (by kernel_rfl) (by kernel_rfl) (by kernel_rfl) (by kernel_rfl) args w
theorem E_comparable (w : World) : (cmpE #[.agg #[hand 48]]).run Tryz.prog w = .ok (.bool true) w := by kernel_rfl
theorem E_methodComparable (v : Value) (w : World) : (Go.method 318 140 v "Comparable").run Tryz.prog w = .ok (149, v) w := by kernel_rfl
set_option maxRecDepth 100000 in
set_option maxHeartbeats 1000000 in
theorem errIs_any (l : List (ByteArray × Int)) (code c : Int) (v : Value) (w : World) (hv : IsErr w v l code) :
    Calls Tryz.prog 30 #[v, .iface 48 (.int .i64 c)] w fun e w' => e = .returned (.bool (code == c)) ∧ w = w' := by
  have h8 := ext_TypeOf
  have h32 := ext_Comparable
  have tT := E_typeOf
  have cT := E_comparable
  have mR := E_methodComparable
  have HC := Lib.hid (is_chain l code c v w hv)
  obtain ⟨tv, xv, rfl⟩ := hv.iface
  clear hv
  go_enter Tryz.func30, Tryz.ntmps30
  go_wp2_with (go_at_call 50; refine HC.out.mono ?_; rintro e w' ⟨rfl, rfl⟩)
  go_ret
  exact ⟨rfl, rfl⟩
set_option maxRecDepth 100000 in
set_option maxHeartbeats 1000000 in
theorem Is_any (l : List (ByteArray × Int)) (code c : Int) (v : Value) (w : World) (hv : IsErr w v l code) :
    Calls Tryz.prog 16 #[v, .int .i64 c] w fun e w' => e = .returned (.bool (code == c)) ∧ w = w' := by
  have HC := Lib.hid (errIs_any l code c v w hv)
  obtain ⟨tv, xv, rfl⟩ := hv.iface
  clear hv
  go_enter Tryz.func16, Tryz.ntmps16
  go_wp2_with (go_at_call 30; refine HC.out.mono ?_; rintro e w' ⟨rfl, rfl⟩)
  go_ret
  exact ⟨rfl, rfl⟩
end Go.Proofs.YthnkeejiocnflaaGreatDoor
