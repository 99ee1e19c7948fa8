/-
  fault.Places at an error with one place, and At of the lex laws.
-/
import Derived.Test.YthnkeejiocnflaaGreatDoorQApp
import Derived.Test.YthnkeejiocnflaaGreatDoorQIs
import Derived.Test.YthnkeejiocnflaaGreatDoorQScan
import Derived.Deep.RegionHeld3
namespace Go.Proofs.YthnkeejiocnflaaGreatDoor
set_option linter.unusedVariables false
set_option linter.unusedSimpArgs false
open Go.RowKit
theorem new_cell1 (w : World) (v : Value) (t : TypeId) : (w.alloc (.cells #[v] t)).cell? ⟨w.heap.size, 0, none⟩ = some v := cell_of_row _ _ 0 _ _ _ (heap_alloc_new w _)
theorem new_cell2 (w : World) (v : Value) (t : TypeId) (o : Obj) : ((w.alloc (.cells #[v] t)).alloc o).cell? ⟨w.heap.size, 0, none⟩ = some v := by
  rw [World.cell?_alloc_lt _ _ _ (by simp)]
  exact new_cell1 w v t
theorem new_cell2b (w : World) (v : Value) (t : TypeId) (o : Obj) : ((w.alloc o).alloc (.cells #[v] t)).cell? ⟨w.heap.size + 1, 0, none⟩ = some v := by
  have h := new_cell1 (w.alloc o) v t
  rwa [World.size_alloc] at h
theorem new_cell1d (w : World) (v : Value) (t : TypeId) : (w.alloc (.cells #[v] t)).drew.cell? ⟨w.heap.size, 0, none⟩ = some v := new_cell1 w v t
theorem new_cell2d (w : World) (v : Value) (t : TypeId) (o : Obj) : ((w.alloc (.cells #[v] t)).alloc o).drew.cell? ⟨w.heap.size, 0, none⟩ = some v := new_cell2 w v t o
theorem new_cell2bd (w : World) (v : Value) (t : TypeId) (o : Obj) : ((w.alloc o).alloc (.cells #[v] t)).drew.cell? ⟨w.heap.size + 1, 0, none⟩ = some v := new_cell2b w v t o
theorem new_cell3 {W w : World} {p : Addr} {v : Value} (hb : Below W.heap.size W w) (h : W.cell? p = some v) : w.cell? p = some v := (hb.cell (World.block_lt_of_cell? W _ h)).trans h
theorem plS_alloc {w2 w : World} {g a : Nat} {u x y : Value} (o : Obj) (h : w.cell? ⟨g, 0, none⟩ = some u ∧ w.cell? ⟨a, 0, none⟩ = some x ∧ w.cell? ⟨a, 1, none⟩ = some y ∧ Below w2.heap.size w2 w) :
    (w.alloc o).cell? ⟨g, 0, none⟩ = some u ∧ (w.alloc o).cell? ⟨a, 0, none⟩ = some x ∧ (w.alloc o).cell? ⟨a, 1, none⟩ = some y ∧ Below w2.heap.size w2 (w.alloc o) := by
  obtain ⟨h1, h2, h3, h4⟩ := h
  have hb : Below w.heap.size w (w.alloc o) := (Below.refl _ _).alloc (Nat.le_refl _) _
  exact ⟨new_cell3 hb h1, new_cell3 hb h2, new_cell3 hb h3, bnext h4 hb⟩
theorem plS_below {w2 w w' : World} {g a : Nat} {u x y : Value} (hb : Below w.heap.size w w') (h : w.cell? ⟨g, 0, none⟩ = some u ∧ w.cell? ⟨a, 0, none⟩ = some x ∧ w.cell? ⟨a, 1, none⟩ = some y ∧ Below w2.heap.size w2 w) :
    w'.cell? ⟨g, 0, none⟩ = some u ∧ w'.cell? ⟨a, 0, none⟩ = some x ∧ w'.cell? ⟨a, 1, none⟩ = some y ∧ Below w2.heap.size w2 w' := by
  obtain ⟨h1, h2, h3, h4⟩ := h
  exact ⟨new_cell3 hb h1, new_cell3 hb h2, new_cell3 hb h3, bnext h4 hb⟩
theorem int_info : (Tryz.prog.info? 3).map (fun i => (i.zero, i.size, i.bytes)) = some (some (.int .i64 0), 1, 8) := by kernel_rfl
theorem str_info : (Tryz.prog.info? 9).map (fun i => (i.zero, i.size, i.bytes)) = some (some (.string ⟨#[]⟩), 1, 16) := by kernel_rfl
theorem one_rd {w : World} {g : Nat} {v : Value} (h : w.cell? ⟨g, 0, none⟩ = some v) : Rd w w.heap.size (some ⟨g, 0, none⟩) [v] := by
  refine .inr ⟨g, 0, rfl, World.block_lt_of_cell? w _ h, fun j u hu => ?_⟩
  cases j with
  | zero => simp at hu; subst hu; exact h
  | succ j => simp at hu
/-- append of one cell onto nil, in a region that draws its order. -/
theorem int1_step {w : World} {ops : Array Oper} {o : Oper} {a : Act} {K : Act → World → Prop} {Q : Exit → Act → World → Prop} {E : Prop} (hgd : o.guard = none) (s x : Operand)
    (ho : o.op = .call { callee := .builtin .append, args := #[s, x], argTypes := #[22, 22] }) (hs : a.eval s = .slice none 0 0)
    (g : Nat) (v : Value) (hx : a.eval x = .slice (some ⟨g, 0, none⟩) 1 1) (hv : v.oneCell' = true) (hc : w.cell? ⟨g, 0, none⟩ = some v)
    (h : ∀ A' cap' w', Rd w' w'.heap.size A' [v] → Below w.heap.size w w' → K (a.put o.dst (.slice A' 1 cap')) w') :
    if Region.wanted o (yielded ops a.tmps) = true then Oper.wp Tryz.prog o a w K Q else E := by
  obtain ⟨i0, hi0, hz0, hz1, hz2⟩ := info_parts int_info
  refine step_app hgd s x 22 ho w.heap.size 3 i0 _ 8 Tryz.underlying22 hi0 hz0 hz1 hz2 rfl none 0 [] 0 rfl hs (Own.nil _ _ _) (some ⟨g, 0, none⟩) 1 1 w.heap.size [v] rfl hx (one_rd hc) (fun h => by cases h) (by simpa using hv) (by simp [maxLen]) (by omega) (Nat.le_refl _) ?_
  intro A' cap' w' h1 h2 h3
  exact h A' cap' w' h1.rd ((Below.refl _ _).grown h2 (Nat.le_refl _) (fun k hk => by cases hk))
theorem str1_step {w : World} {ops : Array Oper} {o : Oper} {a : Act} {K : Act → World → Prop} {Q : Exit → Act → World → Prop} {E : Prop} (hgd : o.guard = none) (s x : Operand)
    (ho : o.op = .call { callee := .builtin .append, args := #[s, x], argTypes := #[85, 85] }) (hs : a.eval s = .slice none 0 0)
    (g : Nat) (v : Value) (hx : a.eval x = .slice (some ⟨g, 0, none⟩) 1 1) (hv : v.oneCell' = true) (hc : w.cell? ⟨g, 0, none⟩ = some v)
    (h : ∀ A' cap' w', Rd w' w'.heap.size A' [v] → Below w.heap.size w w' → K (a.put o.dst (.slice A' 1 cap')) w') :
    if Region.wanted o (yielded ops a.tmps) = true then Oper.wp Tryz.prog o a w K Q else E := by
  obtain ⟨i0, hi0, hz0, hz1, hz2⟩ := info_parts str_info
  refine step_app hgd s x 85 ho w.heap.size 9 i0 _ 16 Tryz.underlying85 hi0 hz0 hz1 hz2 rfl none 0 [] 0 rfl hs (Own.nil _ _ _) (some ⟨g, 0, none⟩) 1 1 w.heap.size [v] rfl hx (one_rd hc) (fun h => by cases h) (by simpa using hv) (by simp [maxLen]) (by omega) (Nat.le_refl _) ?_
  intro A' cap' w' h1 h2 h3
  exact h A' cap' w' h1.rd ((Below.refl _ _).grown h2 (Nat.le_refl _) (fun k hk => by cases hk))
set_option maxRecDepth 100000 in
set_option maxHeartbeats 4000000 in
theorem Places_one (name : ByteArray) (at_ code : Int) (v : Value) (w : World) (hg : ETyped w) (hv : IsErr w v [(name, at_)] code) :
    Calls Tryz.prog 36 #[v] w fun e w' => ∃ A1 k1 A2 k2, e = .returned (.tuple #[.slice A1 1 k1, .slice A2 1 k2]) ∧ Rd w' w'.heap.size A2 [.int .i64 at_] ∧ Below w.heap.size w w' := by
  obtain ⟨a, inner, rfl, hc, hi⟩ := hv
  obtain rfl := (show inner = _ from hi)
  clear hi
  have ha := (Array.getElem?_eq_some_iff.1 hc).1
  have HG := Lib.hid hg
  have HC := Lib.hid hc
  clear hg hc
  go_enter Tryz.func36, Tryz.ntmps36
  go_wp2
  refine wp_loop_rounds 2 ?_
  rw [rounds_succ]
  go_wp2_with fail
  refine (As_PC ⟨a, 0, none⟩ ⟨w.heap.size, 0, none⟩ (.pointer none) _ (HG.out.next ((Below.refl _ _).alloc (Nat.le_refl _) _)) (by simp) (by simp)).mono ?_
  rintro e w1 ⟨rfl, hw⟩
  have hb : Below w.heap.size w w1 := ((Below.refl _ _).alloc (Nat.le_refl _) _).trans (hw.below (by simp) (by simp))
  have hp := hw.cell (old := .pointer none) (by simp)
  have c0 : w1.cell? ⟨a, 0, none⟩ = some (.string name) := (hb.cell ha).trans (cell_of_row _ _ 0 _ _ _ HC.out)
  have c1 : w1.cell? ⟨a, 1, none⟩ = some (.int .i64 at_) := (hb.cell ha).trans (cell_of_row _ _ 1 _ _ _ HC.out)
  have c3 : w1.cell? ⟨a, 3, none⟩ = some (.iface 48 (.int .i64 code)) := (hb.cell ha).trans (cell_of_row _ _ 3 _ _ _ HC.out)
  have HB := Lib.hid hb
  have hS := Lib.hid (And.intro hp (And.intro c0 (And.intro c1 (show Below w1.heap.size w1 w1.drew from (Below.refl _ _).drew))))
  clear hw hb
  go_wp2_with fail
  clear c0 c1
  go_region_held3 (fun w' => w'.cell? ⟨w.heap.size, 0, none⟩ = some (.pointer (some ⟨a, 0, none⟩)) ∧ w'.cell? ⟨a, 0, none⟩ = some (.string name) ∧ w'.cell? ⟨a, 1, none⟩ = some (.int .i64 at_) ∧ Below w1.heap.size w1 w')
    (first | with_reducible exact hS.out | assumption | exact plS_alloc _ (by assumption) | exact plS_below (by assumption) (by assumption))
    (first
      | (refine str1_step rfl (.tmp 10) (.tmp 15) rfl rfl _ (.string name) rfl rfl (by first | exact new_cell1 _ _ _ | exact new_cell2 _ _ _ _ | exact new_cell2b _ _ _ _ | exact new_cell1d _ _ _ | exact new_cell2d _ _ _ _ | exact new_cell2bd _ _ _ _ | exact new_cell3 by_ (new_cell2d _ _ _ _) | exact new_cell3 by_ (new_cell2bd _ _ _ _) | exact new_cell3 by_ (new_cell2 _ _ _ _) | exact new_cell3 by_ (new_cell2b _ _ _ _)) ?_; intro A1 k1 wx hx bx)
      | (refine int1_step rfl (.tmp 17) (.tmp 22) rfl rfl _ (.int .i64 at_) rfl rfl (by first | exact new_cell1 _ _ _ | exact new_cell2 _ _ _ _ | exact new_cell2b _ _ _ _ | exact new_cell1d _ _ _ | exact new_cell2d _ _ _ _ | exact new_cell2bd _ _ _ _ | exact new_cell3 bx (new_cell2d _ _ _ _) | exact new_cell3 bx (new_cell2bd _ _ _ _) | exact new_cell3 bx (new_cell2 _ _ _ _) | exact new_cell3 bx (new_cell2b _ _ _ _)) ?_; intro A2 k2 wy hy by_))
  all_goals
    rename_i hH
    obtain ⟨hp', _, _, hB'⟩ := hH
    have hc3 := new_cell3 hB' c3
    have HB2 := Lib.hid hB'
    have hr := Lib.hid (show Rd _ _ A2 [.int .i64 at_] from (by first | exact hy.next (bnext (Below.refl _ _) bx) | exact hy.next (bnext ((Below.refl _ _).drew) bx) | exact hy.next (bnext ((Below.refl _ _).alloc (Nat.le_refl _) _) bx) | exact hy.next (bnext (((Below.refl _ _).alloc (Nat.le_refl _) _).drew) bx) | exact hy))
    clear hB' hy bx by_ hx hS
    go_wp2_with fail
    rw [rounds_succ]
    go_wp2_with fail
    refine (As_PE code ⟨w.heap.size, 0, none⟩ _ ((HG.out.next HB.out).next HB2.out)).mono ?_
    rintro e w9 ⟨rfl, hb9⟩
    have hr9 := Lib.hid (hr.out.next hb9)
    have HB9 := Lib.hid (bnext HB.out (bnext HB2.out hb9))
    clear hb9
    go_wp2
    go_ret2
    exact ⟨A1, k1, A2, k2, rfl, hr9.out, HB9.out⟩
set_option maxRecDepth 100000 in
set_option maxHeartbeats 1000000 in
theorem As_nil (v : Value) (w : World) : Calls Tryz.prog 35 #[.nilIface, v] w fun e w' => e = .returned (.bool false) ∧ w = w' := by
  go_enter Tryz.func35, Tryz.ntmps35
  go_wp2
  go_ret
  exact ⟨rfl, rfl⟩
theorem atS_below {w1 w w' : World} {b o : Nat} {u : Value} (hb : Below w.heap.size w w') (h : w.cell? ⟨b, o, none⟩ = some u ∧ Below w1.heap.size w1 w) : w'.cell? ⟨b, o, none⟩ = some u ∧ Below w1.heap.size w1 w' :=
  ⟨new_cell3 hb h.1, bnext h.2 hb⟩
set_option maxRecDepth 100000 in
set_option maxHeartbeats 1000000 in
theorem Places_nil (w : World) :
    Calls Tryz.prog 36 #[.nilIface] w fun e w' => e = .returned (.tuple #[.slice none 0 0, .slice none 0 0]) ∧ Below w.heap.size w w' := by
  go_enter Tryz.func36, Tryz.ntmps36
  go_wp2
  refine wp_loop_rounds 1 ?_
  rw [rounds_succ]
  go_wp2_with fail
  refine (As_nil _ _).mono ?_
  rintro e w1 ⟨rfl, rfl⟩
  go_wp2
  go_ret2
  exact ⟨rfl, (Below.refl _ _).alloc (Nat.le_refl _) _⟩
set_option maxRecDepth 100000 in
set_option maxHeartbeats 1000000 in
theorem At_nil (w : World) :
    Calls Tryz.prog 21 #[.nilIface] w fun e w' => e = .returned (.tuple #[.int .i64 0, .int .i64 0]) ∧ Below w.heap.size w w' := by
  go_enter Tryz.func21, Tryz.ntmps21
  go_wp2_with fail
  refine (Places_nil _).mono ?_
  rintro e w1 ⟨rfl, hb⟩
  have HB := Lib.hid hb
  clear hb
  go_wp2_with (go_at_call 20; refine (Code_nil _).mono ?_; rintro e w' ⟨rfl, rfl⟩)
  go_ret2
  exact ⟨rfl, HB.out⟩
set_option maxRecDepth 100000 in
set_option maxHeartbeats 1000000 in
theorem At_one (name : ByteArray) (at_ code : Int) (v : Value) (w : World) (hg : ETyped w) (hv : IsErr w v [(name, at_)] code) :
    Calls Tryz.prog 21 #[v] w fun e w' => e = .returned (.tuple #[.int .i64 code, .int .i64 at_]) ∧ Below w.heap.size w w' := by
  have HG := Lib.hid hg
  have HV := Lib.hid hv
  clear hg hv
  go_enter Tryz.func21, Tryz.ntmps21
  go_wp2_with fail
  refine (Places_one name at_ code v _ HG.out HV.out).mono ?_
  rintro e w1 ⟨A1, k1, A2, k2, rfl, hr, hb⟩
  have HG1 := Lib.hid (HG.out.next hb)
  have HV1 := Lib.hid (HV.out.next hb)
  have HB := Lib.hid hb
  rcases hr with h | ⟨b, o, rfl, hlt, hc⟩
  · cases h
  have c0 := hc 0 (.int .i64 at_) rfl
  have c0' : w1.cell? ⟨b, o, none⟩ = some (.int .i64 at_) := c0
  have hC := Lib.hid (fun W hW => Code_any [(name, at_)] code v W (HG1.out.next hW) (HV1.out.next hW))
  have hS := Lib.hid (And.intro c0' (show Below w1.heap.size w1 w1.drew from (Below.refl _ _).drew))
  clear hb hc c0
  go_wp2_with fail
  clear c0'
  go_region_held (fun w' => w'.cell? ⟨b, o, none⟩ = some (.int .i64 at_) ∧ Below w1.heap.size w1 w')
    (first | with_reducible exact hS.out | assumption | exact atS_below (by assumption) (by assumption))
    (first
      | (go_at_call 20; refine (hC.out _ (by first | assumption | exact (by assumption : _ ∧ _).2)).mono ?_; rintro e w5 ⟨rfl, hb5⟩))
  all_goals
    rename_i hH
    have HB9 := Lib.hid (bnext HB.out hH.2)
    clear hH hS hC
    go_wp2
    go_ret2
    exact ⟨rfl, HB9.out⟩
end Go.Proofs.YthnkeejiocnflaaGreatDoor
