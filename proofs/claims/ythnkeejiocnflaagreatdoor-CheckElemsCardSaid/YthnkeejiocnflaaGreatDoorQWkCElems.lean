/-
  The walk of the law CheckElems.
-/
import Derived.Test.YthnkeejiocnflaaGreatDoorQChkS
namespace Go.Proofs.YthnkeejiocnflaaGreatDoor
set_option linter.unusedVariables false
set_option linter.unusedSimpArgs false
open Go.RowKit
theorem wpList_wantedV {P : Program} {ops : Array Oper} {Q : Exit → Act → World → Prop} {a : Act} {w : World} {rest : List Oper} {o : Oper} (hw : Region.wanted o (yielded ops a.tmps) = true) (h : o.wp P a w (wpList P ops Q rest) Q) : wpList P ops Q (o :: rest) a w := by
  show if Region.wanted o (yielded ops a.tmps) then _ else _
  rw [if_pos hw]
  exact .inl h
theorem appVg {w : World} {ops : Array Oper} {rest : List Oper} {o : Oper} {a : Act} {Q : Exit → Act → World → Prop} (hgd : Region.wanted o (yielded ops a.tmps) = true) (s x : Operand)
    (ho : o.op = .call { callee := .builtin .append, args := #[s, x], argTypes := #[22, 22] }) (base : Nat)
    (A : Option Addr) (cap : Nat) (xs : List Int) (n : Nat) (hn : xs.length = n) (hs : a.eval s = .slice A n cap) (hown : Own w base 3 A cap (xs.map VI))
    (A2 : Option Addr) (m c B : Nat) (news : List Int) (hm : news.length = m) (hx : a.eval x = .slice A2 m c) (hr : Rd w B A2 (news.map VI)) (hnil : A2 = none → m = 0)
    (hbytes : n + m ≤ 26388279066624) (hbase : base ≤ w.heap.size) (n' : Nat) (hn' : n + m = n')
    (h : ∀ A' cap' w', Own w' base 3 A' cap' ((xs ++ news).map VI) → w.grownBy w' (blk A) → (blk A' = blk A ∨ blk A' = some w.heap.size) → wpList Tryz.prog ops Q rest (a.put o.dst (.slice A' n' cap')) w') :
    wpList Tryz.prog ops Q (o :: rest) a w := by
  subst hn'
  obtain ⟨i0, hi0, hz0, hz1, hz2⟩ := info_parts intV_info
  refine wpList_wantedV hgd (wp_app s x 22 ho base 3 i0 _ 8 Tryz.underlying22 hi0 hz0 hz1 hz2 rfl A cap (xs.map VI) n (by rw [List.length_map]; exact hn) hs hown A2 m c B (news.map VI) (by rw [List.length_map]; exact hm) hx hr hnil (intv_ones _) (by simp only [maxLen]; omega) (by omega) hbase ?_)
  intro A' cap' w' h1 h2 h3
  rw [← List.map_append] at h1
  exact h A' cap' w' h1 h2 h3
set_option maxRecDepth 100000 in
set_option maxHeartbeats 4000000 in
theorem CheckElems_walk (w : World) (hg : ETyped w) (ht : ErrT w) (A : Option Addr) (c : Nat) (l : List Int) (hlc : l.length ≤ c) (hcm : c ≤ 17592186043904) (hA : Rd w w.heap.size A (l.map (Value.int .i64))) :
    Calls Tryz.prog 3 #[.slice A l.length c] w fun e w' => e = .returned (.bool true) ∧ Below w.heap.size w w' := by
  obtain ⟨n, hn⟩ : ∃ n, n = l.length := ⟨_, rfl⟩
  rw [← hn] at hlc ⊢
  have HN := Lib.hid hn
  have HA := Lib.hid (show Rd w w.heap.size A (l.map VI) from hA)
  have HW := Lib.hid (cawake_true w hg ht)
  clear hn hA hg ht
  obtain ⟨el, hel⟩ : ∃ el, el = elemsP l := ⟨_, rfl⟩
  have HE := Lib.hid hel
  clear hel
  go_enter Tryz.func3, Tryz.ntmps3
  go_wp2_with (first
    | (go_at_call 9; refine HW.out.mono ?_; rintro e w1 ⟨rfl, b1⟩; have HB1 := Lib.hid b1; have HA1 := Lib.hid (HA.out.next b1); clear b1)
    | (at_builtin; (refine appVg (by rfl) (.tmp 5) (.tmp 6) rfl w1.heap.size (some ⟨w1.heap.size, 0, none⟩) 0 [] 0 rfl rfl (Own.made w1 3 (Nat.le_refl _)) A n c w1.heap.size l HN.out.symm rfl (HA1.out.alloc (Nat.le_refl _) _) (fun e => by rw [HN.out]; exact rd_nil_len HA1.out e) (by omega) (by simp) n (Nat.zero_add n) ?_); intro A3 k3 w3 o3 g3 h3; have O3 := Lib.hid o3; have B3 := Lib.hid (grown_below ((Below.refl w1.heap.size w1).alloc (Nat.le_refl _) _) g3 (by simp) (fun k hk => by cases hk; exact Nat.le_refl _)); clear o3 g3 h3)
    | (go_at_call 10; refine (elems_any A3 n k3 l w3 HN.out (by omega) O3.out.rd).mono ?_; rintro e w' ⟨rfl, rfl⟩)
    | (go_at_call 11; refine (relems_any A n c l w3 HN.out (by omega) (HA1.out.next B3.out)).mono ?_; rintro e w' ⟨rfl, rfl⟩))
  go_ret
  exact ⟨by first | rfl | simp, bnext HB1.out B3.out⟩
end Go.Proofs.YthnkeejiocnflaaGreatDoor
