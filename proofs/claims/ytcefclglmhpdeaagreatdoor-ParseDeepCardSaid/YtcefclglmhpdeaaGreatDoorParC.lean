/-
  The parser's put: a further expression in its row.
-/
import Derived.Test.YtcefclglmhpdeaaGreatDoorParB
import Derived.Deep.AppendLies
namespace Go.Proofs.YtcefclglmhpdeaaGreatDoor
set_option linter.unusedVariables false
set_option linter.unusedSimpArgs false
open Go.RowKit
theorem ex_info : (Tryz.prog.info? 43).map (fun i => (i.zero, i.size, i.bytes)) = some (some (.agg #[.int .i64 0, .string ⟨#[]⟩, .int .u64 0, .slice none 0 0, .int .i64 0]), 5, 64) := by kernel_rfl
theorem flat_ex : ∀ ms : List (Ex × Value), (ms.flatMap exCells).length = ms.length * 5
  | [] => rfl
  | m :: ms => by rw [List.flatMap_cons, List.length_append, flat_ex ms, List.length_cons]; simp [exCells]; omega
theorem args_one {w : World} {v : Value} {l : List Nat} (h : ArgsV w v l) : v.oneCell' = true := by
  obtain ⟨A, c, rfl⟩ := h
  rfl
/-- append of one expression, as a step of a region that draws its order. -/
theorem appE_step {w : World} {ops : Array Oper} {o : Oper} {a : Act} {K : Act → World → Prop} {Q : Exit → Act → World → Prop} {E : Prop} (hgd : o.guard = none) (s x : Operand)
    (ho : o.op = .call { callee := .builtin .append, args := #[s, x], argTypes := #[24, 24] }) (base : Nat)
    (A : Option Addr) (cap : Nat) (es : List Ex) (n : Nat) (hn : es.length = n) (hs : a.eval s = .slice A n cap) (hown : OwnE w base A cap es)
    (g2 : Nat) (hx : a.eval x = .slice (some ⟨g2, 0, none⟩) 1 1) (m : Ex × Value) (hb : w.heap[g2]? = some (.cells (exCells m).toArray 43 (0, 0))) (hargs : ArgsV w m.2 m.1.args)
    (hbytes : n + 1 ≤ 1000000) (hbase : base ≤ w.heap.size)
    (h : ∀ A' cap' w', OwnE w' base A' cap' (es ++ [m.1]) → w.grownBy w' (blk A) → KT base w w' → K (a.put o.dst (.slice A' (n + 1) cap')) w') :
    if Region.wanted o (yielded ops a.tmps) = true then Oper.wp Tryz.prog o a w K Q else E := by
  have hw : Region.wanted o (yielded ops a.tmps) = true := by simp [Region.wanted, hgd]
  rw [if_pos hw]
  subst hn
  obtain ⟨ms, hm1, hm2, hm3⟩ := hown
  obtain ⟨i0, hi0, hz0, hz1, hz2⟩ := info_parts ex_info
  refine wp_append_own w s x 24 ho base 43 i0 _ 5 64 Tryz.underlying24 hi0 hz0 hz1 hz2 rfl (by decide) _ es.length (ms.flatMap exCells) hs hm2 ⟨g2, 0, none⟩ 1 1 (exCells m) hx rfl ?_ ?_ (by simp only [maxLen]; omega) (by omega) hbase ?_
  · intro j u hu
    have e' : (⟨g2, 0, none⟩ : Addr).add j = ⟨g2, j, none⟩ := by unfold Addr.add; split <;> simp_all
    rw [e', cell_of_row w g2 j _ _ (0, 0) hb]
    simpa using hu
  · intro u hu
    unfold exCells at hu
    simp at hu
    rcases hu with rfl | rfl | rfl | rfl | rfl
    · rfl
    · rfl
    · rfl
    · exact args_one hargs
    · rfl
  · intro v' w' h1 h2 _
    have hk : KT base w w' := KT.grown (A := A) (by rw [blk_own] at h2; exact h2) rfl (row_form hm2)
    rcases h1.2 with ⟨_, h0⟩ | ⟨g, cap', cur, rfl, r⟩
    · omega
    · refine h (some ⟨g, 0, none⟩) cap' w' ⟨ms ++ [m], by rw [List.map_append, hm1]; rfl, ?_, ?_⟩ (by rw [blk_own] at h2; exact h2) hk
      · rw [List.flatMap_append, List.length_append]
        simp only [List.flatMap_cons, List.flatMap_nil, List.append_nil]
        exact h1
      · intro y hy
        rcases List.mem_append.1 hy with hy | hy
        · exact (hm3 y hy).kt hk
        · rw [List.mem_singleton.1 hy]
          exact hargs.kt hk
section
variable {base P tc : Nat} {TA : Option Addr} {L : List Tok} {s : PS} {SA EA : Option Addr} {sc ec : Nat} {ev : Value}
/-- The parser's struct stands behind an append. -/
theorem pr_P {w w' : World} (h : PR base P TA tc L s w SA sc EA ec ev) (hg : w.grownBy w' (blk EA)) : w'.heap[P]? = some (.cells (PRow TA L.length tc s.i (.slice SA s.ss.length sc) (.slice EA s.es.length ec) s.deep ev) 77 (0, 0)) := by
  have hPE : blk EA ≠ some P := by
    obtain ⟨ms, _, h2, _⟩ := h.ownE
    rcases row_form h2 with rfl | ⟨g, cur, rfl, _, hc⟩
    · simp [blk]
    · intro e'
      have e'' : g = P := by simpa [blk] using e'
      subst e''
      have hb := h.blk
      rw [hc] at hb
      injection hb with hb
      injection hb with _ hb _
      exact absurd hb (by decide)
  exact (hg.block P h.lt (fun e' => hPE e'.symm)).trans h.blk
theorem prow_c3 {w : World} {n i sn deep : Nat} {ev : Value} {TA SA EA : Option Addr} {ln tc sc ec en : Nat} (hn : n = en) (h : w.heap[P]? = some (.cells (PRow TA ln tc i (.slice SA sn sc) (.slice EA en ec) deep ev) 77 (0, 0))) : w.cell? ⟨P, 3, none⟩ = some (.slice EA n ec) := by
  subst hn
  exact cell_of_row _ _ 3 _ _ _ h
/-- Behind the append and the store of its slice. -/
theorem pr_put {w w' : World} (h : PR base P TA tc L s w SA sc EA ec ev) {e : Ex} {A' : Option Addr} {cap' : Nat} (ho : OwnE w' base A' cap' (s.es ++ [e])) (hg : w.grownBy w' (blk EA)) (hk : KT base w w') (he : s.es.length + 1 ≤ s.i) :
    PR base P TA tc L { s with es := s.es ++ [e] } (w'.setCell ⟨P, 3, none⟩ (.slice A' (s.es.length + 1 : Nat) cap')) SA sc A' cap' ev ∧ KT base w (w'.setCell ⟨P, 3, none⟩ (.slice A' (s.es.length + 1 : Nat) cap')) := by
  have hblk := pr_P h hg
  have hk2 : KT base w' (w'.setCell ⟨P, 3, none⟩ (.slice A' (s.es.length + 1 : Nat) cap')) := KT.set (t := ⟨P, 3, none⟩) hblk h.hb rfl _ rfl (by show (3 : Nat) ≠ 2; decide)
  have hk3 := hk.trans hk2
  have hrow : (w'.setCell ⟨P, 3, none⟩ (.slice A' (s.es.length + 1 : Nat) cap')).heap[P]? = _ := heap_setCell_same _ _ _ _ _ _ hblk
  rw [prow_set3] at hrow
  refine ⟨⟨h.hb, ?_, h.ownS.kt hk3, ho.keep hk2 ?_, h.err.kt hk3, h.toks.below (hk3.toBelow h.base_le), ety_kt h.ety h.etb hk3, h.etb, h.len, h.ii, h.dd, ?_, h.sl⟩, hk3⟩
  · rw [show (s.es ++ [e]).length = s.es.length + 1 from by rw [List.length_append]; rfl]
    exact hrow
  · intro g cur hA hc
    rw [setCell_ne _ _ _ (fun e' => by
      have e'' : g = P := e'
      subst e''
      rw [hblk] at hc
      injection hc with hc
      injection hc with _ hc _
      exact absurd hc (by decide))]
    exact hc
  · show (s.es ++ [e]).length ≤ s.i
    rw [List.length_append]
    exact he
set_option maxRecDepth 100000 in
set_option maxHeartbeats 4000000 in
theorem put_any (w : World) (h : PR base P TA tc L s w SA sc EA ec ev) (e : Ex) (v : Value) (hv : ArgsV w v e.args) (he : s.es.length + 1 ≤ s.i) :
    Calls Tryz.prog 79 #[PP P, .agg #[.int .i64 e.kind, .string e.name, .int .u64 e.num, v, .int .i64 e.pos]] w fun r w' => r = .returned (.int .i64 ((putP s e).2 : Nat)) ∧ PM base P TA tc L (putP s e).1 w' ∧ KT base w w' := by
  obtain ⟨kd, nm, num, args, ps⟩ := e
  obtain ⟨A, c, rfl⟩ := id hv
  dsimp only at hv ⊢
  obtain ⟨w1, hw1⟩ : ∃ w1, w1 = w.alloc (.cells #[.int .i64 kd, .string nm, .int .u64 num, .slice A args.length c, .int .i64 ps] 43) := ⟨_, rfl⟩
  have hb1 : Below w.heap.size w w1 := by rw [hw1]; exact (Below.refl _ _).alloc (Nat.le_refl _) _
  have h1 := h.below hb1
  have c5 := h1.c5
  have c3 := h1.c3
  have y3 := h1.free 3
  have k1 := KT.below (base := base) hb1
  have hil := h.ii
  have hll := h.len
  have HV := Lib.hid (hv.kt k1)
  have hrow : w1.heap[w.heap.size]? = some (.cells #[.int .i64 kd, .string nm, .int .u64 num, .slice A args.length c, .int .i64 ps] 43 (0, 0)) := by rw [hw1]; exact heap_alloc_new _ _
  cases herr : s.err with
  | some x =>
    obtain ⟨te, xe, rfl⟩ := h.anErr (by rw [herr]; simp)
    have HP := Lib.hid (show putP s ⟨kd, nm, num, args, ps⟩ = (s, 0) from by unfold putP; rw [herr]; rfl)
    have H1 := Lib.hid h1
    have K1 := Lib.hid k1
    rw [hw1] at c5
    have HW := Lib.hid hw1
    clear h herr hw1 hb1 h1 c3 y3 k1 hv hrow
    go_enter Tryz.func79, Tryz.ntmps79
    go_wp2
    go_ret
    rw [← HW.out]
    exact ⟨by rw [HP.out]; rfl, by rw [HP.out]; exact H1.out.pm, K1.out⟩
  | none =>
    obtain rfl := h.noErr herr
    have HP := Lib.hid (show putP s ⟨kd, nm, num, args, ps⟩ = ({ s with es := s.es ++ [⟨kd, nm, num, args, ps⟩] }, s.es.length) from by unfold putP; rw [herr]; rfl)
    have H1 := Lib.hid h1
    have K1 := Lib.hid k1
    have HR := Lib.hid hrow
    rw [hw1] at c5
    have HW := Lib.hid hw1
    have HE := Lib.hid he
    obtain ⟨n, hn⟩ : ∃ n, n = s.es.length := ⟨_, rfl⟩
    rw [← hn] at c3
    have hn2 : n + 1 ≤ 1000000 := by omega
    have HN := Lib.hid hn
    have r0 := cell_of_row w1 _ 0 _ _ _ hrow
    have r1 := cell_of_row w1 _ 1 _ _ _ hrow
    have r2 := cell_of_row w1 _ 2 _ _ _ hrow
    have r3 := cell_of_row w1 _ 3 _ _ _ hrow
    have r4 := cell_of_row w1 _ 4 _ _ _ hrow
    clear h herr hw1 hb1 h1 k1 hv hrow he hn
    go_enter Tryz.func79, Tryz.ntmps79
    go_wp2_with fail
    rw [← HW.out]
    clear c5
    have c3o : ∀ o : Obj, (w1.alloc o).cell? ⟨P, 3, none⟩ = some (.slice EA n ec) := fun o => (World.cell?_alloc_lt w1 o ⟨P, 3, none⟩ H1.out.lt).trans c3
    have HGO := Lib.hid (fun o : Obj => H1.out.below (w' := (w1.alloc o).drew) ((Below.refl _ _).alloc (Nat.le_refl _) o).drew)
    have HVO := Lib.hid (fun o : Obj => HV.out.kt (base := base) (w' := (w1.alloc o).drew) (KT.below ((Below.refl _ _).alloc (Nat.le_refl _) o).drew))
    have HKO := Lib.hid (fun o : Obj => (KT.below (base := base) (w := w1) (w' := (w1.alloc o).drew) ((Below.refl _ _).alloc (Nat.le_refl _) o).drew))
    go_region_law (refine appE_step rfl (.tmp 15) (.tmp 17) rfl base EA ec s.es n HN.out.symm rfl (HGO.out _).ownE w1.heap.size rfl (⟨kd, nm, num, args, ps⟩, .slice A args.length c) (heap_alloc_new _ _) (HVO.out _) hn2 (by have := H1.out.base_le; simp; omega) ?_; intro A' cap' w5 ho hg hk; have hPB := pr_P (HGO.out _) hg; have q3 := prow_c3 HN.out hPB; have z3 := pfree_row hPB 3; have HX := Lib.hid (pr_put (HGO.out _) ho hg hk HE.out); clear hPB ho hg hk)
    all_goals
      go_wp2
      go_ret
      have hn := HN.out
      subst hn
      obtain ⟨x1, x2⟩ := HX.out
      exact ⟨by rw [HP.out]; rfl, by rw [HP.out]; exact x1.pm, K1.out.trans ((HKO.out _).trans x2)⟩
end
end Go.Proofs.YtcefclglmhpdeaaGreatDoor
