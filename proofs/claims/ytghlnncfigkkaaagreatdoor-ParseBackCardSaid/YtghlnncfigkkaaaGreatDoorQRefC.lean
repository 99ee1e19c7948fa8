/-
  The reference's put: a row copied, and one more.
-/
import Derived.Test.YtghlnncfigkkaaaGreatDoorQParC
import Derived.Test.YtghlnncfigkkaaaGreatDoorQRefB
namespace Go.Proofs.YtghlnncfigkkaaaGreatDoor
set_option linter.unusedVariables false
set_option linter.unusedSimpArgs false
open Go.RowKit
theorem run_app0N {P : Program} (w : World) (t ty e : TypeId) (i : TypeInfo) (z : Value) (size bytes : Nat) (ht : P.underlying t = some (.slice e)) (hi : P.info? e = some i) (hz : i.zero = some z)
  (hsz : i.size = size) (hby : i.bytes = bytes) (hzs : z.cells.size = size) (hpos : 0 < size) (B gb : Nat) (hgb : w.heap[gb]? = some (.cells #[] e (0, 0))) (hB : B ≤ gb) (hBw : B ≤ w.heap.size)
  (A2 : Option Addr) (m c b2 : Nat) (news : List Value) (hr : w.ownsRow b2 e size (.slice A2 m c) m news)
  (h63 : m ≤ maxLen) (hbytes : (m + m / 4 + 192) * bytes ≤ 281474976710656) :
  ∃ A' cap' w', (Builtin.append_ #[t, t] ty #[.slice (some ⟨gb, 0, none⟩) 0 0, .slice A2 m c]).run P w = .ok (.slice A' m cap') w' ∧ w'.ownsRow B e size (.slice A' m cap') m news ∧ Below w.heap.size w w' := by
 by_cases h0 : m = 0
 ·subst h0
  have hnews : news = [] := List.eq_nil_of_length_eq_zero (by rw [hr.1]; simp)
  subst hnews
  refine ⟨some ⟨gb, 0, none⟩, 0, w, ?_, ⟨by simp, .inr ⟨gb, 0, #[], rfl, hB, hgb, Nat.le_refl _, by simp [maxLen], by simp, by simp⟩⟩, Below.refl _ _⟩
  cases A2 with
  | none => simp [Builtin.append_, run_underlying ht, sizeOf, typeInfo, hi, Builtin.lenOf, Builtin.firstCells, storeCells]
  | some ad => simp [Builtin.append_, run_underlying ht, sizeOf, typeInfo, hi, Builtin.lenOf, Builtin.firstCells, loadCells, loadCellsFrom, storeCells]
 ·rcases hr.2 with ⟨_, hm⟩ | ⟨g, cap', cur, hv, hb1, hg, h1, h2, h3, h4⟩
  ·exact absurd hm h0
  ·have e1 : A2 = some ⟨g, 0, none⟩ := by injection hv
   subst e1
   have hlen := hr.1
   have hcells : ∀ (j : Nat) (u : Value), news[j]? = some u → w.cell? ((⟨g, 0, none⟩ : Addr).add j) = some u := by
    intro j u hu
    have e' : (⟨g, 0, none⟩ : Addr).add j = ⟨g, j, none⟩ := by unfold Addr.add; split <;> simp_all
    rw [e', cell_of_row w g j _ _ (0, 0) hg]
    rw [← h4, List.getElem?_take] at hu
    split at hu
    ·simpa using hu
    ·cases hu
   have hrun := run_append_grow (P := P) w t ty e i z ht hi hz ⟨gb, 0, none⟩ 0 0 [] (by simp) (fun j v hv => by simp at hv) ⟨g, 0, none⟩ m c news (by rw [hsz, hlen]) hcells (by omega) (by simp only [maxLen] at h63; omega)
    (growslice_fits_wide (by omega) (by rw [hby]; simpa using hbytes))
   simp only [Nat.zero_add] at hrun
   have hge := grownCap_ge w m 0 e
   have hcm : grownCap w m 0 e ≤ maxLen := grownCap_le_maxLen w m 0 _ (by omega)
   refine ⟨_, _, _, hrun, ⟨hlen, .inr ⟨w.heap.size, _, _, rfl, hBw, heap_alloc_new w.drew _, by omega, hcm, ?_, ?_⟩⟩, (Below.refl w.heap.size w).drew.alloc (Nat.le_refl _) _⟩
   ·simp only [Array.size_append, List.size_toArray, size_zeroCells, hlen, hzs]
    rw [List.length_nil, Nat.zero_add, ← Nat.add_mul]
    congr 1
    omega
   ·rw [← hlen]
    simp
theorem appE0_step {X : Nat → Prop} {w : World} {ops : Array Oper} {o : Oper} {a : Act} {K : Act → World → Prop} {Q : Exit → Act → World → Prop} {E : Prop} (hgd : o.guard = none) (s x : Operand)
  (ho : o.op = .call { callee := .builtin .append, args := #[s, x], argTypes := #[24, 24] }) (B gb : Nat)
  (hs : a.eval s = .slice (some ⟨gb, 0, none⟩) 0 0) (A2 : Option Addr) (c n : Nat) (es : List Ex) (hn : es.length = n) (hx : a.eval x = .slice A2 n c) (hown : OwnEX X w 0 A2 c es)
  (hgb : w.heap[gb]? = some (.cells #[] 90 (0, 0))) (hB : B ≤ gb) (hBw : B ≤ w.heap.size) (hbytes : n ≤ 1000000)
  (h : ∀ A' cap' w', OwnEX X w' 0 A' cap' es → Below w.heap.size w w' → (∀ k, blk A' = some k → B ≤ k) → K (a.put o.dst (.slice A' n cap')) w') :
  if Region.wanted o (yielded ops a.tmps) = true then Oper.wp Tryz.prog o a w K Q else E := by
 have hw : Region.wanted o (yielded ops a.tmps) = true := by simp [Region.wanted, hgd]
 rw [if_pos hw]
 subst hn
 obtain ⟨i0, hi0, hz0, hz1, hz2⟩ := info_parts ex_info
 obtain ⟨ms, h1, h2, h3, h4⟩ := hown
 obtain ⟨A', cap', w', hrun, h5, h6⟩ := run_app0N (P := Tryz.prog) w 24 o.type 90 i0 _ 5 64 Tryz.underlying24 hi0 hz0 hz1 hz2 rfl (by omega) B gb hgb hB hBw A2 es.length c 0 (ms.flatMap exCells) h2 (by simp only [maxLen]; omega) (by omega)
 unfold Oper.wp execOp
 simp only [ho, resolve, invoke, builtin, Sem.run_bind, Sem.run_pure, Result.andThen_ok, List.map_toArray, List.map_cons, List.map_nil, hs, hx, hrun]
 refine h _ _ _ ⟨ms, h1, ?_, fun m hm => (h3 m hm).kt (KT.below (base := 0) h6), h4⟩ h6 (fun k hk => ?_)
 ·refine ⟨h5.1, ?_⟩
  rcases h5.2 with hv | ⟨g, cap'', cur, hv, hb1, r⟩
  ·exact .inl hv
  ·exact .inr ⟨g, cap'', cur, hv, Nat.zero_le _, r⟩
 ·rcases row_form h5 with rfl | ⟨g, cur, rfl, hb, _⟩
  ·simp [blk] at hk
  ·have e' : g = k := by simpa [blk] using hk
   omega
section
variable {X : Nat → Prop} {TA : Option Addr} {tc : Nat} {L : List Tok} {s : PS} {w w' : World} {SA : Option Addr} {sc : Nat} {EA : Option Addr} {ec : Nat}
theorem RR.re {Y : Nat → Prop} (h : RR X TA L s w SA sc EA ec) (hY : ∀ k, Y k → X k) : RR Y TA L s w SA sc EA ec :=
 ⟨h.ownS.re fun k hk => .inl (hY k hk), h.ownE.re fun k hk => .inl (hY k hk), h.toks, h.err, h.len, h.ii, h.dd, h.el, h.sl, fun k hk => h.xx k (hY k hk)⟩
theorem three_kept {w w1 : World} {a b c : Array Value} {T T' T'' : TypeId} (hb : Below (((w.alloc (.cells a T)).alloc (.cells b T')).alloc (.cells c T'')).heap.size (((w.alloc (.cells a T)).alloc (.cells b T')).alloc (.cells c T'')) w1) :
  w1.heap[w.heap.size]? = some (.cells a T (0, 0)) ∧ w1.heap[w.heap.size + 1]? = some (.cells b T' (0, 0)) ∧ w1.heap[w.heap.size + 1 + 1]? = some (.cells c T'' (0, 0)) ∧ Below w.heap.size w w1 ∧ w.heap.size + 1 + 1 < w1.heap.size := by
 have hs := hb.size
 have h12 : Below ((w.alloc (.cells a T)).alloc (.cells b T')).heap.size ((w.alloc (.cells a T)).alloc (.cells b T')) w1 := (one_new _ _).trans (hb.mono (by simp))
 obtain ⟨k0, k1, h3, h4⟩ := box_kept2 h12
 have h2 := heap_alloc_new ((w.alloc (.cells a T)).alloc (.cells b T')) (.cells c T'')
 simp only [World.size_alloc] at h2 hs
 exact ⟨k0, k1, (hb.block (w.heap.size + 1 + 1) (by simp)).trans h2, h3, by omega⟩
theorem al_old (w : World) (cs : Array Value) (T : TypeId) (o : Obj) : ((w.alloc (.cells cs T)).alloc o).heap[w.heap.size]? = some (.cells cs T (0, 0)) := by
 rw [((Below.refl (w.heap.size + 1) (w.alloc (.cells cs T))).alloc (by rw [World.size_alloc]; omega) o).block w.heap.size (by omega)]
 exact heap_alloc_new w _
theorem al_new2 (w : World) (cs : Array Value) (T : TypeId) (o : Obj) : ((w.alloc o).alloc (.cells cs T)).heap[w.heap.size + 1]? = some (.cells cs T (0, 0)) := by
 have h := heap_alloc_new (w.alloc o) (.cells cs T)
 rwa [World.size_alloc] at h
theorem al_two (w : World) (o o' : Obj) : Below w.heap.size w ((w.alloc o).alloc o') := (one_new w o).trans ((one_new _ o').mono (by simp))
theorem OwnEX.next {base : Nat} {es : List Ex} (h : OwnEX X w base EA ec es) (hb : Below w.heap.size w w') : OwnEX X w' base EA ec es :=
 h.keep (KT.below (base := 0) hb) (fun g cur _ hg => (hb.block g (Array.getElem?_eq_some_iff.1 hg).1).trans hg)
theorem OwnSX.next {base : Nat} {ss : List Sm} (h : OwnSX X w base SA sc ss) (hb : Below w.heap.size w w') : OwnSX X w' base SA sc ss := h.kt (KT.below (base := 0) hb)
theorem bl_on {w w' : World} {g : Nat} {o : Obj} (h : w.heap[g]? = some o) (hb : Below w.heap.size w w') : w'.heap[g]? = some o := (hb.block g (Array.getElem?_eq_some_iff.1 h).1).trans h
theorem cells5 {w : World} {g : Nat} {a b c d e : Value} {T : TypeId} (hz : w.heap[g]? = some (.cells #[a, b, c, d, e] T (0, 0))) :
  w.cell? ⟨g, 0, none⟩ = some a ∧ w.cell? ⟨g, 1, none⟩ = some b ∧ w.cell? ⟨g, 2, none⟩ = some c ∧ w.cell? ⟨g, 3, none⟩ = some d ∧ w.cell? ⟨g, 4, none⟩ = some e :=
 ⟨cell_of_row _ _ 0 _ _ _ hz, cell_of_row _ _ 1 _ _ _ hz, cell_of_row _ _ 2 _ _ _ hz, cell_of_row _ _ 3 _ _ _ hz, cell_of_row _ _ 4 _ _ _ hz⟩
theorem rput_end {Y : Nat → Prop} {e : Ex} {w6 wS : World} {g0 g2 : Nat} {A2 : Option Addr} {k2 : Nat} {c0 : Array Value} {v a b c d x f q a0 b0 c1 d0 x0 f0 q0 : Value} (h : RR Y TA L s w SA sc EA ec) (hY : ∀ k, X k → Y k)
  (p0 : w6.heap[g0]? = some (.cells c0 165 (0, 0))) (p2 : w6.heap[g2]? = some (.cells #[a0, b0, c1, d0, x0, f0, q0] 165 (0, 0))) (hb : Below w.heap.size w w6) (hg0 : w.heap.size ≤ g0) (hg2 : w.heap.size ≤ g2) (hne : g0 ≠ g2)
  (ho : OwnEX X w6 0 A2 k2 (s.es ++ [e])) (he : s.es.length + 1 ≤ s.i)
  (hS : wS = (((((((w6.setCell ⟨g0, 3, none⟩ v).setCell ⟨g2, 0, none⟩ a).setCell ⟨g2, 1, none⟩ b).setCell ⟨g2, 2, none⟩ c).setCell ⟨g2, 3, none⟩ d).setCell ⟨g2, 4, none⟩ x).setCell ⟨g2, 5, none⟩ f).setCell ⟨g2, 6, none⟩ q) :
  wS.drew.heap[g2]? = some (.cells #[a, b, c, d, x, f, q] 165 (0, 0)) ∧ RR X TA L { s with es := s.es ++ [e] } wS.drew SA sc A2 k2 ∧ Below w.heap.size w wS.drew := by
 have q2 : (w6.setCell ⟨g0, 3, none⟩ v).heap[g2]? = _ := (setCell_ne w6 ⟨g0, 3, none⟩ v (k := g2) (fun e => hne e.symm)).trans p2
 obtain ⟨s1, s2, s3, s4⟩ := st7 q2 hS
 have hB : Below w.heap.size w wS.drew := (s4 w.heap.size w (hb.setCell (p := ⟨g0, 3, none⟩) hg0 _) hg2).drew
 have hbl : ∀ (k : Nat) (cs : Array Value) (T : TypeId), w6.heap[k]? = some (.cells cs T (0, 0)) → T ≠ 165 → wS.drew.heap[k]? = some (.cells cs T (0, 0)) := by
  intro k cs T hk hT
  have n0 : k ≠ g0 := by rintro rfl; rw [p0] at hk; injection hk with hk; injection hk with _ hk; exact hT hk.symm
  have n2 : k ≠ g2 := by rintro rfl; rw [p2] at hk; injection hk with hk; injection hk with _ hk; exact hT hk.symm
  show wS.heap[k]? = _
  rw [s2 k n2, setCell_ne _ _ _ (by exact n0)]
  exact hk
 have h0 := (h.re hY).next hB
 exact ⟨s1, ⟨h0.ownS, ho.keep' (fun g cur _ hg => hbl _ _ _ hg (by decide)) (fun g cur _ hg => hbl _ _ _ hg (by decide)), h0.toks, h0.err, h0.len, h0.ii, h0.dd, by rw [List.length_append]; exact he, h0.sl, h0.xx⟩, hB⟩
set_option maxRecDepth 100000 in
set_option maxHeartbeats 4000000 in
theorem rput_any (w : World) (e : Ex) (A : Option Addr) (m c : Nat) (h : RR (XA X A) TA L s w SA sc EA ec) (tc : Nat) (hv : ArgsV X 0 w (.slice A m c) e.args) (he : s.es.length + 1 ≤ s.i) :
  Calls Tryz.prog 178 #[.agg #[.slice TA L.length tc, .int .i64 s.i, .slice SA s.ss.length sc, .slice EA s.es.length ec, .int .i64 s.deep, .int .i64 (eC s), .int .i64 (eP s)], .agg #[.int .i64 e.kind, .string e.name, .int .u64 e.num, .slice A m c, .int .i64 e.pos]] w fun r w' => ∃ EA' ec', r = .returned (.tuple #[RVal TA L.length tc (putP s e).1 SA sc EA' ec', .int .i64 ((putP s e).2 : Nat)]) ∧ RR X TA L (putP s e).1 w' SA sc EA' ec' ∧ Below w.heap.size w w' := by
 obtain ⟨kd, nm, num, args, ps⟩ := e
 dsimp only at hv ⊢
 by_cases herr : s.err = none
 ·have q : (((eC s : Nat) : Int) != 0) = false := by rw [eC_none herr]; rfl
  have HP := Lib.hid (show putP s ⟨kd, nm, num, args, ps⟩ = ({ s with es := s.es ++ [⟨kd, nm, num, args, ps⟩] }, s.es.length) from by unfold putP; rw [herr]; rfl)
  obtain ⟨n, hn⟩ : ∃ n, n = s.es.length := ⟨_, rfl⟩
  have hn2 : n + 1 ≤ 1000000 := by have := h.ii; have := h.len; omega
  rw [← hn]
  have HN := Lib.hid hn
  obtain ⟨w4, hw4⟩ : ∃ w4, w4 = (((w.alloc (.cells #[.slice TA L.length tc, .int .i64 s.i, .slice SA s.ss.length sc, .slice EA n ec, .int .i64 s.deep, .int .i64 (eC s), .int .i64 (eP s)] 165)).alloc (.cells #[.int .i64 kd, .string nm, .int .u64 num, .slice A m c, .int .i64 ps] 90)).alloc (.cells #[.slice none 0 0, .int .i64 0, .slice none 0 0, .slice none 0 0, .int .i64 0, .int .i64 0, .int .i64 0] 165)) := ⟨_, rfl⟩
  have HB4 := Lib.hid (show ∀ W, Below w4.heap.size w4 W → W.heap[w.heap.size]? = some (.cells #[.slice TA L.length tc, .int .i64 s.i, .slice SA s.ss.length sc, .slice EA n ec, .int .i64 s.deep, .int .i64 (eC s), .int .i64 (eP s)] 165 (0, 0)) ∧ W.heap[w.heap.size + 1]? = some (.cells #[.int .i64 kd, .string nm, .int .u64 num, .slice A m c, .int .i64 ps] 90 (0, 0)) ∧ W.heap[w.heap.size + 1 + 1]? = some (.cells #[.slice none 0 0, .int .i64 0, .slice none 0 0, .slice none 0 0, .int .i64 0, .int .i64 0, .int .i64 0] 165 (0, 0)) ∧ Below w.heap.size w W ∧ w.heap.size + 1 + 1 < W.heap.size from fun W hW => by rw [hw4] at hW; exact three_kept hW)
  have HR4 := Lib.hid (fun W hW => h.next (w' := W) (HB4.out W hW).2.2.2.1)
  have HV4 := Lib.hid (fun W hW => hv.kt (w' := W) (KT.below (base := 0) (HB4.out W hW).2.2.2.1))
  have HE := Lib.hid he
  have H0 := Lib.hid h
  have HY := Lib.hid (show ∀ k, X k → XA X A k from fun k hk => .inl hk)
  have HW4 := Lib.hid hw4
  clear h herr hv he hn hw4
  go_enter Tryz.func178, Tryz.ntmps178
  go_wp2_with fail
  rw [← HW4.out]
  have hn3 : n ≤ 1000000 := by omega
  obtain ⟨p0, p1, p2, p3, p4⟩ := HB4.out w4 (Below.refl _ _)
  obtain ⟨r0, r1, r2, r3, r4, r5, r6⟩ := cells7 p0
  obtain ⟨e0, e1, e2, e3, e4⟩ := cells5 p1
  have hlt4 : w.heap.size < w4.heap.size := by omega
  have hlt5 : w.heap.size + 1 < w4.heap.size := by omega
  clear p0 p1 p2 p3
  go_region_law (first | (have u1 := (HR4.out ((w4.alloc (.cells #[] 90)).drew) ((one_new w4 (.cells #[] 90)).drew)).ownE; have u2 : ((w4.alloc (.cells #[] 90)).drew).heap[w4.heap.size]? = some (.cells #[] 90 (0, 0)) := heap_alloc_new w4 (.cells #[] 90); have u3 := ((one_new w4 (.cells #[] 90)).drew).size; refine @appE0_step (XA X A) ((w4.alloc (.cells #[] 90)).drew) _ _ _ _ _ _ rfl (.tmp 10) (.tmp 13) ?_ w4.heap.size w4.heap.size ?_ EA ec n s.es ?_ ?_ ?_ ?_ ?_ ?_ ?_ ?_; rfl; rfl; exact HN.out.symm; rfl; exact u1; exact u2; exact Nat.le_refl _; exact u3; exact hn3; clear u1 u2 u3; intro A1 k1 w5 ho1 hb1 hA1; have b5 : Below w4.heap.size w4 w5 := bnext ((one_new w4 (.cells #[] 90)).drew) hb1; obtain ⟨p0, p1, p2, p3, p4⟩ := HB4.out w5 b5; obtain ⟨e0, e1, e2, e3, e4⟩ := cells5 p1; have hlt5 : w.heap.size + 1 < w5.heap.size := Nat.lt_trans (Nat.lt_succ_self _) p4; clear p0 p1 p2 p3) | (have u1 := (HR4.out (((w4.alloc (.cells #[] 90)).alloc (.cells #[.int .i64 kd, .string nm, .int .u64 num, .slice A m c, .int .i64 ps] 90)).drew) ((al_two w4 (.cells #[] 90) (.cells #[.int .i64 kd, .string nm, .int .u64 num, .slice A m c, .int .i64 ps] 90)).drew)).ownE; have u2 : (((w4.alloc (.cells #[] 90)).alloc (.cells #[.int .i64 kd, .string nm, .int .u64 num, .slice A m c, .int .i64 ps] 90)).drew).heap[w4.heap.size]? = some (.cells #[] 90 (0, 0)) := al_old w4 #[] 90 (.cells #[.int .i64 kd, .string nm, .int .u64 num, .slice A m c, .int .i64 ps] 90); have u3 := ((al_two w4 (.cells #[] 90) (.cells #[.int .i64 kd, .string nm, .int .u64 num, .slice A m c, .int .i64 ps] 90)).drew).size; refine @appE0_step (XA X A) (((w4.alloc (.cells #[] 90)).alloc (.cells #[.int .i64 kd, .string nm, .int .u64 num, .slice A m c, .int .i64 ps] 90)).drew) _ _ _ _ _ _ rfl (.tmp 10) (.tmp 13) ?_ w4.heap.size w4.heap.size ?_ EA ec n s.es ?_ ?_ ?_ ?_ ?_ ?_ ?_ ?_; rfl; rfl; exact HN.out.symm; rfl; exact u1; exact u2; exact Nat.le_refl _; exact u3; exact hn3; clear u1 u2 u3; intro A1 k1 w5 ho1 hb1 hA1; have b5 : Below w4.heap.size w4 w5 := bnext ((al_two w4 (.cells #[] 90) (.cells #[.int .i64 kd, .string nm, .int .u64 num, .slice A m c, .int .i64 ps] 90)).drew) hb1; obtain ⟨p0, p1, p2, p3, p4⟩ := HB4.out w5 b5; obtain ⟨e0, e1, e2, e3, e4⟩ := cells5 p1; have hlt5 : w.heap.size + 1 < w5.heap.size := Nat.lt_trans (Nat.lt_succ_self _) p4; have hE5 : w5.heap[w4.heap.size + 1]? = some (.cells #[.int .i64 kd, .string nm, .int .u64 num, .slice A m c, .int .i64 ps] 90 (0, 0)) := bl_on (w := ((w4.alloc (.cells #[] 90)).alloc (.cells #[.int .i64 kd, .string nm, .int .u64 num, .slice A m c, .int .i64 ps] 90)).drew) (show (((w4.alloc (.cells #[] 90)).alloc (.cells #[.int .i64 kd, .string nm, .int .u64 num, .slice A m c, .int .i64 ps] 90)).drew).heap[w4.heap.size + 1]? = some (.cells #[.int .i64 kd, .string nm, .int .u64 num, .slice A m c, .int .i64 ps] 90 (0, 0)) from al_new2 w4 #[.int .i64 kd, .string nm, .int .u64 num, .slice A m c, .int .i64 ps] 90 (.cells #[] 90)) hb1; clear p0 p1 p2 p3) | (have u1 := (HR4.out (((w4.alloc (.cells #[.int .i64 kd, .string nm, .int .u64 num, .slice A m c, .int .i64 ps] 90)).alloc (.cells #[] 90)).drew) ((al_two w4 (.cells #[.int .i64 kd, .string nm, .int .u64 num, .slice A m c, .int .i64 ps] 90) (.cells #[] 90)).drew)).ownE; have u2 : (((w4.alloc (.cells #[.int .i64 kd, .string nm, .int .u64 num, .slice A m c, .int .i64 ps] 90)).alloc (.cells #[] 90)).drew).heap[(w4.heap.size + 1)]? = some (.cells #[] 90 (0, 0)) := al_new2 w4 #[] 90 (.cells #[.int .i64 kd, .string nm, .int .u64 num, .slice A m c, .int .i64 ps] 90); have u3 := ((al_two w4 (.cells #[.int .i64 kd, .string nm, .int .u64 num, .slice A m c, .int .i64 ps] 90) (.cells #[] 90)).drew).size; refine @appE0_step (XA X A) (((w4.alloc (.cells #[.int .i64 kd, .string nm, .int .u64 num, .slice A m c, .int .i64 ps] 90)).alloc (.cells #[] 90)).drew) _ _ _ _ _ _ rfl (.tmp 10) (.tmp 13) ?_ w4.heap.size (w4.heap.size + 1) ?_ EA ec n s.es ?_ ?_ ?_ ?_ ?_ ?_ ?_ ?_; rfl; rfl; exact HN.out.symm; rfl; exact u1; exact u2; exact Nat.le_succ _; exact u3; exact hn3; clear u1 u2 u3; intro A1 k1 w5 ho1 hb1 hA1; have b5 : Below w4.heap.size w4 w5 := bnext ((al_two w4 (.cells #[.int .i64 kd, .string nm, .int .u64 num, .slice A m c, .int .i64 ps] 90) (.cells #[] 90)).drew) hb1; obtain ⟨p0, p1, p2, p3, p4⟩ := HB4.out w5 b5; obtain ⟨e0, e1, e2, e3, e4⟩ := cells5 p1; have hlt5 : w.heap.size + 1 < w5.heap.size := Nat.lt_trans (Nat.lt_succ_self _) p4; have hE5 : w5.heap[w4.heap.size]? = some (.cells #[.int .i64 kd, .string nm, .int .u64 num, .slice A m c, .int .i64 ps] 90 (0, 0)) := bl_on (w := ((w4.alloc (.cells #[.int .i64 kd, .string nm, .int .u64 num, .slice A m c, .int .i64 ps] 90)).alloc (.cells #[] 90)).drew) (show (((w4.alloc (.cells #[.int .i64 kd, .string nm, .int .u64 num, .slice A m c, .int .i64 ps] 90)).alloc (.cells #[] 90)).drew).heap[w4.heap.size]? = some (.cells #[.int .i64 kd, .string nm, .int .u64 num, .slice A m c, .int .i64 ps] 90 (0, 0)) from al_old w4 #[.int .i64 kd, .string nm, .int .u64 num, .slice A m c, .int .i64 ps] 90 (.cells #[] 90)) hb1; clear p0 p1 p2 p3) | (have u1 := ho1.next (one_new w5 (.cells #[.int .i64 kd, .string nm, .int .u64 num, .slice A m c, .int .i64 ps] 90)); have u2 : (w5.alloc (.cells #[.int .i64 kd, .string nm, .int .u64 num, .slice A m c, .int .i64 ps] 90)).heap[w5.heap.size]? = some (.cells #[.int .i64 kd, .string nm, .int .u64 num, .slice A m c, .int .i64 ps] 90 (0, 0)) := heap_alloc_new w5 (.cells #[.int .i64 kd, .string nm, .int .u64 num, .slice A m c, .int .i64 ps] 90); have u3 := HV4.out (w5.alloc (.cells #[.int .i64 kd, .string nm, .int .u64 num, .slice A m c, .int .i64 ps] 90)) (bnext b5 (one_new w5 (.cells #[.int .i64 kd, .string nm, .int .u64 num, .slice A m c, .int .i64 ps] 90))); refine @appE_step X (w5.alloc (.cells #[.int .i64 kd, .string nm, .int .u64 num, .slice A m c, .int .i64 ps] 90)) _ _ _ _ _ _ rfl (.tmp 14) (.tmp 16) ?_ 0 A1 k1 s.es n ?_ ?_ (⟨kd, nm, num, args, ps⟩, .slice A m c) ?_ w5.heap.size ?_ ?_ ?_ ?_ ?_ ?_; rfl; exact HN.out.symm; rfl; exact u1; rfl; exact u2; exact u3; exact hn2; exact Nat.zero_le _; clear u1 u2 u3; intro A2 k2 w6 ho2 hg2 hk2; have b6 : Below w4.heap.size w4 w6 := (bnext b5 (one_new w5 (.cells #[.int .i64 kd, .string nm, .int .u64 num, .slice A m c, .int .i64 ps] 90))).grown hg2 ((bnext b5 (one_new w5 (.cells #[.int .i64 kd, .string nm, .int .u64 num, .slice A m c, .int .i64 ps] 90))).size) (fun k hk => hA1 k hk); obtain ⟨p0, p1, p2, p3, p4⟩ := HB4.out w6 b6; obtain ⟨r0, r1, r2, r3, r4, r5, r6⟩ := cells7 p0; obtain ⟨y0, y1, y2, y3, y4, y5, y6⟩ := frees7 p0; obtain ⟨z0, z1, z2, z3, z4, z5, z6⟩ := cells7 p2; obtain ⟨x0, x1, x2, x3, x4, x5, x6⟩ := frees7 p2; have hl6 : w.heap.size + 1 + 1 < w6.heap.size := p4; have hl7 : w.heap.size < w6.heap.size := Nat.lt_trans (Nat.lt_trans (Nat.lt_succ_self _) (Nat.lt_succ_self _)) p4; have HB6 := Lib.hid b6; have HO6 := Lib.hid ho2; clear p0 p1 p2 p3 ho2 hg2 hk2 b6) | (have u1 := ho1; have u2 : (w5).heap[(w4.heap.size + 1)]? = some (.cells #[.int .i64 kd, .string nm, .int .u64 num, .slice A m c, .int .i64 ps] 90 (0, 0)) := hE5; have u3 := HV4.out w5 b5; refine @appE_step X (w5) _ _ _ _ _ _ rfl (.tmp 14) (.tmp 16) ?_ 0 A1 k1 s.es n ?_ ?_ (⟨kd, nm, num, args, ps⟩, .slice A m c) ?_ (w4.heap.size + 1) ?_ ?_ ?_ ?_ ?_ ?_; rfl; exact HN.out.symm; rfl; exact u1; rfl; exact u2; exact u3; exact hn2; exact Nat.zero_le _; clear u1 u2 u3; intro A2 k2 w6 ho2 hg2 hk2; have b6 : Below w4.heap.size w4 w6 := (b5).grown hg2 (b5.size) (fun k hk => hA1 k hk); obtain ⟨p0, p1, p2, p3, p4⟩ := HB4.out w6 b6; obtain ⟨r0, r1, r2, r3, r4, r5, r6⟩ := cells7 p0; obtain ⟨y0, y1, y2, y3, y4, y5, y6⟩ := frees7 p0; obtain ⟨z0, z1, z2, z3, z4, z5, z6⟩ := cells7 p2; obtain ⟨x0, x1, x2, x3, x4, x5, x6⟩ := frees7 p2; have hl6 : w.heap.size + 1 + 1 < w6.heap.size := p4; have hl7 : w.heap.size < w6.heap.size := Nat.lt_trans (Nat.lt_trans (Nat.lt_succ_self _) (Nat.lt_succ_self _)) p4; have HB6 := Lib.hid b6; have HO6 := Lib.hid ho2; clear p0 p1 p2 p3 ho2 hg2 hk2 b6) | (have u1 := ho1; have u2 : (w5).heap[w4.heap.size]? = some (.cells #[.int .i64 kd, .string nm, .int .u64 num, .slice A m c, .int .i64 ps] 90 (0, 0)) := hE5; have u3 := HV4.out w5 b5; refine @appE_step X (w5) _ _ _ _ _ _ rfl (.tmp 14) (.tmp 16) ?_ 0 A1 k1 s.es n ?_ ?_ (⟨kd, nm, num, args, ps⟩, .slice A m c) ?_ w4.heap.size ?_ ?_ ?_ ?_ ?_ ?_; rfl; exact HN.out.symm; rfl; exact u1; rfl; exact u2; exact u3; exact hn2; exact Nat.zero_le _; clear u1 u2 u3; intro A2 k2 w6 ho2 hg2 hk2; have b6 : Below w4.heap.size w4 w6 := (b5).grown hg2 (b5.size) (fun k hk => hA1 k hk); obtain ⟨p0, p1, p2, p3, p4⟩ := HB4.out w6 b6; obtain ⟨r0, r1, r2, r3, r4, r5, r6⟩ := cells7 p0; obtain ⟨y0, y1, y2, y3, y4, y5, y6⟩ := frees7 p0; obtain ⟨z0, z1, z2, z3, z4, z5, z6⟩ := cells7 p2; obtain ⟨x0, x1, x2, x3, x4, x5, x6⟩ := frees7 p2; have hl6 : w.heap.size + 1 + 1 < w6.heap.size := p4; have hl7 : w.heap.size < w6.heap.size := Nat.lt_trans (Nat.lt_trans (Nat.lt_succ_self _) (Nat.lt_succ_self _)) p4; have HB6 := Lib.hid b6; have HO6 := Lib.hid ho2; clear p0 p1 p2 p3 ho2 hg2 hk2 b6))
  all_goals
   go_wp2_with fail
   go_region
   all_goals
    go_wp2
    obtain ⟨wS, hwS⟩ : ∃ wS, wS = ((((((((w6.setCell ⟨w.heap.size, 3, none⟩ (.slice A2 (n + 1) k2)).setCell ⟨w.heap.size + 1 + 1, 0, none⟩ (.slice TA L.length tc)).setCell ⟨w.heap.size + 1 + 1, 1, none⟩ (.int .i64 ((s.i : Nat) : Int))).setCell ⟨w.heap.size + 1 + 1, 2, none⟩ (.slice SA s.ss.length sc)).setCell ⟨w.heap.size + 1 + 1, 3, none⟩ (.slice A2 (n + 1) k2)).setCell ⟨w.heap.size + 1 + 1, 4, none⟩ (.int .i64 ((s.deep : Nat) : Int))).setCell ⟨w.heap.size + 1 + 1, 5, none⟩ (.int .i64 ((eC s : Nat) : Int))).setCell ⟨w.heap.size + 1 + 1, 6, none⟩ (.int .i64 ((eP s : Nat) : Int))) := ⟨_, rfl⟩
    rw [← hwS]
    obtain ⟨p0, p1, p2, p3, p4⟩ := HB4.out w6 HB6.out
    obtain ⟨f1, f2, f3⟩ := rput_end H0.out HY.out p0 p2 p3 (Nat.le_refl _) (by omega) (by omega) HO6.out HE.out hwS
    obtain ⟨d0, d1, d2, d3, d4, d5, d6⟩ := cells7 f1
    clear hwS p0 p1 p2 p3 p4 f1
    have hn := HN.out
    exact bodyPost_ret (v := .tuple #[.agg #[.slice TA L.length tc, .int .i64 s.i, .slice SA s.ss.length sc, .slice A2 (n + 1) k2, .int .i64 s.deep, .int .i64 (eC s), .int .i64 (eP s)], .int .i64 n]) (by simp [results, Tryz.results178, go_sem, d0, d1, d2, d3, d4, d5, d6]) rfl ⟨A2, k2, by rw [HP.out]; unfold RVal RCell; simp [hn, eC, eP], by rw [HP.out]; exact f2, f3⟩
 ·have q : (((eC s : Nat) : Int) != 0) = true := by rw [bne_iff_ne]; have := h.eC_some herr; omega
  have HP := Lib.hid (show putP s ⟨kd, nm, num, args, ps⟩ = (s, 0) from by unfold putP; cases h0 : s.err with | none => exact absurd h0 herr | some x => rfl)
  have H0 := Lib.hid (fun w' hb => (h.next (w' := w') hb).re (Y := X) (fun k hk => .inl hk))
  clear h herr hv he
  go_enter Tryz.func178, Tryz.ntmps178
  go_wp2
  have HB : Below w.heap.size w (((w.alloc (.cells #[.slice TA L.length tc, .int .i64 s.i, .slice SA s.ss.length sc, .slice EA s.es.length ec, .int .i64 s.deep, .int .i64 (eC s), .int .i64 (eP s)] 165)).alloc (.cells #[.int .i64 kd, .string nm, .int .u64 num, .slice A m c, .int .i64 ps] 90)).alloc (.cells #[.slice TA L.length tc, .int .i64 s.i, .slice SA s.ss.length sc, .slice EA s.es.length ec, .int .i64 s.deep, .int .i64 (eC s), .int .i64 (eP s)] 165)) := (((Below.refl _ _).alloc (Nat.le_refl _) _).alloc (by simp) _).alloc (by simp; omega) _
  exact bodyPost_ret (v := .tuple #[.agg #[.slice TA L.length tc, .int .i64 s.i, .slice SA s.ss.length sc, .slice EA s.es.length ec, .int .i64 s.deep, .int .i64 (eC s), .int .i64 (eP s)], .int .i64 0]) (by simp [results, Tryz.results178, go_sem]) rfl ⟨EA, ec, by rw [HP.out]; rfl, by rw [HP.out]; exact H0.out _ HB, HB⟩
end
end Go.Proofs.YtghlnncfigkkaaaGreatDoor
