/-
  The reference's state, its cells as letters; a call's own blocks; its small functions once more, over letters. The reference's level, calls. The reference's levels: an EXPR, a SUM, a PROD.
-/
import Derived.Test.YtghlnncfigkkaaaGreatDoorQRefC
namespace Go.Proofs.YtghlnncfigkkaaaGreatDoor
set_option linter.unusedVariables false
set_option linter.unusedSimpArgs false
open Go.RowKit
attribute [local go_sem ↓] tok_field3 tok_field0
structure ST (X : Nat → Prop) (TA : Option Addr) (L : List Tok) (s : PS) (w : World) (n : Nat) (SA : Option Addr) (ns sc i : Nat) (EA : Option Addr) (ne ec d c p : Nat) : Prop where
 rr : RR X TA L s w SA sc EA ec
 en : n = L.length
 ens : ns = s.ss.length
 ei : i = s.i
 ene : ne = s.es.length
 ed : d = s.deep
 ecc : c = eC s
 ep : p = eP s
def RO (X : Nat → Prop) (TA : Option Addr) (tc : Nat) (L : List Tok) (n : Nat) (SA : Option Addr) (ns sc : Nat) (s : PS) (w : World) (v : Value) : Prop :=
 ∃ (i : Nat) (EA : Option Addr) (ne ec d c p : Nat), v = .agg #[.slice TA n tc, .int .i64 ((i : Nat) : Int), .slice SA ns sc, .slice EA ne ec, .int .i64 ((d : Nat) : Int), .int .i64 ((c : Nat) : Int), .int .i64 ((p : Nat) : Int)] ∧ ST X TA L s w n SA ns sc i EA ne ec d c p
section
variable {X Y : Nat → Prop} {TA SA : Option Addr} {tc n ns sc : Nat} {L : List Tok} {s s' : PS} {w0 w w1 wS : World} {i ne ec d c p : Nat} {EA : Option Addr} {b : Array Value} {Q : List (Nat × Obj)}
theorem RR.st (h : RR X TA L s w SA sc EA ec) (hn : n = L.length) (hs : ns = s.ss.length) : RO X TA tc L n SA ns sc s w (RVal TA L.length tc s SA sc EA ec) := by
 subst hn hs
 exact ⟨_, _, _, _, _, _, _, rfl, ⟨h, rfl, rfl, rfl, rfl, rfl, rfl, rfl⟩⟩
theorem ST.call (h : ST X TA L s w n SA ns sc i EA ne ec d c p) (hb : Below w.heap.size w w1) : ST X TA L s w1 n SA ns sc i EA ne ec d c p :=
 ⟨h.rr.next hb, h.en, h.ens, h.ei, h.ene, h.ed, h.ecc, h.ep⟩
theorem ST.alloc (h : ST X TA L s w n SA ns sc i EA ne ec d c p) (o : Obj) : ST X TA L s (w.alloc o) n SA ns sc i EA ne ec d c p := h.call (one_new w o)
theorem snow (h : ST X TA L s w n SA ns sc i EA ne ec d c p) (tc : Nat) {kd nm ps : Nat} {tx : ByteArray} (ht : nowP L s = ⟨kd, tx, nm, ps⟩) :
  Calls Tryz.prog 87 #[.agg #[.slice TA n tc, .int .i64 ((i : Nat) : Int), .slice SA ns sc, .slice EA ne ec, .int .i64 ((d : Nat) : Int), .int .i64 ((c : Nat) : Int), .int .i64 ((p : Nat) : Int)]] w fun e w' => e = .returned (.agg #[.int .i64 kd, .string tx, .int .u64 nm, .int .i64 ps]) ∧ Below w.heap.size w w' := by
 obtain ⟨hr, rfl, rfl, rfl, rfl, rfl, rfl, rfl⟩ := h
 exact rnow_at w hr tc ht
theorem sis (h : ST X TA L s w n SA ns sc i EA ne ec d c p) (tc : Nat) (t : ByteArray) {q : Bool} (hq : isP L s t = q) :
  Calls Tryz.prog 140 #[.agg #[.slice TA n tc, .int .i64 ((i : Nat) : Int), .slice SA ns sc, .slice EA ne ec, .int .i64 ((d : Nat) : Int), .int .i64 ((c : Nat) : Int), .int .i64 ((p : Nat) : Int)], .string t] w fun e w' => e = .returned (.bool q) ∧ Below w.heap.size w w' := by
 obtain ⟨hr, rfl, rfl, rfl, rfl, rfl, rfl, rfl⟩ := h
 subst hq
 exact ris_any w hr tc t
theorem fail_ss (s : PS) (k : Nat) : (failP L s k).ss = s.ss := by unfold failP; split <;> rfl
theorem want_ss (s : PS) (t : ByteArray) : (wantP L s t).ss = s.ss := by
 unfold wantP
 split
 ·rfl
 ·exact fail_ss s _
theorem name_ss (s : PS) : (nameP L s).1.ss = s.ss := by
 unfold nameP
 split
 ·exact fail_ss s _
 ·rfl
theorem number_ss (s : PS) : (numberP L s).1.ss = s.ss := by
 unfold numberP
 split
 ·exact fail_ss s _
 ·rfl
theorem put_ss (s : PS) (e : Ex) : (putP s e).1.ss = s.ss := by
 unfold putP
 split <;> rfl
theorem sfail (h : ST X TA L s w n SA ns sc i EA ne ec d c p) (tc : Nat) (k : Nat) (hk : k ≠ 0) :
  Calls Tryz.prog 139 #[.agg #[.slice TA n tc, .int .i64 ((i : Nat) : Int), .slice SA ns sc, .slice EA ne ec, .int .i64 ((d : Nat) : Int), .int .i64 ((c : Nat) : Int), .int .i64 ((p : Nat) : Int)], .int .i64 k] w fun e w' => ∃ v, e = .returned v ∧ RO X TA tc L n SA ns sc (failP L s k) w' v ∧ Below w.heap.size w w' := by
 obtain ⟨hr, rfl, rfl, rfl, rfl, rfl, rfl, rfl⟩ := h
 exact (rfail_any w hr tc k hk).mono fun e w' ⟨he, hb⟩ => ⟨_, he, ((hr.fail hk).next hb).st rfl (by rw [fail_ss]), hb⟩
theorem swant (h : ST X TA L s w n SA ns sc i EA ne ec d c p) (tc : Nat) (t : ByteArray) :
  Calls Tryz.prog 143 #[.agg #[.slice TA n tc, .int .i64 ((i : Nat) : Int), .slice SA ns sc, .slice EA ne ec, .int .i64 ((d : Nat) : Int), .int .i64 ((c : Nat) : Int), .int .i64 ((p : Nat) : Int)], .string t] w fun e w' => ∃ v, e = .returned v ∧ RO X TA tc L n SA ns sc (wantP L s t) w' v ∧ Below w.heap.size w w' := by
 obtain ⟨hr, rfl, rfl, rfl, rfl, rfl, rfl, rfl⟩ := h
 exact (rwant_any w hr tc t).mono fun e w' ⟨he, hb⟩ => ⟨_, he, ((hr.want t).next hb).st rfl (by rw [want_ss]), hb⟩
theorem RR.name (h : RR X TA L s w SA sc EA ec) : RR X TA L (nameP L s).1 w SA sc EA ec := by
 unfold nameP
 split
 ·exact h.fail (by decide)
 ·rename_i hh
  exact h.adv (Go.Proofs.YtghlnncfigkkaaaGreatDoor.now_lt (by simp only [Bool.or_eq_true, not_or, bne_iff_ne, ne_eq, Decidable.not_not] at hh; omega))
theorem RR.number (h : RR X TA L s w SA sc EA ec) : RR X TA L (numberP L s).1 w SA sc EA ec := by
 unfold numberP
 split
 ·exact h.fail (by decide)
 ·rename_i hh
  exact h.adv (Go.Proofs.YtghlnncfigkkaaaGreatDoor.now_lt (by simp only [Bool.or_eq_true, not_or, bne_iff_ne, ne_eq, Decidable.not_not] at hh; omega))
theorem sname (h : ST X TA L s w n SA ns sc i EA ne ec d c p) (tc : Nat) :
  Calls Tryz.prog 142 #[.agg #[.slice TA n tc, .int .i64 ((i : Nat) : Int), .slice SA ns sc, .slice EA ne ec, .int .i64 ((d : Nat) : Int), .int .i64 ((c : Nat) : Int), .int .i64 ((p : Nat) : Int)]] w fun e w' => ∃ v, e = .returned (.tuple #[v, .string (nameP L s).2]) ∧ RO X TA tc L n SA ns sc (nameP L s).1 w' v ∧ Below w.heap.size w w' := by
 obtain ⟨hr, rfl, rfl, rfl, rfl, rfl, rfl, rfl⟩ := h
 exact (rname_any w hr tc).mono fun e w' ⟨he, hb⟩ => ⟨_, he, (hr.name.next hb).st rfl (by rw [name_ss]), hb⟩
theorem snumber (h : ST X TA L s w n SA ns sc i EA ne ec d c p) (tc : Nat) :
  Calls Tryz.prog 141 #[.agg #[.slice TA n tc, .int .i64 ((i : Nat) : Int), .slice SA ns sc, .slice EA ne ec, .int .i64 ((d : Nat) : Int), .int .i64 ((c : Nat) : Int), .int .i64 ((p : Nat) : Int)]] w fun e w' => ∃ v, e = .returned (.tuple #[v, .int .i64 ((numberP L s).2 : Nat)]) ∧ RO X TA tc L n SA ns sc (numberP L s).1 w' v ∧ Below w.heap.size w w' := by
 obtain ⟨hr, rfl, rfl, rfl, rfl, rfl, rfl, rfl⟩ := h
 exact (rnumber_any w hr tc).mono fun e w' ⟨he, hb⟩ => ⟨_, he, (hr.number.next hb).st rfl (by rw [number_ss]), hb⟩
theorem sput (e : Ex) (A : Option Addr) (m k : Nat) (h : ST (XA X A) TA L s w n SA ns sc i EA ne ec d c p) (tc : Nat) (hv : ArgsV X 0 w (.slice A m k) e.args) (he : s.es.length + 1 ≤ s.i) :
  Calls Tryz.prog 178 #[.agg #[.slice TA n tc, .int .i64 ((i : Nat) : Int), .slice SA ns sc, .slice EA ne ec, .int .i64 ((d : Nat) : Int), .int .i64 ((c : Nat) : Int), .int .i64 ((p : Nat) : Int)], .agg #[.int .i64 e.kind, .string e.name, .int .u64 e.num, .slice A m k, .int .i64 e.pos]] w fun r w' => ∃ v, r = .returned (.tuple #[v, .int .i64 ((putP s e).2 : Nat)]) ∧ RO X TA tc L n SA ns sc (putP s e).1 w' v ∧ Below w.heap.size w w' := by
 obtain ⟨hr, rfl, rfl, rfl, rfl, rfl, rfl, rfl⟩ := h
 exact (rput_any w e A m k hr tc hv he).mono fun r w' ⟨EA', ec', hr', h2, hb⟩ => ⟨_, hr', h2.st rfl (by rw [put_ss]), hb⟩
structure FR (X : Nat → Prop) (TA : Option Addr) (L : List Tok) (n : Nat) (SA : Option Addr) (ns sc tc : Nat) (w0 w : World) (s : PS) (i : Nat) (EA : Option Addr) (ne ec d c p : Nat) (b : Array Value) (Q : List (Nat × Obj)) : Prop where
 bx : Bx w0 w #[.slice TA n tc, .int .i64 ((i : Nat) : Int), .slice SA ns sc, .slice EA ne ec, .int .i64 ((d : Nat) : Int), .int .i64 ((c : Nat) : Int), .int .i64 ((p : Nat) : Int)] b
 st : ST X TA L s w n SA ns sc i EA ne ec d c p
 t0 : RdT w0 w0.heap.size TA L
 ex : ∀ q ∈ Q, w0.heap.size + 1 < q.1 ∧ w.heap[q.1]? = some q.2
theorem FR.made (h : ST X TA L s w n SA ns sc i EA ne ec d c p) (b : Array Value) : FR X TA L n SA ns sc tc w ((w.alloc (.cells #[.slice TA n tc, .int .i64 ((i : Nat) : Int), .slice SA ns sc, .slice EA ne ec, .int .i64 ((d : Nat) : Int), .int .i64 ((c : Nat) : Int), .int .i64 ((p : Nat) : Int)] 165)).alloc (.cells b 165)) s i EA ne ec d c p b [] :=
 ⟨Bx.made w _ b, h.call (al_two w _ _), h.rr.toks, fun q hq => by cases hq⟩
theorem FR.call (h : FR X TA L n SA ns sc tc w0 w s i EA ne ec d c p b Q) (hb : Below w.heap.size w w1) : FR X TA L n SA ns sc tc w0 w1 s i EA ne ec d c p b Q :=
 ⟨h.bx.call hb, h.st.call hb, h.t0, fun q hq => ⟨(h.ex q hq).1, (hb.block q.1 (Array.getElem?_eq_some_iff.1 (h.ex q hq).2).1).trans (h.ex q hq).2⟩⟩
theorem FR.alloc (h : FR X TA L n SA ns sc tc w0 w s i EA ne ec d c p b Q) (o : Obj) : FR X TA L n SA ns sc tc w0 (w.alloc o) s i EA ne ec d c p b ((w.heap.size, o) :: Q) := by
 have h1 := h.call (one_new w o)
 exact ⟨h1.bx, h1.st, h1.t0, fun q hq => by
  rcases List.mem_cons.1 hq with rfl | hq
  ·exact ⟨h.bx.lt, heap_alloc_new w o⟩
  ·exact h1.ex q hq⟩
theorem RR.stores (h : RR X TA L s w SA sc EA ec) (ht : RdT w0 w0.heap.size TA L) (hb : Below w0.heap.size w0 wS) (hs : w.heap.size ≤ wS.heap.size)
  (hk : ∀ (k : Nat) (cs : Array Value) (T : TypeId), w.heap[k]? = some (.cells cs T (0, 0)) → T ≠ 165 → wS.heap[k]? = some (.cells cs T (0, 0))) : RR X TA L s wS SA sc EA ec :=
 ⟨h.ownS.keep' (fun g cur _ hg => hk _ _ _ hg (by decide)) (fun g cur _ hg => hk _ _ _ hg (by decide)), h.ownE.keep' (fun g cur _ hg => hk _ _ _ hg (by decide)) (fun g cur _ hg => hk _ _ _ hg (by decide)), (ht.below hb).more hb.size, h.err, h.len, h.ii, h.dd, h.el, h.sl, fun k hk => Nat.lt_of_lt_of_le (h.xx k hk) hs⟩
theorem only_ne {g0 : Nat} {cs : Array Value} (h0 : w.heap[g0]? = some (.cells cs 165 (0, 0))) (hne : ∀ k, k ≠ g0 → wS.heap[k]? = w.heap[k]?) :
  ∀ (k : Nat) (cs : Array Value) (T : TypeId), w.heap[k]? = some (.cells cs T (0, 0)) → T ≠ 165 → wS.heap[k]? = some (.cells cs T (0, 0)) := by
 intro k cs' T' hk hT
 rw [hne k (by rintro rfl; rw [h0] at hk; injection hk with hk; injection hk with _ hk; exact hT hk.symm)]
 exact hk
theorem FR.take {i1 ne1 ec1 d1 c1 p1 : Nat} {EA1 : Option Addr} (h : FR X TA L n SA ns sc tc w0 w s i EA ne ec d c p b Q) (hb : Below w.heap.size w w1) (h1 : ST Y TA L s' w1 n SA ns sc i1 EA1 ne1 ec1 d1 c1 p1) (hS : wS = (((((((w1).setCell ⟨w0.heap.size, 0, none⟩ (.slice TA n tc)).setCell ⟨w0.heap.size, 1, none⟩ (.int .i64 ((i1 : Nat) : Int))).setCell ⟨w0.heap.size, 2, none⟩ (.slice SA ns sc)).setCell ⟨w0.heap.size, 3, none⟩ (.slice EA1 ne1 ec1)).setCell ⟨w0.heap.size, 4, none⟩ (.int .i64 ((d1 : Nat) : Int))).setCell ⟨w0.heap.size, 5, none⟩ (.int .i64 ((c1 : Nat) : Int))).setCell ⟨w0.heap.size, 6, none⟩ (.int .i64 ((p1 : Nat) : Int))) : FR Y TA L n SA ns sc tc w0 wS s' i1 EA1 ne1 ec1 d1 c1 p1 b Q := by
 have B := h.bx.call hb
 obtain ⟨s1, s2, s3, s4⟩ := st7 B.k0 hS
 have hB := Bx.all0 B hS
 exact ⟨hB, ⟨h1.rr.stores h.t0 hB.hb (by rw [s3]; exact Nat.le_refl _) (only_ne B.k0 s2), h1.en, h1.ens, h1.ei, h1.ene, h1.ed, h1.ecc, h1.ep⟩, h.t0, fun q hq => by
  have e := (h.call hb).ex q hq
  exact ⟨e.1, (s2 q.1 (by omega)).trans e.2⟩⟩
theorem FR.adv (h : FR X TA L n SA ns sc tc w0 w s i EA ne ec d c p b Q) (hl : s.i < L.length) {i1 : Nat} (hi : i1 = i + 1) : FR X TA L n SA ns sc tc w0 (w.setCell ⟨w0.heap.size, 1, none⟩ (.int .i64 ((i : Int) + 1))) (advP s) i1 EA ne ec d c p b Q := by
 have B : Bx w0 _ _ _ := h.bx.set0 1 (.int .i64 ((i : Int) + 1))
 subst hi
 exact ⟨B, ⟨(h.st.rr.adv hl).stores h.t0 B.hb (by simp [World.setCell]) (only_ne h.bx.k0 fun k hk => setCell_ne _ _ _ hk), h.st.en, h.st.ens, by rw [h.st.ei]; rfl, h.st.ene, h.st.ed, h.st.ecc, h.st.ep⟩, h.t0, fun q hq => by
  have e := h.ex q hq
  exact ⟨e.1, (setCell_ne _ _ _ (by show q.1 ≠ w0.heap.size; omega)).trans e.2⟩⟩
theorem FR.deepen (h : FR X TA L n SA ns sc tc w0 w s i EA ne ec d c p b Q) (hl : s.deep < 32) {d1 : Nat} (hi : d1 = d + 1) : FR X TA L n SA ns sc tc w0 (w.setCell ⟨w0.heap.size, 4, none⟩ (.int .i64 ((d : Int) + 1))) { s with deep := s.deep + 1 } i EA ne ec d1 c p b Q := by
 have B : Bx w0 _ _ _ := h.bx.set0 4 (.int .i64 ((d : Int) + 1))
 subst hi
 exact ⟨B, ⟨(h.st.rr.deep (s.deep + 1) (by omega)).stores h.t0 B.hb (by simp [World.setCell]) (only_ne h.bx.k0 fun k hk => setCell_ne _ _ _ hk), h.st.en, h.st.ens, h.st.ei, h.st.ene, by rw [h.st.ed], h.st.ecc, h.st.ep⟩, h.t0, fun q hq => by
  have e := h.ex q hq
  exact ⟨e.1, (setCell_ne _ _ _ (by show q.1 ≠ w0.heap.size; omega)).trans e.2⟩⟩
theorem FR.rise (h : FR X TA L n SA ns sc tc w0 w s i EA ne ec d c p b Q) (v : Value) {d1 : Nat} (hv : v = .int .i64 ((d1 : Nat) : Int)) (hi : d1 = d - 1) : FR X TA L n SA ns sc tc w0 (w.setCell ⟨w0.heap.size, 4, none⟩ v) (riseP s) i EA ne ec d1 c p b Q := by
 subst hv
 have B : Bx w0 _ _ _ := h.bx.set0 4 (.int .i64 ((d1 : Nat) : Int))
 subst hi
 have hd := h.st.rr.dd
 exact ⟨B, ⟨(h.st.rr.deep (s.deep - 1) (by omega)).stores h.t0 B.hb (by simp [World.setCell]) (only_ne h.bx.k0 fun k hk => setCell_ne _ _ _ hk), h.st.en, h.st.ens, h.st.ei, h.st.ene, by rw [h.st.ed]; rfl, h.st.ecc, h.st.ep⟩, h.t0, fun q hq => by
  have e := h.ex q hq
  exact ⟨e.1, (setCell_ne _ _ _ (by show q.1 ≠ w0.heap.size; omega)).trans e.2⟩⟩
theorem FR.fin {b0 b1 b2 b3 b4 b5 b6 : Value} {i1 ne1 ec1 d1 c1 p1 : Nat} {EA1 : Option Addr} (h : FR X TA L n SA ns sc tc w0 w s i EA ne ec d c p #[b0, b1, b2, b3, b4, b5, b6] Q) (hb : Below w.heap.size w w1) (h1 : ST Y TA L s' w1 n SA ns sc i1 EA1 ne1 ec1 d1 c1 p1) (hS : wS = (((((((w1).setCell ⟨w0.heap.size + 1, 0, none⟩ (.slice TA n tc)).setCell ⟨w0.heap.size + 1, 1, none⟩ (.int .i64 ((i1 : Nat) : Int))).setCell ⟨w0.heap.size + 1, 2, none⟩ (.slice SA ns sc)).setCell ⟨w0.heap.size + 1, 3, none⟩ (.slice EA1 ne1 ec1)).setCell ⟨w0.heap.size + 1, 4, none⟩ (.int .i64 ((d1 : Nat) : Int))).setCell ⟨w0.heap.size + 1, 5, none⟩ (.int .i64 ((c1 : Nat) : Int))).setCell ⟨w0.heap.size + 1, 6, none⟩ (.int .i64 ((p1 : Nat) : Int))) :
  wS.heap[w0.heap.size + 1]? = some (.cells #[.slice TA n tc, .int .i64 ((i1 : Nat) : Int), .slice SA ns sc, .slice EA1 ne1 ec1, .int .i64 ((d1 : Nat) : Int), .int .i64 ((c1 : Nat) : Int), .int .i64 ((p1 : Nat) : Int)] 165 (0, 0)) ∧ ST Y TA L s' wS n SA ns sc i1 EA1 ne1 ec1 d1 c1 p1 ∧ Below w0.heap.size w0 wS := by
 have B := h.bx.call hb
 obtain ⟨s1, s2, s3, s4⟩ := st7 B.k1 hS
 have hB := Bx.all1 B hS
 exact ⟨s1, ⟨h1.rr.stores h.t0 hB.hb (by rw [s3]; exact Nat.le_refl _) (only_ne B.k1 s2), h1.en, h1.ens, h1.ei, h1.ene, h1.ed, h1.ecc, h1.ep⟩, hB.hb⟩
theorem ST.ro (h : ST X TA L s w n SA ns sc i EA ne ec d c p) : RO X TA tc L n SA ns sc s w (.agg #[.slice TA n tc, .int .i64 ((i : Nat) : Int), .slice SA ns sc, .slice EA ne ec, .int .i64 ((d : Nat) : Int), .int .i64 ((c : Nat) : Int), .int .i64 ((p : Nat) : Int)]) := ⟨_, _, _, _, _, _, _, rfl, h⟩
theorem FR.cells {b0 b1 b2 b3 b4 b5 b6 : Value} (h : FR X TA L n SA ns sc tc w0 w s i EA ne ec d c p #[b0, b1, b2, b3, b4, b5, b6] Q) :
  (w.cell? ⟨w0.heap.size, 0, none⟩ = some (.slice TA n tc) ∧ w.cell? ⟨w0.heap.size, 1, none⟩ = some (.int .i64 ((i : Nat) : Int)) ∧ w.cell? ⟨w0.heap.size, 2, none⟩ = some (.slice SA ns sc) ∧ w.cell? ⟨w0.heap.size, 3, none⟩ = some (.slice EA ne ec) ∧ w.cell? ⟨w0.heap.size, 4, none⟩ = some (.int .i64 ((d : Nat) : Int)) ∧ w.cell? ⟨w0.heap.size, 5, none⟩ = some (.int .i64 ((c : Nat) : Int)) ∧ w.cell? ⟨w0.heap.size, 6, none⟩ = some (.int .i64 ((p : Nat) : Int))) ∧ (w.cell? ⟨w0.heap.size + 1, 0, none⟩ = some b0 ∧ w.cell? ⟨w0.heap.size + 1, 1, none⟩ = some b1 ∧ w.cell? ⟨w0.heap.size + 1, 2, none⟩ = some b2 ∧ w.cell? ⟨w0.heap.size + 1, 3, none⟩ = some b3 ∧ w.cell? ⟨w0.heap.size + 1, 4, none⟩ = some b4 ∧ w.cell? ⟨w0.heap.size + 1, 5, none⟩ = some b5 ∧ w.cell? ⟨w0.heap.size + 1, 6, none⟩ = some b6) ∧ (w.frozen? ⟨w0.heap.size, 0, none⟩ = false ∧ w.frozen? ⟨w0.heap.size, 1, none⟩ = false ∧ w.frozen? ⟨w0.heap.size, 2, none⟩ = false ∧ w.frozen? ⟨w0.heap.size, 3, none⟩ = false ∧ w.frozen? ⟨w0.heap.size, 4, none⟩ = false ∧ w.frozen? ⟨w0.heap.size, 5, none⟩ = false ∧ w.frozen? ⟨w0.heap.size, 6, none⟩ = false) ∧ (w.frozen? ⟨w0.heap.size + 1, 0, none⟩ = false ∧ w.frozen? ⟨w0.heap.size + 1, 1, none⟩ = false ∧ w.frozen? ⟨w0.heap.size + 1, 2, none⟩ = false ∧ w.frozen? ⟨w0.heap.size + 1, 3, none⟩ = false ∧ w.frozen? ⟨w0.heap.size + 1, 4, none⟩ = false ∧ w.frozen? ⟨w0.heap.size + 1, 5, none⟩ = false ∧ w.frozen? ⟨w0.heap.size + 1, 6, none⟩ = false) ∧ w0.heap.size < w.heap.size ∧ w0.heap.size + 1 < w.heap.size :=
 ⟨cells7 h.bx.k0, cells7 h.bx.k1, frees7 h.bx.k0, frees7 h.bx.k1, h.bx.lt0, h.bx.lt⟩
end
end Go.Proofs.YtghlnncfigkkaaaGreatDoor
namespace Go.Proofs.YtghlnncfigkkaaaGreatDoor
set_option linter.unusedVariables false
set_option linter.unusedSimpArgs false
open Go.RowKit
attribute [local go_sem ↓] tok_field3 tok_field0
theorem tok_field1 (a c d : Int) (b : ByteArray) (w : World) : (Instr.field 155 (.agg #[.int .i64 a, .string b, .int .u64 c, .int .i64 d]) 1).run Tryz.prog w = .ok (.string b) w := by kernel_rfl
attribute [local go_sem ↓] tok_field1
section
variable {X Y : Nat → Prop} {TA SA : Option Addr} {tc n ns sc : Nat} {L : List Tok} {s s' : PS} {w0 w w1 wS : World} {i ne ec d c p : Nat} {EA : Option Addr}
theorem box7 (hb : Below (w.alloc (.cells #[.slice TA n tc, .int .i64 ((i : Nat) : Int), .slice SA ns sc, .slice EA ne ec, .int .i64 ((d : Nat) : Int), .int .i64 ((c : Nat) : Int), .int .i64 ((p : Nat) : Int)] 165)).heap.size (w.alloc (.cells #[.slice TA n tc, .int .i64 ((i : Nat) : Int), .slice SA ns sc, .slice EA ne ec, .int .i64 ((d : Nat) : Int), .int .i64 ((c : Nat) : Int), .int .i64 ((p : Nat) : Int)] 165)) w1) : (w1.cell? ⟨w.heap.size, 0, none⟩ = some (.slice TA n tc) ∧ w1.cell? ⟨w.heap.size, 1, none⟩ = some (.int .i64 ((i : Nat) : Int)) ∧ w1.cell? ⟨w.heap.size, 2, none⟩ = some (.slice SA ns sc) ∧ w1.cell? ⟨w.heap.size, 3, none⟩ = some (.slice EA ne ec) ∧ w1.cell? ⟨w.heap.size, 4, none⟩ = some (.int .i64 ((d : Nat) : Int)) ∧ w1.cell? ⟨w.heap.size, 5, none⟩ = some (.int .i64 ((c : Nat) : Int)) ∧ w1.cell? ⟨w.heap.size, 6, none⟩ = some (.int .i64 ((p : Nat) : Int))) ∧ Below w.heap.size w w1 ∧ w.heap.size < w1.heap.size := by
 obtain ⟨k0, k1, k2⟩ := box_kept hb
 exact ⟨cells7 k0, k1, k2⟩
set_option maxRecDepth 100000 in
set_option maxHeartbeats 2000000 in
theorem lev1y (h : ST X TA L s w n SA ns sc i EA ne ec d c p) (tc : Nat) (q0 : isP L s tLess = true) :
  Calls Tryz.prog 177 #[.agg #[.slice TA n tc, .int .i64 ((i : Nat) : Int), .slice SA ns sc, .slice EA ne ec, .int .i64 ((d : Nat) : Int), .int .i64 ((c : Nat) : Int), .int .i64 ((p : Nat) : Int)], .int .i64 1] w fun e w' => e = .returned (.int .i64 8) ∧ Below w.heap.size w w' := by
 have H := Lib.hid (fun w' hb => h.call (w1 := w') hb)
 have Q0 := Lib.hid q0
 clear h q0
 go_enter Tryz.func177, Tryz.ntmps177
 go_wp2_with fail
 refine (sis (H.out _ (one_new w _)) tc _ Q0.out).mono ?_
 rintro e w1 ⟨rfl, b1⟩
 obtain ⟨⟨r0, r1, r2, r3, r4, r5, r6⟩, hb, hlt⟩ := box7 b1
 have HB0 := Lib.hid hb
 have HBB0 := Lib.hid (b1)
 clear hb b1
 go_wp2
 go_ret
 exact ⟨rfl, HB0.out⟩
set_option maxRecDepth 100000 in
set_option maxHeartbeats 2000000 in
theorem lev1n (h : ST X TA L s w n SA ns sc i EA ne ec d c p) (tc : Nat) (q0 : isP L s tLess = false) :
  Calls Tryz.prog 177 #[.agg #[.slice TA n tc, .int .i64 ((i : Nat) : Int), .slice SA ns sc, .slice EA ne ec, .int .i64 ((d : Nat) : Int), .int .i64 ((c : Nat) : Int), .int .i64 ((p : Nat) : Int)], .int .i64 1] w fun e w' => e = .returned (.int .i64 0) ∧ Below w.heap.size w w' := by
 have H := Lib.hid (fun w' hb => h.call (w1 := w') hb)
 have Q0 := Lib.hid q0
 clear h q0
 go_enter Tryz.func177, Tryz.ntmps177
 go_wp2_with fail
 refine (sis (H.out _ (one_new w _)) tc _ Q0.out).mono ?_
 rintro e w1 ⟨rfl, b1⟩
 obtain ⟨⟨r0, r1, r2, r3, r4, r5, r6⟩, hb, hlt⟩ := box7 b1
 have HB0 := Lib.hid hb
 have HBB0 := Lib.hid (b1)
 clear hb b1
 go_wp2
 go_ret
 exact ⟨rfl, HB0.out⟩
set_option maxRecDepth 100000 in
set_option maxHeartbeats 2000000 in
theorem lev2p (h : ST X TA L s w n SA ns sc i EA ne ec d c p) (tc : Nat) (q0 : isP L s tPlus = true) :
  Calls Tryz.prog 177 #[.agg #[.slice TA n tc, .int .i64 ((i : Nat) : Int), .slice SA ns sc, .slice EA ne ec, .int .i64 ((d : Nat) : Int), .int .i64 ((c : Nat) : Int), .int .i64 ((p : Nat) : Int)], .int .i64 2] w fun e w' => e = .returned (.int .i64 4) ∧ Below w.heap.size w w' := by
 have H := Lib.hid (fun w' hb => h.call (w1 := w') hb)
 have Q0 := Lib.hid q0
 clear h q0
 go_enter Tryz.func177, Tryz.ntmps177
 go_wp2_with fail
 refine (sis (H.out _ (one_new w _)) tc _ Q0.out).mono ?_
 rintro e w1 ⟨rfl, b1⟩
 obtain ⟨⟨r0, r1, r2, r3, r4, r5, r6⟩, hb, hlt⟩ := box7 b1
 have HB0 := Lib.hid hb
 have HBB0 := Lib.hid (b1)
 clear hb b1
 go_wp2
 go_ret
 exact ⟨rfl, HB0.out⟩
set_option maxRecDepth 100000 in
set_option maxHeartbeats 2000000 in
theorem lev2m (h : ST X TA L s w n SA ns sc i EA ne ec d c p) (tc : Nat) (q0 : isP L s tPlus = false) (q1 : isP L s tMinus = true) :
  Calls Tryz.prog 177 #[.agg #[.slice TA n tc, .int .i64 ((i : Nat) : Int), .slice SA ns sc, .slice EA ne ec, .int .i64 ((d : Nat) : Int), .int .i64 ((c : Nat) : Int), .int .i64 ((p : Nat) : Int)], .int .i64 2] w fun e w' => e = .returned (.int .i64 5) ∧ Below w.heap.size w w' := by
 have H := Lib.hid (fun w' hb => h.call (w1 := w') hb)
 have Q0 := Lib.hid q0
 have Q1 := Lib.hid q1
 clear h q0 q1
 go_enter Tryz.func177, Tryz.ntmps177
 go_wp2_with fail
 refine (sis (H.out _ (one_new w _)) tc _ Q0.out).mono ?_
 rintro e w1 ⟨rfl, b1⟩
 obtain ⟨⟨r0, r1, r2, r3, r4, r5, r6⟩, hb, hlt⟩ := box7 b1
 have HB0 := Lib.hid hb
 have HBB0 := Lib.hid (b1)
 clear hb b1
 go_wp2_with fail
 refine (sis (H.out _ HB0.out) tc _ Q1.out).mono ?_
 rintro e w2 ⟨rfl, b2⟩
 clear r0 r1 r2 r3 r4 r5 r6 hlt
 obtain ⟨⟨r0, r1, r2, r3, r4, r5, r6⟩, hb, hlt⟩ := box7 (HBB0.out.trans (b2.mono HBB0.out.size))
 have HB1 := Lib.hid hb
 have HBB1 := Lib.hid (HBB0.out.trans (b2.mono HBB0.out.size))
 clear hb b2
 go_wp2
 go_ret
 exact ⟨rfl, HB1.out⟩
set_option maxRecDepth 100000 in
set_option maxHeartbeats 2000000 in
theorem lev2n (h : ST X TA L s w n SA ns sc i EA ne ec d c p) (tc : Nat) (q0 : isP L s tPlus = false) (q1 : isP L s tMinus = false) :
  Calls Tryz.prog 177 #[.agg #[.slice TA n tc, .int .i64 ((i : Nat) : Int), .slice SA ns sc, .slice EA ne ec, .int .i64 ((d : Nat) : Int), .int .i64 ((c : Nat) : Int), .int .i64 ((p : Nat) : Int)], .int .i64 2] w fun e w' => e = .returned (.int .i64 0) ∧ Below w.heap.size w w' := by
 have H := Lib.hid (fun w' hb => h.call (w1 := w') hb)
 have Q0 := Lib.hid q0
 have Q1 := Lib.hid q1
 clear h q0 q1
 go_enter Tryz.func177, Tryz.ntmps177
 go_wp2_with fail
 refine (sis (H.out _ (one_new w _)) tc _ Q0.out).mono ?_
 rintro e w1 ⟨rfl, b1⟩
 obtain ⟨⟨r0, r1, r2, r3, r4, r5, r6⟩, hb, hlt⟩ := box7 b1
 have HB0 := Lib.hid hb
 have HBB0 := Lib.hid (b1)
 clear hb b1
 go_wp2_with fail
 refine (sis (H.out _ HB0.out) tc _ Q1.out).mono ?_
 rintro e w2 ⟨rfl, b2⟩
 clear r0 r1 r2 r3 r4 r5 r6 hlt
 obtain ⟨⟨r0, r1, r2, r3, r4, r5, r6⟩, hb, hlt⟩ := box7 (HBB0.out.trans (b2.mono HBB0.out.size))
 have HB1 := Lib.hid hb
 have HBB1 := Lib.hid (HBB0.out.trans (b2.mono HBB0.out.size))
 clear hb b2
 go_wp2
 go_ret
 exact ⟨rfl, HB1.out⟩
set_option maxRecDepth 100000 in
set_option maxHeartbeats 2000000 in
theorem lev3s (h : ST X TA L s w n SA ns sc i EA ne ec d c p) (tc : Nat) (q0 : isP L s tStar = true) :
  Calls Tryz.prog 177 #[.agg #[.slice TA n tc, .int .i64 ((i : Nat) : Int), .slice SA ns sc, .slice EA ne ec, .int .i64 ((d : Nat) : Int), .int .i64 ((c : Nat) : Int), .int .i64 ((p : Nat) : Int)], .int .i64 3] w fun e w' => e = .returned (.int .i64 6) ∧ Below w.heap.size w w' := by
 have H := Lib.hid (fun w' hb => h.call (w1 := w') hb)
 have Q0 := Lib.hid q0
 clear h q0
 go_enter Tryz.func177, Tryz.ntmps177
 go_wp2_with fail
 refine (sis (H.out _ (one_new w _)) tc _ Q0.out).mono ?_
 rintro e w1 ⟨rfl, b1⟩
 obtain ⟨⟨r0, r1, r2, r3, r4, r5, r6⟩, hb, hlt⟩ := box7 b1
 have HB0 := Lib.hid hb
 have HBB0 := Lib.hid (b1)
 clear hb b1
 go_wp2
 go_ret
 exact ⟨rfl, HB0.out⟩
set_option maxRecDepth 100000 in
set_option maxHeartbeats 2000000 in
theorem lev3a (h : ST X TA L s w n SA ns sc i EA ne ec d c p) (tc : Nat) (q0 : isP L s tStar = false) (q1 : isP L s tAt = true) :
  Calls Tryz.prog 177 #[.agg #[.slice TA n tc, .int .i64 ((i : Nat) : Int), .slice SA ns sc, .slice EA ne ec, .int .i64 ((d : Nat) : Int), .int .i64 ((c : Nat) : Int), .int .i64 ((p : Nat) : Int)], .int .i64 3] w fun e w' => e = .returned (.int .i64 7) ∧ Below w.heap.size w w' := by
 have H := Lib.hid (fun w' hb => h.call (w1 := w') hb)
 have Q0 := Lib.hid q0
 have Q1 := Lib.hid q1
 clear h q0 q1
 go_enter Tryz.func177, Tryz.ntmps177
 go_wp2_with fail
 refine (sis (H.out _ (one_new w _)) tc _ Q0.out).mono ?_
 rintro e w1 ⟨rfl, b1⟩
 obtain ⟨⟨r0, r1, r2, r3, r4, r5, r6⟩, hb, hlt⟩ := box7 b1
 have HB0 := Lib.hid hb
 have HBB0 := Lib.hid (b1)
 clear hb b1
 go_wp2_with fail
 refine (sis (H.out _ HB0.out) tc _ Q1.out).mono ?_
 rintro e w2 ⟨rfl, b2⟩
 clear r0 r1 r2 r3 r4 r5 r6 hlt
 obtain ⟨⟨r0, r1, r2, r3, r4, r5, r6⟩, hb, hlt⟩ := box7 (HBB0.out.trans (b2.mono HBB0.out.size))
 have HB1 := Lib.hid hb
 have HBB1 := Lib.hid (HBB0.out.trans (b2.mono HBB0.out.size))
 clear hb b2
 go_wp2
 go_ret
 exact ⟨rfl, HB1.out⟩
set_option maxRecDepth 100000 in
set_option maxHeartbeats 2000000 in
theorem lev3n (h : ST X TA L s w n SA ns sc i EA ne ec d c p) (tc : Nat) (q0 : isP L s tStar = false) (q1 : isP L s tAt = false) :
  Calls Tryz.prog 177 #[.agg #[.slice TA n tc, .int .i64 ((i : Nat) : Int), .slice SA ns sc, .slice EA ne ec, .int .i64 ((d : Nat) : Int), .int .i64 ((c : Nat) : Int), .int .i64 ((p : Nat) : Int)], .int .i64 3] w fun e w' => e = .returned (.int .i64 0) ∧ Below w.heap.size w w' := by
 have H := Lib.hid (fun w' hb => h.call (w1 := w') hb)
 have Q0 := Lib.hid q0
 have Q1 := Lib.hid q1
 clear h q0 q1
 go_enter Tryz.func177, Tryz.ntmps177
 go_wp2_with fail
 refine (sis (H.out _ (one_new w _)) tc _ Q0.out).mono ?_
 rintro e w1 ⟨rfl, b1⟩
 obtain ⟨⟨r0, r1, r2, r3, r4, r5, r6⟩, hb, hlt⟩ := box7 b1
 have HB0 := Lib.hid hb
 have HBB0 := Lib.hid (b1)
 clear hb b1
 go_wp2_with fail
 refine (sis (H.out _ HB0.out) tc _ Q1.out).mono ?_
 rintro e w2 ⟨rfl, b2⟩
 clear r0 r1 r2 r3 r4 r5 r6 hlt
 obtain ⟨⟨r0, r1, r2, r3, r4, r5, r6⟩, hb, hlt⟩ := box7 (HBB0.out.trans (b2.mono HBB0.out.size))
 have HB1 := Lib.hid hb
 have HBB1 := Lib.hid (HBB0.out.trans (b2.mono HBB0.out.size))
 clear hb b2
 go_wp2
 go_ret
 exact ⟨rfl, HB1.out⟩
set_option maxRecDepth 100000 in
set_option maxHeartbeats 4000000 in
theorem calls_any (h : ST X TA L s w n SA ns sc i EA ne ec d c p) (tc : Nat) :
  Calls Tryz.prog 211 #[.agg #[.slice TA n tc, .int .i64 ((i : Nat) : Int), .slice SA ns sc, .slice EA ne ec, .int .i64 ((d : Nat) : Int), .int .i64 ((c : Nat) : Int), .int .i64 ((p : Nat) : Int)]] w fun e w' => e = .returned (.tuple #[.int .i64 ((callP (nowP L s)).1 : Nat), .int .i64 ((callP (nowP L s)).2 : Nat)]) ∧ Below w.heap.size w w' := by
 obtain ⟨kd, tx, nm, ps, hnow⟩ : ∃ kd tx nm ps, nowP L s = ⟨kd, tx, nm, ps⟩ := ⟨_, _, _, _, rfl⟩
 have H := Lib.hid (fun w' hb => snow (h.call (w1 := w') hb) tc hnow)
 rw [hnow]
 obtain ⟨k, hk⟩ : ∃ k, k = callP ⟨kd, tx, nm, ps⟩ := ⟨_, rfl⟩
 rw [← hk]
 have HK := Lib.hid hk
 clear hk hnow h
 by_cases h4 : kd = 4
 ·have e1 : ((kd : Int) != 4) = false := by rw [bne_eq_false_iff_eq]; omega
  have HK4 := Lib.hid h4
  clear h4
  go_enter Tryz.func211, Tryz.ntmps211
  go_wp2_with fail
  refine (H.out _ (one_new w _)).mono ?_
  rintro e w1 ⟨rfl, b1⟩
  obtain ⟨⟨r0, r1, r2, r3, r4, r5, r6⟩, hb, hlt⟩ := box7 b1
  have HB := Lib.hid hb
  have HBB := Lib.hid b1
  clear hb b1
  go_wp2_with fail
  refine (H.out _ HB.out).mono ?_
  rintro e w2 ⟨rfl, b2⟩
  have HB2 := Lib.hid (HB.out.trans (b2.mono HB.out.size))
  clear b2 r0 r1 r2 r3 r4 r5 r6 hlt
  go_wp2
  all_goals
   go_ret2
   exact ⟨by rw [HK.out, HK4.out]; unfold callP; simp [sRelu, sSum, sArgmax, sMax, sMux, *], HB2.out⟩
 ·have e1 : ((kd : Int) != 4) = true := by rw [bne_iff_ne]; omega
  have HK4 := Lib.hid h4
  clear h4
  go_enter Tryz.func211, Tryz.ntmps211
  go_wp2_with fail
  refine (H.out _ (one_new w _)).mono ?_
  rintro e w1 ⟨rfl, b1⟩
  obtain ⟨⟨r0, r1, r2, r3, r4, r5, r6⟩, hb, hlt⟩ := box7 b1
  have HB := Lib.hid hb
  clear hb b1
  go_wp2
  go_ret2
  exact ⟨by rw [HK.out]; unfold callP; simp [HK4.out], HB.out⟩
end
end Go.Proofs.YtghlnncfigkkaaaGreatDoor
namespace Go.Proofs.YtghlnncfigkkaaaGreatDoor
set_option linter.unusedVariables false
set_option linter.unusedSimpArgs false
open Go.RowKit
attribute [local go_sem ↓] tok_field3 tok_field0
def RLv (X : Nat → Prop) (TA : Option Addr) (tc : Nat) (L : List Tok) (n : Nat) (SA : Option Addr) (ns sc : Nat) (w : World) (r : PS × Nat) (e : Ending) (w' : World) : Prop :=
 ∃ v, e = .returned (.tuple #[v, .int .i64 (r.2 : Nat)]) ∧ RO X TA tc L n SA ns sc r.1 w' v ∧ Below w.heap.size w w'
structure AllR (TA : Option Addr) (tc : Nat) (L : List Tok) (n : Nat) (SA : Option Addr) (ns sc : Nat) (f : Nat) : Prop where
 j1 : ∀ {X : Nat → Prop} {w : World} {s : PS} {i ne ec d c p : Nat} {EA : Option Addr}, ST X TA L s w n SA ns sc i EA ne ec d c p → 12 * (L.length - s.i) + 6 ≤ f → Calls Tryz.prog 144 #[.agg #[.slice TA n tc, .int .i64 ((i : Nat) : Int), .slice SA ns sc, .slice EA ne ec, .int .i64 ((d : Nat) : Int), .int .i64 ((c : Nat) : Int), .int .i64 ((p : Nat) : Int)], .int .i64 1] w (RLv X TA tc L n SA ns sc w (exprP L f s))
 j2 : ∀ {X : Nat → Prop} {w : World} {s : PS} {i ne ec d c p : Nat} {EA : Option Addr}, ST X TA L s w n SA ns sc i EA ne ec d c p → 12 * (L.length - s.i) + 5 ≤ f → Calls Tryz.prog 144 #[.agg #[.slice TA n tc, .int .i64 ((i : Nat) : Int), .slice SA ns sc, .slice EA ne ec, .int .i64 ((d : Nat) : Int), .int .i64 ((c : Nat) : Int), .int .i64 ((p : Nat) : Int)], .int .i64 2] w (RLv X TA tc L n SA ns sc w (sumP L f s))
 j3 : ∀ {X : Nat → Prop} {w : World} {s : PS} {i ne ec d c p : Nat} {EA : Option Addr}, ST X TA L s w n SA ns sc i EA ne ec d c p → 12 * (L.length - s.i) + 4 ≤ f → Calls Tryz.prog 144 #[.agg #[.slice TA n tc, .int .i64 ((i : Nat) : Int), .slice SA ns sc, .slice EA ne ec, .int .i64 ((d : Nat) : Int), .int .i64 ((c : Nat) : Int), .int .i64 ((p : Nat) : Int)], .int .i64 3] w (RLv X TA tc L n SA ns sc w (prodP L f s))
 sign : ∀ {X : Nat → Prop} {w : World} {s : PS} {i ne ec d c p : Nat} {EA : Option Addr}, ST X TA L s w n SA ns sc i EA ne ec d c p → 12 * (L.length - s.i) + 3 ≤ f → Calls Tryz.prog 176 #[.agg #[.slice TA n tc, .int .i64 ((i : Nat) : Int), .slice SA ns sc, .slice EA ne ec, .int .i64 ((d : Nat) : Int), .int .i64 ((c : Nat) : Int), .int .i64 ((p : Nat) : Int)]] w (RLv X TA tc L n SA ns sc w (signP L f s))
 atom : ∀ {X : Nat → Prop} {w : World} {s : PS} {i ne ec d c p : Nat} {EA : Option Addr}, ST X TA L s w n SA ns sc i EA ne ec d c p → 12 * (L.length - s.i) + 1 ≤ f → Calls Tryz.prog 202 #[.agg #[.slice TA n tc, .int .i64 ((i : Nat) : Int), .slice SA ns sc, .slice EA ne ec, .int .i64 ((d : Nat) : Int), .int .i64 ((c : Nat) : Int), .int .i64 ((p : Nat) : Int)]] w (RLv X TA tc L n SA ns sc w (atomP L f s))
section
variable {X Y : Nat → Prop} {TA SA : Option Addr} {tc n ns sc : Nat} {L : List Tok} {s s' : PS} {w0 w w1 wS : World} {i ne ec d c p : Nat} {EA : Option Addr} {b : Array Value} {Q : List (Nat × Obj)}
theorem ST.el (h : ST X TA L s w n SA ns sc i EA ne ec d c p) : s.es.length ≤ s.i ∧ s.i ≤ L.length ∧ L.length ≤ 1000 ∧ s.deep ≤ 32 ∧ i = s.i ∧ d = s.deep := ⟨h.rr.el, h.rr.ii, h.rr.len, h.rr.dd, h.ei, h.ed⟩
theorem new_cell3 {w1 w2 : World} {p : Addr} {v : Value} (hb : Below w1.heap.size w1 w2) (hc : w1.cell? p = some v) : w2.cell? p = some v := by
 have hlt : p.block < w1.heap.size := by
  unfold World.cell? at hc
  cases hh : w1.heap[p.block]? with
  | none => rw [hh] at hc; simp at hc
  | some o => exact (Array.getElem?_eq_some_iff.1 hh).1
 exact (hb.cell hlt).trans hc
theorem keep8 {wr w1 w2 : World} {g : Nat} {v0 v1 v2 v3 v4 v5 v6 : Value} (hb : Below w1.heap.size w1 w2)
  (h : Below wr.heap.size wr w1 ∧ w1.cell? ⟨g, 0, none⟩ = some v0 ∧ w1.cell? ⟨g, 1, none⟩ = some v1 ∧ w1.cell? ⟨g, 2, none⟩ = some v2 ∧ w1.cell? ⟨g, 3, none⟩ = some v3 ∧ w1.cell? ⟨g, 4, none⟩ = some v4 ∧ w1.cell? ⟨g, 5, none⟩ = some v5 ∧ w1.cell? ⟨g, 6, none⟩ = some v6) :
  Below wr.heap.size wr w2 ∧ w2.cell? ⟨g, 0, none⟩ = some v0 ∧ w2.cell? ⟨g, 1, none⟩ = some v1 ∧ w2.cell? ⟨g, 2, none⟩ = some v2 ∧ w2.cell? ⟨g, 3, none⟩ = some v3 ∧ w2.cell? ⟨g, 4, none⟩ = some v4 ∧ w2.cell? ⟨g, 5, none⟩ = some v5 ∧ w2.cell? ⟨g, 6, none⟩ = some v6 := by
 obtain ⟨h0, c0, c1, c2, c3, c4, c5, c6⟩ := h
 exact ⟨bnext h0 hb, new_cell3 hb c0, new_cell3 hb c1, new_cell3 hb c2, new_cell3 hb c3, new_cell3 hb c4, new_cell3 hb c5, new_cell3 hb c6⟩
theorem st_args (h : ST X TA L s w n SA ns sc i EA ne ec d c p) (ob : Obj) : ST (XA X (some ⟨w.heap.size, 0, none⟩)) TA L s (w.alloc ob) n SA ns sc i EA ne ec d c p := by
 have hb := one_new w ob
 have hY : ∀ k, XA X (some ⟨w.heap.size, 0, none⟩) k → X k ∨ w.heap.size ≤ k := fun k hk => by
  rcases hk with hk | hk
  ·exact .inl hk
  ·exact .inr (Nat.le_of_eq (by simpa [blk] using hk))
 have h1 := h.rr.next hb
 refine ⟨⟨(h.rr.ownS.re hY).next hb, (h.rr.ownE.re hY).next hb, h1.toks, h1.err, h1.len, h1.ii, h1.dd, h1.el, h1.sl, fun k hx => ?_⟩, h.en, h.ens, h.ei, h.ene, h.ed, h.ecc, h.ep⟩
 rcases hx with hx | hx
 ·exact h1.xx k hx
 ·have e : w.heap.size = k := by simpa [blk] using hx
  rw [World.size_alloc]
  omega
theorem ST.xne (h : ST X TA L s w n SA ns sc i EA ne ec d c p) : ¬ X w.heap.size := fun hx => Nat.lt_irrefl _ (h.rr.xx _ hx)
theorem rargs2 (h : ST X TA L s w n SA ns sc i EA ne ec d c p) (a b : Nat) : ArgsV X 0 (w.alloc (.cells #[.int .i64 a, .int .i64 b] 3)) (.slice (some ⟨w.heap.size, 0, none⟩) 2 2) [a, b] :=
 ⟨some ⟨w.heap.size, 0, none⟩, 2, rfl, Own.full w 3 [I64 a, I64 b] (Nat.zero_le _) (by simp [maxLen]), fun k hk => by
  obtain rfl : w.heap.size = k := by simpa [blk] using hk
  exact h.xne⟩
theorem rargs1 (h : ST X TA L s w n SA ns sc i EA ne ec d c p) (a : Nat) : ArgsV X 0 (w.alloc (.cells #[.int .i64 a] 3)) (.slice (some ⟨w.heap.size, 0, none⟩) 1 1) [a] :=
 ⟨some ⟨w.heap.size, 0, none⟩, 1, rfl, Own.full w 3 [I64 a] (Nat.zero_le _) (by simp [maxLen]), fun k hk => by
  obtain rfl : w.heap.size = k := by simpa [blk] using hk
  exact h.xne⟩
theorem FR.cur (h : FR X TA L n SA ns sc tc w0 w s i EA ne ec d c p b Q) : curI w0.heap.size w = s.i := by
 have hc : w.cell? ⟨w0.heap.size, 1, none⟩ = some (.int .i64 ((i : Nat) : Int)) := cell_of_row _ _ 1 _ _ _ h.bx.k0
 unfold curI
 rw [hc, ← h.st.ei]
 simp [intOf]
theorem FR.drop (h : FR X TA L n SA ns sc tc w0 w s i EA ne ec d c p b Q) : FR X TA L n SA ns sc tc w0 w s i EA ne ec d c p b [] := ⟨h.bx, h.st, h.t0, fun q hq => by cases hq⟩
theorem put_i (s : PS) (e : Ex) : (putP s e).1.i = s.i := by unfold putP; split <;> rfl
def JR (X : Nat → Prop) (TA : Option Addr) (tc : Nat) (L : List Tok) (n : Nat) (SA : Option Addr) (ns sc : Nat) (w : World) (f : Nat) (R : PS × Nat) (lp : Nat → PS → Nat → PS × Nat) (av : Value) (wr : World) : Prop :=
 ∃ (f' : Nat) (s' : PS) (a' i : Nat) (EA : Option Addr) (ne ec d c p : Nat), f' ≤ f ∧ R = lp f' s' a' ∧ av = .int .i64 a' ∧ FR X TA L n SA ns sc tc w wr s' i EA ne ec d c p #[(.slice none 0 0), (.int .i64 0), (.slice none 0 0), (.slice none 0 0), (.int .i64 0), (.int .i64 0), (.int .i64 0)] [] ∧ 12 * (L.length - s'.i) + 1 ≤ f'
def J1 (X : Nat → Prop) (TA : Option Addr) (tc : Nat) (L : List Tok) (n : Nat) (SA : Option Addr) (ns sc : Nat) (w : World) (sa : PS) (va : Nat) (av : Value) (wr : World) : Prop :=
 ∃ (i : Nat) (EA : Option Addr) (ne ec d c p : Nat), av = .int .i64 va ∧ FR X TA L n SA ns sc tc w wr sa i EA ne ec d c p #[(.slice none 0 0), (.int .i64 0), (.slice none 0 0), (.slice none 0 0), (.int .i64 0), (.int .i64 0), (.int .i64 0)] []
set_option maxRecDepth 100000 in
set_option maxHeartbeats 4000000 in
theorem j1_step (f : Nat) (ih : ∀ f', f' ≤ f → AllR TA tc L n SA ns sc f') (h : ST X TA L s w n SA ns sc i EA ne ec d c p) (hf : 12 * (L.length - s.i) + 6 ≤ f + 1) :
  Calls Tryz.prog 144 #[.agg #[.slice TA n tc, .int .i64 ((i : Nat) : Int), .slice SA ns sc, .slice EA ne ec, .int .i64 ((d : Nat) : Int), .int .i64 ((c : Nat) : Int), .int .i64 ((p : Nat) : Int)], .int .i64 1] w (RLv X TA tc L n SA ns sc w (exprP L (f + 1) s)) := by
 have F0 := Lib.hid (FR.made (tc := tc) h #[(.slice none 0 0), (.int .i64 0), (.slice none 0 0), (.slice none 0 0), (.int .i64 0), (.int .i64 0), (.int .i64 0)])
 have hel := h.el
 have HS := Lib.hid ((ih f (Nat.le_refl _)).j2 F0.out.st (by omega))
 have g1 := (allG L f).sum s
 obtain ⟨sa, va, hA⟩ : ∃ sa va, sumP L f s = (sa, va) := ⟨_, _, rfl⟩
 rw [hA] at HS g1
 obtain ⟨kd, tx, nm, ps, hnow⟩ : ∃ kd tx nm ps, nowP L sa = ⟨kd, tx, nm, ps⟩ := ⟨_, _, _, _, rfl⟩
 have HNOW := Lib.hid hnow
 have IH := Lib.hid ih
 have HA := Lib.hid hA
 have HG := Lib.hid g1
 clear ih hA hnow h g1 hel
 go_enter Tryz.func144, Tryz.ntmps144
 go_wp2_with fail
 refine HS.out.mono ?_
 rintro e w1 ⟨v, rfl, ⟨i1, EA1, ne1, ec1, d1, c1, p1, rfl, h1⟩, b1⟩
 have F1 := Lib.hid (F0.out.call b1)
 obtain ⟨⟨r0, r1, r2, r3, r4, r5, r6⟩, ⟨z0, z1, z2, z3, z4, z5, z6⟩, ⟨y0, y1, y2, y3, y4, y5, y6⟩, ⟨x0, x1, x2, x3, x4, x5, x6⟩, hlt0, hlt1⟩ := F1.out.cells
 go_wp2
 obtain ⟨w1', hwS⟩ : ∃ wS, wS = (((((((w1).setCell ⟨w.heap.size, 0, none⟩ (.slice TA n tc)).setCell ⟨w.heap.size, 1, none⟩ (.int .i64 ((i1 : Nat) : Int))).setCell ⟨w.heap.size, 2, none⟩ (.slice SA ns sc)).setCell ⟨w.heap.size, 3, none⟩ (.slice EA1 ne1 ec1)).setCell ⟨w.heap.size, 4, none⟩ (.int .i64 ((d1 : Nat) : Int))).setCell ⟨w.heap.size, 5, none⟩ (.int .i64 ((c1 : Nat) : Int))).setCell ⟨w.heap.size, 6, none⟩ (.int .i64 ((p1 : Nat) : Int)) := ⟨_, rfl⟩
 rw [← hwS]
 have F2 := Lib.hid (F0.out.take b1 h1 hwS)
 have hsz : w1.heap.size = w1'.heap.size := by rw [hwS]; simp [World.setCell]
 try simp only [hsz]
 clear hsz hwS b1 h1
 clear r0 r1 r2 r3 r4 r5 r6 z0 z1 z2 z3 z4 z5 z6 y0 y1 y2 y3 y4 y5 y6 x0 x1 x2 x3 x4 x5 x6 hlt0 hlt1
 clear F1
 go_loopw [6] (fun av wr => J1 X TA tc L n SA ns sc w sa va av wr) (fun av wr => 0)
 case atStart => exact ⟨_, _, _, _, _, _, _, rfl, F2.out⟩
 case round =>
  obtain ⟨ia, EAa, nea, eca, da, ca, pa, rfl, fa⟩ := hrel
  have FA := Lib.hid fa
  clear fa F2 F0 HS
  obtain ⟨⟨r0, r1, r2, r3, r4, r5, r6⟩, ⟨z0, z1, z2, z3, z4, z5, z6⟩, ⟨y0, y1, y2, y3, y4, y5, y6⟩, ⟨x0, x1, x2, x3, x4, x5, x6⟩, hlt0, hlt1⟩ := FA.out.cells
  cases hq : isP L sa tLess with
  | false =>
   have HR := Lib.hid (show exprP L (f + 1) s = (sa, va) from by rw [exprP, HA.out]; simp only [hq]; rfl)
   have HQ := Lib.hid hq
   clear hq
   go_wp2_with fail
   refine (lev1n FA.out.st tc HQ.out).mono ?_
   rintro e w2 ⟨rfl, b2⟩
   clear r0 r1 r2 r3 r4 r5 r6 z0 z1 z2 z3 z4 z5 z6 y0 y1 y2 y3 y4 y5 y6 x0 x1 x2 x3 x4 x5 x6 hlt0 hlt1
   have F2 := Lib.hid (FA.out.call b2)
   clear b2
   obtain ⟨⟨r0, r1, r2, r3, r4, r5, r6⟩, ⟨z0, z1, z2, z3, z4, z5, z6⟩, ⟨y0, y1, y2, y3, y4, y5, y6⟩, ⟨x0, x1, x2, x3, x4, x5, x6⟩, hlt0, hlt1⟩ := F2.out.cells
   go_wp2
   obtain ⟨wS, hwS⟩ : ∃ wS, wS = (((((((w2).setCell ⟨w.heap.size + 1, 0, none⟩ (.slice TA n tc)).setCell ⟨w.heap.size + 1, 1, none⟩ (.int .i64 ((ia : Nat) : Int))).setCell ⟨w.heap.size + 1, 2, none⟩ (.slice SA ns sc)).setCell ⟨w.heap.size + 1, 3, none⟩ (.slice EAa nea eca)).setCell ⟨w.heap.size + 1, 4, none⟩ (.int .i64 ((da : Nat) : Int))).setCell ⟨w.heap.size + 1, 5, none⟩ (.int .i64 ((ca : Nat) : Int))).setCell ⟨w.heap.size + 1, 6, none⟩ (.int .i64 ((pa : Nat) : Int)) := ⟨_, rfl⟩
   rw [← hwS]
   obtain ⟨f1, f2, f3⟩ := F2.out.fin (Below.refl _ _) F2.out.st hwS
   obtain ⟨g0, g1, g2, g3, g4, g5, g6⟩ := cells7 f1
   clear hwS f1
   exact bodyPost_ret (v := .tuple #[.agg #[.slice TA n tc, .int .i64 ((ia : Nat) : Int), .slice SA ns sc, .slice EAa nea eca, .int .i64 ((da : Nat) : Int), .int .i64 ((ca : Nat) : Int), .int .i64 ((pa : Nat) : Int)], .int .i64 ((va : Nat) : Int)]) (by simp [results, Tryz.results144, go_sem, g0, g1, g2, g3, g4, g5, g6]) rfl ⟨_, by rw [HR.out], by rw [HR.out]; exact f2.ro, f3⟩
  | true =>
   have hlt := isP_lt hq
   have hi1 : s.i ≤ sa.i := HG.out.hi
   have HB := Lib.hid (fun w i EA ne ec d c p (h' : ST X TA L (advP sa) w n SA ns sc i EA ne ec d c p) => (IH.out f (Nat.le_refl _)).j2 h' (by show 12 * (L.length - (sa.i + 1)) + 5 ≤ f; omega))
   have g2 := (allG L f).sum (advP sa)
   obtain ⟨sb, vb, hB⟩ : ∃ sb vb, sumP L f (advP sa) = (sb, vb) := ⟨_, _, rfl⟩
   rw [hB] at HB g2
   have HBIG := Lib.hid (show sb.es.length + 1 ≤ sb.i from by
    have h1 : sa.es.length + s.i + 0 ≤ s.es.length + sa.i := HG.out.he
    obtain ⟨e1, e2, e3, e4, e5, e6⟩ := FA.out.st.el
    have h2 := g2.he
    have h3 := g2.hi
    have h4 : (advP sa).i = sa.i + 1 := rfl
    have h5 : (advP sa).es = sa.es := rfl
    simp only [h4, h5] at h2 h3
    omega)
   obtain ⟨sd, vd, hC⟩ : ∃ sd vd, putP sb ⟨8, noB, 0, [va, vb], ps⟩ = (sd, vd) := ⟨_, _, rfl⟩
   have HC := Lib.hid hC
   have HR := Lib.hid (show exprP L (f + 1) s = (sd, vd) from by rw [exprP, HA.out]; simp only [hq, hB, HNOW.out]; exact hC)
   have HQ := Lib.hid hq
   have HLT := Lib.hid hlt
   have HIA := Lib.hid (show ia ≤ 1000 from by obtain ⟨e1, e2, e3, e4, e5, e6⟩ := FA.out.st.el; omega)
   clear hq hlt hi1 g2 hB hC
   go_wp2_with fail
   refine (lev1y FA.out.st tc HQ.out).mono ?_
   rintro e w2 ⟨rfl, b2⟩
   clear r0 r1 r2 r3 r4 r5 r6 z0 z1 z2 z3 z4 z5 z6 y0 y1 y2 y3 y4 y5 y6 x0 x1 x2 x3 x4 x5 x6 hlt0 hlt1
   have F2 := Lib.hid (FA.out.call b2)
   clear b2
   obtain ⟨⟨r0, r1, r2, r3, r4, r5, r6⟩, ⟨z0, z1, z2, z3, z4, z5, z6⟩, ⟨y0, y1, y2, y3, y4, y5, y6⟩, ⟨x0, x1, x2, x3, x4, x5, x6⟩, hlt0, hlt1⟩ := F2.out.cells
   go_wp2_with fail
   clear r0 r1 r2 r3 r4 r5 r6
   have hS := Lib.hid (show Below w2.heap.size w2 w2.drew ∧ w2.cell? ⟨w.heap.size, 0, none⟩ = some (.slice TA n tc) ∧ w2.cell? ⟨w.heap.size, 1, none⟩ = some (.int .i64 ((ia : Nat) : Int)) ∧ w2.cell? ⟨w.heap.size, 2, none⟩ = some (.slice SA ns sc) ∧ w2.cell? ⟨w.heap.size, 3, none⟩ = some (.slice EAa nea eca) ∧ w2.cell? ⟨w.heap.size, 4, none⟩ = some (.int .i64 ((da : Nat) : Int)) ∧ w2.cell? ⟨w.heap.size, 5, none⟩ = some (.int .i64 ((ca : Nat) : Int)) ∧ w2.cell? ⟨w.heap.size, 6, none⟩ = some (.int .i64 ((pa : Nat) : Int)) from ⟨(Below.refl _ _).drew, cells7 F2.out.bx.k0⟩)
   have HL := Lib.hid (fun W (hW : Below w2.heap.size w2 W) => lev1y (F2.out.st.call hW) tc HQ.out)
   have HNO := Lib.hid (fun W (hW : Below w2.heap.size w2 W) => snow (F2.out.st.call hW) tc HNOW.out)
   go_region_held3 (fun w' => Below w2.heap.size w2 w' ∧ w'.cell? ⟨w.heap.size, 0, none⟩ = some (.slice TA n tc) ∧ w'.cell? ⟨w.heap.size, 1, none⟩ = some (.int .i64 ((ia : Nat) : Int)) ∧ w'.cell? ⟨w.heap.size, 2, none⟩ = some (.slice SA ns sc) ∧ w'.cell? ⟨w.heap.size, 3, none⟩ = some (.slice EAa nea eca) ∧ w'.cell? ⟨w.heap.size, 4, none⟩ = some (.int .i64 ((da : Nat) : Int)) ∧ w'.cell? ⟨w.heap.size, 5, none⟩ = some (.int .i64 ((ca : Nat) : Int)) ∧ w'.cell? ⟨w.heap.size, 6, none⟩ = some (.int .i64 ((pa : Nat) : Int))) (first | with_reducible exact hS.out | assumption | exact keep8 (by assumption) (by assumption))
    (first
     | (go_at_call 177; refine (HL.out _ (And.left (by assumption))).mono ?_; rintro e w3 ⟨rfl, b3⟩)
     | (go_at_call 87; refine (HNO.out _ (And.left (by assumption))).mono ?_; rintro e w3 ⟨rfl, b3⟩))
   all_goals
    rename_i hH
    have F3 := Lib.hid (F2.out.call hH.1)
    clear hH b3 hS HL HNO z0 z1 z2 z3 z4 z5 z6 y0 y1 y2 y3 y4 y5 y6 x0 x1 x2 x3 x4 x5 x6 hlt0 hlt1
    obtain ⟨⟨r0, r1, r2, r3, r4, r5, r6⟩, ⟨z0, z1, z2, z3, z4, z5, z6⟩, ⟨y0, y1, y2, y3, y4, y5, y6⟩, ⟨x0, x1, x2, x3, x4, x5, x6⟩, hlt0, hlt1⟩ := F3.out.cells
    have hia : ia ≤ 1000 := HIA.out
    go_wp2_with fail
    obtain ⟨i4, hi4⟩ : ∃ i4, i4 = ia + 1 := ⟨_, rfl⟩
    obtain ⟨w4, hw4⟩ : ∃ w4, w4 = w3.setCell ⟨w.heap.size, 1, none⟩ (.int .i64 ((ia : Int) + 1)) := ⟨_, rfl⟩
    have F4 := Lib.hid (show FR X TA L n SA ns sc tc w w4 (advP sa) i4 EAa nea eca da ca pa #[(.slice none 0 0), (.int .i64 0), (.slice none 0 0), (.slice none 0 0), (.int .i64 0), (.int .i64 0), (.int .i64 0)] [] from by rw [hw4]; exact F3.out.adv HLT.out hi4)
    have h4i : ((ia : Int) + 1) = ((i4 : Nat) : Int) := by rw [hi4]; rfl
    try rw [← hw4]
    simp only [h4i]
    clear r0 r1 r2 r3 r4 r5 r6 z0 z1 z2 z3 z4 z5 z6 y0 y1 y2 y3 y4 y5 y6 x0 x1 x2 x3 x4 x5 x6 hlt0 hlt1
    clear hw4 h4i hi4 hia
    refine (HB.out _ _ _ _ _ _ _ _ F4.out.st).mono ?_
    rintro e w5 ⟨v, rfl, ⟨i5, EA5, ne5, ec5, d5, c5, p5, rfl, h5⟩, b5⟩
    have F5 := Lib.hid (F4.out.call b5)
    obtain ⟨⟨r0, r1, r2, r3, r4, r5, r6⟩, ⟨z0, z1, z2, z3, z4, z5, z6⟩, ⟨y0, y1, y2, y3, y4, y5, y6⟩, ⟨x0, x1, x2, x3, x4, x5, x6⟩, hlt0, hlt1⟩ := F5.out.cells
    go_wp2_with fail
    obtain ⟨w6, hwS⟩ : ∃ wS, wS = (((((((w5).setCell ⟨w.heap.size, 0, none⟩ (.slice TA n tc)).setCell ⟨w.heap.size, 1, none⟩ (.int .i64 ((i5 : Nat) : Int))).setCell ⟨w.heap.size, 2, none⟩ (.slice SA ns sc)).setCell ⟨w.heap.size, 3, none⟩ (.slice EA5 ne5 ec5)).setCell ⟨w.heap.size, 4, none⟩ (.int .i64 ((d5 : Nat) : Int))).setCell ⟨w.heap.size, 5, none⟩ (.int .i64 ((c5 : Nat) : Int))).setCell ⟨w.heap.size, 6, none⟩ (.int .i64 ((p5 : Nat) : Int)) := ⟨_, rfl⟩
    rw [← hwS]
    have F6 := Lib.hid (F4.out.take b5 h5 hwS)
    have hsz : w5.heap.size = w6.heap.size := by rw [hwS]; simp [World.setCell]
    try simp only [hsz]
    clear hsz hwS b5 h5
    clear r0 r1 r2 r3 r4 r5 r6 z0 z1 z2 z3 z4 z5 z6 y0 y1 y2 y3 y4 y5 y6 x0 x1 x2 x3 x4 x5 x6 hlt0 hlt1
    clear F5
    refine (sput ⟨8, noB, 0, [va, vb], ps⟩ (some ⟨w6.heap.size, 0, none⟩) 2 2 (st_args F6.out.st _) tc (rargs2 F6.out.st va vb) HBIG.out).mono ?_
    rintro e w7 ⟨v, rfl, h7, b7⟩
    rw [HC.out] at h7
    obtain ⟨i7, EA7, ne7, ec7, d7, c7, p7, rfl, h7⟩ := h7
    try simp only [HC.out]
    have F7 := Lib.hid (F6.out.alloc (.cells #[.int .i64 ((va : Nat) : Int), .int .i64 ((vb : Nat) : Int)] 3))
    have F8 := Lib.hid (F7.out.call b7)
    obtain ⟨⟨r0, r1, r2, r3, r4, r5, r6⟩, ⟨z0, z1, z2, z3, z4, z5, z6⟩, ⟨y0, y1, y2, y3, y4, y5, y6⟩, ⟨x0, x1, x2, x3, x4, x5, x6⟩, hlt0, hlt1⟩ := F8.out.cells
    go_wp2_with fail
    obtain ⟨w9, hwS⟩ : ∃ wS, wS = (((((((w7).setCell ⟨w.heap.size, 0, none⟩ (.slice TA n tc)).setCell ⟨w.heap.size, 1, none⟩ (.int .i64 ((i7 : Nat) : Int))).setCell ⟨w.heap.size, 2, none⟩ (.slice SA ns sc)).setCell ⟨w.heap.size, 3, none⟩ (.slice EA7 ne7 ec7)).setCell ⟨w.heap.size, 4, none⟩ (.int .i64 ((d7 : Nat) : Int))).setCell ⟨w.heap.size, 5, none⟩ (.int .i64 ((c7 : Nat) : Int))).setCell ⟨w.heap.size, 6, none⟩ (.int .i64 ((p7 : Nat) : Int)) := ⟨_, rfl⟩
    rw [← hwS]
    have F9 := Lib.hid (F7.out.take b7 h7 hwS)
    have hsz : w7.heap.size = w9.heap.size := by rw [hwS]; simp [World.setCell]
    try simp only [hsz]
    clear hsz hwS b7 h7
    clear r0 r1 r2 r3 r4 r5 r6 z0 z1 z2 z3 z4 z5 z6 y0 y1 y2 y3 y4 y5 y6 x0 x1 x2 x3 x4 x5 x6 hlt0 hlt1
    clear F8
    obtain ⟨⟨r0, r1, r2, r3, r4, r5, r6⟩, ⟨z0, z1, z2, z3, z4, z5, z6⟩, ⟨y0, y1, y2, y3, y4, y5, y6⟩, ⟨x0, x1, x2, x3, x4, x5, x6⟩, hlt0, hlt1⟩ := F9.out.cells
    go_wp2
    obtain ⟨wS, hwS⟩ : ∃ wS, wS = (((((((w9).setCell ⟨w.heap.size + 1, 0, none⟩ (.slice TA n tc)).setCell ⟨w.heap.size + 1, 1, none⟩ (.int .i64 ((i7 : Nat) : Int))).setCell ⟨w.heap.size + 1, 2, none⟩ (.slice SA ns sc)).setCell ⟨w.heap.size + 1, 3, none⟩ (.slice EA7 ne7 ec7)).setCell ⟨w.heap.size + 1, 4, none⟩ (.int .i64 ((d7 : Nat) : Int))).setCell ⟨w.heap.size + 1, 5, none⟩ (.int .i64 ((c7 : Nat) : Int))).setCell ⟨w.heap.size + 1, 6, none⟩ (.int .i64 ((p7 : Nat) : Int)) := ⟨_, rfl⟩
    rw [← hwS]
    obtain ⟨f1, f2, f3⟩ := F9.out.fin (Below.refl _ _) F9.out.st hwS
    obtain ⟨g0, g1, g2, g3, g4, g5, g6⟩ := cells7 f1
    clear hwS f1
    exact bodyPost_ret (v := .tuple #[.agg #[.slice TA n tc, .int .i64 ((i7 : Nat) : Int), .slice SA ns sc, .slice EA7 ne7 ec7, .int .i64 ((d7 : Nat) : Int), .int .i64 ((c7 : Nat) : Int), .int .i64 ((p7 : Nat) : Int)], .int .i64 ((vd : Nat) : Int)]) (by simp [results, Tryz.results144, go_sem, g0, g1, g2, g3, g4, g5, g6]) rfl ⟨_, by rw [HR.out], by rw [HR.out]; exact f2.ro, f3⟩
end
end Go.Proofs.YtghlnncfigkkaaaGreatDoor
