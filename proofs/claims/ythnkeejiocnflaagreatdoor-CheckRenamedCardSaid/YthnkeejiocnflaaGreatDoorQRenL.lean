/-
  Names replaced one for one leave what the checker says. No program. The walk of the law CheckRenamed.
-/
import Derived.Test.YthnkeejiocnflaaGreatDoorQBkC
import Derived.Test.YthnkeejiocnflaaGreatDoorQWkCTexts
namespace Go.Proofs.YthnkeejiocnflaaGreatDoor
set_option linter.unusedVariables false
set_option linter.unusedSimpArgs false
open Go.RowKit
/-- A name with a letter ahead, if it is one. -/
def rnB (n : ByteArray) : ByteArray := if n.size = 0 then n else ({ data := #[118] } : ByteArray) ++ n
def rnS (s : SI) : SI := { s with name := rnB s.name }
def rnE (e : EI) : EI := if e.kind = 2 then { e with name := rnB e.name } else e
theorem size_list (n : ByteArray) : n.size = 0 ↔ n.toList = [] := by
  rw [ByteArray.toList_eq, ← len_data]
  exact List.length_eq_zero_iff
theorem rnB_list (n : ByteArray) : (rnB n).toList = if n.toList = [] then [] else 118 :: n.toList := by
  unfold rnB
  by_cases h : n.size = 0
  · rw [if_pos h, if_pos ((size_list n).1 h)]
    exact (size_list n).1 h
  · rw [if_neg h, if_neg (fun e => h ((size_list n).2 e))]
    rw [ByteArray.toList_eq, ByteArray.toList_eq, ByteArray.data_append]
    simp
theorem rnB_inj (a b : ByteArray) : (rnB a).toList = (rnB b).toList ↔ a.toList = b.toList := by
  rw [rnB_list, rnB_list]
  constructor
  · intro h
    by_cases ha : a.toList = []
    · by_cases hb : b.toList = []
      · rw [ha, hb]
      · rw [if_pos ha, if_neg hb] at h
        cases h
    · by_cases hb : b.toList = []
      · rw [if_neg ha, if_pos hb] at h
        cases h
      · rw [if_neg ha, if_neg hb] at h
        injection h
  · intro h
    rw [h]
theorem rnB_zero (a : ByteArray) : ((rnB a).size == 0) = (a.size == 0) := by
  have h : (rnB a).size = 0 ↔ a.size = 0 := by
    rw [size_list, size_list, rnB_list]
    by_cases ha : a.toList = []
    · rw [if_pos ha]; exact ⟨fun _ => ha, fun _ => rfl⟩
    · rw [if_neg ha]; exact ⟨(fun e => by cases e), fun e => absurd e ha⟩
  by_cases h2 : a.size = 0
  · rw [h2, h.2 h2]
  · rw [beq_eq_false_iff_ne.2 h2, beq_eq_false_iff_ne.2 (fun e => h2 (h.1 e))]
def rnN (names : Names) : Names := names.map fun p => (rnB p.1, p.2)
theorem findN_rn (names : Names) (n : ByteArray) : findN (rnN names) (rnB n) = findN names n := by
  induction names with
  | nil => rfl
  | cons p r ih =>
    obtain ⟨t, s⟩ := p
    show (if (rnB t).toList = (rnB n).toList then some s else findN (rnN r) (rnB n)) = (if t.toList = n.toList then some s else findN r n)
    rw [ih]
    by_cases h : t.toList = n.toList
    · rw [if_pos h, if_pos ((rnB_inj _ _).2 h)]
    · rw [if_neg h, if_neg (fun e => h ((rnB_inj _ _).1 e))]
theorem takenP_rn (names : Names) (n : ByteArray) : takenP (rnN names) (rnB n) = takenP names n := by
  unfold takenP
  rw [findN_rn, rnB_zero]
theorem rnN_snoc (names : Names) (n : ByteArray) (l : List Int) : rnN (names ++ [(n, l)]) = rnN names ++ [(rnB n, l)] := by
  unfold rnN
  rw [List.map_append]
  rfl
theorem rnE_args (e : EI) : (rnE e).args = e.args := by unfold rnE; split <;> rfl
theorem rnE_kind (e : EI) : (rnE e).kind = e.kind := by unfold rnE; split <;> rfl
theorem rnE_num (e : EI) : (rnE e).num = e.num := by unfold rnE; split <;> rfl
theorem rnE_pos (e : EI) : (rnE e).pos = e.pos := by unfold rnE; split <;> rfl
theorem exprC_rn (e : EI) (sh : List (List Int)) (names : Names) : exprC (rnE e) sh (rnN names) = exprC e sh names := by
  unfold exprC
  rw [rnE_kind, rnE_args, rnE_num]
  by_cases h : e.kind = 2
  · rw [if_pos h, if_pos h]
    have : (rnE e).name = rnB e.name := by unfold rnE; rw [if_pos h]
    rw [this, findN_rn]
  · rw [if_neg h, if_neg h]
theorem same_rn (es : List EI) : SameArgs es (es.map rnE) := by
  intro i
  rw [List.getElem?_map]
  cases es[i]? with
  | none => rfl
  | some e => show some (rnE e).args = some e.args; rw [rnE_args]
theorem exprsC_rn {es : List EI} {m : Nat → Bool} {names : Names} : ∀ (n k : Nat) (sh : List (List Int)), exprsC (es.map rnE) m (rnN names) n k sh = exprsC es m names n k sh
  | 0, k, sh => rfl
  | n + 1, k, sh => by
    unfold exprsC
    rw [List.getElem?_map]
    cases m k with
    | false => exact exprsC_rn n (k + 1) sh
    | true =>
      simp only [if_true]
      cases es[k]? with
      | none => rfl
      | some e =>
        dsimp only [Option.map_some]
        rw [exprC_rn, rnE_pos]
        cases exprC e sh names with
        | inr c => rfl
        | inl s => exact exprsC_rn n (k + 1) _
theorem stmtsC_rn {es : List EI} : ∀ (ss : List SI) (names : Names) (sh : List (List Int)) (inp : Nat), (∀ s ∈ ss, s.kind = 1 ∨ s.kind = 2 ∨ s.kind = 3) → stmtsC (es.map rnE) (ss.map rnS) (rnN names) sh inp = stmtsC es ss names sh inp := by
  intro ss
  induction ss with
  | nil => intro names sh inp _; rfl
  | cons x r ih =>
    intro names sh inp h3
    have h3r := fun s hs => h3 s (List.mem_cons.2 (.inr hs))
    rw [List.map_cons]
    have e1 : (rnS x).kind = x.kind := rfl
    have e2 : (rnS x).party = x.party := rfl
    have e3 : (rnS x).name = rnB x.name := rfl
    have e4 : (rnS x).shape = x.shape := rfl
    have e5 : (rnS x).expr = x.expr := rfl
    have e6 : (rnS x).pos = x.pos := rfl
    rcases h3 x (List.mem_cons.2 (.inl rfl)) with hk | hk | hk
    · rw [stmtsC_1 _ _ _ _ (e1.trans hk), stmtsC_1 _ _ _ _ hk, e2, e3, e4, e6, takenP_rn, ← rnN_snoc, ih _ _ _ h3r]
    · rw [stmtsC_2 _ _ _ _ (e1.trans hk), stmtsC_2 _ _ _ _ hk, e3, e5, e6]
      have hw : withinP (es.map rnE) x.expr.toNat = withinP es x.expr.toNat := by
        unfold withinP
        exact markP_same (same_rn es) _ _
      rw [hw, exprsC_rn]
      cases exprsC es (withinP es x.expr.toNat) names (x.expr.toNat + 1) 0 sh with
      | inr c => rfl
      | inl sh1 =>
        dsimp only
        rw [takenP_rn, ← rnN_snoc, ih _ _ _ h3r]
    · rw [stmtsC_3 _ _ _ _ (e1.trans hk), stmtsC_3 _ _ _ _ hk, e3, e6, findN_rn, ih _ _ _ h3r]
theorem exsOk_rn : ∀ (es : List EI) (k : Nat), exsOk k (es.map rnE) = exsOk k es
  | [], k => rfl
  | e :: r, k => by
    show (exOk k (rnE e) && exsOk (k + 1) (r.map rnE)) = (exOk k e && exsOk (k + 1) r)
    rw [exsOk_rn r (k + 1)]
    unfold exOk
    rw [rnE_kind, rnE_args]
theorem all_rn (n : Nat) : ∀ ss : List SI, (ss.map rnS).all (smOk n) = ss.all (smOk n)
  | [] => rfl
  | s :: r => by
    show (smOk n (rnS s) && (r.map rnS).all (smOk n)) = (smOk n s && r.all (smOk n))
    rw [all_rn n r]
    rfl
/-- Names don't matter. -/
theorem renamed_law (ss : List SI) (es : List EI) : checkC (ss.map rnS) (es.map rnE) = checkC ss es := by
  have ht : treeP (ss.map rnS) (es.map rnE) = treeP ss es := by
    unfold treeP
    rw [exsOk_rn, List.length_map, all_rn]
  unfold checkC
  rw [ht]
  cases h : treeP ss es with
  | false => rfl
  | true =>
    simp only [if_true]
    have hsm : ss.all (smOk es.length) = true := by unfold treeP at h; rw [Bool.and_eq_true] at h; exact h.2
    rw [List.map_map]
    have := stmtsC_rn (es := es) ss [] (es.map fun _ => []) 0 (fun s hs => smOk_kind (List.all_eq_true.1 hsm s hs))
    exact this
/-- The first i are turned. -/
def mix {α : Type} (f : α → α) (l : List α) (i : Nat) : List α := (l.take i).map f ++ l.drop i
theorem mix_zero {α : Type} (f : α → α) (l : List α) : mix f l 0 = l := by unfold mix; simp
theorem mix_all {α : Type} (f : α → α) (l : List α) : mix f l l.length = l.map f := by unfold mix; rw [List.take_length, List.drop_length, List.append_nil]
theorem mix_len {α : Type} (f : α → α) (l : List α) (i : Nat) : (mix f l i).length = l.length := by
  unfold mix
  rw [List.length_append, List.length_map, List.length_take, List.length_drop]
  omega
theorem mix_at {α : Type} (f : α → α) {l : List α} {i : Nat} {x : α} (h : l[i]? = some x) : (mix f l i)[i]? = some x := by
  have hi := (List.getElem?_eq_some_iff.1 h).1
  unfold mix
  rw [List.getElem?_append_right (by rw [List.length_map, List.length_take]; omega), List.length_map, List.length_take, Nat.min_eq_left (by omega), Nat.sub_self, List.getElem?_drop]
  exact h
theorem mix_succ {α : Type} (f : α → α) {l : List α} {i : Nat} {x : α} (h : l[i]? = some x) : mix f l (i + 1) = (mix f l i).set i (f x) := by
  have hi := (List.getElem?_eq_some_iff.1 h).1
  have hx := (List.getElem?_eq_some_iff.1 h).2
  unfold mix
  rw [List.set_append_right _ _ (by rw [List.length_map, List.length_take]; omega), List.length_map, List.length_take, Nat.min_eq_left (by omega), Nat.sub_self, List.drop_eq_getElem_cons hi, hx, List.set_cons_zero, List.take_add_one, h, List.map_append, List.append_assoc]
  rfl
theorem mix_same {α : Type} (f : α → α) {l : List α} {i : Nat} {x : α} (h : l[i]? = some x) (hf : f x = x) : mix f l (i + 1) = mix f l i := by
  rw [mix_succ f h, hf]
  refine List.ext_getElem? fun k => ?_
  rw [List.getElem?_set]
  split
  · rename_i hk
    subst hk
    rw [mix_at f h, if_pos (by rw [mix_len]; exact (List.getElem?_eq_some_iff.1 h).1)]
  · rfl
theorem rnS_nil {x : SI} (h : x.name.size = 0) : rnS x = x := by unfold rnS rnB; rw [if_pos h]
theorem rnS_some {x : SI} (h : x.name.size ≠ 0) : rnS x = { x with name := ({ data := #[118] } : ByteArray) ++ x.name } := by unfold rnS rnB; rw [if_neg h]
theorem rnE_not {x : EI} (h : x.kind ≠ 2) : rnE x = x := by unfold rnE; rw [if_neg h]
theorem rnE_nil {x : EI} (h : x.name.size = 0) : rnE x = x := by
  unfold rnE
  split
  · rw [show rnB x.name = x.name from if_pos h]
  · rfl
theorem rnE_some {x : EI} (hk : x.kind = 2) (h : x.name.size ≠ 0) : rnE x = { x with name := ({ data := #[118] } : ByteArray) ++ x.name } := by unfold rnE rnB; rw [if_pos hk, if_neg h]
end Go.Proofs.YthnkeejiocnflaaGreatDoor
namespace Go.Proofs.YthnkeejiocnflaaGreatDoor
set_option linter.unusedVariables false
set_option linter.unusedSimpArgs false
open Go.RowKit
theorem ownSs_idem (ss : List SI) : ownSs (ownSs ss) = ownSs ss := by
  unfold ownSs
  rw [List.take_of_length_le (l := (ss.take 100).map ownS1) (by rw [List.length_map, List.length_take]; omega), List.map_map]
  refine List.map_congr_left fun s _ => ?_
  show ownS1 (ownS1 s) = ownS1 s
  unfold ownS1
  dsimp only
  rw [List.take_take]
  rfl
theorem ownEs_idem (es : List EI) : ownEs (ownEs es) = ownEs es := by
  unfold ownEs
  rw [List.take_of_length_le (l := (es.take 600).map ownE1) (by rw [List.length_map, List.length_take]; omega), List.map_map]
  refine List.map_congr_left fun s _ => ?_
  show ownE1 (ownE1 s) = ownE1 s
  unfold ownE1
  dsimp only
  rw [List.take_take]
  rfl
theorem ownSs_len (ss : List SI) : (ownSs ss).length ≤ 100 := by unfold ownSs; rw [List.length_map, List.length_take]; omega
theorem ownEs_len (es : List EI) : (ownEs es).length ≤ 600 := by unfold ownEs; rw [List.length_map, List.length_take]; omega
theorem ownSs_name {ss : List SI} {b : Nat} (h : ∀ s ∈ ss, s.name.size ≤ b) : ∀ s ∈ ownSs ss, s.name.size ≤ b := fun s hs => by
  unfold ownSs at hs
  obtain ⟨y, hy, rfl⟩ := List.mem_map.1 hs
  exact h y (List.mem_of_mem_take hy)
theorem ownEs_name {es : List EI} {b : Nat} (h : ∀ e ∈ es, e.name.size ≤ b) : ∀ e ∈ ownEs es, e.name.size ≤ b := fun s hs => by
  unfold ownEs at hs
  obtain ⟨y, hy, rfl⟩ := List.mem_map.1 hs
  exact h y (List.mem_of_mem_take hy)
/-- Both cells of a tree's block are stored. -/
theorem store_tree {W : World} {b : Nat} {a a' : Value} (h : W.heap[b]? = some (.cells #[a, a'] 29 (0, 0))) (x y : Value) :
    ((W.setCell ⟨b, 0, none⟩ x).setCell ⟨b, 1, none⟩ y).heap[b]? = some (.cells #[x, y] 29 (0, 0)) ∧
    (∀ {B c : Nat} {A : Option Addr} {l : List SI}, OwnSI W B A c l → OwnSI ((W.setCell ⟨b, 0, none⟩ x).setCell ⟨b, 1, none⟩ y) B A c l) ∧
    (∀ {B c : Nat} {A : Option Addr} {l : List EI}, OwnEI W B A c l → OwnEI ((W.setCell ⟨b, 0, none⟩ x).setCell ⟨b, 1, none⟩ y) B A c l) ∧
    (∀ {B : Nat} {W0 : World}, Below B W0 W → B ≤ b → Below B W0 ((W.setCell ⟨b, 0, none⟩ x).setCell ⟨b, 1, none⟩ y)) := by
  have e1 : (W.setCell ⟨b, 0, none⟩ x).heap[b]? = some (.cells #[x, a'] 29 (0, 0)) := heap_setCell_same _ _ _ _ _ _ h
  exact ⟨heap_setCell_same _ _ _ _ _ _ e1, fun r => (r.other h (by decide) (by decide) x).other e1 (by decide) (by decide) y, fun r => (r.other h (by decide) (by decide) x).other e1 (by decide) (by decide) y, fun hb hB => setCell_below (setCell_below hb hB x) hB y⟩
theorem tree_facts {W : World} {b : Nat} {a a' : Value} (h : W.heap[b]? = some (.cells #[a, a'] 29 (0, 0))) : W.cell? ⟨b, 0, none⟩ = some a ∧ W.cell? ⟨b, 1, none⟩ = some a' ∧ (∀ k, W.frozen? ⟨b, k, none⟩ = false) ∧ b < W.heap.size :=
  ⟨cell_of_row _ _ 0 _ _ _ h, cell_of_row _ _ 1 _ _ _ h, fun k => by simp [World.frozen?, h], (Array.getElem?_eq_some_iff.1 h).1⟩
set_option maxRecDepth 100000 in
set_option maxHeartbeats 8000000 in
theorem CheckRenamed_walk (w : World) (hg : ETyped w) (ht : ErrT w) (SA : Option Addr) (sc : Nat) (ss : List SI) (EA : Option Addr) (ec : Nat) (es : List EI) (hs1 : ss.length ≤ sc) (hs2 : sc ≤ maxLen) (he1 : es.length ≤ ec) (he2 : ec ≤ maxLen)
    (hS : RdSI w w.heap.size SA ss) (hE : RdEI w w.heap.size EA es) (hns : ∀ s ∈ ss, s.name.size ≤ 140737488351232) (hne : ∀ e ∈ es, e.name.size ≤ 140737488351232 ∧ e.num ≤ 18446744073709551615) :
    Calls Tryz.prog 8 #[.agg #[.slice SA ss.length sc, .slice EA es.length ec]] w fun e w' => e = .returned (.bool true) ∧ Below w.heap.size w w' := by
  obtain ⟨ns, hn1⟩ : ∃ ns, ns = ss.length := ⟨_, rfl⟩
  obtain ⟨ne, hn2⟩ : ∃ ne, ne = es.length := ⟨_, rfl⟩
  have hls := Lib.hid hn1
  have hle := Lib.hid hn2
  have hns' : ns ≤ 9223372036854775807 := by rw [hn1]; simp only [maxLen] at hs2; omega
  have hne' : ne ≤ 9223372036854775807 := by rw [hn2]; simp only [maxLen] at he2; omega
  rw [← hn1, ← hn2]
  have HS := Lib.hid hS
  have HE := Lib.hid hE
  have HNS := Lib.hid hns
  have HNE := Lib.hid hne
  have HG := Lib.hid hg
  have HT := Lib.hid ht
  clear hn1 hn2 hs1 hs2 he1 he2 hS hE hns hne hg ht
  go_enter Tryz.func8, Tryz.ntmps8
  go_wp2_with fail
  obtain ⟨w1, hw1⟩ : ∃ w1, w1 = w.alloc (.cells #[.slice SA ns sc, .slice EA ne ec] 29) := ⟨_, rfl⟩
  rw [← hw1]
  have hb1 : Below w.heap.size w w1 := by rw [hw1]; exact (Below.refl _ _).alloc (Nat.le_refl _) _
  have hT1 : w1.heap[w.heap.size]? = some (.cells #[.slice SA ns sc, .slice EA ne ec] 29 (0, 0)) := by rw [hw1]; exact heap_alloc_new w _
  obtain ⟨tb, htb⟩ : ∃ tb, tb = w.heap.size := ⟨_, rfl⟩
  rw [← htb] at hT1 ⊢
  refine (cawake_true w1 (HG.out.next hb1) (HT.out.next hb1)).mono ?_
  rintro e w2 ⟨rfl, hb2⟩
  have hT2 := (hb2.block _ (Array.getElem?_eq_some_iff.1 hT1).1).trans hT1
  have HB2 := Lib.hid (bnext hb1 hb2)
  have HTB2 := Lib.hid hT2
  have HLE := Lib.hid (show w.heap.size ≤ tb from Nat.le_of_eq htb.symm)
  have HS2 := Lib.hid (HS.out.next HB2.out)
  have HE2 := Lib.hid (HE.out.next HB2.out)
  obtain ⟨z0, z1, zf, zl⟩ := tree_facts hT2
  clear hw1 hb1 hT1 hb2 hT2 htb
  go_wp2_with fail
  refine (own_any SA EA ns ne sc ec ss es w2 hls.out hle.out hns' hne' HS2.out HE2.out).mono ?_
  rintro e w3 ⟨hb3, TA, tc, XA, xc, rfl, oT, oX⟩
  obtain ⟨ts, hts⟩ : ∃ ts, ts = ownSs ss := ⟨_, rfl⟩
  obtain ⟨xs, hxs⟩ : ∃ xs, xs = ownEs es := ⟨_, rfl⟩
  have HTS := Lib.hid (show ownSs ts = ts from by rw [hts]; exact ownSs_idem ss)
  have HXS := Lib.hid (show ownEs xs = xs from by rw [hxs]; exact ownEs_idem es)
  have HTN := Lib.hid (show ∀ s ∈ ts, s.name.size ≤ 140737488351232 from by rw [hts]; exact ownSs_name HNS.out)
  have HXN := Lib.hid (show ∀ s ∈ xs, s.name.size ≤ 140737488351232 from by rw [hxs]; exact ownEs_name fun e he => (HNE.out e he).1)
  obtain ⟨nt, hnt⟩ : ∃ nt, nt = ts.length := ⟨_, rfl⟩
  obtain ⟨nx, hnx⟩ : ∃ nx, nx = xs.length := ⟨_, rfl⟩
  have hnt1 : nt ≤ 100 := by rw [hnt, hts]; exact ownSs_len ss
  have hnx1 : nx ≤ 600 := by rw [hnx, hxs]; exact ownEs_len es
  rw [← hts] at oT
  rw [← hxs] at oX
  rw [← hts, ← hxs, ← hnt, ← hnx]
  have HNT := Lib.hid hnt
  have HNX := Lib.hid hnx
  have hT3 := (hb3.block _ zl).trans HTB2.out
  have HB3 := Lib.hid (bnext HB2.out hb3)
  clear z0 z1 zf zl hts hxs hnt hnx
  obtain ⟨z0, z1, zf, zl⟩ := tree_facts hT3
  obtain ⟨s1, s2, s3, s4⟩ := store_tree hT3 (.slice TA nt tc) (.slice XA nx xc)
  have HO4 := Lib.hid (s2 oT)
  have HX4 := Lib.hid (s3 oX)
  have HT4 := Lib.hid s1
  have HB4 := Lib.hid (s4 HB3.out HLE.out)
  clear s1 s2 s3 s4 hb3 oT oX hT3
  go_wp2_with fail
  obtain ⟨w4, hw4⟩ : ∃ w4, w4 = (w3.setCell ⟨tb, 0, none⟩ (.slice TA nt tc)).setCell ⟨tb, 1, none⟩ (.slice XA nx xc) := ⟨_, rfl⟩
  rw [← hw4] at HO4 HX4 HT4 HB4 ⊢
  clear hw4 z0 z1 zf zl
  refine (own_any TA XA nt nx tc xc ts xs w4 HNT.out HNX.out (by omega) (by omega) HO4.out.rd HX4.out.rd).mono ?_
  rintro e w5 ⟨hb5, UA, uc, VA, vc, rfl, oU, oV⟩
  rw [HTS.out, HXS.out, ← HNT.out, ← HNX.out]
  rw [HTS.out] at oU
  rw [HXS.out] at oV
  obtain ⟨w6, hw6⟩ : ∃ w6, w6 = w5.alloc (.cells #[.slice UA nt uc, .slice VA nx vc] 29) := ⟨_, rfl⟩
  have hb6 : Below w5.heap.size w5 w6 := by rw [hw6]; exact (Below.refl _ _).alloc (Nat.le_refl _) _
  have hU6 : w6.heap[w5.heap.size]? = some (.cells #[.slice UA nt uc, .slice VA nx vc] 29 (0, 0)) := by rw [hw6]; exact heap_alloc_new w5 _
  have HB46 := Lib.hid (bnext hb5 hb6)
  have HU6 := Lib.hid (oU.next hb6)
  have HV6 := Lib.hid (oV.next hb6)
  have hub : w4.heap.size ≤ w5.heap.size := hb5.size
  go_upto_region 5 with fail
  rw [← hw6]
  obtain ⟨ub, hubd⟩ : ∃ ub, ub = w5.heap.size := ⟨_, rfl⟩
  rw [← hubd] at hU6 hub ⊢
  have HUB6 := Lib.hid hU6
  clear hw6 hb5 hb6 oU oV hU6 hubd
  obtain ⟨u0, u1, uf, ul⟩ := tree_facts HUB6.out
  go_wp2_with fail
  go_loopw [23] (fun iv wr => ∃ i : Nat, i ≤ nt ∧ iv = .int .i64 i ∧ Below w4.heap.size w4 wr ∧ OwnSI wr w4.heap.size UA uc (mix rnS ts i) ∧ OwnEI wr w4.heap.size VA vc xs ∧ wr.heap[ub]? = some (.cells #[.slice UA nt uc, .slice VA nx vc] 29 (0, 0))) (fun iv _ => nt - (intOf iv).toNat)
  case atStart => exact ⟨0, by omega, rfl, HB46.out, by rw [mix_zero]; exact HU6.out, HV6.out, HUB6.out⟩
  case round =>
    obtain ⟨i, hi, rfl, hB, hO, hV, hub9⟩ := hrel
    obtain ⟨u0, u1, uf, ul⟩ := tree_facts hub9
    have HB := Lib.hid hB
    have HV := Lib.hid hV
    have HUB := Lib.hid hub9
    clear hB hV hub9
    by_cases hlt : i < nt
    · have ht : ts[i]? = some (ts[i]'(by rw [← HNT.out]; exact hlt)) := List.getElem?_eq_getElem _
      obtain ⟨x, hx⟩ : ∃ x, x = ts[i]'(by rw [← HNT.out]; exact hlt) := ⟨_, rfl⟩
      rw [← hx] at ht
      have hm := mix_at rnS ht
      obtain ⟨b, o, hUA, hbl, hat⟩ := hO.rd.at_ hm
      obtain ⟨ug, cur, hU2⟩ : ∃ ug cur, UA = some ⟨ug, 0, none⟩ ∧ w4.heap.size ≤ ug ∧ wr.heap[ug]? = some (.cells cur 46 (0, 0)) := by
        rcases hO.form with e | h
        · rw [e] at hUA; cases hUA
        · exact h
      obtain ⟨rfl, hvb, hvc⟩ := hU2
      injection hUA with hUA
      injection hUA with hUA1 hUA2
      subst hUA1 hUA2
      have c2 := hat.c2
      rw [Nat.zero_add] at c2
      have cf : ∀ k, wr.frozen? ⟨ug, k, none⟩ = false := fun k => by simp [World.frozen?, hvc]
      have i0 : (0 : Int) ≤ (i : Int) := by omega
      have i1 : (i : Int) < (nt : Int) := by omega
      have hsz := HTN.out x (List.mem_of_getElem? ht)
      have HO := Lib.hid hO
      have HX := Lib.hid ht
      have HM := Lib.hid hm
      have HVC := Lib.hid hvc
      have hne : ub ≠ ug := fun e => by
        have h1 := HUB.out
        rw [e, hvc] at h1
        injection h1 with h1
        injection h1 with _ h1 _
        exact absurd h1 (by decide)
      have HNE2 := Lib.hid hne
      clear hO ht hx hm hat hbl hvc hne
      by_cases hz : x.name.size = 0
      · have q1 : x.name.toList.isEmpty = true := by rw [size_beq, hz]; rfl
        have HZ := Lib.hid hz
        clear hz
        go_wp2
        exact ⟨⟨i + 1, by omega, rfl, HB.out, by rw [mix_same rnS HX.out (rnS_nil HZ.out)]; exact HO.out, HV.out, HUB.out⟩, by simp [intOf]; omega⟩
      · have q1 : x.name.toList.isEmpty = false := by rw [size_beq, beq_eq_false_iff_ne.2 hz]
        have HZ := Lib.hid hz
        clear hz
        go_wp2
        go_region
        obtain ⟨w8, hw8⟩ : ∃ w8, w8 = (wr.setCell ⟨ug, i * 6 + 2, none⟩ (.string ({ data := #[118] } ++ x.name))).drew := ⟨_, rfl⟩
        rw [← hw8]
        have HB8 := Lib.hid (show Below w4.heap.size w4 w8 from by rw [hw8]; exact (setCell_below HB.out hvb _).drew)
        have HO8 := Lib.hid (show OwnSI w8 w4.heap.size (some ⟨ug, 0, none⟩) uc (mix rnS ts (i + 1)) from by rw [hw8, mix_succ rnS HX.out, rnS_some HZ.out]; exact HO.out.name HM.out _)
        have HV8 := Lib.hid (show OwnEI w8 w4.heap.size VA vc xs from by rw [hw8]; exact HV.out.other HVC.out (by decide) (by decide) _)
        have HUB8 := Lib.hid (show w8.heap[ub]? = some (.cells #[.slice (some ⟨ug, 0, none⟩) nt uc, .slice VA nx vc] 29 (0, 0)) from by rw [hw8]; exact (Below.heap_setCell wr ⟨ug, i * 6 + 2, none⟩ _ ub HNE2.out).trans HUB.out)
        clear hw8 u0 u1 uf ul c2 cf
        go_wp2
        exact ⟨⟨i + 1, by omega, rfl, HB8.out, HO8.out, HV8.out, HUB8.out⟩, by simp [intOf]; omega⟩
    · obtain rfl : nt = i := by omega
      obtain ⟨wo, rfl⟩ : ∃ wo, wo = wr := ⟨_, rfl⟩
      have HO := Lib.hid (show OwnSI wo w4.heap.size UA uc (ts.map rnS) from by have h := hO; rw [HNT.out, mix_all] at h; exact h)
      clear hO hlt
      go_wp2_with fail
      go_loopw [49] (fun iv wr => ∃ i : Nat, i ≤ nx ∧ iv = .int .i64 i ∧ Below w4.heap.size w4 wr ∧ OwnSI wr w4.heap.size UA uc (ts.map rnS) ∧ OwnEI wr w4.heap.size VA vc (mix rnE xs i) ∧ wr.heap[ub]? = some (.cells #[.slice UA nt uc, .slice VA nx vc] 29 (0, 0))) (fun iv _ => nx - (intOf iv).toNat)
      case atStart => exact ⟨0, by omega, rfl, HB.out, HO.out, by rw [mix_zero]; exact HV.out, HUB.out⟩
      case round =>
        obtain ⟨i, hi, rfl, hB, hO2, hV2, hub9⟩ := hrel
        obtain ⟨u0, u1, uf, ul⟩ := tree_facts hub9
        have HB2' := Lib.hid hB
        have HO2 := Lib.hid hO2
        have HUB2 := Lib.hid hub9
        clear hB hO2 hub9
        by_cases hlt : i < nx
        · have ht : xs[i]? = some (xs[i]'(by rw [← HNX.out]; exact hlt)) := List.getElem?_eq_getElem _
          obtain ⟨x, hx⟩ : ∃ x, x = xs[i]'(by rw [← HNX.out]; exact hlt) := ⟨_, rfl⟩
          rw [← hx] at ht
          have hm := mix_at rnE ht
          obtain ⟨b, o, hUA, hbl, hat⟩ := hV2.rd.at_ hm
          obtain ⟨ug, cur, hU2⟩ : ∃ ug cur, VA = some ⟨ug, 0, none⟩ ∧ w4.heap.size ≤ ug ∧ wr.heap[ug]? = some (.cells cur 41 (0, 0)) := by
            rcases hV2.form with e | h
            · rw [e] at hUA; cases hUA
            · exact h
          obtain ⟨rfl, hvb, hvc⟩ := hU2
          injection hUA with hUA
          injection hUA with hUA1 hUA2
          subst hUA1 hUA2
          have c0 := hat.c0
          have c1 := hat.c1
          rw [Nat.zero_add] at c0 c1
          have cf : ∀ k, wr.frozen? ⟨ug, k, none⟩ = false := fun k => by simp [World.frozen?, hvc]
          have i0 : (0 : Int) ≤ (i : Int) := by omega
          have i1 : (i : Int) < (nx : Int) := by omega
          have hsz := HXN.out x (List.mem_of_getElem? ht)
          have HV2 := Lib.hid hV2
          have HX := Lib.hid ht
          have HM := Lib.hid hm
          have HVC := Lib.hid hvc
          have hne : ub ≠ ug := fun e => by
            have h1 := HUB2.out
            rw [e, hvc] at h1
            injection h1 with h1
            injection h1 with _ h1 _
            exact absurd h1 (by decide)
          have HNE2 := Lib.hid hne
          clear hV2 ht hx hm hat hbl hvc hne
          by_cases hk : x.kind = 2
          · have qk : (x.kind == 2) = true := by rw [beq_iff_eq]; exact hk
            have HK := Lib.hid hk
            clear hk
            by_cases hz : x.name.size = 0
            · have q1 : x.name.toList.isEmpty = true := by rw [size_beq, hz]; rfl
              have HZ := Lib.hid hz
              clear hz
              go_wp2
              exact ⟨⟨i + 1, by omega, rfl, HB2'.out, HO2.out, by rw [mix_same rnE HX.out (rnE_nil HZ.out)]; exact HV2.out, HUB2.out⟩, by simp [intOf]; omega⟩
            · have q1 : x.name.toList.isEmpty = false := by rw [size_beq, beq_eq_false_iff_ne.2 hz]
              have HZ := Lib.hid hz
              clear hz
              go_wp2
              go_region
              obtain ⟨w8, hw8⟩ : ∃ w8, w8 = (wr.setCell ⟨ug, i * 5 + 1, none⟩ (.string ({ data := #[118] } ++ x.name))).drew := ⟨_, rfl⟩
              rw [← hw8]
              have HB8 := Lib.hid (show Below w4.heap.size w4 w8 from by rw [hw8]; exact (setCell_below HB2'.out hvb _).drew)
              have HV8 := Lib.hid (show OwnEI w8 w4.heap.size (some ⟨ug, 0, none⟩) vc (mix rnE xs (i + 1)) from by rw [hw8, mix_succ rnE HX.out, rnE_some HK.out HZ.out]; exact HV2.out.name HM.out _)
              have HO8 := Lib.hid (show OwnSI w8 w4.heap.size UA uc (ts.map rnS) from by rw [hw8]; exact HO2.out.other HVC.out (by decide) (by decide) _)
              have HUB8 := Lib.hid (show w8.heap[ub]? = some (.cells #[.slice UA nt uc, .slice (some ⟨ug, 0, none⟩) nx vc] 29 (0, 0)) from by rw [hw8]; exact (Below.heap_setCell wr ⟨ug, i * 5 + 1, none⟩ _ ub HNE2.out).trans HUB2.out)
              clear hw8 u0 u1 uf ul c0 c1 cf
              go_wp2
              exact ⟨⟨i + 1, by omega, rfl, HB8.out, HO8.out, HV8.out, HUB8.out⟩, by simp [intOf]; omega⟩
          · have qk : (x.kind == 2) = false := beq_eq_false_iff_ne.2 hk
            have HK := Lib.hid hk
            clear hk
            go_wp2
            exact ⟨⟨i + 1, by omega, rfl, HB2'.out, HO2.out, by rw [mix_same rnE HX.out (rnE_not HK.out)]; exact HV2.out, HUB2.out⟩, by simp [intOf]; omega⟩
        · obtain rfl : nx = i := by omega
          obtain ⟨wp, rfl⟩ : ∃ wp, wp = wr := ⟨_, rfl⟩
          have HV9 := Lib.hid (show OwnEI wp w4.heap.size VA vc (xs.map rnE) from by have h := hV2; rw [HNX.out, mix_all] at h; exact h)
          have HT9 := Lib.hid ((HB2'.out.block _ (Array.getElem?_eq_some_iff.1 HT4.out).1).trans HT4.out)
          have HTS9 := Lib.hid (HO4.out.rd.next HB2'.out)
          have HTX9 := Lib.hid (HX4.out.rd.next HB2'.out)
          have HB9 := Lib.hid (bnext HB4.out HB2'.out)
          have HG9 := Lib.hid (HG.out.next HB9.out)
          have HUS := Lib.hid (show nt = (ts.map rnS).length from by rw [List.length_map]; exact HNT.out)
          have HUX := Lib.hid (show nx = (xs.map rnE).length from by rw [List.length_map]; exact HNX.out)
          clear hV2 hlt u0 u1 uf ul
          obtain ⟨t0, t1, tf, tl⟩ := tree_facts HT9.out
          go_wp2_with fail
          refine (check_any TA XA nt nx tc xc ts xs wp HNT.out HNX.out (by omega) (by omega) HTS9.out HTX9.out HG9.out).mono ?_
          have HCU := Lib.hid (fun W (hW : Below wp.heap.size wp W) => check_any UA VA nt nx uc vc (ts.map rnS) (xs.map rnE) W HUS.out HUX.out (by omega) (by omega) (HO2.out.rd.next hW) (HV9.out.rd.next hW) (HG9.out.next hW))
          have HUBW := Lib.hid (fun W (hW : Below wp.heap.size wp W) => (hW.block _ (Array.getElem?_eq_some_iff.1 HUB2.out).1).trans HUB2.out)
          rw [renamed_law] at HCU
          clear t0 t1 tf tl
          cases hc : checkC ts xs with
          | inl sh =>
            rw [hc] at HCU
            rintro e w10 ⟨hb10, q, rfl, hO10⟩
            obtain ⟨u0, u1, uf, ul⟩ := tree_facts (HUBW.out _ hb10)
            have hshl := Lib.hid (show nx = sh.length from by rw [HNX.out, checkC_len hc])
            have HB10 := Lib.hid (bnext HB9.out hb10)
            have HR10 := Lib.hid hO10.rd
            have HC10 := Lib.hid (HCU.out _ hb10)
            clear hb10 hO10 hc
            go_wp2_with fail
            refine HC10.out.mono ?_
            rintro e w11 ⟨hb11, q2, rfl, hO11⟩
            have HB11 := Lib.hid (bnext HB10.out hb11)
            have HR11 := Lib.hid (HR10.out.next hb11)
            have HQ11 := Lib.hid hO11.rd
            clear hb11 hO11 u0 u1 uf ul
            go_wp2_with fail
            refine (At_nil _).mono ?_
            rintro e w12 ⟨rfl, hb12⟩
            have HB12 := Lib.hid (bnext HB11.out hb12)
            have HR12 := Lib.hid (HR11.out.next hb12)
            have HQ12 := Lib.hid (HQ11.out.next hb12)
            clear hb12
            go_wp2_with fail
            refine (At_nil _).mono ?_
            rintro e w13 ⟨rfl, hb13⟩
            have HB13 := Lib.hid (bnext HB12.out hb13)
            have HR13 := Lib.hid (HR12.out.next hb13)
            have HQ13 := Lib.hid (HQ12.out.next hb13)
            clear hb13
            go_wp2_with fail
            refine (same_any (some ⟨q, 0, none⟩) (some ⟨q2, 0, none⟩) nx nx nx nx sh sh w13 hshl.out hshl.out (by omega) (by omega) HR13.out HQ13.out).mono ?_
            rintro e w14 ⟨rfl, hb14⟩
            have HB14 := Lib.hid (bnext HB13.out hb14)
            clear hb14
            go_wp2
            go_ret
            exact ⟨by first | rfl | simp, HB14.out⟩
          | inr cp =>
            obtain ⟨c, p⟩ := cp
            rw [hc] at HCU
            rintro e w10 ⟨hb10, v, rfl, hv⟩
            obtain ⟨u0, u1, uf, ul⟩ := tree_facts (HUBW.out _ hb10)
            have HB10 := Lib.hid (bnext HB9.out hb10)
            have HV10 := Lib.hid hv
            have HG10 := Lib.hid (HG9.out.next hb10)
            have HC10 := Lib.hid (HCU.out _ hb10)
            obtain ⟨ti, xi, rfl⟩ := hv.iface
            clear hb10 hc hv
            go_wp2_with fail
            refine HC10.out.mono ?_
            rintro e w11 ⟨hb11, v2, rfl, hv2⟩
            have HB11 := Lib.hid (bnext HB10.out hb11)
            have HV11 := Lib.hid (HV10.out.next hb11)
            have HG11 := Lib.hid (HG10.out.next hb11)
            have HY11 := Lib.hid hv2
            obtain ⟨tj, xj, rfl⟩ := hv2.iface
            clear hb11 u0 u1 uf ul hv2
            go_wp2_with fail
            refine (At_one chkN p c _ _ HG11.out HV11.out).mono ?_
            rintro e w12 ⟨rfl, hb12⟩
            have HB12 := Lib.hid (bnext HB11.out hb12)
            have HG12 := Lib.hid (HG11.out.next hb12)
            have HY12 := Lib.hid (HY11.out.next hb12)
            clear hb12
            go_wp2_with fail
            refine (At_one chkN p c _ _ HG12.out HY12.out).mono ?_
            rintro e w13 ⟨rfl, hb13⟩
            have HB13 := Lib.hid (bnext HB12.out hb13)
            clear hb13
            have q1 : ((c : Int) == (c : Int)) = true := by simp
            have q2 : (p == p) = true := by simp
            cases q3 : ((c : Int) == 130) with
            | true =>
              go_wp2_with fail
              refine (same_any none none 0 0 0 0 [] [] w13 rfl rfl (by omega) (by omega) (.inl rfl) (.inl rfl)).mono ?_
              rintro e w14 ⟨rfl, hb14⟩
              have HB14 := Lib.hid (bnext HB13.out hb14)
              clear hb14
              go_wp2
              go_ret
              exact ⟨by first | rfl | simp, HB14.out⟩
            | false =>
              go_wp2_with fail
              refine (same_any none none 0 0 0 0 [] [] w13 rfl rfl (by omega) (by omega) (.inl rfl) (.inl rfl)).mono ?_
              rintro e w14 ⟨rfl, hb14⟩
              have HB14 := Lib.hid (bnext HB13.out hb14)
              clear hb14
              go_wp2
              go_ret
              exact ⟨by first | rfl | simp, HB14.out⟩
end Go.Proofs.YthnkeejiocnflaaGreatDoor
