/-
  The checker at a tree with one name that isn't there; at a tree with two statements more. No program. A parsed tree that is typed is the one that the law's Own makes of it. No program.
-/
import Derived.Test.YthnkeejiocnflaaGreatDoorQChkV
import Derived.Test.YthnkeejiocnflaaGreatDoorQChkS
import Derived.Test.YthnkeejiocnflaaGreatDoorQToksL
import Derived.Test.YthnkeejiocnflaaGreatDoorQOwnT
namespace Go.Proofs.YthnkeejiocnflaaGreatDoor
set_option linter.unusedVariables false
set_option linter.unusedSimpArgs false
open Go.RowKit
/-! ### What lies within -/
/-- Arguments stand ahead. -/
def Ahead (es : List EI) : Prop := ∀ (i : Nat) (e : EI), es[i]? = some e → ∀ b ∈ e.args, 0 ≤ b ∧ b < (i : Int)
theorem exsOk_ix : ∀ (es : List EI) (k : Nat), exsOk k es = true → ∀ (i : Nat) (e : EI), es[i]? = some e → exOk (k + i) e = true
  | [], _, _, i, e, h => by simp at h
  | x :: r, k, h, i, e, he => by
    unfold exsOk at h
    rw [Bool.and_eq_true] at h
    cases i with
    | zero =>
      simp only [List.getElem?_cons_zero, Option.some.injEq] at he
      subst he
      exact h.1
    | succ i =>
      rw [List.getElem?_cons_succ] at he
      have := exsOk_ix r (k + 1) h.2 i e he
      rwa [Nat.add_right_comm, Nat.add_assoc] at this
theorem exsOk_ahead {es : List EI} (h : exsOk 0 es = true) : Ahead es := by
  intro i e he b hb
  have h1 := exsOk_ix es 0 h i e he
  unfold exOk at h1
  rw [Bool.and_eq_true] at h1
  have h2 := List.all_eq_true.1 h1.2 b hb
  unfold argOk at h2
  rw [Bool.and_eq_true] at h2
  have h3 := of_decide_eq_true h2.1
  have h4 := of_decide_eq_true h2.2
  omega
/-- What a step of the marking leaves. -/
def stepM (es : List EI) (n : Nat) (m : Nat → Bool) : Nat → Bool := fun a => m a || (m n && ((es[n]?.map EI.args).getD []).any fun b => b == (a : Int))
theorem markP_succ (es : List EI) (root n : Nat) (m : Nat → Bool) : markP es root (n + 1) m = markP es root n (stepM es n m) := rfl
theorem stepM_false {es : List EI} {n a : Nat} {m : Nat → Bool} (h : Ahead es) (ha : n ≤ a) : stepM es n m a = m a := by
  unfold stepM
  have : (((es[n]?.map EI.args).getD []).any fun b => b == (a : Int)) = false := by
    rw [List.any_eq_false]
    intro b hb
    cases he : es[n]? with
    | none => rw [he] at hb; simp at hb
    | some e =>
      rw [he] at hb
      have := (h n e he b hb).2
      simp only [beq_iff_eq]
      omega
  rw [this, Bool.and_false, Bool.or_false]
theorem markP_at {es : List EI} {root : Nat} (h : Ahead es) : ∀ (n : Nat) (m : Nat → Bool) (j : Nat), n ≤ j + 1 → markP es root n m j = m j
  | 0, m, j, _ => rfl
  | n + 1, m, j, hj => by rw [markP_succ, markP_at h n _ j (by omega), stepM_false h (by omega)]
theorem markP_closed {es : List EI} {root : Nat} (h : Ahead es) : ∀ (n : Nat) (m : Nat → Bool) (j : Nat) (e : EI) (b : Nat), j < n → markP es root n m j = true → es[j]? = some e → (b : Int) ∈ e.args → markP es root n m b = true
  | 0, m, j, e, b, hj, _, _, _ => by omega
  | n + 1, m, j, e, b, hj, hm, he, hb => by
    rw [markP_succ] at hm ⊢
    by_cases hn : j = n
    · subst hn
      rw [markP_at h j _ j (by omega), stepM_false h (Nat.le_refl _)] at hm
      refine markP_mono _ _ ?_
      unfold stepM
      rw [hm, he]
      simp only [Option.map_some, Option.getD_some, Bool.true_and, Bool.or_eq_true]
      exact .inr (List.any_eq_true.2 ⟨_, hb, by simp⟩)
    · exact markP_closed h n _ j e b (by omega) hm he hb
theorem of_getElem {es : List Ex} {i : Nat} {e : Ex} (h : es[i]? = some e) : (es.map EI.of)[i]? = some (EI.of e) := by rw [List.getElem?_map, h]; rfl
theorem within_block {es : List Ex} {a root : Nat} (h : TrL es a (root + 1) [root]) (ho : Ahead (es.map EI.of)) : ∀ (k i : Nat), i + k = root → a ≤ i → withinP (es.map EI.of) root i = true := by
  intro k
  induction k using Nat.strongRecOn with
  | _ k ih =>
    intro i hk ha
    by_cases hr : i = root
    · rw [hr]; exact within_root _ _
    · rcases h.cover i ha (by omega) with hi | ⟨j, e, h1, h2, h3, h4⟩
      · exact absurd (List.mem_singleton.1 hi) hr
      · have hj := ih (root - j) (by omega) j (by omega) (by omega)
        unfold withinP at hj ⊢
        exact markP_closed ho (root + 1) _ j (EI.of e) i (by omega) hj (of_getElem h3) (List.mem_map.2 ⟨i, h4, rfl⟩)
/-! ### One name that isn't there -/
def renE (n : ByteArray) (e : EI) : EI := { e with name := n }
def SameArgs (es es' : List EI) : Prop := ∀ i : Nat, (es'[i]?.map EI.args) = (es[i]?.map EI.args)
theorem markP_same {es es' : List EI} (h : SameArgs es es') {root : Nat} : ∀ (n : Nat) (m : Nat → Bool), markP es' root n m = markP es root n m
  | 0, m => rfl
  | n + 1, m => by
    rw [markP_succ, markP_succ, markP_same h n]
    congr 1
    unfold stepM
    rw [h n]
theorem set_same (es : List EI) (j : Nat) (e : EI) (nm : ByteArray) (he : es[j]? = some e) : SameArgs es (es.set j (renE nm e)) := by
  intro i
  rw [List.getElem?_set]
  split
  · rename_i hi
    subst hi
    rw [he, if_pos (List.getElem?_eq_some_iff.1 he).1]
    rfl
  · rfl
theorem exsC_broken {es : List EI} {m : Nat → Bool} {names : Names} {j : Nat} {e : EI} {nm : ByteArray} (he : es[j]? = some e) (hk : e.kind = 2) (hn : findN names nm = none) :
    ∀ (n k : Nat) (sh sh' : List (List Int)), exprsC es m names n k sh = .inl sh' →
      (m j = true ∧ k ≤ j ∧ j < k + n → exprsC (es.set j (renE nm e)) m names n k sh = .inr (140, e.pos)) ∧ (¬ (m j = true ∧ k ≤ j ∧ j < k + n) → exprsC (es.set j (renE nm e)) m names n k sh = .inl sh')
  | 0, k, sh, sh', h => ⟨fun h' => by omega, fun _ => h⟩
  | n + 1, k, sh, sh', h => by
    have ih := exsC_broken (m := m) he hk hn n (k + 1)
    unfold exprsC at h ⊢
    by_cases hm : m k = true
    · rw [if_pos hm] at h ⊢
      by_cases hkj : k = j
      · subst hkj
        have e1 : (es.set k (renE nm e))[k]? = some (renE nm e) := by
          rw [List.getElem?_set_self (List.getElem?_eq_some_iff.1 he).1]
        have e2 : exprC (renE nm e) sh names = .inr 140 := by
          unfold exprC
          rw [if_pos (show (renE nm e).kind = 2 from hk)]
          show (match findN names nm with | none => _ | some s => _) = _
          rw [hn]
        refine ⟨fun _ => ?_, fun h' => absurd ⟨hm, Nat.le_refl _, by omega⟩ h'⟩
        rw [e1]
        dsimp only
        rw [e2]
        rfl
      · have e1 : (es.set j (renE nm e))[k]? = es[k]? := List.getElem?_set_ne (Ne.symm hkj)
        rw [e1]
        cases hx : es[k]? with
        | none =>
          rw [hx] at h
          dsimp only at h ⊢
          refine ⟨fun h' => ?_, fun _ => h⟩
          have := (List.getElem?_eq_some_iff.1 he).1
          have := List.getElem?_eq_none_iff.1 hx
          omega
        | some x =>
          rw [hx] at h
          dsimp only at h ⊢
          cases hc : exprC x sh names with
          | inr c => rw [hc] at h; cases h
          | inl s =>
            rw [hc] at h
            dsimp only at h ⊢
            have := ih _ _ h
            exact ⟨fun h' => this.1 ⟨h'.1, by omega, by omega⟩, fun h' => this.2 (fun q => h' ⟨q.1, by omega, by omega⟩)⟩
    · rw [if_neg hm] at h ⊢
      have := ih _ _ h
      refine ⟨fun h' => this.1 ⟨h'.1, ?_, by omega⟩, fun h' => this.2 (fun q => h' ⟨q.1, by omega, by omega⟩)⟩
      rcases Nat.lt_or_ge k j with h1 | h1
      · omega
      · have : k = j := by omega
        subst this
        exact absurd h'.1 hm
theorem findN_app (names : Names) (t n : ByteArray) (s : List Int) (h : t.toList ≠ n.toList) : findN (names ++ [(t, s)]) n = findN names n := by
  induction names with
  | nil => show (if t.toList = n.toList then _ else _) = _; rw [if_neg h]
  | cons p r ih =>
    obtain ⟨t', s'⟩ := p
    show (if t'.toList = n.toList then _ else findN (r ++ [(t, s)]) n) = (if t'.toList = n.toList then _ else findN r n)
    rw [ih]
theorem stmtsC_broken {es : List EI} {j : Nat} {e : EI} {nm : ByteArray} (he : es[j]? = some e) (hk : e.kind = 2) : ∀ (ss : List SI) (names : Names) (sh sh' : List (List Int)) (inp : Nat),
    (∀ s ∈ ss, s.kind = 1 ∨ s.kind = 2 ∨ s.kind = 3) → (∀ s ∈ ss, s.name.toList ≠ nm.toList) → findN names nm = none → (∃ s ∈ ss, s.kind = 2 ∧ j ≤ s.expr.toNat ∧ withinP es s.expr.toNat j = true) → stmtsC es ss names sh inp = .inl sh' →
    stmtsC (es.set j (renE nm e)) ss names sh inp = .inr (140, e.pos) := by
  intro ss
  induction ss with
  | nil => intro names sh sh' inp _ _ _ ⟨s, hs, _⟩; cases hs
  | cons x r ih =>
    intro names sh sh' inp h3 hne hn hx h
    have hw : ∀ root, withinP (es.set j (renE nm e)) root = withinP es root := fun root => by
      unfold withinP
      exact markP_same (set_same es j e nm he) _ _
    have h3r := fun s hs => h3 s (List.mem_cons.2 (.inr hs))
    have hner := fun s hs => hne s (List.mem_cons.2 (.inr hs))
    have hxn := hne x (List.mem_cons.2 (.inl rfl))
    rcases h3 x (List.mem_cons.2 (.inl rfl)) with hk1 | hk2 | hk3
    · have hxr : ∃ s ∈ r, s.kind = 2 ∧ j ≤ s.expr.toNat ∧ withinP es s.expr.toNat j = true := by
        obtain ⟨s, hs, h1, h2⟩ := hx
        rcases List.mem_cons.1 hs with rfl | hs
        · omega
        · exact ⟨s, hs, h1, h2⟩
      rw [stmtsC_1 _ _ _ _ hk1] at h ⊢
      split at h
      · cases h
      · rename_i q1
        rw [if_neg q1]
        split at h
        · cases h
        · rename_i q2
          rw [if_neg q2]
          split at h
          · cases h
          · rename_i q3
            rw [if_neg q3]
            exact ih _ _ _ _ h3r hner (by rw [findN_app _ _ _ _ hxn]; exact hn) hxr h
    · rw [stmtsC_2 _ _ _ _ hk2] at h ⊢
      rw [hw]
      cases hc : exprsC es (withinP es x.expr.toNat) names (x.expr.toNat + 1) 0 sh with
      | inr c => rw [hc] at h; cases h
      | inl sh1 =>
        rw [hc] at h
        have hb := exsC_broken (m := withinP es x.expr.toNat) he hk hn _ _ _ _ hc
        by_cases hin : withinP es x.expr.toNat j = true ∧ 0 ≤ j ∧ j < 0 + (x.expr.toNat + 1)
        · rw [hb.1 hin]
        · rw [hb.2 hin]
          dsimp only at h ⊢
          have hxr : ∃ s ∈ r, s.kind = 2 ∧ j ≤ s.expr.toNat ∧ withinP es s.expr.toNat j = true := by
            obtain ⟨s, hs, h1, h2, h4⟩ := hx
            rcases List.mem_cons.1 hs with rfl | hs
            · exact absurd ⟨h4, Nat.zero_le _, by omega⟩ hin
            · exact ⟨s, hs, h1, h2, h4⟩
          split at h
          · cases h
          · rename_i q2
            rw [if_neg q2]
            exact ih _ _ _ _ h3r hner (by rw [findN_app _ _ _ _ hxn]; exact hn) hxr h
    · have hxr : ∃ s ∈ r, s.kind = 2 ∧ j ≤ s.expr.toNat ∧ withinP es s.expr.toNat j = true := by
        obtain ⟨s, hs, h1, h2⟩ := hx
        rcases List.mem_cons.1 hs with rfl | hs
        · omega
        · exact ⟨s, hs, h1, h2⟩
      rw [stmtsC_3 _ _ _ _ hk3] at h ⊢
      split at h
      · cases h
      · rename_i q1
        rw [if_neg q1]
        exact ih _ _ _ _ h3r hner hn hxr h
theorem smOk_kind {n : Nat} {s : SI} (h : smOk n s = true) : s.kind = 1 ∨ s.kind = 2 ∨ s.kind = 3 := by
  unfold smOk at h
  simp only [Bool.or_eq_true, Bool.and_eq_true, beq_iff_eq] at h
  omega
theorem exsOk_set : ∀ (es : List EI) (k j : Nat) (e : EI) (nm : ByteArray), es[j]? = some e → exsOk k (es.set j (renE nm e)) = exsOk k es
  | [], k, j, e, nm, h => rfl
  | x :: r, k, 0, e, nm, h => by
    simp only [List.getElem?_cons_zero, Option.some.injEq] at h
    subst h
    rfl
  | x :: r, k, j + 1, e, nm, h => by
    rw [List.getElem?_cons_succ] at h
    show (exOk k x && exsOk (k + 1) (r.set j (renE nm e))) = _
    rw [exsOk_set r (k + 1) j e nm h]
    rfl
theorem treeP_set {ss : List SI} {es : List EI} {j : Nat} {e : EI} {nm : ByteArray} (he : es[j]? = some e) : treeP ss (es.set j (renE nm e)) = treeP ss es := by
  unfold treeP
  rw [exsOk_set es 0 j e nm he, List.length_set]
theorem checkC_tree {ss : List SI} {es : List EI} {sh : List (List Int)} (h : checkC ss es = .inl sh) : treeP ss es = true ∧ stmtsC es ss [] (es.map fun _ => []) 0 = .inl sh := by
  unfold checkC at h
  split at h
  · rename_i ht; exact ⟨ht, h⟩
  · cases h
/-- A name in a parsed tree that is turned to one that isn't there. -/
theorem broken_law {F : Nat} {L : List Tok} {sh : List (List Int)} {j : Nat} {e : EI} {nm : ByteArray} (hF : 12 * L.length + 20 ≤ F) (hp : (parseP F L).err = none) (hc : checkC ((parseP F L).ss.map SI.of) ((parseP F L).es.map EI.of) = .inl sh)
    (he : ((parseP F L).es.map EI.of)[j]? = some e) (hk : e.kind = 2) (hnm : ∀ s ∈ (parseP F L).ss.map SI.of, s.name.toList ≠ nm.toList) :
    checkC ((parseP F L).ss.map SI.of) (((parseP F L).es.map EI.of).set j (renE nm e)) = .inr (140, e.pos) := by
  obtain ⟨ht, hs⟩ := checkC_tree hc
  unfold checkC
  rw [treeP_set he, if_pos ht]
  have hmap : (((parseP F L).es.map EI.of).set j (renE nm e)).map (fun _ => ([] : List Int)) = ((parseP F L).es.map EI.of).map fun _ => [] := by
    apply List.ext_getElem?
    intro i
    rw [List.getElem?_map, List.getElem?_map, List.getElem?_set]
    split
    · rename_i hi
      subst hi
      rw [he, if_pos (List.getElem?_eq_some_iff.1 he).1]
      rfl
    · rfl
  rw [hmap]
  have hex : exsOk 0 ((parseP F L).es.map EI.of) = true := by unfold treeP at ht; rw [Bool.and_eq_true] at ht; exact ht.1
  have hsm : ((parseP F L).ss.map SI.of).all (smOk ((parseP F L).es.map EI.of).length) = true := by unfold treeP at ht; rw [Bool.and_eq_true] at ht; exact ht.2
  refine stmtsC_broken he hk _ [] _ sh 0 (fun s hs => smOk_kind (List.all_eq_true.1 hsm s hs)) hnm rfl ?_ hs
  have hj : j < (parseP F L).es.length := by
    have := (List.getElem?_eq_some_iff.1 he).1
    rwa [List.length_map] at this
  obtain ⟨x, hx, hkx, a, h1, h2, h3⟩ := parse_cov L hF hp j hj
  refine ⟨SI.of x, List.mem_map.2 ⟨x, hx, rfl⟩, by show (x.kind : Int) = 2; rw [hkx]; rfl, h2, ?_⟩
  exact within_block h3 (exsOk_ahead hex) (x.expr - j) j (by omega) h1
/-! ### Two statements more -/
theorem getD_app {sh z : List (List Int)} {i : Nat} (h : i < sh.length) : (sh ++ z).getD i [] = sh.getD i [] := by
  rw [List.getD_eq_getElem?_getD, List.getD_eq_getElem?_getD, List.getElem?_append_left h]
theorem exprC_app {e : EI} {sh z : List (List Int)} {names : Names} (h : ∀ a ∈ e.args, 0 ≤ a ∧ a.toNat < sh.length) : exprC e (sh ++ z) names = exprC e sh names := by
  have : (e.args.map fun a => (sh ++ z).getD a.toNat []) = e.args.map fun a => sh.getD a.toNat [] := List.map_congr_left fun a ha => getD_app (h a ha).2
  unfold exprC
  rw [this]
theorem markP_app {es x : List EI} {root : Nat} : ∀ (n : Nat) (m : Nat → Bool), n ≤ es.length → markP (es ++ x) root n m = markP es root n m
  | 0, m, _ => rfl
  | n + 1, m, h => by
    rw [markP_succ, markP_succ, markP_app n _ (by omega)]
    unfold stepM
    rw [List.getElem?_append_left (by omega)]
theorem exprsC_app {es x : List EI} {m : Nat → Bool} {names : Names} {z : List (List Int)} (ho : Ahead es) : ∀ (n k : Nat) (sh : List (List Int)), k + n ≤ es.length → sh.length = es.length →
    exprsC (es ++ x) m names n k (sh ++ z) = match exprsC es m names n k sh with | .inl s => .inl (s ++ z) | .inr c => .inr c
  | 0, k, sh, _, _ => rfl
  | n + 1, k, sh, hk, hl => by
    have ih := fun sh h => exprsC_app (x := x) (m := m) (names := names) (z := z) ho n (k + 1) sh (by omega) h
    unfold exprsC
    cases m k with
    | false => exact ih sh hl
    | true =>
      simp only [if_true]
      rw [List.getElem?_append_left (by omega)]
      have hx : es[k]? = some (es[k]'(by omega)) := List.getElem?_eq_getElem _
      rw [hx]
      dsimp only
      rw [exprC_app (fun a ha => by have := ho k _ hx a ha; omega)]
      cases exprC (es[k]'(by omega)) sh names with
      | inr c => rfl
      | inl s =>
        dsimp only
        rw [List.set_append_left _ _ (by omega)]
        exact ih _ (by rw [List.length_set]; exact hl)
/-- Names come from statements. -/
def NamesOf (ss : List SI) (names : Names) : Prop := ∀ p ∈ names, ∃ s ∈ ss, p.1 = s.name
theorem findN_none {names : Names} {n : ByteArray} (h : ∀ p ∈ names, p.1.toList ≠ n.toList) : findN names n = none := by
  induction names with
  | nil => rfl
  | cons p r ih =>
    obtain ⟨t, s⟩ := p
    show (if t.toList = n.toList then _ else _) = _
    rw [if_neg (h (t, s) (List.mem_cons.2 (.inl rfl)))]
    exact ih fun p hp => h p (List.mem_cons.2 (.inr hp))
theorem stmtsC_app {es x : List EI} {all : List SI} {z : List (List Int)} {y : List SI} (ho : Ahead es) : ∀ (ss : List SI) (names : Names) (sh sh' : List (List Int)) (inp : Nat), (∀ s ∈ ss, s ∈ all) → (∀ s ∈ ss, smOk es.length s = true) → NamesOf all names → sh.length = es.length → stmtsC es ss names sh inp = .inl sh' →
    ∃ (names' : Names) (inp' : Nat), NamesOf all names' ∧ sh'.length = es.length ∧ stmtsC (es ++ x) (ss ++ y) names (sh ++ z) inp = stmtsC (es ++ x) y names' (sh' ++ z) inp' := by
  intro ss
  induction ss with
  | nil =>
    intro names sh sh' inp _ _ hn hl h
    have : sh = sh' := by injection h
    subst this
    exact ⟨names, inp, hn, hl, rfl⟩
  | cons s r ih =>
    intro names sh sh' inp hall hok hn hl h
    have hallr := fun t ht => hall t (List.mem_cons.2 (.inr ht))
    have hokr := fun t ht => hok t (List.mem_cons.2 (.inr ht))
    have hs := hok s (List.mem_cons.2 (.inl rfl))
    have hna : ∀ l, NamesOf all (names ++ [(s.name, l)]) := fun l p hp => by
      rcases List.mem_append.1 hp with hp | hp
      · exact hn p hp
      · rw [List.mem_singleton.1 hp]
        exact ⟨s, hall s (List.mem_cons.2 (.inl rfl)), rfl⟩
    rw [List.cons_append]
    rcases smOk_kind hs with hk1 | hk2 | hk3
    · rw [stmtsC_1 _ _ _ _ hk1] at h ⊢
      split at h
      · cases h
      · rename_i q1
        rw [if_neg q1]
        split at h
        · cases h
        · rename_i q2
          rw [if_neg q2]
          split at h
          · cases h
          · rename_i q3
            rw [if_neg q3]
            exact ih _ _ _ _ hallr hokr (hna _) hl h
    · have hr : s.expr.toNat < es.length := by
        unfold smOk at hs
        rw [hk2] at hs
        simp only [Bool.or_eq_true, Bool.and_eq_true, decide_eq_true_eq] at hs
        rcases hs with (hs | hs) | hs
        · cases hs
        · cases hs
        · omega
      rw [stmtsC_2 _ _ _ _ hk2] at h ⊢
      have hw : withinP (es ++ x) s.expr.toNat = withinP es s.expr.toNat := by
        unfold withinP
        exact markP_app _ _ (by omega)
      rw [hw, exprsC_app ho _ _ _ (by omega) hl]
      cases hc : exprsC es (withinP es s.expr.toNat) names (s.expr.toNat + 1) 0 sh with
      | inr c => rw [hc] at h; cases h
      | inl sh1 =>
        rw [hc] at h
        dsimp only at h ⊢
        have hl1 : sh1.length = es.length := (exprsC_len _ _ _ _ hc).trans hl
        split at h
        · cases h
        · rename_i q2
          rw [if_neg q2, getD_app (by omega)]
          exact ih _ _ _ _ hallr hokr (hna _) hl1 h
    · rw [stmtsC_3 _ _ _ _ hk3] at h ⊢
      split at h
      · cases h
      · rename_i q1
        rw [if_neg q1]
        exact ih _ _ _ _ hallr hokr hn hl h
theorem exsOk_app : ∀ (es x : List EI) (k : Nat), exsOk k (es ++ x) = (exsOk k es && exsOk (k + es.length) x)
  | [], x, k => by rw [List.nil_append]; rfl
  | e :: r, x, k => by
    rw [List.cons_append]
    show (exOk k e && exsOk (k + 1) (r ++ x)) = ((exOk k e && exsOk (k + 1) r) && exsOk (k + (r.length + 1)) x)
    rw [exsOk_app r x (k + 1), Bool.and_assoc, show k + 1 + r.length = k + (r.length + 1) by omega]
theorem smOk_more {n m : Nat} {s : SI} (h : smOk n s = true) (hm : n ≤ m) : smOk m s = true := by
  unfold smOk at h ⊢
  simp only [Bool.or_eq_true, Bool.and_eq_true, beq_iff_eq, decide_eq_true_eq] at h ⊢
  omega
def moreE (n : Nat) : List EI := [⟨1, noB, 5, [], 0⟩, ⟨3, noB, 0, [(n : Int)], 0⟩]
def moreS (nm : ByteArray) (n : Nat) : List SI := [⟨2, 0, nm, [], ((n + 1 : Nat) : Int), 0⟩, ⟨3, 0, nm, [], 0, 0⟩]
theorem marks_more {es : List EI} : ∀ (n : Nat) (m : Nat → Bool), (∀ i < n, m i = false) → markP es (es.length + 1) n m = m
  | 0, m, _ => rfl
  | n + 1, m, h => by
    rw [markP_succ]
    have : stepM es n m = m := by
      funext a
      unfold stepM
      rw [h n (by omega), Bool.false_and, Bool.or_false]
    rw [this]
    exact marks_more n m fun i hi => h i (by omega)
theorem within_more (es : List EI) (a : Nat) : withinP (es ++ moreE es.length) (es.length + 1) a = (a == es.length + 1 || a == es.length) := by
  unfold withinP
  rw [markP_succ, markP_succ]
  have e1 : (es ++ moreE es.length)[es.length + 1]? = some ⟨3, noB, 0, [(es.length : Int)], 0⟩ := by rw [List.getElem?_append_right (by omega)]; simp [moreE]
  have e0 : (es ++ moreE es.length)[es.length]? = some ⟨1, noB, 5, [], 0⟩ := by rw [List.getElem?_append_right (by omega)]; simp [moreE]
  have s1 : stepM (es ++ moreE es.length) (es.length + 1) (fun a => a == es.length + 1) = fun a => (a == es.length + 1 || a == es.length) := by
    funext a
    unfold stepM
    rw [e1]
    have : ((es.length : Int) == (a : Int)) = (a == es.length) := by
      by_cases h : a = es.length
      · subst h; simp
      · rw [beq_eq_false_iff_ne.2 (show (es.length : Int) ≠ (a : Int) by omega), beq_eq_false_iff_ne.2 h]
    simp [this]
  rw [s1]
  have s0 : stepM (es ++ moreE es.length) es.length (fun a => (a == es.length + 1 || a == es.length)) = fun a => (a == es.length + 1 || a == es.length) := by
    funext a
    unfold stepM
    rw [e0]
    simp
  rw [s0, markP_app _ _ (Nat.le_refl _), marks_more]
  intro i hi
  simp
  omega
theorem exprsC_skip {es : List EI} {m : Nat → Bool} {names : Names} : ∀ (k c n : Nat) (sh : List (List Int)), (∀ i, c ≤ i → i < c + k → m i = false) → exprsC es m names (k + n) c sh = exprsC es m names n (c + k) sh
  | 0, c, n, sh, _ => by rw [Nat.zero_add, Nat.add_zero]
  | k + 1, c, n, sh, h => by
    rw [show k + 1 + n = (k + n) + 1 by omega]
    rw [exprsC, h c (Nat.le_refl _) (by omega)]
    simp only [Bool.false_eq_true, if_false]
    rw [exprsC_skip k (c + 1) n sh (fun i h1 h2 => h i (by omega) (by omega)), show c + 1 + k = c + (k + 1) by omega]
theorem elemsP_nil : elemsP [] = 1 := by decide
theorem exprsC_more {es : List EI} {names : Names} {sh : List (List Int)} (hl : sh.length = es.length) :
    exprsC (es ++ moreE es.length) (withinP (es ++ moreE es.length) (es.length + 1)) names (es.length + 1 + 1) 0 (sh ++ [[], []]) = .inl (sh ++ [[], []]) := by
  rw [show es.length + 1 + 1 = es.length + 2 by omega, exprsC_skip es.length 0 2 _ (fun i h1 h2 => by rw [within_more]; simp; omega), Nat.zero_add]
  have e1 : (es ++ moreE es.length)[es.length + 1]? = some ⟨3, noB, 0, [(es.length : Int)], 0⟩ := by rw [List.getElem?_append_right (by omega)]; simp [moreE]
  have e0 : (es ++ moreE es.length)[es.length]? = some ⟨1, noB, 5, [], 0⟩ := by rw [List.getElem?_append_right (by omega)]; simp [moreE]
  have c0 : exprC ⟨1, noB, 5, [], 0⟩ (sh ++ [[], []]) names = .inl [] := by
    unfold exprC
    rw [if_neg (by decide)]
    show (if (shapeOf 1 5 []).2 = false ∨ elemsP (shapeOf 1 5 []).1 = 0 then _ else _) = _
    rw [if_neg (by decide)]
    rfl
  have g : (sh ++ [[], []]).getD es.length ([] : List Int) = [] := by
    rw [← hl, List.getD_eq_getElem?_getD, List.getElem?_append_right (Nat.le_refl _)]
    simp
  have c1 : exprC ⟨3, noB, 0, [(es.length : Int)], 0⟩ (sh ++ [[], []]) names = .inl [] := by
    unfold exprC
    rw [if_neg (show ¬ (3 : Int) = 2 by decide)]
    have : ([(es.length : Int)].map fun a => (sh ++ [[], []]).getD a.toNat []) = [[]] := by
      simp only [List.map_cons, List.map_nil, Int.toNat_natCast, g]
    show (if (shapeOf 3 0 ([(es.length : Int)].map fun a => (sh ++ [[], []]).getD a.toNat [])).2 = false ∨ elemsP (shapeOf 3 0 ([(es.length : Int)].map fun a => (sh ++ [[], []]).getD a.toNat [])).1 = 0 then _ else Sum.inl (shapeOf 3 0 ([(es.length : Int)].map fun a => (sh ++ [[], []]).getD a.toNat [])).1) = _
    rw [this, if_neg (by decide)]
    rfl
  have w0 : withinP (es ++ moreE es.length) (es.length + 1) es.length = true := by rw [within_more]; simp
  have w1 : withinP (es ++ moreE es.length) (es.length + 1) (es.length + 1) = true := by rw [within_more]; simp
  have t0 : (sh ++ [[], []]).set es.length ([] : List Int) = sh ++ [[], []] := by
    rw [← hl, List.set_append_right _ _ (Nat.le_refl _), Nat.sub_self]
    rfl
  have t1 : (sh ++ [[], []]).set (es.length + 1) ([] : List Int) = sh ++ [[], []] := by
    rw [← hl, List.set_append_right _ _ (Nat.le_succ _), show sh.length + 1 - sh.length = 1 by omega]
    rfl
  rw [exprsC, w0, e0]
  simp only [if_true]
  rw [c0]
  dsimp only
  rw [t0, exprsC, w1, e1]
  simp only [if_true]
  rw [c1]
  dsimp only
  rw [t1]
  rfl
theorem findN_snoc (names : Names) (nm : ByteArray) (l : List Int) : (findN (names ++ [(nm, l)]) nm).isNone = false := by
  induction names with
  | nil => show (if nm.toList = nm.toList then some l else none).isNone = _; rw [if_pos rfl]; rfl
  | cons p r ih =>
    obtain ⟨t, s⟩ := p
    show (if t.toList = nm.toList then some s else findN (r ++ [(nm, l)]) nm).isNone = _
    split
    · rfl
    · exact ih
/-- A let and an output of a name that is neither given nor used. -/
theorem more_law {ss : List SI} {es : List EI} {sh : List (List Int)} {nm : ByteArray} (hc : checkC ss es = .inl sh) (hnm : ∀ s ∈ ss, s.name.toList ≠ nm.toList) (hz : nm.size ≠ 0) :
    checkC (ss ++ moreS nm es.length) (es ++ moreE es.length) = .inl (sh ++ [[], []]) := by
  obtain ⟨ht, hs⟩ := checkC_tree hc
  have hex : exsOk 0 es = true := by unfold treeP at ht; rw [Bool.and_eq_true] at ht; exact ht.1
  have hsm : ss.all (smOk es.length) = true := by unfold treeP at ht; rw [Bool.and_eq_true] at ht; exact ht.2
  have hl2 : (es ++ moreE es.length).length = es.length + 2 := by rw [List.length_append]; rfl
  have ht2 : treeP (ss ++ moreS nm es.length) (es ++ moreE es.length) = true := by
    unfold treeP
    rw [exsOk_app, hex, hl2, Bool.true_and, Bool.and_eq_true]
    refine ⟨?_, ?_⟩
    · rw [Nat.zero_add]
      show (exOk es.length ⟨1, noB, 5, [], 0⟩ && (exOk (es.length + 1) ⟨3, noB, 0, [(es.length : Int)], 0⟩ && true)) = true
      have a1 : exOk es.length ⟨1, noB, 5, [], 0⟩ = true := rfl
      have a2 : exOk (es.length + 1) ⟨3, noB, 0, [(es.length : Int)], 0⟩ = true := by
        unfold exOk argOk
        simp [madeP]
        omega
      rw [a1, a2]
      rfl
    · rw [List.all_append, Bool.and_eq_true]
      refine ⟨List.all_eq_true.2 fun s hs => smOk_more (List.all_eq_true.1 hsm s hs) (by omega), ?_⟩
      simp [moreS, smOk]
      omega
  unfold checkC
  rw [if_pos ht2]
  have hm : (es ++ moreE es.length).map (fun _ => ([] : List Int)) = (es.map fun _ => []) ++ [[], []] := by rw [List.map_append]; rfl
  rw [hm]
  obtain ⟨names', inp', hn, hl, he⟩ := stmtsC_app (x := moreE es.length) (z := [[], []]) (y := moreS nm es.length) (exsOk_ahead hex) ss [] (es.map fun _ => []) sh 0 (fun s hs => hs) (fun s hs => List.all_eq_true.1 hsm s hs) (fun p hp => by cases hp) (by rw [List.length_map]) hs
  rw [he]
  have hfn : findN names' nm = none := findN_none fun p hp => by
    obtain ⟨s, h1, h2⟩ := hn p hp
    rw [h2]
    exact hnm s h1
  unfold moreS
  rw [stmtsC_2 _ _ _ _ rfl]
  have hx : (((es.length + 1 : Nat) : Int)).toNat = es.length + 1 := Int.toNat_natCast _
  dsimp only
  rw [hx, exprsC_more hl]
  dsimp only
  have htk : takenP names' nm = false := by
    unfold takenP
    rw [hfn]
    simp [hz]
  rw [htk]
  simp only [Bool.false_eq_true, if_false]
  rw [stmtsC_3 _ _ _ _ rfl]
  dsimp only
  rw [findN_snoc]
  simp only [Bool.false_eq_true, if_false]
  rfl
theorem inputsC_more (ss : List SI) (nm : ByteArray) (n : Nat) (p : Int) : inputsC (ss ++ moreS nm n) p = inputsC ss p := by
  unfold inputsC
  rw [List.filter_append, List.map_append]
  have : (moreS nm n).filter (fun s => s.kind == 1 && s.party == p) = [] := rfl
  rw [this]
  simp
end Go.Proofs.YthnkeejiocnflaaGreatDoor
namespace Go.Proofs.YthnkeejiocnflaaGreatDoor
set_option linter.unusedVariables false
set_option linter.unusedSimpArgs false
open Go.RowKit
theorem stmtsC_shapes {es : List EI} : ∀ (ss : List SI) (names : Names) (sh sh' : List (List Int)) (inp : Nat), (∀ s ∈ ss, s.kind = 1 ∨ s.kind = 2 ∨ s.kind = 3) → stmtsC es ss names sh inp = .inl sh' → ∀ s ∈ ss, s.kind = 1 → elemsP s.shape ≠ 0 := by
  intro ss
  induction ss with
  | nil => intro names sh sh' inp _ _ s hs; cases hs
  | cons x r ih =>
    intro names sh sh' inp h3 h s hs hk
    have h3r := fun s hs => h3 s (List.mem_cons.2 (.inr hs))
    rcases h3 x (List.mem_cons.2 (.inl rfl)) with hk1 | hk2 | hk3
    · rw [stmtsC_1 _ _ _ _ hk1] at h
      split at h
      · cases h
      · rename_i q1
        split at h
        · cases h
        · split at h
          · cases h
          · rcases List.mem_cons.1 hs with rfl | hs
            · exact fun e => q1 (.inr e)
            · exact ih _ _ _ _ h3r h s hs hk
    · rw [stmtsC_2 _ _ _ _ hk2] at h
      cases hc : exprsC es (withinP es x.expr.toNat) names (x.expr.toNat + 1) 0 sh with
      | inr c => rw [hc] at h; cases h
      | inl sh1 =>
        rw [hc] at h
        dsimp only at h
        split at h
        · cases h
        · rcases List.mem_cons.1 hs with rfl | hs
          · omega
          · exact ih _ _ _ _ h3r h s hs hk
    · rw [stmtsC_3 _ _ _ _ hk3] at h
      split at h
      · cases h
      · rcases List.mem_cons.1 hs with rfl | hs
        · omega
        · exact ih _ _ _ _ h3r h s hs hk
theorem madeP_le (k : Int) : madeP k ≤ 3 := by
  unfold madeP
  repeat' split
  all_goals decide
theorem ownEs_same {ss : List SI} {es : List EI} {sh : List (List Int)} (hc : checkC ss es = .inl sh) (hl : es.length ≤ 600) : ownEs es = es := by
  obtain ⟨ht, _⟩ := checkC_tree hc
  have hex : exsOk 0 es = true := by unfold treeP at ht; rw [Bool.and_eq_true] at ht; exact ht.1
  unfold ownEs
  rw [List.take_of_length_le hl]
  conv => rhs; rw [← List.map_id es]
  refine List.map_congr_left fun e he => ?_
  obtain ⟨i, hi⟩ := List.mem_iff_getElem?.1 he
  have h1 := exsOk_ix es 0 hex i e hi
  unfold exOk at h1
  rw [Bool.and_eq_true, beq_iff_eq] at h1
  have h2 := madeP_le e.kind
  unfold ownE1
  rw [List.take_of_length_le (by omega)]
  rfl
theorem ownSs_same {ss : List SI} {es : List EI} {sh : List (List Int)} (hc : checkC ss es = .inl sh) (hl : ss.length ≤ 100) (hk : ∀ s ∈ ss, s.kind = 1 ∨ s.shape = []) : ownSs ss = ss := by
  obtain ⟨ht, hs⟩ := checkC_tree hc
  have hsm : ss.all (smOk es.length) = true := by unfold treeP at ht; rw [Bool.and_eq_true] at ht; exact ht.2
  have hsh := stmtsC_shapes ss [] _ sh 0 (fun s hs => smOk_kind (List.all_eq_true.1 hsm s hs)) hs
  unfold ownSs
  rw [List.take_of_length_le hl]
  conv => rhs; rw [← List.map_id ss]
  refine List.map_congr_left fun s hss => ?_
  have : s.shape.length ≤ 2 := by
    rcases hk s hss with h | h
    · exact elemsP_len (hsh s hss h)
    · rw [h]; exact Nat.zero_le _
  unfold ownS1
  rw [List.take_of_length_le (by omega)]
  rfl
theorem body_shape (L : List Tok) (F : Nat) (s : PS) : (bodyP L F s).2.kind = 1 ∨ (bodyP L F s).2.shape = [] := by
  unfold bodyP
  dsimp only
  split
  · exact .inr rfl
  · split
    · exact .inl rfl
    · split
      · exact .inr rfl
      · split
        · exact .inr rfl
        · exact .inr rfl
theorem loop_shape (L : List Tok) (F : Nat) : ∀ (n : Nat) (s : PS), (∀ x ∈ s.ss, x.kind = 1 ∨ x.shape = []) → ∀ x ∈ (parseLoopP L n F s).ss, x.kind = 1 ∨ x.shape = [] := by
  intro n
  induction n with
  | zero => intro s h; exact h
  | succ n ih =>
    intro s h
    rw [parseLoopP]
    split
    · refine ih _ fun x hx => ?_
      have e : stmtP L F s = putS (wantP L (bodyP L F s).1 tSemi) (bodyP L F s).2 := rfl
      have g := body_G (L := L) F s
      have g2 := G.want (L := L) (bodyP L F s).1 tSemi
      rw [e] at hx
      have hx' : x ∈ (wantP L (bodyP L F s).1 tSemi).ss ++ [(bodyP L F s).2] := hx
      rw [g2.hs, g.hs] at hx'
      rcases List.mem_append.1 hx' with hx | hx
      · exact h x hx
      · rw [List.mem_singleton.1 hx]
        exact body_shape L F s
    · exact h
theorem parse_shape (L : List Tok) (F : Nat) : ∀ x ∈ (parseP F L).ss.map SI.of, x.kind = 1 ∨ x.shape = [] := by
  intro x hx
  obtain ⟨y, hy, rfl⟩ := List.mem_map.1 hx
  rcases loop_shape L F F startP (fun x hx => by cases hx) y hy with h | h
  · exact .inl (by show (y.kind : Int) = 1; rw [h]; rfl)
  · exact .inr (by show y.shape.map Int.ofNat = []; rw [h]; rfl)
theorem long_ne {a b : ByteArray} (ha : a.size ≤ 16) (hb : 16 < b.size) : a.toList ≠ b.toList := fun h => by
  have h1 : a.toList.length = b.toList.length := by rw [h]
  rw [ByteArray.toList_eq, ByteArray.toList_eq, len_data, len_data] at h1
  omega
theorem parse_name {L : List Tok} (hL : SmallN L) (F : Nat) {nm : ByteArray} (hn : 16 < nm.size) : ∀ s ∈ (parseP F L).ss.map SI.of, s.name.toList ≠ nm.toList := by
  intro s hs
  obtain ⟨y, hy, rfl⟩ := List.mem_map.1 hs
  exact long_ne (ss_small hL F y hy).1 hn
end Go.Proofs.YthnkeejiocnflaaGreatDoor
