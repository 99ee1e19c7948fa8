/-
  How big a parsed tree is. The names and the shapes of a parsed tree. The reference's Same of two rows of shapes; twainlaw12.At at an error of the checker. The check laws' awake answers true.
-/
import Derived.Test.YthnkeejiocnflaaGreatDoorQChkRC
import Derived.Test.YthnkeejiocnflaaGreatDoorQPlaces
import Derived.Test.YthnkeejiocnflaaGreatDoorQTextG
namespace Go.Proofs.YthnkeejiocnflaaGreatDoor
set_option linter.unusedVariables false
set_option linter.unusedSimpArgs false
open Go.RowKit
theorem loop_stay (L : List Tok) (n f : Nat) (s : PS) (h : s.err ≠ none) : parseLoopP L n f s = s := by
  cases n with
  | zero => rfl
  | succ n =>
    rw [parseLoopP]
    have : s.err.isNone = false := by cases he : s.err with | none => exact absurd he h | some _ => rfl
    rw [this]
    rfl
theorem loop_64 (L : List Tok) (f : Nat) : ∀ (n : Nat) (s : PS), s.ss.length ≤ 64 → (parseLoopP L n f s).err = none → (parseLoopP L n f s).ss.length ≤ 64 := by
  intro n
  induction n with
  | zero => intro s h _; exact h
  | succ n ih =>
    intro s h he
    rw [parseLoopP] at he ⊢
    split
    · rename_i hc
      rw [if_pos hc] at he
      have h1 : (stmtP L f s).err = none := Classical.byContradiction fun h1 => by
        rw [loop_stay L n f _ h1] at he
        exact h1 he
      have h2 : s.ss.length ≠ 64 := fun h2 => body_full f s h2 h1
      have h3 := (stmt_i (L := L) f s).2.2.2
      exact ih _ (by omega) he
    · exact h
theorem loop_small {F : Nat} {L : List Tok} (h : (parseP F L).err = none) : (parseP F L).ss.length ≤ 64 := loop_64 L F F startP (Nat.zero_le _) h
theorem stmt_el (L : List Tok) (f : Nat) (s : PS) (h : s.es.length ≤ s.i) (hl : s.i ≤ L.length) : (stmtP L f s).es.length ≤ (stmtP L f s).i ∧ (stmtP L f s).i ≤ L.length := by
  have g := body_G (L := L) f s
  have g2 := G.want (L := L) (bodyP L f s).1 tSemi
  have e : stmtP L f s = putS (wantP L (bodyP L f s).1 tSemi) (bodyP L f s).2 := rfl
  rw [e]
  refine ⟨?_, g2.hl (g.hl hl)⟩
  show (wantP L (bodyP L f s).1 tSemi).es.length ≤ (wantP L (bodyP L f s).1 tSemi).i
  have h1 := g.he
  have h2 := g2.he
  omega
theorem loop_el (L : List Tok) (f : Nat) : ∀ (n : Nat) (s : PS), s.es.length ≤ s.i → s.i ≤ L.length → (parseLoopP L n f s).es.length ≤ L.length := by
  intro n
  induction n with
  | zero => intro s h hl; exact Nat.le_trans h hl
  | succ n ih =>
    intro s h hl
    rw [parseLoopP]
    split
    · have := stmt_el L f s h hl
      exact ih _ this.1 this.2
    · exact Nat.le_trans h hl
theorem es_small (F : Nat) (L : List Tok) : (parseP F L).es.length ≤ L.length := loop_el L F F startP (Nat.zero_le _) (Nat.zero_le _)
end Go.Proofs.YthnkeejiocnflaaGreatDoor
namespace Go.Proofs.YthnkeejiocnflaaGreatDoor
set_option linter.unusedVariables false
set_option linter.unusedSimpArgs false
open Go.RowKit
theorem oneM_name {s : ByteArray} {k n v : Nat} (h : oneM s k = some (1, n, v)) : n ≤ 16 := by
  unfold oneM at h
  split at h
  · split at h
    · split at h
      · injection h with h
        injection h with h _
        omega
      · cases h
    · split at h
      · split at h
        · injection h with h
          injection h with h1 h2
          injection h2 with h2 _
          omega
        · cases h
      · split at h
        · injection h with h
          injection h with h _
          omega
        · split at h
          · injection h with h
            injection h with h _
            omega
          · cases h
  · cases h
def SmallN (l : List Tok) : Prop := ∀ t ∈ l, t.kind = 1 → t.text.size ≤ 16
theorem scanGo_names (s : ByteArray) : ∀ (f k : Nat) (l r : List Tok), SmallN l → scanGo f s k l = .toks r → SmallN r
  | 0, k, l, r, hl, h => by
    unfold scanGo at h
    injection h with h
    subst h
    exact hl
  | f + 1, k, l, r, hl, h => by
    unfold scanGo at h
    split at h
    · split at h
      · cases h
      · rename_i t n v ho
        split at h
        · cases h
        · refine scanGo_names s f _ _ r ?_ h
          intro x hx hk
          rcases List.mem_append.1 hx with hx | hx
          · exact hl x hx hk
          · rw [List.mem_singleton.1 hx] at hk ⊢
            dsimp only at hk ⊢
            subst hk
            have := oneM_name ho
            rw [ByteArray.size_extract]
            omega
    · injection h with h
      subst h
      intro x hx hk
      rcases List.mem_append.1 hx with hx | hx
      · exact hl x hx hk
      · rw [List.mem_singleton.1 hx] at hk
        cases hk
theorem scanM_names {s : ByteArray} {r : List Tok} (h : scanM s = .toks r) : SmallN r := by
  unfold scanM at h
  split at h
  · cases h
  · exact scanGo_names s _ _ [] r (fun t ht => by simp at ht) h
section
variable {L : List Tok} (hL : SmallN L) (F : Nat)
/-- What is known of a statement. -/
def SmSmall (F : Nat) (x : Sm) : Prop := x.name.size ≤ 16 ∧ x.shape.length ≤ F + 1
include hL
theorem now_small (s : PS) (h : (nowP L s).kind = 1) : (nowP L s).text.size ≤ 16 := by
  unfold nowP at h ⊢
  cases hn : L[s.i]? with
  | none => rw [hn] at h; cases h
  | some t =>
    rw [hn] at h
    exact hL t (List.mem_of_getElem? hn) h
theorem name_small (s : PS) : (nameP L s).2.size ≤ 16 := by
  unfold nameP
  split
  · show noB.size ≤ 16
    decide
  · rename_i h
    simp only [Bool.or_eq_true, not_or, bne_iff_ne, ne_eq, Decidable.not_not] at h
    exact now_small hL s h.2
omit hL
theorem shapeLoop_len : ∀ (f : Nat) (s : PS) (l : List Nat), (shapeLoopP L f s l).2.length ≤ l.length + f
  | 0, s, l => Nat.le_refl _
  | f + 1, s, l => by
    unfold shapeLoopP
    split
    · have := shapeLoop_len f (numberP L (advP s)).1 (l ++ [(numberP L (advP s)).2])
      rw [List.length_append] at this
      simp only [List.length_singleton] at this
      show (shapeLoopP L f (numberP L (advP s)).1 (l ++ [(numberP L (advP s)).2])).2.length ≤ _
      omega
    · show l.length ≤ _
      omega
theorem shape_len (f : Nat) (s : PS) : (shapeP L f s).2.length ≤ f + 1 := by
  unfold shapeP
  dsimp only
  split
  · exact Nat.zero_le _
  · have := shapeLoop_len (L := L) f (numberP L (wantP L s tBra)).1 [(numberP L (wantP L s tBra)).2]
    simp only [List.length_singleton] at this
    omega
include hL
theorem body_small (s : PS) : SmSmall F (bodyP L F s).2 := by
  unfold bodyP
  dsimp only
  split
  · exact ⟨(by decide : noB.size ≤ 16), Nat.zero_le _⟩
  · split
    · exact ⟨name_small hL _, shape_len F _⟩
    · split
      · exact ⟨name_small hL _, Nat.zero_le _⟩
      · split
        · exact ⟨name_small hL _, Nat.zero_le _⟩
        · exact ⟨(by decide : noB.size ≤ 16), Nat.zero_le _⟩
theorem loop_smallN : ∀ (n : Nat) (s : PS), (∀ x ∈ s.ss, SmSmall F x) → ∀ x ∈ (parseLoopP L n F s).ss, SmSmall F x := by
  intro n
  induction n with
  | zero => intro s h; exact h
  | succ n ih =>
    intro s h
    rw [parseLoopP]
    split
    · refine ih _ fun x hx => ?_
      have e : stmtP L F s = putS (wantP L (bodyP L F s).1 tSemi) (bodyP L F s).2 := rfl
      have g := body_G (L := L) F s
      have g2 := G.want (L := L) (bodyP L F s).1 tSemi
      rw [e] at hx
      have hx' : x ∈ (wantP L (bodyP L F s).1 tSemi).ss ++ [(bodyP L F s).2] := hx
      rw [g2.hs, g.hs] at hx'
      rcases List.mem_append.1 hx' with hx | hx
      · exact h x hx
      · rw [List.mem_singleton.1 hx]
        exact body_small hL F s
    · exact h
theorem ss_small : ∀ x ∈ (parseP F L).ss, SmSmall F x := loop_smallN hL F F startP (fun x hx => by cases hx)
end
end Go.Proofs.YthnkeejiocnflaaGreatDoor
namespace Go.Proofs.YthnkeejiocnflaaGreatDoor
set_option linter.unusedVariables false
set_option linter.unusedSimpArgs false
open Go.RowKit
/-- A row of shapes as it is read. -/
def RdSh (w : World) (A : Option Addr) (xs : List (List Int)) : Prop := xs = [] ∨ ∃ b o, A = some ⟨b, o, none⟩ ∧ b < w.heap.size ∧ ∀ (j : Nat) (l : List Int), xs[j]? = some l → ∃ A' c, w.cell? ⟨b, o + j, none⟩ = some (.slice A' l.length c) ∧ Rd w w.heap.size A' (l.map VI) ∧ l.length ≤ 1000000
theorem RdSh.next {w w' : World} {A : Option Addr} {xs : List (List Int)} (h : RdSh w A xs) (hb : Below w.heap.size w w') : RdSh w' A xs := by
  rcases h with h | ⟨b, o, hA, hlt, hc⟩
  · exact .inl h
  · refine .inr ⟨b, o, hA, Nat.lt_of_lt_of_le hlt hb.size, fun j l hj => ?_⟩
    obtain ⟨A', c, h1, h2, h3⟩ := hc j l hj
    exact ⟨A', c, (hb.cell (p := ⟨b, o + j, none⟩) hlt).trans h1, h2.next hb, h3⟩
theorem RShp.rd {X : Nat → Prop} {w : World} {sg ne : Nat} {sh : List (List Int)} (h : RShp X w sg ne sh) : RdSh w (some ⟨sg, 0, none⟩) sh := by
  refine .inr ⟨sg, 0, rfl, h.lt, fun j l hj => ?_⟩
  obtain ⟨svs, s1, s2, s3, s4⟩ := h
  have hlt : j < svs.length := by have := (List.getElem?_eq_some_iff.1 hj).1; omega
  obtain ⟨A, c, e, h1, h2, h3, h4⟩ := s4 j _ l (List.getElem?_eq_getElem hlt) hj
  refine ⟨A, c, ?_, h4.rd, by omega⟩
  rw [Nat.zero_add, cell_of_row w sg j _ _ (0, 0) s1, List.getElem?_toArray, List.getElem?_eq_getElem hlt, e]
theorem OutSh.rd {w : World} {base q : Nat} {sh : List (List Int)} (h : OutSh w base q sh) : RdSh w (some ⟨q, 0, none⟩) sh := by
  obtain ⟨svs, s1, s2, s3, s4, _⟩ := h
  refine .inr ⟨q, 0, rfl, (Array.getElem?_eq_some_iff.1 s1).1, fun j l hj => ?_⟩
  have hlt : j < svs.length := by have := (List.getElem?_eq_some_iff.1 hj).1; omega
  obtain ⟨m2, A, c, e, ho⟩ := s4 j _ l (List.getElem?_eq_getElem hlt) hj
  refine ⟨A, c, ?_, ho.rd, by omega⟩
  rw [Nat.zero_add, cell_of_row w q j _ _ (0, 0) s1, List.getElem?_toArray, List.getElem?_eq_getElem hlt, e]
set_option maxRecDepth 100000 in
set_option maxHeartbeats 2000000 in
theorem same_any (A A' : Option Addr) (n m c c' : Nat) (xs ys : List (List Int)) (w : World) (hn : n = xs.length) (hm : m = ys.length) (hl : n ≤ 1000000) (hl' : m ≤ 1000000) (h : RdSh w A xs) (h' : RdSh w A' ys) :
    Calls Tryz.prog 18 #[.slice A n c, .slice A' m c'] w fun e w' => e = .returned (.bool (xs == ys)) ∧ Below w.heap.size w w' := by
  have HN := Lib.hid hn
  have HM := Lib.hid hm
  have H := Lib.hid h
  have H' := Lib.hid h'
  clear h h' hn hm
  by_cases hnm : n = m
  · subst hnm
    have q0' : ((n : Int) != (n : Int)) = false := by simp
    go_enter Tryz.func18, Tryz.ntmps18
    go_wp2
    go_loopw [13] (fun iv wr => (∃ i : Nat, i ≤ n ∧ iv = .int .i64 i ∧ (xs == ys) = (xs.drop i == ys.drop i)) ∧ Below w.heap.size w wr) (fun iv _ => n - (intOf iv).toNat)
    case atStart => exact ⟨⟨0, by omega, rfl, rfl⟩, Below.refl _ _⟩
    case round =>
      obtain ⟨⟨i, hi, rfl, hr⟩, hb⟩ := hrel
      have HR := Lib.hid hr
      have HB := Lib.hid hb
      clear hr
      by_cases hlt : i < n
      · have hx : xs[i]? = some (xs[i]'(by rw [← HN.out]; exact hlt)) := List.getElem?_eq_getElem _
        obtain ⟨x, hxx⟩ : ∃ x, x = xs[i]'(by rw [← HN.out]; exact hlt) := ⟨_, rfl⟩
        rw [← hxx] at hx
        have hy : ys[i]? = some (ys[i]'(by rw [← HM.out]; exact hlt)) := List.getElem?_eq_getElem _
        obtain ⟨y, hyy⟩ : ∃ y, y = ys[i]'(by rw [← HM.out]; exact hlt) := ⟨_, rfl⟩
        rw [← hyy] at hy
        obtain ⟨b, o, rfl, hbl, hc⟩ := (H.out.next hb).resolve_left (fun e => by rw [e] at hx; simp at hx)
        obtain ⟨b', o', rfl, hbl', hc'⟩ := (H'.out.next hb).resolve_left (fun e => by rw [e] at hy; simp at hy)
        obtain ⟨A1, c1, d0, d1, d2⟩ := hc i x hx
        obtain ⟨A2, c2, d0', d1', d2'⟩ := hc' i y hy
        have hD := Lib.hid (show (xs.drop i == ys.drop i) = ((x == y) && (xs.drop (i + 1) == ys.drop (i + 1))) from by
          obtain ⟨hi, he⟩ := List.getElem?_eq_some_iff.1 hx
          obtain ⟨hi', he'⟩ := List.getElem?_eq_some_iff.1 hy
          rw [List.drop_eq_getElem_cons hi, List.drop_eq_getElem_cons hi', he, he']
          rfl)
        have i0 : (0 : Int) ≤ (i : Int) := by omega
        have i1 : (i : Int) < (n : Int) := by omega
        obtain ⟨xl, hxl⟩ : ∃ xl, xl = x.length := ⟨_, rfl⟩
        obtain ⟨yl, hyl⟩ : ∃ yl, yl = y.length := ⟨_, rfl⟩
        rw [← hxl] at d0 d2
        rw [← hyl] at d0' d2'
        have HI := Lib.hid (fun q => ints2_any A1 A2 xl yl c1 c2 x y (wr.drewN q) hxl hyl (by omega) (by omega) (d1.drewN q) (d1'.drewN q))
        clear hx hxx hy hyy hc hc' d1 d1' hbl hbl' hb hxl hyl
        cases he : (x == y) with
        | true =>
          rw [he] at HI
          have HX := Lib.hid (show (xs == ys) = (xs.drop (i + 1) == ys.drop (i + 1)) from by rw [HR.out, hD.out, he]; rfl)
          clear he
          go_wp2_with fail
          go_quiet ((go_at_call 22; exact Calls.quiet_of (HI.out _)))
          go_wp2
          exact ⟨⟨⟨i + 1, by omega, rfl, HX.out⟩, below_drewN HB.out _⟩, by simp [intOf]; omega⟩
        | false =>
          rw [he] at HI
          have HX := Lib.hid (show (xs == ys) = false from by rw [HR.out, hD.out, he]; rfl)
          clear he
          go_wp2_with fail
          go_quiet ((go_at_call 22; exact Calls.quiet_of (HI.out _)))
          go_wp2
          go_ret
          exact ⟨by rw [HX.out]; rfl, below_drewN HB.out _⟩
      · obtain rfl : n = i := by omega
        have HX := Lib.hid (show (xs == ys) = true from by rw [HR.out, HN.out, List.drop_length, ← HN.out, HM.out, List.drop_length]; rfl)
        clear hb
        go_wp2
        go_ret
        exact ⟨by rw [HX.out]; rfl, HB.out⟩
  · have q2 : ((n : Int) != (m : Int)) = true := by unfold bne; rw [beq_eq_false_iff_ne.2 (by omega)]; rfl
    have HX := Lib.hid (show (xs == ys) = false from by
      rw [beq_eq_false_iff_ne]
      intro e
      exact hnm (by rw [HN.out, HM.out, e]))
    clear hnm
    go_enter Tryz.func18, Tryz.ntmps18
    go_wp2
    go_ret
    exact ⟨by rw [HX.out]; rfl, Below.refl _ _⟩
end Go.Proofs.YthnkeejiocnflaaGreatDoor
namespace Go.Proofs.YthnkeejiocnflaaGreatDoor
set_option linter.unusedVariables false
set_option linter.unusedSimpArgs false
open Go.RowKit
def cawA : ByteArray := { data := #[105, 110, 112, 117, 116, 32, 48, 32, 119, 32, 91, 50, 44, 51, 93, 59, 32, 105, 110, 112, 117, 116, 32, 49, 32, 120, 32, 91, 51, 93, 59, 32, 108, 101, 116, 32, 121, 32, 61, 32, 119, 32, 64, 32, 120, 59] }
def cawB : ByteArray := { data := #[108, 101, 116, 32, 97, 32, 61, 32, 98, 59] }
def toksOf (r : ScanR) : List Tok := match r with | .toks l => l | _ => []
def cawL : List Tok := toksOf (scanM cawA)
def cawM : List Tok := toksOf (scanM cawB)
theorem cawA_scan : scanM cawA = .toks cawL := by kernel_rfl
theorem cawB_scan : scanM cawB = .toks cawM := by kernel_rfl
theorem cawL_len : cawL.length = 24 := by kernel_rfl
theorem cawM_len : cawM.length = 6 := by kernel_rfl
theorem cawA_err : (parseP 400 cawL).err = none := by kernel_rfl
theorem cawB_err : (parseP 400 cawM).err = none := by kernel_rfl
theorem cawA_ss : (parseP 400 cawL).ss.length = 3 := by kernel_rfl
theorem cawA_es : (parseP 400 cawL).es.length = 3 := by kernel_rfl
theorem cawB_ss : (parseP 400 cawM).ss.length = 1 := by kernel_rfl
theorem cawB_es : (parseP 400 cawM).es.length = 1 := by kernel_rfl
theorem cawA_chk : checkC ((parseP 400 cawL).ss.map SI.of) ((parseP 400 cawL).es.map EI.of) = .inl [[2, 3], [3], [2]] := by kernel_rfl
theorem cawB_chk : checkC ((parseP 400 cawM).ss.map SI.of) ((parseP 400 cawM).es.map EI.of) = .inr (140, 8) := by kernel_rfl
attribute [irreducible] cawL cawM
def TxtGood (s : ByteArray) (ns ne : Nat) (r : Sum (List (List Int)) (Nat × Int)) (w : World) (e : Ending) (w' : World) : Prop :=
  Below w.heap.size w w' ∧ ∃ SA sc EA ec ss es, e = .returned (.tuple #[.agg #[.slice SA ns sc, .slice EA ne ec], .nilIface]) ∧ ss.length = ns ∧ es.length = ne ∧ checkC ss es = r ∧ RdSI w' w'.heap.size SA ss ∧ RdEI w' w'.heap.size EA es
theorem txt_good {s : ByteArray} {F ns ne : Nat} {l : List Tok} {r : Sum (List (List Int)) (Nat × Int)} (w : World) (hs : s.size ≤ 100000) (hg : ETyped w) (ht : ErrT w) (hF : 12 * l.length + 20 ≤ F) (hl : scanM s = .toks l) (he : (parseP F l).err = none)
    (h1 : (parseP F l).ss.length = ns) (h2 : (parseP F l).es.length = ne) (h3 : checkC ((parseP F l).ss.map SI.of) ((parseP F l).es.map EI.of) = r) : Calls Tryz.prog 12 #[.string s] w (TxtGood s ns ne r w) := by
  refine (text_good s F l w hs hg ht hF hl he).mono ?_
  rintro e w1 ⟨b1, SA, sc, EA, ec, rfl, oS, oE⟩
  rw [h1, h2]
  exact ⟨b1, SA, sc, EA, ec, _, _, rfl, by rw [List.length_map]; exact h1, by rw [List.length_map]; exact h2, h3, oS.int, oE.int⟩
theorem cawA_text (w : World) (hg : ETyped w) (ht : ErrT w) : Calls Tryz.prog 12 #[.string cawA] w (TxtGood cawA 3 3 (.inl [[2, 3], [3], [2]]) w) :=
  txt_good w (by decide) hg ht (by rw [cawL_len]; decide) cawA_scan cawA_err cawA_ss cawA_es cawA_chk
theorem cawB_text (w : World) (hg : ETyped w) (ht : ErrT w) : Calls Tryz.prog 12 #[.string cawB] w (TxtGood cawB 1 1 (.inr (140, 8)) w) :=
  txt_good w (by decide) hg ht (by rw [cawM_len]; decide) cawB_scan cawB_err cawB_ss cawB_es cawB_chk
set_option maxRecDepth 100000 in
set_option maxHeartbeats 4000000 in
theorem cawake_true (w : World) (hg : ETyped w) (ht : ErrT w) : Calls Tryz.prog 9 #[] w fun e w' => e = .returned (.bool true) ∧ Below w.heap.size w w' := by
  have HG := Lib.hid hg
  have HT := Lib.hid ht
  clear hg ht
  go_enter Tryz.func9, Tryz.ntmps9
  go_wp2_with fail
  refine (cawA_text w HG.out HT.out).mono ?_
  rintro e w1 ⟨b1, SA, sc, EA, ec, ss, es, rfl, l1, l2, hC, hS, hE⟩
  have hls := Lib.hid l1.symm
  have hle := Lib.hid l2.symm
  have HG1 := Lib.hid (HG.out.next b1)
  have HT1 := Lib.hid (HT.out.next b1)
  have HB1 := Lib.hid b1
  have HS1 := Lib.hid hS
  have HE1 := Lib.hid hE
  have HC := Lib.hid hC
  clear b1 hS hE hC l1 l2
  go_wp2_with fail
  obtain ⟨w2, hw2⟩ : ∃ w2, w2 = w1.alloc (.cells #[.slice SA 3 sc, .slice EA 3 ec] 29) := ⟨_, rfl⟩
  rw [← hw2]
  have hb12 : Below w1.heap.size w1 w2 := by rw [hw2]; exact (Below.refl _ _).alloc (Nat.le_refl _) _
  have HG2 := Lib.hid (HG1.out.next hb12)
  have HT2 := Lib.hid (HT1.out.next hb12)
  have HB2 := Lib.hid (bnext HB1.out hb12)
  have hck := check_any SA EA 3 3 sc ec ss es w2 hls.out hle.out (by omega) (by omega) (HS1.out.next hb12) (HE1.out.next hb12) HG2.out
  rw [HC.out] at hck
  clear hw2 hb12
  refine hck.mono ?_
  clear hck
  rintro e w3 ⟨hb3, q, rfl, hO⟩
  have HB3 := Lib.hid (bnext HB2.out hb3)
  have HG3 := Lib.hid (HG2.out.next hb3)
  have HT3 := Lib.hid (HT2.out.next hb3)
  have HO := Lib.hid hO.rd
  clear hb3 hO
  go_wp2_with fail
  refine (cawB_text w3 HG3.out HT3.out).mono ?_
  rintro e w4 ⟨b4, SA2, sc2, EA2, ec2, ss2, es2, rfl, l1, l2, hC, hS, hE⟩
  have hls2 := Lib.hid l1.symm
  have hle2 := Lib.hid l2.symm
  have HG4 := Lib.hid (HG3.out.next b4)
  have HB4 := Lib.hid (bnext HB3.out b4)
  have HO4 := Lib.hid (HO.out.next b4)
  have HS4 := Lib.hid hS
  have HE4 := Lib.hid hE
  have HC4 := Lib.hid hC
  clear b4 hS hE hC l1 l2
  go_wp2_with fail
  obtain ⟨w5, hw5⟩ : ∃ w5, w5 = w4.alloc (.cells #[.slice SA2 1 sc2, .slice EA2 1 ec2] 29) := ⟨_, rfl⟩
  rw [← hw5]
  have hb45 : Below w4.heap.size w4 w5 := by rw [hw5]; exact (Below.refl _ _).alloc (Nat.le_refl _) _
  have HG5 := Lib.hid (HG4.out.next hb45)
  have HB5 := Lib.hid (bnext HB4.out hb45)
  have HO5 := Lib.hid (HO4.out.next hb45)
  have hck := check_any SA2 EA2 1 1 sc2 ec2 ss2 es2 w5 hls2.out hle2.out (by omega) (by omega) (HS4.out.next hb45) (HE4.out.next hb45) HG5.out
  rw [HC4.out] at hck
  clear hw5 hb45
  refine hck.mono ?_
  clear hck
  rintro e w6 ⟨hb6, v, rfl, hv⟩
  have HB6 := Lib.hid (bnext HB5.out hb6)
  have HO6 := Lib.hid (HO5.out.next hb6)
  have HV := Lib.hid hv
  obtain ⟨ti, xi, rfl⟩ := hv.iface
  clear hb6 hv
  obtain ⟨b, o, hA, hlt, hc⟩ := HO6.out.resolve_left (by simp)
  injection hA with hA
  injection hA with hA1 hA2 _
  subst hA1 hA2
  obtain ⟨A2, c2, d2, d3, _⟩ := hc 2 [2] rfl
  rw [Nat.zero_add] at d2
  have d2 : w6.cell? ⟨q, 2, none⟩ = some (.slice A2 1 c2) := d2
  have HI := Lib.hid (ints2_any A2 (some ⟨w6.heap.size, 0, none⟩) 1 1 c2 1 [2] [2] (w6.alloc (.cells #[.int .i64 2] 3)) rfl rfl (by omega) (by omega) (d3.next ((Below.refl _ _).alloc (Nat.le_refl _) _)) (Rd.of_block (heap_alloc_new w6 _) (by simp) (by simp [VI])))
  have HIS := Lib.hid (fun q => Is_any [(chkN, (8 : Int))] 140 140 (.iface ti xi) ((w6.alloc (.cells #[.int .i64 2] 3)).drewN q) (HV.out.next (below_drewN ((Below.refl _ _).alloc (Nat.le_refl _) _) q)))
  have HEL := Lib.hid (show ∀ q, Calls Tryz.prog 10 #[.slice (some ⟨w6.heap.size + 1, 0, none⟩) 2 2] (((w6.alloc (.cells #[.int .i64 2] 3)).drewN q).alloc (.cells #[.int .i64 2, .int .i64 3] 3)) (fun e w' => e = .returned (.int .i64 (elemsP [2, 3])) ∧ (((w6.alloc (.cells #[.int .i64 2] 3)).drewN q).alloc (.cells #[.int .i64 2, .int .i64 3] 3)) = w') from fun q => by
    have hh := heap_alloc_new ((w6.alloc (.cells #[.int .i64 2] 3)).drewN q) (.cells #[.int .i64 2, .int .i64 3] 3)
    have hz : ((w6.alloc (.cells #[.int .i64 2] 3)).drewN q).heap.size = w6.heap.size + 1 := by simp
    rw [hz] at hh
    exact elems_any (some ⟨w6.heap.size + 1, 0, none⟩) 2 2 [2, 3] _ rfl (by omega) (Rd.of_block hh (by rw [World.size_alloc, hz]; omega) (by simp [VI])))
  have HFB := Lib.hid (show ∀ q, Below w.heap.size w (((w6.alloc (.cells #[.int .i64 2] 3)).drewN q).alloc (.cells #[.int .i64 2, .int .i64 3] 3)) from fun q => (below_drewN (HB6.out.alloc HB6.out.size _) q).alloc (by have := HB6.out.size; simp; omega) _)
  clear hc hlt d3
  go_wp2_with (first
    | (go_at_call 22; refine HI.out.mono ?_; rintro e w' ⟨rfl, qq, rfl⟩)
    | (go_at_call 16; refine (HIS.out qq).mono ?_; rintro e w' ⟨rfl, rfl⟩)
    | (go_at_call 10; refine (HEL.out qq).mono ?_; rintro e w' ⟨rfl, rfl⟩))
  go_ret
  exact ⟨rfl, HFB.out _⟩
end Go.Proofs.YthnkeejiocnflaaGreatDoor
