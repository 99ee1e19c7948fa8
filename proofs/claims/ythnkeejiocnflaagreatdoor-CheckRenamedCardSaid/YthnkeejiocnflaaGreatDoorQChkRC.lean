/-
  Walk of the reference's Check.
-/
import Derived.Test.YthnkeejiocnflaaGreatDoorQChkA4
import Derived.Test.YthnkeejiocnflaaGreatDoorQChkQ
import Derived.Test.YthnkeejiocnflaaGreatDoorQChkR
import Derived.Test.YthnkeejiocnflaaGreatDoorQChkV
import Derived.Deep.RegionHeld3
namespace Go.Proofs.YthnkeejiocnflaaGreatDoor
set_option linter.unusedVariables false
set_option linter.unusedSimpArgs false
open Go.RowKit
/-- What the reference's Check answers. -/
def RcheckOut (w : World) (ne : Nat) (r : Sum (List (List Int)) (Nat × Int)) (e : Ending) (w' : World) : Prop :=
  Below w.heap.size w w' ∧
  match r with
  | .inl shapes => ∃ q X, e = .returned (.tuple #[.slice (some ⟨q, 0, none⟩) ne ne, .int .i64 0, .int .i64 0]) ∧ RShp X w' q ne shapes ∧ w.heap.size ≤ q
  | .inr (c, p) => e = .returned (.tuple #[.slice none 0 0, .int .i64 (c : Int), .int .i64 p])
theorem nm_list {w : World} {ops : Array Oper} {rest : List Oper} {o : Oper} {a : Act} {Q : Exit → Act → World → Prop} (hgd : o.guard = none) (s x : Operand)
    (ho : o.op = .call { callee := .builtin .append, args := #[s, x], argTypes := #[75, 75] })
    (B sg ne : Nat) (NA : Option Addr) (nn nc : Nat) (names : Names) (sh : List (List Int)) (hS : RkSt w B sg ne NA nn nc names sh) (hs : a.eval s = .slice NA nn nc)
    (b : Nat) (n : ByteArray) (v : Value) (l : List Int) (hx : a.eval x = .slice (some ⟨b, 0, none⟩) 1 1) (hb : w.heap[b]? = some (.cells #[.string n, v] 78 (0, 0)))
    (hv : ShV (rkX sg NA) w v l) (he : elemsP l ≠ 0) (hnn : nn ≤ 1000000) (hB : B ≤ w.heap.size)
    (h : ∀ A' cap' w', RkSt w' B sg ne A' (nn + 1) cap' (names ++ [(n, l)]) sh → Below B w w' → (∀ k, k < w.heap.size → blk NA ≠ some k → w'.heap[k]? = w.heap[k]?) → wpList Tryz.prog ops Q rest (a.put o.dst (.slice A' (nn + 1) cap')) w') : wpList Tryz.prog ops Q (o :: rest) a w :=
  wpList_plain hgd fun _ hK => wp_nm s x ho B sg ne NA nn nc names sh hS hs b n v l hx hb hv he hnn hB fun A' cap' w' h1 h2 h3 => hK _ _ (h A' cap' w' h1 h2 h3)
theorem nm_step {w : World} {ops : Array Oper} {o : Oper} {a : Act} {K : Act → World → Prop} {Q : Exit → Act → World → Prop} {E : Prop} (hgd : o.guard = none) (s x : Operand)
    (ho : o.op = .call { callee := .builtin .append, args := #[s, x], argTypes := #[75, 75] })
    (B sg ne : Nat) (NA : Option Addr) (nn nc : Nat) (names : Names) (sh : List (List Int)) (hS : RkSt w B sg ne NA nn nc names sh) (hs : a.eval s = .slice NA nn nc)
    (b : Nat) (n : ByteArray) (v : Value) (l : List Int) (hx : a.eval x = .slice (some ⟨b, 0, none⟩) 1 1) (hb : w.heap[b]? = some (.cells #[.string n, v] 78 (0, 0)))
    (hv : ShV (rkX sg NA) w v l) (he : elemsP l ≠ 0) (hnn : nn ≤ 1000000) (hB : B ≤ w.heap.size)
    (h : ∀ A' cap' w', RkSt w' B sg ne A' (nn + 1) cap' (names ++ [(n, l)]) sh → Below B w w' → (∀ k, k < w.heap.size → blk NA ≠ some k → w'.heap[k]? = w.heap[k]?) → K (a.put o.dst (.slice A' (nn + 1) cap')) w') : if Region.wanted o (yielded ops a.tmps) = true then Oper.wp Tryz.prog o a w K Q else E := by
  have hw : Region.wanted o (yielded ops a.tmps) = true := by simp [Region.wanted, hgd]
  rw [if_pos hw]
  exact wp_nm s x ho B sg ne NA nn nc names sh hS hs b n v l hx hb hv he hnn hB h
/-- find as the checks use it. -/
theorem rfind_bool {X : Nat → Prop} {w : World} {A : Option Addr} {n c : Nat} {nv : List (ByteArray × Value)} {names : Names} (s : ByteArray) (hn : n = nv.length) (hl : n ≤ 1000000) (h : RdNm w A nv) (hr : NamR X w nv names) :
    Calls Tryz.prog 32 #[.slice A n c, .string s] w fun e w' => (∃ r : Int, e = .returned (.int .i64 r) ∧ decide ((0 : Int) ≤ r) = (findN names s).isSome ∧ decide (r < (0 : Int)) = (findN names s).isNone) ∧ w = w' := by
  refine (rfind_any A n c nv s w hn hl h).mono ?_
  rintro e w' ⟨⟨r, rfl, hf⟩, hw⟩
  refine ⟨⟨r, rfl, ?_⟩, hw⟩
  rcases hr.find s with ⟨h1, h2⟩ | ⟨v, l, h1, h2, _⟩
  · rcases hf with ⟨_, rfl⟩ | ⟨k, p, _, h3, _⟩
    · rw [h2]; exact ⟨rfl, rfl⟩
    · rw [h1] at h3; cases h3
  · rcases hf with ⟨h3, _⟩ | ⟨k, p, _, _, rfl⟩
    · rw [h1] at h3; cases h3
    · rw [h2]
      constructor <;> simp <;> omega
theorem rknew {w2 : World} {ne : Nat} {es : List EI} (hne : ne = es.length) {W : World} (hW : W = w2.alloc (.cells (List.replicate ne (Value.slice none 0 0)).toArray 22)) : RkSt W w2.heap.size w2.heap.size ne none 0 0 [] (es.map fun _ => []) := by
  have h6 : W.heap[w2.heap.size]? = some (.cells (List.replicate ne (Value.slice none 0 0)).toArray 22 (0, 0)) := by rw [hW]; exact heap_alloc_new w2 _
  refine ⟨Nat.le_refl _, ⟨[], World.ownsRow_nil W w2.heap.size _ 2, rfl, trivial⟩, ⟨_, h6, by simp, by simp [hne], fun j v l hv hl => ?_⟩, by simp [blk]⟩
  have hv' : v = .slice none 0 0 := (List.eq_of_mem_replicate (List.mem_of_getElem? hv))
  rw [List.getElem?_map, Option.map_eq_some_iff] at hl
  obtain ⟨_, _, rfl⟩ := hl
  rw [hv']
  exact ShV.nil _ _
theorem exprC_code {e : EI} {sh : List (List Int)} {names : Names} {c : Nat} (h : exprC e sh names = .inr c) : c = 140 ∨ c = 141 := by
  unfold exprC at h
  split at h
  · split at h
    · injection h with h
      exact .inl h.symm
    · cases h
  · dsimp only at h
    split at h
    · injection h with h
      exact .inr h.symm
    · cases h
theorem nmS_keep {w3 w w' : World} {eb sg root B : Nat} {NA : Option Addr} {u1 u2 u3 : Value} (he : eb < w.heap.size) (hs : sg < w.heap.size) (hne : blk NA ≠ some eb) (hns : blk NA ≠ some sg)
    (h : B ≤ w.heap.size ∧ w.cell? ⟨eb, 2, none⟩ = some u1 ∧ w.cell? ⟨eb, 4, none⟩ = some u2 ∧ w.cell? ⟨sg, root, none⟩ = some u3 ∧ Below B w3 w) (hb : Below B w w') (hk : ∀ k, k < w.heap.size → blk NA ≠ some k → w'.heap[k]? = w.heap[k]?) :
    B ≤ w'.heap.size ∧ w'.cell? ⟨eb, 2, none⟩ = some u1 ∧ w'.cell? ⟨eb, 4, none⟩ = some u2 ∧ w'.cell? ⟨sg, root, none⟩ = some u3 ∧ Below B w3 w' := by
  have e : ∀ o, w'.cell? ⟨eb, o, none⟩ = w.cell? ⟨eb, o, none⟩ := fun o => by unfold World.cell?; rw [hk eb he hne]
  have s : ∀ o, w'.cell? ⟨sg, o, none⟩ = w.cell? ⟨sg, o, none⟩ := fun o => by unfold World.cell?; rw [hk sg hs hns]
  exact ⟨Nat.le_trans h.1 hb.size, (e 2).trans h.2.1, (e 4).trans h.2.2.1, (s root).trans h.2.2.2.1, h.2.2.2.2.trans hb⟩
theorem nmS_alloc {w3 w : World} {eb sg root B : Nat} {u1 u2 u3 : Value} (he : eb < w.heap.size) (hs : sg < w.heap.size)
    (h : B ≤ w.heap.size ∧ w.cell? ⟨eb, 2, none⟩ = some u1 ∧ w.cell? ⟨eb, 4, none⟩ = some u2 ∧ w.cell? ⟨sg, root, none⟩ = some u3 ∧ Below B w3 w) (o : Obj) :
    B ≤ (w.alloc o).heap.size ∧ (w.alloc o).cell? ⟨eb, 2, none⟩ = some u1 ∧ (w.alloc o).cell? ⟨eb, 4, none⟩ = some u2 ∧ (w.alloc o).cell? ⟨sg, root, none⟩ = some u3 ∧ Below B w3 (w.alloc o) :=
  ⟨by simp; omega, (World.cell?_alloc_lt w o ⟨eb, 2, none⟩ he).trans h.2.1, (World.cell?_alloc_lt w o ⟨eb, 4, none⟩ he).trans h.2.2.1, (World.cell?_alloc_lt w o ⟨sg, root, none⟩ hs).trans h.2.2.2.1, h.2.2.2.2.alloc h.1 o⟩
theorem nmS_drew {w3 w : World} {eb sg root B : Nat} {u1 u2 u3 : Value} (h : B ≤ w.heap.size ∧ w.cell? ⟨eb, 2, none⟩ = some u1 ∧ w.cell? ⟨eb, 4, none⟩ = some u2 ∧ w.cell? ⟨sg, root, none⟩ = some u3 ∧ Below B w3 w) :
    B ≤ w.drew.heap.size ∧ w.drew.cell? ⟨eb, 2, none⟩ = some u1 ∧ w.drew.cell? ⟨eb, 4, none⟩ = some u2 ∧ w.drew.cell? ⟨sg, root, none⟩ = some u3 ∧ Below B w3 w.drew := ⟨h.1, h.2.1, h.2.2.1, h.2.2.2.1, h.2.2.2.2.drew⟩
set_option maxRecDepth 100000 in
set_option maxHeartbeats 8000000 in
theorem rcheck_any (SA EA : Option Addr) (ns ne sc ec : Nat) (ss : List SI) (es : List EI) (w : World) (hns : ns = ss.length) (hne : ne = es.length) (hl1 : ns ≤ 100000) (hl2 : ne ≤ 100000)
    (h1 : RdSI w w.heap.size SA ss) (h3 : RdEI w w.heap.size EA es) :
    Calls Tryz.prog 19 #[.agg #[.slice SA ns sc, .slice EA ne ec]] w (RcheckOut w ne (checkC ss es)) := by
  obtain ⟨w2, hw2⟩ : ∃ w2, w2 = w.alloc (.cells #[.slice SA ns sc, .slice EA ne ec] 29) := ⟨_, rfl⟩
  have hb2 : Below w.heap.size w w2 := by rw [hw2]; exact (Below.refl _ _).alloc (Nat.le_refl _) _
  have hA : w2.heap[w.heap.size]? = some (.cells #[.slice SA ns sc, .slice EA ne ec] 29 (0, 0)) := by rw [hw2]; exact heap_alloc_new w _
  have HW2 := Lib.hid hw2
  have HB2 := Lib.hid hb2
  have HNS := Lib.hid hns
  have HNE := Lib.hid hne
  have HT := Lib.hid (rtree_any SA EA ns ne sc ec ss es w2 hns hne ⟨by omega, by omega⟩ (h1.next hb2) (h3.next hb2))
  have HAW := Lib.hid (fun W (hW : Below w2.heap.size w2 W) => (hW.block _ (Array.getElem?_eq_some_iff.1 hA).1).trans hA)
  have H1 := Lib.hid (h1.next hb2)
  have H3 := Lib.hid (h3.next hb2)
  clear hw2 hb2 hA hns hne h1 h3
  cases htr : treeP ss es with
  | false =>
    rw [htr] at HT
    have HC := Lib.hid (show checkC ss es = .inr (130, 0) from by unfold checkC; rw [htr]; rfl)
    clear htr
    go_enter Tryz.func19, Tryz.ntmps19
    go_wp2_with fail
    rw [← HW2.out]
    refine HT.out.mono ?_
    rintro e w3 ⟨rfl, hb3⟩
    have HB3 := Lib.hid (bnext HB2.out hb3)
    clear hb3
    go_wp2
    go_ret3
    refine ⟨HB3.out, ?_⟩
    rw [HC.out]
    rfl
  | true =>
    rw [htr] at HT
    have HTR := Lib.hid htr
    have HEX := Lib.hid (show exsOk 0 es = true from by unfold treeP at htr; rw [Bool.and_eq_true] at htr; exact htr.1)
    have HSX := Lib.hid (show ∀ s ∈ ss, smOk ne s = true from by unfold treeP at htr; rw [Bool.and_eq_true, List.all_eq_true] at htr; rw [HNE.out]; exact htr.2)
    have HCC := Lib.hid (show checkC ss es = stmtsC es ss [] (es.map fun _ => []) 0 from by unfold checkC; rw [htr]; rfl)
    clear htr
    go_enter Tryz.func19, Tryz.ntmps19
    go_wp2_with fail
    rw [← HW2.out]
    refine HT.out.mono ?_
    rintro e w3 ⟨rfl, hb3⟩
    have hA3 := HAW.out _ hb3
    have z0 := cell_of_row _ _ 0 _ _ _ hA3
    have z1 := cell_of_row _ _ 1 _ _ _ hA3
    have HB3 := Lib.hid (bnext HB2.out hb3)
    have hlt3 : w.heap.size < w3.heap.size := (Array.getElem?_eq_some_iff.1 hA3).1
    obtain ⟨W6, hW6⟩ : ∃ W6, W6 = w3.alloc (.cells (List.replicate ne (Value.slice none 0 0)).toArray 22) := ⟨_, rfl⟩
    have hmk : (Instr.makeSlice 35 (.int .i64 (ne : Int)) (.int .i64 (ne : Int))).run Tryz.prog w3 = .ok (.slice (some ⟨w3.heap.size, 0, none⟩) ne ne) W6 := by
      rw [hW6]; exact make_shapes ne (by omega) w3 (ne : Int) rfl
    have HS6 := Lib.hid (rknew HNE.out hW6)
    have hb6 : Below w3.heap.size w3 W6 := by rw [hW6]; exact (Below.refl _ _).alloc (Nat.le_refl _) _
    have HB6 := Lib.hid hb6
    have hA6 := (hb6.block _ hlt3).trans hA3
    have y0 := cell_of_row _ _ 0 _ _ _ hA6
    have HA3 := Lib.hid hA3
    have HL3 := Lib.hid hlt3
    have H13 := Lib.hid (H1.out.next hb3)
    have H33 := Lib.hid (H3.out.next hb3)
    clear hb3 hA3 hW6 hb6 hA6 hlt3
    go_wp2
    clear z0 z1 y0 hmk
    obtain ⟨sg, hsg⟩ : ∃ sg, sg = w3.heap.size := ⟨_, rfl⟩
    have HSG := Lib.hid hsg
    have HS7 := Lib.hid (show RkSt W6 w3.heap.size sg ne none 0 0 [] (es.map fun _ => []) from by rw [hsg]; exact HS6.out)
    rw [← hsg]
    clear hsg HS6
    go_loopw [6, 7, 24] (fun v6 v7 v24 wr => ∃ (k inp : Nat) (NA : Option Addr) (nn nc : Nat) (names : Names) (sh : List (List Int)), k ≤ ns ∧ v24 = .int .i64 k ∧ v6 = .slice NA nn nc ∧ v7 = .int .i64 inp ∧ inp ≤ k ∧ nn ≤ k ∧ stmtsC es ss [] (es.map fun _ => []) 0 = stmtsC es (ss.drop k) names sh inp ∧ RkSt wr w3.heap.size sg ne NA nn nc names sh ∧ Below w3.heap.size w3 wr) (fun _ _ v24 _ => ns - (intOf v24).toNat)
    case atStart => exact ⟨0, 0, none, 0, 0, [], _, by omega, rfl, rfl, rfl, by omega, by omega, rfl, HS7.out, HB6.out⟩
    case round =>
      clear HS7 HB6
      obtain ⟨k, inp, NA, nn, nc, names, sh, hk, rfl, rfl, rfl, hinp, hnnk, hR, hS, hB⟩ := hrel
      have HR := Lib.hid hR
      have HS := Lib.hid hS
      have HB := Lib.hid hB
      have HTC := Lib.hid (fun W (hW : Below w3.heap.size w3 W) => (hW.block _ HL3.out).trans HA3.out)
      have hAr := HTC.out _ hB
      have z0 := cell_of_row _ _ 0 _ _ _ hAr
      have z1 := cell_of_row _ _ 1 _ _ _ hAr
      have r1 := H13.out.below hB
      clear hR hS hB hAr
      by_cases hlt : k < ns
      · have ht : ss[k]? = some (ss[k]'(by rw [← HNS.out]; exact hlt)) := List.getElem?_eq_getElem _
        obtain ⟨d, hd⟩ : ∃ d, d = ss[k]'(by rw [← HNS.out]; exact hlt) := ⟨_, rfl⟩
        rw [← hd] at ht
        have hsm := HSX.out d (List.mem_of_getElem? ht)
        have HX := Lib.hid (show stmtsC es ss [] (es.map fun _ => []) 0 = stmtsC es (d :: ss.drop (k + 1)) names sh inp from by
          rw [HR.out]
          obtain ⟨hi, he⟩ := List.getElem?_eq_some_iff.1 ht
          rw [List.drop_eq_getElem_cons hi, he])
        obtain ⟨b, o, rfl, hbl, c0, c1, c2, ⟨A', c', c3, c3r, c3n, c3c, c3d⟩, c4, c5⟩ := r1.at_ ht
        have i0 : (0 : Int) ≤ (k : Int) := by omega
        have i1 : (k : Int) < (ns : Int) := by omega
        obtain ⟨dk, dp, dn, dsh, de, dq⟩ := d
        dsimp only at c0 c1 c2 c3 c3r c3n c3c c4 c5
        obtain ⟨sl, hsl⟩ : ∃ sl, sl = dsh.length := ⟨_, rfl⟩
        rw [← hsl] at c3 c3n c3c
        obtain ⟨w4, hw4⟩ : ∃ w4, w4 = wr.alloc (.cells #[.int .i64 dk, .int .i64 dp, .string dn, .slice A' sl c', .int .i64 de, .int .i64 dq] 46) := ⟨_, rfl⟩
        have b4 : Below wr.heap.size wr w4 := by rw [hw4]; exact (Below.refl _ _).alloc (Nat.le_refl _) _
        have hE : w4.heap[wr.heap.size]? = some (.cells #[.int .i64 dk, .int .i64 dp, .string dn, .slice A' sl c', .int .i64 de, .int .i64 dq] 46 (0, 0)) := by rw [hw4]; exact heap_alloc_new wr _
        have HW4 := Lib.hid hw4
        have HS4 := Lib.hid (HS.out.next b4)
        have HB4 := Lib.hid (bnext HB.out b4)
        have hge3 := HB.out.size
        have HRS := Lib.hid (show RdX (rkX sg NA) w4 A' (dsh.map VI) from by
          rcases c3r with h | ⟨b3, o3, e3, h3, h3c⟩
          · exact .inl h
          · exact .inr ⟨b3, o3, e3, Nat.lt_of_lt_of_le (Nat.lt_of_lt_of_le h3 hge3) b4.size, fun hx => absurd (HS.out.ge _ hx) (by omega), fun j v hv => (b4.cell (p := ⟨b3, _, none⟩) (Nat.lt_of_lt_of_le h3 hge3)).trans (h3c j v hv)⟩)
        obtain ⟨eb, heb⟩ : ∃ eb, eb = wr.heap.size := ⟨_, rfl⟩
        rw [← heb] at hE
        have HEB := Lib.hid heb
        have hebx : ¬ rkX sg NA eb := fun hx => by have := HS.out.lt _ hx; omega
        have heb4 : eb < w4.heap.size := (Array.getElem?_eq_some_iff.1 hE).1
        have HEBX := Lib.hid (And.intro hebx heb4)
        have HKE := Lib.hid (show ∀ (W : World), W.heap[eb]? = w4.heap[eb]? → W.cell? ⟨eb, 0, none⟩ = some (.int .i64 dk) ∧ W.cell? ⟨eb, 1, none⟩ = some (.int .i64 dp) ∧ W.cell? ⟨eb, 2, none⟩ = some (.string dn) ∧ W.cell? ⟨eb, 3, none⟩ = some (.slice A' sl c') ∧ W.cell? ⟨eb, 4, none⟩ = some (.int .i64 de) ∧ W.cell? ⟨eb, 5, none⟩ = some (.int .i64 dq) from fun W h =>
          ⟨cell_of_row _ _ 0 _ _ _ (h.trans hE), cell_of_row _ _ 1 _ _ _ (h.trans hE), cell_of_row _ _ 2 _ _ _ (h.trans hE), cell_of_row _ _ 3 _ _ _ (h.trans hE), cell_of_row _ _ 4 _ _ _ (h.trans hE), cell_of_row _ _ 5 _ _ _ (h.trans hE)⟩)
        have HSL := Lib.hid hsl
        have HERR := Lib.hid (show ∀ (c : Nat) (p : Int) (w6 : World), stmtsC es ss [] (es.map fun _ => []) 0 = .inr (c, p) → Below w3.heap.size w4 w6 → RcheckOut w ne (checkC ss es) (.returned (.tuple #[.slice none 0 0, .int .i64 (c : Int), .int .i64 p])) w6 from fun c p w6 h hb6 => by
          refine ⟨HB3.out.trans ((HB4.out.trans hb6).mono HB3.out.size), ?_⟩
          rw [HCC.out, h])
        have hBw4 := Lib.hid HB4.out.size
        clear ht hd b4 hE heb hsl hw4 hebx heb4 hbl hge3
        have hdk : dk = 1 ∨ dk = 3 ∨ dk = 2 ∧ 0 ≤ de ∧ de < (ne : Int) := by
          unfold smOk at hsm
          simp only [Bool.or_eq_true, Bool.and_eq_true, beq_iff_eq, decide_eq_true_eq] at hsm
          rcases hsm with (h | h) | h
          · exact .inl h
          · exact .inr (.inl h)
          · exact .inr (.inr ⟨h.1.1, h.1.2, h.2⟩)
        clear hsm
        obtain ⟨tk, htk⟩ : ∃ tk, tk = takenP names dn := ⟨_, rfl⟩
        have HTK := Lib.hid htk
        obtain ⟨nv, n1, n2, n3⟩ := HS4.out.rdnm
        have HFB := Lib.hid (rfind_bool (c := nc) dn n1 (by omega) n2 n3)
        clear n1 n2 n3
        go_upto_region 10 with (fail)
        rw [← HW4.out, ← HEB.out]
        obtain ⟨f0, f1, f2, f3, f4, f5⟩ := HKE.out w4 rfl
        clear c0 c1 c2 c3 c4 c5 z0 z1
        go_cut [10] (fun s wx => s = .bool tk ∧ wx = w4)
        case first =>
          cases hf : (findN names dn).isSome with
          | true =>
            have hn : (findN names dn).isNone = false := by cases h : findN names dn with | none => rw [h] at hf; cases hf | some _ => rfl
            rw [hf, hn] at HFB
            have HT := Lib.hid (show tk = true from by rw [htk]; unfold takenP; rw [hf]; rfl)
            clear hf hn htk
            go_wp2_with (go_at_call 32; refine HFB.out.mono ?_; rintro e w' ⟨⟨r, rfl, hr1, hr2⟩, rfl⟩)
            go_meet
            exact ⟨by rw [HT.out], rfl⟩
          | false =>
            have hn : (findN names dn).isNone = true := by cases h : findN names dn with | none => rfl | some _ => rw [h] at hf; cases hf
            rw [hf, hn] at HFB
            have HT := Lib.hid (show tk = (dn.size == 0) from by rw [htk]; unfold takenP; rw [hf]; rfl)
            have z := size_beq dn
            rw [← HT.out] at z
            clear hf hn htk
            go_wp2_with (go_at_call 32; refine HFB.out.mono ?_; rintro e w' ⟨⟨r, rfl, hr1, hr2⟩, rfl⟩)
            go_meet
            exact ⟨by first | rfl | rw [z], rfl⟩
        case rest =>
          obtain ⟨rfl, hwc⟩ := hcut
          subst hwc
          rcases hdk with rfl | rfl | ⟨rfl, hde0, hde1⟩
          · have HL := Lib.hid (stmtsC_1 (es := es) (s := ⟨1, dp, dn, dsh, de, dq⟩) (ss.drop (k + 1)) names sh inp rfl)
            dsimp only at HL
            rw [← htk] at HL
            clear htk
            by_cases hp0 : dp < 0
            · have p0 : decide (dp < 0) = true := by simp; omega
              have HZ := Lib.hid (show stmtsC es ss [] (es.map fun _ => []) 0 = .inr (141, dq) from by rw [HX.out, HL.out, if_pos (.inl (by omega))])
              clear hp0
              go_wp2_with fail
              go_quiet (fail)
              go_wp2
              go_ret3
              exact HERR.out _ _ _ HZ.out (below_drewN (Below.refl _ _) _)
            · have p0 : decide (dp < 0) = false := by simp; omega
              by_cases hp1 : 1 < dp
              · have p1 : decide ((1 : Int) < dp) = true := by simp; omega
                have HZ := Lib.hid (show stmtsC es ss [] (es.map fun _ => []) 0 = .inr (141, dq) from by rw [HX.out, HL.out, if_pos (.inl (by omega))])
                clear hp0 hp1
                go_wp2_with fail
                go_quiet (fail)
                go_wp2
                go_ret3
                exact HERR.out _ _ _ HZ.out (below_drewN (Below.refl _ _) _)
              · have p1 : decide ((1 : Int) < dp) = false := by simp; omega
                have HEL := Lib.hid (relems_any A' sl c' dsh wc HSL.out c3n HRS.out.rd)
                obtain ⟨el, hel⟩ : ∃ el, el = elemsP dsh := ⟨_, rfl⟩
                rw [← hel] at HEL
                by_cases h0 : el = 0
                · subst h0
                  have HZ := Lib.hid (show stmtsC es ss [] (es.map fun _ => []) 0 = .inr (141, dq) from by rw [HX.out, HL.out, if_pos (.inr hel.symm)])
                  clear hel hp0 hp1
                  go_wp2_with (go_at_call 11; refine HEL.out.mono ?_; rintro e w' ⟨rfl, rfl⟩)
                  go_quiet (fail)
                  go_wp2
                  go_ret3
                  exact HERR.out _ _ _ HZ.out (below_drewN (Below.refl _ _) _)
                · have q0 : (el == 0) = false := by rw [beq_eq_false_iff_ne]; exact h0
                  have HPA := Lib.hid (show ¬ ((dp ≠ 0 ∧ dp ≠ 1) ∨ elemsP dsh = 0) from by rw [← hel]; omega)
                  have HEN := Lib.hid (show elemsP dsh ≠ 0 from by rw [← hel]; exact h0)
                  clear hel h0 hp0 hp1
                  cases tk with
                  | true =>
                    have HZ := Lib.hid (show stmtsC es ss [] (es.map fun _ => []) 0 = .inr (140, dq) from by rw [HX.out, HL.out, if_neg HPA.out]; rfl)
                    go_wp2_with (go_at_call 11; refine HEL.out.mono ?_; rintro e w' ⟨rfl, rfl⟩)
                    go_quiet (fail)
                    go_wp2
                    go_ret3
                    exact HERR.out _ _ _ HZ.out (below_drewN (Below.refl _ _) _)
                  | false =>
                    by_cases h8 : 8 ≤ inp
                    · have q8 : decide ((8 : Int) ≤ (inp : Int)) = true := by simp; omega
                      have HZ := Lib.hid (show stmtsC es ss [] (es.map fun _ => []) 0 = .inr (5, dq) from by rw [HX.out, HL.out, if_neg HPA.out, if_neg (by simp), if_pos h8])
                      clear h8
                      go_wp2_with (go_at_call 11; refine HEL.out.mono ?_; rintro e w' ⟨rfl, rfl⟩)
                      go_quiet (fail)
                      go_wp2
                      go_ret3
                      exact HERR.out _ _ _ HZ.out (below_drewN (Below.refl _ _) _)
                    · have q8 : decide ((8 : Int) ≤ (inp : Int)) = false := by simp; omega
                      have HZ := Lib.hid (show stmtsC es ss [] (es.map fun _ => []) 0 = stmtsC es (ss.drop (k + 1)) (names ++ [(dn, dsh)]) sh (inp + 1) from by rw [HX.out, HL.out, if_neg HPA.out, if_neg (by simp), if_neg h8])
                      have hvl : ShV (rkX sg NA) wc (.slice A' sl c') dsh := ⟨A', c', by rw [HSL.out], by rw [← HSL.out]; exact c3c, c3d, elemsP_len HEN.out, HRS.out⟩
                      have HVL := Lib.hid hvl
                      clear h8 hvl
                      go_wp2_with (first
                        | (go_at_call 11; refine HEL.out.mono ?_; rintro e w' ⟨rfl, rfl⟩)
                        | (at_builtin; (refine nm_list rfl (.tmp 78) (.tmp 84) rfl w3.heap.size sg ne NA nn nc names sh (HS4.out.next ((Below.refl _ _).alloc (Nat.le_refl _) _)) rfl wc.heap.size dn (.slice A' sl c') dsh rfl (heap_alloc_new wc _) (HVL.out.next ((Below.refl _ _).alloc (Nat.le_refl _) _)) HEN.out (by omega) (by simp; have := hBw4.out; omega) ?_); intro A2 c2 w6 hS6 hB6 hK6; have HS6 := Lib.hid hS6; have HB6 := Lib.hid ((HB4.out.alloc hBw4.out _).trans hB6); clear hS6 hB6 hK6))
                      exact ⟨⟨k + 1, inp + 1, A2, nn + 1, c2, _, _, by omega, rfl, rfl, rfl, by omega, by omega, HZ.out, HS6.out, HB6.out⟩, by simp [intOf]; omega⟩
          · have HL := Lib.hid (stmtsC_3 (es := es) (s := ⟨3, dp, dn, dsh, de, dq⟩) (ss.drop (k + 1)) names sh inp rfl)
            dsimp only at HL
            clear htk
            cases hn : (findN names dn).isNone with
            | true =>
              have HZ := Lib.hid (show stmtsC es ss [] (es.map fun _ => []) 0 = .inr (140, dq) from by rw [HX.out, HL.out, hn]; rfl)
              rw [hn] at HFB
              clear hn
              go_wp2_with (go_at_call 32; refine HFB.out.mono ?_; rintro e w' ⟨⟨r, rfl, hr1, hr2⟩, rfl⟩)
              go_quiet (fail)
              go_wp2
              go_ret3
              exact HERR.out _ _ _ HZ.out (below_drewN (Below.refl _ _) _)
            | false =>
              have HZ := Lib.hid (show stmtsC es ss [] (es.map fun _ => []) 0 = stmtsC es (ss.drop (k + 1)) names sh inp from by rw [HX.out, HL.out, hn]; rfl)
              rw [hn] at HFB
              clear hn
              go_wp2_with (go_at_call 32; refine HFB.out.mono ?_; rintro e w' ⟨⟨r, rfl, hr1, hr2⟩, rfl⟩)
              exact ⟨⟨k + 1, inp, NA, nn, nc, _, _, by omega, rfl, rfl, rfl, by omega, by omega, HZ.out, HS4.out, HB4.out⟩, by simp [intOf]; omega⟩
          · obtain ⟨root, rfl⟩ : ∃ r : Nat, de = (r : Int) := ⟨de.toNat, by omega⟩
            have hroot : root < ne := by omega
            have HL := Lib.hid (stmtsC_2 (es := es) (s := ⟨2, dp, dn, dsh, (root : Int), dq⟩) (ss.drop (k + 1)) names sh inp rfl)
            dsimp only at HL
            rw [Int.toNat_natCast, ← htk] at HL
            have hAr := HTC.out _ HB4.out
            have z0 := cell_of_row _ _ 0 _ _ _ hAr
            have z1 := cell_of_row _ _ 1 _ _ _ hAr
            have HR3 := Lib.hid (H33.out.below HB4.out)
            have HWI := Lib.hid (within_any (some ⟨b, o, none⟩) EA ns sc ne ec es root wc HNE.out hroot hl2 (HR3.out.more hBw4.out) HEX.out)
            clear htk hde0 hde1 hAr
            go_wp2_with (go_at_call 33; refine HWI.out.mono ?_; rintro e w5 ⟨rfl, hM, hb5⟩)
            have HM5 := Lib.hid hM
            have HS5 := Lib.hid (HS4.out.next hb5)
            have HB5 := Lib.hid (HB4.out.trans (hb5.mono hBw4.out))
            have HEB5 := Lib.hid (hb5.block eb HEBX.out.2)
            obtain ⟨gm, hgm⟩ : ∃ gm, gm = wc.heap.size + 1 := ⟨_, rfl⟩
            rw [← hgm] at HM5 ⊢
            have hgsg : gm ≠ sg := by have := HS4.out.lt _ (.inl rfl); omega
            have hebsg : eb ≠ sg := fun e => HEBX.out.1 (.inl e)
            have HGM := Lib.hid (And.intro hgsg (And.intro hebsg (And.intro HM5.out.lt (Nat.lt_of_lt_of_le HEBX.out.2 hb5.size))))
            have hB5s := Lib.hid HB5.out.size
            have hBNA := Lib.hid (show ∀ q, rkX sg NA q → w3.heap.size ≤ q from HS4.out.ge)
            clear hM hb5 hgm hgsg hebsg z0 z1 f0 f1 f2 f3 f4 f5
            go_loopw [12] (fun v12 wr => ∃ (i : Nat) (sh1 : List (List Int)), i ≤ root + 1 ∧ v12 = .int .i64 i ∧ exprsC es (withinP es root) names (root + 1) 0 sh = exprsC es (withinP es root) names (root + 1 - i) i sh1 ∧ RkSt wr w3.heap.size sg ne NA nn nc names sh1 ∧ Below w3.heap.size w3 wr ∧ w5.heap.size ≤ wr.heap.size ∧ ∀ q, q < w5.heap.size → q ≠ sg → wr.heap[q]? = w5.heap[q]?) (fun v12 _ => root + 1 - (intOf v12).toNat)
            case atStart => exact ⟨0, sh, by omega, rfl, rfl, HS5.out, HB5.out, Nat.le_refl _, fun _ _ _ => rfl⟩
            case round =>
              obtain ⟨i, sh1, hi, rfl, hR1, hS1, hB1, hsz1, hk1⟩ := hrel
              have HR1 := Lib.hid hR1
              have HS1 := Lib.hid hS1
              have HB1 := Lib.hid hB1
              have HK1 := Lib.hid hk1
              have HSZ1 := Lib.hid hsz1
              obtain ⟨f0, f1, f2, f3, f4, f5⟩ := HKE.out wr ((hk1 eb HGM.out.2.2.2 HGM.out.2.1).trans HEB5.out)
              have hM1 : MkB wr 4 gm ne (fun i => .bool (withinP es root i)) := (hk1 gm HGM.out.2.2.1 HGM.out.1).trans HM5.out
              clear hR1 hS1 hB1 hsz1 hk1
              by_cases hlt1 : i < root + 1
              · obtain ⟨m, hm⟩ : ∃ m, root + 1 - i = m + 1 := ⟨root - i, by omega⟩
                have hm2 : root + 1 - (i + 1) = m := by omega
                have j0 : (0 : Int) ≤ (i : Int) := by omega
                have j1 : (i : Int) < (ne : Int) := by omega
                have j2 : decide ((i : Int) ≤ (root : Int)) = true := by simp; omega
                have cm := hM1.cell (i := i) (by omega)
                clear hM1
                cases hmi : withinP es root i with
                | false =>
                  have HX1 := Lib.hid (show exprsC es (withinP es root) names (root + 1) 0 sh = exprsC es (withinP es root) names (root + 1 - (i + 1)) (i + 1) sh1 from by
                    rw [HR1.out, hm, hm2]
                    show (if withinP es root i then _ else _) = _
                    rw [hmi]
                    rfl)
                  rw [hmi] at cm
                  clear hmi hm hm2
                  go_wp2
                  exact ⟨⟨i + 1, sh1, by omega, rfl, HX1.out, HS1.out, HB1.out, HSZ1.out, HK1.out⟩, by simp [intOf]; omega⟩
                | true =>
                  have ht : es[i]? = some (es[i]'(by rw [← HNE.out]; omega)) := List.getElem?_eq_getElem _
                  obtain ⟨d, hd⟩ : ∃ d, d = es[i]'(by rw [← HNE.out]; omega) := ⟨_, rfl⟩
                  rw [← hd] at ht
                  have HT := Lib.hid ht
                  have HX1 := Lib.hid (show exprsC es (withinP es root) names (root + 1) 0 sh = (match exprC d sh1 names with | .inr c => .inr (c, d.pos) | .inl s => exprsC es (withinP es root) names (root + 1 - (i + 1)) (i + 1) (sh1.set i s)) from by
                    rw [HR1.out, hm, hm2]
                    show (if withinP es root i then _ else _) = _
                    rw [hmi, if_pos rfl, ht]
                    dsimp only
                    cases exprC d sh1 names <;> rfl)
                  rw [hmi] at cm
                  obtain ⟨b2, o2, rfl, hbl2, c0, c1, c2, ⟨A2, k2, c3, c3r, c3n, -⟩, c4⟩ := (H33.out.below HB1.out).at_ ht
                  have hAr := HTC.out _ HB1.out
                  have z1 := cell_of_row _ _ 1 _ _ _ hAr
                  have hmd := made_args (exsOk_at es 0 i _ HEX.out ht)
                  have hsm := fun (k : Nat) (x : Int) (hx : d.args[k]? = some x) => args_at HEX.out ht hx
                  obtain ⟨ek, en, eu, ea, ep⟩ := d
                  dsimp only at c0 c1 c2 c3 c3r c3n c4 hmd hsm HX1
                  obtain ⟨al, hal⟩ : ∃ al, al = ea.length := ⟨_, rfl⟩
                  rw [← hal] at c3 c3n hmd
                  obtain ⟨nv, n1, n2, n3⟩ := HS1.out.rdnm
                  have HRX := Lib.hid (rexpr_any (rkX sg NA) sg ne NA nn nc nv names sh1 ek en eu A2 al k2 ea ep wr i hal (c3r.more HB1.out.size) hsm (by omega) hmd n1 (by omega) hl2 n2 n3 HS1.out.sp HS1.out.lt)
                  have hi3 : i < ne := by omega
                  have HST := Lib.hid (show ∀ (w7 : World), Below wr.heap.size wr w7 → RkSt w7 w3.heap.size sg ne NA nn nc names sh1 ∧ (∃ sv, w7.cell? ⟨sg, i, none⟩ = some sv) ∧ w7.frozen? ⟨sg, i, none⟩ = false ∧ ∀ v, Below w3.heap.size w3 (w7.setCell ⟨sg, i, none⟩ v) ∧ w5.heap.size ≤ (w7.setCell ⟨sg, i, none⟩ v).heap.size ∧ ∀ q, q < w5.heap.size → q ≠ sg → (w7.setCell ⟨sg, i, none⟩ v).heap[q]? = w5.heap[q]? from fun w7 hb7 => by
                    have hs7 := HS1.out.next hb7
                    obtain ⟨Ai, ci, ni, si, _⟩ := hs7.sp.shape hi3
                    refine ⟨hs7, ⟨_, si⟩, hs7.free i, fun v => ⟨setCell_below (bnext HB1.out hb7) (hBNA.out _ (.inl rfl)) v, ?_, fun q hq hqs => ?_⟩⟩
                    · have := hb7.size
                      have := HSZ1.out
                      simp [World.setCell]
                      omega
                    · rw [nset_ne w7 ⟨sg, i, none⟩ v hqs, hb7.block q (Nat.lt_of_lt_of_le hq HSZ1.out)]
                      exact HK1.out q hq hqs)
                  have HTL := Lib.hid (show ∀ (W : World), Below w3.heap.size w3 W → W.cell? ⟨w.heap.size, 1, none⟩ = some (.slice (some ⟨b2, o2, none⟩) ne ec) ∧ W.cell? ⟨b2, o2 + i * 5 + 4, none⟩ = some (.int .i64 ep) from fun W hW => by
                    refine ⟨cell_of_row _ _ 1 _ _ _ (HTC.out _ hW), ?_⟩
                    have := (hW.cell (p := ⟨b2, o2 + i * 5 + 4, none⟩) hbl2).trans (HB1.out.cell (p := ⟨b2, o2 + i * 5 + 4, none⟩) hbl2).symm
                    rw [this]
                    exact c4)
                  clear hmi hm hm2 hd ht hmd hsm hal n1 n2 n3 c3r hAr hbl2
                  cases hx : exprC ⟨ek, en, eu, ea, ep⟩ sh1 names with
                  | inr c =>
                    have hc0 := exprC_code hx
                    have q9 : ((c : Int) != 0) = true := by unfold bne; rw [beq_eq_false_iff_ne.2 (by omega)]; rfl
                    have q9' : ((c : Int) == 0) = false := by rw [beq_eq_false_iff_ne]; omega
                    have HZ := Lib.hid (show stmtsC es ss [] (es.map fun _ => []) 0 = .inr (c, ep) from by rw [HX.out, HL.out, HX1.out, hx])
                    have HR9 := Lib.hid (HRX.out.mono (fun e w' (h : RexprOut _ _ _ e w') => show e = .returned (.tuple #[.slice none 0 0, .int .i64 (c : Int)]) ∧ Below wr.heap.size wr w' from by
                      obtain ⟨g1, g2⟩ := h
                      rw [hx] at g2
                      exact ⟨g2, g1⟩))
                    clear hx hc0
                    go_wp2_with (go_at_call 34; refine HR9.out.mono ?_; rintro e w7 ⟨rfl, hb7⟩; obtain ⟨_, ⟨sv, s1⟩, s2, s3⟩ := HST.out _ hb7; obtain ⟨s4, s5, -⟩ := s3 (.slice none 0 0); obtain ⟨y1, y2⟩ := HTL.out _ s4; have HB7 := Lib.hid s4; have HB17 := Lib.hid hb7; clear s3 s4 s5 hb7)
                    go_quiet (fail)
                    go_wp2
                    go_ret3
                    refine ⟨HB3.out.trans ((below_drewN HB7.out _).mono HB3.out.size), ?_⟩
                    rw [HCC.out, HZ.out]
                    rfl
                  | inl l =>
                    have HX9 := Lib.hid (show exprsC es (withinP es root) names (root + 1) 0 sh = exprsC es (withinP es root) names (root + 1 - (i + 1)) (i + 1) (sh1.set i l) from by rw [HX1.out, hx])
                    have HR9 := Lib.hid (HRX.out.mono (fun e w' (h : RexprOut _ _ _ e w') => show ∃ v, e = .returned (.tuple #[v, .int .i64 0]) ∧ ShV (rkX sg NA) w' v l ∧ Below wr.heap.size wr w' from by
                      obtain ⟨g1, g2⟩ := h
                      rw [hx] at g2
                      obtain ⟨v, h1, h2⟩ := g2
                      exact ⟨v, h1, h2, g1⟩))
                    clear hx
                    go_wp2_with (go_at_call 34; refine HR9.out.mono ?_; rintro e w7 ⟨v, rfl, hv7, hb7⟩; obtain ⟨s0, ⟨sv, s1⟩, s2, s3⟩ := HST.out _ hb7; obtain ⟨s4, s5, s6⟩ := s3 v; have hv9 := hv7; obtain ⟨Av, cv, rfl, -⟩ := hv9; have HB7 := Lib.hid s4; have HSZ7 := Lib.hid s5; have HK7 := Lib.hid s6; have HS7 := Lib.hid (s0.set hi3 hv7); clear s0 s3 s4 s5 s6 hb7 hv7)
                    exact ⟨⟨i + 1, _, by omega, rfl, HX9.out, HS7.out, HB7.out, HSZ7.out, HK7.out⟩, by simp [intOf]; omega⟩
              · obtain rfl : i = root + 1 := by omega
                have j2 : decide (((root : Int) + 1) ≤ (root : Int)) = false := by simp; omega
                have j3 : decide (((root + 1 : Nat) : Int) ≤ (root : Int)) = false := by simp; omega
                have HX1 := Lib.hid (show exprsC es (withinP es root) names (root + 1) 0 sh = .inl sh1 from by rw [HR1.out, Nat.sub_self]; rfl)
                clear hM1 hlt1 hi
                cases tk with
                | true =>
                  have HZ := Lib.hid (show stmtsC es ss [] (es.map fun _ => []) 0 = .inr (140, dq) from by rw [HX.out, HL.out, HX1.out]; rfl)
                  go_wp2_with fail
                  go_quiet (fail)
                  go_wp2
                  go_ret3
                  refine ⟨HB3.out.trans ((below_drewN HB1.out _).mono HB3.out.size), ?_⟩
                  rw [HCC.out, HZ.out]
                  rfl
                | false =>
                  have HZ := Lib.hid (show stmtsC es ss [] (es.map fun _ => []) 0 = stmtsC es (ss.drop (k + 1)) (names ++ [(dn, sh1.getD root [])]) sh1 inp from by rw [HX.out, HL.out, HX1.out]; rfl)
                  obtain ⟨nv, -, -, n3⟩ := HS4.out.rdnm
                  obtain ⟨svs, -, -, hshl, -⟩ := HS4.out.sp
                  have HEO := Lib.hid (exprsC_ok n3.ok (within_root es root) (by rw [← HNE.out]; exact hroot) (root + 1) 0 sh sh1 (by omega) (by omega) (by rw [hshl, HNE.out]) HX1.out)
                  obtain ⟨Ai, ci, ni, si, -, svi⟩ := HS1.out.sp.shape hroot
                  have HSV := Lib.hid svi
                  have j0 : (0 : Int) ≤ (root : Int) := by omega
                  have j1 : (root : Int) < (ne : Int) := by omega
                  have hebw : eb < wr.heap.size := Nat.lt_of_lt_of_le HGM.out.2.2.2 HSZ1.out
                  have hsgw : sg < wr.heap.size := HS1.out.lt _ (.inl rfl)
                  have HBW1 := Lib.hid HB1.out.size
                  have HLT1 := Lib.hid (And.intro hebw hsgw)
                  have HNA := Lib.hid (show blk NA ≠ some eb ∧ blk NA ≠ some sg from ⟨fun e => HEBX.out.1 (.inr e), HS4.out.ns⟩)
                  have S0 := Lib.hid (show w3.heap.size ≤ wr.heap.size ∧ wr.cell? ⟨eb, 2, none⟩ = some (.string dn) ∧ wr.cell? ⟨eb, 4, none⟩ = some (.int .i64 (root : Int)) ∧ wr.cell? ⟨sg, root, none⟩ = some (.slice Ai ni ci) ∧ Below w3.heap.size w3 wr from ⟨HB1.out.size, f2, f4, si, HB1.out⟩)
                  clear n3 hshl svi hebw hsgw
                  go_wp2_with fail
                  clear f0 f1 f2 f3 f4 f5 si
                  go_region_held3 (fun w' => w3.heap.size ≤ w'.heap.size ∧ w'.cell? ⟨eb, 2, none⟩ = some (.string dn) ∧ w'.cell? ⟨eb, 4, none⟩ = some (.int .i64 (root : Int)) ∧ w'.cell? ⟨sg, root, none⟩ = some (.slice Ai ni ci) ∧ Below w3.heap.size w3 w')
                    (first | with_reducible exact nmS_drew S0.out | assumption | exact nmS_drew (nmS_alloc HLT1.out.1 HLT1.out.2 S0.out _) | exact nmS_keep (by simp; have := HLT1.out.1; omega) (by simp; have := HLT1.out.2; omega) HNA.out.1 HNA.out.2 (nmS_drew (nmS_alloc HLT1.out.1 HLT1.out.2 S0.out _)) (by assumption) (by assumption))
                    (first
                      | (refine nm_step rfl (.tmp 129) (.tmp 138) rfl w3.heap.size sg ne NA nn nc names sh1 (HS1.out.next ((Below.refl _ _).alloc (Nat.le_refl _) _).drew) rfl wr.heap.size dn (.slice Ai ni ci) (sh1.getD root []) rfl (heap_alloc_new wr _) (HSV.out.next ((Below.refl _ _).alloc (Nat.le_refl _) _).drew) HEO.out (by omega) (by have := HBW1.out; simp; omega) ?_; intro A5 c5 w8 hS8 hB8 hK8))
                  all_goals
                    have hS9 : w3.heap.size ≤ w8.heap.size ∧ w8.cell? ⟨eb, 2, none⟩ = some (.string dn) ∧ w8.cell? ⟨eb, 4, none⟩ = some (.int .i64 (root : Int)) ∧ w8.cell? ⟨sg, root, none⟩ = some (.slice Ai ni ci) ∧ Below w3.heap.size w3 w8 := by assumption
                    have HS8 := Lib.hid hS8
                    have HB8 := Lib.hid hS9.2.2.2.2
                    clear hS8 hB8 hK8 hS9
                    go_wp2
                    exact ⟨⟨k + 1, inp, A5, nn + 1, c5, _, _, by omega, rfl, rfl, rfl, by omega, by omega, HZ.out, HS8.out, HB8.out⟩, by simp [intOf]; omega⟩
      · obtain rfl : k = ns := by omega
        have HZ := Lib.hid (show checkC ss es = .inl sh from by
          rw [HCC.out, HR.out, HNS.out, List.drop_length]
          rfl)
        clear hlt z0 z1
        go_wp2
        go_ret3
        refine ⟨HB3.out.trans (HB.out.mono HB3.out.size), ?_⟩
        rw [HZ.out]
        exact ⟨sg, _, rfl, HS.out.sp, by rw [HSG.out]; exact HB3.out.size⟩
end Go.Proofs.YthnkeejiocnflaaGreatDoor
