/-
  The walk of the law CheckOwn.
-/
import Derived.Test.YthnkeejiocnflaaGreatDoorQChkS
import Derived.Test.YthnkeejiocnflaaGreatDoorQChkI
import Derived.Test.YthnkeejiocnflaaGreatDoorQWkCTexts
namespace Go.Proofs.YthnkeejiocnflaaGreatDoor
set_option linter.unusedVariables false
set_option linter.unusedSimpArgs false
open Go.RowKit
/-- The rows of an Inputs answer. -/
theorem InRow.lrow {w : World} {B : Nat} {A : Option Addr} {n c : Nat} {l : List (List Int)} (h : InRow w B A n c l) (hl : ∀ x ∈ l, x.length ≤ 1000000) : n = 0 ∨ ∃ g, A = some ⟨g, 0, none⟩ ∧ B ≤ g ∧ LRow w B g n 1000000 := by
  obtain ⟨vs, h0, h1, h2, h3⟩ := h
  by_cases hn : n = 0
  · exact .inl hn
  · rcases h1.form with ⟨_, e⟩ | ⟨g, cur, rfl, hb, hg, f1, f2, f3, f4⟩
    · rw [e] at h0
      exact absurd h0 hn
    · refine .inr ⟨g, rfl, hb, cur.toList, by rw [hg], by rw [h0]; simp; omega, fun j v hj hv => ?_⟩
      have hv2 : vs[j]? = some v := by
        rw [← f4, List.getElem?_take, if_pos (by omega)]
        exact hv
      have hx : l[j]? = some (l[j]'(by omega)) := List.getElem?_eq_getElem _
      obtain ⟨A', c', e, ho⟩ := h3 j v _ hv2 hx
      exact ⟨A', _, c', e, by have := OwnW.of ho; rwa [List.length_map] at this, hl _ (List.mem_of_getElem? hx)⟩
/-- One integer more, for a walk. -/
theorem app2 {w : World} {ops : Array Oper} {rest : List Oper} {o : Oper} {a : Act} {Q : Exit → Act → World → Prop} (hgd : o.guard = none) (s x : Operand)
    (ho : o.op = .call { callee := .builtin .append, args := #[s, x], argTypes := #[22, 22] }) (base : Nat)
    (A : Option Addr) (cap n : Nat) (hs : a.eval s = .slice A n cap) (hown : OwnW w base A n cap)
    (b : Nat) (y : Int) (hx : a.eval x = .slice (some ⟨b, 0, none⟩) 1 1) (hb : w.heap[b]? = some (.cells #[.int .i64 y] 3 (0, 0))) (hbytes : n ≤ 1000000) (hbase : base ≤ w.heap.size)
    (h : ∀ A' cap' w', OwnW w' base A' (n + 1) cap' → (∀ q, KQ q base w w') → Below base w w' → wpList Tryz.prog ops Q rest (a.put o.dst (.slice A' (n + 1) cap')) w') :
    wpList Tryz.prog ops Q (o :: rest) a w := by
  obtain ⟨xs, hl, hO⟩ := hown.own
  obtain ⟨A', cap', w', hrun, h2, h3, h4⟩ := run_app2 base o.type A cap xs n hl hO b y hb hbytes hbase
  refine wpList_plain hgd fun K hK => ?_
  unfold Oper.wp execOp
  simp only [ho, resolve, invoke, builtin, Sem.run_bind, Sem.run_pure, Result.andThen_ok, List.map_toArray, List.map_cons, List.map_nil, hs, hx, hrun]
  refine hK _ _ (h A' cap' w' ?_ (fun q => KQ.grown hO h2 h3 h4) ?_)
  · have := OwnW.of h2
    rwa [List.length_append, hl] at this
  · rcases h4 with ⟨_, _, hg⟩ | ⟨_, hg⟩
    · exact grown_below (Below.refl _ _) hg hbase (fun k hk => (hO.lt k hk).1)
    · exact grown_below (A := none) (Below.refl _ _) hg hbase (fun k hk => by cases hk)
theorem OwnW.base {w : World} {B B' : Nat} {A : Option Addr} {n c : Nat} (h : OwnW w B A n c) (hb : B' ≤ B) : OwnW w B' A n c := by
  rcases h with h | ⟨g, cur, e, hg, r⟩
  · exact .inl h
  · exact .inr ⟨g, cur, e, by omega, r⟩
theorem LRow.base {w : World} {B B' q m bd : Nat} (h : LRow w B q m bd) (hb : B' ≤ B) : LRow w B' q m bd := by
  obtain ⟨svs, h1, h2, h3⟩ := h
  refine ⟨svs, h1, h2, fun j v hj hv => ?_⟩
  obtain ⟨A, n, c, e, ho, hn⟩ := h3 j v hj hv
  exact ⟨A, n, c, e, ho.base hb, hn⟩
theorem LRow.stay {w w' : World} {B q m bd : Nat} (h : LRow w B q m bd) {q' : Nat} (hq : q ≠ q') (hk : KQ q' B w w') : LRow w' B q m bd := by
  obtain ⟨svs, h1, _⟩ := id h
  exact h.keep hk ((hk.ko q _ hq h1 (fun cur e => by injection e with _ e _; exact absurd e (by decide))).trans h1.symm)
theorem inputsC_mem {ss : List SI} {p : Int} {x : List Int} (h : x ∈ inputsC ss p) : ∃ s ∈ ss, x = s.shape := by
  unfold inputsC at h
  obtain ⟨s, hs, rfl⟩ := List.mem_map.1 h
  exact ⟨s, (List.mem_filter.1 hs).1, rfl⟩
theorem InRow.len {w : World} {B : Nat} {A : Option Addr} {n c : Nat} {ss : List SI} {p : Int} {m : Nat} (h : InRow w B A n c (inputsC ss p)) (hm : ss.length ≤ m) : n ≤ m := by
  obtain ⟨vs, h0, _, h2, _⟩ := h
  have : (inputsC ss p).length ≤ ss.length := by
    unfold inputsC
    rw [List.length_map]
    exact List.length_filter_le _ _
  omega
/-- A row of the answer of Inputs. -/
def ORow (w : World) (B : Nat) (A : Option Addr) (n : Nat) : Prop := n = 0 ∨ ∃ g, A = some ⟨g, 0, none⟩ ∧ LRow w B g n 1000000
theorem ORow.stay {w w' : World} {B n : Nat} {A : Option Addr} (h : ORow w B A n) (hk : ∀ q, KQ q B w w') : ORow w' B A n := by
  rcases h with h | ⟨g, e, h⟩
  · exact .inl h
  · exact .inr ⟨g, e, h.stay (q' := g + 1) (by omega) (hk _)⟩
/-- What Inputs has answered. -/
structure OSt (w : World) (B pb : Nat) (A0 : Option Addr) (n0 c0 : Nat) (A1 : Option Addr) (n1 c1 : Nat) : Prop where
  hp : w.heap[pb]? = some (.cells #[.slice A0 n0 c0, .slice A1 n1 c1] 50 (0, 0))
  r0 : ORow w B A0 n0
  r1 : ORow w B A1 n1
  b0 : n0 ≤ 100000
  b1 : n1 ≤ 100000
theorem OSt.stay {w w' : World} {B pb n0 c0 n1 c1 : Nat} {A0 A1 : Option Addr} (h : OSt w B pb A0 n0 c0 A1 n1 c1) (hk : ∀ q, KQ q B w w') : OSt w' B pb A0 n0 c0 A1 n1 c1 :=
  ⟨(hk (pb + 1)).ko pb _ (by omega) h.hp (fun cur e => by injection e with _ e _; exact absurd e (by decide)), h.r0.stay hk, h.r1.stay hk, h.b0, h.b1⟩
theorem OSt.at_ {w : World} {B pb n0 c0 n1 c1 : Nat} {A0 A1 : Option Addr} (h : OSt w B pb A0 n0 c0 A1 n1 c1) {i : Nat} (hi : i < 2) : ∃ A n c, w.cell? ⟨pb, i, none⟩ = some (.slice A n c) ∧ ORow w B A n ∧ n ≤ 100000 := by
  have : i = 0 ∨ i = 1 := by omega
  rcases this with rfl | rfl
  · exact ⟨A0, n0, c0, cell_of_row _ _ 0 _ _ _ h.hp, h.r0, h.b0⟩
  · exact ⟨A1, n1, c1, cell_of_row _ _ 1 _ _ _ h.hp, h.r1, h.b1⟩
theorem OSt.same {w w' : World} {B pb n0 c0 n1 c1 : Nat} {A0 A1 : Option Addr} (h : OSt w B pb A0 n0 c0 A1 n1 c1) (hk : ∀ q, KQ q B w w') (i : Nat) : w'.cell? ⟨pb, i, none⟩ = w.cell? ⟨pb, i, none⟩ := by
  simp [World.cell?, h.hp, (h.stay hk).hp]
set_option maxRecDepth 100000 in
set_option maxHeartbeats 8000000 in
theorem CheckOwn_walk (w : World) (hg : ETyped w) (ht : ErrT w) (s : ByteArray) (hsz : s.size ≤ maxLen) :
    Calls Tryz.prog 6 #[.string s] w fun e w' => e = .returned (.bool true) ∧ Below w.heap.size w w' := by
  obtain ⟨s2, hs2⟩ : ∃ s2, s2 = s.extract 0 (minN s.size 4200) := ⟨_, rfl⟩
  have hz2 : s2.size ≤ 100000 := by
    have := (minN_le s.size 4200).2.1
    rw [hs2, ByteArray.size_extract]
    omega
  obtain ⟨F, hF6, hF⟩ : ∃ F, F ≤ 6200 ∧ ∀ l, scanM s2 = .toks l → 12 * l.length + 20 ≤ F := by
    cases h : scanM s2 with
    | toks l => exact ⟨12 * l.length + 20, by have := (scanM_len h).1; omega, fun l' h' => by injection h' with h'; subst h'; exact Nat.le_refl _⟩
    | err c p => exact ⟨0, by omega, fun l' h' => by cases h'⟩
  have HF := Lib.hid hF
  have HZ2 := Lib.hid hz2
  have HW := Lib.hid (cawake_true w hg ht)
  have HCUT := Lib.hid (fun W => cut_any s hsz W)
  rw [← hs2] at HCUT
  have HG := Lib.hid hg
  have HT := Lib.hid ht
  clear hs2 hz2 hF hg ht
  go_enter Tryz.func6, Tryz.ntmps6
  go_wp2_with (first
    | (go_at_call 9; refine HW.out.mono ?_; rintro e w1 ⟨rfl, b1⟩; have HB1 := Lib.hid b1; have HG1 := Lib.hid (HG.out.next b1); have HT1 := Lib.hid (HT.out.next b1); clear b1)
    | (go_at_call 13; refine (HCUT.out _).mono ?_; rintro e w' ⟨rfl, rfl⟩))
  refine (text_any s2 F w1 HZ2.out HG1.out HT1.out HF.out).mono ?_
  rintro e w2 ⟨hb2, h⟩
  rcases h with ⟨l, hl, he, SA, sc, EA, ec, rfl, oS, oE⟩ | ⟨l, c, p, v, hl, he, rfl, hv⟩ | ⟨c, p, v, hl, rfl, hv⟩
  · have hlen := (scanM_len hl).1
    have hns := loop_small he
    have hne := es_small F l
    have hS := oS.int
    have hE := oE.int
    have hsm0 : ∀ x ∈ (parseP F l).ss.map SI.of, x.shape.length ≤ 1000000 := fun x hx => by
      obtain ⟨y, hy, rfl⟩ := List.mem_map.1 hx
      have := (ss_small (scanM_names hl) F y hy).2
      show (y.shape.map Int.ofNat).length ≤ _
      rw [List.length_map]
      omega
    obtain ⟨ss, hss⟩ : ∃ ss, ss = (parseP F l).ss.map SI.of := ⟨_, rfl⟩
    obtain ⟨es, hes⟩ : ∃ es, es = (parseP F l).es.map EI.of := ⟨_, rfl⟩
    rw [← hss] at hS hsm0
    rw [← hes] at hE
    obtain ⟨ns, hn1⟩ : ∃ ns, ns = (parseP F l).ss.length := ⟨_, rfl⟩
    obtain ⟨ne, hn2⟩ : ∃ ne, ne = (parseP F l).es.length := ⟨_, rfl⟩
    have hls := Lib.hid (show ns = ss.length from by rw [hss, List.length_map, hn1])
    have hle := Lib.hid (show ne = es.length from by rw [hes, List.length_map, hn2])
    have hns' : ns ≤ 64 := by rw [hn1]; exact hns
    have hne' : ne ≤ 513 := by rw [hn2]; exact Nat.le_trans hne hlen
    rw [← hn1, ← hn2]
    have HG2 := Lib.hid (HG1.out.next hb2)
    have HB2 := Lib.hid (bnext HB1.out hb2)
    have HS2 := Lib.hid hS
    have HE2 := Lib.hid hE
    have HSM := Lib.hid hsm0
    clear hlen hns hne hS hE hss hes hn1 hn2 oS oE hl he hb2 hsm0
    go_wp2_with fail
    obtain ⟨w3, hw3⟩ : ∃ w3, w3 = w2.alloc (.cells #[.slice SA ns sc, .slice EA ne ec] 29) := ⟨_, rfl⟩
    rw [← hw3]
    have hb3 : Below w2.heap.size w2 w3 := by rw [hw3]; exact (Below.refl _ _).alloc (Nat.le_refl _) _
    have hA : w3.heap[w2.heap.size]? = some (.cells #[.slice SA ns sc, .slice EA ne ec] 29 (0, 0)) := by rw [hw3]; exact heap_alloc_new w2 _
    obtain ⟨tb, htb⟩ : ∃ tb, tb = w2.heap.size := ⟨_, rfl⟩
    rw [← htb] at hA ⊢
    have HTB := Lib.hid (fun W (hW : Below w3.heap.size w3 W) => (hW.block _ (Array.getElem?_eq_some_iff.1 hA).1).trans hA)
    have HG3 := Lib.hid (HG2.out.next hb3)
    have HB3 := Lib.hid (bnext HB2.out hb3)
    have HS3 := Lib.hid (HS2.out.next hb3)
    have HE3 := Lib.hid (HE2.out.next hb3)
    clear hw3 hb3 hA htb
    have HCK := Lib.hid (fun W (hW : Below w3.heap.size w3 W) => check_any SA EA ns ne sc ec ss es W hls.out hle.out (by omega) (by omega) (HS3.out.next hW) (HE3.out.next hW) (HG3.out.next hW))
    have HRC := Lib.hid (fun W (hW : Below w3.heap.size w3 W) => rcheck_any SA EA ns ne sc ec ss es W hls.out hle.out (by omega) (by omega) (HS3.out.next hW) (HE3.out.next hW))
    have HIN := Lib.hid (fun W (hW : Below w3.heap.size w3 W) => inputs_any SA EA ns ne sc ec ss W hls.out (by omega) (HS3.out.next hW) HSM.out)
    obtain ⟨r, hr⟩ : ∃ r, r = checkC ss es := ⟨_, rfl⟩
    have HR := Lib.hid hr
    rw [← hr] at HCK HRC
    clear hr
    refine ((HCK.out w3 (Below.refl _ _)).mono (fun e w4 (h : CheckOut _ _ _ e w4) => show Below w3.heap.size w3 w4 ∧ ∃ lA ln lc ev q, e = .returned (.tuple #[.slice lA ln lc, ev]) ∧ ln ≤ 1000 ∧ (ln = 0 ∨ (lA = some ⟨q, 0, none⟩ ∧ w3.heap.size ≤ q ∧ LRow w4 w3.heap.size q ln 10)) ∧ q < w4.heap.size ∧ ((∃ sh, r = .inl sh ∧ ev = .nilIface) ∨ ∃ c p ti xi, r = .inr (c, p) ∧ ev = .iface ti xi) from ?_)).mono ?_
    · obtain ⟨g1, g2⟩ := h
      cases hrr : r with
      | inl sh =>
        rw [hrr] at g2
        obtain ⟨q, rfl, hO⟩ := g2
        have hshl : ne = sh.length := by rw [hle.out, checkC_len (ss := ss) (by rw [← HR.out]; exact hrr)]
        have hLr := hO.lrow
        rw [← hshl] at hLr
        exact ⟨g1, _, _, _, _, q, rfl, by omega, .inr ⟨rfl, by obtain ⟨_, _, h, _⟩ := hO; exact h, hLr.more (by omega)⟩, by obtain ⟨_, h, _⟩ := hLr; exact (Array.getElem?_eq_some_iff.1 h).1, .inl ⟨sh, rfl, rfl⟩⟩
      | inr cp =>
        obtain ⟨c, p⟩ := cp
        rw [hrr] at g2
        obtain ⟨v, rfl, hv⟩ := g2
        obtain ⟨ti, xi, rfl⟩ := hv.iface
        exact ⟨g1, _, _, _, _, 0, rfl, by omega, .inl rfl, by have := HG3.out.lt; have := g1.size; omega, .inr ⟨c, p, ti, xi, rfl, rfl⟩⟩
    · rintro e w4 ⟨hb4, lA, ln, lc, ev, q, rfl, hln, hLq, hq4, hev⟩
      have hA4 := HTB.out _ hb4
      have z0 := cell_of_row _ _ 0 _ _ _ hA4
      have z1 := cell_of_row _ _ 1 _ _ _ hA4
      have HB4 := Lib.hid hb4
      have HLQ := Lib.hid hLq
      have HEV := Lib.hid hev
      have HIN4 := Lib.hid (HIN.out w4 hb4)
      clear hb4 hLq hev hA4
      go_upto_region 8 with (go_at_call 17; refine HIN4.out.mono ?_; rintro e w5 ⟨hb5, A0, n0, c0, A1, n1, c1, rfl, hI0, hI1⟩)
      obtain ⟨w6, hw6⟩ : ∃ w6, w6 = w5.alloc (.cells #[.slice A0 n0 c0, .slice A1 n1 c1] 50) := ⟨_, rfl⟩
      rw [← hw6]
      have hb6 : Below w5.heap.size w5 w6 := by rw [hw6]; exact (Below.refl _ _).alloc (Nat.le_refl _) _
      have hP : w6.heap[w5.heap.size]? = some (.cells #[.slice A0 n0 c0, .slice A1 n1 c1] 50 (0, 0)) := by rw [hw6]; exact heap_alloc_new w5 _
      obtain ⟨pb, hpb⟩ : ∃ pb, pb = w5.heap.size := ⟨_, rfl⟩
      rw [← hpb] at hP ⊢
      have hqp : q ≠ pb := by rw [hpb]; have := hb5.size; omega
      have HP := Lib.hid hP
      have HB46 := Lib.hid (bnext hb5 hb6)
      have HB36 := Lib.hid (HB4.out.trans (HB46.out.mono HB4.out.size))
      have HI0 := Lib.hid (hI0.next hb6)
      have HI1 := Lib.hid (hI1.next hb6)
      have HN0 := Lib.hid (HI0.out.len (m := 100000) (by have := hls.out; omega))
      have HN1 := Lib.hid (HI1.out.len (m := 100000) (by have := hls.out; omega))
      have HP0 := Lib.hid (HI0.out.lrow (fun x hx => by obtain ⟨y, hy, rfl⟩ := inputsC_mem hx; exact HSM.out y hy))
      have HP1 := Lib.hid (HI1.out.lrow (fun x hx => by obtain ⟨y, hy, rfl⟩ := inputsC_mem hx; exact HSM.out y hy))
      have HLR := Lib.hid (show ln = 0 ∨ (lA = some ⟨q, 0, none⟩ ∧ LRow w6 w3.heap.size q ln 10) from HLQ.out.imp_right fun h => ⟨h.1, h.2.2.keep (q' := q) (KQ.of HB46.out) (HB46.out.block q hq4)⟩)
      clear hw6 hb6 hb5 hP hpb hI0 hI1
      obtain ⟨B, hB⟩ : ∃ B, B = w3.heap.size := ⟨_, rfl⟩
      have HBB := Lib.hid hB
      rw [← hB] at HLR HB36
      clear hB
      have hB6 : B ≤ w6.heap.size := by rw [HBB.out]; have := HB36.out.size; omega
      go_wp2_with fail
      go_loopw [37] (fun iv wr => ∃ i : Nat, i ≤ ln ∧ iv = .int .i64 i ∧ KQ q B w6 wr ∧ Below B w6 wr ∧ (ln = 0 ∨ (lA = some ⟨q, 0, none⟩ ∧ LRow wr B q ln (10 + 9 * i)))) (fun iv _ => ln - (intOf iv).toNat)
      case atStart => exact ⟨0, by omega, rfl, KQ.refl _ _ _, Below.refl _ _, HLR.out⟩
      case round =>
        obtain ⟨i, hi, rfl, hK, hB, hL⟩ := hrel
        have HK := Lib.hid hK
        have HB := Lib.hid hB
        clear hK hB
        by_cases hlt : i < ln
        · obtain ⟨wo, rfl⟩ : ∃ wo, wo = wr := ⟨_, rfl⟩
          obtain ⟨hlA, hL2⟩ : lA = some ⟨q, 0, none⟩ ∧ LRow wo B q ln (10 + 9 * i) := hL.resolve_left (by omega)
          subst hlA
          have HL := Lib.hid hL2
          obtain ⟨A, n, c, hcell, hO, hn⟩ := hL2.at_ hlt
          have HO := Lib.hid hO
          have HC := Lib.hid hcell
          clear hL hL2 hO
          have i0 : (0 : Int) ≤ (i : Int) := by omega
          have i1 : (i : Int) < (ln : Int) := by omega
          have hBq : B ≤ q := by
            rcases HLQ.out with h | h
            · omega
            · rw [HBB.out]; exact h.2.1
          go_wp2_with fail
          go_loopw [45] (fun kv wk => ∃ k : Nat, k ≤ n ∧ kv = .int .i64 k ∧ KQ q B wo wk ∧ Below B wo wk ∧ wk.heap[q]? = wo.heap[q]?) (fun kv _ => n - (intOf kv).toNat)
          case atStart => exact ⟨0, by omega, rfl, KQ.refl _ _ _, Below.refl _ _, rfl⟩
          case round =>
            obtain ⟨k, hk, rfl, hKk, hBk, hq⟩ := hrel
            have HKK := Lib.hid hKk
            have HBK := Lib.hid hBk
            have HQ := Lib.hid hq
            clear hKk hBk hq
            have hcell' : wr.cell? ⟨q, i, none⟩ = some (.slice A n c) := by rw [← HC.out]; simp [World.cell?, HQ.out]
            by_cases hkn : k < n
            · have hOk := HO.out.keep HKK.out
              obtain ⟨g, cur, v, rfl, hbg, hgl, hgg, hgc, hgf⟩ := hOk.cell hkn
              have hqg : q ≠ g := fun e => by
                subst e
                obtain ⟨svs, h1, _⟩ := HL.out
                rw [HQ.out, h1] at hgg
                injection hgg with hgg
                injection hgg with _ hgg _
                exact absurd hgg (by decide)
              have HN := Lib.hid (show KQ q B wo (wr.setCell ⟨g, k, none⟩ (.int .i64 (-1))) ∧ Below B wo (wr.setCell ⟨g, k, none⟩ (.int .i64 (-1))) ∧ (wr.setCell ⟨g, k, none⟩ (.int .i64 (-1))).heap[q]? = wo.heap[q]? from ⟨HKK.out.trans (KQ.set_int hgg _), setCell_below HBK.out hbg _, (iset_ne _ g k _ hqg).trans HQ.out⟩)
              have k0 : (0 : Int) ≤ (k : Int) := by omega
              have k1 : (k : Int) < (n : Int) := by omega
              clear hgg hqg hOk hbg hgl
              go_wp2
              exact ⟨⟨k + 1, by omega, rfl, HN.out⟩, by simp [intOf]; omega⟩
            · obtain rfl : k = n := by omega
              clear hkn
              have HL2 := Lib.hid (HL.out.keep HKK.out HQ.out)
              have HKO := Lib.hid (HK.out.trans HKK.out)
              have HBO := Lib.hid (HB.out.trans HBK.out)
              clear HKK HBK
              obtain ⟨wv, rfl⟩ : ∃ wv, wv = wr := ⟨_, rfl⟩
              go_wp2_with fail
              go_loopw [9] (fun kv wk => ∃ k : Nat, k ≤ 9 ∧ kv = .int .i64 k ∧ KQ q B wv wk ∧ Below B wv wk ∧ LRow wk B q ln (10 + 9 * i + k)) (fun kv _ => 9 - (intOf kv).toNat)
              case atStart => exact ⟨0, by omega, rfl, KQ.refl _ _ _, Below.refl _ _, HL2.out⟩
              case round =>
                obtain ⟨j, hj, rfl, hKj, hBj, hLj⟩ := hrel
                have HKJ := Lib.hid (HKO.out.trans hKj)
                have HBJ := Lib.hid (HBO.out.trans hBj)
                have HKV := Lib.hid hKj
                have HBV := Lib.hid hBj
                clear hKj hBj
                have HLJ := Lib.hid hLj
                obtain ⟨Aj, nj, cj, hcj, hOj, hnj⟩ := hLj.at_ hlt
                have HOJ := Lib.hid hOj
                clear hLj hOj
                by_cases hj9 : j < 9
                · have j9 : (j : Int) < 9 := by omega
                  have j0 : (0 : Int) ≤ (j : Int) := by omega
                  have hnj' : nj ≤ 1000000 := by omega
                  obtain ⟨wz, hwz⟩ : ∃ wz, wz = wr.alloc (.cells #[.int .i64 (-2)] 3) := ⟨_, rfl⟩
                  have bz : Below wr.heap.size wr wz := by rw [hwz]; exact (Below.refl _ _).alloc (Nat.le_refl _) _
                  have hz : wz.heap[wr.heap.size]? = some (.cells #[.int .i64 (-2)] 3 (0, 0)) := by rw [hwz]; exact heap_alloc_new wr _
                  have HBZ := Lib.hid bz
                  have HWZ := Lib.hid hwz
                  have hBz : B ≤ wz.heap.size := by have := bz.size; have := HBJ.out.size; have := HBO.out.size; omega
                  have hqz : wz.heap[q]? = wr.heap[q]? := by
                    obtain ⟨svs, h1, _⟩ := HLJ.out
                    exact bz.block q (Array.getElem?_eq_some_iff.1 h1).1
                  have HLZ := Lib.hid (HLJ.out.keep (q' := q) (KQ.of bz) hqz)
                  have HKZ := Lib.hid (HKV.out.trans (KQ.of (q := q) (B := B) bz))
                  have HBZ2 := Lib.hid (HBV.out.trans (bz.mono (by have := HBJ.out.size; omega)))
                  have HOZ := Lib.hid (HOJ.out.keep (q := q) (KQ.of bz))
                  have czj : wz.cell? ⟨q, i, none⟩ = some (.slice Aj nj cj) := by rw [← hcj]; simp [World.cell?, hqz]
                  have HCZ := Lib.hid czj
                  clear bz hwz hqz
                  go_wp2_with (rw [← HWZ.out]; refine app2 rfl (.tmp 64) (.tmp 65) rfl B Aj cj nj rfl HOZ.out wr.heap.size (-2) rfl hz hnj' hBz ?_; intro A8 c8 w8 hO8 hK8 hB8; have hq8 : w8.heap[q]? = wz.heap[q]? := (by obtain ⟨svs, h1, _⟩ := HLZ.out; rw [h1]; exact (hK8 (q + 1)).ko q _ (by omega) h1 (fun cur e => by injection e with _ e _; exact absurd e (by decide))); have c8z : w8.cell? ⟨q, i, none⟩ = some (.slice Aj nj cj) := (by rw [← HCZ.out]; simp [World.cell?, hq8]); have hL8 := HLZ.out.keep (hK8 q) hq8; have f8 := hL8.free i; have HL9 := Lib.hid ((hL8.more (bd' := 10 + 9 * i + (j + 1)) (by omega)).set i hO8 (by omega)); have HK9 := Lib.hid (show KQ q B wv (w8.setCell ⟨q, i, none⟩ (.slice A8 (nj + 1) c8)) from (by obtain ⟨svs, h1, _⟩ := hL8; exact (HKZ.out.trans (hK8 q)).trans (KQ.set_q h1 _))); have HB9 := Lib.hid (setCell_below (k := i) (HBZ2.out.trans hB8) hBq (.slice A8 (nj + 1) c8)); clear hO8 hK8 hB8 hq8 hL8)
                  exact ⟨⟨j + 1, by omega, rfl, HK9.out, HB9.out, HL9.out⟩, by simp [intOf]; omega⟩
                · obtain rfl : j = 9 := by omega
                  clear hj9
                  go_wp2
                  exact ⟨⟨i + 1, by omega, rfl, HKJ.out, HBJ.out, .inr ⟨trivial, HLJ.out.more (by omega)⟩⟩, by simp [intOf]; omega⟩
        · obtain rfl : i = ln := by omega
          clear hlt hL
          obtain ⟨wo, rfl⟩ : ∃ wo, wo = wr := ⟨_, rfl⟩
          have hB34 : B ≤ w4.heap.size := by rw [HBB.out]; exact HB4.out.size
          have HPS := Lib.hid (show OSt wo B pb A0 n0 c0 A1 n1 c1 from ⟨HK.out.ko pb _ (fun e => hqp e.symm) HP.out (fun cur e => by injection e with _ e _; exact absurd e (by decide)), HP0.out.imp_right fun ⟨g, e, hg, h⟩ => ⟨g, e, (h.base hB34).stay (by omega) HK.out⟩, HP1.out.imp_right fun ⟨g, e, hg, h⟩ => ⟨g, e, (h.base hB34).stay (by omega) HK.out⟩, HN0.out, HN1.out⟩)
          have HB6O := Lib.hid HB.out
          have hB6o : B ≤ wo.heap.size := by have := HB.out.size; omega
          clear HP0 HP1 HI0 HI1 HLR HLQ HK hqp HIN4
          go_wp2_with fail
          go_loopw [69] (fun iv wr => ∃ i : Nat, i ≤ 2 ∧ iv = .int .i64 i ∧ (∀ q, KQ q B wo wr) ∧ Below B wo wr) (fun iv _ => 2 - (intOf iv).toNat)
          case atStart => exact ⟨0, by omega, rfl, fun _ => KQ.refl _ _ _, Below.refl _ _⟩
          case round =>
            obtain ⟨i2, hi2, rfl, hK2, hB2⟩ := hrel
            have HK2 := Lib.hid hK2
            have HB2' := Lib.hid hB2
            clear hK2 hB2
            have HPS2 := Lib.hid (HPS.out.stay HK2.out)
            by_cases hlt2 : i2 < 2
            · obtain ⟨A, n, c, hcell, hR, hn6⟩ := HPS2.out.at_ hlt2
              have HR2 := Lib.hid hR
              have HC2 := Lib.hid hcell
              clear hR
              have i0 : (0 : Int) ≤ (i2 : Int) := by omega
              have i1 : (i2 : Int) < 2 := by omega
              obtain ⟨wp, rfl⟩ : ∃ wp, wp = wr := ⟨_, rfl⟩
              go_wp2_with fail
              go_loopw [76] (fun kv wk => ∃ k : Nat, k ≤ n ∧ kv = .int .i64 k ∧ (∀ q, KQ q B wp wk) ∧ Below B wp wk) (fun kv _ => n - (intOf kv).toNat)
              case atStart => exact ⟨0, by omega, rfl, fun _ => KQ.refl _ _ _, Below.refl _ _⟩
              case round =>
                obtain ⟨k, hk, rfl, hK3, hB3⟩ := hrel
                have HK3 := Lib.hid hK3
                have HB3' := Lib.hid hB3
                clear hK3 hB3
                have hcell3 : wr.cell? ⟨pb, i2, none⟩ = some (.slice A n c) := (HPS2.out.same HK3.out i2).trans HC2.out
                by_cases hkn : k < n
                · have HC3 := Lib.hid hcell3
                  obtain ⟨g, rfl, hLg⟩ := (HR2.out.stay HK3.out).resolve_left (by omega)
                  obtain ⟨A', n', c', hcg, hOg, hng⟩ := hLg.at_ hkn
                  have HOg := Lib.hid hOg
                  have HLg := Lib.hid hLg
                  have HCg := Lib.hid hcg
                  clear hOg hLg
                  have k0 : (0 : Int) ≤ (k : Int) := by omega
                  have k1 : (k : Int) < (n : Int) := by omega
                  obtain ⟨wq, rfl⟩ : ∃ wq, wq = wr := ⟨_, rfl⟩
                  go_wp2_with fail
                  go_loopw [86] (fun jv wk => ∃ j : Nat, j ≤ n' ∧ jv = .int .i64 j ∧ (∀ q, KQ q B wq wk) ∧ Below B wq wk) (fun jv _ => n' - (intOf jv).toNat)
                  case atStart => exact ⟨0, by omega, rfl, fun _ => KQ.refl _ _ _, Below.refl _ _⟩
                  case round =>
                    obtain ⟨j, hj, rfl, hK4, hB4'⟩ := hrel
                    have HK4 := Lib.hid hK4
                    have HB4' := Lib.hid hB4'
                    clear hK4 hB4'
                    have hcell4 : wr.cell? ⟨pb, i2, none⟩ = some (.slice (some ⟨g, 0, none⟩) n c) := ((HPS2.out.stay HK3.out).same HK4.out i2).trans HC3.out
                    have hcg4 : wr.cell? ⟨g, k, none⟩ = some (.slice A' n' c') := by
                      rw [← HCg.out]
                      obtain ⟨svs, h1, _⟩ := HLg.out
                      have h2 := (HK4.out (g + 1)).ko g _ (by omega) h1 (fun cur e => by injection e with _ e _; exact absurd e (by decide))
                      simp [World.cell?, h1, h2]
                    by_cases hjn : j < n'
                    · have hOk := HOg.out.keep (HK4.out 0)
                      obtain ⟨g', cur, v, rfl, hbg, hgl, hgg, hgc, hgf⟩ := hOk.cell hjn
                      have HN := Lib.hid (show (∀ q, KQ q B wq (wr.setCell ⟨g', j, none⟩ (.int .i64 (-3)))) ∧ Below B wq (wr.setCell ⟨g', j, none⟩ (.int .i64 (-3))) from ⟨fun q => (HK4.out q).trans (KQ.set_int hgg _), setCell_below HB4'.out hbg _⟩)
                      have j0 : (0 : Int) ≤ (j : Int) := by omega
                      have j1 : (j : Int) < (n' : Int) := by omega
                      clear hgg hOk hbg hgl
                      go_wp2
                      exact ⟨⟨j + 1, by omega, rfl, HN.out⟩, by simp [intOf]; omega⟩
                    · obtain rfl : j = n' := by omega
                      clear hjn
                      have HN := Lib.hid (show (∀ q, KQ q B wp wr) ∧ Below B wp wr from ⟨fun q => (HK3.out q).trans (HK4.out q), HB3'.out.trans HB4'.out⟩)
                      go_wp2
                      exact ⟨⟨k + 1, by omega, rfl, HN.out⟩, by simp [intOf]; omega⟩
                · obtain rfl : k = n := by omega
                  clear hkn
                  have HN := Lib.hid (show (∀ q, KQ q B wo wr) ∧ Below B wo wr from ⟨fun q => (HK2.out q).trans (HK3.out q), HB2'.out.trans HB3'.out⟩)
                  go_wp2
                  exact ⟨⟨i2 + 1, by omega, rfl, HN.out⟩, by simp [intOf]; omega⟩
            · obtain rfl : i2 = 2 := by omega
              clear hlt2
              have HBE := Lib.hid (show Below w3.heap.size w3 wr from HBB.out ▸ ((HB36.out.trans HB6O.out).trans HB2'.out))
              have HTB9 := Lib.hid (HTB.out _ HBE.out)
              have z0 := cell_of_row _ _ 0 _ _ _ HTB9.out
              have z1 := cell_of_row _ _ 1 _ _ _ HTB9.out
              have HCK9 := Lib.hid (HCK.out _ HBE.out)
              clear HPS2 HK2 HPS
              have HBR := Lib.hid (bnext HB3.out HBE.out)
              have HGR := Lib.hid (HG3.out.next HBE.out)
              go_wp2_with fail
              refine HCK9.out.mono ?_
              rcases HEV.out with ⟨sh, hrr, rfl⟩ | ⟨c, p, ti0, xi0, hrr, rfl⟩
              · subst hrr
                rintro e w7 ⟨hb7, q7, rfl, hO7⟩
                have hshl : ne = sh.length := by rw [hle.out, checkC_len HR.out.symm]
                have hA7 := HTB.out _ (HBE.out.trans (hb7.mono HBE.out.size))
                have z0' := cell_of_row _ _ 0 _ _ _ hA7
                have z1' := cell_of_row _ _ 1 _ _ _ hA7
                have HRC7 := Lib.hid (HRC.out _ (HBE.out.trans (hb7.mono HBE.out.size)))
                have HB7 := Lib.hid (bnext HBR.out hb7)
                have HO7 := Lib.hid hO7.rd
                have HL := Lib.hid hshl
                clear hb7 hO7 hA7 hshl
                go_wp2_with (go_at_call 19; refine HRC7.out.mono ?_; rintro e w8 ⟨hb8, q8, X8, rfl, hR8, -⟩; have HB8 := Lib.hid (bnext HB7.out hb8); have HO8 := Lib.hid (HO7.out.next hb8); have HR8 := Lib.hid hR8.rd; clear hb8 hR8)
                have hne9 : ne ≤ 1000000 := by omega
                have HSM9 := Lib.hid (fun p => same_quiet (some ⟨q7, 0, none⟩) (some ⟨q8, 0, none⟩) ne ne ne ne sh sh (w8.drewN p) HL.out HL.out hne9 hne9 (HO8.out.next (below_drewN (Below.refl _ _) p)) (HR8.out.next (below_drewN (Below.refl _ _) p)))
                have HCD := Lib.hid (fun p => Code_nil (w8.drewN p))
                go_quiet (first
                  | (go_at_call 20; exact Calls.quiet_of_same ((HCD.out _).mono fun _ _ h => ⟨h.1, h.2.symm⟩))
                  | (go_at_call 18; exact Calls.quiet_of (HSM9.out _)))
                go_wp2
                go_ret
                exact ⟨by first | rfl | simp, below_drewN HB8.out _⟩
              · subst hrr
                have hc0 := checkC_code HR.out.symm
                rintro e w7 ⟨hb7, v, rfl, hv⟩
                have hA7 := HTB.out _ (HBE.out.trans (hb7.mono HBE.out.size))
                have z0' := cell_of_row _ _ 0 _ _ _ hA7
                have z1' := cell_of_row _ _ 1 _ _ _ hA7
                have HRC7 := Lib.hid (HRC.out _ (HBE.out.trans (hb7.mono HBE.out.size)))
                have HB7 := Lib.hid (bnext HBR.out hb7)
                have HG7 := Lib.hid (HGR.out.next hb7)
                have HV := Lib.hid hv
                obtain ⟨ti, xi, rfl⟩ := hv.iface
                clear hb7 hv hA7
                go_wp2_with (go_at_call 19; refine HRC7.out.mono ?_; rintro e w8 ⟨hb8, rfl⟩; have HB8 := Lib.hid (bnext HB7.out hb8); have HV8 := Lib.hid (HV.out.next hb8); have HG8 := Lib.hid (HG7.out.next hb8); clear hb8)
                have q0 : ((c : Int) != 0) = true := by unfold bne; rw [beq_eq_false_iff_ne.2 (by omega)]; rfl
                have hS0 : Below w8.heap.size w8 w8.drew := (Below.refl _ w8).drew
                refine wp_region_held_drew (S := (fun W => Below w8.heap.size w8 W)) (by kernel_rfl) hS0 (fun hHeld => ?_)
                refine wpAnyH_take (i := 0) (oi := _) (v := ?v1) rfl (by kernel_rfl) (by kernel_rfl) (by kernel_rfl) (fun _ _ _ h => h) ?y1 (by assumption) ?r1
                case y1 => refine Or.inl ⟨by kernel_rfl, fun w hSw => ?_⟩; (try dsimp only at hSw); go_simp; (try with_reducible rfl)
                simp only [Act.put, List.setIfInBounds_toArray, List.set_cons_zero, List.set_cons_succ]
                refine wpAnyH_take (i := 1) (oi := _) (v := ?v2) rfl (by kernel_rfl) (by kernel_rfl) (by kernel_rfl) (fun _ _ _ h => h) ?y2 (by assumption) ?r2
                case y2 => refine Or.inl ⟨by kernel_rfl, fun w hSw => ?_⟩; (try dsimp only at hSw); go_simp; (try with_reducible rfl)
                simp only [Act.put, List.setIfInBounds_toArray, List.set_cons_zero, List.set_cons_succ]
                refine wpAnyH_take (i := 2) (oi := _) (v := ?v3) rfl (by kernel_rfl) (by kernel_rfl) (by kernel_rfl) (fun _ _ _ h => h) ?y3 (by assumption) ?r3
                case y3 => refine Or.inl ⟨by kernel_rfl, fun w hSw => ?_⟩; (try dsimp only at hSw); go_simp; (try with_reducible rfl)
                simp only [Act.put, List.setIfInBounds_toArray, List.set_cons_zero, List.set_cons_succ]
                refine wpAnyH_take (i := 3) (oi := _) (v := ?v4) rfl (by kernel_rfl) (by kernel_rfl) (by kernel_rfl) (fun _ _ _ h => h) ?y4 (by assumption) ?r4
                case y4 => refine Or.inl ⟨by kernel_rfl, fun w hSw => ?_⟩; (try dsimp only at hSw); go_simp; (try with_reducible rfl)
                simp only [Act.put, List.setIfInBounds_toArray, List.set_cons_zero, List.set_cons_succ]
                refine wpAnyH_take (i := 4) (oi := _) (v := ?v5) rfl (by kernel_rfl) (by kernel_rfl) (by kernel_rfl) (fun _ _ _ h => h) ?y5 (by assumption) ?r5
                case y5 => refine Or.inl ⟨by kernel_rfl, fun w hSw => ?_⟩; (try dsimp only at hSw); go_simp; (try with_reducible rfl)
                simp only [Act.put, List.setIfInBounds_toArray, List.set_cons_zero, List.set_cons_succ]
                refine wpAnyH_take (i := 5) (oi := _) (v := ?v6) rfl (by kernel_rfl) (by kernel_rfl) (by kernel_rfl) (fun _ _ _ h => h) ?y6 (by assumption) ?r6
                case y6 => refine Or.inl ⟨by kernel_rfl, fun w hSw => ?_⟩; (try dsimp only at hSw); go_simp; (try with_reducible rfl)
                simp only [Act.put, List.setIfInBounds_toArray, List.set_cons_zero, List.set_cons_succ]
                refine wpAnyH_take (i := 6) (oi := _) (v := ?v7) rfl (by kernel_rfl) (by kernel_rfl) (by kernel_rfl) (fun _ _ _ h => h) ?y7 (by assumption) ?r7
                case y7 => refine Or.inl ⟨by kernel_rfl, fun w hSw => ?_⟩; (try dsimp only at hSw); go_simp; (try with_reducible rfl)
                simp only [Act.put, List.setIfInBounds_toArray, List.set_cons_zero, List.set_cons_succ]
                refine wpAnyH_take (i := 8) (oi := _) (v := ?v8) rfl (by kernel_rfl) (by kernel_rfl) (by kernel_rfl) (fun _ _ _ h => h) ?y8 (by assumption) ?r8
                case y8 => refine Or.inl ⟨by kernel_rfl, fun w hSw => ?_⟩; (try dsimp only at hSw); go_simp; (try with_reducible rfl)
                simp only [Act.put, List.setIfInBounds_toArray, List.set_cons_zero, List.set_cons_succ]
                refine wpAnyH_ready (rs := [7]) (by kernel_rfl) (by simp) ?_
                refine AllReadyH.cons (o := _) rfl (fun K hK => ?_) AllReadyH.nil
                go_simp
                go_at_call 20
                refine (Code_any _ _ _ _ (HG8.out.next hHeld) (HV8.out.next hHeld)).mono ?_
                rintro e w9 ⟨rfl, hb9⟩
                have hS9 : Below w8.heap.size w8 w9 := hHeld.trans (hb9.mono hHeld.size)
                refine hK.out _ _ hS9 (fun hHeld => ?_)
                clear hK K
                try simp only [Act.put, List.setIfInBounds_toArray, List.set_cons_zero, List.set_cons_succ]
                refine wpAnyH_take (i := 9) (oi := _) (v := ?v9) rfl (by kernel_rfl) (by kernel_rfl) (by kernel_rfl) (fun _ _ _ h => h) ?y9 (by assumption) ?r9
                case y9 => refine Or.inl ⟨by kernel_rfl, fun w hSw => ?_⟩; (try dsimp only at hSw); go_simp; (try with_reducible rfl)
                simp only [Act.put, List.setIfInBounds_toArray, List.set_cons_zero, List.set_cons_succ]
                refine wpAnyH_take (i := 10) (oi := _) (v := ?v10) rfl (by kernel_rfl) (by kernel_rfl) (by kernel_rfl) (fun _ _ _ h => h) ?y10 (by assumption) ?r10
                case y10 => refine Or.inl ⟨by kernel_rfl, fun w hSw => ?_⟩; (try dsimp only at hSw); go_simp; (try with_reducible rfl)
                simp only [Act.put, List.setIfInBounds_toArray, List.set_cons_zero, List.set_cons_succ]
                refine wpAnyH_take (i := 11) (oi := _) (v := ?v11) rfl (by kernel_rfl) (by kernel_rfl) (by kernel_rfl) (fun _ _ _ h => h) ?y11 (by assumption) ?r11
                case y11 => refine Or.inl ⟨by kernel_rfl, fun w hSw => ?_⟩; (try dsimp only at hSw); go_simp; (try with_reducible rfl)
                simp only [Act.put, List.setIfInBounds_toArray, List.set_cons_zero, List.set_cons_succ]
                refine wpAnyH_take (i := 12) (oi := _) (v := ?v12) rfl (by kernel_rfl) (by kernel_rfl) (by kernel_rfl) (fun _ _ _ h => h) ?y12 (by assumption) ?r12
                case y12 => refine Or.inl ⟨by kernel_rfl, fun w hSw => ?_⟩; (try dsimp only at hSw); go_simp; (try with_reducible rfl)
                simp only [Act.put, List.setIfInBounds_toArray, List.set_cons_zero, List.set_cons_succ]
                refine wpAnyH_take (i := 13) (oi := _) (v := ?v13) rfl (by kernel_rfl) (by kernel_rfl) (by kernel_rfl) (fun _ _ _ h => h) ?y13 (by assumption) ?r13
                case y13 => refine Or.inl ⟨by kernel_rfl, fun w hSw => ?_⟩; (try dsimp only at hSw); go_simp; (try with_reducible rfl)
                simp only [Act.put, List.setIfInBounds_toArray, List.set_cons_zero, List.set_cons_succ]
                refine wpAnyH_take (i := 14) (oi := _) (v := ?v14) rfl (by kernel_rfl) (by kernel_rfl) (by kernel_rfl) (fun _ _ _ h => h) ?y14 (by assumption) ?r14
                case y14 => refine Or.inl ⟨by kernel_rfl, fun w hSw => ?_⟩; (try dsimp only at hSw); go_simp; (try with_reducible rfl)
                simp only [Act.put, List.setIfInBounds_toArray, List.set_cons_zero, List.set_cons_succ]
                refine wpAnyH_take (i := 15) (oi := _) (v := undef) rfl (by kernel_rfl) (by kernel_rfl) (by kernel_rfl) (fun _ _ _ h => h) (Or.inr ⟨by kernel_rfl, rfl⟩) (by assumption) ?_
                simp only [Act.put, List.setIfInBounds_toArray, List.set_cons_zero, List.set_cons_succ]
                refine wpAnyH_take (i := 16) (oi := _) (v := undef) rfl (by kernel_rfl) (by kernel_rfl) (by kernel_rfl) (fun _ _ _ h => h) (Or.inr ⟨by kernel_rfl, rfl⟩) (by assumption) ?_
                simp only [Act.put, List.setIfInBounds_toArray, List.set_cons_zero, List.set_cons_succ]
                refine wpAnyH_take (i := 17) (oi := _) (v := undef) rfl (by kernel_rfl) (by kernel_rfl) (by kernel_rfl) (fun _ _ _ h => h) (Or.inr ⟨by kernel_rfl, rfl⟩) (by assumption) ?_
                simp only [Act.put, List.setIfInBounds_toArray, List.set_cons_zero, List.set_cons_succ]
                refine wpAnyH_take (i := 18) (oi := ⟨some 129, _, _, _, _, _⟩) (v := ?v15) rfl (by kernel_rfl) (by kernel_rfl) (by kernel_rfl) (fun _ _ _ h => h) ?y15 (by assumption) ?r15
                case y15 => refine Or.inl ⟨by kernel_rfl, fun w hSw => ?_⟩; (try dsimp only at hSw); go_simp; (try with_reducible rfl)
                simp only [Act.put, List.setIfInBounds_toArray, List.set_cons_zero, List.set_cons_succ]
                refine wpAnyH_take (i := 19) (oi := ⟨some 130, _, _, _, _, _⟩) (v := ?v16) rfl (by kernel_rfl) (by kernel_rfl) (by kernel_rfl) (fun _ _ _ h => h) ?y16 (by assumption) ?r16
                case y16 => refine Or.inl ⟨by kernel_rfl, fun w hSw => ?_⟩; (try dsimp only at hSw); go_simp; (try with_reducible rfl)
                simp only [Act.put, List.setIfInBounds_toArray, List.set_cons_zero, List.set_cons_succ]
                refine wpAnyH_take (i := 20) (oi := ⟨some 2, _, _, _, _, _⟩) (v := ?v17) rfl (by kernel_rfl) (by kernel_rfl) (by kernel_rfl) (fun _ _ _ h => h) ?y17 (by assumption) ?r17
                case y17 => refine Or.inl ⟨by kernel_rfl, fun w hSw => ?_⟩; (try dsimp only at hSw); go_simp; (try with_reducible rfl)
                simp only [Act.put, List.setIfInBounds_toArray, List.set_cons_zero, List.set_cons_succ]
                refine wpAnyH_done (by kernel_rfl) ?_ _
                go_wp2
                go_ret
                exact ⟨by first | rfl | simp, bnext HB8.out hHeld⟩
  · obtain ⟨ti, xi, rfl⟩ := hv.iface
    have HB2 := Lib.hid (bnext HB1.out hb2)
    clear hb2 hv hl he
    go_wp2
    go_ret
    exact ⟨rfl, HB2.out.alloc HB2.out.size _⟩
  · obtain ⟨ti, xi, rfl⟩ := hv.iface
    have HB2 := Lib.hid (bnext HB1.out hb2)
    clear hb2 hv hl
    go_wp2
    go_ret
    exact ⟨rfl, HB2.out.alloc HB2.out.size _⟩
end Go.Proofs.YthnkeejiocnflaaGreatDoor
