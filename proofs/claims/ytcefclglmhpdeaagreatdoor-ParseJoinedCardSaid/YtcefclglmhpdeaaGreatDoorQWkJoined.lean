/-
  The walk of the law ParseJoined.
-/
import Derived.Test.YtcefclglmhpdeaaGreatDoorQJoinW
import Derived.Test.YtcefclglmhpdeaaGreatDoorQPAwake
import Derived.Test.YtcefclglmhpdeaaGreatDoorQSameT
import Derived.BigRegion
import Derived.Deep.RegionHeld3
namespace Go.Proofs.YtcefclglmhpdeaaGreatDoor
set_option linter.unusedVariables false
set_option linter.unusedSimpArgs false
open Go.RowKit
theorem run_min_1500 (w : World) (ts : Array TypeId) (t : TypeId) (a : Nat) : (Builtin.min_ ts t #[.int .i64 (a : Int), .int .i64 1500]).run Tryz.prog w = .ok (.int .i64 (minN a 1500 : Nat)) w := run_min_lit w ts t a 1500
attribute [local go_sem ↓] run_min_1500
theorem tree_cellsJ {w w' : World} {g : Nat} {a b : Value} (hb : Below (w.alloc (.cells #[a, b] 26)).heap.size (w.alloc (.cells #[a, b] 26)) w') (hg : g = w.heap.size) : w'.heap[g]? = some (.cells #[a, b] 26 (0, 0)) := by
  subst hg
  exact (hb.block w.heap.size (by simp)).trans (heap_alloc_new w _)
theorem scan_toksJ (s : ByteArray) (l : List Tok) (w : World) (hs : s.size ≤ 100000) (hg : ETyped w) (ht : ErrT w) (hm : scanM s = .toks l) :
    Calls Tryz.prog 11 #[.string s] w fun e w' => Below w.heap.size w w' ∧ ∃ A cap, e = .returned (.tuple #[.slice A l.length cap, .nilIface]) := by
  refine (scan_any s w hs hg ht).mono ?_
  rintro e w' ⟨hb, h⟩
  rw [hm] at h
  rcases h with ⟨l', A, cap, he, h1, h2⟩ | ⟨c, p, v, he, _⟩
  · injection he with he
    subst he
    exact ⟨hb, A, cap, h1⟩
  · cases he
theorem blk_on' {w w' : World} {g : Nat} {o : Obj} (h : w.heap[g]? = some o) (hb : Below w.heap.size w w') : w'.heap[g]? = some o := (hb.block g (Array.getElem?_eq_some_iff.1 h).1).trans h
theorem loop_64 (L : List Tok) (f : Nat) : ∀ (n : Nat) (s : PS), s.ss.length ≤ 64 → (parseLoopP L n f s).err = none → (parseLoopP L n f s).ss.length ≤ 64 := by
  intro n
  induction n with
  | zero => intro s h _; exact h
  | succ n ih =>
    intro s h he
    rw [parseLoopP] at he ⊢
    split
    · rename_i hc
      rw [if_pos hc] at he
      have h1 := loop_er L f n _ he
      have h2 : s.ss.length ≠ 64 := fun h2 => body_full f s h2 h1
      have h3 := (stmt_i (L := L) f s).2.2.2
      exact ih _ (by omega) he
    · exact h
theorem loop_small {F : Nat} {L : List Tok} (h : (parseP F L).err = none) : (parseP F L).ss.length ≤ 64 := loop_64 L F F startP (Nat.zero_le _) h
theorem scan_pos {s : ByteArray} {l : List Tok} (h : scanM s = .toks l) (st : PS) : (nowP l st).pos ≤ s.size := by
  obtain ⟨r, hr, htk, _⟩ := scanM_iff h
  unfold nowP
  cases hx : l[st.i]? with
  | none => exact Nat.zero_le _
  | some t =>
    have hm := List.mem_of_getElem? hx
    rw [hr] at hm
    show t.pos ≤ s.size
    rcases List.mem_append.1 hm with hm | hm
    · have h1 := (toks_pos htk t hm).2.1
      have h2 : s.data.toList.length = s.size := by rw [Array.length_toList]; rfl
      omega
    · rw [List.mem_singleton.1 hm]
      exact Nat.le_refl _
theorem join_text {TA TB S : ByteArray} {l m : List Tok} {R0 R1 : PS} (hA : scanM TA = .toks l) (hB : scanM TB = .toks m) (hs : S.data.toList = TA.data.toList ++ 10 :: TB.data.toList) (h1 : TA.size ≤ 1500) (h2 : TB.size ≤ 1500) (hl : l.length + m.length ≤ 500)
    (F : Nat) (hF : F = 6500) (hR0 : R0 = parseP F l) (hR1 : R1 = parseP F m) (e0 : R0.err = none) (e1 : R1.err = none) (h64 : R0.ss.length + R1.ss.length ≤ 64) :
    ∃ L, scanM S = .toks L ∧ (parseP F L).err = none ∧ (parseP F L).ss = R0.ss ++ R1.ss.map (shS R0.es.length (TA.size + 1)) ∧ (parseP F L).es = R0.es ++ R1.es.map (shE R0.es.length (TA.size + 1)) := by
  obtain ⟨r0, a1, a2, a3, _⟩ := scanM_iff hA
  obtain ⟨r1, b1, b2, b3, _⟩ := scanM_iff hB
  have hlen : r0.length + r1.length + 2 ≤ 500 := by rw [a1, b1] at hl; simp at hl; omega
  refine ⟨_, scan_join a2 b2 hs (by omega) (by omega), ?_⟩
  have hj := join_law (r0 := r0) (r1 := r1) (z0 := endTok TA) (z1 := endTok TB) (TA.size + 1) F (toks_kind a2) rfl rfl (by omega) (by rw [← a1, ← hR0]; exact e0) (by rw [← b1, ← hR1]; exact e1) (by rw [← a1, ← b1, ← hR0, ← hR1]; exact h64)
  rw [← a1, ← b1, ← hR0, ← hR1] at hj
  rw [← b1, hj]
  refine ⟨st_err e1, rfl, rfl⟩
theorem row_cap {w : World} {base k n c : Nat} {T : TypeId} {A : Option Addr} {xs : List Value} (h : w.ownsRow base T k (.slice A n c) n xs) : n ≤ c := by
  rcases h.2 with ⟨hv, h0⟩ | ⟨g, cap', cur, hv, hb, hg, h1, h2, h3, h4⟩
  · omega
  · injection hv with a b c
    omega
theorem row_nil {w : World} {base k n c : Nat} {T : TypeId} {A : Option Addr} {xs : List Value} (h : w.ownsRow base T k (.slice A n c) n xs) : A = none ∨ ∃ b o, A = some ⟨b, o, none⟩ := by
  rcases row_form h with e | ⟨g, cur, e, _⟩
  · exact .inl e
  · exact .inr ⟨g, 0, e⟩
theorem keep6 {wr w1 w2 : World} {a b c : Nat} {v0 v1 v2 v3 v4 v5 : Value} (hb : Below w1.heap.size w1 w2)
    (h : Below wr.heap.size wr w1 ∧ w1.cell? ⟨a, 0, none⟩ = some v0 ∧ w1.cell? ⟨a, 1, none⟩ = some v1 ∧ w1.cell? ⟨b, 0, none⟩ = some v2 ∧ w1.cell? ⟨b, 1, none⟩ = some v3 ∧ w1.cell? ⟨c, 0, none⟩ = some v4 ∧ w1.cell? ⟨c, 1, none⟩ = some v5) :
    Below wr.heap.size wr w2 ∧ w2.cell? ⟨a, 0, none⟩ = some v0 ∧ w2.cell? ⟨a, 1, none⟩ = some v1 ∧ w2.cell? ⟨b, 0, none⟩ = some v2 ∧ w2.cell? ⟨b, 1, none⟩ = some v3 ∧ w2.cell? ⟨c, 0, none⟩ = some v4 ∧ w2.cell? ⟨c, 1, none⟩ = some v5 := by
  obtain ⟨h0, c0, c1, c2, c3, c4, c5⟩ := h
  have key : ∀ {p : Addr} {v : Value}, w1.cell? p = some v → w2.cell? p = some v := fun {p v} h => (hb.cell (World.block_lt_of_cell? w1 _ h)).trans h
  exact ⟨bnext h0 hb, key c0, key c1, key c2, key c3, key c4, key c5⟩
theorem text_form {W w' : World} {F : Nat} {S : ScanR} {e : Ending} (h : TextOut W F S e w') : Below W.heap.size W w' ∧ ∃ SA ns sc EA ne ec v, e = .returned (.tuple #[.agg #[.slice SA ns sc, .slice EA ne ec], v]) := by
  obtain ⟨hb, h⟩ := h
  refine ⟨hb, ?_⟩
  rcases h with ⟨l, _, _, SA, sc, EA, ec, he, _⟩ | ⟨l, c, p, v, _, _, he, _⟩ | ⟨c, p, v, _, he, _⟩
  · exact ⟨_, _, _, _, _, _, _, he⟩
  · exact ⟨_, _, _, _, _, _, _, he⟩
  · exact ⟨_, _, _, _, _, _, _, he⟩
set_option maxRecDepth 100000 in
set_option maxHeartbeats 4000000 in
theorem ParseJoined_walk (w : World) (hg : ETyped w) (ht : ErrT w) (sa : ByteArray) (hsa : sa.size ≤ maxLen) (sb : ByteArray) (hsb : sb.size ≤ maxLen) :
    Calls Tryz.prog 3 #[.string sa, .string sb] w fun e w' => e = .returned (.bool true) ∧ Below w.heap.size w w' := by
  obtain ⟨m1, m2, m3⟩ := minN_le sa.size 1500
  obtain ⟨k1, k2, k3⟩ := minN_le sb.size 1500
  obtain ⟨M, hM⟩ : ∃ M, M = minN sa.size 1500 := ⟨_, rfl⟩
  obtain ⟨K, hK⟩ : ∃ K, K = minN sb.size 1500 := ⟨_, rfl⟩
  rw [← hM] at m1 m2
  rw [← hK] at k1 k2
  clear m3 k3
  obtain ⟨TA, hTA⟩ : ∃ TA, TA = sa.extract 0 M := ⟨_, rfl⟩
  obtain ⟨TB, hTB⟩ : ∃ TB, TB = sb.extract 0 K := ⟨_, rfl⟩
  have hAs : TA.size ≤ 1500 := by rw [hTA, ByteArray.size_extract]; omega
  have hBs : TB.size ≤ 1500 := by rw [hTB, ByteArray.size_extract]; omega
  obtain ⟨F, hF⟩ : ∃ F, F = 6500 := ⟨_, rfl⟩
  have HFF := Lib.hid hF
  clear hF
  have HTA := Lib.hid hTA
  have HTB := Lib.hid hTB
  have HTY := Lib.hid ht
  have HG := Lib.hid hg
  have hm := hM.symm
  have hk := hK.symm
  clear hTA hTB hg ht hM hK
  go_enter Tryz.func3, Tryz.ntmps3
  go_wp2_with fail
  refine (pawake_true _ HG.out HTY.out).mono ?_
  rintro e w1 ⟨rfl, b1⟩
  have HG1 := Lib.hid (HG.out.next b1)
  have HT1 := Lib.hid (HTY.out.next b1)
  have HB1 := Lib.hid b1
  clear b1
  go_wp2_with fail
  go_region
  rw [← HTA.out, ← HTB.out]
  go_wp2_with fail
  refine (text_any TA F w1.drew (by omega) (show ETyped w1.drew from HG1.out) (show ErrT w1.drew from HT1.out) (fun l hl => by have := (scanM_len hl).1; have := HFF.out; omega)).mono ?_
  rintro e w2 ⟨b2, h⟩
  have b2 : Below w1.heap.size w1 w2 := (Below.refl w1.heap.size w1).drew.trans b2
  have HG2 := Lib.hid (HG1.out.next b2)
  have HT2 := Lib.hid (HT1.out.next b2)
  have HB2 := Lib.hid (bnext HB1.out b2)
  have bad : ∀ SA ns sc EA ne ec te xe, e = .returned (.tuple #[.agg #[.slice SA ns sc, .slice EA ne ec], .iface te xe]) → True := fun _ _ _ _ _ _ _ _ _ => trivial
  clear b2 bad
  rcases h with ⟨l, hR, hok, SA, sc, EA, ec, rfl, oS, oE⟩ | ⟨l, c, p, v, hR, hbad, rfl, he⟩ | ⟨c, p, v, hR, rfl, he⟩
  · obtain ⟨R0, hR0⟩ : ∃ R0, R0 = parseP F l := ⟨_, rfl⟩
    rw [← hR0] at oS oE hok ⊢
    obtain ⟨ns, hns⟩ : ∃ ns, ns = R0.ss.length := ⟨_, rfl⟩
    obtain ⟨ne, hne⟩ : ∃ ne, ne = R0.es.length := ⟨_, rfl⟩
    rw [← hns, ← hne]
    have HR0 := Lib.hid hR0
    have HNS := Lib.hid hns
    have HNE := Lib.hid hne
    have HR := Lib.hid hR
    have HOK := Lib.hid hok
    have HOS := Lib.hid oS
    have HOE := Lib.hid oE
    clear hR0 hns hne hR hok oS oE
    go_wp2_with fail
    refine (text_any TB F _ (by omega) (HG2.out.next (one_new w2 _)) (HT2.out.next (one_new w2 _)) (fun l hl => by have := (scanM_len hl).1; have := HFF.out; omega)).mono ?_
    rintro e w3 ⟨b3, h3⟩
    have hx := tree_cellsJ b3 rfl
    have HX := Lib.hid hx
    have x0 := cell_of_row _ _ 0 _ _ _ hx
    have x1 := cell_of_row _ _ 1 _ _ _ hx
    have x2 := (Array.getElem?_eq_some_iff.1 hx).1
    have b3' := bnext (one_new w2 _) b3
    have HB3 := Lib.hid (bnext HB2.out b3')
    have HG3 := Lib.hid (HG2.out.next b3')
    have HT3 := Lib.hid (HT2.out.next b3')
    have HOS3 := Lib.hid (OwnSX.rd HOS.out |>.next b3')
    have HOE3 := Lib.hid (OwnEX.rd HOE.out |>.next b3')
    have HSM := Lib.hid (And.intro HOS.out.small HOE.out.small)
    clear b3 b3' hx
    rcases h3 with ⟨m, hR, hok, SB, sc1, EB, ec1, rfl, oS, oE⟩ | ⟨m, c, p, v, hR, hbad, rfl, he⟩ | ⟨c, p, v, hR, rfl, he⟩
    · obtain ⟨R1, hR1⟩ : ∃ R1, R1 = parseP F m := ⟨_, rfl⟩
      rw [← hR1] at oS oE hok ⊢
      obtain ⟨ns1, hns⟩ : ∃ ns1, ns1 = R1.ss.length := ⟨_, rfl⟩
      obtain ⟨ne1, hne⟩ : ∃ ne1, ne1 = R1.es.length := ⟨_, rfl⟩
      rw [← hns, ← hne]
      have HR1 := Lib.hid hR1
      have HNS1 := Lib.hid hns
      have HNE1 := Lib.hid hne
      have HRB := Lib.hid hR
      have HOK1 := Lib.hid hok
      have HOS1 := Lib.hid oS
      have HOE1 := Lib.hid oE
      clear hR1 hns hne hR hok oS oE
      obtain ⟨w4, hw4⟩ : ∃ w4, w4 = w3.alloc (.cells #[.slice SB ns1 sc1, .slice EB ne1 ec1] 26) := ⟨_, rfl⟩
      have b4 : Below w3.heap.size w3 w4 := by rw [hw4]; exact one_new w3 _
      have hy : w4.heap[w3.heap.size]? = some (.cells #[.slice SB ns1 sc1, .slice EB ne1 ec1] 26 (0, 0)) := by rw [hw4]; exact heap_alloc_new w3 _
      have HW4 := Lib.hid hw4
      have HY := Lib.hid hy
      have HX4 := Lib.hid (blk_on' HX.out b4)
      have HB4 := Lib.hid (bnext HB3.out b4)
      have HG4 := Lib.hid (HG3.out.next b4)
      have HT4 := Lib.hid (HT3.out.next b4)
      have HOS4 := Lib.hid (HOS3.out.next b4)
      have HOE4 := Lib.hid (HOE3.out.next b4)
      have HPS4 := Lib.hid ((OwnSX.rd HOS1.out).next b4)
      have HPE4 := Lib.hid ((OwnEX.rd HOE1.out).next b4)
      clear hw4 b4 hy
      have hna : ns ≤ 64 := by
        have h1 := HOK.out
        rw [HR0.out] at h1
        have := loop_small h1
        rw [← HR0.out, ← HNS.out] at this
        exact this
      have hnb : ns1 ≤ 64 := by
        have h1 := HOK1.out
        rw [HR1.out] at h1
        have := loop_small h1
        rw [← HR1.out, ← HNS1.out] at this
        exact this
      by_cases h64 : 64 < ns + ns1
      · have q64 : decide ((64 : Int) < (ns : Int) + (ns1 : Int)) = true := by rw [decide_eq_true_eq]; omega
        clear h64
        go_wp2
        go_ret
        rw [← HW4.out]
        exact ⟨rfl, HB4.out⟩
      · have q64 : decide ((64 : Int) < (ns : Int) + (ns1 : Int)) = false := by rw [decide_eq_false_iff_not]; omega
        go_wp2_with fail
        rw [← HW4.out]
        refine (scan_toksJ TA l w4 (by omega) HG4.out HT4.out HR.out).mono ?_
        rintro e w5 ⟨b5, A5, c5, rfl⟩
        have HG5 := Lib.hid (HG4.out.next b5)
        have HT5 := Lib.hid (HT4.out.next b5)
        have HB45 := Lib.hid b5
        clear b5
        go_wp2_with fail
        refine (scan_toksJ TB m w5 (by omega) HG5.out HT5.out HRB.out).mono ?_
        rintro e w6 ⟨b6, A6, c6, rfl⟩
        have HG6 := Lib.hid (HG5.out.next b6)
        have HT6 := Lib.hid (HT5.out.next b6)
        have HB46 := Lib.hid (bnext HB45.out b6)
        clear b6
        have hll := (scanM_len HR.out).1
        have hlm := (scanM_len HRB.out).1
        obtain ⟨nl, hnl⟩ : ∃ nl, nl = l.length := ⟨_, rfl⟩
        obtain ⟨nm, hnm⟩ : ∃ nm, nm = m.length := ⟨_, rfl⟩
        rw [← hnl, ← hnm]
        have hnlb : nl ≤ 513 := by omega
        have hnmb : nm ≤ 513 := by omega
        have hlnm : l.length + m.length = nl + nm := by omega
        clear hnl hnm hll hlm
        by_cases h500 : 500 < nl + nm
        · have q500 : decide ((500 : Int) < (nl : Int) + (nm : Int)) = true := by rw [decide_eq_true_eq]; omega
          clear h500
          go_wp2
          go_ret
          exact ⟨rfl, bnext HB4.out HB46.out⟩
        · have q500 : decide ((500 : Int) < (nl : Int) + (nm : Int)) = false := by rw [decide_eq_false_iff_not]; omega
          have HL := Lib.hid (show l.length + m.length ≤ 500 from by omega)
          clear h500 hlnm
          obtain ⟨S, hS⟩ : ∃ S, S = TA ++ { data := #[10] } ++ TB := ⟨_, rfl⟩
          have HJ := Lib.hid (join_text (S := S) HR.out HRB.out (by rw [hS]; simp [ByteArray.data_append]) hAs hBs HL.out F HFF.out HR0.out HR1.out HOK.out HOK1.out (by rw [← HNS.out, ← HNS1.out]; omega))
          have HBD := Lib.hid (show Bd m 5000 R1 from by rw [HR1.out]; exact parse_bd (by have := HL.out; omega) (fun st => by have := scan_pos HRB.out st; omega) F)
          have hss : S.size ≤ 4000 := by rw [hS]; simp [ByteArray.size_append]; have : ({ data := #[10] } : ByteArray).size = 1 := rfl; omega
          go_wp2_with fail
          rw [← hS]
          clear hS
          refine (text_any2 S F w6 (by omega) HG6.out HT6.out (fun l hl => by have := (scanM_len hl).1; have := HFF.out; omega)).mono ?_
          rintro e w7 ⟨b7, h7⟩
          obtain ⟨LJ, j1, j2, j3, j4⟩ := HJ.out
          rcases h7 with ⟨lz, hR, hok, SC, sc2, EC, ec2, rfl, oS, oE, oP⟩ | ⟨lz, c, p, v, hR, hbad, rfl, he⟩ | ⟨c, p, v, hR, rfl, he⟩
          · have hlz : lz = LJ := by rw [j1] at hR; injection hR with h; exact h.symm
            subst hlz
            rw [j3, j4] at oP ⊢
            obtain ⟨XS, hXS⟩ : ∃ XS, XS = R0.ss := ⟨_, rfl⟩
            obtain ⟨XE, hXE⟩ : ∃ XE, XE = R0.es := ⟨_, rfl⟩
            obtain ⟨YS, hYS⟩ : ∃ YS, YS = R1.ss := ⟨_, rfl⟩
            obtain ⟨YE, hYE⟩ : ∃ YE, YE = R1.es := ⟨_, rfl⟩
            rw [← hXS, ← hXE, ← hYS, ← hYE] at oP ⊢
            have n0 : ns = XS.length := by rw [hXS]; exact HNS.out
            have n1 : ne = XE.length := by rw [hXE]; exact HNE.out
            have n2 : ns1 = YS.length := by rw [hYS]; exact HNS1.out
            have n3 : ne1 = YE.length := by rw [hYE]; exact HNE1.out
            rw [← n1] at oP ⊢
            have hd : ∃ d, d = TA.size + 1 := ⟨_, rfl⟩
            obtain ⟨d, hd⟩ := hd
            rw [← hd] at oP ⊢
            obtain ⟨Z, hZ⟩ := SZ.of oP
            rw [← mid_zero, ← mid_zero] at hZ
            obtain ⟨nz, hnz⟩ : ∃ nz, nz = (XS ++ YS.map (shS ne d)).length := ⟨_, rfl⟩
            obtain ⟨nez, hnez⟩ : ∃ nez, nez = (XE ++ YE.map (shE ne d)).length := ⟨_, rfl⟩
            rw [← hnz, ← hnez]
            rw [List.length_append, List.length_map, ← n0, ← n2] at hnz
            rw [List.length_append, List.length_map, ← n1, ← n3] at hnez
            have hneb : ne ≤ 500 := by
              have h1 : Bd l 5000 R0 := by rw [HR0.out]; exact parse_bd (by have := HL.out; omega) (fun st => by have := scan_pos HR.out st; omega) F
              have h2 := h1.el
              have h3 := h1.il
              have h4 := HL.out
              rw [HNE.out]
              omega
            have hne1b : ne1 ≤ 500 := by
              have h2 := HBD.out.el
              have h3 := HBD.out.il
              have h4 := HL.out
              rw [HNE1.out]
              omega
            have hYB : (∀ x ∈ YS, x.pos ≤ 5000 ∧ x.expr ≤ 5000) ∧ ∀ e ∈ YE, e.pos ≤ 5000 ∧ ∀ a ∈ e.args, a ≤ 5000 := by rw [hYS, hYE]; exact ⟨HBD.out.ss, HBD.out.es⟩
            have HYB := Lib.hid hYB
            obtain ⟨w8, hw8⟩ : ∃ w8, w8 = w7.alloc (.cells #[.slice SC nz sc2, .slice EC nez ec2] 26) := ⟨_, rfl⟩
            have b8 : Below w7.heap.size w7 w8 := by rw [hw8]; exact one_new w7 _
            have hz8 : w8.heap[w7.heap.size]? = some (.cells #[.slice SC nz sc2, .slice EC nez ec2] 26 (0, 0)) := by rw [hw8]; exact heap_alloc_new w7 _
            have HSZ := Lib.hid (hZ.next b8)
            obtain ⟨B0, hB0⟩ : ∃ B0, B0 = w6.heap.size := ⟨_, rfl⟩
            obtain ⟨B1, hB1⟩ : ∃ B1, B1 = w7.heap.size := ⟨_, rfl⟩
            have HB48 := Lib.hid (bnext (bnext HB46.out b7) b8)
            have h36 : w3.heap.size < B0 := by rw [hB0]; have h1 := (Array.getElem?_eq_some_iff.1 HY.out).1; have h2 := HB46.out.size; omega
            have h26 : w2.heap.size < B0 := by rw [hB0]; have h1 := (Array.getElem?_eq_some_iff.1 HX4.out).1; have h2 := HB46.out.size; omega
            have hb1 : B0 ≤ B1 := by rw [hB0, hB1]; exact b7.size
            have BX := Lib.hid (show ∀ wr, Fr2 B0 B1 w8 wr → wr.heap[w2.heap.size]? = some (.cells #[.slice SA ns sc, .slice EA ne ec] 26 (0, 0)) ∧ wr.heap[w3.heap.size]? = some (.cells #[.slice SB ns1 sc1, .slice EB ne1 ec1] 26 (0, 0)) ∧ wr.heap[B1]? = some (.cells #[.slice SC nz sc2, .slice EC nez ec2] 26 (0, 0)) from fun wr h =>
              ⟨(h.out _ (.inl h26)).trans (blk_on' HX4.out HB48.out), (h.out _ (.inl h36)).trans (blk_on' HY.out HB48.out), by rw [h.out _ (.inr (Nat.le_refl _)), hB1]; exact hz8⟩)
            rw [← hB0] at HSZ
            have HB68 := Lib.hid (show w8.heap.size ≤ B1 + 1 ∧ w4.heap.size ≤ B0 from by rw [hB0, hB1]; exact ⟨by rw [hw8]; simp, HB46.out.size⟩)
            have HW8 := Lib.hid hw8
            have HB1E := Lib.hid hB1
            have HHB1 := Lib.hid hb1
            have HXS := Lib.hid hXS
            have HXE := Lib.hid hXE
            have HYS := Lib.hid hYS
            have HYE := Lib.hid hYE
            clear hw8 b8 hz8 hB0 hB1 hb1 b7 oS oE oP hZ hYB j1 j2 j3 j4 hok hR hXS hXE hYS hYE h36 h26
            obtain ⟨p1, p2, p3⟩ := BX.out w8 (Fr2.refl _ _ _)
            have g0 := cell_of_row _ _ 0 _ _ _ p1
            have g1 := cell_of_row _ _ 1 _ _ _ p1
            have g2 := cell_of_row _ _ 0 _ _ _ p2
            have g3 := cell_of_row _ _ 1 _ _ _ p2
            have g4 := cell_of_row _ _ 0 _ _ _ p3
            have g5 := cell_of_row _ _ 1 _ _ _ p3
            clear p1 p2 p3
            have qz : ((nz : Int) != (ns : Int) + (ns1 : Int)) = false := by rw [bne_eq_false_iff_eq]; omega
            have qez : ((nez : Int) != (ne : Int) + (ne1 : Int)) = false := by rw [bne_eq_false_iff_eq]; omega
            have HNZ := Lib.hid hnz
            have HNEZ := Lib.hid hnez
            have HN0 := Lib.hid n0
            have HN1 := Lib.hid n1
            have HN2 := Lib.hid n2
            have HN3 := Lib.hid n3
            have HD := Lib.hid hd
            have hdb : d ≤ 1501 := by omega
            clear hnz hnez n0 n1 n2 n3 hd x0 x1
            have HG0 := Lib.hid g0
            rw [HW8.out] at g0 g1 g2 g3 g4 g5
            rw [HB1E.out] at g4 g5
            go_wp2
            rw [← HW8.out, ← HB1E.out]
            clear g0 g1 g2 g3 g4 g5
            go_loopw [113] (fun iv wr => IntsRel ns1 iv ∧ (SZ Z wr B0 SC sc2 (XS ++ midL (shS ne d) YS (intOf iv).toNat) EC ec2 (XE ++ midL (shE ne d) YE 0) ∧ Fr2 B0 B1 w8 wr)) (fun iv _ => ns1 - (intOf iv).toNat)
            case atStart => exact ⟨⟨0, by omega, rfl⟩, HSZ.out, Fr2.refl _ _ _⟩
            case round =>
              obtain ⟨⟨i, hi, rfl⟩, hz, hfr⟩ := hrel
              obtain ⟨p1, p2, p3⟩ := BX.out wr hfr
              have g0 := cell_of_row _ _ 0 _ _ _ p1
              have g1 := cell_of_row _ _ 1 _ _ _ p1
              have g2 := cell_of_row _ _ 0 _ _ _ p2
              have g3 := cell_of_row _ _ 1 _ _ _ p2
              have g4 := cell_of_row _ _ 0 _ _ _ p3
              have g5 := cell_of_row _ _ 1 _ _ _ p3
              clear p1 p2 p3
              have hin : (intOf (.int .i64 (i : Int))).toNat = i := by simp [intOf]
              rw [hin] at hz
              clear hin
              by_cases hlt : i < ns1
              · have hx : YS[i]? = some (YS[i]'(by rw [← HN2.out]; exact hlt)) := List.getElem?_eq_getElem _
                obtain ⟨y, hyy⟩ : ∃ y, y = YS[i]'(by rw [← HN2.out]; exact hlt) := ⟨_, rfl⟩
                rw [← hyy] at hx
                have hyb := HYB.out.1 y (List.mem_of_getElem? hx)
                have hget := mid_get (xs := XS) (f := shS ne d) hx
                rw [← HN0.out] at hget
                obtain ⟨q, hq⟩ : ∃ q, q = ns + i := ⟨_, rfl⟩
                rw [← hq] at hget
                obtain ⟨g, rfl, hgb, ⟨cur, hgl⟩, c0, c4, c5, hfz⟩ := hz.sAt hget
                have f4 := hfz (q * 6 + 4)
                have f5 := hfz (q * 6 + 5)
                have hgB : g < B1 := not_last (BX.out wr hfr).2.2 hgl (by decide) (by rw [hfr.size]; exact HB68.out.1)
                have HGB := Lib.hid (And.intro hgb hgB)
                obtain ⟨P, hP⟩ : ∃ P, P = y.pos + d := ⟨_, rfl⟩
                have c5' : wr.cell? ⟨g, q * 6 + 5, none⟩ = some (.int .i64 (P : Int)) := by rw [hP]; exact c5
                have c0' : wr.cell? ⟨g, q * 6, none⟩ = some (.int .i64 (y.kind : Int)) := c0
                clear c5 c0
                have HZ2 := Lib.hid hz
                have HFR := Lib.hid hfr
                have HGET := Lib.hid hget
                have HX := Lib.hid hx
                have HP := Lib.hid hP
                have HQ := Lib.hid hq
                have hqi : (ns : Int) + (i : Int) = (q : Int) := by omega
                have hqn : (q : Int) < (nz : Int) := by have := HNZ.out; omega
                have hq0 : (0 : Int) ≤ (q : Int) := by omega
                have hPP : (P : Int) - ((TA.size : Int) + 1) = (y.pos : Int) := by have := HD.out; omega
                have hyp : y.pos ≤ 5000 := hyb.1
                have hPb : P ≤ 6600 := by omega
                have hye : y.expr ≤ 5000 := hyb.2
                clear hz hfr hget hx hyy hP hq hfz hgl hgb hgB hyb
                by_cases hk : y.kind = 2
                · have qk : ((y.kind : Int) == 2) = true := by rw [beq_iff_eq]; omega
                  obtain ⟨E, hE⟩ : ∃ E, E = y.expr + ne := ⟨_, rfl⟩
                  have c4' : wr.cell? ⟨g, q * 6 + 4, none⟩ = some (.int .i64 (E : Int)) := by
                    rw [c4, hE]
                    unfold shS
                    rw [if_pos hk]
                  have hEE : (E : Int) - (ne : Int) = (y.expr : Int) := by omega
                  have hEw : IntKind.i64.wrap ((E : Int) - (ne : Int)) = (y.expr : Int) := by rw [hEE]; exact IntWalk.i64_in _ (by omega)
                  have HE := Lib.hid hE
                  have HK := Lib.hid hk
                  clear c4 hE hk
                  go_wp2_with fail
                  go_region
                  all_goals
                    go_wp2
                    have h1 := HZ2.out.setS (x' := { shS ne d y with pos := y.pos }) HGET.out rfl 5 (by decide) (.int .i64 (y.pos : Int)) (fun m2 => by unfold smCells shS; simp) rfl
                    have hq2 : q < (XS ++ midL (shS ne d) YS i).length := (List.getElem?_eq_some_iff.1 HGET.out).1
                    have h2 := h1.setS (i := q) (x := { shS ne d y with pos := y.pos }) (x' := y) (by rw [List.getElem?_set_self hq2]) rfl 4 (by decide) (.int .i64 (y.expr : Int)) (fun m2 => by unfold smCells shS; simp) rfl
                    rw [List.set_set] at h2
                    have h3 := mid_set (xs := XS) (f := shS ne d) HX.out
                    rw [← HN0.out, ← HQ.out] at h3
                    rw [h3] at h2
                    have h4 := (HFR.out.set (j := q * 6 + 5) HGB.out.1 HGB.out.2 (.int .i64 (y.pos : Int))).set (j := q * 6 + 4) HGB.out.1 HGB.out.2 (.int .i64 (y.expr : Int))
                    have e1 : (intOf (.int .i64 ((i : Int) + 1))).toNat = i + 1 := by first | (simp [intOf]; done) | (simp [intOf]; omega)
                    rw [e1]
                    exact ⟨⟨⟨i + 1, by omega, rfl⟩, ⟨h2.s, h2.e⟩, ⟨h4.os, h4.tape, h4.output, h4.size, h4.out⟩⟩, by first | (simp [intOf]; done) | (simp [intOf]; omega)⟩
                · have qk : ((y.kind : Int) == 2) = false := by rw [beq_eq_false_iff_ne]; omega
                  have HK := Lib.hid hk
                  have hsz : SZ Z (wr.setCell ⟨g, q * 6 + 5, none⟩ (.int .i64 (y.pos : Int))) B0 (some ⟨g, 0, none⟩) sc2 (XS ++ midL (shS ne d) YS (i + 1)) EC ec2 (XE ++ midL (shE ne d) YE 0) := by
                    have h1 := HZ2.out.setS (x' := y) HGET.out rfl 5 (by decide) (.int .i64 (y.pos : Int)) (fun m2 => by unfold smCells shS; simp [HK.out]) rfl
                    have h2 := mid_set (xs := XS) (f := shS ne d) HX.out
                    rw [← HN0.out, ← HQ.out] at h2
                    rw [h2] at h1
                    exact h1
                  have HSZ2 := Lib.hid hsz
                  have HFR2 := Lib.hid (HFR.out.set (j := q * 6 + 5) HGB.out.1 HGB.out.2 (.int .i64 (y.pos : Int)))
                  clear hk hsz c4
                  go_wp2
                  have e1 : (intOf (.int .i64 ((i : Int) + 1))).toNat = i + 1 := by first | (simp [intOf]; done) | (simp [intOf]; omega)
                  rw [e1]
                  exact ⟨⟨⟨i + 1, by omega, rfl⟩, HSZ2.out, HFR2.out⟩, by first | (simp [intOf]; done) | (simp [intOf]; omega)⟩
              · obtain rfl : ns1 = i := by omega
                rw [HN2.out, mid_end] at hz
                have HZ2 := Lib.hid hz
                have HFR := Lib.hid hfr
                clear hz hfr
                go_wp2
                clear g0 g1 g2 g3 g4 g5
                go_loopw [153] (fun iv wr => IntsRel ne1 iv ∧ (SZ Z wr B0 SC sc2 (XS ++ YS) EC ec2 (XE ++ midL (shE ne d) YE (intOf iv).toNat) ∧ Fr2 B0 B1 w8 wr)) (fun iv _ => ne1 - (intOf iv).toNat)
                case atStart => exact ⟨⟨0, by omega, rfl⟩, HZ2.out, HFR.out⟩
                case round =>
                  obtain ⟨⟨i, hi, rfl⟩, hz, hfr⟩ := hrel
                  clear HZ2 HFR
                  obtain ⟨p1, p2, p3⟩ := BX.out wr hfr
                  have g0 := cell_of_row _ _ 0 _ _ _ p1
                  have g1 := cell_of_row _ _ 1 _ _ _ p1
                  have g2 := cell_of_row _ _ 0 _ _ _ p2
                  have g3 := cell_of_row _ _ 1 _ _ _ p2
                  have g4 := cell_of_row _ _ 0 _ _ _ p3
                  have g5 := cell_of_row _ _ 1 _ _ _ p3
                  clear p1 p2 p3
                  have hin : (intOf (.int .i64 (i : Int))).toNat = i := by simp [intOf]
                  rw [hin] at hz
                  clear hin
                  by_cases hlt : i < ne1
                  · have hx : YE[i]? = some (YE[i]'(by rw [← HN3.out]; exact hlt)) := List.getElem?_eq_getElem _
                    obtain ⟨y, hyy⟩ : ∃ y, y = YE[i]'(by rw [← HN3.out]; exact hlt) := ⟨_, rfl⟩
                    rw [← hyy] at hx
                    have hyb := HYB.out.2 y (List.mem_of_getElem? hx)
                    have hget := mid_get (xs := XE) (f := shE ne d) hx
                    rw [← HN1.out] at hget
                    obtain ⟨q, hq⟩ : ∃ q, q = ne + i := ⟨_, rfl⟩
                    rw [← hq] at hget
                    obtain ⟨g, rfl, hgb, ⟨cur, hgl⟩, c4, ⟨A, c, c3⟩, hfz⟩ := hz.eAt hget
                    have f4 := hfz (q * 5 + 4)
                    have hgB : g < B1 := not_last (BX.out wr hfr).2.2 hgl (by decide) (by rw [hfr.size]; exact HB68.out.1)
                    obtain ⟨P, hP⟩ : ∃ P, P = y.pos + d := ⟨_, rfl⟩
                    have c4' : wr.cell? ⟨g, q * 5 + 4, none⟩ = some (.int .i64 (P : Int)) := by rw [hP]; exact c4
                    obtain ⟨na, hna⟩ : ∃ na, na = y.args.length := ⟨_, rfl⟩
                    have c3' : wr.cell? ⟨g, q * 5 + 3, none⟩ = some (.slice A na c) := by
                      rw [c3, hna]
                      unfold shE
                      rw [List.length_map]
                    clear c4 c3
                    have hnab : na ≤ 9223372036854775807 := by
                      have h1 := hz.e.small.2 _ (List.mem_of_getElem? hget)
                      unfold shE at h1
                      rw [List.length_map, ← hna] at h1
                      exact h1
                    have hP0 : (P : Int) - ((TA.size : Int) + 1) = (y.pos : Int) := by have := HD.out; omega
                    have hyp : y.pos ≤ 5000 := hyb.1
                    have hPb : P ≤ 6600 := by omega
                    have hqi : (ne : Int) + (i : Int) = (q : Int) := by omega
                    have hqn : (q : Int) < (nez : Int) := by have := HNEZ.out; omega
                    have hq0 : (0 : Int) ≤ (q : Int) := by omega
                    obtain ⟨Q0, hQ0⟩ : ∃ Q0, Q0 = XE ++ midL (shE ne d) YE i := ⟨_, rfl⟩
                    rw [← hQ0] at hz hget
                    have h1 := hz.setE (x' := { y with args := midL (fun a => a + ne) y.args 0 }) hget rfl 4 (by decide) (.int .i64 (y.pos : Int)) (fun m2 => by unfold exCells shE; simp) (by rw [mid_zero]; rfl)
                    have HZ3 := Lib.hid h1
                    have HFR3 := Lib.hid (hfr.set (j := q * 5 + 4) hgb hgB (.int .i64 (y.pos : Int)))
                    have HQ0 := Lib.hid hQ0
                    have HX := Lib.hid hx
                    have HYB2 := Lib.hid hyb
                    have HNA := Lib.hid hna
                    have HQ := Lib.hid hq
                    have HQL := Lib.hid (show q < Q0.length from (List.getElem?_eq_some_iff.1 hget).1)
                    clear hz hfr hget hx hyy hP hq hfz hgl hgb hgB hyb hna hQ0 h1
                    go_wp2
                    clear g0 g1 g2 g3 g4 g5 c3' c4' f4
                    go_loopw [179] (fun kv wr => IntsRel na kv ∧ (SZ Z wr B0 SC sc2 (XS ++ YS) (some ⟨g, 0, none⟩) ec2 (Q0.set q { y with args := midL (fun a => a + ne) y.args (intOf kv).toNat }) ∧ Fr2 B0 B1 w8 wr)) (fun kv _ => na - (intOf kv).toNat)
                    case atStart => exact ⟨⟨0, by omega, rfl⟩, HZ3.out, HFR3.out⟩
                    case round =>
                      obtain ⟨⟨k, hk, rfl⟩, hz, hfr⟩ := hrel
                      clear HZ3 HFR3
                      obtain ⟨p1, p2, p3⟩ := BX.out wr hfr
                      have g0 := cell_of_row _ _ 0 _ _ _ p1
                      have g1 := cell_of_row _ _ 1 _ _ _ p1
                      have g2 := cell_of_row _ _ 0 _ _ _ p2
                      have g3 := cell_of_row _ _ 1 _ _ _ p2
                      have g4 := cell_of_row _ _ 0 _ _ _ p3
                      have g5 := cell_of_row _ _ 1 _ _ _ p3
                      clear p1 p2 p3
                      have hin : (intOf (.int .i64 (k : Int))).toNat = k := by simp [intOf]
                      rw [hin] at hz
                      clear hin
                      by_cases hlt2 : k < na
                      · have ha : y.args[k]? = some (y.args[k]'(by rw [← HNA.out]; exact hlt2)) := List.getElem?_eq_getElem _
                        obtain ⟨a, haa⟩ : ∃ a, a = y.args[k]'(by rw [← HNA.out]; exact hlt2) := ⟨_, rfl⟩
                        rw [← haa] at ha
                        have hab := HYB2.out.2 a (List.mem_of_getElem? ha)
                        have hget : (Q0.set q { y with args := midL (fun a => a + ne) y.args k })[q]? = some { y with args := midL (fun a => a + ne) y.args k } := List.getElem?_set_self HQL.out
                        obtain ⟨g', hg', hgb, ⟨cur, hgl⟩, c4, ⟨A, c, c3⟩, hfz⟩ := hz.eAt hget
                        injection hg' with hg'
                        injection hg' with hg'
                        subst hg'
                        obtain ⟨b, rfl, hbb, ⟨cu2, hbl⟩, d0, d1, d2⟩ := hz.argAt hget rfl c3 (mid_get0 ha)
                        have c3' : wr.cell? ⟨g, q * 5 + 3, none⟩ = some (.slice (some ⟨b, 0, none⟩) na c) := by
                          rw [c3]
                          show some (Value.slice _ (midL (fun a => a + ne) y.args k).length c) = _
                          rw [mid_len, HNA.out]
                        have hbB : b < B1 := not_last (BX.out wr hfr).2.2 hbl (by decide) (by rw [hfr.size]; exact HB68.out.1)
                        obtain ⟨V, hV⟩ : ∃ V, V = a + ne := ⟨_, rfl⟩
                        have d0' : wr.cell? ⟨b, k, none⟩ = some (.int .i64 (V : Int)) := by rw [hV]; exact d0
                        have hVw : IntKind.i64.wrap ((V : Int) - (ne : Int)) = (a : Int) := by rw [show (V : Int) - (ne : Int) = (a : Int) from by omega]; exact IntWalk.i64_in _ (by omega)
                        have haw : IntKind.i64.wrap (a : Int) = (a : Int) := IntWalk.i64_in _ (by omega)
                        have h5 := d2 a
                        rw [List.set_set] at h5
                        have h6 : ({ y with args := midL (fun a => a + ne) y.args k } : Ex).args.set k a = midL (fun a => a + ne) y.args (k + 1) := mid_set0 ha
                        have h7 : ({ ({ y with args := midL (fun a => a + ne) y.args k } : Ex) with args := ({ y with args := midL (fun a => a + ne) y.args k } : Ex).args.set k a } : Ex) = { y with args := midL (fun a => a + ne) y.args (k + 1) } := by rw [h6]
                        rw [h7] at h5
                        have H5 := Lib.hid h5
                        have HFR4 := Lib.hid (hfr.set (j := k) hbb hbB (.int .i64 (a : Int)))
                        have k0 : (0 : Int) ≤ (k : Int) := by omega
                        have k1 : (k : Int) < (na : Int) := by omega
                        clear hz hfr ha haa hget hgb hgl c4 c3 hfz hbb hbl d0 d2 hbB hV h5 h6 h7
                        go_wp2_with fail
                        go_region
                        all_goals
                          go_wp2
                          have e1 : (intOf (.int .i64 ((k : Int) + 1))).toNat = k + 1 := by first | (simp [intOf]; done) | (simp [intOf]; omega)
                          rw [e1]
                          have h4 := HFR4.out
                          exact ⟨⟨⟨k + 1, by omega, rfl⟩, ⟨H5.out.s, H5.out.e⟩, ⟨h4.os, h4.tape, h4.output, h4.size, h4.out⟩⟩, by first | (simp [intOf]; done) | (simp [intOf]; omega)⟩
                      · obtain rfl : na = k := by omega
                        rw [HNA.out, mid_end] at hz
                        have h2 := mid_set (xs := XE) (f := shE ne d) HX.out
                        rw [← HN1.out, ← HQ.out, ← HQ0.out] at h2
                        have h3 : ({ y with args := y.args } : Ex) = y := rfl
                        rw [h3, h2] at hz
                        have HZ4 := Lib.hid hz
                        have HFR4 := Lib.hid hfr
                        clear hz hfr h2 h3
                        go_wp2
                        have e1 : (intOf (.int .i64 ((i : Int) + 1))).toNat = i + 1 := by first | (simp [intOf]; done) | (simp [intOf]; omega)
                        rw [e1]
                        exact ⟨⟨⟨i + 1, by omega, rfl⟩, HZ4.out, HFR4.out⟩, by first | (simp [intOf]; done) | (simp [intOf]; omega)⟩
                  · obtain rfl : ne1 = i := by omega
                    rw [HN3.out, mid_end] at hz
                    have HZ5 := Lib.hid hz
                    have HFR5 := Lib.hid hfr
                    have hS := hz.s
                    have hE := hz.e
                    have cS : ns ≤ sc2 := by
                      obtain ⟨ms, h1, h2, _⟩ := hS
                      have := row_cap h2
                      rw [List.length_append, ← HN0.out] at this
                      omega
                    have cE : ne ≤ ec2 := by
                      obtain ⟨ms, h1, h2, _⟩ := hE
                      have := row_cap h2
                      rw [List.length_append, ← HN1.out] at this
                      omega
                    have cS2 : XS.length + YS.length ≤ sc2 := by
                      obtain ⟨ms, h1, h2, _⟩ := hS
                      have := row_cap h2
                      rw [List.length_append] at this
                      exact this
                    have cE2 : XE.length + YE.length ≤ ec2 := by
                      obtain ⟨ms, h1, h2, _⟩ := hE
                      have := row_cap h2
                      rw [List.length_append] at this
                      exact this
                    have zS : cutA SC 0 6 sc2 = SC := by
                      obtain ⟨ms, h1, h2, _⟩ := hS
                      exact cutA_zero _ _ _ (row_nil h2)
                    have zE : cutA EC 0 5 ec2 = EC := by
                      obtain ⟨ms, h1, h2, _⟩ := hE
                      exact cutA_zero _ _ _ (row_nil h2)
                    have rS := OwnSX.rd hS
                    have rE := OwnEX.rd hE
                    have ct1 := fun W => run_cutAt_to (P := Tryz.prog) Tryz.underlying23 (size := 6) (fun W => by kernel_rfl) SC (n := nz) cS W
                    have ct2 := fun W => run_cutAt_to (P := Tryz.prog) Tryz.underlying24 (size := 5) (fun W => by kernel_rfl) EC (n := nez) cE W
                    rw [zS] at ct1
                    rw [zE] at ct2
                    have hnz1 : ns ≤ nz ∧ nz - ns = ns1 := by have := HNZ.out; omega
                    have hne1' : ne ≤ nez ∧ nez - ne = ne1 := by have := HNEZ.out; omega
                    have ct3 := fun W => run_cutAt_from (P := Tryz.prog) Tryz.underlying23 (size := 6) (fun W => by kernel_rfl) SC (c := sc2) hnz1.1 W
                    have ct4 := fun W => run_cutAt_from (P := Tryz.prog) Tryz.underlying24 (size := 5) (fun W => by kernel_rfl) EC (c := ec2) hne1'.1 W
                    rw [hnz1.2] at ct3
                    rw [hne1'.2] at ct4
                    obtain ⟨SC2, hSC2⟩ : ∃ A, A = cutA SC ns 6 sc2 := ⟨_, rfl⟩
                    obtain ⟨EC2, hEC2⟩ : ∃ A, A = cutA EC ne 5 ec2 := ⟨_, rfl⟩
                    rw [← hSC2] at ct3
                    rw [← hEC2] at ct4
                    have hb4r : Below w4.heap.size w4 wr := HB48.out.trans (hfr.below HB68.out.2)
                    have mS := HZ5.out.s.small
                    have mE := HZ5.out.e.small
                    have HS1 := Lib.hid (fun W (hW : Below wr.heap.size wr W) => same_tree_true SC SA EC EA ns ne sc2 sc ec2 ec XS XS XE XE W HN0.out HN1.out (EqSs.refl _ _) (EqEs.refl _ _) (by rw [HN0.out, HN1.out]; have h1 := mS.1; have h2 := mE.1; rw [List.length_append] at h1 h2; omega) (fun x hx => mS.2 x (List.mem_append_left _ hx)) (fun x hx => mE.2 x (List.mem_append_left _ hx))
                      ((rS.taken).next hW) (((by rw [HXS.out]; exact (HOS4.out.below hb4r).more hb4r.size) : RdS wr wr.heap.size SA XS).next hW) ((rE.taken).next hW) (((by rw [HXE.out]; exact (HOE4.out.below hb4r).more hb4r.size) : RdE wr wr.heap.size EA XE).next hW))
                    have HS2 := Lib.hid (fun W (hW : Below wr.heap.size wr W) => same_tree_true SC2 SB EC2 EB ns1 ne1 (sc2 - ns) sc1 (ec2 - ne) ec1 YS YS YE YE W HN2.out HN3.out (EqSs.refl _ _) (EqEs.refl _ _) (by rw [HN2.out, HN3.out]; have h1 := mS.1; have h2 := mE.1; rw [List.length_append] at h1 h2; omega) (fun x hx => mS.2 x (List.mem_append_right _ hx)) (fun x hx => mE.2 x (List.mem_append_right _ hx))
                      (((by rw [hSC2, HN0.out]; exact rS.cut cS2) : RdS wr wr.heap.size SC2 YS).next hW) (((by rw [HYS.out]; exact (HPS4.out.below hb4r).more hb4r.size) : RdS wr wr.heap.size SB YS).next hW) (((by rw [hEC2, HN1.out]; exact rE.cut cE2) : RdE wr wr.heap.size EC2 YE).next hW) (((by rw [HYE.out]; exact (HPE4.out.below hb4r).more hb4r.size) : RdE wr wr.heap.size EB YE).next hW))
                    have HBW := Lib.hid (show Below w.heap.size w wr from (bnext HB4.out HB48.out).trans (hfr.below (by have h1 := HB4.out.size; have h2 := HB68.out.2; omega)))
                    have hS0 := Lib.hid (show Below wr.heap.size wr wr.drew ∧ wr.drew.cell? ⟨w2.heap.size, 0, none⟩ = some (.slice SA ns sc) ∧ wr.drew.cell? ⟨w2.heap.size, 1, none⟩ = some (.slice EA ne ec) ∧ wr.drew.cell? ⟨w3.heap.size, 0, none⟩ = some (.slice SB ns1 sc1) ∧ wr.drew.cell? ⟨w3.heap.size, 1, none⟩ = some (.slice EB ne1 ec1) ∧ wr.drew.cell? ⟨B1, 0, none⟩ = some (.slice SC nz sc2) ∧ wr.drew.cell? ⟨B1, 1, none⟩ = some (.slice EC nez ec2) from ⟨(Below.refl _ _).drew, g0, g1, g2, g3, g4, g5⟩)
                    clear hz hS hE cS2 cE2 zS zE rS rE hnz1 hne1' hSC2 hEC2 hb4r mS mE hfr HZ5 HFR5
                    go_wp2_with fail
                    go_region_held3 (fun w' => Below wr.heap.size wr w' ∧ w'.cell? ⟨w2.heap.size, 0, none⟩ = some (.slice SA ns sc) ∧ w'.cell? ⟨w2.heap.size, 1, none⟩ = some (.slice EA ne ec) ∧ w'.cell? ⟨w3.heap.size, 0, none⟩ = some (.slice SB ns1 sc1) ∧ w'.cell? ⟨w3.heap.size, 1, none⟩ = some (.slice EB ne1 ec1) ∧ w'.cell? ⟨B1, 0, none⟩ = some (.slice SC nz sc2) ∧ w'.cell? ⟨B1, 1, none⟩ = some (.slice EC nez ec2))
                      (first | with_reducible exact hS0.out | assumption | exact keep6 (by assumption) (by assumption))
                      (first
                        | (go_at_call 12; (with_reducible show Calls Tryz.prog 12 #[Value.agg #[Value.slice SC ns sc2, Value.slice EC ne ec2], Value.agg #[Value.slice SA ns sc, Value.slice EA ne ec], Value.bool true] _ _); refine (HS1.out _ (And.left (by assumption))).mono ?_; rintro e wv ⟨rfl, bv⟩)
                        | (go_at_call 12; (with_reducible show Calls Tryz.prog 12 #[Value.agg #[Value.slice SC2 ns1 (sc2 - ns), Value.slice EC2 ne1 (ec2 - ne)], Value.agg #[Value.slice SB ns1 sc1, Value.slice EB ne1 ec1], Value.bool true] _ _); refine (HS2.out _ (And.left (by assumption))).mono ?_; rintro e wv ⟨rfl, bv⟩))
                    all_goals
                      rename_i hH
                      have HB9 := Lib.hid (bnext HBW.out hH.1)
                      clear hH
                      go_wp2
                      go_ret
                      exact ⟨rfl, HB9.out⟩
          · exfalso
            have hlz : lz = LJ := by rw [j1] at hR; injection hR with h; exact h.symm
            subst hlz
            rw [j2] at hbad
            cases hbad
          · exfalso
            rw [j1] at hR
            cases hR
    · obtain ⟨te, xe, rfl⟩ := he.iface
      clear he
      go_wp2
      go_ret
      exact ⟨rfl, HB3.out.alloc HB3.out.size _⟩
    · obtain ⟨te, xe, rfl⟩ := he.iface
      clear he
      go_wp2
      go_ret
      exact ⟨rfl, HB3.out.alloc HB3.out.size _⟩
  · obtain ⟨te, xe, rfl⟩ := he.iface
    clear he
    go_wp2_with fail
    refine (text_any TB F _ (by omega) (HG2.out.next (one_new w2 _)) (HT2.out.next (one_new w2 _)) (fun l hl => by have := (scanM_len hl).1; have := HFF.out; omega)).mono ?_
    rintro e w3 h
    obtain ⟨b3, SB, nb, cb, EB, mb, ecb, vb, rfl⟩ := text_form h
    have HB3 := Lib.hid (bnext HB2.out (bnext (one_new w2 _) b3))
    clear h b3
    go_wp2
    go_ret
    exact ⟨rfl, HB3.out.alloc HB3.out.size _⟩
  · obtain ⟨te, xe, rfl⟩ := he.iface
    clear he
    go_wp2_with fail
    refine (text_any TB F _ (by omega) (HG2.out.next (one_new w2 _)) (HT2.out.next (one_new w2 _)) (fun l hl => by have := (scanM_len hl).1; have := HFF.out; omega)).mono ?_
    rintro e w3 h
    obtain ⟨b3, SB, nb, cb, EB, mb, ecb, vb, rfl⟩ := text_form h
    have HB3 := Lib.hid (bnext HB2.out (bnext (one_new w2 _) b3))
    clear h b3
    go_wp2
    go_ret
    exact ⟨rfl, HB3.out.alloc HB3.out.size _⟩
end Go.Proofs.YtcefclglmhpdeaaGreatDoor
