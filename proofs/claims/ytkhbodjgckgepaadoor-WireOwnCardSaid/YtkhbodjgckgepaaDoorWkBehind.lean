/-
  The walk of the law WireBehind.
-/
import Derived.Test.YtkhbodjgckgepaaDoorWkCodes
namespace Go.Proofs.YtkhbodjgckgepaaDoor
set_option linter.unusedVariables false
set_option linter.unusedSimpArgs false
open Go.RowKit
/-- Behind an append onto a row that was made here, nothing older has turned. -/
theorem grown_next {W w w' : World} {A : Option Addr} {cap : Nat} {e : TypeId} {xs : List Value} (hW : Below W.heap.size W w) (hown : Own w W.heap.size e A cap xs) (h : w.grownBy w' (blk A)) : Below W.heap.size W w' :=
  hW.grown h hW.size (blk_own_ge hown)
section
variable (w : World) (x y : Int) (A A' : Option Addr) (n n' c c' : Nat)
/-- The world in which both messages lie in blocks. -/
abbrev twoMsg : World := (w.alloc (.cells #[.int .i64 x, .slice A n c] 42)).alloc (.cells #[.int .i64 y, .slice A' n' c'] 42)
theorem two_below : Below w.heap.size w (twoMsg w x y A A' n n' c c') := ((Below.refl _ _).alloc (Nat.le_refl _) _).alloc (by simp) _
theorem two_fst : Msg (twoMsg w x y A A' n n' c c') w.heap.size x A n c :=
  (Below.heap_alloc _ _ _ (by simp)).trans (heap_alloc_new w _)
theorem two_snd : Msg (twoMsg w x y A A' n n' c c') (w.heap.size + 1) y A' n' c' := by
  have h := heap_alloc_new (w.alloc (.cells #[.int .i64 x, .slice A n c] 42)) (.cells #[.int .i64 y, .slice A' n' c'] 42)
  rw [World.size_alloc] at h
  exact h
end
set_option maxRecDepth 100000 in
set_option maxHeartbeats 1000000 in
theorem behind_long (w : World) (x y : Int) (A A' A2 : Option Addr) (c c' c2 : Nat) (l l' : List UInt64) (m : List UInt8) (hl : 1000 < l.length ∨ 1000 < l'.length) :
    Calls Tryd.prog 7 #[.agg #[.int .i64 x, .slice A l.length c], .agg #[.int .i64 y, .slice A' l'.length c'], .slice A2 m.length c2] w fun e w' => e = .returned (.bool true) ∧ Below w.heap.size w w' := by
  have HB := Lib.hid (two_below w x y A A' l.length l'.length c c')
  have H1 := Lib.hid (two_fst w x y A A' l.length l'.length c c')
  have H2 := Lib.hid (two_snd w x y A A' l.length l'.length c c')
  have q : (decide ((1000 : Int) < (l.length : Int)) = true) ∨ (decide ((1000 : Int) < (l.length : Int)) = false ∧ decide ((1000 : Int) < (l'.length : Int)) = true) := by
    by_cases h : 1000 < l.length
    · left; simp; omega
    · right; constructor <;> (simp; omega)
  clear hl
  rcases q with q1 | ⟨q1, q2⟩
  all_goals
    go_enter Tryd.func7, Tryd.ntmps7
    go_wp2_with fail
    refine (awake_true _).mono ?_
    rintro e w1 ⟨rfl, b1⟩
    have r1 := (H1.out.next b1).c1
    have r2 := (H2.out.next b1).c1
    have HB1 := Lib.hid (bnext HB.out b1)
    clear b1
    go_wp2_with fail
    refine (awake_true _).mono ?_
    rintro e w2 ⟨rfl, b2⟩
    have HB2 := Lib.hid (bnext HB1.out b2)
    clear b2
    go_wp2
    go_ret
    exact ⟨rfl, HB2.out⟩
/-- What Encode answers for a message, good or not. -/
def EncAns (W : World) (e : Ending) (w' : World) : Prop := ∃ A n c v, e = .returned (.tuple #[.slice A n c, v]) ∧ Below W.heap.size W w' ∧ (v = .nilIface ∨ ∃ t xv, v = .iface t xv)
theorem encode_ans (x : Int) (A : Option Addr) (c : Nat) (l : List UInt64) (w : World) (hg : ETyped w) (hl : l.length ≤ 65536) (hA : Rd w w.heap.size A (l.map U)) :
    Calls Tryd.prog 18 #[.agg #[.int .i64 x, .slice A l.length c]] w (EncAns w) := by
  by_cases hx : x < 0 ∨ 4294967295 < x
  · refine (encode_range x hx A l.length c w hg).mono ?_
    rintro e w' ⟨v, rfl, he, hb⟩
    exact ⟨_, _, _, v, rfl, hb, .inr he.iface⟩
  · obtain ⟨n, rfl⟩ : ∃ n : Nat, x = (n : Int) := ⟨x.toNat, by omega⟩
    refine (encode_any n A c l w (by omega) hl hA).mono ?_
    rintro e w' ⟨A', k, rfl, _, hb⟩
    exact ⟨_, _, _, _, rfl, hb, .inl rfl⟩
set_option maxRecDepth 100000 in
set_option maxHeartbeats 1000000 in
theorem behind_bad (w : World) (hg : ETyped w) (x y : Int) (A A' A2 : Option Addr) (c c' c2 : Nat) (l l' : List UInt64) (m : List UInt8) (hl : l.length ≤ 1000) (hl' : l'.length ≤ 1000)
    (hA : Rd w w.heap.size A (l.map U)) (hA' : Rd w w.heap.size A' (l'.map U)) (hx : (x < 0 ∨ 4294967295 < x) ∨ (y < 0 ∨ 4294967295 < y)) :
    Calls Tryd.prog 7 #[.agg #[.int .i64 x, .slice A l.length c], .agg #[.int .i64 y, .slice A' l'.length c'], .slice A2 m.length c2] w fun e w' => e = .returned (.bool true) ∧ Below w.heap.size w w' := by
  have hb0 := two_below w x y A A' l.length l'.length c c'
  have HB := Lib.hid hb0
  have H1 := Lib.hid (two_fst w x y A A' l.length l'.length c c')
  have H2 := Lib.hid (two_snd w x y A A' l.length l'.length c c')
  have HG := Lib.hid (hg.next hb0)
  have HA := Lib.hid (hA.next hb0)
  have HA' := Lib.hid (hA'.next hb0)
  have q1 : decide ((1000 : Int) < (l.length : Int)) = false := by simp; omega
  have q2 : decide ((1000 : Int) < (l'.length : Int)) = false := by simp; omega
  have HX := Lib.hid hx
  clear hb0 hg hA hA' hx
  go_enter Tryd.func7, Tryd.ntmps7
  go_wp2_with fail
  refine (awake_true _).mono ?_
  rintro e w1 ⟨rfl, b1⟩
  have H11 := Lib.hid (H1.out.next b1)
  have H21 := Lib.hid (H2.out.next b1)
  have HG1 := Lib.hid (HG.out.next b1)
  have HA1 := Lib.hid (HA.out.next b1)
  have HA1' := Lib.hid (HA'.out.next b1)
  have HB1 := Lib.hid (bnext HB.out b1)
  clear b1
  have r1 := H11.out.c1
  have r2 := H21.out.c1
  have r3 := H11.out.c0
  have r4 := H21.out.c0
  go_wp2_with fail
  by_cases hx : x < 0 ∨ 4294967295 < x
  · refine (encode_range x hx A _ c w1 HG1.out).mono ?_
    rintro e w2 ⟨v, rfl, he, b2⟩
    obtain ⟨tv, xv, rfl⟩ := he.iface
    have HG2 := Lib.hid (HG1.out.next b2)
    have HA2' := Lib.hid (HA1'.out.next b2)
    have s2 := (H21.out.next b2).c1
    have s4 := (H21.out.next b2).c0
    have HB2 := Lib.hid (bnext HB1.out b2)
    clear he b2 r1 r2 r3 r4 hx
    go_wp2_with fail
    refine (encode_ans y A' c' l' w2 HG2.out (by omega) HA2'.out).mono ?_
    rintro e w3 ⟨A3, n3, k3, v3, rfl, b3, hv3⟩
    have HB3 := Lib.hid (bnext HB2.out b3)
    clear b3 s2 s4 hv3
    go_wp2
    go_ret
    exact ⟨rfl, HB3.out⟩
  · have hy : y < 0 ∨ 4294967295 < y := by rcases HX.out with h | h; exact absurd h hx; exact h
    refine (encode_ans x A c l w1 HG1.out (by omega) HA1.out).mono ?_
    rintro e w2 ⟨A2, n2, k2, v2, rfl, b2, hv2⟩
    have HG2 := Lib.hid (HG1.out.next b2)
    have s2 := (H21.out.next b2).c1
    have s4 := (H21.out.next b2).c0
    have HB2 := Lib.hid (bnext HB1.out b2)
    clear b2 r1 r2 r3 r4 hx
    go_wp2_with fail
    refine (encode_range y hy A' _ c' w2 HG2.out).mono ?_
    rintro e w3 ⟨v, rfl, he, b3⟩
    obtain ⟨tv, xv, rfl⟩ := he.iface
    have HB3 := Lib.hid (bnext HB2.out b3)
    clear he b3 s2 s4 hy
    rcases hv2 with rfl | ⟨t2, xv2, rfl⟩
    all_goals
      go_wp2
      go_ret
      exact ⟨rfl, HB3.out⟩
theorem take_len_eq {m : List UInt8} (h : m.length = 0) : m = [] := List.eq_nil_of_length_eq_zero h
/-- What Decode answers: whether it is nil. -/
def DecAns (W : World) (l : List UInt8) (e : Ending) (w' : World) : Prop :=
  ∃ r A n c v, e = .returned (.tuple #[.agg #[.int .i64 r, .slice A n c], v]) ∧ Below W.heap.size W w' ∧ ((decB l).isSome = true ∧ v = .nilIface ∨ decB l = none ∧ ∃ t xv, v = .iface t xv)
theorem decode_ans (A : Option Addr) (c : Nat) (l : List UInt8) (k : Nat) (w : World) (hk : l.length = k) (hcap : l.length ≤ c) (hl : c ≤ 9223372036854775807) (hlm : l.length ≤ 150000000000000) (hg : ETyped w) (hA : Rd w w.heap.size A (l.map V8)) :
    Calls Tryd.prog 20 #[.slice A k c] w (DecAns w l) := by
  subst hk
  cases hd : decB l with
  | none =>
    refine (decode_any_bad A c l w hcap hl hlm hg hA hd).mono ?_
    rintro e w' ⟨v, rfl, he, hb⟩
    exact ⟨_, _, _, _, v, rfl, hb, .inr ⟨hd, he.iface⟩⟩
  | some p =>
    obtain ⟨n, ws⟩ := p
    refine (decode_good A c l w n ws hcap hl hlm hg hA hd).mono ?_
    rintro e w' ⟨A', k, rfl, _, hb⟩
    exact ⟨_, _, _, _, _, rfl, hb, .inl ⟨by rw [hd]; rfl, rfl⟩⟩
theorem str_eq_of {a b : List UInt8} {t : Bool} (h : (a = b) ↔ t = true) : ((strB a).toList == (strB b).toList) = t := by
  rw [strB_toList, strB_toList, Bool.eq_iff_iff, beq_iff_eq, h]
set_option maxRecDepth 100000 in
set_option maxHeartbeats 2000000 in
theorem behind_good (w : World) (hg : ETyped w) (x y : Nat) (A A' A2 : Option Addr) (c c' c2 : Nat) (l l' : List UInt64) (m : List UInt8) (hl : l.length ≤ 1000) (hl' : l'.length ≤ 1000) (hx : x ≤ 4294967295) (hy : y ≤ 4294967295) (hmc : m.length ≤ 140737488351232)
    (hA : Rd w w.heap.size A (l.map U)) (hA' : Rd w w.heap.size A' (l'.map U)) (hA2 : Rd w w.heap.size A2 (m.map V8)) :
    Calls Tryd.prog 7 #[.agg #[.int .i64 x, .slice A l.length c], .agg #[.int .i64 y, .slice A' l'.length c'], .slice A2 m.length c2] w fun e w' => e = .returned (.bool true) ∧ Below w.heap.size w w' := by
  have hb0 := two_below w x y A A' l.length l'.length c c'
  have HB := Lib.hid hb0
  have H1 := Lib.hid (two_fst w x y A A' l.length l'.length c c')
  have H2 := Lib.hid (two_snd w x y A A' l.length l'.length c c')
  have HG := Lib.hid (hg.next hb0)
  have HA := Lib.hid (hA.next hb0)
  have HA' := Lib.hid (hA'.next hb0)
  have HA2 := Lib.hid (hA2.next hb0)
  have q1 : decide ((1000 : Int) < (l.length : Int)) = false := by simp; omega
  have q2 : decide ((1000 : Int) < (l'.length : Int)) = false := by simp; omega
  have hel := encB_length x l hx (by omega)
  have hel' := encB_length y l' hy (by omega)
  have hnil2 := Lib.hid (rd_nil8 hA2)
  have hmore := Lib.hid (decB_more x l m hx (by omega))
  have hq : ((((x : Int) == (y : Int)) = true ∧ (l == l') = true) ∧ ((strB (encB x l)).toList == (strB (encB y l')).toList) = true) ∨ ((((x : Int) == (y : Int)) = true ∧ (l == l') = false) ∧ ((strB (encB x l)).toList == (strB (encB y l')).toList) = false) ∨ ((((x : Int) == (y : Int)) = false ∧ (l == l') = (l == l')) ∧ ((strB (encB x l)).toList == (strB (encB y l')).toList) = false) := by
    by_cases h1 : x = y
    · by_cases h2 : l = l'
      · left; subst h1 h2; refine ⟨⟨by simp, by simp⟩, by simp⟩
      · right; left
        refine ⟨⟨by simp [h1], by simp [h2]⟩, ?_⟩
        rw [strB_toList, strB_toList, beq_eq_false_iff_ne]
        exact fun e => h2 (encB_inj hx (by omega) hy (by omega) e).2
    · right; right
      refine ⟨⟨by rw [beq_eq_false_iff_ne]; omega, rfl⟩, ?_⟩
      rw [strB_toList, strB_toList, beq_eq_false_iff_ne]
      exact fun e => h1 (encB_inj hx (by omega) hy (by omega) e).1
  have hmz : (((m.length : Int) == 0) = true ∧ (decB (encB x l ++ m)).isSome = true) ∨ (((m.length : Int) == 0) = false ∧ decB (encB x l ++ m) = none) := by
    by_cases h : m.length = 0
    · left; refine ⟨by rw [h]; rfl, ?_⟩
      rw [hmore.out, if_pos (List.eq_nil_of_length_eq_zero h)]; rfl
    · right; refine ⟨by rw [beq_eq_false_iff_ne]; omega, ?_⟩
      rw [hmore.out, if_neg (fun e => h (by rw [e]; rfl))]
  have HQ := Lib.hid hq
  have HMZ := Lib.hid hmz
  clear hb0 hg hA hA' hA2 hq hmz
  go_enter Tryd.func7, Tryd.ntmps7
  go_wp2_with fail
  refine (awake_true _).mono ?_
  rintro e w1 ⟨rfl, b1⟩
  have H11 := Lib.hid (H1.out.next b1)
  have H21 := Lib.hid (H2.out.next b1)
  have HG1 := Lib.hid (HG.out.next b1)
  have HA1 := Lib.hid (HA.out.next b1)
  have HA1' := Lib.hid (HA'.out.next b1)
  have HA21 := Lib.hid (HA2.out.next b1)
  have HB1 := Lib.hid (bnext HB.out b1)
  clear b1
  have r1 := H11.out.c1
  have r2 := H21.out.c1
  have r3 := H11.out.c0
  have r4 := H21.out.c0
  go_wp2_with fail
  refine (encode_any x A c l w1 hx (by omega) HA1.out).mono ?_
  rintro e w2 ⟨A3, k3, rfl, o3, b2⟩
  have H12 := Lib.hid (H11.out.next b2)
  have H22 := Lib.hid (H21.out.next b2)
  have HG2 := Lib.hid (HG1.out.next b2)
  have HA2a := Lib.hid (HA1.out.next b2)
  have HA2' := Lib.hid (HA1'.out.next b2)
  have HA22 := Lib.hid (HA21.out.next b2)
  have HB2 := Lib.hid (bnext HB1.out b2)
  have HO2 := Lib.hid o3
  clear o3 b2 r1 r2 r3 r4
  have r2 := H22.out.c1
  have r4 := H22.out.c0
  go_wp2_with fail
  refine (encode_any y A' c' l' w2 hy (by omega) HA2'.out).mono ?_
  rintro e w3 ⟨A4, k4, rfl, o4, b3⟩
  have H13 := Lib.hid (H12.out.next b3)
  have H23 := Lib.hid (H22.out.next b3)
  have HG3 := Lib.hid (HG2.out.next b3)
  have HA3a := Lib.hid (HA2a.out.next b3)
  have HA3' := Lib.hid (HA2'.out.next b3)
  have HA23 := Lib.hid (HA22.out.next b3)
  have HB3 := Lib.hid (bnext HB2.out b3)
  have HR3 := Lib.hid (HO2.out.rd.next b3)
  have HR3' := Lib.hid o4.rd
  clear o4 b3 r2 r4
  have r1 := H13.out.c1
  have r2 := H23.out.c1
  have r3 := H13.out.c0
  have r4 := H23.out.c0
  have hwd := Lib.hid (fun (W : World) (h : Below w3.heap.size w3 W) => Words_fit A A' c c' l l' l.length l'.length w3.heap.size W rfl rfl (by omega) (HA3a.out.below h) (HA3'.out.below h))
  rcases HQ.out with ⟨⟨t1, t2⟩, t3⟩ | ⟨⟨t1, t2⟩, t3⟩ | ⟨⟨t1, t2⟩, t3⟩
  all_goals
    go_wp2_with (first
      | (go_at_call 19; refine (hwd.out _ (Below.refl _ _)).mono ?_; rintro e wq ⟨rfl, nq, rfl⟩; rw [t2])
      | (at_builtin; (refine app8 rfl (.tmp 58) (.tmp 59) rfl w3.heap.size (some ⟨w3.heap.size, 0, none⟩) 0 [] 0 rfl rfl (Own.made _ _ (Nat.le_refl _)) A3 (encB x l).length k3 w3.heap.size (encB x l) rfl rfl (Rd.alloc HR3.out (Nat.le_refl _) _) (own_nil8 HO2.out) (by omega) (by simp) ?_); intro A5 k5 w4 ho4 hg4 hat; rw [List.nil_append] at ho4; have b4 : Below w3.heap.size w3 w4 := (by first | exact made_grown8 hg4 | exact (below_drewN (Below.refl _ _) _).trans (made_grown8 hg4)); have HA24 := Lib.hid (HA23.out.next b4); have HB4 := Lib.hid b4; have HO4 := Lib.hid ho4; clear hg4 hat ho4 b4)
      | (at_builtin; (refine app8 rfl (.tmp 60) (.tmp 61) rfl w3.heap.size A5 k5 (encB x l) (encB x l).length rfl rfl HO4.out A2 m.length c2 w4.heap.size m rfl rfl HA24.out hnil2.out (by omega) HB4.out.size ?_); intro A6 k6 w5 ho5 hg5 hat; have HB5 := Lib.hid (HB4.out.grown hg5 HB4.out.size (blk_own_ge HO4.out)); have HO5 := Lib.hid ho5; clear hg5 hat ho5))
    have hc5 := own_capB HO5.out
    refine (decode_ans A6 k6 (encB x l ++ m) _ w5 (List.length_append) hc5.1 hc5.2 (by rw [List.length_append]; omega) (HG3.out.next HB5.out) (HO5.out.rd.more (Nat.le_refl _))).mono ?_
    rintro e w6 ⟨r, A7, n7, k7, v, rfl, b6, hv⟩
    have b6' : Below w3.heap.size w3 (w6.alloc (.cells #[.int .i64 r, .slice A7 n7 k7] 42)) := (bnext HB5.out b6).alloc (bnext HB5.out b6).size _
    have cva := conv_bytes A3 k3 _ (encB x l) w3.heap.size (w6.alloc (.cells #[.int .i64 r, .slice A7 n7 k7] 42)) rfl (HR3.out.below b6')
    have cvb := conv_bytes A4 k4 _ (encB y l') w3.heap.size (w6.alloc (.cells #[.int .i64 r, .slice A7 n7 k7] 42)) rfl (HR3'.out.below b6')
    have HB6 := Lib.hid (bnext HB3.out b6')
    clear b6 b6'
    rcases HMZ.out with ⟨u1, u2⟩ | ⟨u1, u2⟩
    · rcases hv with ⟨v1, rfl⟩ | ⟨v1, _⟩
      · clear u2 v1
        go_wp2
        go_ret
        exact ⟨rfl, HB6.out⟩
      · rw [v1] at u2; cases u2
    · rcases hv with ⟨v1, _⟩ | ⟨v1, tv, xv, rfl⟩
      · rw [u2] at v1; cases v1
      · clear u2 v1
        go_wp2
        go_ret
        exact ⟨rfl, HB6.out⟩
theorem WireBehind_walk (w : World) (hg : ETyped w) (x : Int) (A : Option Addr) (c : Nat) (l : List UInt64) (hx1 : -9223372036854775808 ≤ x) (hx2 : x ≤ 9223372036854775807) (hlc : l.length ≤ c) (hcm : c ≤ 17592186043904) (hA : Rd w w.heap.size A (l.map U))
    (y : Int) (A' : Option Addr) (c' : Nat) (l' : List UInt64) (hy1 : -9223372036854775808 ≤ y) (hy2 : y ≤ 9223372036854775807) (hlc' : l'.length ≤ c') (hcm' : c' ≤ 17592186043904) (hA' : Rd w w.heap.size A' (l'.map U))
    (A2 : Option Addr) (c2 : Nat) (m : List UInt8) (hmc : m.length ≤ c2) (hcm2 : c2 ≤ 140737488351232) (hA2 : Rd w w.heap.size A2 (m.map V8)) :
    Calls Tryd.prog 7 #[.agg #[.int .i64 x, .slice A l.length c], .agg #[.int .i64 y, .slice A' l'.length c'], .slice A2 m.length c2] w fun e w' => e = .returned (.bool true) ∧ Below w.heap.size w w' := by
  by_cases hl : 1000 < l.length ∨ 1000 < l'.length
  · exact behind_long w x y A A' A2 c c' c2 l l' m hl
  · by_cases hx : (x < 0 ∨ 4294967295 < x) ∨ (y < 0 ∨ 4294967295 < y)
    · exact behind_bad w hg x y A A' A2 c c' c2 l l' m (by omega) (by omega) hA hA' hx
    · obtain ⟨a, rfl⟩ : ∃ a : Nat, x = (a : Int) := ⟨x.toNat, by omega⟩
      obtain ⟨b, rfl⟩ : ∃ b : Nat, y = (b : Int) := ⟨y.toNat, by omega⟩
      exact behind_good w hg a b A A' A2 c c' c2 l l' m (by omega) (by omega) (by omega) (by omega) (by omega) hA hA' hA2
end Go.Proofs.YtkhbodjgckgepaaDoor
