/-
  The walk of the law WireCodes.
-/
import Derived.Test.YtkhbodjgckgepaaDoorEncBad
import Derived.Test.YtkhbodjgckgepaaDoorEncR
import Derived.Test.YtkhbodjgckgepaaDoorWkReads
import Derived.Deep.RegionHeld3
namespace Go.Proofs.YtkhbodjgckgepaaDoor
set_option linter.unusedVariables false
set_option linter.unusedSimpArgs false
open Go.RowKit
theorem rd_nil64 {w : World} {B : Nat} {A : Option Addr} {l : List UInt64} (h : Rd w B A (l.map U)) : A = none → l.length = 0 := by
  rintro rfl
  rcases h with h | ⟨b, o, h, _⟩
  · simpa using h
  · cases h
theorem made_grown64 {w w' : World} (h : (w.alloc (.cells #[] 24)).grownBy w' (blk (some ⟨w.heap.size, 0, none⟩))) : Below w.heap.size w w' :=
  ((Below.refl w.heap.size w).alloc (Nat.le_refl _) _).grown h (by simp) (fun k hk => by simp [blk] at hk; omega)
/-- A message that lies in a block. -/
abbrev Msg (w : World) (g : Nat) (x : Int) (A : Option Addr) (n c : Nat) : Prop := w.heap[g]? = some (.cells #[.int .i64 x, .slice A n c] 42 (0, 0))
theorem Msg.next {w w' : World} {g : Nat} {x : Int} {A : Option Addr} {n c : Nat} (h : Msg w g x A n c) (hb : Below w.heap.size w w') : Msg w' g x A n c := (hb.block g (Array.getElem?_eq_some_iff.1 h).1).trans h
theorem Msg.lt {w : World} {g : Nat} {x : Int} {A : Option Addr} {n c : Nat} (h : Msg w g x A n c) : g < w.heap.size := (Array.getElem?_eq_some_iff.1 h).1
theorem Msg.c0 {w : World} {g : Nat} {x : Int} {A : Option Addr} {n c : Nat} (h : Msg w g x A n c) : w.cell? ⟨g, 0, none⟩ = some (.int .i64 x) := cell_of_row _ _ 0 _ _ _ h
theorem Msg.c1 {w : World} {g : Nat} {x : Int} {A : Option Addr} {n c : Nat} (h : Msg w g x A n c) : w.cell? ⟨g, 1, none⟩ = some (.slice A n c) := cell_of_row _ _ 1 _ _ _ h
set_option maxRecDepth 100000 in
set_option maxHeartbeats 1000000 in
theorem codes_bad (w : World) (hg : ETyped w) (x : Int) (A : Option Addr) (c : Nat) (l : List UInt64) (hlc : l.length ≤ c) (hcm : c ≤ 17592186043904) (hA : Rd w w.heap.size A (l.map U)) (hx : x < 0 ∨ 4294967295 < x) :
    Calls Tryd.prog 8 #[.agg #[.int .i64 x, .slice A l.length c]] w fun e w' => e = .returned (.bool true) ∧ Below w.heap.size w w' := by
  have hnil := Lib.hid (rd_nil64 hA)
  have hbox : Below w.heap.size w (w.alloc (.cells #[.int .i64 x, .slice A l.length c] 42)) := (Below.refl _ _).alloc (Nat.le_refl _) _
  have HG := Lib.hid (hg.next hbox)
  have HA := Lib.hid (hA.next hbox)
  have HM := Lib.hid (show Msg (w.alloc (.cells #[.int .i64 x, .slice A l.length c] 42)) w.heap.size x A l.length c from heap_alloc_new w _)
  have HB := Lib.hid hbox
  have HX := Lib.hid hx
  have q1 : (decide (x < 0) = true) ∨ (decide (x < 0) = false ∧ decide (4294967295 < x) = true) := by
    by_cases h : x < 0
    · left; simp; omega
    · right; constructor <;> (simp; omega)
  clear hg hA hbox hx
  rcases q1 with q1 | ⟨q1, q2⟩
  all_goals
    go_enter Tryd.func8, Tryd.ntmps8
    go_wp2_with fail
    refine (awake_true _).mono ?_
    rintro e w1 ⟨rfl, b1⟩
    have HG1 := Lib.hid (HG.out.next b1)
    have HA1 := Lib.hid (HA.out.next b1)
    have HM1 := Lib.hid (HM.out.next b1)
    have HB1 := Lib.hid (bnext HB.out b1)
    clear b1
    have r1 := HM1.out.c1
    have hz1 := HM1.out.lt
    go_wp2_with (at_builtin; (refine app64 rfl (.tmp 10) (.tmp 12) rfl w1.heap.size (some ⟨w1.heap.size, 0, none⟩) 0 [] 0 rfl rfl (Own.made _ _ (Nat.le_refl _)) A l.length c w1.heap.size l rfl rfl (HA1.out.alloc (Nat.le_refl _) _) hnil.out (by omega) (by simp) ?_); intro A' cap' w2 hown' hgrow hat; rw [List.nil_append] at hown'; have b2 := made_grown64 hgrow; have HG2 := Lib.hid (HG1.out.next b2); have HM2 := Lib.hid (HM1.out.next b2); have HB2 := Lib.hid (bnext HB1.out b2); clear hgrow hat hown' b2 r1; have r0 := HM2.out.c0; have r1 := HM2.out.c1)
    refine (encode_range x HX.out A' _ cap' w2 HG2.out).mono ?_
    rintro e w3 ⟨v, rfl, he, b3⟩
    have HE3 := Lib.hid he
    have HG3 := Lib.hid (HG2.out.next b3)
    have HM3 := Lib.hid (HM2.out.next b3)
    have HB3 := Lib.hid (bnext HB2.out b3)
    clear he b3 r0 r1
    have r0 := HM3.out.c0
    go_wp2_with fail
    refine (Code_any _ _ v w3 HG3.out HE3.out).mono ?_
    rintro e w4 ⟨rfl, b4⟩
    have HB4 := Lib.hid (bnext HB3.out b4)
    clear b4
    go_wp2
    go_ret
    exact ⟨rfl, HB4.out⟩
set_option maxRecDepth 100000 in
set_option maxHeartbeats 1000000 in
theorem codes_long (w : World) (hg : ETyped w) (x : Nat) (A : Option Addr) (c : Nat) (l : List UInt64) (hlc : l.length ≤ c) (hcm : c ≤ 17592186043904) (hA : Rd w w.heap.size A (l.map U)) (hx : x ≤ 4294967295) (hl : 65536 < l.length) :
    Calls Tryd.prog 8 #[.agg #[.int .i64 x, .slice A l.length c]] w fun e w' => e = .returned (.bool true) ∧ Below w.heap.size w w' := by
  have hnil := Lib.hid (rd_nil64 hA)
  have hbox : Below w.heap.size w (w.alloc (.cells #[.int .i64 x, .slice A l.length c] 42)) := (Below.refl _ _).alloc (Nat.le_refl _) _
  have HG := Lib.hid (hg.next hbox)
  have HA := Lib.hid (hA.next hbox)
  have HM := Lib.hid (show Msg (w.alloc (.cells #[.int .i64 x, .slice A l.length c] 42)) w.heap.size x A l.length c from heap_alloc_new w _)
  have HB := Lib.hid hbox
  have q1 : decide ((x : Int) < 0) = false := by simp
  have q2 : decide ((4294967295 : Int) < (x : Int)) = false := by simp; omega
  have q3 : decide ((65536 : Int) < (l.length : Int)) = true := by simp; omega
  clear hg hA hbox
  go_enter Tryd.func8, Tryd.ntmps8
  go_wp2_with fail
  refine (awake_true _).mono ?_
  rintro e w1 ⟨rfl, b1⟩
  have HG1 := Lib.hid (HG.out.next b1)
  have HA1 := Lib.hid (HA.out.next b1)
  have HM1 := Lib.hid (HM.out.next b1)
  have HB1 := Lib.hid (bnext HB.out b1)
  clear b1
  have r1 := HM1.out.c1
  have hz1 := HM1.out.lt
  go_wp2_with (at_builtin; (refine app64 rfl (.tmp 10) (.tmp 12) rfl w1.heap.size (some ⟨w1.heap.size, 0, none⟩) 0 [] 0 rfl rfl (Own.made _ _ (Nat.le_refl _)) A l.length c w1.heap.size l rfl rfl (HA1.out.alloc (Nat.le_refl _) _) hnil.out (by omega) (by simp) ?_); intro A' cap' w2 hown' hgrow hat; rw [List.nil_append] at hown'; have b2 := made_grown64 hgrow; have HG2 := Lib.hid (HG1.out.next b2); have HM2 := Lib.hid (HM1.out.next b2); have HB2 := Lib.hid (bnext HB1.out b2); clear hgrow hat hown' b2 r1; have r0 := HM2.out.c0; have r1 := HM2.out.c1)
  refine (encode_long x hx A' _ cap' w2 HG2.out hl).mono ?_
  rintro e w3 ⟨v, rfl, he, b3⟩
  have HE3 := Lib.hid he
  have HG3 := Lib.hid (HG2.out.next b3)
  have HM3 := Lib.hid (HM2.out.next b3)
  have HB3 := Lib.hid (bnext HB2.out b3)
  clear he b3 r0 r1
  have r0 := HM3.out.c0
  go_wp2_with fail
  refine (Code_any _ _ v w3 HG3.out HE3.out).mono ?_
  rintro e w4 ⟨rfl, b4⟩
  have HB4 := Lib.hid (bnext HB3.out b4)
  clear b4
  go_wp2
  go_ret
  exact ⟨rfl, HB4.out⟩
theorem encB_length (n : Nat) (l : List UInt64) (hn : n ≤ 4294967295) (hl : l.length ≤ 65536) : (encB n l).length ≤ 524298 := by
  unfold encB
  rw [List.length_append, bodyB_length]
  have := headB_length n l.length hn (by omega)
  omega
theorem codesS_next {g h : Nat} {a b c d : Value} {w4 W w' : World} (bel : Below W.heap.size W w') (hs : W.cell? ⟨g, 0, none⟩ = some a ∧ W.cell? ⟨g, 1, none⟩ = some b ∧ W.cell? ⟨h, 0, none⟩ = some c ∧ W.cell? ⟨h, 1, none⟩ = some d ∧ Below w4.heap.size w4 W) :
    w'.cell? ⟨g, 0, none⟩ = some a ∧ w'.cell? ⟨g, 1, none⟩ = some b ∧ w'.cell? ⟨h, 0, none⟩ = some c ∧ w'.cell? ⟨h, 1, none⟩ = some d ∧ Below w4.heap.size w4 w' :=
  ⟨(bel.cell (World.block_lt_of_cell? W _ hs.1)).trans hs.1, (bel.cell (World.block_lt_of_cell? W _ hs.2.1)).trans hs.2.1, (bel.cell (World.block_lt_of_cell? W _ hs.2.2.1)).trans hs.2.2.1, (bel.cell (World.block_lt_of_cell? W _ hs.2.2.2.1)).trans hs.2.2.2.1, bnext hs.2.2.2.2 bel⟩
set_option maxRecDepth 100000 in
set_option maxHeartbeats 2000000 in
theorem codes_good (w : World) (hg : ETyped w) (x : Nat) (A : Option Addr) (c : Nat) (l : List UInt64) (hlc : l.length ≤ c) (hcm : c ≤ 17592186043904) (hA : Rd w w.heap.size A (l.map U)) (hx : x ≤ 4294967295) (hl : l.length ≤ 65536) :
    Calls Tryd.prog 8 #[.agg #[.int .i64 x, .slice A l.length c]] w fun e w' => e = .returned (.bool true) ∧ Below w.heap.size w w' := by
  have hnil := Lib.hid (rd_nil64 hA)
  have hbox : Below w.heap.size w (w.alloc (.cells #[.int .i64 x, .slice A l.length c] 42)) := (Below.refl _ _).alloc (Nat.le_refl _) _
  have HG := Lib.hid (hg.next hbox)
  have HA := Lib.hid (hA.next hbox)
  have HM := Lib.hid (show Msg (w.alloc (.cells #[.int .i64 x, .slice A l.length c] 42)) w.heap.size x A l.length c from heap_alloc_new w _)
  have HB := Lib.hid hbox
  have q1 : decide ((x : Int) < 0) = false := by simp
  have q2 : decide ((4294967295 : Int) < (x : Int)) = false := by simp; omega
  have q3 : decide ((65536 : Int) < (l.length : Int)) = false := by simp; omega
  have hel := encB_length x l hx hl
  have hdec := Lib.hid (decB_enc x l hx hl)
  clear hg hA hbox
  go_enter Tryd.func8, Tryd.ntmps8
  go_wp2_with fail
  refine (awake_true _).mono ?_
  rintro e w1 ⟨rfl, b1⟩
  have HG1 := Lib.hid (HG.out.next b1)
  have HA1 := Lib.hid (HA.out.next b1)
  have HM1 := Lib.hid (HM.out.next b1)
  have HB1 := Lib.hid (bnext HB.out b1)
  clear b1
  have r1 := HM1.out.c1
  have hz1 := HM1.out.lt
  go_wp2_with (at_builtin; (refine app64 rfl (.tmp 10) (.tmp 12) rfl w1.heap.size (some ⟨w1.heap.size, 0, none⟩) 0 [] 0 rfl rfl (Own.made _ _ (Nat.le_refl _)) A l.length c w1.heap.size l rfl rfl (HA1.out.alloc (Nat.le_refl _) _) hnil.out (by omega) (by simp) ?_); intro A' cap' w2 hown' hgrow hat; rw [List.nil_append] at hown'; have b2 := made_grown64 hgrow; have HG2 := Lib.hid (HG1.out.next b2); have HA2 := Lib.hid (HA1.out.next b2); have HM2 := Lib.hid (HM1.out.next b2); have HB2 := Lib.hid (bnext HB1.out b2); have HO2 := Lib.hid hown'; clear hgrow hat hown' b2 r1 hz1; have r0 := HM2.out.c0; have r1 := HM2.out.c1)
  refine (encode_any x A' cap' l w2 hx hl HO2.out.rd).mono ?_
  rintro e w3 ⟨A3, k3, rfl, o3, b3⟩
  have HO3 := Lib.hid o3
  have HG3 := Lib.hid (HG2.out.next b3)
  have HA3 := Lib.hid (HA2.out.next b3)
  have HM3 := Lib.hid (HM2.out.next b3)
  have HB3 := Lib.hid (bnext HB2.out b3)
  clear o3 b3 r0 r1
  have r0 := HM3.out.c0
  have hc3 := own_capB HO3.out
  go_wp2_with fail
  refine (decode_good A3 k3 (encB x l) w3 x l hc3.1 hc3.2 (by omega) HG3.out HO3.out.rd hdec.out).mono ?_
  rintro e w4 ⟨A4, k4, rfl, o4, b4⟩
  obtain ⟨w5, hw5⟩ : ∃ w5, w5 = w4.alloc (.cells #[.int .i64 x, .slice A4 l.length k4] 42) := ⟨_, rfl⟩
  have b5 : Below w4.heap.size w4 w5 := by rw [hw5]; exact (Below.refl _ _).alloc (Nat.le_refl _) _
  have HM4 := Lib.hid ((HM3.out.next b4).next b5)
  have HMX := Lib.hid (show Msg w5 w4.heap.size x A4 l.length k4 from by rw [hw5]; exact heap_alloc_new w4 _)
  have HA5 := Lib.hid ((HA3.out.next b4).next b5)
  have HR5 := Lib.hid ((HO3.out.rd.next b4).next b5)
  have HX5 := Lib.hid (o4.rd.next b5)
  have HB5 := Lib.hid (bnext (bnext HB3.out b4) b5)
  clear r0 o4 b4 b5 hdec
  go_wp2_with fail
  rw [← hw5]
  have hb0 := Lib.hid (codesS_next (w4 := w5) ((Below.refl w5.heap.size w5).drew) ⟨HM4.out.c0, HM4.out.c1, HMX.out.c0, HMX.out.c1, Below.refl _ _⟩)
  have hr := Lib.hid (fun (W : World) (h : Below w5.heap.size w5 W) => rencode_any x A c l W hx hl ((HA5.out.below h).more h.size))
  have hq := Lib.hid (fun (W : World) (h : Below w5.heap.size w5 W) => words_quiet A4 A k4 c l l.length l.length w5.heap.size W rfl rfl (by omega) (HX5.out.below h) (HA5.out.below h))
  have cv : ∀ W, Below w5.heap.size w5 W → (convert 22 9 (.slice A3 (encB x l).length k3)).run Tryd.prog W = .ok (.string (strB (encB x l))) W := fun W hW => conv_bytes A3 k3 _ (encB x l) _ W rfl (HR5.out.below hW)
  have HCV := Lib.hid cv
  clear hw5
  go_region_held (fun w' => w'.cell? ⟨w.heap.size, 0, none⟩ = some (.int .i64 x) ∧ w'.cell? ⟨w.heap.size, 1, none⟩ = some (.slice A l.length c) ∧ w'.cell? ⟨w4.heap.size, 0, none⟩ = some (.int .i64 x) ∧ w'.cell? ⟨w4.heap.size, 1, none⟩ = some (.slice A4 l.length k4) ∧ Below w5.heap.size w5 w')
    (first | with_reducible exact hb0.out | exact codesS_next (by assumption) (by assumption))
    (first
      | (go_at_call 21; refine (hr.out _ (And.right (And.right (And.right (And.right (by assumption)))))).mono ?_; rintro e w6 ⟨A6, k6, rfl, o6, b6⟩; have cv6 := conv_bytes A6 k6 _ (encB x l) _ w6 rfl o6.rd; clear o6)
      | (go_at_call 19; refine (hq.out _ (And.right (And.right (And.right (And.right (by assumption)))))).mono ?_; rintro e w7 ⟨rfl, b7⟩))
  all_goals
    have hS : w7.cell? ⟨w.heap.size, 0, none⟩ = some (.int .i64 x) ∧ w7.cell? ⟨w.heap.size, 1, none⟩ = some (.slice A l.length c) ∧ w7.cell? ⟨w4.heap.size, 0, none⟩ = some (.int .i64 x) ∧ w7.cell? ⟨w4.heap.size, 1, none⟩ = some (.slice A4 l.length k4) ∧ Below w5.heap.size w5 w7 := by assumption
    have HB7 := Lib.hid (bnext HB5.out hS.2.2.2.2)
    clear hS
    go_wp2
    go_ret
    exact ⟨rfl, HB7.out⟩
theorem WireCodes_walk (w : World) (hg : ETyped w) (x : Int) (A : Option Addr) (c : Nat) (l : List UInt64) (hx1 : -9223372036854775808 ≤ x) (hx2 : x ≤ 9223372036854775807) (hlc : l.length ≤ c) (hcm : c ≤ 17592186043904) (hA : Rd w w.heap.size A (l.map U)) :
    Calls Tryd.prog 8 #[.agg #[.int .i64 x, .slice A l.length c]] w fun e w' => e = .returned (.bool true) ∧ Below w.heap.size w w' := by
  by_cases hx : x < 0 ∨ 4294967295 < x
  · exact codes_bad w hg x A c l hlc hcm hA hx
  · obtain ⟨n, rfl⟩ : ∃ n : Nat, x = (n : Int) := ⟨x.toNat, by omega⟩
    by_cases hl : 65536 < l.length
    · exact codes_long w hg n A c l hlc hcm hA (by omega) hl
    · exact codes_good w hg n A c l hlc hcm hA (by omega) (by omega)
end Go.Proofs.YtkhbodjgckgepaaDoor
