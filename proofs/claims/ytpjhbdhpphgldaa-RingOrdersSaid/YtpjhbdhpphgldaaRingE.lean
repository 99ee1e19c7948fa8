/-
  The walk of RingOrders: products from the left and from the right, and over sums.
-/
import Derived.Test.YtpjhbdhpphgldaaRingC
import Derived.Test.YtpjhbdhpphgldaaRingL
namespace Go.Proofs.Ytpjhbdhpphgldaa
set_option linter.unusedVariables false
set_option linter.unusedSimpArgs false
open Go.RowKit
attribute [local go_sem ↓] u64_add u64_beq u64_bne
set_option maxRecDepth 100000 in
set_option maxHeartbeats 1000000 in
theorem RingOrders_walk (w : World) (A0 : Option Addr) (c0 : Nat) (x : List UInt64) (m0 : x.length ≤ maxLen) (n0 : Rd w w.heap.size A0 (x.map U))
    (A1 : Option Addr) (c1 : Nat) (y : List UInt64) (m1 : y.length ≤ maxLen) (n1 : Rd w w.heap.size A1 (y.map U))
    (A2 : Option Addr) (c2 : Nat) (z : List UInt64) (m2 : z.length ≤ maxLen) (n2 : Rd w w.heap.size A2 (z.map U)) :
    Calls Try.prog 4 #[.slice A0 x.length c0, .slice A1 y.length c1, .slice A2 z.length c2] w fun e w' => e = .returned (.bool true) ∧ Below w.heap.size w w' := by
  unfold maxLen at m0 m1 m2
  have hmake := fun w => make_words 9 (by omega) w 9 rfl
  go_enter Try.func4, Try.ntmps4
  go_wp2_with fail
  refine (awake_any w).mono ?_
  rintro e w1 ⟨rfl, hb1⟩
  have n0 := n0.next hb1
  have n1 := n1.next hb1
  have n2 := n2.next hb1
  have HB := Lib.hid hb1
  clear hb1
  go_wp2_with fail
  refine (square_any A0 c0 x w1 (by omega) n0).mono ?_
  rintro e w2 ⟨rfl, ka, hb⟩
  have n1 := n1.next hb
  have n2 := n2.next hb
  have HB := Lib.hid (bnext HB.out hb)
  clear hb
  go_wp2_with fail
  refine (square_any A1 c1 y w2 (by omega) n1).mono ?_
  rintro e w3 ⟨rfl, kb, hb⟩
  have ka := ka.next hb
  have n2 := n2.next hb
  have HB := Lib.hid (bnext HB.out hb)
  clear hb
  go_wp2_with fail
  refine (square_any A2 c2 z w3 (by omega) n2).mono ?_
  rintro e w4 ⟨rfl, kc, hb⟩
  have ka := ka.next hb
  have kb := kb.next hb
  have HB := Lib.hid (bnext HB.out hb)
  clear hb n0 n1 n2 m0 m1 m2
  obtain ⟨ga, Ea⟩ : ∃ g, g = w1.heap.size := ⟨_, rfl⟩
  obtain ⟨gb, Eb⟩ : ∃ g, g = w2.heap.size := ⟨_, rfl⟩
  obtain ⟨gc, Ec⟩ : ∃ g, g = w3.heap.size := ⟨_, rfl⟩
  rw [← Ea] at ka ⊢
  rw [← Eb] at kb ⊢
  rw [← Ec] at kc ⊢
  clear Ea Eb Ec
  go_wp2_with fail
  refine (times_any _ _ _ _ _ _ _ _ w4 (length_sqW _) (length_sqW _) rfl rfl ka.rdn kb.rdn).mono ?_
  rintro e w5 ⟨rfl, kab, hb⟩
  have ka := ka.next hb
  have kb := kb.next hb
  have kc := kc.next hb
  have HB := Lib.hid (bnext HB.out hb)
  clear hb
  go_wp2_with fail
  refine (times_any _ _ _ _ _ _ _ _ w5 (length_matW _ _ _ _ _) (length_sqW _) rfl rfl kab.rdn kc.rdn).mono ?_
  rintro e w6 ⟨rfl, kl, hb⟩
  have ka := ka.next hb
  have kb := kb.next hb
  have kc := kc.next hb
  have HB := Lib.hid (bnext HB.out hb)
  clear hb kab
  go_wp2_with fail
  refine (times_any _ _ _ _ _ _ _ _ w6 (length_sqW _) (length_sqW _) rfl rfl kb.rdn kc.rdn).mono ?_
  rintro e w7 ⟨rfl, kbc, hb⟩
  have ka := ka.next hb
  have kb := kb.next hb
  have kc := kc.next hb
  have kl := kl.next hb
  have HB := Lib.hid (bnext HB.out hb)
  clear hb
  go_wp2_with fail
  refine (times_any _ _ _ _ _ _ _ _ w7 (length_sqW _) (length_matW _ _ _ _ _) rfl rfl ka.rdn kbc.rdn).mono ?_
  rintro e w8 ⟨rfl, kr, hb⟩
  have ka := ka.next hb
  have kb := kb.next hb
  have kc := kc.next hb
  have kl := kl.next hb
  rw [mat3_assoc] at kl
  have HB := Lib.hid (bnext HB.out hb)
  clear hb kbc
  obtain ⟨gl, El⟩ : ∃ g, g = w5.heap.size := ⟨_, rfl⟩
  obtain ⟨gr, Er⟩ : ∃ g, g = w7.heap.size := ⟨_, rfl⟩
  rw [← El] at kl ⊢
  rw [← Er] at kr ⊢
  clear El Er
  go_wp2_with fail
  clear hmake
  obtain ⟨gs, Es⟩ : ∃ g, g = w8.heap.size := ⟨_, rfl⟩
  have ltb : gb < gs := by rw [Es]; exact kb.lt
  have ltc : gc < gs := by rw [Es]; exact kc.lt
  have KA := Lib.hid ka
  have KB := Lib.hid kb
  have KC := Lib.hid kc
  have KL := Lib.hid kl
  have KR := Lib.hid kr
  have ks : BlkW (w8.alloc (.cells ((zerosW 9).map U).toArray 22)) 22 gs (plusSt (sqW y) (sqW z) 0) := by rw [Es, ← plusSt_start]; exact heap_alloc_new w8 _
  have hbs : Below gs w8 (w8.alloc (.cells ((zerosW 9).map U).toArray 22)) := (Below.refl _ _).alloc (by omega) _
  have KS := Lib.hid ks
  have HS := Lib.hid hbs
  rw [← Es]
  have ES := Lib.hid Es
  clear ka kb kc kl kr ks hbs Es
  go_loopw [39] (fun i wr => ∃ n : Nat, n ≤ 9 ∧ i = .int .i64 n ∧ BlkW wr 22 gs (plusSt (sqW y) (sqW z) n) ∧ Below gs w8 wr) (fun i _ => 9 - (intOf i).toNat)
  case atStart => exact ⟨0, by omega, rfl, KS.out, HS.out⟩
  case round =>
    clear KS HS
    obtain ⟨n, hn, rfl, ks, hbs⟩ := hrel
    by_cases hlt : n < 9
    · have g1 : wr.cell? ⟨gb, n, none⟩ = some (U (nthW (sqW y) n)) := (hbs.cell (p := ⟨gb, n, none⟩) ltb).trans (KB.out.cell (by rw [length_sqW]; exact hlt))
      have g2 : wr.cell? ⟨gc, n, none⟩ = some (U (nthW (sqW z) n)) := (hbs.cell (p := ⟨gc, n, none⟩) ltc).trans (KC.out.cell (by rw [length_sqW]; exact hlt))
      have g3 := ks.cell (k := n) (by rw [length_plusSt]; exact hlt)
      have g4 := ks.free n
      have HP := Lib.hid (plusSt_step (sqW y) (sqW z) n hlt)
      have KS := Lib.hid ks
      have HS := Lib.hid hbs
      clear ks hbs
      go_wp2
      go_region
      go_wp2
      exact ⟨⟨n + 1, by omega, by go_num, by have h := KS.out.set n (addW (nthW (sqW y) n) (nthW (sqW z) n)); rw [HP.out] at h; exact h.drew, (HS.out.setCell (p := ⟨gs, n, none⟩) (Nat.le_refl _) _).drew⟩, by simp [intOf]; omega⟩
    · obtain rfl : n = 9 := by omega
      rw [plusSt_end] at ks
      have hb8 : Below w8.heap.size w8 wr := by rw [← ES.out]; exact hbs
      have ka := KA.out.next hb8
      have kb := KB.out.next hb8
      have kc := KC.out.next hb8
      have kl := KL.out.next hb8
      have kr := KR.out.next hb8
      have HB := Lib.hid (bnext HB.out hb8)
      obtain ⟨w9, rfl⟩ : ∃ wo : World, wo = wr := ⟨_, rfl⟩
      clear hbs hb8 KA KB KC KL KR ltb ltc
      go_wp2_with fail
      refine (times_any _ _ _ _ _ _ _ _ w9 (length_sqW _) (length_plusW _ _) rfl rfl ka.rdn ks.rdn).mono ?_
      rintro e w10 ⟨rfl, kp, hb⟩
      have ka := ka.next hb
      have kb := kb.next hb
      have kc := kc.next hb
      have kl := kl.next hb
      have kr := kr.next hb
      have HB := Lib.hid (bnext HB.out hb)
      clear hb
      go_wp2_with fail
      refine (times_any _ _ _ _ _ _ _ _ w10 (length_sqW _) (length_sqW _) rfl rfl ka.rdn kb.rdn).mono ?_
      rintro e w11 ⟨rfl, kq, hb⟩
      have ka := ka.next hb
      have kc := kc.next hb
      have kl := kl.next hb
      have kr := kr.next hb
      have kp := kp.next hb
      have HB := Lib.hid (bnext HB.out hb)
      clear hb
      go_wp2_with fail
      refine (times_any _ _ _ _ _ _ _ _ w11 (length_sqW _) (length_sqW _) rfl rfl ka.rdn kc.rdn).mono ?_
      rintro e w12 ⟨rfl, kr2, hb⟩
      have kl := kl.next hb
      have kr := kr.next hb
      have kp := kp.next hb
      have kq := kq.next hb
      have HB := Lib.hid (bnext HB.out hb)
      clear hb ka kb kc ks
      obtain ⟨gp, Ep⟩ : ∃ g, g = w9.heap.size := ⟨_, rfl⟩
      obtain ⟨gq, Eq⟩ : ∃ g, g = w10.heap.size := ⟨_, rfl⟩
      obtain ⟨gr2, Er2⟩ : ∃ g, g = w11.heap.size := ⟨_, rfl⟩
      rw [← Ep] at kp ⊢
      rw [← Eq] at kq ⊢
      rw [← Er2] at kr2 ⊢
      clear Ep Eq Er2
      go_wp2_with fail
      refine (Words_same _ _ _ _ _ 9 9 _ w12 (length_matW _ _ _ _ _) (length_matW _ _ _ _ _) (by omega) kl.rdn kr.rdn).mono ?_
      rintro e w' ⟨rfl, m0, rfl⟩
      have HP := Lib.hid (fun k (h : k < 9) => kp.cell (k := k) (by rw [length_matW]; exact h))
      have HQ := Lib.hid (fun k (h : k < 9) => kq.cell (k := k) (by rw [length_matW]; exact h))
      have HR := Lib.hid (fun k (h : k < 9) => kr2.cell (k := k) (by rw [length_matW]; exact h))
      clear kl kr kp kq kr2
      go_wp2_with fail
      go_loopw [80] (fun i wr => ∃ n : Nat, n ≤ 9 ∧ i = .int .i64 n ∧ ∃ m, wr = w12.drewN m) (fun i _ => 9 - (intOf i).toNat)
      case atStart => exact ⟨0, by omega, rfl, m0, rfl⟩
      case round =>
        obtain ⟨n, hn, rfl, m, rfl⟩ := hrel
        by_cases hlt : n < 9
        · have g1 := HP.out n hlt
          have g2 := HQ.out n hlt
          have g3 := HR.out n hlt
          have hbb : (nthW (matW (sqW x) (plusW (sqW y) (sqW z)) 3 3 3) n != addW (nthW (matW (sqW x) (sqW y) 3 3 3) n) (nthW (matW (sqW x) (sqW z) 3 3 3) n)) = false := by
            rw [mat3_plus _ _ _ hlt]; simp
          go_wp2
          go_quiet (fail)
          go_wp2
          exact ⟨⟨n + 1, by omega, by go_num, m + nq, rfl⟩, by simp [intOf]; omega⟩
        · obtain rfl : n = 9 := by omega
          go_wp2
          go_ret
          exact ⟨rfl, below_drewN HB.out m⟩
end Go.Proofs.Ytpjhbdhpphgldaa
