/-
  Two pairs of words held against each other; the wire laws' awake answers true.
-/
import Derived.Test.YtkhbodjgckgepaaDoorEnc
import Derived.Test.YtkhbodjgckgepaaDoorDigR
import Derived.Test.YtkhbodjgckgepaaDoorConv
import Derived.ChangeKeysEq
import Derived.Laws.StructEq
namespace Go.Proofs.YtkhbodjgckgepaaDoor
set_option linter.unusedVariables false
set_option linter.unusedSimpArgs false
open Go.RowKit
theorem run_equalIn_pair (n : Nat) (a b c d : UInt64) (w : World) :
    (Op.equalIn (n + 2) 25 (.agg #[U a, U b]) (.agg #[U c, U d])).run Tryd.prog w = .ok (a == c && b == d) w := by
  have hs : (Tryd.prog.info? 24).map (·.size) = some 1 := by kernel_rfl
  have hag : ∀ w, (isAgg 24).run Tryd.prog w = .ok false w := fun w => by kernel_rfl
  have hsz : ∀ w, (sizeOf 24).run Tryd.prog w = .ok 1 w := fun w => by kernel_rfl
  have he := fun (a b : Int) (w : World) => run_equalIn_int (P := Tryd.prog) w n 24 .u64 .u64 a b Tryd.underlying24
  have hr : List.range' 0 2 = [0, 1] := rfl
  unfold Op.equalIn
  simp [run_underlying Tryd.underlying25, part, hag, hsz, he, hr]
  have e1 : ((a.toNat : Int) = (c.toNat : Int)) = (a = c) := propext ⟨fun h => UInt64.toNat_inj.1 (by omega), fun h => by rw [h]⟩
  have e2 : ((b.toNat : Int) = (d.toNat : Int)) = (b = d) := propext ⟨fun h => UInt64.toNat_inj.1 (by omega), fun h => by rw [h]⟩
  simp only [e1, e2]
  by_cases h1 : a = c <;> by_cases h2 : b = d <;> simp [h1, h2]
theorem run_equalIn_pair' (a b c d : UInt64) (w : World) :
    (Op.equalIn 10000 25 (.agg #[U a, U b]) (.agg #[U c, U d])).run Tryd.prog w = .ok (a == c && b == d) w := run_equalIn_pair 9998 a b c d w
theorem pair_same (a b : UInt64) (w : World) : (Op.equalIn 10000 25 (.agg #[U a, U b]) (.agg #[U a, U b])).run Tryd.prog w = .ok true w := by
  rw [run_equalIn_pair']; simp
theorem pair_awake (w : World) : (Op.equalIn 10000 25 (.agg #[.int .u64 14695981039346656037, .int .u64 14695981039346656038]) (.agg #[.int .u64 14695981039346656037, .int .u64 14695981039346656038])).run Tryd.prog w = .ok true w := by
  rw [← dgK0, ← dgK1]
  exact pair_same _ _ w
theorem enc_awake : encB 300 [5] = [172, 2, 1, 5, 0, 0, 0, 0, 0, 0, 0] := by
  have h : encB 300 [5] = (numB 300 ++ numB 1) ++ bodyB [5] := by unfold encB; rw [headB_eq]; rfl
  rw [h, numB_big (n := 300) (by omega), numB_small (n := 300 / 128) (by omega), numB_small (n := 1) (by omega)]
  clear h
  decide +kernel
theorem str_awake : ((strB (encB 300 [5])).toList == [172, 2, 1, 5, 0, 0, 0, 0, 0, 0, 0]) = true := by
  rw [strB_toList, enc_awake]
  rfl
theorem digest_nil (w : World) : Calls Tryd.prog 11 #[.slice none 0 0] w fun e w' => e = .returned (.agg #[.int .u64 14695981039346656037, .int .u64 14695981039346656038]) ∧ Below w.heap.size w w' := by
  have h := digest_any none 0 [] w (by simp) (Rd.nil _ _ _)
  rw [dig_nil, dig_nil, dgK0, dgK1] at h
  exact h
set_option maxRecDepth 100000 in
set_option maxHeartbeats 1000000 in
theorem awake_true (w : World) : Calls Tryd.prog 10 #[] w fun e w' => e = .returned (.bool true) ∧ Below w.heap.size w w' := by
  go_enter Tryd.func10, Tryd.ntmps10
  go_wp2_with fail
  refine (encode_any 300 (some ⟨w.heap.size, 0, none⟩) 1 [5] _ (by omega) (by simp) (Rd.of_block (heap_alloc_new w _) (by simp) ⟨[], rfl⟩)).mono ?_
  rintro e w1 ⟨A1, k1, rfl, o1, b1⟩
  have c1 := conv_bytes A1 k1 _ (encB 300 [5]) _ w1 rfl o1.rd
  have hb := Lib.hid ((Below.refl _ _).alloc (Nat.le_refl _) _ |>.trans (b1.mono (by simp)) : Below w.heap.size w w1)
  have t1 := str_awake
  clear o1 b1
  go_wp2_with fail
  refine (digest_nil _).mono ?_
  rintro e w2 ⟨rfl, b2⟩
  have hb2 := Lib.hid (bnext hb.out b2)
  clear b2
  have p2 := pair_awake w2
  go_wp2
  go_ret
  exact ⟨rfl, hb2.out⟩
end Go.Proofs.YtkhbodjgckgepaaDoor
