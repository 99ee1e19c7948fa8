/-
  The reference's Same at two rows that read as one list of tokens.
-/
import Derived.Test.YtbiobefcagboeaaDoorTokEq
import Derived.Test.YtbiobefcagboeaaDoorMem
import Derived.BigQuiet
namespace Go.Proofs.YtbiobefcagboeaaDoor
set_option linter.unusedVariables false
set_option linter.unusedSimpArgs false
open Go.RowKit
theorem tok_neq_same (a c d : Int) (b : ByteArray) (w : World) :
    (binOp .neq 31 (.agg #[.int .i64 a, .string b, .int .u64 c, .int .i64 d]) (.agg #[.int .i64 a, .string b, .int .u64 c, .int .i64 d])).run Tryd.prog w = .ok (.bool false) w := by
  rw [run_neq_struct, run_equalIn_tok']
  simp
def SameRel (n : Nat) (iv : Value) : Prop := ∃ i : Nat, i ≤ n ∧ iv = .int .i64 i
set_option maxRecDepth 100000 in
set_option maxHeartbeats 2000000 in
theorem same_any (A A' : Option Addr) (c c' : Nat) (l : List Tok) (w : World) (hl : l.length ≤ 1000000) (h : RdT w w.heap.size A l) (h' : RdT w w.heap.size A' l) :
    Calls Tryd.prog 10 #[.slice A l.length c, .slice A' l.length c'] w fun e w' => e = .returned (.bool true) ∧ Below w.heap.size w w' := by
  obtain ⟨n, hn⟩ : ∃ n, n = l.length := ⟨_, rfl⟩
  rw [← hn]
  have HN := Lib.hid hn
  have H := Lib.hid h
  have H' := Lib.hid h'
  rw [← hn] at hl
  clear h h' hn
  go_enter Tryd.func10, Tryd.ntmps10
  go_wp2
  go_loopw [13] (fun iv wr => SameRel n iv ∧ Below w.heap.size w wr) (fun iv _ => n - (intOf iv).toNat)
  case atStart => exact ⟨⟨0, by omega, rfl⟩, Below.refl _ _⟩
  case round =>
    obtain ⟨⟨i, hi, rfl⟩, hb⟩ := hrel
    by_cases hlt : i < n
    · have ht : l[i]? = some (l[i]'(by rw [← HN.out]; exact hlt)) := List.getElem?_eq_getElem _
      obtain ⟨t, htt⟩ : ∃ t, t = l[i]'(by rw [← HN.out]; exact hlt) := ⟨_, rfl⟩
      rw [← htt] at ht
      obtain ⟨b, o, rfl, hbl, c0, c1, c2, c3⟩ := (H.out.below hb).tok ht
      obtain ⟨b', o', rfl, hbl', c0', c1', c2', c3'⟩ := (H'.out.below hb).tok ht
      have hq := tok_neq_same (t.kind : Int) (t.num : Int) (t.pos : Int) t.text
      have i0 : (0 : Int) ≤ (i : Int) := by omega
      have i1 : (i : Int) < (n : Int) := by omega
      have HB := Lib.hid hb
      clear hb ht htt hbl hbl'
      go_wp2_with fail
      go_quiet (fail)
      go_wp2
      exact ⟨⟨⟨i + 1, by omega, rfl⟩, below_drewN HB.out _⟩, by simp [intOf]; omega⟩
    · obtain rfl : i = n := by omega
      have HB := Lib.hid hb
      clear hb
      go_wp2
      go_ret
      exact ⟨rfl, HB.out⟩
end Go.Proofs.YtbiobefcagboeaaDoor
