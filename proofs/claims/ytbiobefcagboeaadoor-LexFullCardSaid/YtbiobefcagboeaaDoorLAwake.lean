/-
  The lex laws' awake answers true.
-/
import Derived.Test.YtbiobefcagboeaaDoorScan
import Derived.Test.YtbiobefcagboeaaDoorIs
import Derived.Test.YtbiobefcagboeaaDoorTokEq
namespace Go.Proofs.YtbiobefcagboeaaDoor
set_option linter.unusedVariables false
set_option linter.unusedSimpArgs false
open Go.RowKit
def awkA : ByteArray := { data := #[108, 101, 116, 32, 121, 32, 61, 32, 120, 62, 62, 50, 59, 32, 35, 32, 122] }
def awkB : ByteArray := { data := #[120, 32, 62, 32, 49] }
def awkL : List Tok := [⟨4, ⟨#[108, 101, 116]⟩, 0, 0⟩, ⟨1, ⟨#[121]⟩, 0, 4⟩, ⟨3, ⟨#[61]⟩, 0, 6⟩, ⟨1, ⟨#[120]⟩, 0, 8⟩, ⟨3, ⟨#[62, 62]⟩, 0, 9⟩, ⟨2, ⟨#[50]⟩, 2, 11⟩, ⟨3, ⟨#[59]⟩, 0, 12⟩, ⟨0, ⟨#[]⟩, 0, 17⟩]
theorem awkA_scan : scanM awkA = .toks awkL := by kernel_rfl
theorem awkB_scan : scanM awkB = .err 120 2 := by kernel_rfl
theorem scan_toks (s : ByteArray) (l : List Tok) (w : World) (hs : s.size ≤ 100000) (hg : ETyped w) (ht : ErrT w) (hm : scanM s = .toks l) :
    Calls Tryd.prog 9 #[.string s] w fun e w' => Below w.heap.size w w' ∧ ∃ A cap, e = .returned (.tuple #[.slice A l.length cap, .nilIface]) ∧ OwnT w' w.heap.size A cap l := by
  refine (scan_any s w hs hg ht).mono ?_
  rintro e w' ⟨hb, h⟩
  rw [hm] at h
  rcases h with ⟨l', A, cap, he, h1, h2⟩ | ⟨c, p, v, he, _⟩
  · injection he with he
    subst he
    exact ⟨hb, A, cap, h1, h2⟩
  · cases he
theorem scan_err (s : ByteArray) (c p : Nat) (w : World) (hs : s.size ≤ 100000) (hg : ETyped w) (ht : ErrT w) (hm : scanM s = .err c p) :
    Calls Tryd.prog 9 #[.string s] w fun e w' => Below w.heap.size w w' ∧ ∃ v, e = .returned (.tuple #[.slice none 0 0, v]) ∧ IsErr w' v [(lexN, (p : Int))] (c : Int) := by
  refine (scan_any s w hs hg ht).mono ?_
  rintro e w' ⟨hb, h⟩
  rw [hm] at h
  rcases h with ⟨l', A, cap, he, h1, h2⟩ | ⟨c, p, v, he, h1, h2⟩
  · cases he
  · injection he with e1 e2
    subst e1 e2
    exact ⟨hb, v, h1, h2⟩
set_option maxRecDepth 100000 in
set_option maxHeartbeats 4000000 in
theorem awake_true (w : World) (hg : ETyped w) (ht : ErrT w) : Calls Tryd.prog 8 #[] w fun e w' => e = .returned (.bool true) ∧ Below w.heap.size w w' := by
  have HG := Lib.hid hg
  have HT := Lib.hid ht
  clear hg ht
  go_enter Tryd.func8, Tryd.ntmps8
  go_wp2_with fail
  refine (scan_toks awkA awkL w (by decide) HG.out HT.out awkA_scan).mono ?_
  rintro e w1 ⟨b1, A, cap, rfl, o1⟩
  have HB1 := Lib.hid b1
  have HO1 := Lib.hid o1
  clear b1 o1
  go_wp2_with fail
  refine (scan_err awkB 120 2 w1 (by decide) (HG.out.next HB1.out) (HT.out.next HB1.out) awkB_scan).mono ?_
  rintro e w2 ⟨b2, v, rfl, he⟩
  have HB2 := Lib.hid (bnext HB1.out b2)
  have HE := Lib.hid he
  have hrd := (HO1.out.next b2).rd
  obtain ⟨b, o, rfl, hlt, c40, c41, c42, c43⟩ := hrd.tok (i := 4) (t := ⟨3, ⟨#[62, 62]⟩, 0, 9⟩) rfl
  obtain ⟨_, _, h5, _, c50, c51, c52, c53⟩ := hrd.tok (i := 5) (t := ⟨2, ⟨#[50]⟩, 2, 11⟩) rfl
  injection h5 with h5
  injection h5 with h5 h6
  subst h5 h6
  obtain ⟨_, _, h5, _, c70, c71, c72, c73⟩ := hrd.tok (i := 7) (t := ⟨0, ⟨#[]⟩, 0, 17⟩) rfl
  injection h5 with h5
  injection h5 with h5 h6
  subst h5 h6
  have hq : ∀ w, (binOp .eql 31 (.agg #[.int .i64 0, .string ⟨#[]⟩, .int .u64 0, .int .i64 17]) (.agg #[.int .i64 0, .string ⟨#[]⟩, .int .u64 0, .int .i64 17])).run Tryd.prog w = .ok (.bool true) w := fun w => by rw [run_eql_tok]; simp
  have HI := Lib.hid (fun W hW => Is_any [(lexN, (2 : Int))] 120 120 v W hW)
  clear b2 he hrd c40 c42 c43 c50 c51 c53 hlt
  go_wp2_with (go_at_call 13; refine (HI.out _ HE.out).mono ?_; rintro e w' ⟨rfl, rfl⟩)
  go_ret
  exact ⟨rfl, HB2.out⟩
end Go.Proofs.YtbiobefcagboeaaDoor
