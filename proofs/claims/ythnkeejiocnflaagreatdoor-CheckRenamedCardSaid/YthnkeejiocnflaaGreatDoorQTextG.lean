/-
  parse.Text at a text whose tokens and tree are known; the laws' Cut.
-/
import Derived.Test.YthnkeejiocnflaaGreatDoorQIs
import Derived.Test.YthnkeejiocnflaaGreatDoorQMin
namespace Go.Proofs.YthnkeejiocnflaaGreatDoor
set_option linter.unusedVariables false
set_option linter.unusedSimpArgs false
open Go.RowKit
theorem text_good (s : ByteArray) (F : Nat) (l : List Tok) (w : World) (hs : s.size ≤ 100000) (hg : ETyped w) (ht : ErrT w) (hF : 12 * l.length + 20 ≤ F) (hl : scanM s = .toks l) (he : (parseP F l).err = none) :
    Calls Tryz.prog 12 #[.string s] w fun e w' => Below w.heap.size w w' ∧ ∃ SA sc EA ec, e = .returned (.tuple #[.agg #[.slice SA (parseP F l).ss.length sc, .slice EA (parseP F l).es.length ec], .nilIface]) ∧ OwnS w' w.heap.size SA sc (parseP F l).ss ∧ OwnE w' w.heap.size EA ec (parseP F l).es := by
  refine (text_any s F w hs hg ht (fun l' h' => by rw [hl] at h'; injection h' with h'; subst h'; exact hF)).mono ?_
  rintro e w' ⟨hb, h⟩
  rcases h with ⟨l', e1, e2, r⟩ | ⟨l', c, p, v, e1, e2, r⟩ | ⟨c, p, v, e1, r⟩
  · rw [hl] at e1; injection e1 with e1; subst e1
    exact ⟨hb, r⟩
  · rw [hl] at e1; injection e1 with e1; subst e1
    rw [he] at e2; cases e2
  · rw [hl] at e1; cases e1
theorem text_bad (s : ByteArray) (F : Nat) (l : List Tok) (c p : Nat) (w : World) (hs : s.size ≤ 100000) (hg : ETyped w) (ht : ErrT w) (hF : 12 * l.length + 20 ≤ F) (hl : scanM s = .toks l) (he : (parseP F l).err = some (c, p)) :
    Calls Tryz.prog 12 #[.string s] w fun e w' => Below w.heap.size w w' ∧ ∃ v, e = .returned (.tuple #[.agg #[.slice none 0 0, .slice none 0 0], v]) ∧ IsErr w' v [(parN, (p : Int))] (c : Int) := by
  refine (text_any s F w hs hg ht (fun l' h' => by rw [hl] at h'; injection h' with h'; subst h'; exact hF)).mono ?_
  rintro e w' ⟨hb, h⟩
  rcases h with ⟨l', e1, e2, r⟩ | ⟨l', c', p', v, e1, e2, r⟩ | ⟨c', p', v, e1, r⟩
  · rw [hl] at e1; injection e1 with e1; subst e1
    rw [he] at e2; cases e2
  · rw [hl] at e1; injection e1 with e1; subst e1
    rw [he] at e2
    injection e2 with e2
    injection e2 with e2 e3
    subst e2 e3
    exact ⟨hb, v, r⟩
  · rw [hl] at e1; cases e1
theorem run_min_4200 (w : World) (ts : Array TypeId) (t : TypeId) (a : Nat) : (Builtin.min_ ts t #[.int .i64 (a : Int), .int .i64 4200]).run Tryz.prog w = .ok (.int .i64 (minN a 4200 : Nat)) w := run_min_lit w ts t a 4200
attribute [local go_sem ↓] run_min_4200
set_option maxRecDepth 100000 in
theorem cut_any (s : ByteArray) (hsz : s.size ≤ maxLen) (w : World) : Calls Tryz.prog 13 #[.string s] w fun e w' => e = .returned (.string (s.extract 0 (minN s.size 4200))) ∧ w = w' := by
  obtain ⟨m1, m2, m3⟩ := minN_le s.size 4200
  obtain ⟨M, hM⟩ : ∃ M, M = minN s.size 4200 := ⟨_, rfl⟩
  rw [← hM] at m1 m2 ⊢
  have hm := hM.symm
  clear m3 hM
  go_enter Tryz.func13, Tryz.ntmps13
  go_wp2
  go_ret
  exact ⟨rfl, rfl⟩
end Go.Proofs.YthnkeejiocnflaaGreatDoor
