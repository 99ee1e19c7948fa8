/-
  How big a parsed tree is.
-/
import Derived.Test.YtghlnncfigkkaaaGreatDoorQMin
namespace Go.Proofs.YtghlnncfigkkaaaGreatDoor
set_option linter.unusedVariables false
set_option linter.unusedSimpArgs false
open Go.RowKit
theorem ZjR (L:List Tok) (n f:Nat) (s:PS) (h:s.err≠none):Zak L n f s=s:=by
 cases n with
 | zero=>rfl
 | succ n=>
  rw [Zak]
  have:s.err.isNone=false:=by cases he:s.err with | none=>exact absurd he h | some _=>rfl
  rw [this]
  rfl
theorem Zna (L:List Tok) (f:Nat):∀ (n:Nat) (s:PS),s.ss.length≤64→(Zak L n f s).err=none→(Zak L n f s).ss.length≤64:=by
 intro n
 induction n with
 | zero=>intro s h _;exact h
 | succ n ih=>
  intro s h he
  rw [Zak] at he ⊢
  split
  ·rename_i hc
   rw [if_pos hc] at he
   have h1:(stmtP L f s).err=none:=Classical.byContradiction fun h1=>by
    rw [ZjR L n f _ h1] at he
    exact h1 he
   have h2:s.ss.length≠64:=fun h2=>ZfR f s h2 h1
   have h3:=(ZlN (L:=L) f s).2.2.2
   exact ih _ (by omega) he
  ·exact h
theorem Zih {F:Nat} {L:List Tok} (h:(Zao F L).err=none):(Zao F L).ss.length≤64:=Zna L F F Zd0 (Nat.zero_le _) h
theorem Znb (L:List Tok) (f:Nat) (s:PS) (h:s.es.length≤s.i) (hl:s.i≤L.length):(stmtP L f s).es.length≤(stmtP L f s).i∧(stmtP L f s).i≤L.length:=by
 have g:=Zdz (L:=L) f s
 have g2:=G.want (L:=L) (bodyP L f s).1 tSemi
 have e:stmtP L f s=putS (wantP L (bodyP L f s).1 tSemi) (bodyP L f s).2:=rfl
 rw [e]
 refine ⟨?_,g2.hl (g.hl hl)⟩
 show (wantP L (bodyP L f s).1 tSemi).es.length≤(wantP L (bodyP L f s).1 tSemi).i
 have h1:=g.he
 have h2:=g2.he
 omega
theorem Znc (L:List Tok) (f:Nat):∀ (n:Nat) (s:PS),s.es.length≤s.i→s.i≤L.length→(Zak L n f s).es.length≤L.length:=by
 intro n
 induction n with
 | zero=>intro s h hl;exact Nat.le_trans h hl
 | succ n ih=>
  intro s h hl
  rw [Zak]
  split
  ·have:=Znb L f s h hl
   exact ih _ this.1 this.2
  ·exact Nat.le_trans h hl
theorem ZlE (F:Nat) (L:List Tok):(Zao F L).es.length≤L.length:=Znc L F F Zd0 (Nat.zero_le _) (Nat.zero_le _)
end Go.Proofs.YtghlnncfigkkaaaGreatDoor
