/-
  The scan of a source text: the plain function.
-/
import Derived.Test.YtghlnncfigkkaaaGreatDoorQTok
import Derived.Test.YtghlnncfigkkaaaGreatDoorQLexN
namespace Go.Proofs.YtghlnncfigkkaaaGreatDoor
set_option linter.unusedVariables false
set_option linter.unusedSimpArgs false
open Go.RowKit
inductive ScanR where
 | toks (l:List Tok)
 | err (code pos:Nat)
def ZjQ (s:ByteArray):Tok:=⟨0,⟨#[]⟩,0,s.size⟩
def ZaN:Nat→ByteArray→Nat→List Tok→ScanR
 | 0,_,_,l=>.toks l
 | f+1,s,k,l=>
  if k<s.size then
   match oneM s k with
   | none=>.err 120 k
   | some (t,n,v)=>if l.length=512 then .err 5 k else ZaN f s (Za1 s false (k+n)) (l++[⟨t,s.extract k (k+n),v,k⟩])
  else .toks (l++[ZjQ s])
def scanM (s:ByteArray):ScanR:=if 4096<s.size then .err 3 s.size else ZaN (s.size+1) s (Za1 s false 0) []
theorem Zee {s:ByteArray} {k t n v:Nat} (h:oneM s k=some (t,n,v)):1≤n∧k+n≤s.size∧t≤4∧v<18446744073709551616:=by
 unfold oneM at h
 split at h
 ·rename_i hk
  split at h
  ·rename_i hd
   split at h
   ·rename_i hc
    injection h with h
    injection h with h1 h2
    injection h2 with h2 h3
    have:=Zce digB s (Nat.le_of_lt hk)
    have h5:=Zbw digB s hk hd
    omega
   ·cases h
  ·split at h
   ·rename_i hd hl
    split at h
    ·injection h with h
     injection h with h1 h2
     injection h2 with h2 h3
     have:=Zce namB s (Nat.le_of_lt hk)
     have hn:namB s[k]=true:=by
      unfold namB letB
      unfold lowB at hl
      simp at hl ⊢
      omega
     have h5:=Zbw namB s hk hn
     split at h1 <;> omega
    ·cases h
   ·split at h
    ·rename_i hp
     injection h with h
     injection h with h1 h2
     injection h2 with h2 h3
     unfold Lib.hasPrefix at hp
     rw [List.isPrefixOf_iff_prefix] at hp
     have hl:=hp.length_le
     rw [List.length_drop,Zbe] at hl
     simp at hl
     omega
    ·split at h
     ·injection h with h
      injection h with h1 h2
      injection h2 with h2 h3
      omega
     ·cases h
 ·cases h
theorem Zif {f k:Nat} {s:ByteArray} {l:List Tok} (h:¬ k<s.size):ZaN (f+1) s k l=.toks (l++[ZjQ s]):=by
 rw [ZaN,if_neg h]
theorem Zig {f k:Nat} {s:ByteArray} {l:List Tok} (h:k<s.size) (h1:oneM s k=none):ZaN (f+1) s k l=.err 120 k:=by
 rw [ZaN,if_pos h,h1]
theorem ZgF {f k t n v:Nat} {s:ByteArray} {l:List Tok} (h:k<s.size) (h1:oneM s k=some (t,n,v)) (h2:l.length=512):ZaN (f+1) s k l=.err 5 k:=by
 rw [ZaN,if_pos h,h1]
 simp only [if_pos h2]
theorem ZgG {f k t n v:Nat} {s:ByteArray} {l:List Tok} (h:k<s.size) (h1:oneM s k=some (t,n,v)) (h2:l.length≠512):
  ZaN (f+1) s k l=ZaN f s (Za1 s false (k+n)) (l++[⟨t,s.extract k (k+n),v,k⟩]):=by
 rw [ZaN,if_pos h,h1]
 simp only [if_neg h2]
attribute [irreducible] ZaN
end Go.Proofs.YtghlnncfigkkaaaGreatDoor
