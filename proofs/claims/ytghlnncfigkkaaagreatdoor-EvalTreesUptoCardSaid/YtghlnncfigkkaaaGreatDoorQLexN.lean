/-
  Numerals in source texts, and the token at a place: plain functions and lemmas, no program.
-/
import Derived.Test.YtghlnncfigkkaaaGreatDoorQLexL
import Derived.Lib.ParseIntB
import Derived.Lib.Strings
namespace Go.Proofs.YtghlnncfigkkaaaGreatDoor
set_option linter.unusedVariables false
set_option linter.unusedSimpArgs false
open Go.RowKit
def decA:Nat→List UInt8→Nat
 | a,[]=>a
 | a,c::r=>decA (a*10+(c.toNat-48)) r
def decV (l:List UInt8):Nat:=decA 0 l
theorem ZmA (l:List UInt8):∀ a,a≤decA a l:=by
 induction l with
 | nil=>intro a;exact Nat.le_refl _
 | cons c r ih=>intro a;have:=ih (a*10+(c.toNat-48));unfold decA;omega
theorem Zji (c:UInt8) (r:List UInt8) (a:Nat):a*10+(c.toNat-48)≤decA a (c::r):=by
 have:=ZmA r (a*10+(c.toNat-48))
 unfold decA
 exact this
theorem Zld (c:UInt8):digB c=true↔48≤c.toNat∧c.toNat≤57:=by unfold digB;simp;omega
theorem ZlH (l:List UInt8):∀ a,a<18446744073709551616→(∀ c∈l,digB c=true) →
  Lib.parseUintM (2 ^ 64-1) a l=if decA a l<18446744073709551616 then .ok (decA a l) else .range:=by
 induction l with
 | nil=>intro a ha _;unfold Lib.parseUintM decA;rw [if_pos ha]
 | cons c r ih=>
  intro a ha hd
  have hc:=(Zld c).1 (hd c (by simp))
  have hg:=Zji c r a
  unfold Lib.parseUintM
  rw [if_pos hc]
  by_cases h1:1844674407370955162≤a
  ·rw [if_pos h1,if_neg (by omega)]
  ·rw [if_neg h1]
   by_cases h2:2 ^ 64-1<a*10+(c.toNat-48)
   ·rw [if_pos h2,if_neg (by omega)]
   ·rw [if_neg h2,ih _ (by omega) (fun x hx=>hd x (List.mem_cons_of_mem _ hx))]
    rfl
theorem Zle {l:List UInt8} (hne:l≠[]) (hd:∀ c∈l,digB c=true) (h:decV l<18446744073709551616):Lib.parseUintB 64 l=.ok (decV l):=by
 unfold Lib.parseUintB
 rw [if_neg hne,ZlH l 0 (by omega) hd]
 exact if_pos h
theorem Zgx {l:List UInt8} (hne:l≠[]) (hd:∀ c∈l,digB c=true) (h:¬ decV l<18446744073709551616):Lib.parseUintB 64 l=.range:=by
 unfold Lib.parseUintB
 rw [if_neg hne,ZlH l 0 (by omega) hd]
 exact if_neg h
theorem Zjj (p:UInt8→Bool) (l:List UInt8):∀ c∈l.take (spanN p l),p c=true:=by
 induction l with
 | nil=>intro c h;simp at h
 | cons x r ih=>
  intro c h
  unfold spanN at h
  split at h
  ·rename_i hx
   rw [List.take_succ_cons] at h
   rcases List.mem_cons.1 h with e | e
   ·rw [e];exact hx
   ·exact ih c e
  ·simp at h
def Zam (s:ByteArray) (k n:Nat):List UInt8:=(s.data.toList.drop k).take n
theorem Ze8 (p:UInt8→Bool) (s:ByteArray) (k:Nat):∀ c∈Zam s k (Zax p s k),p c=true:=by
 have h:=Zjj p (s.data.toList.drop k)
 unfold Zam
 have e:Zax p s k=spanN p (s.data.toList.drop k):=by unfold Zax;rfl
 rw [e]
 exact h
theorem ZcS (s:ByteArray) {k n:Nat} (h:k+n≤s.size):(Zam s k n).length=n:=by
 unfold Zam
 rw [List.length_take,List.length_drop,Zbe]
 omega
theorem ZaF (s:ByteArray) (k n:Nat):(s.extract k (k+n)).data.toList=Zam s k n:=by
 rw [Lib.extract_data]
 unfold Zam
 congr 1;omega
def wordB (l:List UInt8):Bool:=l==[105,110,112,117,116]||l==[108,101,116]||l==[111,117,116,112,117,116]||l==[114,101,108,117]||l==[115,117,109]||l==[97,114,103,109,97,120]||l==[109,97,120]||l==[109,117,120]
def signL:List UInt8:=[43,45,42,64,60,61,40,41,91,93,44,59]
def signB (c:UInt8):Bool:=signL.contains c
def letAt (s:ByteArray) (k:Nat):Bool:=if h:k<s.size then letB s[k] else false
def oneM (s:ByteArray) (k:Nat):Option (Nat × Nat × Nat):=
 if h:k<s.size then
  if digB s[k] then
   if decV (Zam s k (Zax digB s k))<18446744073709551616∧(s[k].toNat≠48∨Zax digB s k=1)∧letAt s (k+Zax digB s k)=false then some (2,Zax digB s k,decV (Zam s k (Zax digB s k))) else none
  else if lowB s[k] then
   if Zax namB s k≤16 then some (if wordB (Zam s k (Zax namB s k)) then 4 else 1,Zax namB s k,0) else none
  else if Lib.hasPrefix (s.data.toList.drop k) [62,62] then some (3,2,0)
  else if signB s[k] then some (3,1,0) else none
 else none
end Go.Proofs.YtghlnncfigkkaaaGreatDoor
