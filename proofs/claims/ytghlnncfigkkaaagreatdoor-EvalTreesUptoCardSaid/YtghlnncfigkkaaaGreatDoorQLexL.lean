/-
  Source texts as tokens: the plain functions, no program.
-/
import Derived.Test.YtghlnncfigkkaaaGreatDoorQNum
import Derived.Lib.Bytealg
import Derived.Lib.IndexLaws
namespace Go.Proofs.YtghlnncfigkkaaaGreatDoor
set_option linter.unusedVariables false
set_option linter.unusedSimpArgs false
open Go.RowKit
def lowB (c:UInt8):Bool:=decide ((97:Int)≤(c.toNat:Int))&&decide ((c.toNat:Int)≤122)
def letB (c:UInt8):Bool:=(decide ((97:Int)≤(c.toNat:Int))&&decide ((c.toNat:Int)≤122))||((c.toNat:Int)==95)
def digB (c:UInt8):Bool:=decide ((48:Int)≤(c.toNat:Int))&&decide ((c.toNat:Int)≤57)
def namB (c:UInt8):Bool:=letB c||digB c
def ZdS (c:UInt8):Bool:=decide (c.toNat=32∨c.toNat=10∨c.toNat=9∨c.toNat=13)
def skipN:Bool→List UInt8→Nat
 | _,[]=>0
 | true,c::r=>if c.toNat=10 then skipN false r+1 else skipN true r+1
 | false,c::r=>if c.toNat=35 then skipN true r+1 else if ZdS c then skipN false r+1 else 0
theorem ZfI (b:Bool):skipN b []=0:=by cases b <;> rfl
theorem Zlb (l:List UInt8):∀ b,skipN b l≤l.length:=by
 induction l with
 | nil=>intro b;rw [ZfI];simp
 | cons c r ih=>
  intro b
  have h1:=ih true
  have h2:=ih false
  cases b with
  | true=>unfold skipN;simp only [List.length_cons];split <;> omega
  | false=>unfold skipN;simp only [List.length_cons];split <;> (try split) <;> omega
theorem Zbe (s:ByteArray):s.data.toList.length=s.size:=by rw [Array.length_toList];rfl
def Za1 (s:ByteArray) (b:Bool) (k:Nat):Nat:=k+skipN b (s.data.toList.drop k)
theorem ZdT (s:ByteArray) (b:Bool) (k:Nat):Za1 s b k=k+skipN b (s.data.toList.drop k):=rfl
theorem ZfJ (s:ByteArray) (b:Bool) {k:Nat} (h:k≤s.size):Za1 s b k≤s.size∧k≤Za1 s b k:=by
 have:=Zlb (s.data.toList.drop k) b
 have hl:=Zbe s
 rw [List.length_drop,hl] at this
 unfold Za1
 omega
theorem Zc3 (s:ByteArray) {k:Nat} (h:k<s.size):s.data.toList.drop k=s[k]::s.data.toList.drop (k+1):=by
 rw [List.drop_eq_getElem_cons (by rw [Zbe];exact h)]
 rfl
theorem ZhO (s:ByteArray) (b:Bool):Za1 s b s.size=s.size:=by
 unfold Za1
 rw [List.drop_eq_nil_of_le (by rw [Zbe];exact Nat.le_refl _),ZfI]
 rfl
theorem Zdy (s:ByteArray) {k:Nat} (h:k<s.size) (hc:(s[k].toNat:Int)=32∨(s[k].toNat:Int)=10∨(s[k].toNat:Int)=9∨(s[k].toNat:Int)=13):Za1 s false k=Za1 s false (k+1):=by
 unfold Za1
 rw [Zc3 s h]
 have h1:¬ s[k].toNat=35:=by omega
 have h2:ZdS s[k]=true:=by unfold ZdS;simp;omega
 rw [show skipN false (s[k]::s.data.toList.drop (k+1))=skipN false (s.data.toList.drop (k+1))+1 from by rw [skipN,if_neg h1,if_pos h2]]
 omega
theorem Zgu (s:ByteArray) {k:Nat} (h:k<s.size) (h1:(s[k].toNat:Int)≠35) (hc:¬ ((s[k].toNat:Int)=32∨(s[k].toNat:Int)=10∨(s[k].toNat:Int)=9∨(s[k].toNat:Int)=13)):Za1 s false k=k:=by
 unfold Za1
 rw [Zc3 s h]
 have h1:¬ s[k].toNat=35:=by omega
 have h2:¬ ZdS s[k]=true:=by unfold ZdS;simp;omega
 rw [show skipN false (s[k]::s.data.toList.drop (k+1))=0 from by rw [skipN,if_neg h1,if_neg h2]]
 rfl
theorem Zgv (s:ByteArray) {k:Nat} (h:k<s.size) (h1:(s[k].toNat:Int)=35):Za1 s false k=Za1 s true (k+1)∧Za1 s true k=Za1 s false k:=by
 have h1':s[k].toNat=35:=by omega
 have e1:skipN false (s[k]::s.data.toList.drop (k+1))=skipN true (s.data.toList.drop (k+1))+1:=by rw [skipN,if_pos h1']
 have e2:skipN true (s[k]::s.data.toList.drop (k+1))=skipN true (s.data.toList.drop (k+1))+1:=by rw [skipN,if_neg (by omega)]
 unfold Za1
 rw [Zc3 s h,e1,e2]
 omega
theorem Zgw (s:ByteArray) {k:Nat} (h:k<s.size) (h1:(s[k].toNat:Int)=10):Za1 s true k=Za1 s false k:=by
 have h1':s[k].toNat=10:=by omega
 have h2:ZdS s[k]=true:=by unfold ZdS;simp;omega
 unfold Za1
 rw [Zc3 s h,show skipN true (s[k]::s.data.toList.drop (k+1))=skipN false (s.data.toList.drop (k+1))+1 from by rw [skipN,if_pos h1'],
  show skipN false (s[k]::s.data.toList.drop (k+1))=skipN false (s.data.toList.drop (k+1))+1 from by rw [skipN,if_neg (by omega),if_pos h2]]
theorem Ze5:∀ l:List UInt8,Lib.indexByte l 10 = -1→skipN true l=l.length
 | [],_=>rfl
 | c::r,h=>by
  have hc:c.toNat≠10:=by
   intro e
   have:c=10:=UInt8.toNat_inj.1 e
   rw [this] at h
   simp [Lib.indexByte] at h
  have hr:Lib.indexByte r 10 = -1:=by
   have hb:(c==10)=false:=by rw [beq_eq_false_iff_ne];rintro rfl;exact hc rfl
   unfold Lib.indexByte at h
   rw [hb] at h
   have hg:=Lib.indexByte_ge r 10
   simp only [Bool.false_eq_true,if_false] at h
   split at h
   ·rename_i hh;simpa using hh
   ·omega
  rw [show skipN true (c::r)=skipN true r+1 from by rw [skipN,if_neg hc],Ze5 r hr]
  rfl
theorem Ze6:∀ (l:List UInt8) (j:Nat),Lib.indexByte l 10=j→skipN true l=j+skipN true (l.drop j)
 | [],j,h=>by simp [Lib.indexByte] at h
 | c::r,0,h=>by simp
 | c::r,j+1,h=>by
  have hc:c.toNat≠10:=by
   intro e
   have:c=10:=UInt8.toNat_inj.1 e
   rw [this] at h
   simp [Lib.indexByte] at h
   omega
  have hr:Lib.indexByte r 10=(j:Int):=by
   have hb:(c==10)=false:=by rw [beq_eq_false_iff_ne];rintro rfl;exact hc rfl
   unfold Lib.indexByte at h
   rw [hb] at h
   simp only [Bool.false_eq_true,if_false] at h
   split at h <;> omega
  rw [show skipN true (c::r)=skipN true r+1 from by rw [skipN,if_neg hc],Ze6 r j hr,List.drop_succ_cons]
  omega
attribute [irreducible] skipN
def spanN (p:UInt8→Bool):List UInt8→Nat
 | []=>0
 | c::r=>if p c then spanN p r+1 else 0
theorem Zlc (p:UInt8→Bool) (l:List UInt8):spanN p l≤l.length:=by
 induction l with
 | nil=>exact Nat.le_refl _
 | cons c r ih=>unfold spanN;split <;> simp <;> omega
def Zax (p:UInt8→Bool) (s:ByteArray) (k:Nat):Nat:=spanN p (s.data.toList.drop k)
theorem Zce (p:UInt8→Bool) (s:ByteArray) {k:Nat} (h:k≤s.size):k+Zax p s k≤s.size:=by
 have:=Zlc p (s.data.toList.drop k)
 rw [List.length_drop,Zbe] at this
 unfold Zax
 omega
theorem Zbw (p:UInt8→Bool) (s:ByteArray) {k:Nat} (h:k<s.size) (hp:p s[k]=true):Zax p s k=Zax p s (k+1)+1:=by
 unfold Zax
 rw [Zc3 s h,spanN,if_pos hp]
theorem ZfK (p:UInt8→Bool) (s:ByteArray) {k:Nat} (h:k<s.size) (hp:p s[k]=false):Zax p s k=0:=by
 unfold Zax
 rw [Zc3 s h,spanN,if_neg (by rw [hp];simp)]
theorem Ze7 (p:UInt8→Bool) (s:ByteArray):Zax p s s.size=0:=by
 unfold Zax
 rw [List.drop_eq_nil_of_le (by rw [Zbe];exact Nat.le_refl _)]
 rfl
attribute [irreducible] Za1 Zax
end Go.Proofs.YtghlnncfigkkaaaGreatDoor
