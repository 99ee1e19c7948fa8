/-
 Walks of lex's small functions.
-/
import Derived.Test.YtghlnncfigkkaaaGreatDoorQNum
import Derived.Lib.Bytealg
import Derived.Lib.IndexLaws
import Derived.Lib.ParseIntB
import Derived.Lib.Strings
import Derived.Test.YtghlnncfigkkaaaGreatDoorQParL
import Derived.Test.YtghlnncfigkkaaaGreatDoorRows
import Derived.Laws.BytesArg
import Derived.Test.YtghlnncfigkkaaaGreatDoorShelf
import Derived.Outline
set_option linter.unusedVariables false
set_option linter.unusedSimpArgs false
namespace Go.Proofs.YtghlnncfigkkaaaGreatDoor
open Go.RowKit
def lowB (c:UInt8):Bool:=decide ((97:Int)≤(c.toNat:Int))&&decide ((c.toNat:Int)≤122)
def letB (c:UInt8):Bool:=(decide ((97:Int)≤(c.toNat:Int))&&decide ((c.toNat:Int)≤122))||((c.toNat:Int)==95)
def digB (c:UInt8):Bool:=decide ((48:Int)≤(c.toNat:Int))&&decide ((c.toNat:Int)≤57)
def namB (c:UInt8):Bool:=letB c||digB c
def ZdS (c:UInt8):Bool:=decide (c.toNat=32∨c.toNat=10∨c.toNat=9∨c.toNat=13)
def skipN:Bool→List UInt8→Nat
 | _,[]=>0
 | true,c::r=>if c.toNat=10 then skipN false r+1 else skipN true r+1
 | false,c::r=>if c.toNat=35 then skipN true r+1 else if ZdS c then skipN false r+1 else 0
theorem ZfI (b:Bool):skipN b []=0:=by cases b <;> rfl
theorem Zlb (l:List UInt8):∀ b,skipN b l≤l.length:=by
 induction l with
 | nil=>intro b;rw [ZfI];simp
 | cons c r ih=>
  intro b
  have a:=ih true;have d:=ih false
  cases b with
  | true=>unfold skipN;simp only [List.length_cons];split <;> omega
  | false=>unfold skipN;simp only [List.length_cons];split <;> (try split) <;> omega
theorem Zbe (s:ByteArray):s.data.toList.length=s.size:=by rw [Array.length_toList];rfl
def Za1 (s:ByteArray) (b:Bool) (k:Nat):Nat:=k+skipN b (s.data.toList.drop k)
theorem ZdT (s:ByteArray) (b:Bool) (k:Nat):Za1 s b k=k+skipN b (s.data.toList.drop k):=rfl
theorem ZfJ (s:ByteArray) (b:Bool) {k:Nat} (h:k≤s.size):Za1 s b k≤s.size∧k≤Za1 s b k:=by
 have:=Zlb (s.data.toList.drop k) b;have a:=Zbe s;rw [List.length_drop,a] at this;unfold Za1;omega
theorem Zc3 (s:ByteArray) {k:Nat} (h:k<s.size):s.data.toList.drop k=s[k]::s.data.toList.drop (k+1):=by
 rw [List.drop_eq_getElem_cons (by rw [Zbe];exact h)]
 rfl
theorem ZhO (s:ByteArray) (b:Bool):Za1 s b s.size=s.size:=by
 unfold Za1;rw [List.drop_eq_nil_of_le (by rw [Zbe];exact Kag _),ZfI]
 rfl
theorem Zdy (s:ByteArray) {k:Nat} (h:k<s.size) (c:(s[k].toNat:Int)=32∨(s[k].toNat:Int)=10∨(s[k].toNat:Int)=9∨(s[k].toNat:Int)=13):Za1 s false k=Za1 s false (k+1):=by
 unfold Za1;rw [Zc3 s h];have a:¬ s[k].toNat=35:=by omega
 have b:ZdS s[k]=true:=by unfold ZdS;simp;omega
 rw [show skipN false (s[k]::s.data.toList.drop (k+1))=skipN false (s.data.toList.drop (k+1))+1 from by rw [skipN,if_neg a,if_pos b]]
 omega
theorem Zgu (s:ByteArray) {k:Nat} (h:k<s.size) (a:(s[k].toNat:Int)≠35) (c:¬ ((s[k].toNat:Int)=32∨(s[k].toNat:Int)=10∨(s[k].toNat:Int)=9∨(s[k].toNat:Int)=13)):Za1 s false k=k:=by
 unfold Za1;rw [Zc3 s h];have a:¬ s[k].toNat=35:=by omega
 have b:¬ ZdS s[k]=true:=by unfold ZdS;simp;omega
 rw [show skipN false (s[k]::s.data.toList.drop (k+1))=0 from by rw [skipN,if_neg a,if_neg b]]
 rfl
theorem Zgv (s:ByteArray) {k:Nat} (h:k<s.size) (d:(s[k].toNat:Int)=35):Za1 s false k=Za1 s true (k+1)∧Za1 s true k=Za1 s false k:=by
 have a:s[k].toNat=35:=by omega
 have b:skipN false (s[k]::s.data.toList.drop (k+1))=skipN true (s.data.toList.drop (k+1))+1:=by rw [skipN,if_pos a]
 have c:skipN true (s[k]::s.data.toList.drop (k+1))=skipN true (s.data.toList.drop (k+1))+1:=by rw [skipN,if_neg (by omega)]
 unfold Za1;rw [Zc3 s h,b,c];omega
theorem Zgw (s:ByteArray) {k:Nat} (h:k<s.size) (c:(s[k].toNat:Int)=10):Za1 s true k=Za1 s false k:=by
 have a:s[k].toNat=10:=by omega
 have b:ZdS s[k]=true:=by unfold ZdS;simp;omega
 unfold Za1;rw [Zc3 s h,show skipN true (s[k]::s.data.toList.drop (k+1))=skipN false (s.data.toList.drop (k+1))+1 from by rw [skipN,if_pos a],
  show skipN false (s[k]::s.data.toList.drop (k+1))=skipN false (s.data.toList.drop (k+1))+1 from by rw [skipN,if_neg (by omega),if_pos b]]
theorem Ze5:∀ l:List UInt8,Lib.indexByte l 10 = -1→skipN true l=l.length
 | [],_=>rfl
 | c::r,h=>by
  have a:c.toNat≠10:=by
   intro e
   have:c=10:=UInt8.toNat_inj.1 e;rw [this] at h;simp [Lib.indexByte] at h
  have b:Lib.indexByte r 10 = -1:=by
   have d:(c==10)=false:=by rw [Kaj];rintro rfl;exact a rfl
   unfold Lib.indexByte at h;rw [d] at h;have f:=Lib.indexByte_ge r 10;simp only [Bool.false_eq_true,if_false] at h;split at h
   ·rename_i hh;simpa using hh
   ·omega
  rw [show skipN true (c::r)=skipN true r+1 from by rw [skipN,if_neg a],Ze5 r b]
  rfl
theorem Ze6:∀ (l:List UInt8) (j:Nat),Lib.indexByte l 10=j→skipN true l=j+skipN true (l.drop j)
 | [],j,h=>by simp [Lib.indexByte] at h
 | c::r,0,h=>by simp
 | c::r,j+1,h=>by
  have a:c.toNat≠10:=by
   intro e
   have:c=10:=UInt8.toNat_inj.1 e;rw [this] at h;simp [Lib.indexByte] at h;omega
  have b:Lib.indexByte r 10=(j:Int):=by
   have d:(c==10)=false:=by rw [Kaj];rintro rfl;exact a rfl
   unfold Lib.indexByte at h;rw [d] at h;simp only [Bool.false_eq_true,if_false] at h;split at h <;> omega
  rw [show skipN true (c::r)=skipN true r+1 from by rw [skipN,if_neg a],Ze6 r j b,List.drop_succ_cons]
  omega
attribute [irreducible] skipN
def spanN (p:UInt8→Bool):List UInt8→Nat
 | []=>0
 | c::r=>if p c then spanN p r+1 else 0
theorem Zlc (p:UInt8→Bool) (l:List UInt8):spanN p l≤l.length:=by
 induction l with
 | nil=>exact Kag _
 | cons c r ih=>unfold spanN;split <;> simp <;> omega
def Zax (p:UInt8→Bool) (s:ByteArray) (k:Nat):Nat:=spanN p (s.data.toList.drop k)
theorem Zce (p:UInt8→Bool) (s:ByteArray) {k:Nat} (h:k≤s.size):k+Zax p s k≤s.size:=by
 have:=Zlc p (s.data.toList.drop k);rw [List.length_drop,Zbe] at this;unfold Zax;omega
theorem Zbw (p:UInt8→Bool) (s:ByteArray) {k:Nat} (h:k<s.size) (a:p s[k]=true):Zax p s k=Zax p s (k+1)+1:=by
 unfold Zax;rw [Zc3 s h,spanN,if_pos a]
theorem ZfK (p:UInt8→Bool) (s:ByteArray) {k:Nat} (h:k<s.size) (a:p s[k]=false):Zax p s k=0:=by
 unfold Zax;rw [Zc3 s h,spanN,if_neg (by rw [a];simp)]
theorem Ze7 (p:UInt8→Bool) (s:ByteArray):Zax p s s.size=0:=by
 unfold Zax;rw [List.drop_eq_nil_of_le (by rw [Zbe];exact Kag _)]
 rfl
attribute [irreducible] Za1 Zax
def decA:Nat→List UInt8→Nat
 | a,[]=>a
 | a,c::r=>decA (a*10+(c.toNat-48)) r
def decV (l:List UInt8):Nat:=decA 0 l
theorem ZmA (l:List UInt8):∀ a,a≤decA a l:=by
 induction l with
 | nil=>intro a;exact Kag _
 | cons c r ih=>intro a;have:=ih (a*10+(c.toNat-48));unfold decA;omega
theorem Zji (c:UInt8) (r:List UInt8) (a:Nat):a*10+(c.toNat-48)≤decA a (c::r):=by
 have:=ZmA r (a*10+(c.toNat-48));unfold decA;exact this
theorem Zld (c:UInt8):digB c=true↔48≤c.toNat∧c.toNat≤57:=by unfold digB;simp;omega
theorem ZlH (l:List UInt8):∀ a,a<18446744073709551616→(∀ c∈l,digB c=true) →
  Lib.parseUintM (2 ^ 64-1) a l=if decA a l<18446744073709551616 then .ok (decA a l) else .range:=by
 induction l with
 | nil=>intro a b _;unfold Lib.parseUintM decA;rw [if_pos b]
 | cons c r ih=>
  intro a b d
  have g:=(Zld c).1 (d c (by simp))
  have i:=Zji c r a;unfold Lib.parseUintM;rw [if_pos g]
  by_cases e:1844674407370955162≤a
  ·rw [if_pos e,if_neg (by omega)]
  ·rw [if_neg e]
   by_cases f:2 ^ 64-1<a*10+(c.toNat-48)
   ·rw [if_pos f,if_neg (by omega)]
   ·rw [if_neg f,ih _ (by omega) (fun x h=>d x (List.mem_cons_of_mem _ h))]
    rfl
theorem Zle {l:List UInt8} (a:l≠[]) (b:∀ c∈l,digB c=true) (h:decV l<18446744073709551616):Lib.parseUintB 64 l=.ok (decV l):=by
 unfold Lib.parseUintB;rw [if_neg a,ZlH l 0 (by omega) b]
 exact if_pos h
theorem Zgx {l:List UInt8} (a:l≠[]) (b:∀ c∈l,digB c=true) (h:¬ decV l<18446744073709551616):Lib.parseUintB 64 l=.range:=by
 unfold Lib.parseUintB;rw [if_neg a,ZlH l 0 (by omega) b]
 exact if_neg h
theorem Zjj (p:UInt8→Bool) (l:List UInt8):∀ c∈l.take (spanN p l),p c=true:=by
 induction l with
 | nil=>intro c h;simp at h
 | cons x r ih=>
  intro c h
  unfold spanN at h;split at h
  ·rename_i hx
   rw [List.take_succ_cons] at h;rcases List.mem_cons.1 h with e | e
   ·rw [e];exact hx
   ·exact ih c e
  ·simp at h
def Zam (s:ByteArray) (k n:Nat):List UInt8:=(s.data.toList.drop k).take n
theorem Ze8 (p:UInt8→Bool) (s:ByteArray) (k:Nat):∀ c∈Zam s k (Zax p s k),p c=true:=by
 have h:=Zjj p (s.data.toList.drop k);unfold Zam;have e:Zax p s k=spanN p (s.data.toList.drop k):=by unfold Zax;rfl
 rw [e];exact h
theorem ZcS (s:ByteArray) {k n:Nat} (h:k+n≤s.size):(Zam s k n).length=n:=by
 unfold Zam;rw [List.length_take,List.length_drop,Zbe];omega
theorem ZaF (s:ByteArray) (k n:Nat):(s.extract k (k+n)).data.toList=Zam s k n:=by
 rw [Lib.extract_data];unfold Zam
 congr 1;omega
def wordB (l:List UInt8):Bool:=l==[105,110,112,117,116]||l==[108,101,116]||l==[111,117,116,112,117,116]||l==[114,101,108,117]||l==[115,117,109]||l==[97,114,103,109,97,120]||l==[109,97,120]||l==[109,117,120]
def signL:List UInt8:=[43,45,42,64,60,61,40,41,91,93,44,59]
def signB (c:UInt8):Bool:=signL.contains c
def letAt (s:ByteArray) (k:Nat):Bool:=if h:k<s.size then letB s[k] else false
def oneM (s:ByteArray) (k:Nat):Option (Nat × Nat × Nat):=
 if h:k<s.size then
  if digB s[k] then
   if decV (Zam s k (Zax digB s k))<18446744073709551616∧(s[k].toNat≠48∨Zax digB s k=1)∧letAt s (k+Zax digB s k)=false then some (2,Zax digB s k,decV (Zam s k (Zax digB s k))) else none
  else if lowB s[k] then
   if Zax namB s k≤16 then some (if wordB (Zam s k (Zax namB s k)) then 4 else 1,Zax namB s k,0) else none
  else if Lib.hasPrefix (s.data.toList.drop k) [62,62] then some (3,2,0)
  else if signB s[k] then some (3,1,0) else none
 else none
inductive ScanR where
 | toks (l:List Tok)
 | err (code pos:Nat)
def ZjQ (s:ByteArray):Tok:=⟨0,⟨#[]⟩,0,s.size⟩
def ZaN:Nat→ByteArray→Nat→List Tok→ScanR
 | 0,_,_,l=>.toks l
 | f+1,s,k,l=>
  if k<s.size then
   match oneM s k with
   | none=>.err 120 k
   | some (t,n,v)=>if l.length=512 then .err 5 k else ZaN f s (Za1 s false (k+n)) (l++[⟨t,s.extract k (k+n),v,k⟩])
  else .toks (l++[ZjQ s])
def scanM (s:ByteArray):ScanR:=if 4096<s.size then .err 3 s.size else ZaN (s.size+1) s (Za1 s false 0) []
theorem Zee {s:ByteArray} {k t n v:Nat} (h:oneM s k=some (t,n,v)):1≤n∧k+n≤s.size∧t≤4∧v<18446744073709551616:=by
 unfold oneM at h;split at h
 ·rename_i hk
  split at h
  ·rename_i hd
   split at h
   ·rename_i hc
    injection h with h
    injection h with c a
    injection a with a d
    have:=Zce digB s (Nat.le_of_lt hk);have e:=Zbw digB s hk hd;omega
   ·cases h
  ·split at h
   ·rename_i hd b
    split at h
    ·injection h with h
     injection h with c a
     injection a with a d
     have:=Zce namB s (Nat.le_of_lt hk);have f:namB s[k]=true:=by
      unfold namB letB;unfold lowB at b;simp at b ⊢;omega
     have e:=Zbw namB s hk f;split at c <;> omega
    ·cases h
   ·split at h
    ·rename_i hp
     injection h with h
     injection h with c a
     injection a with a d
     unfold Lib.hasPrefix at hp;rw [List.isPrefixOf_iff_prefix] at hp;have b:=hp.length_le;rw [List.length_drop,Zbe] at b;simp at b;omega
    ·split at h
     ·injection h with h
      injection h with c a
      injection a with a d
      omega
     ·cases h
 ·cases h
theorem Zif {f k:Nat} {s:ByteArray} {l:List Tok} (h:¬ k<s.size):ZaN (f+1) s k l=.toks (l++[ZjQ s]):=by
 rw [ZaN,if_neg h]
theorem Zig {f k:Nat} {s:ByteArray} {l:List Tok} (h:k<s.size) (a:oneM s k=none):ZaN (f+1) s k l=.err 120 k:=by
 rw [ZaN,if_pos h,a]
theorem ZgF {f k t n v:Nat} {s:ByteArray} {l:List Tok} (h:k<s.size) (a:oneM s k=some (t,n,v)) (b:l.length=512):ZaN (f+1) s k l=.err 5 k:=by
 rw [ZaN,if_pos h,a];simp only [if_pos b]
theorem ZgG {f k t n v:Nat} {s:ByteArray} {l:List Tok} (h:k<s.size) (a:oneM s k=some (t,n,v)) (b:l.length≠512):
  ZaN (f+1) s k l=ZaN f s (Za1 s false (k+n)) (l++[⟨t,s.extract k (k+n),v,k⟩]):=by
 rw [ZaN,if_pos h,a];simp only [if_neg b]
attribute [irreducible] ZaN
def nthB (l:List UInt8) (k:Nat):UInt8:=l.getD k 0
def contB:Nat→List UInt8→Nat
 | 0,_=>0
 | _+1,[]=>0
 | f+1,c::r=>if 128≤c.toNat then contB f r+1 else 0
def takeB (l:List UInt8):Nat × Nat:=
 if contB 5 l=l.length∨contB 5 l=5 then (0,0)
 else if 4294967295<valB (l.take (contB 5 l+1))∨numB (valB (l.take (contB 5 l+1)))≠l.take (contB 5 l+1) then (0,0)
 else (valB (l.take (contB 5 l+1)),contB 5 l+1)
attribute [irreducible] nthB takeB
def strB (l:List UInt8):ByteArray:=⟨l.toArray⟩
attribute [irreducible] strB
end Go.Proofs.YtghlnncfigkkaaaGreatDoor
set_option maxRecDepth 100000
set_option maxHeartbeats 1000000
namespace Go.Proofs.YtghlnncfigkkaaaGreatDoor
open Go.RowKit
theorem Zdl (c:UInt8) (w:World):Calls Tryz.prog 123 #[V8 c] w fun e w'=>e=.returned (.bool (letB c))∧w=w':=by
 have a:=c.toNat_lt
 go_enter Tryz.func123,Tryz.ntmps123
 go_wp2
 all_goals
  go_ret;exact ⟨by first | (unfold letB;simp [*];done) | (unfold letB;simp [*];omega),rfl⟩
theorem Zcd (c:UInt8) (w:World):Calls Tryz.prog 120 #[V8 c] w fun e w'=>e=.returned (.bool (digB c))∧w=w':=by
 have a:=c.toNat_lt
 go_enter Tryz.func120,Tryz.ntmps120
 go_wp2
 all_goals
  go_ret;exact ⟨by first | (unfold digB;simp [*];done) | (unfold digB;simp [*];omega),rfl⟩
theorem ZdA (s:ByteArray) (k:Nat):(s.extract k s.size).data.toList=s.data.toList.drop k:=by
 rw [Lib.extract_data];rw [List.take_of_length_le (by rw [List.length_drop,Zbe];exact Kag _)]
theorem Zhe (s:ByteArray) (at_:Nat) (w:World) (L:s.size≤100000) (D:at_≤s.size):
  Calls Tryz.prog 81 #[.string s,.int .i64 at_] w fun e w'=>e=.returned (.int .i64 (Za1 s false at_:Nat))∧w=w':=by
 obtain ⟨R,n⟩:=Ky (Za1 s false at_);rw [←n];have E:=Kz n;clear n
 go_enter Tryz.func81,Tryz.ntmps81
 go_wp2
 go_loop [1] (fun p=>∃ k:Nat,k≤s.size∧p=.int .i64 k∧R=Za1 s false k) (fun p=>s.size-(intOf p).toNat)
 case atStart=>exact ⟨at_,D,rfl,E.o⟩
 case round=>
  obtain ⟨k,M,rfl,v⟩:=hrel;have c:=Kz v;clear v
  by_cases q:k<s.size
  ·by_cases a:(s[k].toNat:Int)=35
   ·have F:((s[k].toNat:Int)==35)=true:=by rw [beq_iff_eq];exact a
    have l:=Zgv s q a;have H:=Lib.indexByte_ge (s.data.toList.drop k) 10;obtain ⟨d,b⟩:=Ky (Lib.indexByte (s.data.toList.drop k) 10);have x:=Kz b;rw [←b] at H;have I:=Kz l
    by_cases N:d<0
    ·have y:Za1 s true k=s.size:=by
      have h:=Ze5 (s.data.toList.drop k) (by rw [←b];omega)
      rw [List.length_drop,Zbe] at h;rw [ZdT,h];omega
     have r:=Kz y;clear b l a y
     go_wp2_with (go_at_call 119;refine (Tryz.strings_IndexByte _ _ _).mono ?_;rintro e w' ⟨rfl,rfl⟩;rw [ZdA,show ((10:Int).toNat.toUInt8)=(10:UInt8) from rfl,←x.o])
     go_ret;exact ⟨by rw [c.o,←I.o.2,r.o];rfl,rfl⟩
    ·obtain ⟨j,rfl⟩:∃ j:Nat,d=(j:Int):=⟨d.toNat,by omega⟩
     have z:=Ze6 (s.data.toList.drop k) j b.symm;have m:=(Lib.indexByte_some b.symm).1;rw [List.getElem?_drop] at m;have B:k+j<s.size:=by
      have:=(Kaf.1 m).1;rw [Zbe] at this;exact this
     have t:(s[k+j].toNat:Int)=10:=by
      have:=(Kaf.1 m).2;have e:s[k+j]=10:=this;rw [e];rfl
     have C:Za1 s false k=Za1 s false (k+j+1):=by
      rw [←l.2,←Zdy s B (.inr (.inl t)),←Zgw s B t];rw [ZdT,ZdT,z,List.drop_drop];omega
     have g:=Kz C;clear b l a z m t C
     go_wp2_with (go_at_call 119;refine (Tryz.strings_IndexByte _ _ _).mono ?_;rintro e w' ⟨rfl,rfl⟩;rw [ZdA,show ((10:Int).toNat.toUInt8)=(10:UInt8) from rfl,←x.o])
     exact ⟨⟨k+j+1,by omega,by go_num,by rw [c.o,g.o]⟩,by simp [intOf];omega⟩
   ·have F:((s[k].toNat:Int)==35)=false:=by rw [Kaj];exact a
    by_cases i:(s[k].toNat:Int)=32∨(s[k].toNat:Int)=10∨(s[k].toNat:Int)=9∨(s[k].toNat:Int)=13
    ·have g:=Kz (Zdy s q i);have J:=Kz i;clear a i
     go_wp2
     all_goals first
      | exact ⟨⟨k+1,by omega,by go_num,by rw [c.o,g.o]⟩,by simp [intOf];omega⟩
      | (exfalso;have:=J.o;simp_all;done)
    ·have g:=Kz (Zgu s q a i);have O:((s[k].toNat:Int)==32)=false:=by rw [Kaj];omega
     have P:((s[k].toNat:Int)==10)=false:=by rw [Kaj];omega
     have Q:((s[k].toNat:Int)==9)=false:=by rw [Kaj];omega
     have S:((s[k].toNat:Int)==13)=false:=by rw [Kaj];omega
     clear a i
     go_wp2
     go_ret;exact ⟨by rw [c.o,g.o];rfl,rfl⟩
  ·obtain rfl:k=s.size:=by omega
   have r:=Kz (ZhO s false)
   go_wp2
   go_ret;exact ⟨by rw [c.o,r.o];rfl,rfl⟩
theorem Zm8 (c:UInt8) (w:World):Calls Tryz.prog 124 #[V8 c] w fun e w'=>e=.returned (.bool (namB c))∧w=w':=by
 cases hl:letB c with
 | true=>
  have h:=Zdl c w;rw [hl] at h;have H:=Kz h;have a:=Kz hl;clear hl h
  go_enter Tryz.func124,Tryz.ntmps124
  go_wp2_with (go_at_call 123;refine H.o.mono ?_;rintro e w' ⟨rfl,rfl⟩)
  go_ret;exact ⟨by unfold namB;rw [a.o];rfl,rfl⟩
 | false=>
  have h:=Zdl c w;rw [hl] at h;have H:=Kz h;have a:=Kz hl;clear hl h
  go_enter Tryz.func124,Tryz.ntmps124
  go_wp2_with (first | (go_at_call 123;refine H.o.mono ?_;rintro e w' ⟨rfl,rfl⟩) | (go_at_call 120;refine (Zcd c w).mono ?_;rintro e w' ⟨rfl,rfl⟩))
  go_ret;exact ⟨by unfold namB;rw [a.o];rfl,rfl⟩
theorem ZfH (s:ByteArray) (at_:Nat) (w:World) (q:s.size≤100000) (m:at_≤s.size):
  Calls Tryz.prog 121 #[.string s,.int .i64 at_,.func (.func 120) #[] #[]] w fun e w'=>e=.returned (.int .i64 (Zax digB s at_:Nat))∧w=w':=by
 obtain ⟨R,b⟩:=Ky (Zax digB s at_);rw [←b];have n:=Kz b;clear b
 go_enter Tryz.func121,Tryz.ntmps121
 go_wp2
 go_loop [7] (fun c=>∃ k:Nat,at_+k≤s.size∧c=.int .i64 k∧R=k+Zax digB s (at_+k)) (fun c=>s.size-(intOf c).toNat)
 case atStart=>exact ⟨0,m,rfl,by rw [n.o];simp⟩
 case round=>
  obtain ⟨k,r,rfl,i⟩:=hrel;have d:=Kz i;clear i
  by_cases j:at_+k<s.size
  ·have a:=fun w=>Zcd s[at_+k] w
   cases hpc:digB s[at_+k] with
   | true=>
    have g:=Kz (Zbw digB s j hpc);rw [hpc] at a;have h:=Kz a;clear a hpc
    go_wp2_with fail
    refine (h.o _).mono ?_
    rintro e w' ⟨rfl,rfl⟩
    go_wp2
    exact ⟨⟨k+1,by omega,by go_num,by rw [d.o,g.o,Nat.add_assoc at_ k 1];omega⟩,by simp [intOf];omega⟩
   | false=>
    have g:=Kz (ZfK digB s j hpc);rw [hpc] at a;have h:=Kz a;clear a hpc
    go_wp2_with fail
    refine (h.o _).mono ?_
    rintro e w' ⟨rfl,rfl⟩
    go_wp2
    go_ret;exact ⟨by rw [d.o,g.o];rfl,rfl⟩
  ·have l:at_+k=s.size:=by omega
   have p:Hd (Zax digB s (at_+k)=0):=by rw [l];exact Ze7 digB s
   clear l;have t:decide (((at_:Int)+(k:Int))<(s.size:Int))=false:=by simp;omega
   go_wp2
   go_ret;exact ⟨by rw [d.o,p.o];rfl,rfl⟩
theorem Zm9 (s:ByteArray) (at_:Nat) (w:World) (q:s.size≤100000) (m:at_≤s.size):
  Calls Tryz.prog 121 #[.string s,.int .i64 at_,.func (.func 124) #[] #[]] w fun e w'=>e=.returned (.int .i64 (Zax namB s at_:Nat))∧w=w':=by
 obtain ⟨R,b⟩:=Ky (Zax namB s at_);rw [←b];have n:=Kz b;clear b
 go_enter Tryz.func121,Tryz.ntmps121
 go_wp2
 go_loop [7] (fun c=>∃ k:Nat,at_+k≤s.size∧c=.int .i64 k∧R=k+Zax namB s (at_+k)) (fun c=>s.size-(intOf c).toNat)
 case atStart=>exact ⟨0,m,rfl,by rw [n.o];simp⟩
 case round=>
  obtain ⟨k,r,rfl,i⟩:=hrel;have d:=Kz i;clear i
  by_cases j:at_+k<s.size
  ·have a:=fun w=>Zm8 s[at_+k] w
   cases hpc:namB s[at_+k] with
   | true=>
    have g:=Kz (Zbw namB s j hpc);rw [hpc] at a;have h:=Kz a;clear a hpc
    go_wp2_with fail
    refine (h.o _).mono ?_
    rintro e w' ⟨rfl,rfl⟩
    go_wp2
    exact ⟨⟨k+1,by omega,by go_num,by rw [d.o,g.o,Nat.add_assoc at_ k 1];omega⟩,by simp [intOf];omega⟩
   | false=>
    have g:=Kz (ZfK namB s j hpc);rw [hpc] at a;have h:=Kz a;clear a hpc
    go_wp2_with fail
    refine (h.o _).mono ?_
    rintro e w' ⟨rfl,rfl⟩
    go_wp2
    go_ret;exact ⟨by rw [d.o,g.o];rfl,rfl⟩
  ·have l:at_+k=s.size:=by omega
   have p:Hd (Zax namB s (at_+k)=0):=by rw [l];exact Ze7 namB s
   clear l;have t:decide (((at_:Int)+(k:Int))<(s.size:Int))=false:=by simp;omega
   go_wp2
   go_ret;exact ⟨by rw [d.o,p.o];rfl,rfl⟩
end Go.Proofs.YtghlnncfigkkaaaGreatDoor
