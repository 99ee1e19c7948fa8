/-
 Rows of integers held against one another: slices.Equal, the reference's Ints.
-/
import Derived.Test.YtghlnncfigkkaaaGreatDoorQChkL
import Derived.Test.YtghlnncfigkkaaaGreatDoorQParM
import Derived.BigQuiet
import Derived.Test.YtghlnncfigkkaaaGreatDoorQNum
import Derived.Test.YtghlnncfigkkaaaGreatDoorQAppN
import Derived.Lib.AppendZerosOnto
import Derived.Lib.Walk
import Derived.Lib.SliceRun
set_option linter.unusedVariables false
set_option linter.unusedSimpArgs false
namespace Go.Proofs.YtghlnncfigkkaaaGreatDoor
open Go.RowKit
theorem Zaq {c d:Type} (f:c→List d) (k:Nat) (a:∀ x,(f x).length=k):∀ (l:List c) (i j:Nat) (x:c),l[i]?=some x→j<k→(l.flatMap f)[i*k+j]?=(f x)[j]?
 | [],i,j,x,h,_=>by simp at h
 | y::l,0,j,x,h,hj=>by
  simp at h;subst h;rw [List.flatMap_cons,List.getElem?_append_left (by rw [a];omega)]
  simp
 | y::l,i+1,j,x,h,hj=>by
  have g:l[i]?=some x:=by simpa using h
  have n:=Zaq f k a l i j x g hj;have p:(i+1)*k=i*k+k:=Nat.succ_mul i k;rw [List.flatMap_cons,List.getElem?_append_right (by rw [a];omega)]
  have e:(i+1)*k+j-(f y).length=i*k+j:=by rw [a];omega
  rw [e,n]
structure SmAt (w:World) (B b o:Nat) (x:Sm):Prop where
 c0:w.cell? ⟨b,o,none⟩=some (.int .i64 x.kind)
 c1:w.cell? ⟨b,o+1,none⟩=some (.int .i64 x.party)
 c2:w.cell? ⟨b,o+2,none⟩=some (.string x.name)
 c3:∃ A c,w.cell? ⟨b,o+3,none⟩=some (.slice A x.shape.length c)∧Rd w B A (x.shape.map I64)
 c4:w.cell? ⟨b,o+4,none⟩=some (.int .i64 x.expr)
 c5:w.cell? ⟨b,o+5,none⟩=some (.int .i64 x.pos)
structure ExAt (w:World) (B b o:Nat) (x:Ex):Prop where
 c0:w.cell? ⟨b,o,none⟩=some (.int .i64 x.kind)
 c1:w.cell? ⟨b,o+1,none⟩=some (.string x.name)
 c2:w.cell? ⟨b,o+2,none⟩=some (.int .u64 x.num)
 c3:∃ A c,w.cell? ⟨b,o+3,none⟩=some (.slice A x.args.length c)∧Rd w B A (x.args.map I64)
 c4:w.cell? ⟨b,o+4,none⟩=some (.int .i64 x.pos)
section
variable {w w':World} {B B' b o:Nat} {A:Option Addr} {x:Sm} {e:Ex} {l:List Sm} {m:List Ex}
theorem Zbm {w:World} {base k n c:Nat} {T:TypeId} {A:Option Addr} {xs:List Value} (h:w.ownsRow base T k (.slice A n c) n xs) (q:0<n):
  ∃ g,A=some ⟨g,0,none⟩∧g<w.heap.size∧base≤g∧∀ (i:Nat) (v:Value),xs[i]?=some v→w.cell? ⟨g,i,none⟩=some v:=by
 rcases h.2 with ⟨d,r⟩ | ⟨g,s,cur,d,j,f,t,y,z,p⟩
 ·omega
 ·injection d with a b c
  refine ⟨g,a,(Kab.1 f).1,j,fun i v d => ?_⟩
  rw [cell_of_row w g i cur _ (0,0) f];rw [←p,List.getElem?_take] at d;split at d
  ·simpa using d
  ·cases d
end
structure SIAt (w:World) (B b o:Nat) (x:SI):Prop where
 c0:w.cell? ⟨b,o,none⟩=some (.int .i64 x.kind)
 c1:w.cell? ⟨b,o+1,none⟩=some (.int .i64 x.party)
 c2:w.cell? ⟨b,o+2,none⟩=some (.string x.name)
 c3:∃ A c,w.cell? ⟨b,o+3,none⟩=some (.slice A x.shape.length c)∧Rd w B A (x.shape.map VI)∧x.shape.length≤9223372036854775807∧x.shape.length≤c∧c≤9223372036854775807
 c4:w.cell? ⟨b,o+4,none⟩=some (.int .i64 x.expr)
 c5:w.cell? ⟨b,o+5,none⟩=some (.int .i64 x.pos)
structure EIAt (w:World) (B b o:Nat) (x:EI):Prop where
 c0:w.cell? ⟨b,o,none⟩=some (.int .i64 x.kind)
 c1:w.cell? ⟨b,o+1,none⟩=some (.string x.name)
 c2:w.cell? ⟨b,o+2,none⟩=some (.int .u64 x.num)
 c3:∃ A c,w.cell? ⟨b,o+3,none⟩=some (.slice A x.args.length c)∧Rd w B A (x.args.map VI)∧x.args.length≤9223372036854775807∧x.args.length≤c∧c≤9223372036854775807
 c4:w.cell? ⟨b,o+4,none⟩=some (.int .i64 x.pos)
def RdSI (w:World) (B:Nat) (A:Option Addr) (l:List SI):Prop:=l=[]∨∃ b o,A=some ⟨b,o,none⟩∧b<B∧∀ i x,l[i]?=some x→SIAt w B b (o+i*6) x
def RdEI (w:World) (B:Nat) (A:Option Addr) (l:List EI):Prop:=l=[]∨∃ b o,A=some ⟨b,o,none⟩∧b<B∧∀ i x,l[i]?=some x→EIAt w B b (o+i*5) x
section
variable {w w':World} {B B' b o:Nat} {A:Option Addr} {x:SI} {e:EI} {l:List SI} {m:List EI}
theorem SIAt.keep (h:SIAt w B b o x) (d:b<B) (a:∀ p:Addr,p.block<B→w'.cell? p=w.cell? p):SIAt w' B b o x:=by
 obtain ⟨c0,c1,c2,⟨A,c,c3,f,g⟩,c4,c5⟩:=h;exact ⟨(a ⟨b,_,none⟩ d).trans c0,(a ⟨b,_,none⟩ d).trans c1,(a ⟨b,_,none⟩ d).trans c2,⟨A,c,(a ⟨b,_,none⟩ d).trans c3,f.keep a,g⟩,(a ⟨b,_,none⟩ d).trans c4,(a ⟨b,_,none⟩ d).trans c5⟩
theorem SIAt.more (h:SIAt w B b o x) (a:B≤B'):SIAt w B' b o x:=by
 obtain ⟨c0,c1,c2,⟨A,c,c3,d,f⟩,c4,c5⟩:=h;exact ⟨c0,c1,c2,⟨A,c,c3,d.more a,f⟩,c4,c5⟩
theorem EIAt.keep (h:EIAt w B b o e) (d:b<B) (a:∀ p:Addr,p.block<B→w'.cell? p=w.cell? p):EIAt w' B b o e:=by
 obtain ⟨c0,c1,c2,⟨A,c,c3,f,g⟩,c4⟩:=h;exact ⟨(a ⟨b,_,none⟩ d).trans c0,(a ⟨b,_,none⟩ d).trans c1,(a ⟨b,_,none⟩ d).trans c2,⟨A,c,(a ⟨b,_,none⟩ d).trans c3,f.keep a,g⟩,(a ⟨b,_,none⟩ d).trans c4⟩
theorem EIAt.more (h:EIAt w B b o e) (a:B≤B'):EIAt w B' b o e:=by
 obtain ⟨c0,c1,c2,⟨A,c,c3,d,f⟩,c4⟩:=h;exact ⟨c0,c1,c2,⟨A,c,c3,d.more a,f⟩,c4⟩
theorem RdSI.keep (h:RdSI w B A l) (c:∀ p:Addr,p.block<B→w'.cell? p=w.cell? p):RdSI w' B A l:=by
 rcases h with h | ⟨b,o,d,a,f⟩
 ·exact .inl h
 ·exact .inr ⟨b,o,d,a,fun i x g=>(f i x g).keep a c⟩
theorem RdEI.keep (h:RdEI w B A m) (c:∀ p:Addr,p.block<B→w'.cell? p=w.cell? p):RdEI w' B A m:=by
 rcases h with h | ⟨b,o,d,a,f⟩
 ·exact .inl h
 ·exact .inr ⟨b,o,d,a,fun i x g=>(f i x g).keep a c⟩
theorem RdSI.more (h:RdSI w B A l) (a:B≤B'):RdSI w B' A l:=by
 rcases h with h | ⟨b,o,c,d,f⟩
 ·exact .inl h
 ·exact .inr ⟨b,o,c,Kae d a,fun i x g=>(f i x g).more a⟩
theorem RdEI.more (h:RdEI w B A m) (a:B≤B'):RdEI w B' A m:=by
 rcases h with h | ⟨b,o,c,d,f⟩
 ·exact .inl h
 ·exact .inr ⟨b,o,c,Kae d a,fun i x g=>(f i x g).more a⟩
theorem RdSI.below (h:RdSI w B A l) (a:Below B w w'):RdSI w' B A l:=h.keep fun _ c=>a.cell c
theorem RdEI.below (h:RdEI w B A m) (a:Below B w w'):RdEI w' B A m:=h.keep fun _ c=>a.cell c
theorem RdSI.next (h:RdSI w w.heap.size A l) (a:Below w.heap.size w w'):RdSI w' w'.heap.size A l:=(h.below a).more a.size
theorem RdEI.next (h:RdEI w w.heap.size A m) (a:Below w.heap.size w w'):RdEI w' w'.heap.size A m:=(h.below a).more a.size
theorem RdSI.at_ (h:RdSI w B A l) {i:Nat} (a:l[i]?=some x):∃ b o,A=some ⟨b,o,none⟩∧b<B∧SIAt w B b (o+i*6) x:=by
 rcases h with rfl | ⟨b,o,c,d,f⟩
 ·simp at a
 ·exact ⟨b,o,c,d,f i x a⟩
theorem RdEI.at_ (h:RdEI w B A m) {i:Nat} (a:m[i]?=some e):∃ b o,A=some ⟨b,o,none⟩∧b<B∧EIAt w B b (o+i*5) e:=by
 rcases h with rfl | ⟨b,o,c,d,f⟩
 ·simp at a
 ·exact ⟨b,o,c,d,f i e a⟩
end
def SI.of (x:Sm):SI:=⟨x.kind,x.party,x.name,x.shape.map Int.ofNat,x.expr,x.pos⟩
def EI.of (x:Ex):EI:=⟨x.kind,x.name,x.num,x.args.map Int.ofNat,x.pos⟩
theorem vi_of (l:List Nat):(l.map Int.ofNat).map VI=l.map I64:=by rw [List.map_map];rfl
theorem Zfl {w:World} {base c:Nat} {e:TypeId} {A:Option Addr} {xs:List Value} (h:Own w base e A c xs):xs.length≤9223372036854775807∧xs.length≤c∧c≤9223372036854775807:=by
 rcases h.2 with ⟨d,i⟩ | ⟨g,j,cur,d,k,n,p,f,q,r⟩
 ·injection d with a b c
  omega
 ·injection d with a b c
  simp only [maxLen] at f;omega
theorem ArgsV.int {X:Nat→Prop} {base:Nat} {w:World} {v:Value} {l:List Nat} (h:ArgsV X base w v l):∃ A c,v=.slice A (l.map Int.ofNat).length c∧Rd w w.heap.size A ((l.map Int.ofNat).map VI)∧(l.map Int.ofNat).length≤9223372036854775807∧(l.map Int.ofNat).length≤c∧c≤9223372036854775807:=by
 obtain ⟨A,c,f,a,_⟩:=h;have d:=Zfl a;rw [Kak] at d;refine ⟨A,c,by rw [Kak];exact f,by rw [vi_of];exact a.rd,?_⟩
 rw [Kak];exact d
theorem OwnSX.int {X:Nat→Prop} {w:World} {base c:Nat} {A:Option Addr} {l:List Sm} (h:OwnSX X w base A c l):RdSI w w.heap.size A (l.map SI.of):=by
 obtain ⟨p,q,r,s⟩:=h
 by_cases d:l=[]
 ·subst d;exact .inl rfl
 ·obtain ⟨g,t,z,_,C⟩:=Zbm r (List.length_pos_iff.2 d);refine .inr ⟨g,0,t,z,fun i x f => ?_⟩
  subst q;rw [Kal,Option.map_eq_some_iff] at f;obtain ⟨y,k,rfl⟩:=f;rw [Kal,Option.map_eq_some_iff] at k;obtain ⟨m,n,rfl⟩:=k;have a:∀ j v,(Zc6 m)[j]?=some v→j<6→w.cell? ⟨g,0+i*6+j,none⟩=some v:=fun j v D E=>by
   rw [Nat.zero_add];exact C _ v ((Zaq Zc6 6 (fun _=>rfl) p i j m n E).trans D)
  obtain ⟨F,H,I,J⟩:=(s m (Kam n)).int;exact ⟨a 0 _ rfl (by omega),a 1 _ rfl (by omega),a 2 _ rfl (by omega),⟨F,H,by rw [show (SI.of m.1).shape=m.1.shape.map Int.ofNat from rfl,←I];exact a 3 _ rfl (by omega),J⟩,a 4 _ rfl (by omega),a 5 _ rfl (by omega)⟩
theorem OwnEX.int {X:Nat→Prop} {w:World} {base c:Nat} {A:Option Addr} {l:List Ex} (h:OwnEX X w base A c l):RdEI w w.heap.size A (l.map EI.of):=by
 obtain ⟨p,q,r,s,_⟩:=h
 by_cases d:l=[]
 ·subst d;exact .inl rfl
 ·obtain ⟨g,t,z,_,C⟩:=Zbm r (List.length_pos_iff.2 d);refine .inr ⟨g,0,t,z,fun i x f => ?_⟩
  subst q;rw [Kal,Option.map_eq_some_iff] at f;obtain ⟨y,k,rfl⟩:=f;rw [Kal,Option.map_eq_some_iff] at k;obtain ⟨m,n,rfl⟩:=k;have a:∀ j v,(Zc5 m)[j]?=some v→j<5→w.cell? ⟨g,0+i*5+j,none⟩=some v:=fun j v D E=>by
   rw [Nat.zero_add];exact C _ v ((Zaq Zc5 5 (fun _=>rfl) p i j m n E).trans D)
  obtain ⟨F,H,I,J⟩:=(s m (Kam n)).int;exact ⟨a 0 _ rfl (by omega),a 1 _ rfl (by omega),a 2 _ rfl (by omega),⟨F,H,by rw [show (EI.of m.1).args=m.1.args.map Int.ofNat from rfl,←I];exact a 3 _ rfl (by omega),J⟩,a 4 _ rfl (by omega)⟩
end Go.Proofs.YtghlnncfigkkaaaGreatDoor
set_option maxRecDepth 100000
set_option maxHeartbeats 2000000
namespace Go.Proofs.YtghlnncfigkkaaaGreatDoor
open Go.RowKit
theorem ZgM {l c:List Int} (n:l.length=c.length) {i:Nat} {a b:Int} (h:l[i]?=some a) (d:c[i]?=some b):((l.drop i==c.drop i)=((a==b)&&(l.drop (i+1)==c.drop (i+1)))):=by
 obtain ⟨f,g⟩:=Kaf.1 h;obtain ⟨j,k⟩:=Kaf.1 d;rw [List.drop_eq_getElem_cons f,List.drop_eq_getElem_cons j,g,k];rfl
theorem Zio {l a:List Int} (h:l.length≠a.length):(l==a)=false:=by
 rw [Kaj]
 intro e
 exact h (by rw [e])
theorem ZcA (A E:Option Addr) (n m c Q:Nat) (l a:List Int) (w:World) (F:n=l.length) (I:m=a.length) (W:n≤9223372036854775807) (X:m≤9223372036854775807) (h:Rd w w.heap.size A (l.map VI)) (J:Rd w w.heap.size E (a.map VI)):
  Calls Tryz.prog 79 #[.slice A n c,.slice E m Q] w fun e w'=>e=.returned (.bool (l==a))∧∃ q,w'=w.drewN q:=by
 have j:=Kz F;have p:=Kz I;have H:=Kz h;have R:=Kz J;clear h J F I
 by_cases y:n=m
 ·subst y;have Y:((n:Int)==(n:Int))=true:=by simp
  have Z:((n:Int) != (n:Int))=false:=by simp
  go_enter Tryz.func79,Tryz.ntmps79
  go_wp2
  go_loopw [13] (fun z wr=>(∃ i:Nat,i≤n∧z=.int .i64 i∧(l==a)=(l.drop i==a.drop i))∧∃ q,wr=w.drewN q) (fun z _=>n-(intOf z).toNat)
  case atStart=>exact ⟨⟨0,by omega,rfl,rfl⟩,0,rfl⟩
  case round=>
   obtain ⟨⟨i,a0,rfl,L⟩,q,rfl⟩:=hrel;have C:=Kz L;clear L
   by_cases r:i<n
   ·have s:l[i]?=some (l[i]'(by rw [←j.o];exact r)):=Kad _
    obtain ⟨d,M⟩:=Ky (l[i]'(by rw [←j.o];exact r))
    rw [←M] at s;have t:a[i]?=some (a[i]'(by rw [←p.o];exact r)):=Kad _
    obtain ⟨v,N⟩:=Ky (a[i]'(by rw [←p.o];exact r))
    rw [←N] at t;obtain ⟨b,o,rfl,S,c0⟩:=H.o.at_ (show (l.map VI)[i]?=some (VI d) by rw [Kal,s];rfl)
    obtain ⟨a1,a2,rfl,T,V⟩:=R.o.at_ (show (a.map VI)[i]?=some (VI v) by rw [Kal,t];rfl)
    unfold VI at c0 V;have O:=Kz (ZgM (by rw [←j.o,←p.o]) s t)
    have i0:(0:Int)≤(i:Int):=by omega
    have i1:(i:Int)<(n:Int):=by omega
    clear s M t N S T
    by_cases D:d=v
    ·subst D;have k:(d==d)=true:=by simp
     have P:(d != d)=false:=by simp
     have g:=Kz (show (l==a)=(l.drop (i+1)==a.drop (i+1)) from by rw [C.o,O.o,k];rfl)
     go_wp2_with fail
     go_quiet (fail)
     go_wp2
     exact ⟨⟨⟨i+1,by omega,rfl,g.o⟩,_,rfl⟩,by simp [intOf];omega⟩
    ·have k:(d==v)=false:=by rw [Kaj];exact D
     have P:(d != v)=true:=by unfold bne;rw [k];rfl
     have g:=Kz (show (l==a)=false from by rw [C.o,O.o,k];rfl)
     clear D
     go_wp2_with fail
     go_quiet (fail)
     go_wp2
     go_ret;exact ⟨by rw [g.o];rfl,q+nq,World.drewN_drewN _ _ _⟩
   ·obtain rfl:n=i:=by omega
    have g:=Kz (show (l==a)=true from by rw [C.o,j.o,List.drop_length,←j.o,p.o,List.drop_length];rfl)
    go_wp2
    go_ret;exact ⟨by rw [g.o];rfl,_,rfl⟩
 ·have k:((n:Int)==(m:Int))=false:=by rw [Kaj];omega
  have P:((n:Int) != (m:Int))=true:=by unfold bne;rw [k];rfl
  have g:=Kz (show (l==a)=false from Zio (by rw [←j.o,←p.o];exact y))
  clear y
  go_enter Tryz.func79,Tryz.ntmps79
  go_wp2
  go_ret;exact ⟨by rw [g.o];rfl,0,rfl⟩
theorem Zba (A E:Option Addr) (n m c Q:Nat) (l a:List Int) (w:World) (F:n=l.length) (I:m=a.length) (W:n≤9223372036854775807) (X:m≤9223372036854775807) (h:Rd w w.heap.size A (l.map VI)) (J:Rd w w.heap.size E (a.map VI)):
  Calls Tryz.prog 49 #[.slice A n c,.slice E m Q] w fun e w'=>e=.returned (.bool (l==a))∧∃ q,w'=w.drewN q:=by
 have j:=Kz F;have p:=Kz I;have H:=Kz h;have R:=Kz J;clear h J F I
 by_cases y:n=m
 ·subst y;have Y:((n:Int)==(n:Int))=true:=by simp
  have Z:((n:Int) != (n:Int))=false:=by simp
  go_enter Tryz.func49,Tryz.ntmps49
  go_wp2
  go_loopw [13] (fun z wr=>(∃ i:Nat,i≤n∧z=.int .i64 i∧(l==a)=(l.drop i==a.drop i))∧∃ q,wr=w.drewN q) (fun z _=>n-(intOf z).toNat)
  case atStart=>exact ⟨⟨0,by omega,rfl,rfl⟩,0,rfl⟩
  case round=>
   obtain ⟨⟨i,a0,rfl,L⟩,q,rfl⟩:=hrel;have C:=Kz L;clear L
   by_cases r:i<n
   ·have s:l[i]?=some (l[i]'(by rw [←j.o];exact r)):=Kad _
    obtain ⟨d,M⟩:=Ky (l[i]'(by rw [←j.o];exact r))
    rw [←M] at s;have t:a[i]?=some (a[i]'(by rw [←p.o];exact r)):=Kad _
    obtain ⟨v,N⟩:=Ky (a[i]'(by rw [←p.o];exact r))
    rw [←N] at t;obtain ⟨b,o,rfl,S,c0⟩:=H.o.at_ (show (l.map VI)[i]?=some (VI d) by rw [Kal,s];rfl)
    obtain ⟨a1,a2,rfl,T,V⟩:=R.o.at_ (show (a.map VI)[i]?=some (VI v) by rw [Kal,t];rfl)
    unfold VI at c0 V;have O:=Kz (ZgM (by rw [←j.o,←p.o]) s t)
    have i0:(0:Int)≤(i:Int):=by omega
    have i1:(i:Int)<(n:Int):=by omega
    clear s M t N S T
    by_cases D:d=v
    ·subst D;have k:(d==d)=true:=by simp
     have P:(d != d)=false:=by simp
     have g:=Kz (show (l==a)=(l.drop (i+1)==a.drop (i+1)) from by rw [C.o,O.o,k];rfl)
     go_wp2_with fail
     go_quiet (fail)
     go_wp2
     exact ⟨⟨⟨i+1,by omega,rfl,g.o⟩,_,rfl⟩,by simp [intOf];omega⟩
    ·have k:(d==v)=false:=by rw [Kaj];exact D
     have P:(d != v)=true:=by unfold bne;rw [k];rfl
     have g:=Kz (show (l==a)=false from by rw [C.o,O.o,k];rfl)
     clear D
     go_wp2_with fail
     go_quiet (fail)
     go_wp2
     go_ret;exact ⟨by rw [g.o];rfl,q+nq,World.drewN_drewN _ _ _⟩
   ·obtain rfl:n=i:=by omega
    have g:=Kz (show (l==a)=true from by rw [C.o,j.o,List.drop_length,←j.o,p.o,List.drop_length];rfl)
    go_wp2
    go_ret;exact ⟨by rw [g.o];rfl,_,rfl⟩
 ·have k:((n:Int)==(m:Int))=false:=by rw [Kaj];omega
  have P:((n:Int) != (m:Int))=true:=by unfold bne;rw [k];rfl
  have g:=Kz (show (l==a)=false from Zio (by rw [←j.o,←p.o];exact y))
  clear y
  go_enter Tryz.func49,Tryz.ntmps49
  go_wp2
  go_ret;exact ⟨by rw [g.o];rfl,0,rfl⟩
def RdX (X:Nat→Prop) (w:World) (A:Option Addr) (xs:List Value):Prop:=
 xs=[]∨∃ b o,A=some ⟨b,o,none⟩∧b<w.heap.size∧¬ X b∧∀ (j:Nat) (v:Value),xs[j]?=some v→w.cell? ⟨b,o+j,none⟩=some v
theorem RdX.rd {X:Nat→Prop} {w:World} {A:Option Addr} {xs:List Value} (h:RdX X w A xs):Rd w w.heap.size A xs:=by
 rcases h with h | ⟨b,o,a,c,_,d⟩
 ·exact .inl h
 ·exact .inr ⟨b,o,a,c,d⟩
def KeepX (X:Nat→Prop) (w w':World):Prop:=w.heap.size≤w'.heap.size∧∀ p:Addr,p.block<w.heap.size→¬ X p.block→w'.cell? p=w.cell? p
theorem KeepX.of {X:Nat→Prop} {w w':World} (h:Below w.heap.size w w'):KeepX X w w':=⟨h.size,fun p a _=>h.cell a⟩
theorem KeepX.trans {X:Nat→Prop} {w w' a:World} (h:KeepX X w w') (c:KeepX X w' a):KeepX X w a:=
 ⟨Kah h.1 c.1,fun p d f=>(c.2 p (Kae d h.1) f).trans (h.2 p d f)⟩
theorem RdX.keep {X:Nat→Prop} {w w':World} {A:Option Addr} {xs:List Value} (h:RdX X w A xs) (a:KeepX X w w'):RdX X w' A xs:=by
 rcases h with h | ⟨b,o,f,c,d,g⟩
 ·exact .inl h
 ·exact .inr ⟨b,o,f,Kae c a.1,d,fun j v i=>(a.2 ⟨b,o+j,none⟩ c d).trans (g j v i)⟩
def ShV (X:Nat→Prop) (w:World) (v:Value) (l:List Int):Prop:=∃ A c,v=.slice A l.length c∧l.length≤c∧c≤9223372036854775807∧l.length≤2∧RdX X w A (l.map VI)
theorem ShV.keep {X:Nat→Prop} {w w':World} {v:Value} {l:List Int} (h:ShV X w v l) (a:KeepX X w w'):ShV X w' v l:=by
 obtain ⟨A,c,d,f,g,i,j⟩:=h;exact ⟨A,c,d,f,g,i,j.keep a⟩
theorem ShV.next {X:Nat→Prop} {w w':World} {v:Value} {l:List Int} (h:ShV X w v l) (a:Below w.heap.size w w'):ShV X w' v l:=h.keep (KeepX.of a)
theorem ShV.nil (X:Nat→Prop) (w:World):ShV X w (.slice none 0 0) []:=⟨none,0,rfl,Kag _,by decide,by decide,.inl rfl⟩
theorem ZcB:(Tryz.prog.info? 3).map (fun i=>(i.zero,i.size,i.bytes))=some (some (.int .i64 0),1,8):=by kernel_rfl
theorem Zfs (l:List Int):∀ u∈l.map VI,u.oneCell'=true:=by
 intro v a
 obtain ⟨x,_,rfl⟩:=List.mem_map.1 a;rfl
theorem Zkg (n:Nat) (y:n≤1000) (w:World):
  Calls Tryz.prog 212 #[.slice none 0 0,.int .i64 n] w fun e w'=>∃ A c,e=.returned (.slice A 0 c)∧Own w' w.heap.size 3 A c []∧Below w.heap.size w w':=by
 by_cases q:n=0
 ·subst q
  go_enter Tryz.func212,Tryz.ntmps212
  go_wp2
  go_ret;exact ⟨none,0,rfl,Own.nil _ _ _,Kai _ _⟩
 ·obtain ⟨d,j,k,r,g⟩:=info_parts ZcB;have p:(Builtin.firstCells d.size 0 (.slice none 0 0)).run Tryz.prog w.drew=.ok ([]:List Value).toArray w.drew:=run_firstCells_none w.drew d.size 0 0 0;have h:=fun s=>Lib.run_append_grow_zeros w 41 3 s 3 d (.int .i64 0) .i64 .i64 Tryz.underlying41 Tryz.underlying3 j k none 0 0 [] p n (by omega) (by omega) (by omega) (by omega) (by rw [g];omega)
   (by
    simp only [Nat.zero_add];exact growslice_fits (by omega) (by rw [g];omega))
  simp only [Nat.zero_add] at h;obtain ⟨G,a⟩:=Ky (grownCap w n 0 3);have z:n≤G:=by rw [a];exact grownCap_ge w _ _ _
  have i:G≤maxLen:=by rw [a];exact grownCap_le_maxLen w n 0 3 (by unfold maxLen;omega)
  rw [←a] at h;have C:G≤9223372036854775807:=by unfold maxLen at i;omega
  have v:=Kz i;have D:(0:Int)<(n:Int):=by omega
  have E:decide ((0:Int)<(n:Int))=true:=by simp;omega
  clear p a j k r g i
  go_enter Tryz.func212,Tryz.ntmps212
  go_wp2_with (at_builtin;refine Lib.wpList_append_run _ rfl _ _ _ _ rfl _ _ rfl rfl _ _ (h _) ?_)
  go_ret;refine ⟨_,_,rfl,⟨rfl,.inr ⟨w.heap.size,G,_,rfl,Kag _,Kac w.drew _,Nat.zero_le _,v.o,?_,rfl⟩⟩,?_⟩
  ·simp [size_zeroCells];omega
  ·exact ((Kai _ w).alloc (Kag _) _).drew
theorem appV {w:World} {p:Array Oper} {rest:List Oper} {o:Oper} {a:Act} {Q:Exit→Act→World→Prop} (r:o.guard=none) (s x:Operand)
  (v:o.op=.call { callee:=.builtin .append,args:=#[s,x],argTypes:=#[41,41] }) (base:Nat)
  (A:Option Addr) (k:Nat) (f:List Int) (n:Nat) (y:f.length=n) (z:a.eval s=.slice A n k) (C:Own w base 3 A k (f.map VI))
  (g:Option Addr) (m c B:Nat) (i:List Int) (D:i.length=m) (E:a.eval x=.slice g m c) (F:Rd w B g (i.map VI)) (H:g=none→m=0)
  (S:n+m≤26388279066624) (I:base≤w.heap.size)
  (h:∀ d j w',Own w' base 3 d j ((f++i).map VI)→w.grownBy w' (blk A)→(blk d=blk A∨blk d=some w.heap.size)→wpList Tryz.prog p Q rest (a.put o.dst (.slice d (n+m) j)) w'):
  wpList Tryz.prog p Q (o::rest) a w:=by
 obtain ⟨J,L,M,N,O⟩:=info_parts ZcB;refine Zbu r s x 41 v base 3 J _ 8 Tryz.underlying41 L M N O rfl A k (f.map VI) n (by rw [Kak];exact y) z C g m c B (i.map VI) (by rw [Kak];exact D) E F H (Zfs _) (by simp only [maxLen];omega) (by omega) I ?_
 intro d j w' q P R
 rw [←List.map_append] at q;exact h d j w' q P R
theorem ZaW {w:World} {B:Nat} {A:Option Addr} {l:List Int} (h:Rd w B A (l.map VI)):A=none→l.length=0:=by
 intro e
 rcases h with h | ⟨b,o,a,_⟩
 ·have:=congrArg List.length h;simpa using this
 ·rw [e] at a
  cases a
theorem Zcn (g:Nat) (A J:Option Addr) (n m c Z:Nat) (a b:List Int) (w:World) (a0:n=a.length) (a1:m=b.length) (b0:n≤100) (b1:m≤100) (h:Rd w w.heap.size A (a.map VI)) (a2:Rd w w.heap.size J (b.map VI))
  (a3:g<w.heap.size) (c0:w.cell? ⟨g,0,none⟩=some (.slice A n c)) (c1:w.cell? ⟨g,1,none⟩=some (.slice J m Z)):
  Calls Tryz.prog 203 #[.slice (some ⟨g,0,none⟩) 2 2] w fun e w'=>∃ B k,e=.returned (.slice B (n+m) k)∧Own w' w.heap.size 3 B k ((a++b).map VI)∧Below w.heap.size w w':=by
 have v:=Kz a0;have E:=Kz a1;have H:=Kz h;have L:=Kz a2;have a4:=Kz (Zkg (n+m) (by omega) w)
 have p0:decide (((n:Int)+(m:Int))<0)=false:=by simp;omega
 have p1:decide ((n:Int)<0)=false:=by simp
 have a5:=Kz (fun W (M:Below w.heap.size w W)=>(M.cell (p:=⟨g,0,none⟩) a3).trans c0)
 have a6:=Kz (fun W (M:Below w.heap.size w W)=>(M.cell (p:=⟨g,1,none⟩) a3).trans c1)
 clear h a2 a0 a1
 go_enter Tryz.func203,Tryz.ntmps203
 go_wp2
 go_loop [3,5,11] (fun N _ d=>(d=.int .i64 0∧N=.int .i64 0)∨(d=.int .i64 1∧N=.int .i64 n)∨(d=.int .i64 2∧N=.int .i64 ((n:Int)+(m:Int)))) (fun _ _ d=>2-(intOf d).toNat)
 case atStart=>exact .inl ⟨rfl,rfl⟩
 case round=>
  rcases hrel with ⟨rfl,rfl⟩ | ⟨rfl,rfl⟩ | ⟨rfl,rfl⟩
  ·go_wp2
   exact ⟨.inr (.inl ⟨rfl,rfl⟩),by simp [intOf]⟩
  ·go_wp2
   exact ⟨.inr (.inr ⟨rfl,rfl⟩),by simp [intOf]⟩
  ·go_wp2_with (go_at_call 212;refine a4.o.mono ?_;rintro e w1 ⟨A1,k1,rfl,o1,F⟩)
   have a7:=H.o.next F;have a8:=L.o.next F;have O1:=Kz o1;have B1:=Kz F;clear o1 F a7 a8 c0 c1
   go_loopw [6,8,27] (fun v6 _ d wr=>Below w.heap.size w wr∧∃ A c j r,v6=.slice A r c∧r=j.length∧Own wr w.heap.size 3 A c (j.map VI)∧((d=.int .i64 0∧j=[])∨(d=.int .i64 1∧j=a)∨(d=.int .i64 2∧j=a++b))) (fun _ _ d _=>2-(intOf d).toNat)
   case atStart=>exact ⟨B1.o,A1,k1,[],0,rfl,rfl,O1.o,.inl ⟨rfl,rfl⟩⟩
   case round=>
    obtain ⟨I,O,P,j,r,rfl,q,o2,a9⟩:=hrel;have c0:=a5.o _ I;have c1:=a6.o _ I;have y:=Kz o2;have i:=Kz I;have z:=Kz q;clear o2 I q;rcases a9 with ⟨rfl,rfl⟩ | ⟨rfl,s⟩ | ⟨rfl,s⟩
    ·have q:r=0:=by rw [z.o];rfl
     subst q
     go_wp2_with (at_builtin;(refine appV rfl (.tmp 31) (.tmp 32) rfl w.heap.size O P [] 0 rfl rfl y.o A n c w.heap.size a v.o.symm rfl (H.o.below i.o) (fun e=>by rw [v.o];exact ZaW H.o e) (by omega) i.o.size ?_);intro Q R w3 C D S;have T:=Kz (Zal i.o D i.o.size (fun k V=>(y.o.lt k V).1));have X:=Kz C;clear C D S)
     exact ⟨⟨T.o,Q,R,a,_,rfl,by have:=v.o;omega,by simpa using X.o,.inr (.inl ⟨rfl,rfl⟩)⟩,by simp [intOf]⟩
    ·have Y:=Kz s;have q:r=n:=by rw [z.o,s,v.o]
     subst q;clear s
     go_wp2_with (at_builtin;(refine appV rfl (.tmp 31) (.tmp 32) rfl w.heap.size O P j r z.o.symm rfl y.o J m Z w.heap.size b E.o.symm rfl (L.o.below i.o) (fun e=>by rw [E.o];exact ZaW L.o e) (by omega) i.o.size ?_);intro Q R w3 C D S;have T:=Kz (Zal i.o D i.o.size (fun k V=>(y.o.lt k V).1));have X:=Kz C;clear C D S)
     exact ⟨⟨T.o,Q,R,j++b,_,rfl,by rw [List.length_append,z.o,E.o],X.o,.inr (.inr ⟨rfl,by rw [Y.o]⟩)⟩,by simp [intOf]⟩
    ·have Y:=Kz s;have q:r=n+m:=by rw [z.o,s,List.length_append,v.o,E.o]
     subst q;clear s
     go_wp2
     go_ret;exact ⟨O,P,rfl,by rw [←Y.o];exact y.o,i.o⟩
end Go.Proofs.YtghlnncfigkkaaaGreatDoor
