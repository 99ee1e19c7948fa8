/-
 Rows of statements and expressions as they are read; the reference's Ints.
-/
import Derived.Test.YtghlnncfigkkaaaGreatDoorQNum
import Derived.Test.YtghlnncfigkkaaaGreatDoorQAppB
import Derived.Test.YtghlnncfigkkaaaGreatDoorRows
import Derived.BigQuiet
import Derived.Test.YtghlnncfigkkaaaGreatDoorQParM
set_option maxRecDepth 100000
set_option maxHeartbeats 2000000
open Go.Lib (hid)
namespace Go.Proofs.YtghlnncfigkkaaaGreatDoor
set_option linter.unusedVariables false
set_option linter.unusedSimpArgs false
open Go.RowKit
structure EI where
 kind:Int
 name:ByteArray
 num:Nat
 args:List Int
 pos:Int
structure SI where
 kind:Int
 party:Int
 name:ByteArray
 shape:List Int
 expr:Int
 pos:Int
def madeP (k:Int):Int:=
 if k=1∨k=2 then 0
 else if k=3∨(9≤k∧k≤12) then 1
 else if (4≤k∧k≤8)∨k=13 then 2
 else if k=14 then 3
 else -1
def argOk (i:Nat) (a:Int):Bool:=decide (0≤a)&&decide (a<i)
def exOk (i:Nat) (e:EI):Bool:=(madeP e.kind==(e.args.length:Int))&&e.args.all (argOk i)
def smOk (n:Nat) (s:SI):Bool:=s.kind==1||s.kind==3||(s.kind==2&&decide (0≤s.expr)&&decide (s.expr<n))
def exsOk:Nat→List EI→Bool
 | _,[]=>true
 | i,e::es=>exOk i e&&exsOk (i+1) es
def treeP (ss:List SI) (es:List EI):Bool:=exsOk 0 es&&ss.all (smOk es.length)
def Zau:Int→List Int→Int
 | n,[]=>n
 | n,d::r=>if d<1∨16<d then 0 else if 32<n*d then 0 else Zau (n*d) r
def Zad (s:List Int):Int:=if Zau 1 s=0 then 0 else if 2<s.length then 0 else Zau 1 s
def wideP (x y:List Int):List Int × Bool:=if x.length=0 then (y,true) else (x,y.length==0||x==y)
def matP (x y:List Int):List Int × Bool:=
 if x.length=0∨y.length=0∨x.getLastD 0≠y.headD 0 then ([],false) else (x.dropLast++y.tail,true)
def Zab (k:Int) (num:Nat) (x:List (List Int)):List Int × Bool:=
 if k=9 then (x.getD 0 [],decide (num≤63))
 else if k=3∨k=10 then (x.getD 0 [],true)
 else if k=12 then ([],(x.getD 0 []).length==1)
 else if k=4∨k=5∨k=6∨k=8∨k=13 then wideP (x.getD 0 []) (x.getD 1 [])
 else if k=7 then matP (x.getD 0 []) (x.getD 1 [])
 else if k=14 then (x.getD 1 [],(x.getD 1 []==x.getD 2 [])&&((x.getD 0 []).length==0||x.getD 0 []==x.getD 1 []))
 else ([],true)
def markP (es:List EI):Nat→Nat→(Nat→Bool)→(Nat→Bool)
 | _,0,m=>m
 | root,n+1,m=>
  let i:=n
  markP es root n (fun a=>m a||(m i&&((es[i]?.map EI.args).getD []).any fun b=>b==(a:Int)))
def Zac (es:List EI) (root:Nat):Nat→Bool:=markP es root (root+1) (fun a=>a==root)
abbrev Names:=List (ByteArray × List Int)
def findN:Names→ByteArray→Option (List Int)
 | [],_=>none
 | (t,s)::r,n=>if t.toList=n.toList then some s else findN r n
def exprC (e:EI) (shapes:List (List Int)) (names:Names):Sum (List Int) Nat:=
 if e.kind=2 then
  match findN names e.name with
  | none=>.inr 140
  | some s=>.inl s
 else
  let r:=Zab e.kind e.num (e.args.map fun a=>shapes.getD a.toNat [])
  if r.2=false∨Zad r.1=0 then .inr 141 else .inl r.1
def Zay (es:List EI) (m:Nat→Bool) (names:Names):Nat→Nat→List (List Int)→Sum (List (List Int)) (Nat × Int)
 | 0,_,shapes=>.inl shapes
 | n+1,k,shapes=>
  if m k then
   match es[k]? with
   | none=>.inl shapes
   | some e=>
    match exprC e shapes names with
    | .inr c=>.inr (c,e.pos)
    | .inl s=>Zay es m names n (k+1) (shapes.set k s)
  else Zay es m names n (k+1) shapes
def Zaj (es:List EI):List SI→Names→List (List Int)→Nat→Sum (List (List Int)) (Nat × Int)
 | [],_,shapes,_=>.inl shapes
 | s::ss,names,shapes,inputs=>
  let taken:Bool:=(findN names s.name).isSome||s.name.size==0
  if s.kind=1 then
   if (s.party≠0∧s.party≠1)∨Zad s.shape=0 then .inr (141,s.pos)
   else if taken then .inr (140,s.pos)
   else if 8≤inputs then .inr (5,s.pos)
   else Zaj es ss (names++[(s.name,s.shape)]) shapes (inputs+1)
  else if s.kind=2 then
   match Zay es (Zac es s.expr.toNat) names (s.expr.toNat+1) 0 shapes with
   | .inr x=>.inr x
   | .inl shapes'=>
    if taken then .inr (140,s.pos)
    else Zaj es ss (names++[(s.name,shapes'.getD s.expr.toNat [])]) shapes' inputs
  else
   if (findN names s.name).isNone then .inr (140,s.pos)
   else Zaj es ss names shapes inputs
def ZaA (ss:List SI) (es:List EI):Sum (List (List Int)) (Nat × Int):=
 if treeP ss es then Zaj es ss [] (es.map fun _=>[]) 0 else .inr (130,0)
def Zae (ss:List SI) (p:Int):List (List Int):=(ss.filter fun s=>s.kind==1&&s.party==p).map SI.shape
theorem ZbQ:∀ (s:List Int) (n:Int),1≤n→n≤32→0≤Zau n s∧Zau n s≤32
 | [],n,h1,h2=>by unfold Zau;omega
 | d::r,n,h1,h2=>by
  unfold Zau
  split
  ·omega
  ·split
   ·omega
   ·rename_i hd hn
    have hd1:1≤d:=by omega
    have h3:1≤n*d:=Int.le_trans (by omega) (Int.mul_le_mul h1 hd1 (by omega) (by omega))
    exact ZbQ r (n*d) h3 (by omega)
def VI (a:Int):Value:=.int .i64 a
theorem Zbh {l:List Int} (h:Zau 1 l=0):Zad l=0:=by unfold Zad;exact if_pos h
theorem Zfu {l:List Int} {i:Nat} {d:Int} (h:l[i]?=some d) (n:Int):Zau n (l.drop i)=if d<1∨16<d then 0 else if 32<n*d then 0 else Zau (n*d) (l.drop (i+1)):=by
 obtain ⟨hi,hd⟩:=Kaf.1 h
 rw [List.drop_eq_getElem_cons hi,hd]
 rfl
theorem ZcE (A:Option Addr) (n c:Nat) (l:List Int) (w:World) (hn:n=l.length) (hl:n≤9223372036854775807) (h:Rd w w.heap.size A (l.map VI)):
  Calls Tryz.prog 73 #[.slice A n c] w fun e w'=>e=.returned (.int .i64 (Zad l))∧w=w':=by
 have HN:=hid hn
 have H:=hid h
 obtain ⟨E,hE⟩:∃ E,E=Zau 1 l:=⟨_,rfl⟩
 have HE:=hid hE
 clear h hn hE
 go_enter Tryz.func73,Tryz.ntmps73
 go_wp2
 go_loop [3,8] (fun pv iv=>∃ (i:Nat) (p:Int),i≤n∧iv=.int .i64 i∧pv=.int .i64 p∧1≤p∧p≤32∧E=Zau p (l.drop i)) (fun _ iv=>n-(intOf iv).toNat)
 case atStart=>exact ⟨0,1,by omega,rfl,rfl,by omega,by omega,by rw [HE.out];rfl⟩
 case round=>
  obtain ⟨i,p,hi,rfl,rfl,hp1,hp2,hr⟩:=hrel
  by_cases hlt:i<n
  ·have ht:l[i]?=some (l[i]'(by rw [←HN.out];exact hlt)):=Kad _
   obtain ⟨d,hd⟩:∃ d,d=l[i]'(by rw [←HN.out];exact hlt):=⟨_,rfl⟩
   rw [←hd] at ht
   have ht2:(l.map VI)[i]?=some (VI d):=by rw [Kal,ht];rfl
   obtain ⟨b,o,rfl,hbl,c0⟩:=H.out.at_ ht2
   have c0':w.cell? ⟨b,o+i,none⟩=some (.int .i64 d):=c0
   rw [Zfu ht] at hr
   have i0:(0:Int)≤(i:Int):=by omega
   have i1:(i:Int)<(n:Int):=by omega
   have HR:=hid hr
   clear hr ht ht2 hd c0
   by_cases h1:d<1
   ·have q1:decide (d<1)=true:=by simp;omega
    have HZ:=hid (show Zad l=0 from Zbh (by rw [←HE.out,HR.out,if_pos (Or.inl h1)]))
    clear h1
    go_wp2
    go_ret
    exact ⟨by rw [HZ.out];rfl,rfl⟩
   ·have q1:decide (d<1)=false:=by simp;omega
    by_cases h2:16<d
    ·have q2:decide ((16:Int)<d)=true:=by simp;omega
     have HZ:=hid (show Zad l=0 from Zbh (by rw [←HE.out,HR.out,if_pos (Or.inr h2)]))
     clear h1 h2
     go_wp2
     go_ret
     exact ⟨by rw [HZ.out];rfl,rfl⟩
    ·have q2:decide ((16:Int)<d)=false:=by simp;omega
     obtain ⟨P,hP⟩:∃ P,P=p*d:=⟨_,rfl⟩
     have hP1:1≤P:=by rw [hP];exact Int.le_trans (by omega) (Int.mul_le_mul hp1 (show (1:Int)≤d by omega) (by omega) (by omega))
     have hP2:P≤512:=by rw [hP];exact Int.le_trans (Int.mul_le_mul hp2 (show d≤16 by omega) (by omega) (by omega)) (by omega)
     have hPe:p*d=P:=hP.symm
     have HR2:=hid (show E=if 32<P then 0 else Zau P (l.drop (i+1)) from by rw [HR.out,if_neg (by omega),hPe])
     clear h1 h2 hP HR
     by_cases h3:32<P
     ·have q3:decide ((32:Int)<P)=true:=by simp;omega
      have HZ:=hid (show Zad l=0 from Zbh (by rw [←HE.out,HR2.out,if_pos h3]))
      clear h3
      go_wp2
      go_ret
      exact ⟨by rw [HZ.out];rfl,rfl⟩
     ·have q3:decide ((32:Int)<P)=false:=by simp;omega
      have HR3:=hid (show E=Zau P (l.drop (i+1)) from by rw [HR2.out,if_neg h3])
      go_wp2
      exact ⟨⟨i+1,P,by omega,rfl,rfl,by omega,by omega,HR3.out⟩,by simp [intOf];omega⟩
  ·obtain rfl:n=i:=by omega
   have hEp:E=p:=by rw [hr,HN.out,List.drop_length];rfl
   have HP:=hid (show Zad l=if 2<n then 0 else p from by
    unfold Zad
    rw [←HE.out,hEp,if_neg (by omega),←HN.out])
   clear hr hEp
   by_cases h2:2<n
   ·have q1:decide ((2:Int)<(n:Int))=true:=by simp;omega
    go_wp2
    go_ret
    exact ⟨by rw [HP.out,if_pos h2];rfl,rfl⟩
   ·have q1:decide ((2:Int)<(n:Int))=false:=by simp;omega
    go_wp2
    go_ret
    exact ⟨by rw [HP.out,if_neg h2];rfl,rfl⟩
theorem ZbF (k:Int):k=1∨k=2∨k=3∨k=4∨k=5∨k=6∨k=7∨k=8∨k=9∨k=10∨k=11∨k=12∨k=13∨k=14∨(k≠1∧k≠2∧k≠3∧k≠4∧k≠5∧k≠6∧k≠7∧k≠8∧k≠9∧k≠10∧k≠11∧k≠12∧k≠13∧k≠14):=by omega
theorem Zkn (k:Int) (w:World):Calls Tryz.prog 147 #[.int .i64 k] w fun e w'=>e=.returned (.int .i64 (madeP k))∧w=w':=by
 rcases ZbF k with rfl | rfl | rfl | rfl | rfl | rfl | rfl | rfl | rfl | rfl | rfl | rfl | rfl | rfl | ⟨h1,h2,h3,h4,h5,h6,h7,h8,h9,h10,h11,h12,h13,h14⟩
 ·go_enter Tryz.func147,Tryz.ntmps147
  go_wp2
  go_ret
  exact ⟨rfl,rfl⟩
 ·go_enter Tryz.func147,Tryz.ntmps147
  go_wp2
  go_ret
  exact ⟨rfl,rfl⟩
 ·go_enter Tryz.func147,Tryz.ntmps147
  go_wp2
  go_ret
  exact ⟨rfl,rfl⟩
 ·go_enter Tryz.func147,Tryz.ntmps147
  go_wp2
  go_ret
  exact ⟨rfl,rfl⟩
 ·go_enter Tryz.func147,Tryz.ntmps147
  go_wp2
  go_ret
  exact ⟨rfl,rfl⟩
 ·go_enter Tryz.func147,Tryz.ntmps147
  go_wp2
  go_ret
  exact ⟨rfl,rfl⟩
 ·go_enter Tryz.func147,Tryz.ntmps147
  go_wp2
  go_ret
  exact ⟨rfl,rfl⟩
 ·go_enter Tryz.func147,Tryz.ntmps147
  go_wp2
  go_ret
  exact ⟨rfl,rfl⟩
 ·go_enter Tryz.func147,Tryz.ntmps147
  go_wp2
  go_ret
  exact ⟨rfl,rfl⟩
 ·go_enter Tryz.func147,Tryz.ntmps147
  go_wp2
  go_ret
  exact ⟨rfl,rfl⟩
 ·go_enter Tryz.func147,Tryz.ntmps147
  go_wp2
  go_ret
  exact ⟨rfl,rfl⟩
 ·go_enter Tryz.func147,Tryz.ntmps147
  go_wp2
  go_ret
  exact ⟨rfl,rfl⟩
 ·go_enter Tryz.func147,Tryz.ntmps147
  go_wp2
  go_ret
  exact ⟨rfl,rfl⟩
 ·go_enter Tryz.func147,Tryz.ntmps147
  go_wp2
  go_ret
  exact ⟨rfl,rfl⟩
 ·have hm:madeP k = -1:=by
   unfold madeP
   rw [if_neg (by omega),if_neg (by omega),if_neg (by omega),if_neg h14]
  have HM:=hid hm
  have q1:(k==1)=false:=by rw [Kaj];exact h1
  have q2:(k==2)=false:=by rw [Kaj];exact h2
  have q3:(k==3)=false:=by rw [Kaj];exact h3
  have q4:(k==4)=false:=by rw [Kaj];exact h4
  have q5:(k==5)=false:=by rw [Kaj];exact h5
  have q6:(k==6)=false:=by rw [Kaj];exact h6
  have q7:(k==7)=false:=by rw [Kaj];exact h7
  have q8:(k==8)=false:=by rw [Kaj];exact h8
  have q9:(k==9)=false:=by rw [Kaj];exact h9
  have q10:(k==10)=false:=by rw [Kaj];exact h10
  have q11:(k==11)=false:=by rw [Kaj];exact h11
  have q12:(k==12)=false:=by rw [Kaj];exact h12
  have q13:(k==13)=false:=by rw [Kaj];exact h13
  have q14:(k==14)=false:=by rw [Kaj];exact h14
  clear hm
  go_enter Tryz.func147,Tryz.ntmps147
  go_wp2
  go_ret
  exact ⟨by rw [HM.out];rfl,rfl⟩
theorem Zaq {α β:Type} (f:α→List β) (k:Nat) (hf:∀ x,(f x).length=k):∀ (l:List α) (i j:Nat) (x:α),l[i]?=some x→j<k→(l.flatMap f)[i*k+j]?=(f x)[j]?
 | [],i,j,x,h,_=>by simp at h
 | y::l,0,j,x,h,hj=>by
  simp at h
  subst h
  rw [List.flatMap_cons,List.getElem?_append_left (by rw [hf];omega)]
  simp
 | y::l,i+1,j,x,h,hj=>by
  have hh:l[i]?=some x:=by simpa using h
  have ih:=Zaq f k hf l i j x hh hj
  have e0:(i+1)*k=i*k+k:=Nat.succ_mul i k
  rw [List.flatMap_cons,List.getElem?_append_right (by rw [hf];omega)]
  have e:(i+1)*k+j-(f y).length=i*k+j:=by rw [hf];omega
  rw [e,ih]
structure SmAt (w:World) (B b o:Nat) (x:Sm):Prop where
 c0:w.cell? ⟨b,o,none⟩=some (.int .i64 x.kind)
 c1:w.cell? ⟨b,o+1,none⟩=some (.int .i64 x.party)
 c2:w.cell? ⟨b,o+2,none⟩=some (.string x.name)
 c3:∃ A c,w.cell? ⟨b,o+3,none⟩=some (.slice A x.shape.length c)∧Rd w B A (x.shape.map I64)
 c4:w.cell? ⟨b,o+4,none⟩=some (.int .i64 x.expr)
 c5:w.cell? ⟨b,o+5,none⟩=some (.int .i64 x.pos)
structure ExAt (w:World) (B b o:Nat) (x:Ex):Prop where
 c0:w.cell? ⟨b,o,none⟩=some (.int .i64 x.kind)
 c1:w.cell? ⟨b,o+1,none⟩=some (.string x.name)
 c2:w.cell? ⟨b,o+2,none⟩=some (.int .u64 x.num)
 c3:∃ A c,w.cell? ⟨b,o+3,none⟩=some (.slice A x.args.length c)∧Rd w B A (x.args.map I64)
 c4:w.cell? ⟨b,o+4,none⟩=some (.int .i64 x.pos)
section
variable {w w':World} {B B' b o:Nat} {A:Option Addr} {x:Sm} {e:Ex} {l:List Sm} {m:List Ex}
theorem Zbm {w:World} {base k n c:Nat} {T:TypeId} {A:Option Addr} {xs:List Value} (h:w.ownsRow base T k (.slice A n c) n xs) (hn:0<n):
  ∃ g,A=some ⟨g,0,none⟩∧g<w.heap.size∧base≤g∧∀ (i:Nat) (v:Value),xs[i]?=some v→w.cell? ⟨g,i,none⟩=some v:=by
 rcases h.2 with ⟨hv,h0⟩ | ⟨g,cap',cur,hv,hb,hg,h1,h2,h3,h4⟩
 ·omega
 ·injection hv with a b c
  refine ⟨g,a,(Kab.1 hg).1,hb,fun i v hv => ?_⟩
  rw [Kaa w g i cur _ (0,0) hg]
  rw [←h4,List.getElem?_take] at hv
  split at hv
  ·simpa using hv
  ·cases hv
end
structure SIAt (w:World) (B b o:Nat) (x:SI):Prop where
 c0:w.cell? ⟨b,o,none⟩=some (.int .i64 x.kind)
 c1:w.cell? ⟨b,o+1,none⟩=some (.int .i64 x.party)
 c2:w.cell? ⟨b,o+2,none⟩=some (.string x.name)
 c3:∃ A c,w.cell? ⟨b,o+3,none⟩=some (.slice A x.shape.length c)∧Rd w B A (x.shape.map VI)∧x.shape.length≤9223372036854775807∧x.shape.length≤c∧c≤9223372036854775807
 c4:w.cell? ⟨b,o+4,none⟩=some (.int .i64 x.expr)
 c5:w.cell? ⟨b,o+5,none⟩=some (.int .i64 x.pos)
structure EIAt (w:World) (B b o:Nat) (x:EI):Prop where
 c0:w.cell? ⟨b,o,none⟩=some (.int .i64 x.kind)
 c1:w.cell? ⟨b,o+1,none⟩=some (.string x.name)
 c2:w.cell? ⟨b,o+2,none⟩=some (.int .u64 x.num)
 c3:∃ A c,w.cell? ⟨b,o+3,none⟩=some (.slice A x.args.length c)∧Rd w B A (x.args.map VI)∧x.args.length≤9223372036854775807∧x.args.length≤c∧c≤9223372036854775807
 c4:w.cell? ⟨b,o+4,none⟩=some (.int .i64 x.pos)
def RdSI (w:World) (B:Nat) (A:Option Addr) (l:List SI):Prop:=l=[]∨∃ b o,A=some ⟨b,o,none⟩∧b<B∧∀ i x,l[i]?=some x→SIAt w B b (o+i*6) x
def RdEI (w:World) (B:Nat) (A:Option Addr) (l:List EI):Prop:=l=[]∨∃ b o,A=some ⟨b,o,none⟩∧b<B∧∀ i x,l[i]?=some x→EIAt w B b (o+i*5) x
section
variable {w w':World} {B B' b o:Nat} {A:Option Addr} {x:SI} {e:EI} {l:List SI} {m:List EI}
theorem SIAt.keep (h:SIAt w B b o x) (hb:b<B) (hk:∀ p:Addr,p.block<B→w'.cell? p=w.cell? p):SIAt w' B b o x:=by
 obtain ⟨c0,c1,c2,⟨A,c,c3,c3',c3n⟩,c4,c5⟩:=h
 exact ⟨(hk ⟨b,_,none⟩ hb).trans c0,(hk ⟨b,_,none⟩ hb).trans c1,(hk ⟨b,_,none⟩ hb).trans c2,⟨A,c,(hk ⟨b,_,none⟩ hb).trans c3,c3'.keep hk,c3n⟩,(hk ⟨b,_,none⟩ hb).trans c4,(hk ⟨b,_,none⟩ hb).trans c5⟩
theorem SIAt.more (h:SIAt w B b o x) (hB:B≤B'):SIAt w B' b o x:=by
 obtain ⟨c0,c1,c2,⟨A,c,c3,c3',c3n⟩,c4,c5⟩:=h
 exact ⟨c0,c1,c2,⟨A,c,c3,c3'.more hB,c3n⟩,c4,c5⟩
theorem EIAt.keep (h:EIAt w B b o e) (hb:b<B) (hk:∀ p:Addr,p.block<B→w'.cell? p=w.cell? p):EIAt w' B b o e:=by
 obtain ⟨c0,c1,c2,⟨A,c,c3,c3',c3n⟩,c4⟩:=h
 exact ⟨(hk ⟨b,_,none⟩ hb).trans c0,(hk ⟨b,_,none⟩ hb).trans c1,(hk ⟨b,_,none⟩ hb).trans c2,⟨A,c,(hk ⟨b,_,none⟩ hb).trans c3,c3'.keep hk,c3n⟩,(hk ⟨b,_,none⟩ hb).trans c4⟩
theorem EIAt.more (h:EIAt w B b o e) (hB:B≤B'):EIAt w B' b o e:=by
 obtain ⟨c0,c1,c2,⟨A,c,c3,c3',c3n⟩,c4⟩:=h
 exact ⟨c0,c1,c2,⟨A,c,c3,c3'.more hB,c3n⟩,c4⟩
theorem RdSI.keep (h:RdSI w B A l) (hk:∀ p:Addr,p.block<B→w'.cell? p=w.cell? p):RdSI w' B A l:=by
 rcases h with h | ⟨b,o,hA,hb,hc⟩
 ·exact .inl h
 ·exact .inr ⟨b,o,hA,hb,fun i x hx=>(hc i x hx).keep hb hk⟩
theorem RdEI.keep (h:RdEI w B A m) (hk:∀ p:Addr,p.block<B→w'.cell? p=w.cell? p):RdEI w' B A m:=by
 rcases h with h | ⟨b,o,hA,hb,hc⟩
 ·exact .inl h
 ·exact .inr ⟨b,o,hA,hb,fun i x hx=>(hc i x hx).keep hb hk⟩
theorem RdSI.more (h:RdSI w B A l) (hB:B≤B'):RdSI w B' A l:=by
 rcases h with h | ⟨b,o,hA,hb,hc⟩
 ·exact .inl h
 ·exact .inr ⟨b,o,hA,Kae hb hB,fun i x hx=>(hc i x hx).more hB⟩
theorem RdEI.more (h:RdEI w B A m) (hB:B≤B'):RdEI w B' A m:=by
 rcases h with h | ⟨b,o,hA,hb,hc⟩
 ·exact .inl h
 ·exact .inr ⟨b,o,hA,Kae hb hB,fun i x hx=>(hc i x hx).more hB⟩
theorem RdSI.below (h:RdSI w B A l) (hb:Below B w w'):RdSI w' B A l:=h.keep fun _ hp=>hb.cell hp
theorem RdEI.below (h:RdEI w B A m) (hb:Below B w w'):RdEI w' B A m:=h.keep fun _ hp=>hb.cell hp
theorem RdSI.next (h:RdSI w w.heap.size A l) (hb:Below w.heap.size w w'):RdSI w' w'.heap.size A l:=(h.below hb).more hb.size
theorem RdEI.next (h:RdEI w w.heap.size A m) (hb:Below w.heap.size w w'):RdEI w' w'.heap.size A m:=(h.below hb).more hb.size
theorem RdSI.at_ (h:RdSI w B A l) {i:Nat} (hi:l[i]?=some x):∃ b o,A=some ⟨b,o,none⟩∧b<B∧SIAt w B b (o+i*6) x:=by
 rcases h with rfl | ⟨b,o,hA,hb,hc⟩
 ·simp at hi
 ·exact ⟨b,o,hA,hb,hc i x hi⟩
theorem RdEI.at_ (h:RdEI w B A m) {i:Nat} (hi:m[i]?=some e):∃ b o,A=some ⟨b,o,none⟩∧b<B∧EIAt w B b (o+i*5) e:=by
 rcases h with rfl | ⟨b,o,hA,hb,hc⟩
 ·simp at hi
 ·exact ⟨b,o,hA,hb,hc i e hi⟩
end
def SI.of (x:Sm):SI:=⟨x.kind,x.party,x.name,x.shape.map Int.ofNat,x.expr,x.pos⟩
def EI.of (x:Ex):EI:=⟨x.kind,x.name,x.num,x.args.map Int.ofNat,x.pos⟩
theorem vi_of (l:List Nat):(l.map Int.ofNat).map VI=l.map I64:=by rw [List.map_map];rfl
theorem Zfl {w:World} {base c:Nat} {e:TypeId} {A:Option Addr} {xs:List Value} (h:Own w base e A c xs):xs.length≤9223372036854775807∧xs.length≤c∧c≤9223372036854775807:=by
 rcases h.2 with ⟨hv,hn⟩ | ⟨g,cap',cur,hv,hb,hg,h1,h2,h3,h4⟩
 ·injection hv with a b c
  omega
 ·injection hv with a b c
  simp only [maxLen] at h2
  omega
theorem ArgsV.int {X:Nat→Prop} {base:Nat} {w:World} {v:Value} {l:List Nat} (h:ArgsV X base w v l):∃ A c,v=.slice A (l.map Int.ofNat).length c∧Rd w w.heap.size A ((l.map Int.ofNat).map VI)∧(l.map Int.ofNat).length≤9223372036854775807∧(l.map Int.ofNat).length≤c∧c≤9223372036854775807:=by
 obtain ⟨A,c,h1,h2,_⟩:=h
 have hc:=Zfl h2
 rw [Kak] at hc
 refine ⟨A,c,by rw [Kak];exact h1,by rw [vi_of];exact h2.rd,?_⟩
 rw [Kak]
 exact hc
theorem OwnSX.int {X:Nat→Prop} {w:World} {base c:Nat} {A:Option Addr} {l:List Sm} (h:OwnSX X w base A c l):RdSI w w.heap.size A (l.map SI.of):=by
 obtain ⟨ms,h1,h2,h3⟩:=h
 by_cases hl:l=[]
 ·subst hl
  exact .inl rfl
 ·obtain ⟨g,hA,hg,_,hc⟩:=Zbm h2 (List.length_pos_iff.2 hl)
  refine .inr ⟨g,0,hA,hg,fun i x hx => ?_⟩
  subst h1
  rw [Kal,Option.map_eq_some_iff] at hx
  obtain ⟨y,hy,rfl⟩:=hx
  rw [Kal,Option.map_eq_some_iff] at hy
  obtain ⟨m,hm,rfl⟩:=hy
  have key:∀ j v,(Zc6 m)[j]?=some v→j<6→w.cell? ⟨g,0+i*6+j,none⟩=some v:=fun j v hv hj=>by
   rw [Nat.zero_add]
   exact hc _ v ((Zaq Zc6 6 (fun _=>rfl) ms i j m hm hj).trans hv)
  obtain ⟨A',c',e1,e2⟩:=(h3 m (Kam hm)).int
  exact ⟨key 0 _ rfl (by omega),key 1 _ rfl (by omega),key 2 _ rfl (by omega),⟨A',c',by rw [show (SI.of m.1).shape=m.1.shape.map Int.ofNat from rfl,←e1];exact key 3 _ rfl (by omega),e2⟩,key 4 _ rfl (by omega),key 5 _ rfl (by omega)⟩
theorem OwnEX.int {X:Nat→Prop} {w:World} {base c:Nat} {A:Option Addr} {l:List Ex} (h:OwnEX X w base A c l):RdEI w w.heap.size A (l.map EI.of):=by
 obtain ⟨ms,h1,h2,h3,_⟩:=h
 by_cases hl:l=[]
 ·subst hl
  exact .inl rfl
 ·obtain ⟨g,hA,hg,_,hc⟩:=Zbm h2 (List.length_pos_iff.2 hl)
  refine .inr ⟨g,0,hA,hg,fun i x hx => ?_⟩
  subst h1
  rw [Kal,Option.map_eq_some_iff] at hx
  obtain ⟨y,hy,rfl⟩:=hx
  rw [Kal,Option.map_eq_some_iff] at hy
  obtain ⟨m,hm,rfl⟩:=hy
  have key:∀ j v,(Zc5 m)[j]?=some v→j<5→w.cell? ⟨g,0+i*5+j,none⟩=some v:=fun j v hv hj=>by
   rw [Nat.zero_add]
   exact hc _ v ((Zaq Zc5 5 (fun _=>rfl) ms i j m hm hj).trans hv)
  obtain ⟨A',c',e1,e2⟩:=(h3 m (Kam hm)).int
  exact ⟨key 0 _ rfl (by omega),key 1 _ rfl (by omega),key 2 _ rfl (by omega),⟨A',c',by rw [show (EI.of m.1).args=m.1.args.map Int.ofNat from rfl,←e1];exact key 3 _ rfl (by omega),e2⟩,key 4 _ rfl (by omega)⟩
end Go.Proofs.YtghlnncfigkkaaaGreatDoor
