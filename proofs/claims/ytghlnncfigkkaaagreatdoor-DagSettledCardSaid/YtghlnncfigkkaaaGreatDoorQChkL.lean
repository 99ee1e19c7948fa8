/-
 The checker as plain functions over trees of integers.
-/
import Derived.Test.YtghlnncfigkkaaaGreatDoorQNum
import Derived.Test.YtghlnncfigkkaaaGreatDoorQAppN
import Derived.Test.YtghlnncfigkkaaaGreatDoorRows
import Derived.BigQuiet
set_option maxRecDepth 100000
set_option maxHeartbeats 2000000
set_option linter.unusedVariables false
set_option linter.unusedSimpArgs false
namespace Go.Proofs.YtghlnncfigkkaaaGreatDoor
open Go.RowKit
structure EI where
 kind:Int
 name:ByteArray
 num:Nat
 args:List Int
 pos:Int
structure SI where
 kind:Int
 party:Int
 name:ByteArray
 shape:List Int
 expr:Int
 pos:Int
def madeP (k:Int):Int:=
 if k=1∨k=2 then 0
 else if k=3∨(9≤k∧k≤12) then 1
 else if (4≤k∧k≤8)∨k=13 then 2
 else if k=14 then 3
 else -1
def argOk (i:Nat) (a:Int):Bool:=decide (0≤a)&&decide (a<i)
def exOk (i:Nat) (e:EI):Bool:=(madeP e.kind==(e.args.length:Int))&&e.args.all (argOk i)
def smOk (n:Nat) (s:SI):Bool:=s.kind==1||s.kind==3||(s.kind==2&&decide (0≤s.expr)&&decide (s.expr<n))
def exsOk:Nat→List EI→Bool
 | _,[]=>true
 | i,e::es=>exOk i e&&exsOk (i+1) es
def treeP (ss:List SI) (es:List EI):Bool:=exsOk 0 es&&ss.all (smOk es.length)
def Zau:Int→List Int→Int
 | n,[]=>n
 | n,d::r=>if d<1∨16<d then 0 else if 32<n*d then 0 else Zau (n*d) r
def Zad (s:List Int):Int:=if Zau 1 s=0 then 0 else if 2<s.length then 0 else Zau 1 s
def wideP (x y:List Int):List Int × Bool:=if x.length=0 then (y,true) else (x,y.length==0||x==y)
def matP (x y:List Int):List Int × Bool:=
 if x.length=0∨y.length=0∨x.getLastD 0≠y.headD 0 then ([],false) else (x.dropLast++y.tail,true)
def Zab (k:Int) (num:Nat) (x:List (List Int)):List Int × Bool:=
 if k=9 then (x.getD 0 [],decide (num≤63))
 else if k=3∨k=10 then (x.getD 0 [],true)
 else if k=12 then ([],(x.getD 0 []).length==1)
 else if k=4∨k=5∨k=6∨k=8∨k=13 then wideP (x.getD 0 []) (x.getD 1 [])
 else if k=7 then matP (x.getD 0 []) (x.getD 1 [])
 else if k=14 then (x.getD 1 [],(x.getD 1 []==x.getD 2 [])&&((x.getD 0 []).length==0||x.getD 0 []==x.getD 1 []))
 else ([],true)
def markP (es:List EI):Nat→Nat→(Nat→Bool)→(Nat→Bool)
 | _,0,m=>m
 | root,n+1,m=>
  let i:=n
  markP es root n (fun a=>m a||(m i&&((es[i]?.map EI.args).getD []).any fun b=>b==(a:Int)))
def Zac (es:List EI) (root:Nat):Nat→Bool:=markP es root (root+1) (fun a=>a==root)
abbrev Names:=List (ByteArray × List Int)
def findN:Names→ByteArray→Option (List Int)
 | [],_=>none
 | (t,s)::r,n=>if t.toList=n.toList then some s else findN r n
def exprC (e:EI) (shapes:List (List Int)) (names:Names):Sum (List Int) Nat:=
 if e.kind=2 then
  match findN names e.name with
  | none=>.inr 140
  | some s=>.inl s
 else
  let r:=Zab e.kind e.num (e.args.map fun a=>shapes.getD a.toNat [])
  if r.2=false∨Zad r.1=0 then .inr 141 else .inl r.1
def Zay (es:List EI) (m:Nat→Bool) (names:Names):Nat→Nat→List (List Int)→Sum (List (List Int)) (Nat × Int)
 | 0,_,shapes=>.inl shapes
 | n+1,k,shapes=>
  if m k then
   match es[k]? with
   | none=>.inl shapes
   | some e=>
    match exprC e shapes names with
    | .inr c=>.inr (c,e.pos)
    | .inl s=>Zay es m names n (k+1) (shapes.set k s)
  else Zay es m names n (k+1) shapes
def Zaj (es:List EI):List SI→Names→List (List Int)→Nat→Sum (List (List Int)) (Nat × Int)
 | [],_,shapes,_=>.inl shapes
 | s::ss,names,shapes,inputs=>
  let taken:Bool:=(findN names s.name).isSome||s.name.size==0
  if s.kind=1 then
   if (s.party≠0∧s.party≠1)∨Zad s.shape=0 then .inr (141,s.pos)
   else if taken then .inr (140,s.pos)
   else if 8≤inputs then .inr (5,s.pos)
   else Zaj es ss (names++[(s.name,s.shape)]) shapes (inputs+1)
  else if s.kind=2 then
   match Zay es (Zac es s.expr.toNat) names (s.expr.toNat+1) 0 shapes with
   | .inr x=>.inr x
   | .inl shapes'=>
    if taken then .inr (140,s.pos)
    else Zaj es ss (names++[(s.name,shapes'.getD s.expr.toNat [])]) shapes' inputs
  else
   if (findN names s.name).isNone then .inr (140,s.pos)
   else Zaj es ss names shapes inputs
def ZaA (ss:List SI) (es:List EI):Sum (List (List Int)) (Nat × Int):=
 if treeP ss es then Zaj es ss [] (es.map fun _=>[]) 0 else .inr (130,0)
def Zae (ss:List SI) (p:Int):List (List Int):=(ss.filter fun s=>s.kind==1&&s.party==p).map SI.shape
theorem ZbQ:∀ (s:List Int) (n:Int),1≤n→n≤32→0≤Zau n s∧Zau n s≤32
 | [],n,h1,h2=>by unfold Zau;omega
 | d::r,n,h1,h2=>by
  unfold Zau;split
  ·omega
  ·split
   ·omega
   ·rename_i hd hn
    have a:1≤d:=by omega
    have b:1≤n*d:=Int.le_trans (by omega) (Int.mul_le_mul h1 a (by omega) (by omega))
    exact ZbQ r (n*d) b (by omega)
def VI (a:Int):Value:=.int .i64 a
theorem Zbh {l:List Int} (h:Zau 1 l=0):Zad l=0:=by unfold Zad;exact if_pos h
theorem Zfu {l:List Int} {i:Nat} {d:Int} (h:l[i]?=some d) (n:Int):Zau n (l.drop i)=if d<1∨16<d then 0 else if 32<n*d then 0 else Zau (n*d) (l.drop (i+1)):=by
 obtain ⟨a,b⟩:=Kaf.1 h;rw [List.drop_eq_getElem_cons a,b];rfl
theorem ZcE (A:Option Addr) (n c:Nat) (l:List Int) (w:World) (z:n=l.length) (V:n≤9223372036854775807) (h:Rd w w.heap.size A (l.map VI)):
  Calls Tryz.prog 73 #[.slice A n c] w fun e w'=>e=.returned (.int .i64 (Zad l))∧w=w':=by
 have m:=Kz z;have H:=Kz h;obtain ⟨E,B⟩:=Ky (Zau 1 l);have g:=Kz B;clear h z B
 go_enter Tryz.func73,Tryz.ntmps73
 go_wp2
 go_loop [3,8] (fun M v=>∃ (i:Nat) (p:Int),i≤n∧v=.int .i64 i∧M=.int .i64 p∧1≤p∧p≤32∧E=Zau p (l.drop i)) (fun _ v=>n-(intOf v).toNat)
 case atStart=>exact ⟨0,1,by omega,rfl,rfl,by omega,by omega,by rw [g.o];rfl⟩
 case round=>
  obtain ⟨i,p,W,rfl,rfl,N,O,j⟩:=hrel
  by_cases C:i<n
  ·have q:l[i]?=some (l[i]'(by rw [←m.o];exact C)):=Kad _
   obtain ⟨d,D⟩:=Ky (l[i]'(by rw [←m.o];exact C))
   rw [←D] at q;have F:(l.map VI)[i]?=some (VI d):=by rw [Kal,q];rfl
   obtain ⟨b,o,rfl,X,c0⟩:=H.o.at_ F;have Y:w.cell? ⟨b,o+i,none⟩=some (.int .i64 d):=c0;rw [Zfu q] at j;have Z:(0:Int)≤(i:Int):=by omega
   have i1:(i:Int)<(n:Int):=by omega
   have r:=Kz j;clear j q F D c0
   by_cases s:d<1
   ·have x:decide (d<1)=true:=by simp;omega
    have k:=Kz (show Zad l=0 from Zbh (by rw [←g.o,r.o,if_pos (Or.inl s)]))
    clear s
    go_wp2
    go_ret;exact ⟨by rw [k.o];rfl,rfl⟩
   ·have x:decide (d<1)=false:=by simp;omega
    by_cases a:16<d
    ·have Q:decide ((16:Int)<d)=true:=by simp;omega
     have k:=Kz (show Zad l=0 from Zbh (by rw [←g.o,r.o,if_pos (Or.inr a)]))
     clear s a
     go_wp2
     go_ret;exact ⟨by rw [k.o];rfl,rfl⟩
    ·have Q:decide ((16:Int)<d)=false:=by simp;omega
     obtain ⟨P,t⟩:=Ky (p*d);have a0:1≤P:=by rw [t];exact Int.le_trans (by omega) (Int.mul_le_mul N (show (1:Int)≤d by omega) (by omega) (by omega))
     have a1:P≤512:=by rw [t];exact Int.le_trans (Int.mul_le_mul O (show d≤16 by omega) (by omega) (by omega)) (by omega)
     have R:p*d=P:=t.symm;have I:=Kz (show E=if 32<P then 0 else Zau P (l.drop (i+1)) from by rw [r.o,if_neg (by omega),R])
     clear s a t r
     by_cases y:32<P
     ·have S:decide ((32:Int)<P)=true:=by simp;omega
      have k:=Kz (show Zad l=0 from Zbh (by rw [←g.o,I.o,if_pos y]))
      clear y
      go_wp2
      go_ret;exact ⟨by rw [k.o];rfl,rfl⟩
     ·have S:decide ((32:Int)<P)=false:=by simp;omega
      have T:=Kz (show E=Zau P (l.drop (i+1)) from by rw [I.o,if_neg y])
      go_wp2
      exact ⟨⟨i+1,P,by omega,rfl,rfl,by omega,by omega,T.o⟩,by simp [intOf];omega⟩
  ·obtain rfl:n=i:=by omega
   have J:E=p:=by rw [j,m.o,List.drop_length];rfl
   have L:=Kz (show Zad l=if 2<n then 0 else p from by
    unfold Zad;rw [←g.o,J,if_neg (by omega),←m.o])
   clear j J
   by_cases a:2<n
   ·have x:decide ((2:Int)<(n:Int))=true:=by simp;omega
    go_wp2
    go_ret;exact ⟨by rw [L.o,if_pos a];rfl,rfl⟩
   ·have x:decide ((2:Int)<(n:Int))=false:=by simp;omega
    go_wp2
    go_ret;exact ⟨by rw [L.o,if_neg a];rfl,rfl⟩
def ZbD:Int→List Int→Int
 | n,[]=>n
 | n,d::r=>if d<1∨16<d then 0 else ZbD (n*d) r
theorem Zeq:∀ (s:List Int) (n:Int),32<n→ZbD n s=0∨32<ZbD n s
 | [],n,h=>.inr h
 | d::r,n,h=>by
  unfold ZbD;split
  ·exact .inl rfl
  ·rename_i hd
   have a:1≤d:=by omega
   have b:n*1≤n*d:=Int.mul_le_mul_of_nonneg_left a (by omega)
   exact Zeq r (n*d) (by omega)
theorem Zfv:∀ (s:List Int) (n:Int),1≤n→n≤32→Zau n s=if 32<ZbD n s then 0 else ZbD n s
 | [],n,h1,h2=>by unfold Zau ZbD;rw [if_neg (by omega)]
 | d::r,n,h1,h2=>by
  unfold Zau ZbD;split
  ·rw [if_neg (by omega)]
  ·rename_i hd
   have a:1≤d:=by omega
   have b:1≤n*d:=Int.le_trans (by omega) (Int.mul_le_mul h1 a (by omega) (by omega))
   split
   ·rename_i hb
    rcases Zeq r (n*d) hb with h | h
    ·rw [h,if_neg (by omega)]
    ·rw [if_pos h]
   ·exact Zfv r (n*d) b (by omega)
theorem Zga {l:List Int} {i:Nat} {d:Int} (h:l[i]?=some d) (n:Int):ZbD n (l.drop i)=if d<1∨16<d then 0 else ZbD (n*d) (l.drop (i+1)):=by
 obtain ⟨a,b⟩:=Kaf.1 h;rw [List.drop_eq_getElem_cons a,b];rfl
theorem ZbE (A:Option Addr) (n c:Nat) (l:List Int) (w:World) (t:n=l.length) (Z:n≤9223372036854775807) (h:Rd w w.heap.size A (l.map VI)):
  Calls Tryz.prog 58 #[.slice A n c] w fun e w'=>e=.returned (.int .i64 (Zad l))∧w=w':=by
 have v:=Kz t;have H:=Kz h
 by_cases a:2<n
 ·have N:decide ((2:Int)<(n:Int))=true:=by simp;omega
  have g:=Kz (show Zad l=0 from by unfold Zad;rw [if_pos (show 2<l.length by omega)];split <;> rfl)
  clear h t a
  go_enter Tryz.func58,Tryz.ntmps58
  go_wp2
  go_ret;exact ⟨by rw [g.o];rfl,rfl⟩
 ·have N:decide ((2:Int)<(n:Int))=false:=by simp;omega
  obtain ⟨E,x⟩:=Ky (ZbD 1 l);have O:=Kz x;have g:=Kz (show Zad l=if 32<E then 0 else E from by
   unfold Zad;rw [x,←Zfv l 1 (by omega) (by omega),if_neg (show ¬ 2<l.length by omega)]
   split
   ·rename_i h0;exact h0.symm
   ·rfl)
  have a0:n≤2:=by omega
  clear h t x a
  go_enter Tryz.func58,Tryz.ntmps58
  go_wp2
  go_loop [3,10] (fun Q y=>∃ (i:Nat) (p:Int),i≤n∧y=.int .i64 i∧Q=.int .i64 p∧1≤p∧p≤16 ^ i∧E=ZbD p (l.drop i)) (fun _ y=>n-(intOf y).toNat)
  case atStart=>exact ⟨0,1,by omega,rfl,rfl,by omega,by omega,by rw [O.o];rfl⟩
  case round=>
   obtain ⟨i,p,a1,rfl,rfl,R,m,j⟩:=hrel;have S:p≤256:=Int.le_trans m (by
    rcases (show i=0∨i=1∨i=2 by omega) with rfl | rfl | rfl <;> decide)
   by_cases C:i<n
   ·have q:l[i]?=some (l[i]'(by rw [←v.o];exact C)):=Kad _
    obtain ⟨d,D⟩:=Ky (l[i]'(by rw [←v.o];exact C))
    rw [←D] at q;have F:(l.map VI)[i]?=some (VI d):=by rw [Kal,q];rfl
    obtain ⟨b,o,rfl,a2,c0⟩:=H.o.at_ F;have a3:w.cell? ⟨b,o+i,none⟩=some (.int .i64 d):=c0;rw [Zga q] at j;have i0:(0:Int)≤(i:Int):=by omega
    have i1:(i:Int)<(n:Int):=by omega
    have r:=Kz j;have I:=Kz m;clear j q F D c0 m
    by_cases s:d<1
    ·have z:decide (d<1)=true:=by simp;omega
     have B:=Kz (show Zad l=0 from by rw [g.o,r.o,if_pos (Or.inl s)];rfl)
     clear s
     go_wp2
     go_ret;exact ⟨by rw [B.o];rfl,rfl⟩
    ·have z:decide (d<1)=false:=by simp;omega
     by_cases a:16<d
     ·have T:decide ((16:Int)<d)=true:=by simp;omega
      have B:=Kz (show Zad l=0 from by rw [g.o,r.o,if_pos (Or.inr a)];rfl)
      clear s a
      go_wp2
      go_ret;exact ⟨by rw [B.o];rfl,rfl⟩
     ·have T:decide ((16:Int)<d)=false:=by simp;omega
      obtain ⟨P,k⟩:=Ky (p*d);have a4:1≤P:=by rw [k];exact Int.le_trans (by omega) (Int.mul_le_mul R (show (1:Int)≤d by omega) (by omega) (by omega))
      have a5:P≤4096:=by rw [k];exact Int.le_trans (Int.mul_le_mul S (show d≤16 by omega) (by omega) (by omega)) (by omega)
      have J:P≤16 ^ (i+1):=by
       rw [k,Int.pow_succ];exact Int.mul_le_mul I.o (show d≤16 by omega) (by omega) (Int.le_trans (by omega) I.o)
      have V:p*d=P:=k.symm;have W:=Kz (show E=ZbD P (l.drop (i+1)) from by rw [r.o,if_neg (by omega),V])
      have X:=Kz J;clear s a k r J
      go_wp2
      exact ⟨⟨i+1,P,by omega,rfl,rfl,by omega,X.o,W.o⟩,by simp [intOf];omega⟩
   ·obtain rfl:n=i:=by omega
    have L:E=p:=by rw [j,v.o,List.drop_length];rfl
    have M:=Kz (show Zad l=if 32<p then 0 else p from by rw [g.o,L])
    clear j L m
    by_cases Y:32<p
    ·have z:decide ((32:Int)<p)=true:=by simp;omega
     go_wp2
     go_ret;exact ⟨by rw [M.o,if_pos Y];rfl,rfl⟩
    ·have z:decide ((32:Int)<p)=false:=by simp;omega
     go_wp2
     go_ret;exact ⟨by rw [M.o,if_neg (by omega)];rfl,rfl⟩
theorem ZbF (k:Int):k=1∨k=2∨k=3∨k=4∨k=5∨k=6∨k=7∨k=8∨k=9∨k=10∨k=11∨k=12∨k=13∨k=14∨(k≠1∧k≠2∧k≠3∧k≠4∧k≠5∧k≠6∧k≠7∧k≠8∧k≠9∧k≠10∧k≠11∧k≠12∧k≠13∧k≠14):=by omega
theorem Zkn (k:Int) (w:World):Calls Tryz.prog 147 #[.int .i64 k] w fun e w'=>e=.returned (.int .i64 (madeP k))∧w=w':=by
 rcases ZbF k with rfl | rfl | rfl | rfl | rfl | rfl | rfl | rfl | rfl | rfl | rfl | rfl | rfl | rfl | ⟨c,d,g,h,i,j,l,m,n,p,q,r,s,a⟩
 ·go_enter Tryz.func147,Tryz.ntmps147
  go_wp2
  go_ret;exact ⟨rfl,rfl⟩
 ·go_enter Tryz.func147,Tryz.ntmps147
  go_wp2
  go_ret;exact ⟨rfl,rfl⟩
 ·go_enter Tryz.func147,Tryz.ntmps147
  go_wp2
  go_ret;exact ⟨rfl,rfl⟩
 ·go_enter Tryz.func147,Tryz.ntmps147
  go_wp2
  go_ret;exact ⟨rfl,rfl⟩
 ·go_enter Tryz.func147,Tryz.ntmps147
  go_wp2
  go_ret;exact ⟨rfl,rfl⟩
 ·go_enter Tryz.func147,Tryz.ntmps147
  go_wp2
  go_ret;exact ⟨rfl,rfl⟩
 ·go_enter Tryz.func147,Tryz.ntmps147
  go_wp2
  go_ret;exact ⟨rfl,rfl⟩
 ·go_enter Tryz.func147,Tryz.ntmps147
  go_wp2
  go_ret;exact ⟨rfl,rfl⟩
 ·go_enter Tryz.func147,Tryz.ntmps147
  go_wp2
  go_ret;exact ⟨rfl,rfl⟩
 ·go_enter Tryz.func147,Tryz.ntmps147
  go_wp2
  go_ret;exact ⟨rfl,rfl⟩
 ·go_enter Tryz.func147,Tryz.ntmps147
  go_wp2
  go_ret;exact ⟨rfl,rfl⟩
 ·go_enter Tryz.func147,Tryz.ntmps147
  go_wp2
  go_ret;exact ⟨rfl,rfl⟩
 ·go_enter Tryz.func147,Tryz.ntmps147
  go_wp2
  go_ret;exact ⟨rfl,rfl⟩
 ·go_enter Tryz.func147,Tryz.ntmps147
  go_wp2
  go_ret;exact ⟨rfl,rfl⟩
 ·have b:madeP k = -1:=by
   unfold madeP;rw [if_neg (by omega),if_neg (by omega),if_neg (by omega),if_neg a]
  have t:=Kz b;have v:(k==1)=false:=by rw [Kaj];exact c
  have x:(k==2)=false:=by rw [Kaj];exact d
  have y:(k==3)=false:=by rw [Kaj];exact g
  have z:(k==4)=false:=by rw [Kaj];exact h
  have B:(k==5)=false:=by rw [Kaj];exact i
  have C:(k==6)=false:=by rw [Kaj];exact j
  have D:(k==7)=false:=by rw [Kaj];exact l
  have E:(k==8)=false:=by rw [Kaj];exact m
  have F:(k==9)=false:=by rw [Kaj];exact n
  have H:(k==10)=false:=by rw [Kaj];exact p
  have I:(k==11)=false:=by rw [Kaj];exact q
  have J:(k==12)=false:=by rw [Kaj];exact r
  have L:(k==13)=false:=by rw [Kaj];exact s
  have M:(k==14)=false:=by rw [Kaj];exact a
  clear b
  go_enter Tryz.func147,Tryz.ntmps147
  go_wp2
  go_ret;exact ⟨by rw [t.o];rfl,rfl⟩
end Go.Proofs.YtghlnncfigkkaaaGreatDoor
