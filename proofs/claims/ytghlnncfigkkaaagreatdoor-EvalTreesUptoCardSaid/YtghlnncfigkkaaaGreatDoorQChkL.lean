/-
  The checker as plain functions over trees of integers. No program. Walks of Elems, the program's and the reference's. Walks of made.
-/
import Derived.Test.YtghlnncfigkkaaaGreatDoorQNum
import Derived.Test.YtghlnncfigkkaaaGreatDoorQApp
import Derived.Test.YtghlnncfigkkaaaGreatDoorRows
import Derived.BigQuiet
set_option maxRecDepth 100000
set_option maxHeartbeats 2000000
open Go.Lib (hid)
namespace Go.Proofs.YtghlnncfigkkaaaGreatDoor
set_option linter.unusedVariables false
set_option linter.unusedSimpArgs false
open Go.RowKit
structure EI where
 kind:Int
 name:ByteArray
 num:Nat
 args:List Int
 pos:Int
structure SI where
 kind:Int
 party:Int
 name:ByteArray
 shape:List Int
 expr:Int
 pos:Int
def madeP (k:Int):Int:=
 if k=1∨k=2 then 0
 else if k=3∨(9≤k∧k≤12) then 1
 else if (4≤k∧k≤8)∨k=13 then 2
 else if k=14 then 3
 else -1
def argOk (i:Nat) (a:Int):Bool:=decide (0≤a)&&decide (a<i)
def exOk (i:Nat) (e:EI):Bool:=(madeP e.kind==(e.args.length:Int))&&e.args.all (argOk i)
def smOk (n:Nat) (s:SI):Bool:=s.kind==1||s.kind==3||(s.kind==2&&decide (0≤s.expr)&&decide (s.expr<n))
def exsOk:Nat→List EI→Bool
 | _,[]=>true
 | i,e::es=>exOk i e&&exsOk (i+1) es
def treeP (ss:List SI) (es:List EI):Bool:=exsOk 0 es&&ss.all (smOk es.length)
def Zau:Int→List Int→Int
 | n,[]=>n
 | n,d::r=>if d<1∨16<d then 0 else if 32<n*d then 0 else Zau (n*d) r
def Zad (s:List Int):Int:=if Zau 1 s=0 then 0 else if 2<s.length then 0 else Zau 1 s
def wideP (x y:List Int):List Int × Bool:=if x.length=0 then (y,true) else (x,y.length==0||x==y)
def matP (x y:List Int):List Int × Bool:=
 if x.length=0∨y.length=0∨x.getLastD 0≠y.headD 0 then ([],false) else (x.dropLast++y.tail,true)
def Zab (k:Int) (num:Nat) (x:List (List Int)):List Int × Bool:=
 if k=9 then (x.getD 0 [],decide (num≤63))
 else if k=3∨k=10 then (x.getD 0 [],true)
 else if k=12 then ([],(x.getD 0 []).length==1)
 else if k=4∨k=5∨k=6∨k=8∨k=13 then wideP (x.getD 0 []) (x.getD 1 [])
 else if k=7 then matP (x.getD 0 []) (x.getD 1 [])
 else if k=14 then (x.getD 1 [],(x.getD 1 []==x.getD 2 [])&&((x.getD 0 []).length==0||x.getD 0 []==x.getD 1 []))
 else ([],true)
def markP (es:List EI):Nat→Nat→(Nat→Bool)→(Nat→Bool)
 | _,0,m=>m
 | root,n+1,m=>
  let i:=n
  markP es root n (fun a=>m a||(m i&&((es[i]?.map EI.args).getD []).any fun b=>b==(a:Int)))
def Zac (es:List EI) (root:Nat):Nat→Bool:=markP es root (root+1) (fun a=>a==root)
abbrev Names:=List (ByteArray × List Int)
def findN:Names→ByteArray→Option (List Int)
 | [],_=>none
 | (t,s)::r,n=>if t.toList=n.toList then some s else findN r n
def exprC (e:EI) (shapes:List (List Int)) (names:Names):Sum (List Int) Nat:=
 if e.kind=2 then
  match findN names e.name with
  | none=>.inr 140
  | some s=>.inl s
 else
  let r:=Zab e.kind e.num (e.args.map fun a=>shapes.getD a.toNat [])
  if r.2=false∨Zad r.1=0 then .inr 141 else .inl r.1
def Zay (es:List EI) (m:Nat→Bool) (names:Names):Nat→Nat→List (List Int)→Sum (List (List Int)) (Nat × Int)
 | 0,_,shapes=>.inl shapes
 | n+1,k,shapes=>
  if m k then
   match es[k]? with
   | none=>.inl shapes
   | some e=>
    match exprC e shapes names with
    | .inr c=>.inr (c,e.pos)
    | .inl s=>Zay es m names n (k+1) (shapes.set k s)
  else Zay es m names n (k+1) shapes
def Zaj (es:List EI):List SI→Names→List (List Int)→Nat→Sum (List (List Int)) (Nat × Int)
 | [],_,shapes,_=>.inl shapes
 | s::ss,names,shapes,inputs=>
  let taken:Bool:=(findN names s.name).isSome||s.name.size==0
  if s.kind=1 then
   if (s.party≠0∧s.party≠1)∨Zad s.shape=0 then .inr (141,s.pos)
   else if taken then .inr (140,s.pos)
   else if 8≤inputs then .inr (5,s.pos)
   else Zaj es ss (names++[(s.name,s.shape)]) shapes (inputs+1)
  else if s.kind=2 then
   match Zay es (Zac es s.expr.toNat) names (s.expr.toNat+1) 0 shapes with
   | .inr x=>.inr x
   | .inl shapes'=>
    if taken then .inr (140,s.pos)
    else Zaj es ss (names++[(s.name,shapes'.getD s.expr.toNat [])]) shapes' inputs
  else
   if (findN names s.name).isNone then .inr (140,s.pos)
   else Zaj es ss names shapes inputs
def ZaA (ss:List SI) (es:List EI):Sum (List (List Int)) (Nat × Int):=
 if treeP ss es then Zaj es ss [] (es.map fun _=>[]) 0 else .inr (130,0)
def Zae (ss:List SI) (p:Int):List (List Int):=(ss.filter fun s=>s.kind==1&&s.party==p).map SI.shape
theorem ZbQ:∀ (s:List Int) (n:Int),1≤n→n≤32→0≤Zau n s∧Zau n s≤32
 | [],n,h1,h2=>by unfold Zau;omega
 | d::r,n,h1,h2=>by
  unfold Zau
  split
  ·omega
  ·split
   ·omega
   ·rename_i hd hn
    have hd1:1≤d:=by omega
    have h3:1≤n*d:=Int.le_trans (by omega) (Int.mul_le_mul h1 hd1 (by omega) (by omega))
    exact ZbQ r (n*d) h3 (by omega)
def VI (a:Int):Value:=.int .i64 a
theorem Zbh {l:List Int} (h:Zau 1 l=0):Zad l=0:=by unfold Zad;exact if_pos h
theorem Zfu {l:List Int} {i:Nat} {d:Int} (h:l[i]?=some d) (n:Int):Zau n (l.drop i)=if d<1∨16<d then 0 else if 32<n*d then 0 else Zau (n*d) (l.drop (i+1)):=by
 obtain ⟨hi,hd⟩:=List.getElem?_eq_some_iff.1 h
 rw [List.drop_eq_getElem_cons hi,hd]
 rfl
theorem ZcE (A:Option Addr) (n c:Nat) (l:List Int) (w:World) (hn:n=l.length) (hl:n≤9223372036854775807) (h:Rd w w.heap.size A (l.map VI)):
  Calls Tryz.prog 73 #[.slice A n c] w fun e w'=>e=.returned (.int .i64 (Zad l))∧w=w':=by
 have HN:=hid hn
 have H:=hid h
 obtain ⟨E,hE⟩:∃ E,E=Zau 1 l:=⟨_,rfl⟩
 have HE:=hid hE
 clear h hn hE
 go_enter Tryz.func73,Tryz.ntmps73
 go_wp2
 go_loop [3,8] (fun pv iv=>∃ (i:Nat) (p:Int),i≤n∧iv=.int .i64 i∧pv=.int .i64 p∧1≤p∧p≤32∧E=Zau p (l.drop i)) (fun _ iv=>n-(intOf iv).toNat)
 case atStart=>exact ⟨0,1,by omega,rfl,rfl,by omega,by omega,by rw [HE.out];rfl⟩
 case round=>
  obtain ⟨i,p,hi,rfl,rfl,hp1,hp2,hr⟩:=hrel
  by_cases hlt:i<n
  ·have ht:l[i]?=some (l[i]'(by rw [←HN.out];exact hlt)):=List.getElem?_eq_getElem _
   obtain ⟨d,hd⟩:∃ d,d=l[i]'(by rw [←HN.out];exact hlt):=⟨_,rfl⟩
   rw [←hd] at ht
   have ht2:(l.map VI)[i]?=some (VI d):=by rw [List.getElem?_map,ht];rfl
   obtain ⟨b,o,rfl,hbl,c0⟩:=H.out.at_ ht2
   have c0':w.cell? ⟨b,o+i,none⟩=some (.int .i64 d):=c0
   rw [Zfu ht] at hr
   have i0:(0:Int)≤(i:Int):=by omega
   have i1:(i:Int)<(n:Int):=by omega
   have HR:=hid hr
   clear hr ht ht2 hd c0
   by_cases h1:d<1
   ·have q1:decide (d<1)=true:=by simp;omega
    have HZ:=hid (show Zad l=0 from Zbh (by rw [←HE.out,HR.out,if_pos (Or.inl h1)]))
    clear h1
    go_wp2
    go_ret
    exact ⟨by rw [HZ.out];rfl,rfl⟩
   ·have q1:decide (d<1)=false:=by simp;omega
    by_cases h2:16<d
    ·have q2:decide ((16:Int)<d)=true:=by simp;omega
     have HZ:=hid (show Zad l=0 from Zbh (by rw [←HE.out,HR.out,if_pos (Or.inr h2)]))
     clear h1 h2
     go_wp2
     go_ret
     exact ⟨by rw [HZ.out];rfl,rfl⟩
    ·have q2:decide ((16:Int)<d)=false:=by simp;omega
     obtain ⟨P,hP⟩:∃ P,P=p*d:=⟨_,rfl⟩
     have hP1:1≤P:=by rw [hP];exact Int.le_trans (by omega) (Int.mul_le_mul hp1 (show (1:Int)≤d by omega) (by omega) (by omega))
     have hP2:P≤512:=by rw [hP];exact Int.le_trans (Int.mul_le_mul hp2 (show d≤16 by omega) (by omega) (by omega)) (by omega)
     have hPe:p*d=P:=hP.symm
     have HR2:=hid (show E=if 32<P then 0 else Zau P (l.drop (i+1)) from by rw [HR.out,if_neg (by omega),hPe])
     clear h1 h2 hP HR
     by_cases h3:32<P
     ·have q3:decide ((32:Int)<P)=true:=by simp;omega
      have HZ:=hid (show Zad l=0 from Zbh (by rw [←HE.out,HR2.out,if_pos h3]))
      clear h3
      go_wp2
      go_ret
      exact ⟨by rw [HZ.out];rfl,rfl⟩
     ·have q3:decide ((32:Int)<P)=false:=by simp;omega
      have HR3:=hid (show E=Zau P (l.drop (i+1)) from by rw [HR2.out,if_neg h3])
      go_wp2
      exact ⟨⟨i+1,P,by omega,rfl,rfl,by omega,by omega,HR3.out⟩,by simp [intOf];omega⟩
  ·obtain rfl:n=i:=by omega
   have hEp:E=p:=by rw [hr,HN.out,List.drop_length];rfl
   have HP:=hid (show Zad l=if 2<n then 0 else p from by
    unfold Zad
    rw [←HE.out,hEp,if_neg (by omega),←HN.out])
   clear hr hEp
   by_cases h2:2<n
   ·have q1:decide ((2:Int)<(n:Int))=true:=by simp;omega
    go_wp2
    go_ret
    exact ⟨by rw [HP.out,if_pos h2];rfl,rfl⟩
   ·have q1:decide ((2:Int)<(n:Int))=false:=by simp;omega
    go_wp2
    go_ret
    exact ⟨by rw [HP.out,if_neg h2];rfl,rfl⟩
def ZbD:Int→List Int→Int
 | n,[]=>n
 | n,d::r=>if d<1∨16<d then 0 else ZbD (n*d) r
theorem Zeq:∀ (s:List Int) (n:Int),32<n→ZbD n s=0∨32<ZbD n s
 | [],n,h=>.inr h
 | d::r,n,h=>by
  unfold ZbD
  split
  ·exact .inl rfl
  ·rename_i hd
   have h1:1≤d:=by omega
   have h2:n*1≤n*d:=Int.mul_le_mul_of_nonneg_left h1 (by omega)
   exact Zeq r (n*d) (by omega)
theorem Zfv:∀ (s:List Int) (n:Int),1≤n→n≤32→Zau n s=if 32<ZbD n s then 0 else ZbD n s
 | [],n,h1,h2=>by unfold Zau ZbD;rw [if_neg (by omega)]
 | d::r,n,h1,h2=>by
  unfold Zau ZbD
  split
  ·rw [if_neg (by omega)]
  ·rename_i hd
   have hd1:1≤d:=by omega
   have h3:1≤n*d:=Int.le_trans (by omega) (Int.mul_le_mul h1 hd1 (by omega) (by omega))
   split
   ·rename_i hb
    rcases Zeq r (n*d) hb with h | h
    ·rw [h,if_neg (by omega)]
    ·rw [if_pos h]
   ·exact Zfv r (n*d) h3 (by omega)
theorem Zga {l:List Int} {i:Nat} {d:Int} (h:l[i]?=some d) (n:Int):ZbD n (l.drop i)=if d<1∨16<d then 0 else ZbD (n*d) (l.drop (i+1)):=by
 obtain ⟨hi,hd⟩:=List.getElem?_eq_some_iff.1 h
 rw [List.drop_eq_getElem_cons hi,hd]
 rfl
theorem ZbE (A:Option Addr) (n c:Nat) (l:List Int) (w:World) (hn:n=l.length) (hl:n≤9223372036854775807) (h:Rd w w.heap.size A (l.map VI)):
  Calls Tryz.prog 58 #[.slice A n c] w fun e w'=>e=.returned (.int .i64 (Zad l))∧w=w':=by
 have HN:=hid hn
 have H:=hid h
 by_cases h2:2<n
 ·have q1:decide ((2:Int)<(n:Int))=true:=by simp;omega
  have HP:=hid (show Zad l=0 from by unfold Zad;rw [if_pos (show 2<l.length by omega)];split <;> rfl)
  clear h hn h2
  go_enter Tryz.func58,Tryz.ntmps58
  go_wp2
  go_ret
  exact ⟨by rw [HP.out];rfl,rfl⟩
 ·have q1:decide ((2:Int)<(n:Int))=false:=by simp;omega
  obtain ⟨E,hE⟩:∃ E,E=ZbD 1 l:=⟨_,rfl⟩
  have HE:=hid hE
  have HP:=hid (show Zad l=if 32<E then 0 else E from by
   unfold Zad
   rw [hE,←Zfv l 1 (by omega) (by omega),if_neg (show ¬ 2<l.length by omega)]
   split
   ·rename_i h0;exact h0.symm
   ·rfl)
  have hn2:n≤2:=by omega
  clear h hn hE h2
  go_enter Tryz.func58,Tryz.ntmps58
  go_wp2
  go_loop [3,10] (fun pv iv=>∃ (i:Nat) (p:Int),i≤n∧iv=.int .i64 i∧pv=.int .i64 p∧1≤p∧p≤16 ^ i∧E=ZbD p (l.drop i)) (fun _ iv=>n-(intOf iv).toNat)
  case atStart=>exact ⟨0,1,by omega,rfl,rfl,by omega,by omega,by rw [HE.out];rfl⟩
  case round=>
   obtain ⟨i,p,hi,rfl,rfl,hp1,hp2,hr⟩:=hrel
   have hp3:p≤256:=Int.le_trans hp2 (by
    rcases (show i=0∨i=1∨i=2 by omega) with rfl | rfl | rfl <;> decide)
   by_cases hlt:i<n
   ·have ht:l[i]?=some (l[i]'(by rw [←HN.out];exact hlt)):=List.getElem?_eq_getElem _
    obtain ⟨d,hd⟩:∃ d,d=l[i]'(by rw [←HN.out];exact hlt):=⟨_,rfl⟩
    rw [←hd] at ht
    have ht2:(l.map VI)[i]?=some (VI d):=by rw [List.getElem?_map,ht];rfl
    obtain ⟨b,o,rfl,hbl,c0⟩:=H.out.at_ ht2
    have c0':w.cell? ⟨b,o+i,none⟩=some (.int .i64 d):=c0
    rw [Zga ht] at hr
    have i0:(0:Int)≤(i:Int):=by omega
    have i1:(i:Int)<(n:Int):=by omega
    have HR:=hid hr
    have HP2:=hid hp2
    clear hr ht ht2 hd c0 hp2
    by_cases h1:d<1
    ·have q2:decide (d<1)=true:=by simp;omega
     have HZ:=hid (show Zad l=0 from by rw [HP.out,HR.out,if_pos (Or.inl h1)];rfl)
     clear h1
     go_wp2
     go_ret
     exact ⟨by rw [HZ.out];rfl,rfl⟩
    ·have q2:decide (d<1)=false:=by simp;omega
     by_cases h2:16<d
     ·have q3:decide ((16:Int)<d)=true:=by simp;omega
      have HZ:=hid (show Zad l=0 from by rw [HP.out,HR.out,if_pos (Or.inr h2)];rfl)
      clear h1 h2
      go_wp2
      go_ret
      exact ⟨by rw [HZ.out];rfl,rfl⟩
     ·have q3:decide ((16:Int)<d)=false:=by simp;omega
      obtain ⟨P,hP⟩:∃ P,P=p*d:=⟨_,rfl⟩
      have hP1:1≤P:=by rw [hP];exact Int.le_trans (by omega) (Int.mul_le_mul hp1 (show (1:Int)≤d by omega) (by omega) (by omega))
      have hP2:P≤4096:=by rw [hP];exact Int.le_trans (Int.mul_le_mul hp3 (show d≤16 by omega) (by omega) (by omega)) (by omega)
      have hPi:P≤16 ^ (i+1):=by
       rw [hP,Int.pow_succ]
       exact Int.mul_le_mul HP2.out (show d≤16 by omega) (by omega) (Int.le_trans (by omega) HP2.out)
      have hPe:p*d=P:=hP.symm
      have HR2:=hid (show E=ZbD P (l.drop (i+1)) from by rw [HR.out,if_neg (by omega),hPe])
      have HPI:=hid hPi
      clear h1 h2 hP HR hPi
      go_wp2
      exact ⟨⟨i+1,P,by omega,rfl,rfl,by omega,HPI.out,HR2.out⟩,by simp [intOf];omega⟩
   ·obtain rfl:n=i:=by omega
    have hEp:E=p:=by rw [hr,HN.out,List.drop_length];rfl
    have HP3:=hid (show Zad l=if 32<p then 0 else p from by rw [HP.out,hEp])
    clear hr hEp hp2
    by_cases h3:32<p
    ·have q2:decide ((32:Int)<p)=true:=by simp;omega
     go_wp2
     go_ret
     exact ⟨by rw [HP3.out,if_pos h3];rfl,rfl⟩
    ·have q2:decide ((32:Int)<p)=false:=by simp;omega
     go_wp2
     go_ret
     exact ⟨by rw [HP3.out,if_neg (by omega)];rfl,rfl⟩
theorem ZbF (k:Int):k=1∨k=2∨k=3∨k=4∨k=5∨k=6∨k=7∨k=8∨k=9∨k=10∨k=11∨k=12∨k=13∨k=14∨(k≠1∧k≠2∧k≠3∧k≠4∧k≠5∧k≠6∧k≠7∧k≠8∧k≠9∧k≠10∧k≠11∧k≠12∧k≠13∧k≠14):=by omega
theorem Zkn (k:Int) (w:World):Calls Tryz.prog 147 #[.int .i64 k] w fun e w'=>e=.returned (.int .i64 (madeP k))∧w=w':=by
 rcases ZbF k with rfl | rfl | rfl | rfl | rfl | rfl | rfl | rfl | rfl | rfl | rfl | rfl | rfl | rfl | ⟨h1,h2,h3,h4,h5,h6,h7,h8,h9,h10,h11,h12,h13,h14⟩
 ·go_enter Tryz.func147,Tryz.ntmps147
  go_wp2
  go_ret
  exact ⟨rfl,rfl⟩
 ·go_enter Tryz.func147,Tryz.ntmps147
  go_wp2
  go_ret
  exact ⟨rfl,rfl⟩
 ·go_enter Tryz.func147,Tryz.ntmps147
  go_wp2
  go_ret
  exact ⟨rfl,rfl⟩
 ·go_enter Tryz.func147,Tryz.ntmps147
  go_wp2
  go_ret
  exact ⟨rfl,rfl⟩
 ·go_enter Tryz.func147,Tryz.ntmps147
  go_wp2
  go_ret
  exact ⟨rfl,rfl⟩
 ·go_enter Tryz.func147,Tryz.ntmps147
  go_wp2
  go_ret
  exact ⟨rfl,rfl⟩
 ·go_enter Tryz.func147,Tryz.ntmps147
  go_wp2
  go_ret
  exact ⟨rfl,rfl⟩
 ·go_enter Tryz.func147,Tryz.ntmps147
  go_wp2
  go_ret
  exact ⟨rfl,rfl⟩
 ·go_enter Tryz.func147,Tryz.ntmps147
  go_wp2
  go_ret
  exact ⟨rfl,rfl⟩
 ·go_enter Tryz.func147,Tryz.ntmps147
  go_wp2
  go_ret
  exact ⟨rfl,rfl⟩
 ·go_enter Tryz.func147,Tryz.ntmps147
  go_wp2
  go_ret
  exact ⟨rfl,rfl⟩
 ·go_enter Tryz.func147,Tryz.ntmps147
  go_wp2
  go_ret
  exact ⟨rfl,rfl⟩
 ·go_enter Tryz.func147,Tryz.ntmps147
  go_wp2
  go_ret
  exact ⟨rfl,rfl⟩
 ·go_enter Tryz.func147,Tryz.ntmps147
  go_wp2
  go_ret
  exact ⟨rfl,rfl⟩
 ·have hm:madeP k = -1:=by
   unfold madeP
   rw [if_neg (by omega),if_neg (by omega),if_neg (by omega),if_neg h14]
  have HM:=hid hm
  have q1:(k==1)=false:=by rw [beq_eq_false_iff_ne];exact h1
  have q2:(k==2)=false:=by rw [beq_eq_false_iff_ne];exact h2
  have q3:(k==3)=false:=by rw [beq_eq_false_iff_ne];exact h3
  have q4:(k==4)=false:=by rw [beq_eq_false_iff_ne];exact h4
  have q5:(k==5)=false:=by rw [beq_eq_false_iff_ne];exact h5
  have q6:(k==6)=false:=by rw [beq_eq_false_iff_ne];exact h6
  have q7:(k==7)=false:=by rw [beq_eq_false_iff_ne];exact h7
  have q8:(k==8)=false:=by rw [beq_eq_false_iff_ne];exact h8
  have q9:(k==9)=false:=by rw [beq_eq_false_iff_ne];exact h9
  have q10:(k==10)=false:=by rw [beq_eq_false_iff_ne];exact h10
  have q11:(k==11)=false:=by rw [beq_eq_false_iff_ne];exact h11
  have q12:(k==12)=false:=by rw [beq_eq_false_iff_ne];exact h12
  have q13:(k==13)=false:=by rw [beq_eq_false_iff_ne];exact h13
  have q14:(k==14)=false:=by rw [beq_eq_false_iff_ne];exact h14
  clear hm
  go_enter Tryz.func147,Tryz.ntmps147
  go_wp2
  go_ret
  exact ⟨by rw [HM.out];rfl,rfl⟩
theorem Ziq (k:Int) (w:World):Calls Tryz.prog 162 #[.int .i64 k] w fun e w'=>e=.returned (.int .i64 (madeP k))∧w=w':=by
 rcases ZbF k with rfl | rfl | rfl | rfl | rfl | rfl | rfl | rfl | rfl | rfl | rfl | rfl | rfl | rfl | ⟨h1,h2,h3,h4,h5,h6,h7,h8,h9,h10,h11,h12,h13,h14⟩
 ·go_enter Tryz.func162,Tryz.ntmps162
  go_wp2
  go_ret
  exact ⟨rfl,rfl⟩
 ·go_enter Tryz.func162,Tryz.ntmps162
  go_wp2
  go_ret
  exact ⟨rfl,rfl⟩
 ·go_enter Tryz.func162,Tryz.ntmps162
  go_wp2
  go_ret
  exact ⟨rfl,rfl⟩
 ·go_enter Tryz.func162,Tryz.ntmps162
  go_wp2
  go_ret
  exact ⟨rfl,rfl⟩
 ·go_enter Tryz.func162,Tryz.ntmps162
  go_wp2
  go_ret
  exact ⟨rfl,rfl⟩
 ·go_enter Tryz.func162,Tryz.ntmps162
  go_wp2
  go_ret
  exact ⟨rfl,rfl⟩
 ·go_enter Tryz.func162,Tryz.ntmps162
  go_wp2
  go_ret
  exact ⟨rfl,rfl⟩
 ·go_enter Tryz.func162,Tryz.ntmps162
  go_wp2
  go_ret
  exact ⟨rfl,rfl⟩
 ·go_enter Tryz.func162,Tryz.ntmps162
  go_wp2
  go_ret
  exact ⟨rfl,rfl⟩
 ·go_enter Tryz.func162,Tryz.ntmps162
  go_wp2
  go_ret
  exact ⟨rfl,rfl⟩
 ·go_enter Tryz.func162,Tryz.ntmps162
  go_wp2
  go_ret
  exact ⟨rfl,rfl⟩
 ·go_enter Tryz.func162,Tryz.ntmps162
  go_wp2
  go_ret
  exact ⟨rfl,rfl⟩
 ·go_enter Tryz.func162,Tryz.ntmps162
  go_wp2
  go_ret
  exact ⟨rfl,rfl⟩
 ·go_enter Tryz.func162,Tryz.ntmps162
  go_wp2
  go_ret
  exact ⟨rfl,rfl⟩
 ·have hm:madeP k = -1:=by
   unfold madeP
   rw [if_neg (by omega),if_neg (by omega),if_neg (by omega),if_neg h14]
  have HM:=hid hm
  have q1:(k==1)=false:=by rw [beq_eq_false_iff_ne];exact h1
  have q2:(k==2)=false:=by rw [beq_eq_false_iff_ne];exact h2
  have q3:(k==3)=false:=by rw [beq_eq_false_iff_ne];exact h3
  have q4:(k==4)=false:=by rw [beq_eq_false_iff_ne];exact h4
  have q5:(k==5)=false:=by rw [beq_eq_false_iff_ne];exact h5
  have q6:(k==6)=false:=by rw [beq_eq_false_iff_ne];exact h6
  have q7:(k==7)=false:=by rw [beq_eq_false_iff_ne];exact h7
  have q8:(k==8)=false:=by rw [beq_eq_false_iff_ne];exact h8
  have q9:(k==9)=false:=by rw [beq_eq_false_iff_ne];exact h9
  have q10:(k==10)=false:=by rw [beq_eq_false_iff_ne];exact h10
  have q11:(k==11)=false:=by rw [beq_eq_false_iff_ne];exact h11
  have q12:(k==12)=false:=by rw [beq_eq_false_iff_ne];exact h12
  have q13:(k==13)=false:=by rw [beq_eq_false_iff_ne];exact h13
  have q14:(k==14)=false:=by rw [beq_eq_false_iff_ne];exact h14
  clear hm
  by_cases hk:k≤0
  ·have a1:decide ((9:Int)≤k)=false:=by simp;omega
   have a2:decide ((4:Int)≤k)=false:=by simp;omega
   go_enter Tryz.func162,Tryz.ntmps162
   go_wp2
   go_ret
   exact ⟨by rw [HM.out];rfl,rfl⟩
  ·have a1:decide ((9:Int)≤k)=true:=by simp;omega
   have a2:decide ((4:Int)≤k)=true:=by simp;omega
   have a3:decide (k≤(12:Int))=false:=by simp;omega
   have a4:decide (k≤(8:Int))=false:=by simp;omega
   go_enter Tryz.func162,Tryz.ntmps162
   go_wp2
   go_ret
   exact ⟨by rw [HM.out];rfl,rfl⟩
end Go.Proofs.YtghlnncfigkkaaaGreatDoor
