/-
 What an expression is made of: the checker's parts, the reference's within.
-/
import Derived.Test.YtghlnncfigkkaaaGreatDoorQChkL
import Derived.Test.YtghlnncfigkkaaaGreatDoorQIs
import Derived.Test.YtghlnncfigkkaaaGreatDoorQChkD
import Derived.Test.YtghlnncfigkkaaaGreatDoorQChkF
import Derived.BigQuiet
import Derived.RegionTactic
import Derived.MapKept
set_option maxRecDepth 100000
set_option maxHeartbeats 4000000
set_option linter.unusedVariables false
set_option linter.unusedSimpArgs false
namespace Go.Proofs.YtghlnncfigkkaaaGreatDoor
open Go.RowKit
def MkB (w:World) (t:TypeId) (g n:Nat) (f:Nat→Value):Prop:=w.heap[g]?=some (.cells ((List.range n).map f).toArray t (0,0))
section
variable {w w':World} {t:TypeId} {g n:Nat} {f:Nat→Value}
theorem MkB.lt (h:MkB w t g n f):g<w.heap.size:=(Kab.1 h).1
theorem MkB.cell (h:MkB w t g n f) {i:Nat} (a:i<n):w.cell? ⟨g,i,none⟩=some (f i):=by
 rw [cell_of_row w g i _ t (0,0) h];simp [a]
theorem MkB.free (h:MkB w t g n f) (k:Nat):w.frozen? ⟨g,k,none⟩=false:=by
 unfold MkB at h;simp [World.frozen?,h]
theorem MkB.set (h:MkB w t g n f) {i:Nat} (k:i<n) (v:Value) (b:Nat→Value) (d:∀ a,b a=if a=i then v else f a):MkB (w.setCell ⟨g,i,none⟩ v) t g n b:=by
 unfold MkB at h ⊢;have e:((List.range n).map f).set i v=(List.range n).map b:=by
  apply List.ext_getElem?
  intro a
  rw [List.getElem?_set]
  by_cases c:i=a
  ·subst c;simp [k,d]
  ·rw [if_neg c]
   by_cases j:a<n
   ·have l:¬ a=i:=fun e=>c e.symm
    simp [j,d,l]
   ·simp [j]
 simp [World.setCell,Array.getElem?_modify,h,e]
theorem MkB.drew (h:MkB w t g n f):MkB w.drew t g n f:=h
theorem MkB.below {B:Nat} (h:MkB w t g n f) (a:Below B w w') (b:g<B):MkB w' t g n f:=(a.block g b).trans h
theorem MkB.next (h:MkB w t g n f) (a:Below w.heap.size w w'):MkB w' t g n f:=h.below a h.lt
theorem Zaf {B:Nat} {a w:World} {g k:Nat} (h:Below B a w) (d:B≤g) (v:Value):Below B a (w.setCell ⟨g,k,none⟩ v):=by
 refine ⟨h.os,h.tape,h.output,by simpa [World.setCell] using h.size,fun b c => ?_⟩
 rw [←h.block b c];simp only [World.setCell,Array.getElem?_modify];split
 ·rename_i e
  have:g=b:=e;omega
 ·rfl
end
def bI (b:Bool):Value:=.int .i64 (if b then 1 else 0)
theorem Zfw (n:Nat) (k:n≤1099511627776) (w:World) (e:Int) (a:e=n):
  (Instr.makeSlice 41 (.int .i64 e) (.int .i64 e)).run Tryz.prog w=.ok (.slice (some ⟨w.heap.size,0,none⟩) n n) (w.alloc (.cells ((List.range n).map fun _=>bI false).toArray 3)):=by
 obtain ⟨b,c,d,h,i⟩:=info_parts ZcB;have j:=run_make (P := Tryz.prog) w 41 3 b (.int .i64 0) Tryz.underlying41 c d .i64 .i64 e e (by omega) (by omega) (by rw [i];omega) (by omega)
 rw [j,a,h];have:(madeCells (Value.int .i64 0).cells ((n:Int).toNat*1))=((List.range n).map fun _=>bI false).toArray:=by
  apply Array.ext';rw [show (Value.int .i64 0).cells=#[Value.int .i64 0] from rfl,toList_madeCells_one]
  simp [bI]
  symm
  rw [List.eq_replicate_iff];simp
 rw [this];rfl
theorem Zd4:∀ (es:List EI) (k i:Nat) (e:EI),exsOk k es=true→es[i]?=some e→exOk (k+i) e=true
 | [],k,i,e,h,he=>by simp at he
 | x::es,k,0,e,h,he=>by
  simp at he;subst he;unfold exsOk at h;rw [Bool.and_eq_true] at h;exact h.1
 | x::es,k,i+1,e,h,he=>by
  unfold exsOk at h;rw [Bool.and_eq_true] at h;have:=Zd4 es (k+1) i e h.2 (by simpa using he)
  rwa [show k+1+i=k+(i+1) by omega] at this
theorem Zc0 {es:List EI} (h:exsOk 0 es=true) {i:Nat} {e:EI} (b:es[i]?=some e) {k:Nat} {d:Int} (c:e.args[k]?=some d):0≤d∧d<(i:Int):=by
 have a:=Zd4 es 0 i e h b;rw [Nat.zero_add] at a;unfold exOk at a;rw [Bool.and_eq_true,List.all_eq_true] at a;have:=a.2 d (Kam c);unfold argOk at this;rw [Bool.and_eq_true] at this;exact ⟨of_decide_eq_true this.1,of_decide_eq_true this.2⟩
theorem Zir (l:List Int) {k a:Nat} (h:l[k]?=some (a:Int)) (x:Nat):(l.take (k+1)).any (fun b=>b==(x:Int))=((l.take k).any (fun b=>b==(x:Int))||decide (x=a)):=by
 obtain ⟨d,e⟩:=Kaf.1 h;rw [List.take_succ_eq_append_getElem d,List.any_append,e];simp only [List.any_cons,List.any_nil,Bool.or_false]
 by_cases c:x=a
 ·subst c;simp
 ·have:((a:Int)==(x:Int))=false:=by rw [Kaj];omega
  rw [this];simp [c]
theorem Zko {l:List Int} {i k:Nat} (h:∀ (j:Nat) (d:Int),l[j]?=some d→d<(i:Int)):(l.take k).any (fun b=>b==(i:Int))=false:=by
 rw [List.any_eq_false]
 intro x a
 obtain ⟨j,c,e⟩:=List.getElem_of_mem (List.mem_of_mem_take a);have:=h j x (by rw [Kad c,e])
 simp;omega
def mrkK (m:Nat→Bool) (i:Nat) (l:List Int) (k:Nat):Nat→Bool:=fun a=>m a||(m i&&(l.take k).any fun b=>b==(a:Int))
theorem ZcF (m:Nat→Bool) (i:Nat) (l:List Int):mrkK m i l 0=m:=by
 funext a
 unfold mrkK;simp
theorem ZcG {m:Nat→Bool} {i k:Nat} {l:List Int} (h:∀ (j:Nat) (d:Int),l[j]?=some d→d<(i:Int)):mrkK m i l k i=m i:=by
 unfold mrkK;rw [Zko h];simp
theorem ZcH (m:Nat→Bool) (i:Nat) (l:List Int) {k a:Nat} (h:l[k]?=some (a:Int)) (x:Nat):mrkK m i l (k+1) x=if x=a then (mrkK m i l k a||m i) else mrkK m i l k x:=by
 unfold mrkK;rw [Zir l h]
 by_cases b:x=a
 ·subst b;rw [if_pos rfl]
  cases m x <;> cases m i <;> simp
 ·rw [if_neg b];simp [b]
theorem Zbv {es:List EI} {root i:Nat} {e:EI} (c:es[i]?=some e) (m:Nat→Bool):markP es root (i+1) m=markP es root i (mrkK m i e.args e.args.length):=by
 show markP es root i (fun a=>m a||(m i&&((es[i]?.map EI.args).getD []).any fun b=>b==(a:Int)))=_
 rw [c];unfold mrkK;rw [List.take_length];rfl
theorem Zis (cb:Nat) (EA:Option Addr) (ne ec:Nat) (es:List EI) (root:Nat) (w:World) (Y:ne=es.length) (f0:root<ne) (f1:ne≤100000) (Z:RdEI w w.heap.size EA es)
  (c8:cb<w.heap.size) (a2:w.cell? ⟨cb,1,none⟩=some (.slice EA ne ec)) (a3:exsOk 0 es=true):
  Calls Tryz.prog 151 #[.pointer (some ⟨cb,0,none⟩),.int .i64 root] w fun e w'=>e=.returned (.slice (some ⟨w.heap.size,0,none⟩) (root+1) (root+1))∧MkB w' 3 w.heap.size (root+1) (fun i=>bI (Zac es root i))∧Below w.heap.size w w':=by
 have a4:=Kz Y;have M:=Kz Z;have c9:=Kz a3;have d1:=Kz (fun W (F:Below w.heap.size w W)=>(F.cell (p:=⟨cb,1,none⟩) c8).trans a2)
 obtain ⟨N,H⟩:=Ky (w.alloc (.cells ((List.range (root+1)).map fun _=>bI false).toArray 3))
 have I:MkB N 3 w.heap.size (root+1) (fun _=>bI false):=by rw [H];exact Kac w _
 have a5:=Kv H;have a6:=Kz I;have a7:=Kz a5;have d2:N.frozen? ⟨w.heap.size,root,none⟩=false:=I.free root;have d3:(0:Int)≤(root:Int):=by omega
 have d4:(root:Int)<((root+1:Nat):Int):=by omega
 have d5:=I.cell (i:=root) (by omega)
 have d6:(Instr.makeSlice 41 (.int .i64 ((root:Int)+1)) (.int .i64 ((root:Int)+1))).run Tryz.prog w=.ok (.slice (some ⟨w.heap.size,0,none⟩) (root+1) (root+1)) N:=by
  rw [H];exact Zfw (root+1) (by omega) w ((root:Int)+1) (by simp)
 clear H I a5 Y Z a3 a2
 go_enter Tryz.func151,Tryz.ntmps151
 go_wp2
 have a8:=Kz (a6.o.set (i:=root) (by omega) (.int .i64 1) (fun a=>bI (a==root)) (fun a=>by
  by_cases a9:a=root
  ·subst a9;simp [bI]
  ·simp [bI,a9]))
 have b0:=Kz (Zaf (k:=root) a7.o (Kag _) (.int .i64 1));clear d2 d5 d6 a6 a7 d3 d4
 go_loopw [6] (fun O wr=>(∃ (j:Nat) (m:Nat→Bool),j≤root+1∧O=.int .i64 ((j:Int)-1)∧Zac es root=markP es root j m∧MkB wr 3 w.heap.size (root+1) (fun a=>bI (m a)))∧Below w.heap.size w wr) (fun O _=>(intOf O+1).toNat)
 case atStart=>exact ⟨⟨root+1,fun a=>a==root,Kag _,(by rw [show ((root+1:Nat):Int)-1=(root:Int) by omega]),rfl,a8.o⟩,b0.o⟩
 case round=>
  clear a8 b0;obtain ⟨⟨j,m,P,rfl,b1,s⟩,z⟩:=hrel;have C:=Kz b1;have q:=Kz s;have l:=Kz z;clear b1 s z
  match j,P,C with
  | 0,P,C=>
   rw [show (((0:Nat):Int)-1) = -1 by omega]
   go_wp2
   go_ret;exact ⟨rfl,by rw [C.o];exact q.o,l.o⟩
  | i+1,P,C=>
   rw [show (((i+1:Nat):Int)-1)=(i:Int) by omega]
   have h:es[i]?=some (es[i]'(by rw [←a4.o];omega)):=Kad _
   obtain ⟨d,J⟩:=Ky (es[i]'(by rw [←a4.o];omega))
   rw [←J] at h;have b3:=Kz h;obtain ⟨b,o,rfl,f2,c0,c1,c2,⟨d7,f5,c3,b5,b6,-⟩,c4⟩:=(M.o.below l.o).at_ h;have d8:=d1.o _ l.o;have i0:(0:Int)≤(i:Int):=by omega
   have i1:(i:Int)<(ne:Int):=by omega
   obtain ⟨f6,f7,f8,c,f9⟩:=d;dsimp only at c3 b5 b6;obtain ⟨r,Q⟩:=Ky c.length;rw [←Q] at c3 b6;have R:=Kz Q;have d9:=Kz (show ∀ W,Below w.heap.size w W→Rd W w.heap.size d7 (c.map VI) from fun W F=>by
    obtain ⟨b2,o2,D,_,_,_,_,⟨A2,c2,f3,e0,_⟩,_⟩:=(M.o.below F).at_ h;injection D with D
    injection D with D e3 _
    subst D e3;obtain ⟨b4,o4,E,b7,_,_,_,⟨A4,g0,f4,g1,_⟩,_⟩:=M.o.at_ h;injection E with E
    injection E with E e5 _
    subst E e5;have:(W.cell? ⟨b,o+i*5+3,none⟩)=wr.cell? ⟨b,o+i*5+3,none⟩:=(F.cell (p:=⟨b,_,none⟩) b7).trans (l.o.cell (p:=⟨b,_,none⟩) b7).symm;rw [f3,c3] at this;injection this with this
    injection this with this _ _
    rw [←this];exact e0)
   clear h J b5 c0 c1 c2 c4 Q
   go_wp2
   have b8:=Kz (fun (k:Nat) (x:Int) (L:c[k]?=some x)=>Zc0 c9.o b3.o L)
   clear d8 c3 i0 i1
   go_loopw [30] (fun S wr=>(∃ k:Nat,k≤r∧S=.int .i64 k∧MkB wr 3 w.heap.size (root+1) (fun a=>bI (mrkK m i c k a)))∧Below w.heap.size w wr) (fun S _=>r-(intOf S).toNat)
   case atStart=>exact ⟨⟨0,by omega,rfl,by rw [ZcF];exact q.o⟩,l.o⟩
   case round=>
    clear q l;obtain ⟨⟨k,e1,rfl,s⟩,z⟩:=hrel;have q:=Kz s;have l:=Kz z;clear s z
    by_cases T:k<r
    ·have h:c[k]?=some (c[k]'(by rw [←R.o];exact T)):=Kad _
     obtain ⟨x,L⟩:=Ky (c[k]'(by rw [←R.o];exact T))
     rw [←L] at h;obtain ⟨x0,x1⟩:=b8.o k x h;obtain ⟨a,rfl⟩:∃ a:Nat,x=(a:Int):=⟨x.toNat,by omega⟩
     have g2:a<i:=by omega
     obtain ⟨b2,o2,rfl,e2,d0⟩:=(d9.o _ l.o).at_ (show (c.map VI)[k]?=some (VI (a:Int)) by rw [Kal,h];rfl)
     unfold VI at d0;have k0:(0:Int)≤(k:Int):=by omega
     have k1:(k:Int)<(r:Int):=by omega
     have a0:(0:Int)≤(a:Int):=by omega
     have a1:(a:Int)<((root+1:Nat):Int):=by omega
     have i0:(0:Int)≤(i:Int):=by omega
     have i1:(i:Int)<((root+1:Nat):Int):=by omega
     have b9:=q.o.cell (i:=a) (by omega)
     have V:=q.o.cell (i:=i) (by omega)
     rw [ZcG (fun j d J=>(b8.o j d J).2)] at V
     have g3:=q.o.free a;have X:=Kz (fun v (e4:v=bI (mrkK m i c k a||m i))=>q.o.drew.set (i:=a) (by omega) v (fun y=>bI (mrkK m i c (k+1) y)) (fun y=>by
      rw [ZcH m i c h y,e4];split <;> rfl))
     have e6:=Kz (fun v=>Zaf (k:=a) l.o.drew (Kag _) v)
     obtain ⟨e7,c6⟩:=Ky (mrkK m i c k a);rw [←c6] at b9 X;obtain ⟨e8,c7⟩:=Ky (m i);rw [←c7] at V X;clear h L c6 c7 e2 x0 x1
     cases e7 <;> cases e8
     all_goals
      simp only [bI,if_true,Bool.false_eq_true,if_false] at b9 V
      go_wp2_with fail
      go_region
      all_goals
       go_wp2
       exact ⟨⟨⟨k+1,by omega,rfl,X.o _ rfl⟩,e6.o _⟩,by simp [intOf];omega⟩
    ·obtain rfl:r=k:=by omega
     have e9:=Kz (show Zac es root=markP es root i (mrkK m i c r) from by rw [C.o,Zbv b3.o,R.o])
     clear e1 T
     go_wp2
     exact ⟨⟨⟨i,_,by omega,rfl,e9.o,q.o⟩,l.o⟩,by simp [intOf]⟩
def findV:List (ByteArray × Value)→ByteArray→Option Value
 | [],_=>none
 | p::r,n=>if n==p.1 then some p.2 else findV r n
def NamM (w:World) (g:Nat) (ns:List (ByteArray × Value)):Prop:=∃ (es:Array MapEntry) (clock:Nat),w.heap[g]?=some (.map es clock)∧es.toList.map (fun e=>(e.key,e.val))=ns.map fun p=>(Value.string p.1,p.2)
theorem Zbx (n:ByteArray):∀ (l:List MapEntry) (ns:List (ByteArray × Value)) (k:Nat),l.map (fun e=>(e.key,e.val))=ns.map (fun p=>(Value.string p.1,p.2)) →
  (findV ns n=none∧Instr.findNow .string (.string n) l k=some none)∨∃ v i,findV ns n=some v∧Instr.findNow .string (.string n) l k=some (some (i,v))
 | [],[],k,_=>.inl ⟨rfl,rfl⟩
 | e::l,p::ns,k,h=>by
  rw [List.map_cons,List.map_cons] at h;injection h with a b
  injection a with c d
  have j:Instr.sameNow .string (.string n) e.key=some (n==p.1):=by rw [c];rfl
  unfold findV Instr.findNow;rw [j]
  cases hn:(n==p.1) with
  | true=>
   simp only [if_true];exact .inr ⟨p.2,k,rfl,by simp [d]⟩
  | false=>
   simp only [Bool.false_eq_true,if_false];exact Zbx n l ns (k+1) b
 | [],p::ns,k,h=>by simp at h
 | e::l,[],k,h=>by simp at h
theorem Zhz (w:World):(zeroValue 41).run Tryz.prog w=.ok (.slice none 0 0) w:=by kernel_rfl
theorem Zbn {w:World} {g:Nat} {ns:List (ByteArray × Value)} (h:NamM w g ns) (n:ByteArray):
  (Instr.lookup 183 (.map (some g)) (.string n) true).run Tryz.prog w=.ok (.tuple #[(findV ns n).getD (.slice none 0 0),.bool (findV ns n).isSome]) w:=by
 obtain ⟨c,j,d,e⟩:=h;unfold Instr.lookup;simp only [Sem.run_bind,run_underlying Tryz.underlying183,Result.andThen_ok,Go.MapKept.run_getObj_map d,Sem.run_pure];rw [Go.MapKept.run_checkKey Tryz.underlying9 (show Go.MapKept.IsKey .string (.string n) from trivial)]
 simp only [Result.andThen_ok];rcases Zbx n c.toList ns 0 e with ⟨a,b⟩ | ⟨v,i,a,b⟩
 ·rw [Go.MapKept.run_findKey Tryz.underlying9 b,a];simp [Sem.run_bind,Zhz,Sem.run_pure]
 ·rw [Go.MapKept.run_findKey Tryz.underlying9 b,a];simp [Sem.run_bind,Sem.run_pure]
def chkN:ByteArray:=⟨#[99,104,101,99,107]⟩
theorem Zb8 (a at_:Int) (w:World) (b:ETyped w):Calls Tryz.prog 94 #[.int .i64 a,.int .i64 at_] w (OutE w [(chkN,at_)] a):=by
 have c:=Kz (ZdE a chkN at_ w b);unfold chkN at c;clear b
 go_enter Tryz.func94,Tryz.ntmps94
 go_wp2_with (go_at_call 53;refine c.o.mono ?_;rintro e w' ⟨v,rfl,d,h⟩)
 go_ret;exact ⟨_,rfl,d,h⟩
def NamR (X:Nat→Prop) (w:World):List (ByteArray × Value)→Names→Prop
 | [],[]=>True
 | p::ps,q::qs=>p.1=q.1∧ShV X w p.2 q.2∧Zad q.2≠0∧NamR X w ps qs
 | _,_=>False
theorem NamR.keep {X:Nat→Prop} {w w':World} (c:KeepX X w w'):∀ {a:List (ByteArray × Value)} {b:Names},NamR X w a b→NamR X w' a b
 | [],[],_=>trivial
 | p::a,q::b,h=>⟨h.1,h.2.1.keep c,h.2.2.1,NamR.keep c h.2.2.2⟩
 | [],_::_,h=>h
 | _::_,[],h=>h
theorem NamR.append {X:Nat→Prop} {w:World} {n:ByteArray} {v:Value} {l:List Int} (c:ShV X w v l) (d:Zad l≠0):∀ {a:List (ByteArray × Value)} {b:Names},NamR X w a b→NamR X w (a++[(n,v)]) (b++[(n,l)])
 | [],[],_=>⟨rfl,c,d,trivial⟩
 | p::a,q::b,h=>⟨h.1,h.2.1,h.2.2.1,NamR.append c d h.2.2.2⟩
 | [],_::_,h=>h.elim
 | _::_,[],h=>h.elim
theorem ZbG (a b:ByteArray):(a==b)=decide (a.toList=b.toList):=by
 rw [ByteArray.toList_eq,ByteArray.toList_eq]
 show (a.data==b.data)=_
 by_cases h:a.data=b.data
 ·rw [h];simp
 ·have c:¬ a.data.toList=b.data.toList:=fun e=>h (Array.ext' e)
  rw [Kaj.2 h,decide_eq_false c]
theorem NamR.find {X:Nat→Prop} {w:World} (n:ByteArray):∀ {a:List (ByteArray × Value)} {b:Names},NamR X w a b →
  (findV a n=none∧findN b n=none)∨∃ v l,findV a n=some v∧findN b n=some l∧ShV X w v l∧Zad l≠0
 | [],[],_=>.inl ⟨rfl,rfl⟩
 | p::a,q::b,h=>by
  obtain ⟨t,l⟩:=q;unfold findV findN;rw [ZbG,h.1]
  by_cases e:t.toList=n.toList
  ·rw [if_pos e];have:decide (n.toList=t.toList)=true:=by simp [e]
   rw [this];exact .inr ⟨p.2,l,rfl,rfl,h.2.1,h.2.2.1⟩
  ·rw [if_neg e];have:decide (n.toList=t.toList)=false:=decide_eq_false fun h=>e h.symm
   rw [this];exact NamR.find n h.2.2.2
 | [],_::_,h=>h.elim
 | _::_,[],h=>h.elim
def ckX (cb g sg:Nat) (k:Nat):Prop:=k=cb∨k=g∨k=sg
structure CkSt (w:World) (B cb g sg:Nat) (SA EA:Option Addr) (ns sc ne ec:Nat) (names:Names) (shapes:List (List Int)):Prop where
 b1:B≤cb
 b2:B≤g
 b3:B≤sg
 n1:cb≠g
 n2:cb≠sg
 n3:g≠sg
 hc:w.heap[cb]?=some (.cells #[.slice SA ns sc,.slice EA ne ec,.map (some g),.slice (some ⟨sg,0,none⟩) ne ne] 185 (0,0))
 hn:∃ nv,NamM w g nv∧NamR (ckX cb g sg) w nv names
 hs:∃ svs:List Value,w.heap[sg]?=some (.cells svs.toArray 41 (0,0))∧svs.length=ne∧shapes.length=ne∧∀ (j:Nat) (v:Value) (l:List Int),svs[j]?=some v→shapes[j]?=some l→ShV (ckX cb g sg) w v l
section
variable {w w':World} {B cb g sg ns sc ne ec:Nat} {SA EA:Option Addr} {names:Names} {shapes:List (List Int)}
theorem CkSt.lt (h:CkSt w B cb g sg SA EA ns sc ne ec names shapes):∀ k,ckX cb g sg k→k<w.heap.size:=by
 intro k b
 rcases b with rfl | rfl | rfl
 ·exact (Kab.1 h.hc).1
 ·obtain ⟨d,⟨e,c,a,_⟩,_⟩:=h.hn;exact (Kab.1 a).1
 ·obtain ⟨i,a,_⟩:=h.hs;exact (Kab.1 a).1
theorem CkSt.ge (h:CkSt w B cb g sg SA EA ns sc ne ec names shapes):∀ k,ckX cb g sg k→B≤k:=by
 intro k a
 rcases a with rfl | rfl | rfl
 ·exact h.b1
 ·exact h.b2
 ·exact h.b3
theorem CkSt.next (h:CkSt w B cb g sg SA EA ns sc ne ec names shapes) (a:Below w.heap.size w w'):CkSt w' B cb g sg SA EA ns sc ne ec names shapes:=by
 have b:=h.lt;obtain ⟨d,e,i,k,m,p,q,⟨r,⟨s,c,x,y⟩,z⟩,A,C,D,E,F⟩:=h;exact ⟨d,e,i,k,m,p,(a.block _ (b _ (.inl rfl))).trans q,⟨r,⟨s,c,(a.block _ (b _ (.inr (.inl rfl)))).trans x,y⟩,z.keep (KeepX.of a)⟩,A,(a.block _ (b _ (.inr (.inr rfl)))).trans C,D,E,fun j v l H I=>(F j v l H I).next a⟩
theorem CkSt.drewN (h:CkSt w B cb g sg SA EA ns sc ne ec names shapes) (q:Nat):CkSt (w.drewN q) B cb g sg SA EA ns sc ne ec names shapes:=h.next (Zaa (Kai _ _) q)
theorem CkSt.shape (h:CkSt w B cb g sg SA EA ns sc ne ec names shapes) {a:Nat} (r:a<ne):∃ A c n,w.cell? ⟨sg,a,none⟩=some (.slice A n c)∧n=(shapes.getD a []).length∧ShV (ckX cb g sg) w (.slice A n c) (shapes.getD a []):=by
 obtain ⟨b,l,s,v,m⟩:=h.hs;have p:b[a]?=some (b[a]'(by omega)):=Kad _
 have d:shapes[a]?=some (shapes[a]'(by omega)):=Kad _
 have i:=m a _ _ p d;have q:shapes.getD a []=shapes[a]'(by omega):=by simp [List.getD_eq_getElem?_getD,d]
 have j:w.cell? ⟨sg,a,none⟩=some (b[a]'(by omega)):=by
  rw [cell_of_row w sg a _ _ (0,0) l];simp
 rw [q];have k:=i;obtain ⟨A,c,e,_⟩:=i;rw [e] at j k;exact ⟨A,c,_,j,rfl,k⟩
theorem CkSt.free (h:CkSt w B cb g sg SA EA ns sc ne ec names shapes) (k:Nat):w.frozen? ⟨sg,k,none⟩=false:=by
 obtain ⟨b,a,_⟩:=h.hs;simp [World.frozen?,a]
theorem CkSt.set (h:CkSt w B cb g sg SA EA ns sc ne ec names shapes) {a:Nat} (T:a<ne) {v:Value} {l:List Int} (y:ShV (ckX cb g sg) w v l):
  CkSt (w.setCell ⟨sg,a,none⟩ v) B cb g sg SA EA ns sc ne ec names (shapes.set a l)∧KeepX (ckX cb g sg) w (w.setCell ⟨sg,a,none⟩ v)∧Below B w (w.setCell ⟨sg,a,none⟩ v):=by
 have q:∀ k,k≠sg→(w.setCell ⟨sg,a,none⟩ v).heap[k]?=w.heap[k]?:=fun k z=>by
  simp only [World.setCell,Array.getElem?_modify];rw [if_neg (fun e=>z e.symm)]
 have i:KeepX (ckX cb g sg) w (w.setCell ⟨sg,a,none⟩ v):=by
  refine ⟨by simp [World.setCell],fun p V A => ?_⟩
  unfold World.cell?;rw [q p.block (fun e=>A (.inr (.inr e)))]
 obtain ⟨C,D,r,E,s,x,F,⟨H,⟨I,c,J,L⟩,M⟩,N,O,P,Q,R⟩:=h;refine ⟨⟨C,D,r,E,s,x,(q cb s).trans F,⟨H,⟨I,c,(q g x).trans J,L⟩,M.keep i⟩,N.set a v,?_,by simpa using P,by simpa using Q,?_⟩,i,Zaf (Kai _ _) r v⟩
 ·simp [World.setCell,Array.getElem?_modify,O]
 ·intro j S m b d
  rw [List.getElem?_set] at b d
  by_cases e:a=j
  ·subst e;rw [if_pos rfl,if_pos (by omega)] at b d
   injection b with b
   injection d with d
   subst b d;exact y.keep i
  ·rw [if_neg e] at b d;exact (R j S m b d).keep i
end
end Go.Proofs.YtghlnncfigkkaaaGreatDoor
