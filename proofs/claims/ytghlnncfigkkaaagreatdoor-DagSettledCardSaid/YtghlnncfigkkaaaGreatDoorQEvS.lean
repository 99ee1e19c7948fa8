/-
 Tensors in memory; the evaluator's state; look-ups and stores of names.
-/
import Derived.Test.YtghlnncfigkkaaaGreatDoorQChkA
import Derived.Test.YtghlnncfigkkaaaGreatDoorQChkV
import Derived.Test.YtghlnncfigkkaaaGreatDoorQLabL
import Derived.Test.YtghlnncfigkkaaaGreatDoorQEvL
import Derived.Test.YtghlnncfigkkaaaGreatDoorQAppN
import Derived.Test.YtghlnncfigkkaaaGreatDoorQChkI
import Derived.BigQuiet
set_option maxRecDepth 100000
set_option maxHeartbeats 2000000
set_option linter.unusedVariables false
set_option linter.unusedSimpArgs false
namespace Go.Proofs.YtghlnncfigkkaaaGreatDoor
open Go.RowKit
def WoV (X:Nat→Prop) (w:World) (v:Value) (l:List UInt64):Prop:=∃ A c,v=.slice A l.length c∧l.length≤c∧c≤9223372036854775807∧RdX X w A (l.map U)
theorem WoV.keep {X:Nat→Prop} {w w':World} {v:Value} {l:List UInt64} (h:WoV X w v l) (a:KeepX X w w'):WoV X w' v l:=by
 obtain ⟨A,c,d,e,f,i⟩:=h;exact ⟨A,c,d,e,f,i.keep a⟩
theorem WoV.next {X:Nat→Prop} {w w':World} {v:Value} {l:List UInt64} (h:WoV X w v l) (a:Below w.heap.size w w'):WoV X w' v l:=h.keep (KeepX.of a)
theorem WoV.nil (X:Nat→Prop) (w:World):WoV X w (.slice none 0 0) []:=⟨none,0,rfl,Kag _,by decide,.inl rfl⟩
def TnV (X:Nat→Prop) (w:World) (sv ev:Value) (t:TN):Prop:=ShV X w sv t.sh∧WoV X w ev t.el
theorem TnV.keep {X:Nat→Prop} {w w':World} {sv ev:Value} {t:TN} (h:TnV X w sv ev t) (a:KeepX X w w'):TnV X w' sv ev t:=⟨h.1.keep a,h.2.keep a⟩
theorem TnV.next {X:Nat→Prop} {w w':World} {sv ev:Value} {t:TN} (h:TnV X w sv ev t) (a:Below w.heap.size w w'):TnV X w' sv ev t:=h.keep (KeepX.of a)
theorem TnV.nil (X:Nat→Prop) (w:World):TnV X w (.slice none 0 0) (.slice none 0 0) zTN:=⟨ShV.nil X w,WoV.nil X w⟩
theorem WoV.one {X:Nat→Prop} {w:World} {v:Value} {l:List UInt64} (h:WoV X w v l):v.oneCell'=true:=by
 obtain ⟨A,c,rfl,_⟩:=h;rfl
theorem ShV.one {X:Nat→Prop} {w:World} {v:Value} {l:List Int} (h:ShV X w v l):v.oneCell'=true:=by
 obtain ⟨A,c,rfl,_⟩:=h;rfl
def NamT (X:Nat→Prop) (w:World):List (ByteArray × Value)→Zah→Prop
 | [],[]=>True
 | p::ps,q::qs=>p.1=q.1∧(∃ sv ev,p.2=.agg #[sv,ev]∧TnV X w sv ev q.2)∧TnOk q.2∧NamT X w ps qs
 | _,_=>False
theorem NamT.keep {X:Nat→Prop} {w w':World} (e:KeepX X w w'):∀ {a:List (ByteArray × Value)} {d:Zah},NamT X w a d→NamT X w' a d
 | [],[],_=>trivial
 | p::a,q::d,⟨h1,⟨sv,ev,h2,h3⟩,h4,h5⟩=>⟨h1,⟨sv,ev,h2,h3.keep e⟩,h4,NamT.keep e h5⟩
 | [],_::_,h=>h
 | _::_,[],h=>h
theorem NamT.append {X:Nat→Prop} {w:World} {n:ByteArray} {sv ev:Value} {t:TN} (e:TnV X w sv ev t) (f:TnOk t):∀ {a:List (ByteArray × Value)} {d:Zah},NamT X w a d→NamT X w (a++[(n,.agg #[sv,ev])]) (d++[(n,t)])
 | [],[],_=>⟨rfl,⟨sv,ev,rfl,e⟩,f,trivial⟩
 | p::a,q::d,h=>⟨h.1,h.2.1,h.2.2.1,NamT.append e f h.2.2.2⟩
 | [],_::_,h=>h.elim
 | _::_,[],h=>h.elim
theorem NamT.ok {X:Nat→Prop} {w:World}:∀ {e:List (ByteArray × Value)} {a:Zah},NamT X w e a→∀ p∈a,TnOk p.2
 | [],[],_=>by intro p f;simp at f
 | p::e,q::a,h=>by
  intro x d
  rcases List.mem_cons.1 d with rfl | d
  ·exact h.2.2.1
  ·exact NamT.ok h.2.2.2 x d
 | [],_::_,h=>h.elim
 | _::_,[],h=>h.elim
theorem NamT.find {X:Nat→Prop} {w:World} (n:ByteArray):∀ {d:List (ByteArray × Value)} {a:Zah},NamT X w d a →
  (findV d n=none∧findN (shN a) n=none)∨∃ sv ev,findV d n=some (.agg #[sv,ev])∧(findN (shN a) n).isSome=true∧TnV X w sv ev (findT a n)∧TnOk (findT a n)
 | [],[],_=>.inl ⟨rfl,rfl⟩
 | p::d,q::a,h=>by
  obtain ⟨t,l⟩:=q;unfold findV findT shN;rw [List.map_cons];unfold findN;rw [ZbG,h.1]
  by_cases e:t.toList=n.toList
  ·rw [if_pos e,if_pos e];have:decide (n.toList=t.toList)=true:=by simp [e]
   rw [this];obtain ⟨sv,ev,f,i⟩:=h.2.1;exact .inr ⟨sv,ev,by rw [f];rfl,rfl,i,h.2.2.1⟩
  ·rw [if_neg e,if_neg e];have:decide (n.toList=t.toList)=false:=decide_eq_false fun h=>e h.symm
   rw [this];exact NamT.find n h.2.2.2
 | [],_::_,h=>h.elim
 | _::_,[],h=>h.elim
theorem ZbS {w:World} {g:Nat} {ns:List (ByteArray × Value)} (h:NamM w g ns) (n:ByteArray) {v:Value} (d:findV ns n=some v):
  (Instr.lookup 111 (.map (some g)) (.string n) false).run Tryz.prog w=.ok v w:=by
 obtain ⟨f,m,j,k⟩:=h;unfold Instr.lookup;simp only [Sem.run_bind,run_underlying Tryz.underlying111,Result.andThen_ok,Go.MapKept.run_getObj_map j,Sem.run_pure];rw [Go.MapKept.run_checkKey Tryz.underlying9 (show Go.MapKept.IsKey .string (.string n) from trivial)]
 simp only [Result.andThen_ok];rcases Zbx n f.toList ns 0 k with ⟨a,e⟩ | ⟨p,i,a,e⟩
 ·rw [d] at a;cases a
 ·rw [d] at a;injection a with a
  subst a;rw [Go.MapKept.run_findKey Tryz.underlying9 e];simp [Sem.run_bind,Sem.run_pure]
theorem Zf8 {w:World} {g:Nat} {ns:List (ByteArray × Value)} (h:NamM w g ns) (n:ByteArray) (v:Value) (m:findV ns n=none):
  ∃ o,∀ W:World,W.heap=w.heap→(Instr.mapUpdate 111 (.map (some g)) (.string n) v).run Tryz.prog W=.ok () { W with heap:=W.heap.setIfInBounds g o }∧NamM { W with heap:=W.heap.setIfInBounds g o } g (ns++[(n,v)]):=by
 obtain ⟨d,a,p,j⟩:=h;refine ⟨.map (d.push { key:=.string n,val:=v,born:=a }) (a+1),fun W q => ?_⟩
 have e:W.heap[g]?=some (.map d a):=by rw [q];exact p
 refine ⟨?_,d.push { key:=.string n,val:=v,born:=a },a+1,(Go.MapKept.heap_set e).1,?_⟩
 ·unfold Instr.mapUpdate;simp only [Sem.run_bind,run_underlying Tryz.underlying111,Result.andThen_ok,Go.MapKept.run_getObj_map e];rw [Go.MapKept.run_checkKey Tryz.underlying9 (show Go.MapKept.IsKey .string (.string n) from trivial)]
  simp only [Result.andThen_ok];rcases Zbx n d.toList ns 0 j with ⟨f,k⟩ | ⟨r,i,f,k⟩
  ·rw [Go.MapKept.run_findKey Tryz.underlying9 k];simp only [Result.andThen_ok];exact Go.MapKept.run_setObj_map _ e
  ·rw [m] at f;cases f
 ·rw [Array.toList_push,List.map_append,List.map_append,j];rfl
def KeepB (X:Nat→Prop) (w w':World):Prop:=w.heap.size≤w'.heap.size∧∀ k,k<w.heap.size→¬ X k→w'.heap[k]?=w.heap[k]?
theorem KeepB.of {X:Nat→Prop} {w w':World} (h:Below w.heap.size w w'):KeepB X w w':=⟨h.size,fun k a _=>h.block k a⟩
theorem KeepB.trans {X:Nat→Prop} {w w' a:World} (h:KeepB X w w') (d:KeepB X w' a):KeepB X w a:=
 ⟨Kah h.1 d.1,fun k e f=>(d.2 k (Kae e h.1) f).trans (h.2 k e f)⟩
def evX (cb g vg:Nat) (Z:List Nat) (k:Nat):Prop:=k=cb∨k=g∨k=vg∨k∈Z
theorem KeepB.xv {w w':World} {cb g vg:Nat} {Z:List Nat} (h:KeepB (fun k=>k=vg) w w'):KeepX (evX cb g vg Z) w w':=⟨h.1,fun p a d=>by unfold World.cell?;rw [h.2 p.block a (fun e=>d (.inr (.inr (.inl e))))]⟩
theorem KeepB.xg {w w':World} {cb g vg:Nat} {Z:List Nat} (h:KeepB (fun k=>k=g) w w'):KeepX (evX cb g vg Z) w w':=⟨h.1,fun p a d=>by unfold World.cell?;rw [h.2 p.block a (fun e=>d (.inr (.inl e)))]⟩
def VRow (X:Nat→Prop) (w:World) (vg ne:Nat) (V:Nat→TN):Prop:=
 ∃ cs:List Value,w.heap[vg]?=some (.cells cs.toArray 43 (0,0))∧cs.length=2*ne∧∀ j,j<ne→∃ sv ev,cs[j*2]?=some sv∧cs[j*2+1]?=some ev∧TnV X w sv ev (V j)
structure EvSt (w:World) (B cb g vg:Nat) (Z:List Nat) (SA EA HA:Option Addr) (ns sc ne ec:Nat) (names:Zah) (V:Nat→TN) (shF:List (List Int)):Prop where
 b1:B≤cb
 b2:B≤g
 b3:B≤vg
 n1:cb≠g
 n2:cb≠vg
 n3:g≠vg
 hz:∀ k,k∈Z→B≤k∧k<w.heap.size∧k≠cb∧k≠g∧k≠vg
 hc:w.heap[cb]?=some (.cells #[.slice SA ns sc,.slice EA ne ec,.map (some g),.slice (some ⟨vg,0,none⟩) ne ne,.slice HA ne ne] 113 (0,0))
 hn:∃ nv,NamM w g nv∧NamT (evX cb g vg Z) w nv names
 hv:VRow (evX cb g vg Z) w vg ne V
 hs:∃ svs:List Value,RdX (evX cb g vg Z) w HA svs∧svs.length=ne∧shF.length=ne∧∀ (j:Nat) (v:Value) (l:List Int),svs[j]?=some v→shF[j]?=some l→ShV (evX cb g vg Z) w v l
section
variable {w w':World} {B cb g vg ns sc ne ec:Nat} {Z:List Nat} {SA EA HA:Option Addr} {names:Zah} {V:Nat→TN} {shF:List (List Int)}
theorem EvSt.lt (h:EvSt w B cb g vg Z SA EA HA ns sc ne ec names V shF):∀ k,evX cb g vg Z k→k<w.heap.size:=by
 intro k a
 rcases a with rfl | rfl | rfl | a
 ·exact (Kab.1 h.hc).1
 ·obtain ⟨e,⟨f,c,d,_⟩,_⟩:=h.hn;exact (Kab.1 d).1
 ·obtain ⟨i,d,_⟩:=h.hv;exact (Kab.1 d).1
 ·exact (h.hz k a).2.1
theorem EvSt.ge (h:EvSt w B cb g vg Z SA EA HA ns sc ne ec names V shF):∀ k,evX cb g vg Z k→B≤k:=by
 intro k a
 rcases a with rfl | rfl | rfl | a
 ·exact h.b1
 ·exact h.b2
 ·exact h.b3
 ·exact (h.hz k a).1
theorem EvSt.keepOf (h:EvSt w B cb g vg Z SA EA HA ns sc ne ec names V shF) (a:KeepX (evX cb g vg Z) w w') (i:w'.heap[cb]?=w.heap[cb]?) (m:w'.heap[g]?=w.heap[g]?) (d:w'.heap[vg]?=w.heap[vg]?):EvSt w' B cb g vg Z SA EA HA ns sc ne ec names V shF:=by
 obtain ⟨p,q,r,s,t,y,e,c,⟨z,⟨C,D,E,F⟩,H⟩,⟨I,J,L,M⟩,N,O,P,Q,R⟩:=h;refine ⟨p,q,r,s,t,y,fun k f=>⟨(e k f).1,Kae (e k f).2.1 a.1,(e k f).2.2⟩,i.trans c,⟨z,⟨C,D,m.trans E,F⟩,H.keep a⟩,⟨I,d.trans J,L,fun j S => ?_⟩,N,O.keep a,P,Q,fun j v l d T=>(R j v l d T).keep a⟩
 obtain ⟨W,Y,e1,e2,e3⟩:=M j S;exact ⟨W,Y,e1,e2,e3.keep a⟩
theorem EvSt.next (h:EvSt w B cb g vg Z SA EA HA ns sc ne ec names V shF) (a:Below w.heap.size w w'):EvSt w' B cb g vg Z SA EA HA ns sc ne ec names V shF:=
 h.keepOf (KeepX.of a) (a.block _ (h.lt _ (.inl rfl))) (a.block _ (h.lt _ (.inr (.inl rfl)))) (a.block _ (h.lt _ (.inr (.inr (.inl rfl)))))
theorem EvSt.val (h:EvSt w B cb g vg Z SA EA HA ns sc ne ec names V shF) {a:Nat} (j:a<ne):∃ A c d e,w.cell? ⟨vg,a*2,none⟩=some (.slice A (V a).sh.length c)∧w.cell? ⟨vg,a*2+1,none⟩=some (.slice d (V a).el.length e)∧TnV (evX cb g vg Z) w (.slice A (V a).sh.length c) (.slice d (V a).el.length e) (V a):=by
 obtain ⟨r,f,s,m⟩:=h.hv;obtain ⟨t,v,p,q,i⟩:=m a j;have k:=i;obtain ⟨⟨A,c,rfl,_⟩,d,e,rfl,_⟩:=k;exact ⟨A,c,d,e,by rw [cell_of_row w vg _ _ _ (0,0) f];simpa using p,by rw [cell_of_row w vg _ _ _ (0,0) f];simpa using q,i⟩
theorem EvSt.shape (h:EvSt w B cb g vg Z SA EA HA ns sc ne ec names V shF) {a:Nat} (t:a<ne):∃ b o A c,HA=some ⟨b,o,none⟩∧w.cell? ⟨b,o+a,none⟩=some (.slice A (shF.getD a []).length c)∧ShV (evX cb g vg Z) w (.slice A (shF.getD a []).length c) (shF.getD a []):=by
 obtain ⟨d,p,v,y,q⟩:=h.hs;have f:d[a]?=some (d[a]'(by omega)):=Kad _
 have i:shF[a]?=some (shF[a]'(by omega)):=Kad _
 have j:=q a _ _ f i;have r:shF.getD a []=shF[a]'(by omega):=by simp [List.getD_eq_getElem?_getD,i]
 obtain ⟨b,o,s,_,k⟩:=p.rd.at_ f;rw [r];have m:=j;obtain ⟨A,c,e,_⟩:=j;rw [e] at k m;exact ⟨b,o,A,c,s,k,m⟩
theorem EvSt.free (h:EvSt w B cb g vg Z SA EA HA ns sc ne ec names V shF) (k:Nat):w.frozen? ⟨vg,k,none⟩=false:=by
 obtain ⟨d,a,_⟩:=h.hv;simp [World.frozen?,a]
theorem EvSt.set (h:EvSt w B cb g vg Z SA EA HA ns sc ne ec names V shF) {a:Nat} (a5:a<ne) {sv ev:Value} {t:TN} (p:TnV (evX cb g vg Z) w sv ev t) {W:World} (f:W=(w.setCell ⟨vg,a*2,none⟩ sv).setCell ⟨vg,a*2+1,none⟩ ev) (s:Nat→TN) (C:∀ j,s j=if j=a then t else V j):
  EvSt W B cb g vg Z SA EA HA ns sc ne ec names s shF∧KeepB (fun k=>k=vg) w W∧Below B w W:=by
 have m:∀ k,k≠vg→W.heap[k]?=w.heap[k]?:=fun k d=>by
  rw [f];simp only [World.setCell,Array.getElem?_modify];rw [if_neg (fun e=>d e.symm),if_neg (fun e=>d e.symm)]
 have q:W.heap.size=w.heap.size:=by rw [f];simp [World.setCell]
 have v:KeepB (fun k=>k=vg) w W:=⟨Nat.le_of_eq q.symm,fun k d D=>m k D⟩
 have i:=v.xv (cb:=cb) (g:=g) (Z:=Z);obtain ⟨E,F,H,I,y,z,r,c,⟨J,⟨L,M,N,O⟩,P⟩,⟨Q,R,S,T⟩,Y,s1,s2,s3,s4⟩:=h;refine ⟨⟨E,F,H,I,y,z,fun k d=>⟨(r k d).1,by rw [q];exact (r k d).2.1,(r k d).2.2⟩,(m cb y).trans c,⟨J,⟨L,M,(m g z).trans N,O⟩,P.keep i⟩,⟨(Q.set (a*2) sv).set (a*2+1) ev,?_,by simpa using S,fun j a0 => ?_⟩,Y,s1.keep i,s2,s3,fun j a1 l p a2=>(s4 j a1 l p a2).keep i⟩,v,?_⟩
 ·rw [f];simp [World.setCell,Array.getElem?_modify,R]
 ·rw [C j]
  by_cases e:j=a
  ·subst e;rw [if_pos rfl];refine ⟨sv,ev,?_,?_,p.keep i⟩
   ·rw [List.getElem?_set_ne (by omega),List.getElem?_set_self (by omega)]
   ·rw [List.getElem?_set_self (by rw [List.length_set];omega)]
  ·rw [if_neg e];obtain ⟨a3,a4,e1,e2,e3⟩:=T j a0;refine ⟨a3,a4,?_,?_,e3.keep i⟩
   ·rw [List.getElem?_set_ne (by omega),List.getElem?_set_ne (by omega)]
    exact e1
   ·rw [List.getElem?_set_ne (by omega),List.getElem?_set_ne (by omega)]
    exact e2
 ·refine ⟨by rw [f];rfl,by rw [f];rfl,by rw [f];rfl,Nat.le_of_eq q.symm,fun k d=>m k (by omega)⟩
theorem EvSt.store (h:EvSt w B cb g vg Z SA EA HA ns sc ne ec names V shF) {n:ByteArray} {sv ev:Value} {t:TN} (D:findN (shN names) n=none) (E:TnV (evX cb g vg Z) w sv ev t) (F:TnOk t):
  ∃ o,∀ W:World,W.heap=w.heap→Below w.heap.size w W→(Instr.mapUpdate 111 (.map (some g)) (.string n) (.agg #[sv,ev])).run Tryz.prog W=.ok () { W with heap:=W.heap.setIfInBounds g o } ∧
   EvSt { W with heap:=W.heap.setIfInBounds g o } B cb g vg Z SA EA HA ns sc ne ec (names++[(n,t)]) V shF∧KeepB (fun k=>k=g) w { W with heap:=W.heap.setIfInBounds g o }∧Below B w { W with heap:=W.heap.setIfInBounds g o }:=by
 obtain ⟨H,I,J,s,L,v,i,M,⟨N,m,y⟩,⟨O,P,Q,R⟩,S,T,Y,s3,s4⟩:=h;have a0:findV N n=none:=by
  rcases y.find n with ⟨h1,_⟩ | ⟨_,_,_,z,_⟩
  ·exact h1
  ·rw [D] at z;cases z
 obtain ⟨o,a1⟩:=Zf8 m n (.agg #[sv,ev]) a0;refine ⟨o,fun W p q => ?_⟩
 obtain ⟨r1,r2⟩:=a1 W p;have f:∀ k,k≠g→({ W with heap:=W.heap.setIfInBounds g o }:World).heap[k]?=w.heap[k]?:=fun k a=>by
  show (W.heap.setIfInBounds g o)[k]?=_
  rw [Array.getElem?_setIfInBounds,if_neg (fun e=>a e.symm),p]
 have r:({ W with heap:=W.heap.setIfInBounds g o }:World).heap.size=w.heap.size:=by
  show (W.heap.setIfInBounds g o).size=_
  rw [Array.size_setIfInBounds,p]
 have C:KeepB (fun k=>k=g) w { W with heap:=W.heap.setIfInBounds g o }:=⟨Nat.le_of_eq r.symm,fun k a a2=>f k a2⟩
 have d:=C.xg (cb:=cb) (vg:=vg) (Z:=Z);refine ⟨r1,⟨H,I,J,s,L,v,fun k a=>⟨(i k a).1,by rw [r];exact (i k a).2.1,(i k a).2.2⟩,(f cb s).trans M,⟨_,r2,(y.keep d).append (E.keep d) F⟩,⟨O,(f vg (fun e=>v e.symm)).trans P,Q,fun j a3 => ?_⟩,S,T.keep d,Y,s3,fun j u a4 a5 m=>(s4 j u a4 a5 m).keep d⟩,C,⟨q.os,q.tape,q.output,Nat.le_of_eq r.symm,fun k a=>f k (by omega)⟩⟩
 obtain ⟨a6,a7,e1,e2,e3⟩:=R j a3;exact ⟨a6,a7,e1,e2,e3.keep d⟩
theorem EvSt.turn (h:EvSt w B cb g vg Z SA EA HA ns sc ne ec names V shF) {Z':List Nat} (S:w.heap.size≤w'.heap.size) (D:∀ k,k<w.heap.size→k ∉ Z→w'.heap[k]?=w.heap[k]?) (M:∀ k,k∈Z'→(k∈Z∨w.heap.size≤k)∧k<w'.heap.size):EvSt w' B cb g vg Z' SA EA HA ns sc ne ec names V shF:=by
 have m:=h.lt;have F:∀ A xs,RdX (evX cb g vg Z) w A xs→RdX (evX cb g vg Z') w' A xs:=by
  intro A xs t
  rcases t with t | ⟨b,o,T,N,y,W⟩
  ·exact .inl t
  ·refine .inr ⟨b,o,T,Kae N S,fun Y => ?_,fun j v H => ?_⟩
   ·rcases Y with e | e | e | e
    ·exact y (.inl e)
    ·exact y (.inr (.inl e))
    ·exact y (.inr (.inr (.inl e)))
    ·rcases (M b e).1 with O | O
     ·exact y (.inr (.inr (.inr O)))
     ·omega
   ·rw [←W j v H];unfold World.cell?;rw [D b N (fun e=>y (.inr (.inr (.inr e))))]
 have I:∀ {v l},ShV (evX cb g vg Z) w v l→ShV (evX cb g vg Z') w' v l:=fun {v l} ⟨A,c,r,s,i,z,d⟩=>⟨A,c,r,s,i,z,F _ _ d⟩
 have P:∀ {v l},WoV (evX cb g vg Z) w v l→WoV (evX cb g vg Z') w' v l:=fun {v l} ⟨A,c,r,s,i,z⟩=>⟨A,c,r,s,i,F _ _ z⟩
 obtain ⟨b1,b2,b3,n1,n2,n3,E,c,⟨a0,⟨a1,a2,m1,m2⟩,t⟩,⟨a3,v1,v2,v3⟩,a4,s1,s2,s3,s4⟩:=h;have a5:∀ {C:List (ByteArray × Value)} {f:Zah},NamT (evX cb g vg Z) w C f→NamT (evX cb g vg Z') w' C f:=by
  intro C
  induction C with
  | nil=>
   intro f a
   cases f with
   | nil=>trivial
   | cons q f=>exact a.elim
  | cons p C ih=>
   intro f a
   cases f with
   | nil=>exact a.elim
   | cons q f=>
    obtain ⟨r,⟨J,L,s,i⟩,z,d⟩:=a;exact ⟨r,⟨J,L,s,I i.1,P i.2⟩,z,ih d⟩
 refine ⟨b1,b2,b3,n1,n2,n3,fun k a6 => ?_,(D cb (m _ (.inl rfl)) (fun a=>(E _ a).2.2.1 rfl)).trans c,⟨a0,⟨a1,a2,(D g (m _ (.inr (.inl rfl))) (fun a=>(E _ a).2.2.2.1 rfl)).trans m1,m2⟩,a5 t⟩,⟨a3,(D vg (m _ (.inr (.inr (.inl rfl)))) (fun a=>(E _ a).2.2.2.2 rfl)).trans v1,v2,fun j a7 => ?_⟩,a4,F _ _ s1,s2,s3,fun j v l H a8=>I (s4 j v l H a8)⟩
 ·obtain ⟨d,Q⟩:=M k a6;have r:=m _ (.inl rfl);have s:=m _ (.inr (.inl rfl));have i:=m _ (.inr (.inr (.inl rfl)));rcases d with d | d
  ·have:=E k d;exact ⟨this.1,Q,this.2.2⟩
  ·exact ⟨by omega,Q,by omega,by omega,by omega⟩
 ·obtain ⟨J,L,e1,e2,R⟩:=v3 j a7;exact ⟨J,L,e1,e2,I R.1,P R.2⟩
end
structure TnAt (w:World) (B b o:Nat) (x:TN):Prop where
 c0:∃ A c,w.cell? ⟨b,o,none⟩=some (.slice A x.sh.length c)∧Rd w B A (x.sh.map VI)∧x.sh.length≤9223372036854775807∧x.sh.length≤c∧c≤9223372036854775807
 c1:∃ A c,w.cell? ⟨b,o+1,none⟩=some (.slice A x.el.length c)∧Rd w B A (x.el.map U)∧x.el.length≤9223372036854775807∧x.el.length≤c∧c≤9223372036854775807
def RdTN (w:World) (B:Nat) (A:Option Addr) (l:List TN):Prop:=l=[]∨∃ b o,A=some ⟨b,o,none⟩∧b<B∧∀ i x,l[i]?=some x→TnAt w B b (o+i*2) x
section
variable {w w':World} {B B' b o:Nat} {A:Option Addr} {l:List TN} {x:TN}
theorem TnAt.keep (h:TnAt w B b o x) (d:b<B) (a:∀ p:Addr,p.block<B→w'.cell? p=w.cell? p):TnAt w' B b o x:=by
 obtain ⟨⟨A,c,c0,e,f⟩,i,j,c1,k,m⟩:=h;exact ⟨⟨A,c,(a ⟨b,_,none⟩ d).trans c0,e.keep a,f⟩,i,j,(a ⟨b,_,none⟩ d).trans c1,k.keep a,m⟩
theorem TnAt.more (h:TnAt w B b o x) (a:B≤B'):TnAt w B' b o x:=by
 obtain ⟨⟨A,c,c0,d,e⟩,f,i,c1,j,k⟩:=h;exact ⟨⟨A,c,c0,d.more a,e⟩,f,i,c1,j.more a,k⟩
theorem RdTN.keep (h:RdTN w B A l) (d:∀ p:Addr,p.block<B→w'.cell? p=w.cell? p):RdTN w' B A l:=by
 rcases h with h | ⟨b,o,e,a,f⟩
 ·exact .inl h
 ·exact .inr ⟨b,o,e,a,fun i x j=>(f i x j).keep a d⟩
theorem RdTN.more (h:RdTN w B A l) (a:B≤B'):RdTN w B' A l:=by
 rcases h with h | ⟨b,o,d,e,f⟩
 ·exact .inl h
 ·exact .inr ⟨b,o,d,Kae e a,fun i x j=>(f i x j).more a⟩
theorem RdTN.below (h:RdTN w B A l) (a:Below B w w'):RdTN w' B A l:=h.keep fun _ d=>a.cell d
theorem RdTN.next (h:RdTN w w.heap.size A l) (a:Below w.heap.size w w'):RdTN w' w'.heap.size A l:=(h.below a).more a.size
theorem RdTN.at_ (h:RdTN w B A l) {i:Nat} (a:l[i]?=some x):∃ b o,A=some ⟨b,o,none⟩∧b<B∧TnAt w B b (o+i*2) x:=by
 rcases h with rfl | ⟨b,o,d,e,f⟩
 ·simp at a
 ·exact ⟨b,o,d,e,f i x a⟩
end
theorem TnAt.tnv {X:Nat→Prop} {w:World} {B b o:Nat} {x:TN} (h:TnAt w B b o x) (e:x.sh.length≤2) (p:∀ k,X k→B≤k) (q:B≤w.heap.size):∃ A c a d,w.cell? ⟨b,o,none⟩=some (.slice A x.sh.length c)∧w.cell? ⟨b,o+1,none⟩=some (.slice a x.el.length d)∧TnV X w (.slice A x.sh.length c) (.slice a x.el.length d) x:=by
 have i:∀ {A:Option Addr} {xs:List Value},Rd w B A xs→RdX X w A xs:=fun {A xs} f=>by
  rcases f with f | ⟨r,s,t,v,y⟩
  ·exact .inl f
  ·exact .inr ⟨r,s,t,Kae v q,fun e=>by have:=p _ e;omega,y⟩
 obtain ⟨⟨A,c,c0,z,j⟩,a,d,c1,C,m⟩:=h;exact ⟨A,c,a,d,c0,c1,⟨A,c,rfl,j.2.1,j.2.2,e,i z⟩,a,d,rfl,m.2.1,m.2.2,i C⟩
def fit1 (s:List Int) (t:TN):Bool:=s==t.sh&&((t.el.length:Int)==Zad s)
theorem ZeV:∀ {ws:List (List Int)} {ts:List TN},ws.length≠ts.length→fitT ws ts=false
 | [],[],h=>absurd rfl h
 | [],_::_,_=>rfl
 | _::_,[],_=>rfl
 | s::r,t::q,h=>by
  unfold fitT;rw [ZeV (ws:=r) (ts:=q) (by simpa using h),Bool.and_false]
theorem Zf9 {ws:List (List Int)} {ts:List TN} {i:Nat} {s:List Int} {t:TN} (h:ws[i]?=some s) (a:ts[i]?=some t):fitT (ws.drop i) (ts.drop i)=(fit1 s t&&fitT (ws.drop (i+1)) (ts.drop (i+1))):=by
 obtain ⟨d,e⟩:=Kaf.1 h;obtain ⟨f,j⟩:=Kaf.1 a;rw [List.drop_eq_getElem_cons d,List.drop_eq_getElem_cons f,e,j];rfl
theorem Zgn (A i C:Option Addr) (n c a c1 j c2:Nat) (s:List Int) (t:TN) (w:World) (r:n=s.length) (D:a=t.sh.length) (E:j=t.el.length)
  (F:n≤9223372036854775807) (M:a≤9223372036854775807) (h:Rd w w.heap.size A (s.map VI)) (H:Rd w w.heap.size i (t.sh.map VI)):
  Calls Tryz.prog 97 #[.slice A n c,.agg #[.slice i a c1,.slice C j c2]] w fun e w'=>e=.returned (.bool (fit1 s t))∧Below w.heap.size w w':=by
 obtain ⟨w2,m⟩:=Ky (w.alloc (.cells #[.slice i a c1,.slice C j c2] 43));have d:=Kv m;have v:=Kw m;have I:=Kz m;have J:=Kz d;have O:=Kaa 0 v;have P:=Kaa 1 v;have p:=Kz (fun q=>ZcA A i n a c c1 s t.sh (w2.drewN q) r D F M ((h.next d).drewN _) ((H.next d).drewN _))
 have L:=Kz (fun q=>ZcE A n c s (w2.drewN q) r F ((h.next d).drewN _))
 have N:=Kz E;clear E;clear m d v h H r D
 cases hq:(s==t.sh) with
 | false=>
  have y:=Kz (show fit1 s t=false from by unfold fit1;rw [hq];rfl)
  rw [hq] at p;clear hq
  go_enter Tryz.func97,Tryz.ntmps97
  go_wp2_with fail
  rw [←I.o]
  go_wp2_with fail
  go_quiet ((go_at_call 79;exact Calls.quiet_of (p.o _)))
  go_wp2
  go_ret;exact ⟨by rw [y.o];rfl,Zaa J.o _⟩
 | true=>
  obtain ⟨k,z⟩:=Ky (Zad s);have y:=Kz (show fit1 s t=((j:Int)==k) from by unfold fit1;rw [hq,z,N.o];rfl)
  rw [hq] at p;rw [←z] at L;clear hq z
  go_enter Tryz.func97,Tryz.ntmps97
  go_wp2_with fail
  rw [←I.o]
  go_wp2_with fail
  go_quiet (first
   | (go_at_call 79;exact Calls.quiet_of (p.o _))
   | (go_at_call 73;exact Calls.quiet_of_same (Zav (L.o _))))
  go_wp2
  go_ret;exact ⟨by rw [y.o];rfl,Zaa J.o _⟩
theorem ZhG (A Q:Option Addr) (n m c a9:Nat) (ws:List (List Int)) (ts:List TN) (w:World) (R:n=ws.length) (S:m=ts.length) (c6:n≤1000000) (c7:m≤1000000) (h:RdSh w A ws) (T:RdTN w w.heap.size Q ts):
  Calls Tryz.prog 77 #[.slice A n c,.slice Q m a9,.func (.func 97) #[] #[]] w fun e w'=>e=.returned (.bool (fitT ws ts))∧Below w.heap.size w w':=by
 have k:=Kz R;have r:=Kz S;have b0:=Kz h;have b1:=Kz T;clear h T R S
 by_cases F:n=m
 ·subst F;have q0:((n:Int)==(n:Int))=true:=by simp
  have c8:((n:Int) != (n:Int))=false:=by simp
  go_enter Tryz.func77,Tryz.ntmps77
  go_wp2
  go_loopw [17] (fun H wr=>(∃ i:Nat,i≤n∧H=.int .i64 i∧fitT ws ts=fitT (ws.drop i) (ts.drop i))∧Below w.heap.size w wr) (fun H _=>n-(intOf H).toNat)
  case atStart=>exact ⟨⟨0,by omega,rfl,rfl⟩,Kai _ _⟩
  case round=>
   obtain ⟨⟨i,c9,rfl,W⟩,Y⟩:=hrel;have I:=Kz W;have v:=Kz Y;clear W Y
   by_cases y:i<n
   ·have d:ws[i]?=some (ws[i]'(by rw [←k.o];exact y)):=Kad _
    obtain ⟨s,a0⟩:=Ky (ws[i]'(by rw [←k.o];exact y))
    rw [←a0] at d;have z:ts[i]?=some (ts[i]'(by rw [←r.o];exact y)):=Kad _
    obtain ⟨t,a1⟩:=Ky (ts[i]'(by rw [←r.o];exact y))
    rw [←a1] at z;obtain ⟨C,J,j,p,rfl,b2,b3,a2,a3,d2⟩:∃ C J j p,A=some ⟨C,J,none⟩∧C<wr.heap.size∧wr.cell? ⟨C,J+i,none⟩=some (.slice j s.length p)∧Rd wr wr.heap.size j (s.map VI)∧s.length≤9223372036854775807∧True:=by
     rcases b0.o.next v.o with h | ⟨b,o,b4,b5,b6⟩
     ·rw [h] at d;simp at d
     ·obtain ⟨j,p,e1,e2,e3⟩:=b6 i s d;exact ⟨b,o,j,p,b4,b5,e1,e2,by omega,trivial⟩
    obtain ⟨d3,d4,rfl,b7,⟨A2,k2,d0,a4,a5,-⟩,A3,k3,d1,b8,b9,-⟩:=(b1.o.next v.o).at_ z;have a6:=Kz (Zf9 d z);obtain ⟨n1,L⟩:=Ky s.length;obtain ⟨n2,M⟩:=Ky t.sh.length;obtain ⟨n3,N⟩:=Ky t.el.length;rw [←L] at b3 a3;rw [←M] at d0 a5;rw [←N] at d1 b9;obtain ⟨w3,O⟩:=Ky (wr.alloc (.cells #[.slice A2 n2 k2,.slice A3 n3 k3] 43));have D:=Kv O;have E:=Kz (Zgn j A2 A3 n1 p n2 k2 n3 k3 s t w3 L M N a3 a5 (a2.next D) (a4.next D));have a7:=Kz O;have a8:=Kz (bnext v.o D);have i0:(0:Int)≤(i:Int):=by omega
    have i1:(i:Int)<(n:Int):=by omega
    clear d a0 z a1 b2 b7 a2 a4 b8 L M N O D
    cases hf:fit1 s t with
    | true=>
     rw [hf] at E;have a:=Kz (show fitT ws ts=fitT (ws.drop (i+1)) (ts.drop (i+1)) from by rw [I.o,a6.o,hf];rfl)
     clear hf
     go_wp2_with fail
     rw [←a7.o]
     go_wp2_with (go_at_call 97;refine E.o.mono ?_;rintro e w4 ⟨rfl,q⟩;have P:=Kz (bnext a8.o q);clear q)
     exact ⟨⟨⟨i+1,by omega,rfl,a.o⟩,P.o⟩,by simp [intOf];omega⟩
    | false=>
     rw [hf] at E;have a:=Kz (show fitT ws ts=false from by rw [I.o,a6.o,hf];rfl)
     clear hf
     go_wp2_with fail
     rw [←a7.o]
     go_wp2_with (go_at_call 97;refine E.o.mono ?_;rintro e w4 ⟨rfl,q⟩;have P:=Kz (bnext a8.o q);clear q)
     go_ret;exact ⟨by rw [a.o];rfl,P.o⟩
   ·obtain rfl:n=i:=by omega
    have a:=Kz (show fitT ws ts=true from by rw [I.o,k.o,List.drop_length,←k.o,r.o,List.drop_length];rfl)
    go_wp2
    go_ret;exact ⟨by rw [a.o];rfl,v.o⟩
 ·have q1:((n:Int)==(m:Int))=false:=by rw [Kaj];omega
  have q2:((n:Int) != (m:Int))=true:=by unfold bne;rw [q1];rfl
  have a:=Kz (show fitT ws ts=false from ZeV (by rw [←k.o,←r.o];exact F))
  clear F
  go_enter Tryz.func77,Tryz.ntmps77
  go_wp2
  go_ret;exact ⟨by rw [a.o];rfl,Kai _ _⟩
theorem ZdP (A a:Option Addr) (n m c d:Nat) (ws:List (List Int)) (ts:List TN) (w:World) (i:n=ws.length) (j:m=ts.length) (p:n≤1000000) (q:m≤1000000) (h:RdSh w A ws) (k:RdTN w w.heap.size a ts):
  Calls Tryz.prog 52 #[.slice A n c,.slice a m d] w fun e w'=>e=.returned (.bool (fitT ws ts))∧Below w.heap.size w w':=by
 have r:=Kz (ZhG A a n m c d ws ts w i j p q h k);clear h k i j
 go_enter Tryz.func52,Tryz.ntmps52
 go_wp2_with (go_at_call 77;refine r.o.mono ?_;rintro e w4 ⟨rfl,s⟩)
 go_ret;exact ⟨rfl,s⟩
theorem ZeW:(Tryz.prog.info? 43).map (fun i=>(i.zero,i.size,i.bytes))=some (some (.agg #[.slice none 0 0,.slice none 0 0]),2,48):=by kernel_rfl
def tnC (p:Value × Value):List Value:=[p.1,p.2]
theorem Zdg {w:World} {base k n c:Nat} {T:TypeId} {A:Option Addr} {xs:List Value} (h:w.ownsRow base T k (.slice A n c) n xs):∀ g,blk A=some g→base≤g∧g<w.heap.size:=by
 intro g d
 rcases h.2 with ⟨e,m⟩ | ⟨f,p,cur,e,i,j,r⟩
 ·injection e with a
  rw [a] at d
  cases d
 ·injection e with a
  rw [a] at d;have:f=g:=by simpa [blk] using d
  subst this;exact ⟨i,(Kab.1 j).1⟩
theorem ZaK {w w':World} {base k n c:Nat} {T:TypeId} {A:Option Addr} {xs:List Value} (h:w.ownsRow base T k (.slice A n c) n xs) (f:∀ g,blk A=some g→w'.heap[g]?=w.heap[g]?):w'.ownsRow base T k (.slice A n c) n xs:=by
 refine ⟨h.1,?_⟩;rcases h.2 with d | ⟨e,i,cur,d,j,m,r⟩
 ·exact .inl d
 ·refine .inr ⟨e,i,cur,d,j,?_,r⟩;have:blk A=some e:=by injection d with a;rw [a];rfl
  rw [f e this];exact m
def OwnTn (X:Nat→Prop) (W0 w:World) (base:Nat) (A:Option Addr) (n c:Nat) (xs:List TN):Prop:=
 ∃ vs:List (Value × Value),w.ownsRow base 43 2 (.slice A n c) n (vs.flatMap tnC)∧vs.length=n∧xs.length=n∧∀ (j:Nat) (p:Value × Value) (x:TN),vs[j]?=some p→xs[j]?=some x→TnV X W0 p.1 p.2 x
section
variable {X:Nat→Prop} {W0 w w':World} {base n c:Nat} {A:Option Addr} {xs:List TN}
theorem OwnTn.nil (X:Nat→Prop) (W0 w:World) (base:Nat):OwnTn X W0 w base none 0 0 []:=⟨[],World.ownsRow_nil w base _ 2,rfl,rfl,fun j p x h=>by simp at h⟩
theorem OwnTn.lt (h:OwnTn X W0 w base A n c xs):∀ g,blk A=some g→base≤g∧g<w.heap.size:=by
 obtain ⟨d,a,_⟩:=h;exact Zdg a
theorem OwnTn.next (h:OwnTn X W0 w base A n c xs) (a:Below w.heap.size w w'):OwnTn X W0 w' base A n c xs:=by
 have d:=h.lt;obtain ⟨e,f,i,j,k⟩:=h;exact ⟨e,ZaK f (fun g m=>a.block g (d g m).2),i,j,k⟩
theorem OwnTn.at_ (h:OwnTn X W0 w base A n c xs) {j:Nat} {x:TN} (k:xs[j]?=some x):∃ g a c1 d c2,A=some ⟨g,0,none⟩∧w.cell? ⟨g,j*2,none⟩=some (.slice a x.sh.length c1)∧w.cell? ⟨g,j*2+1,none⟩=some (.slice d x.el.length c2)∧TnV X W0 (.slice a x.sh.length c1) (.slice d x.el.length c2) x:=by
 obtain ⟨e,s,I,J,t⟩:=h;have L:j<xs.length:=(Kaf.1 k).1;have m:e[j]?=some (e[j]'(by omega)):=Kad _
 have f:=t j _ x m k;obtain ⟨g,y,M,_,z⟩:=Zbm s (by omega)
 have p:∀ i v,(tnC (e[j]'(by omega)))[i]?=some v→i<2→w.cell? ⟨g,j*2+i,none⟩=some v:=fun i v C D=>z _ v ((Zaq tnC 2 (fun _=>rfl) e j i _ m D).trans C)
 have q:=p 0 _ rfl (by omega)
 have r:=p 1 _ rfl (by omega)
 have E:=f;obtain ⟨⟨a,c1,F,_⟩,d,c2,H,_⟩:=E;rw [F] at q f;rw [H] at r f;exact ⟨g,a,c1,d,c2,y,q,r,f⟩
end
theorem appTn {X:Nat→Prop} {W0 w:World} {y:Array Oper} {rest:List Oper} {o:Oper} {a:Act} {Q:Exit→Act→World→Prop} (D:o.guard=none) (s x:Operand)
  (E:o.op=.call { callee:=.builtin .append,args:=#[s,x],argTypes:=#[44,44] }) (B:Nat)
  (A:Option Addr) (q n:Nat) (l:List TN) (F:a.eval s=.slice A n q) (z:OwnTn X W0 w B A n q l)
  (f:Nat) (H:a.eval x=.slice (some ⟨f,0,none⟩) 1 1) (p:Value × Value) (t:TN) (I:w.heap[f]?=some (.cells #[p.1,p.2] 43 (0,0))) (r:TnV X W0 p.1 p.2 t)
  (a5:n≤1000000) (C:B≤w.heap.size)
  (h:∀ i k w',OwnTn X W0 w' B i (n+1) k (l++[t])→Below B w w'→wpList Tryz.prog y Q rest (a.put o.dst (.slice i (n+1) k)) w'):
  wpList Tryz.prog y Q (o::rest) a w:=by
 obtain ⟨J,L,M,N,O⟩:=info_parts ZeW;have R:=z.lt;obtain ⟨v,S,T,W,Y⟩:=z;obtain ⟨i,k,w',a0,r1,r2,r3⟩:=ZeH (P := Tryz.prog) w B 44 o.type 43 J _ 2 48 Tryz.underlying44 L M N (by decide) O rfl A q n (v.flatMap tnC) S f (tnC p) rfl
  (fun j u m=>by rw [cell_of_row w f j _ _ (0,0) I];simpa [tnC] using m)
  (fun u m=>by
   simp [tnC] at m;rcases m with rfl | rfl
   ·exact r.1.one
   ·exact r.2.one) (by simp only [maxLen];omega) (by omega) C
 refine wpList_plain D fun K hK => ?_
 unfold Oper.wp execOp;simp only [E,resolve,invoke,builtin,Sem.run_bind,Sem.run_pure,Result.andThen_ok,List.map_toArray,List.map_cons,List.map_nil,F,H,a0];refine hK _ _ (h i k w' ⟨v++[p],?_,by rw [List.length_append,T];rfl,by rw [List.length_append,W];rfl,fun j a1 a2 d e => ?_⟩ (Zal (Kai _ _) r2 C (fun a3 a4=>(R a3 a4).1)))
 ·rw [List.flatMap_append];have:(List.flatMap tnC [p])=tnC p:=by simp
  rw [this];exact r1
 ·by_cases a6:j<n
  ·rw [List.getElem?_append_left (by omega)] at d e
   exact Y j a1 a2 d e
  ·rw [List.getElem?_append_right (by omega)] at d e
   have h0:j-v.length=0:=by
    have:=(Kaf.1 d).1;simp at this;omega
   rw [h0] at d;rw [show j-l.length=0 by omega] at e
   simp at d e;rw [←d,←e];exact r
end Go.Proofs.YtghlnncfigkkaaaGreatDoor
