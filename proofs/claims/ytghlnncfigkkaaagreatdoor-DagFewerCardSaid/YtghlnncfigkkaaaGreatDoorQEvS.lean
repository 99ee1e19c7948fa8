/-
 Tensors in memory; the evaluator's state; look-ups and stores of names.
-/
import Derived.Test.YtghlnncfigkkaaaGreatDoorQChkA
import Derived.Test.YtghlnncfigkkaaaGreatDoorQChkV
import Derived.Test.YtghlnncfigkkaaaGreatDoorQLabL
import Derived.Test.YtghlnncfigkkaaaGreatDoorQEvL
import Derived.Test.YtghlnncfigkkaaaGreatDoorQChkQ
import Derived.Test.YtghlnncfigkkaaaGreatDoorQRdSh
import Derived.BigQuiet
set_option maxRecDepth 100000
set_option maxHeartbeats 2000000
open Go.Lib (hid)
namespace Go.Proofs.YtghlnncfigkkaaaGreatDoor
set_option linter.unusedVariables false
set_option linter.unusedSimpArgs false
open Go.RowKit
def WoV (X:Nat→Prop) (w:World) (v:Value) (l:List UInt64):Prop:=∃ A c,v=.slice A l.length c∧l.length≤c∧c≤9223372036854775807∧RdX X w A (l.map U)
theorem WoV.keep {X:Nat→Prop} {w w':World} {v:Value} {l:List UInt64} (h:WoV X w v l) (hk:KeepX X w w'):WoV X w' v l:=by
 obtain ⟨A,c,h1,h2,h3,h4⟩:=h
 exact ⟨A,c,h1,h2,h3,h4.keep hk⟩
theorem WoV.next {X:Nat→Prop} {w w':World} {v:Value} {l:List UInt64} (h:WoV X w v l) (hb:Below w.heap.size w w'):WoV X w' v l:=h.keep (KeepX.of hb)
theorem WoV.nil (X:Nat→Prop) (w:World):WoV X w (.slice none 0 0) []:=⟨none,0,rfl,Kag _,by decide,.inl rfl⟩
def TnV (X:Nat→Prop) (w:World) (sv ev:Value) (t:TN):Prop:=ShV X w sv t.sh∧WoV X w ev t.el
theorem TnV.keep {X:Nat→Prop} {w w':World} {sv ev:Value} {t:TN} (h:TnV X w sv ev t) (hk:KeepX X w w'):TnV X w' sv ev t:=⟨h.1.keep hk,h.2.keep hk⟩
theorem TnV.next {X:Nat→Prop} {w w':World} {sv ev:Value} {t:TN} (h:TnV X w sv ev t) (hb:Below w.heap.size w w'):TnV X w' sv ev t:=h.keep (KeepX.of hb)
theorem TnV.nil (X:Nat→Prop) (w:World):TnV X w (.slice none 0 0) (.slice none 0 0) zTN:=⟨ShV.nil X w,WoV.nil X w⟩
theorem WoV.one {X:Nat→Prop} {w:World} {v:Value} {l:List UInt64} (h:WoV X w v l):v.oneCell'=true:=by
 obtain ⟨A,c,rfl,_⟩:=h
 rfl
theorem ShV.one {X:Nat→Prop} {w:World} {v:Value} {l:List Int} (h:ShV X w v l):v.oneCell'=true:=by
 obtain ⟨A,c,rfl,_⟩:=h
 rfl
def NamT (X:Nat→Prop) (w:World):List (ByteArray × Value)→Zah→Prop
 | [],[]=>True
 | p::ps,q::qs=>p.1=q.1∧(∃ sv ev,p.2=.agg #[sv,ev]∧TnV X w sv ev q.2)∧TnOk q.2∧NamT X w ps qs
 | _,_=>False
theorem NamT.keep {X:Nat→Prop} {w w':World} (hk:KeepX X w w'):∀ {ps:List (ByteArray × Value)} {qs:Zah},NamT X w ps qs→NamT X w' ps qs
 | [],[],_=>trivial
 | p::ps,q::qs,⟨h1,⟨sv,ev,h2,h3⟩,h4,h5⟩=>⟨h1,⟨sv,ev,h2,h3.keep hk⟩,h4,NamT.keep hk h5⟩
 | [],_::_,h=>h
 | _::_,[],h=>h
theorem NamT.append {X:Nat→Prop} {w:World} {n:ByteArray} {sv ev:Value} {t:TN} (hv:TnV X w sv ev t) (he:TnOk t):∀ {ps:List (ByteArray × Value)} {qs:Zah},NamT X w ps qs→NamT X w (ps++[(n,.agg #[sv,ev])]) (qs++[(n,t)])
 | [],[],_=>⟨rfl,⟨sv,ev,rfl,hv⟩,he,trivial⟩
 | p::ps,q::qs,h=>⟨h.1,h.2.1,h.2.2.1,NamT.append hv he h.2.2.2⟩
 | [],_::_,h=>h.elim
 | _::_,[],h=>h.elim
theorem NamT.ok {X:Nat→Prop} {w:World}:∀ {ps:List (ByteArray × Value)} {qs:Zah},NamT X w ps qs→∀ p∈qs,TnOk p.2
 | [],[],_=>by intro p hp;simp at hp
 | p::ps,q::qs,h=>by
  intro x hx
  rcases List.mem_cons.1 hx with rfl | hx
  ·exact h.2.2.1
  ·exact NamT.ok h.2.2.2 x hx
 | [],_::_,h=>h.elim
 | _::_,[],h=>h.elim
theorem NamT.find {X:Nat→Prop} {w:World} (n:ByteArray):∀ {ps:List (ByteArray × Value)} {qs:Zah},NamT X w ps qs →
  (findV ps n=none∧findN (shN qs) n=none)∨∃ sv ev,findV ps n=some (.agg #[sv,ev])∧(findN (shN qs) n).isSome=true∧TnV X w sv ev (findT qs n)∧TnOk (findT qs n)
 | [],[],_=>.inl ⟨rfl,rfl⟩
 | p::ps,q::qs,h=>by
  obtain ⟨t,l⟩:=q
  unfold findV findT shN
  rw [List.map_cons]
  unfold findN
  rw [ZbG,h.1]
  by_cases e:t.toList=n.toList
  ·rw [if_pos e,if_pos e]
   have:decide (n.toList=t.toList)=true:=by simp [e]
   rw [this]
   obtain ⟨sv,ev,h2,h3⟩:=h.2.1
   exact .inr ⟨sv,ev,by rw [h2];rfl,rfl,h3,h.2.2.1⟩
  ·rw [if_neg e,if_neg e]
   have:decide (n.toList=t.toList)=false:=decide_eq_false fun h=>e h.symm
   rw [this]
   exact NamT.find n h.2.2.2
 | [],_::_,h=>h.elim
 | _::_,[],h=>h.elim
theorem ZbS {w:World} {g:Nat} {ns:List (ByteArray × Value)} (h:NamM w g ns) (n:ByteArray) {v:Value} (hv:findV ns n=some v):
  (Instr.lookup 111 (.map (some g)) (.string n) false).run Tryz.prog w=.ok v w:=by
 obtain ⟨es,clock,hg,he⟩:=h
 unfold Instr.lookup
 simp only [Sem.run_bind,run_underlying Tryz.underlying111,Result.andThen_ok,Go.MapKept.run_getObj_map hg,Sem.run_pure]
 rw [Go.MapKept.run_checkKey Tryz.underlying9 (show Go.MapKept.IsKey .string (.string n) from trivial)]
 simp only [Result.andThen_ok]
 rcases Zbx n es.toList ns 0 he with ⟨h1,h2⟩ | ⟨v',i,h1,h2⟩
 ·rw [hv] at h1;cases h1
 ·rw [hv] at h1
  injection h1 with h1
  subst h1
  rw [Go.MapKept.run_findKey Tryz.underlying9 h2]
  simp [Sem.run_bind,Sem.run_pure]
theorem Zf8 {w:World} {g:Nat} {ns:List (ByteArray × Value)} (h:NamM w g ns) (n:ByteArray) (v:Value) (hn:findV ns n=none):
  ∃ o,∀ W:World,W.heap=w.heap→(Instr.mapUpdate 111 (.map (some g)) (.string n) v).run Tryz.prog W=.ok () { W with heap:=W.heap.setIfInBounds g o }∧NamM { W with heap:=W.heap.setIfInBounds g o } g (ns++[(n,v)]):=by
 obtain ⟨es,clock,hg,he⟩:=h
 refine ⟨.map (es.push { key:=.string n,val:=v,born:=clock }) (clock+1),fun W hW => ?_⟩
 have hg':W.heap[g]?=some (.map es clock):=by rw [hW];exact hg
 refine ⟨?_,es.push { key:=.string n,val:=v,born:=clock },clock+1,(Go.MapKept.heap_set hg').1,?_⟩
 ·unfold Instr.mapUpdate
  simp only [Sem.run_bind,run_underlying Tryz.underlying111,Result.andThen_ok,Go.MapKept.run_getObj_map hg']
  rw [Go.MapKept.run_checkKey Tryz.underlying9 (show Go.MapKept.IsKey .string (.string n) from trivial)]
  simp only [Result.andThen_ok]
  rcases Zbx n es.toList ns 0 he with ⟨h1,h2⟩ | ⟨v',i,h1,h2⟩
  ·rw [Go.MapKept.run_findKey Tryz.underlying9 h2]
   simp only [Result.andThen_ok]
   exact Go.MapKept.run_setObj_map _ hg'
  ·rw [hn] at h1;cases h1
 ·rw [Array.toList_push,List.map_append,List.map_append,he]
  rfl
def KeepB (X:Nat→Prop) (w w':World):Prop:=w.heap.size≤w'.heap.size∧∀ k,k<w.heap.size→¬ X k→w'.heap[k]?=w.heap[k]?
theorem KeepB.of {X:Nat→Prop} {w w':World} (h:Below w.heap.size w w'):KeepB X w w':=⟨h.size,fun k hk _=>h.block k hk⟩
theorem KeepB.trans {X:Nat→Prop} {w w' w'':World} (h:KeepB X w w') (h':KeepB X w' w''):KeepB X w w'':=
 ⟨Kah h.1 h'.1,fun k hk hx=>(h'.2 k (Kae hk h.1) hx).trans (h.2 k hk hx)⟩
def evX (cb g vg:Nat) (Z:List Nat) (k:Nat):Prop:=k=cb∨k=g∨k=vg∨k∈Z
theorem KeepB.xv {w w':World} {cb g vg:Nat} {Z:List Nat} (h:KeepB (fun k=>k=vg) w w'):KeepX (evX cb g vg Z) w w':=⟨h.1,fun p hp hx=>by unfold World.cell?;rw [h.2 p.block hp (fun e=>hx (.inr (.inr (.inl e))))]⟩
theorem KeepB.xg {w w':World} {cb g vg:Nat} {Z:List Nat} (h:KeepB (fun k=>k=g) w w'):KeepX (evX cb g vg Z) w w':=⟨h.1,fun p hp hx=>by unfold World.cell?;rw [h.2 p.block hp (fun e=>hx (.inr (.inl e)))]⟩
def VRow (X:Nat→Prop) (w:World) (vg ne:Nat) (V:Nat→TN):Prop:=
 ∃ cs:List Value,w.heap[vg]?=some (.cells cs.toArray 43 (0,0))∧cs.length=2*ne∧∀ j,j<ne→∃ sv ev,cs[j*2]?=some sv∧cs[j*2+1]?=some ev∧TnV X w sv ev (V j)
structure EvSt (w:World) (B cb g vg:Nat) (Z:List Nat) (SA EA HA:Option Addr) (ns sc ne ec:Nat) (names:Zah) (V:Nat→TN) (shF:List (List Int)):Prop where
 b1:B≤cb
 b2:B≤g
 b3:B≤vg
 n1:cb≠g
 n2:cb≠vg
 n3:g≠vg
 hz:∀ k,k∈Z→B≤k∧k<w.heap.size∧k≠cb∧k≠g∧k≠vg
 hc:w.heap[cb]?=some (.cells #[.slice SA ns sc,.slice EA ne ec,.map (some g),.slice (some ⟨vg,0,none⟩) ne ne,.slice HA ne ne] 113 (0,0))
 hn:∃ nv,NamM w g nv∧NamT (evX cb g vg Z) w nv names
 hv:VRow (evX cb g vg Z) w vg ne V
 hs:∃ svs:List Value,RdX (evX cb g vg Z) w HA svs∧svs.length=ne∧shF.length=ne∧∀ (j:Nat) (v:Value) (l:List Int),svs[j]?=some v→shF[j]?=some l→ShV (evX cb g vg Z) w v l
section
variable {w w':World} {B cb g vg ns sc ne ec:Nat} {Z:List Nat} {SA EA HA:Option Addr} {names:Zah} {V:Nat→TN} {shF:List (List Int)}
theorem EvSt.lt (h:EvSt w B cb g vg Z SA EA HA ns sc ne ec names V shF):∀ k,evX cb g vg Z k→k<w.heap.size:=by
 intro k hk
 rcases hk with rfl | rfl | rfl | hk
 ·exact (Kab.1 h.hc).1
 ·obtain ⟨nv,⟨es,c,h1,_⟩,_⟩:=h.hn
  exact (Kab.1 h1).1
 ·obtain ⟨cs,h1,_⟩:=h.hv
  exact (Kab.1 h1).1
 ·exact (h.hz k hk).2.1
theorem EvSt.ge (h:EvSt w B cb g vg Z SA EA HA ns sc ne ec names V shF):∀ k,evX cb g vg Z k→B≤k:=by
 intro k hk
 rcases hk with rfl | rfl | rfl | hk
 ·exact h.b1
 ·exact h.b2
 ·exact h.b3
 ·exact (h.hz k hk).1
theorem EvSt.keepOf (h:EvSt w B cb g vg Z SA EA HA ns sc ne ec names V shF) (hk:KeepX (evX cb g vg Z) w w') (hc:w'.heap[cb]?=w.heap[cb]?) (hg:w'.heap[g]?=w.heap[g]?) (hv:w'.heap[vg]?=w.heap[vg]?):EvSt w' B cb g vg Z SA EA HA ns sc ne ec names V shF:=by
 obtain ⟨b1,b2,b3,n1,n2,n3,hz,c,⟨nv,⟨es,cl,m1,m2⟩,hr⟩,⟨cs,v1,v2,v3⟩,svs,s1,s2,s3,s4⟩:=h
 refine ⟨b1,b2,b3,n1,n2,n3,fun k hk'=>⟨(hz k hk').1,Kae (hz k hk').2.1 hk.1,(hz k hk').2.2⟩,hc.trans c,⟨nv,⟨es,cl,hg.trans m1,m2⟩,hr.keep hk⟩,⟨cs,hv.trans v1,v2,fun j hj => ?_⟩,svs,s1.keep hk,s2,s3,fun j v l hv hl=>(s4 j v l hv hl).keep hk⟩
 obtain ⟨sv,ev,e1,e2,e3⟩:=v3 j hj
 exact ⟨sv,ev,e1,e2,e3.keep hk⟩
theorem EvSt.next (h:EvSt w B cb g vg Z SA EA HA ns sc ne ec names V shF) (hb:Below w.heap.size w w'):EvSt w' B cb g vg Z SA EA HA ns sc ne ec names V shF:=
 h.keepOf (KeepX.of hb) (hb.block _ (h.lt _ (.inl rfl))) (hb.block _ (h.lt _ (.inr (.inl rfl)))) (hb.block _ (h.lt _ (.inr (.inr (.inl rfl)))))
theorem EvSt.val (h:EvSt w B cb g vg Z SA EA HA ns sc ne ec names V shF) {a:Nat} (ha:a<ne):∃ A c A' c',w.cell? ⟨vg,a*2,none⟩=some (.slice A (V a).sh.length c)∧w.cell? ⟨vg,a*2+1,none⟩=some (.slice A' (V a).el.length c')∧TnV (evX cb g vg Z) w (.slice A (V a).sh.length c) (.slice A' (V a).el.length c') (V a):=by
 obtain ⟨cs,v1,v2,v3⟩:=h.hv
 obtain ⟨sv,ev,e1,e2,e3⟩:=v3 a ha
 have k:=e3
 obtain ⟨⟨A,c,rfl,_⟩,A',c',rfl,_⟩:=k
 exact ⟨A,c,A',c',by rw [Kaa w vg _ _ _ (0,0) v1];simpa using e1,by rw [Kaa w vg _ _ _ (0,0) v1];simpa using e2,e3⟩
theorem EvSt.shape (h:EvSt w B cb g vg Z SA EA HA ns sc ne ec names V shF) {a:Nat} (ha:a<ne):∃ b o A c,HA=some ⟨b,o,none⟩∧w.cell? ⟨b,o+a,none⟩=some (.slice A (shF.getD a []).length c)∧ShV (evX cb g vg Z) w (.slice A (shF.getD a []).length c) (shF.getD a []):=by
 obtain ⟨svs,s1,s2,s3,s4⟩:=h.hs
 have h1:svs[a]?=some (svs[a]'(by omega)):=Kad _
 have h2:shF[a]?=some (shF[a]'(by omega)):=Kad _
 have hv:=s4 a _ _ h1 h2
 have hd:shF.getD a []=shF[a]'(by omega):=by simp [List.getD_eq_getElem?_getD,h2]
 obtain ⟨b,o,hA,_,hcell⟩:=s1.rd.at_ h1
 rw [hd]
 have hv':=hv
 obtain ⟨A,c,e,_⟩:=hv
 rw [e] at hcell hv'
 exact ⟨b,o,A,c,hA,hcell,hv'⟩
theorem EvSt.free (h:EvSt w B cb g vg Z SA EA HA ns sc ne ec names V shF) (k:Nat):w.frozen? ⟨vg,k,none⟩=false:=by
 obtain ⟨cs,v1,_⟩:=h.hv
 simp [World.frozen?,v1]
theorem EvSt.set (h:EvSt w B cb g vg Z SA EA HA ns sc ne ec names V shF) {a:Nat} (ha:a<ne) {sv ev:Value} {t:TN} (hv:TnV (evX cb g vg Z) w sv ev t) {W:World} (hW:W=(w.setCell ⟨vg,a*2,none⟩ sv).setCell ⟨vg,a*2+1,none⟩ ev) (V':Nat→TN) (hV':∀ j,V' j=if j=a then t else V j):
  EvSt W B cb g vg Z SA EA HA ns sc ne ec names V' shF∧KeepB (fun k=>k=vg) w W∧Below B w W:=by
 have hblk:∀ k,k≠vg→W.heap[k]?=w.heap[k]?:=fun k hk=>by
  rw [hW]
  simp only [World.setCell,Array.getElem?_modify]
  rw [if_neg (fun e=>hk e.symm),if_neg (fun e=>hk e.symm)]
 have hsz:W.heap.size=w.heap.size:=by rw [hW];simp [World.setCell]
 have hkb:KeepB (fun k=>k=vg) w W:=⟨Nat.le_of_eq hsz.symm,fun k hk hx=>hblk k hx⟩
 have hkeep:=hkb.xv (cb:=cb) (g:=g) (Z:=Z)
 obtain ⟨b1,b2,b3,n1,n2,n3,hz,c,⟨nv,⟨es,cl,m1,m2⟩,hr⟩,⟨cs,v1,v2,v3⟩,svs,s1,s2,s3,s4⟩:=h
 refine ⟨⟨b1,b2,b3,n1,n2,n3,fun k hk=>⟨(hz k hk).1,by rw [hsz];exact (hz k hk).2.1,(hz k hk).2.2⟩,(hblk cb n2).trans c,⟨nv,⟨es,cl,(hblk g n3).trans m1,m2⟩,hr.keep hkeep⟩,⟨(cs.set (a*2) sv).set (a*2+1) ev,?_,by simpa using v2,fun j hj => ?_⟩,svs,s1.keep hkeep,s2,s3,fun j v l hv hl=>(s4 j v l hv hl).keep hkeep⟩,hkb,?_⟩
 ·rw [hW]
  simp [World.setCell,Array.getElem?_modify,v1]
 ·rw [hV' j]
  by_cases e:j=a
  ·subst e
   rw [if_pos rfl]
   refine ⟨sv,ev,?_,?_,hv.keep hkeep⟩
   ·rw [List.getElem?_set_ne (by omega),List.getElem?_set_self (by omega)]
   ·rw [List.getElem?_set_self (by rw [List.length_set];omega)]
  ·rw [if_neg e]
   obtain ⟨sv',ev',e1,e2,e3⟩:=v3 j hj
   refine ⟨sv',ev',?_,?_,e3.keep hkeep⟩
   ·rw [List.getElem?_set_ne (by omega),List.getElem?_set_ne (by omega)]
    exact e1
   ·rw [List.getElem?_set_ne (by omega),List.getElem?_set_ne (by omega)]
    exact e2
 ·refine ⟨by rw [hW];rfl,by rw [hW];rfl,by rw [hW];rfl,Nat.le_of_eq hsz.symm,fun k hk=>hblk k (by omega)⟩
theorem EvSt.store (h:EvSt w B cb g vg Z SA EA HA ns sc ne ec names V shF) {n:ByteArray} {sv ev:Value} {t:TN} (hn:findN (shN names) n=none) (hv:TnV (evX cb g vg Z) w sv ev t) (he:TnOk t):
  ∃ o,∀ W:World,W.heap=w.heap→Below w.heap.size w W→(Instr.mapUpdate 111 (.map (some g)) (.string n) (.agg #[sv,ev])).run Tryz.prog W=.ok () { W with heap:=W.heap.setIfInBounds g o } ∧
   EvSt { W with heap:=W.heap.setIfInBounds g o } B cb g vg Z SA EA HA ns sc ne ec (names++[(n,t)]) V shF∧KeepB (fun k=>k=g) w { W with heap:=W.heap.setIfInBounds g o }∧Below B w { W with heap:=W.heap.setIfInBounds g o }:=by
 obtain ⟨b1,b2,b3,n1,n2,n3,hz,hc,⟨nv,hm,hr⟩,⟨cs,v1,v2,v3⟩,svs,s1,s2,s3,s4⟩:=h
 have hfn:findV nv n=none:=by
  rcases hr.find n with ⟨h1,_⟩ | ⟨_,_,_,h2,_⟩
  ·exact h1
  ·rw [hn] at h2;cases h2
 obtain ⟨o,ho⟩:=Zf8 hm n (.agg #[sv,ev]) hfn
 refine ⟨o,fun W hW hB => ?_⟩
 obtain ⟨r1,r2⟩:=ho W hW
 have hblk:∀ k,k≠g→({ W with heap:=W.heap.setIfInBounds g o }:World).heap[k]?=w.heap[k]?:=fun k hk=>by
  show (W.heap.setIfInBounds g o)[k]?=_
  rw [Array.getElem?_setIfInBounds,if_neg (fun e=>hk e.symm),hW]
 have hsz:({ W with heap:=W.heap.setIfInBounds g o }:World).heap.size=w.heap.size:=by
  show (W.heap.setIfInBounds g o).size=_
  rw [Array.size_setIfInBounds,hW]
 have hkb:KeepB (fun k=>k=g) w { W with heap:=W.heap.setIfInBounds g o }:=⟨Nat.le_of_eq hsz.symm,fun k hk hx=>hblk k hx⟩
 have hkeep:=hkb.xg (cb:=cb) (vg:=vg) (Z:=Z)
 refine ⟨r1,⟨b1,b2,b3,n1,n2,n3,fun k hk=>⟨(hz k hk).1,by rw [hsz];exact (hz k hk).2.1,(hz k hk).2.2⟩,(hblk cb n1).trans hc,⟨_,r2,(hr.keep hkeep).append (hv.keep hkeep) he⟩,⟨cs,(hblk vg (fun e=>n3 e.symm)).trans v1,v2,fun j hj => ?_⟩,svs,s1.keep hkeep,s2,s3,fun j u m hu hm=>(s4 j u m hu hm).keep hkeep⟩,hkb,⟨hB.os,hB.tape,hB.output,Nat.le_of_eq hsz.symm,fun k hk=>hblk k (by omega)⟩⟩
 obtain ⟨sv',ev',e1,e2,e3⟩:=v3 j hj
 exact ⟨sv',ev',e1,e2,e3.keep hkeep⟩
theorem EvSt.turn (h:EvSt w B cb g vg Z SA EA HA ns sc ne ec names V shF) {Z':List Nat} (hsz:w.heap.size≤w'.heap.size) (hg:∀ k,k<w.heap.size→k ∉ Z→w'.heap[k]?=w.heap[k]?) (hZ:∀ k,k∈Z'→(k∈Z∨w.heap.size≤k)∧k<w'.heap.size):EvSt w' B cb g vg Z' SA EA HA ns sc ne ec names V shF:=by
 have hlt:=h.lt
 have ht:∀ A xs,RdX (evX cb g vg Z) w A xs→RdX (evX cb g vg Z') w' A xs:=by
  intro A xs hr
  rcases hr with hr | ⟨b,o,hA,hb,hx,hc⟩
  ·exact .inl hr
  ·refine .inr ⟨b,o,hA,Kae hb hsz,fun hx' => ?_,fun j v hv => ?_⟩
   ·rcases hx' with e | e | e | e
    ·exact hx (.inl e)
    ·exact hx (.inr (.inl e))
    ·exact hx (.inr (.inr (.inl e)))
    ·rcases (hZ b e).1 with e' | e'
     ·exact hx (.inr (.inr (.inr e')))
     ·omega
   ·rw [←hc j v hv]
    unfold World.cell?
    rw [hg b hb (fun e=>hx (.inr (.inr (.inr e))))]
 have hs:∀ {v l},ShV (evX cb g vg Z) w v l→ShV (evX cb g vg Z') w' v l:=fun {v l} ⟨A,c,h1,h2,h3,h4,h5⟩=>⟨A,c,h1,h2,h3,h4,ht _ _ h5⟩
 have hw:∀ {v l},WoV (evX cb g vg Z) w v l→WoV (evX cb g vg Z') w' v l:=fun {v l} ⟨A,c,h1,h2,h3,h4⟩=>⟨A,c,h1,h2,h3,ht _ _ h4⟩
 obtain ⟨b1,b2,b3,n1,n2,n3,hz,c,⟨nv,⟨es,cl,m1,m2⟩,hr⟩,⟨cs,v1,v2,v3⟩,svs,s1,s2,s3,s4⟩:=h
 have hnm:∀ {ps:List (ByteArray × Value)} {qs:Zah},NamT (evX cb g vg Z) w ps qs→NamT (evX cb g vg Z') w' ps qs:=by
  intro ps
  induction ps with
  | nil=>
   intro qs hq
   cases qs with
   | nil=>trivial
   | cons q qs=>exact hq.elim
  | cons p ps ih=>
   intro qs hq
   cases qs with
   | nil=>exact hq.elim
   | cons q qs=>
    obtain ⟨h1,⟨sv,ev,h2,h3⟩,h4,h5⟩:=hq
    exact ⟨h1,⟨sv,ev,h2,hs h3.1,hw h3.2⟩,h4,ih h5⟩
 refine ⟨b1,b2,b3,n1,n2,n3,fun k hk => ?_,(hg cb (hlt _ (.inl rfl)) (fun hq=>(hz _ hq).2.2.1 rfl)).trans c,⟨nv,⟨es,cl,(hg g (hlt _ (.inr (.inl rfl))) (fun hq=>(hz _ hq).2.2.2.1 rfl)).trans m1,m2⟩,hnm hr⟩,⟨cs,(hg vg (hlt _ (.inr (.inr (.inl rfl)))) (fun hq=>(hz _ hq).2.2.2.2 rfl)).trans v1,v2,fun j hj => ?_⟩,svs,ht _ _ s1,s2,s3,fun j v l hv hl=>hs (s4 j v l hv hl)⟩
 ·obtain ⟨h5,h6⟩:=hZ k hk
  have h1:=hlt _ (.inl rfl)
  have h2:=hlt _ (.inr (.inl rfl))
  have h3:=hlt _ (.inr (.inr (.inl rfl)))
  rcases h5 with h5 | h5
  ·have:=hz k h5
   exact ⟨this.1,h6,this.2.2⟩
  ·exact ⟨by omega,h6,by omega,by omega,by omega⟩
 ·obtain ⟨sv,ev,e1,e2,e3⟩:=v3 j hj
  exact ⟨sv,ev,e1,e2,hs e3.1,hw e3.2⟩
end
structure TnAt (w:World) (B b o:Nat) (x:TN):Prop where
 c0:∃ A c,w.cell? ⟨b,o,none⟩=some (.slice A x.sh.length c)∧Rd w B A (x.sh.map VI)∧x.sh.length≤9223372036854775807∧x.sh.length≤c∧c≤9223372036854775807
 c1:∃ A c,w.cell? ⟨b,o+1,none⟩=some (.slice A x.el.length c)∧Rd w B A (x.el.map U)∧x.el.length≤9223372036854775807∧x.el.length≤c∧c≤9223372036854775807
def RdTN (w:World) (B:Nat) (A:Option Addr) (l:List TN):Prop:=l=[]∨∃ b o,A=some ⟨b,o,none⟩∧b<B∧∀ i x,l[i]?=some x→TnAt w B b (o+i*2) x
section
variable {w w':World} {B B' b o:Nat} {A:Option Addr} {l:List TN} {x:TN}
theorem TnAt.keep (h:TnAt w B b o x) (hb:b<B) (hk:∀ p:Addr,p.block<B→w'.cell? p=w.cell? p):TnAt w' B b o x:=by
 obtain ⟨⟨A,c,c0,c0',c0n⟩,A',c',c1,c1',c1n⟩:=h
 exact ⟨⟨A,c,(hk ⟨b,_,none⟩ hb).trans c0,c0'.keep hk,c0n⟩,A',c',(hk ⟨b,_,none⟩ hb).trans c1,c1'.keep hk,c1n⟩
theorem TnAt.more (h:TnAt w B b o x) (hB:B≤B'):TnAt w B' b o x:=by
 obtain ⟨⟨A,c,c0,c0',c0n⟩,A',c',c1,c1',c1n⟩:=h
 exact ⟨⟨A,c,c0,c0'.more hB,c0n⟩,A',c',c1,c1'.more hB,c1n⟩
theorem RdTN.keep (h:RdTN w B A l) (hk:∀ p:Addr,p.block<B→w'.cell? p=w.cell? p):RdTN w' B A l:=by
 rcases h with h | ⟨b,o,hA,hb,hc⟩
 ·exact .inl h
 ·exact .inr ⟨b,o,hA,hb,fun i x hx=>(hc i x hx).keep hb hk⟩
theorem RdTN.more (h:RdTN w B A l) (hB:B≤B'):RdTN w B' A l:=by
 rcases h with h | ⟨b,o,hA,hb,hc⟩
 ·exact .inl h
 ·exact .inr ⟨b,o,hA,Kae hb hB,fun i x hx=>(hc i x hx).more hB⟩
theorem RdTN.below (h:RdTN w B A l) (hb:Below B w w'):RdTN w' B A l:=h.keep fun _ hp=>hb.cell hp
theorem RdTN.next (h:RdTN w w.heap.size A l) (hb:Below w.heap.size w w'):RdTN w' w'.heap.size A l:=(h.below hb).more hb.size
theorem RdTN.at_ (h:RdTN w B A l) {i:Nat} (hi:l[i]?=some x):∃ b o,A=some ⟨b,o,none⟩∧b<B∧TnAt w B b (o+i*2) x:=by
 rcases h with rfl | ⟨b,o,hA,hb,hc⟩
 ·simp at hi
 ·exact ⟨b,o,hA,hb,hc i x hi⟩
end
theorem TnAt.tnv {X:Nat→Prop} {w:World} {B b o:Nat} {x:TN} (h:TnAt w B b o x) (hx:x.sh.length≤2) (hX:∀ k,X k→B≤k) (hB:B≤w.heap.size):∃ A c A' c',w.cell? ⟨b,o,none⟩=some (.slice A x.sh.length c)∧w.cell? ⟨b,o+1,none⟩=some (.slice A' x.el.length c')∧TnV X w (.slice A x.sh.length c) (.slice A' x.el.length c') x:=by
 have cv:∀ {A:Option Addr} {xs:List Value},Rd w B A xs→RdX X w A xs:=fun {A xs} hr=>by
  rcases hr with hr | ⟨b',o',hA,hb',hc'⟩
  ·exact .inl hr
  ·exact .inr ⟨b',o',hA,Kae hb' hB,fun hx=>by have:=hX _ hx;omega,hc'⟩
 obtain ⟨⟨A,c,c0,c0',c0n⟩,A',c',c1,c1',c1n⟩:=h
 exact ⟨A,c,A',c',c0,c1,⟨A,c,rfl,c0n.2.1,c0n.2.2,hx,cv c0'⟩,A',c',rfl,c1n.2.1,c1n.2.2,cv c1'⟩
def fit1 (s:List Int) (t:TN):Bool:=s==t.sh&&((t.el.length:Int)==Zad s)
theorem ZeV:∀ {ws:List (List Int)} {ts:List TN},ws.length≠ts.length→fitT ws ts=false
 | [],[],h=>absurd rfl h
 | [],_::_,_=>rfl
 | _::_,[],_=>rfl
 | s::r,t::q,h=>by
  unfold fitT
  rw [ZeV (ws:=r) (ts:=q) (by simpa using h),Bool.and_false]
theorem Zf9 {ws:List (List Int)} {ts:List TN} {i:Nat} {s:List Int} {t:TN} (h:ws[i]?=some s) (h':ts[i]?=some t):fitT (ws.drop i) (ts.drop i)=(fit1 s t&&fitT (ws.drop (i+1)) (ts.drop (i+1))):=by
 obtain ⟨hi,he⟩:=Kaf.1 h
 obtain ⟨hi',he'⟩:=Kaf.1 h'
 rw [List.drop_eq_getElem_cons hi,List.drop_eq_getElem_cons hi',he,he']
 rfl
theorem Zgn (A A1 A2:Option Addr) (n c n1 c1 n2 c2:Nat) (s:List Int) (t:TN) (w:World) (hn:n=s.length) (hn1:n1=t.sh.length) (hn2:n2=t.el.length)
  (hl:n≤9223372036854775807) (hl1:n1≤9223372036854775807) (h:Rd w w.heap.size A (s.map VI)) (h1:Rd w w.heap.size A1 (t.sh.map VI)):
  Calls Tryz.prog 97 #[.slice A n c,.agg #[.slice A1 n1 c1,.slice A2 n2 c2]] w fun e w'=>e=.returned (.bool (fit1 s t))∧Below w.heap.size w w':=by
 obtain ⟨w2,hw2⟩:∃ w2,w2=w.alloc (.cells #[.slice A1 n1 c1,.slice A2 n2 c2] 43):=⟨_,rfl⟩
 have hb2:Below w.heap.size w w2:=by rw [hw2];exact (Kai _ _).alloc (Kag _) _
 have hE:w2.heap[w.heap.size]?=some (.cells #[.slice A1 n1 c1,.slice A2 n2 c2] 43 (0,0)):=by rw [hw2];exact Kac w _
 have HW2:=hid hw2
 have HB2:=hid hb2
 have e0:=Kaa _ _ 0 _ _ _ hE
 have e1:=Kaa _ _ 1 _ _ _ hE
 have HEQ:=hid (fun q=>ZcA A A1 n n1 c c1 s t.sh (w2.drewN q) hn hn1 hl hl1 ((h.next hb2).drewN _) ((h1.next hb2).drewN _))
 have HEL:=hid (fun q=>ZcE A n c s (w2.drewN q) hn hl ((h.next hb2).drewN _))
 have H2:=hid hn2
 clear hn2
 clear hw2 hb2 hE h h1 hn hn1
 cases hq:(s==t.sh) with
 | false=>
  have HX:=hid (show fit1 s t=false from by unfold fit1;rw [hq];rfl)
  rw [hq] at HEQ
  clear hq
  go_enter Tryz.func97,Tryz.ntmps97
  go_wp2_with fail
  rw [←HW2.out]
  go_wp2_with fail
  go_quiet ((go_at_call 79;exact Calls.quiet_of (HEQ.out _)))
  go_wp2
  go_ret
  exact ⟨by rw [HX.out];rfl,Zaa HB2.out _⟩
 | true=>
  obtain ⟨k,hk⟩:∃ k,k=Zad s:=⟨_,rfl⟩
  have HX:=hid (show fit1 s t=((n2:Int)==k) from by unfold fit1;rw [hq,hk,H2.out];rfl)
  rw [hq] at HEQ
  rw [←hk] at HEL
  clear hq hk
  go_enter Tryz.func97,Tryz.ntmps97
  go_wp2_with fail
  rw [←HW2.out]
  go_wp2_with fail
  go_quiet (first
   | (go_at_call 79;exact Calls.quiet_of (HEQ.out _))
   | (go_at_call 73;exact Calls.quiet_of_same (Zav (HEL.out _))))
  go_wp2
  go_ret
  exact ⟨by rw [HX.out];rfl,Zaa HB2.out _⟩
theorem ZhG (A A':Option Addr) (n m c c':Nat) (ws:List (List Int)) (ts:List TN) (w:World) (hn:n=ws.length) (hm:m=ts.length) (hl:n≤1000000) (hl':m≤1000000) (h:RdSh w A ws) (h':RdTN w w.heap.size A' ts):
  Calls Tryz.prog 77 #[.slice A n c,.slice A' m c',.func (.func 97) #[] #[]] w fun e w'=>e=.returned (.bool (fitT ws ts))∧Below w.heap.size w w':=by
 have HN:=hid hn
 have HM:=hid hm
 have H:=hid h
 have H':=hid h'
 clear h h' hn hm
 by_cases hnm:n=m
 ·subst hnm
  have q0:((n:Int)==(n:Int))=true:=by simp
  have q0':((n:Int) != (n:Int))=false:=by simp
  go_enter Tryz.func77,Tryz.ntmps77
  go_wp2
  go_loopw [17] (fun iv wr=>(∃ i:Nat,i≤n∧iv=.int .i64 i∧fitT ws ts=fitT (ws.drop i) (ts.drop i))∧Below w.heap.size w wr) (fun iv _=>n-(intOf iv).toNat)
  case atStart=>exact ⟨⟨0,by omega,rfl,rfl⟩,Kai _ _⟩
  case round=>
   obtain ⟨⟨i,hi,rfl,hr⟩,hb⟩:=hrel
   have HR:=hid hr
   have HB:=hid hb
   clear hr hb
   by_cases hlt:i<n
   ·have ht:ws[i]?=some (ws[i]'(by rw [←HN.out];exact hlt)):=Kad _
    obtain ⟨s,hs⟩:∃ d,d=ws[i]'(by rw [←HN.out];exact hlt):=⟨_,rfl⟩
    rw [←hs] at ht
    have ht':ts[i]?=some (ts[i]'(by rw [←HM.out];exact hlt)):=Kad _
    obtain ⟨t,htt⟩:∃ d,d=ts[i]'(by rw [←HM.out];exact hlt):=⟨_,rfl⟩
    rw [←htt] at ht'
    obtain ⟨bs,os,A1,k1,rfl,hbs,cs1,cs2,cs3,cs4⟩:∃ bs os A1 k1,A=some ⟨bs,os,none⟩∧bs<wr.heap.size∧wr.cell? ⟨bs,os+i,none⟩=some (.slice A1 s.length k1)∧Rd wr wr.heap.size A1 (s.map VI)∧s.length≤9223372036854775807∧True:=by
     rcases H.out.next HB.out with h | ⟨b,o,hA,hlt',hc⟩
     ·rw [h] at ht;simp at ht
     ·obtain ⟨A1,k1,e1,e2,e3⟩:=hc i s ht
      exact ⟨b,o,A1,k1,hA,hlt',e1,e2,by omega,trivial⟩
    obtain ⟨bt,ot,rfl,hbt,⟨A2,k2,d0,d0r,d0n,-⟩,A3,k3,d1,d1r,d1n,-⟩:=(H'.out.next HB.out).at_ ht'
    have hD:=hid (Zf9 ht ht')
    obtain ⟨n1,hn1⟩:∃ n1,n1=s.length:=⟨_,rfl⟩
    obtain ⟨n2,hn2⟩:∃ n2,n2=t.sh.length:=⟨_,rfl⟩
    obtain ⟨n3,hn3⟩:∃ n3,n3=t.el.length:=⟨_,rfl⟩
    rw [←hn1] at cs1 cs3
    rw [←hn2] at d0 d0n
    rw [←hn3] at d1 d1n
    obtain ⟨w3,hw3⟩:∃ w3,w3=wr.alloc (.cells #[.slice A2 n2 k2,.slice A3 n3 k3] 43):=⟨_,rfl⟩
    have hb3:Below wr.heap.size wr w3:=by rw [hw3];exact (Kai _ _).alloc (Kag _) _
    have HI:=hid (Zgn A1 A2 A3 n1 k1 n2 k2 n3 k3 s t w3 hn1 hn2 hn3 cs3 d0n (cs2.next hb3) (d0r.next hb3))
    have HW3:=hid hw3
    have HB3:=hid (bnext HB.out hb3)
    have i0:(0:Int)≤(i:Int):=by omega
    have i1:(i:Int)<(n:Int):=by omega
    clear ht hs ht' htt hbs hbt cs2 d0r d1r hn1 hn2 hn3 hw3 hb3
    cases hf:fit1 s t with
    | true=>
     rw [hf] at HI
     have HX:=hid (show fitT ws ts=fitT (ws.drop (i+1)) (ts.drop (i+1)) from by rw [HR.out,hD.out,hf];rfl)
     clear hf
     go_wp2_with fail
     rw [←HW3.out]
     go_wp2_with (go_at_call 97;refine HI.out.mono ?_;rintro e w4 ⟨rfl,hb4⟩;have HB4:=hid (bnext HB3.out hb4);clear hb4)
     exact ⟨⟨⟨i+1,by omega,rfl,HX.out⟩,HB4.out⟩,by simp [intOf];omega⟩
    | false=>
     rw [hf] at HI
     have HX:=hid (show fitT ws ts=false from by rw [HR.out,hD.out,hf];rfl)
     clear hf
     go_wp2_with fail
     rw [←HW3.out]
     go_wp2_with (go_at_call 97;refine HI.out.mono ?_;rintro e w4 ⟨rfl,hb4⟩;have HB4:=hid (bnext HB3.out hb4);clear hb4)
     go_ret
     exact ⟨by rw [HX.out];rfl,HB4.out⟩
   ·obtain rfl:n=i:=by omega
    have HX:=hid (show fitT ws ts=true from by rw [HR.out,HN.out,List.drop_length,←HN.out,HM.out,List.drop_length];rfl)
    go_wp2
    go_ret
    exact ⟨by rw [HX.out];rfl,HB.out⟩
 ·have q1:((n:Int)==(m:Int))=false:=by rw [Kaj];omega
  have q2:((n:Int) != (m:Int))=true:=by unfold bne;rw [q1];rfl
  have HX:=hid (show fitT ws ts=false from ZeV (by rw [←HN.out,←HM.out];exact hnm))
  clear hnm
  go_enter Tryz.func77,Tryz.ntmps77
  go_wp2
  go_ret
  exact ⟨by rw [HX.out];rfl,Kai _ _⟩
theorem ZdP (A A':Option Addr) (n m c c':Nat) (ws:List (List Int)) (ts:List TN) (w:World) (hn:n=ws.length) (hm:m=ts.length) (hl:n≤1000000) (hl':m≤1000000) (h:RdSh w A ws) (h':RdTN w w.heap.size A' ts):
  Calls Tryz.prog 52 #[.slice A n c,.slice A' m c'] w fun e w'=>e=.returned (.bool (fitT ws ts))∧Below w.heap.size w w':=by
 have HC:=hid (ZhG A A' n m c c' ws ts w hn hm hl hl' h h')
 clear h h' hn hm
 go_enter Tryz.func52,Tryz.ntmps52
 go_wp2_with (go_at_call 77;refine HC.out.mono ?_;rintro e w4 ⟨rfl,hb4⟩)
 go_ret
 exact ⟨rfl,hb4⟩
theorem ZeW:(Tryz.prog.info? 43).map (fun i=>(i.zero,i.size,i.bytes))=some (some (.agg #[.slice none 0 0,.slice none 0 0]),2,48):=by kernel_rfl
def tnC (p:Value × Value):List Value:=[p.1,p.2]
theorem Zdg {w:World} {base k n c:Nat} {T:TypeId} {A:Option Addr} {xs:List Value} (h:w.ownsRow base T k (.slice A n c) n xs):∀ g,blk A=some g→base≤g∧g<w.heap.size:=by
 intro g hg
 rcases h.2 with ⟨hv,h0⟩ | ⟨g',cap',cur,hv,hb,hh,r⟩
 ·injection hv with a
  rw [a] at hg
  cases hg
 ·injection hv with a
  rw [a] at hg
  have:g'=g:=by simpa [blk] using hg
  subst this
  exact ⟨hb,(Kab.1 hh).1⟩
theorem ZaK {w w':World} {base k n c:Nat} {T:TypeId} {A:Option Addr} {xs:List Value} (h:w.ownsRow base T k (.slice A n c) n xs) (hk:∀ g,blk A=some g→w'.heap[g]?=w.heap[g]?):w'.ownsRow base T k (.slice A n c) n xs:=by
 refine ⟨h.1,?_⟩
 rcases h.2 with hv | ⟨g',cap',cur,hv,hb,hh,r⟩
 ·exact .inl hv
 ·refine .inr ⟨g',cap',cur,hv,hb,?_,r⟩
  have:blk A=some g':=by injection hv with a;rw [a];rfl
  rw [hk g' this]
  exact hh
def OwnTn (X:Nat→Prop) (W0 w:World) (base:Nat) (A:Option Addr) (n c:Nat) (xs:List TN):Prop:=
 ∃ vs:List (Value × Value),w.ownsRow base 43 2 (.slice A n c) n (vs.flatMap tnC)∧vs.length=n∧xs.length=n∧∀ (j:Nat) (p:Value × Value) (x:TN),vs[j]?=some p→xs[j]?=some x→TnV X W0 p.1 p.2 x
section
variable {X:Nat→Prop} {W0 w w':World} {base n c:Nat} {A:Option Addr} {xs:List TN}
theorem OwnTn.nil (X:Nat→Prop) (W0 w:World) (base:Nat):OwnTn X W0 w base none 0 0 []:=⟨[],World.ownsRow_nil w base _ 2,rfl,rfl,fun j p x h=>by simp at h⟩
theorem OwnTn.lt (h:OwnTn X W0 w base A n c xs):∀ g,blk A=some g→base≤g∧g<w.heap.size:=by
 obtain ⟨vs,h1,_⟩:=h
 exact Zdg h1
theorem OwnTn.next (h:OwnTn X W0 w base A n c xs) (hb:Below w.heap.size w w'):OwnTn X W0 w' base A n c xs:=by
 have hlt:=h.lt
 obtain ⟨vs,h1,h2,h3,h4⟩:=h
 exact ⟨vs,ZaK h1 (fun g hg=>hb.block g (hlt g hg).2),h2,h3,h4⟩
theorem OwnTn.at_ (h:OwnTn X W0 w base A n c xs) {j:Nat} {x:TN} (hx:xs[j]?=some x):∃ g A1 c1 A2 c2,A=some ⟨g,0,none⟩∧w.cell? ⟨g,j*2,none⟩=some (.slice A1 x.sh.length c1)∧w.cell? ⟨g,j*2+1,none⟩=some (.slice A2 x.el.length c2)∧TnV X W0 (.slice A1 x.sh.length c1) (.slice A2 x.el.length c2) x:=by
 obtain ⟨vs,h1,h2,h3,h4⟩:=h
 have hj:j<xs.length:=(Kaf.1 hx).1
 have hv:vs[j]?=some (vs[j]'(by omega)):=Kad _
 have ht:=h4 j _ x hv hx
 obtain ⟨g,hA,hg,_,hc⟩:=Zbm h1 (by omega)
 have key:∀ i v,(tnC (vs[j]'(by omega)))[i]?=some v→i<2→w.cell? ⟨g,j*2+i,none⟩=some v:=fun i v hv2 hi=>hc _ v ((Zaq tnC 2 (fun _=>rfl) vs j i _ hv hi).trans hv2)
 have k0:=key 0 _ rfl (by omega)
 have k1:=key 1 _ rfl (by omega)
 have ht2:=ht
 obtain ⟨⟨A1,c1,e1,_⟩,A2,c2,e2,_⟩:=ht2
 rw [e1] at k0 ht
 rw [e2] at k1 ht
 exact ⟨g,A1,c1,A2,c2,hA,k0,k1,ht⟩
end
theorem appTn {X:Nat→Prop} {W0 w:World} {ops:Array Oper} {rest:List Oper} {o:Oper} {a:Act} {Q:Exit→Act→World→Prop} (hgd:o.guard=none) (s x:Operand)
  (ho:o.op=.call { callee:=.builtin .append,args:=#[s,x],argTypes:=#[44,44] }) (B:Nat)
  (A:Option Addr) (cap n:Nat) (l:List TN) (hs:a.eval s=.slice A n cap) (hown:OwnTn X W0 w B A n cap l)
  (g2:Nat) (hx:a.eval x=.slice (some ⟨g2,0,none⟩) 1 1) (p:Value × Value) (t:TN) (hb:w.heap[g2]?=some (.cells #[p.1,p.2] 43 (0,0))) (ht:TnV X W0 p.1 p.2 t)
  (hbytes:n≤1000000) (hbase:B≤w.heap.size)
  (h:∀ A' cap' w',OwnTn X W0 w' B A' (n+1) cap' (l++[t])→Below B w w'→wpList Tryz.prog ops Q rest (a.put o.dst (.slice A' (n+1) cap')) w'):
  wpList Tryz.prog ops Q (o::rest) a w:=by
 obtain ⟨i0,hi0,hz0,hz1,hz2⟩:=info_parts ZeW
 have hlt:=hown.lt
 obtain ⟨vs,h1,h2,h3,h4⟩:=hown
 obtain ⟨A',cap',w',hrun,r1,r2,r3⟩:=ZeH (P := Tryz.prog) w B 44 o.type 43 i0 _ 2 48 Tryz.underlying44 hi0 hz0 hz1 (by decide) hz2 rfl A cap n (vs.flatMap tnC) h1 g2 (tnC p) rfl
  (fun j u hu=>by rw [Kaa w g2 j _ _ (0,0) hb];simpa [tnC] using hu)
  (fun u hu=>by
   simp [tnC] at hu
   rcases hu with rfl | rfl
   ·exact ht.1.one
   ·exact ht.2.one) (by simp only [maxLen];omega) (by omega) hbase
 refine wpList_plain hgd fun K hK => ?_
 unfold Oper.wp execOp
 simp only [ho,resolve,invoke,builtin,Sem.run_bind,Sem.run_pure,Result.andThen_ok,List.map_toArray,List.map_cons,List.map_nil,hs,hx,hrun]
 refine hK _ _ (h A' cap' w' ⟨vs++[p],?_,by rw [List.length_append,h2];rfl,by rw [List.length_append,h3];rfl,fun j q y hq hy => ?_⟩ (Zal (Kai _ _) r2 hbase (fun k hk=>(hlt k hk).1)))
 ·rw [List.flatMap_append]
  have:(List.flatMap tnC [p])=tnC p:=by simp
  rw [this]
  exact r1
 ·by_cases hj:j<n
  ·rw [List.getElem?_append_left (by omega)] at hq hy
   exact h4 j q y hq hy
  ·rw [List.getElem?_append_right (by omega)] at hq hy
   have h0:j-vs.length=0:=by
    have:=(Kaf.1 hq).1
    simp at this
    omega
   rw [h0] at hq
   rw [show j-l.length=0 by omega] at hy
   simp at hq hy
   rw [←hq,←hy]
   exact ht
end Go.Proofs.YtghlnncfigkkaaaGreatDoor
