/-
 What an expression is made of: the checker's parts, the reference's within.
-/
import Derived.Test.YtghlnncfigkkaaaGreatDoorQTree
import Derived.Test.YtghlnncfigkkaaaGreatDoorQAsE
import Derived.Test.YtghlnncfigkkaaaGreatDoorQChkD
import Derived.Test.YtghlnncfigkkaaaGreatDoorQChkF
import Derived.BigQuiet
import Derived.RegionTactic
import Derived.MapKept
set_option maxRecDepth 100000
set_option maxHeartbeats 4000000
open Go.Lib (hid)
namespace Go.Proofs.YtghlnncfigkkaaaGreatDoor
set_option linter.unusedVariables false
set_option linter.unusedSimpArgs false
open Go.RowKit
def MkB (w:World) (t:TypeId) (g n:Nat) (f:Nat→Value):Prop:=w.heap[g]?=some (.cells ((List.range n).map f).toArray t (0,0))
section
variable {w w':World} {t:TypeId} {g n:Nat} {f:Nat→Value}
theorem MkB.lt (h:MkB w t g n f):g<w.heap.size:=(Kab.1 h).1
theorem MkB.cell (h:MkB w t g n f) {i:Nat} (hi:i<n):w.cell? ⟨g,i,none⟩=some (f i):=by
 rw [Kaa w g i _ t (0,0) h]
 simp [hi]
theorem MkB.free (h:MkB w t g n f) (k:Nat):w.frozen? ⟨g,k,none⟩=false:=by
 unfold MkB at h
 simp [World.frozen?,h]
theorem MkB.set (h:MkB w t g n f) {i:Nat} (hi:i<n) (v:Value) (f':Nat→Value) (hf:∀ a,f' a=if a=i then v else f a):MkB (w.setCell ⟨g,i,none⟩ v) t g n f':=by
 unfold MkB at h ⊢
 have e:((List.range n).map f).set i v=(List.range n).map f':=by
  apply List.ext_getElem?
  intro a
  rw [List.getElem?_set]
  by_cases hai:i=a
  ·subst hai
   simp [hi,hf]
  ·rw [if_neg hai]
   by_cases ha:a<n
   ·have hai':¬ a=i:=fun e=>hai e.symm
    simp [ha,hf,hai']
   ·simp [ha]
 simp [World.setCell,Array.getElem?_modify,h,e]
theorem MkB.drew (h:MkB w t g n f):MkB w.drew t g n f:=h
theorem MkB.below {B:Nat} (h:MkB w t g n f) (hb:Below B w w') (hg:g<B):MkB w' t g n f:=(hb.block g hg).trans h
theorem MkB.next (h:MkB w t g n f) (hb:Below w.heap.size w w'):MkB w' t g n f:=h.below hb h.lt
theorem Zaf {B:Nat} {a w:World} {g k:Nat} (h:Below B a w) (hg:B≤g) (v:Value):Below B a (w.setCell ⟨g,k,none⟩ v):=by
 refine ⟨h.os,h.tape,h.output,by simpa [World.setCell] using h.size,fun b hb => ?_⟩
 rw [←h.block b hb]
 simp only [World.setCell,Array.getElem?_modify]
 split
 ·rename_i e
  have:g=b:=e
  omega
 ·rfl
end
def bI (b:Bool):Value:=.int .i64 (if b then 1 else 0)
theorem Zfw (n:Nat) (hn:n≤1099511627776) (w:World) (e:Int) (he:e=n):
  (Instr.makeSlice 41 (.int .i64 e) (.int .i64 e)).run Tryz.prog w=.ok (.slice (some ⟨w.heap.size,0,none⟩) n n) (w.alloc (.cells ((List.range n).map fun _=>bI false).toArray 3)):=by
 obtain ⟨i0,hi0,hz0,hz1,hz2⟩:=info_parts ZcB
 have hr:=run_make (P := Tryz.prog) w 41 3 i0 (.int .i64 0) Tryz.underlying41 hi0 hz0 .i64 .i64 e e (by omega) (by omega) (by rw [hz2];omega) (by omega)
 rw [hr,he,hz1]
 have:(madeCells (Value.int .i64 0).cells ((n:Int).toNat*1))=((List.range n).map fun _=>bI false).toArray:=by
  apply Array.ext'
  rw [show (Value.int .i64 0).cells=#[Value.int .i64 0] from rfl,toList_madeCells_one]
  simp [bI]
  symm
  rw [List.eq_replicate_iff]
  simp
 rw [this]
 rfl
theorem Zd4:∀ (es:List EI) (k i:Nat) (e:EI),exsOk k es=true→es[i]?=some e→exOk (k+i) e=true
 | [],k,i,e,h,he=>by simp at he
 | x::es,k,0,e,h,he=>by
  simp at he
  subst he
  unfold exsOk at h
  rw [Bool.and_eq_true] at h
  exact h.1
 | x::es,k,i+1,e,h,he=>by
  unfold exsOk at h
  rw [Bool.and_eq_true] at h
  have:=Zd4 es (k+1) i e h.2 (by simpa using he)
  rwa [show k+1+i=k+(i+1) by omega] at this
theorem Zc0 {es:List EI} (h:exsOk 0 es=true) {i:Nat} {e:EI} (he:es[i]?=some e) {k:Nat} {d:Int} (hd:e.args[k]?=some d):0≤d∧d<(i:Int):=by
 have h1:=Zd4 es 0 i e h he
 rw [Nat.zero_add] at h1
 unfold exOk at h1
 rw [Bool.and_eq_true,List.all_eq_true] at h1
 have:=h1.2 d (Kam hd)
 unfold argOk at this
 rw [Bool.and_eq_true] at this
 exact ⟨of_decide_eq_true this.1,of_decide_eq_true this.2⟩
theorem Zir (l:List Int) {k a:Nat} (h:l[k]?=some (a:Int)) (x:Nat):(l.take (k+1)).any (fun b=>b==(x:Int))=((l.take k).any (fun b=>b==(x:Int))||decide (x=a)):=by
 obtain ⟨hi,he⟩:=Kaf.1 h
 rw [List.take_succ_eq_append_getElem hi,List.any_append,he]
 simp only [List.any_cons,List.any_nil,Bool.or_false]
 by_cases hx:x=a
 ·subst hx;simp
 ·have:((a:Int)==(x:Int))=false:=by rw [Kaj];omega
  rw [this]
  simp [hx]
theorem Zko {l:List Int} {i k:Nat} (h:∀ (j:Nat) (d:Int),l[j]?=some d→d<(i:Int)):(l.take k).any (fun b=>b==(i:Int))=false:=by
 rw [List.any_eq_false]
 intro x hx
 obtain ⟨j,hj,he⟩:=List.getElem_of_mem (List.mem_of_mem_take hx)
 have:=h j x (by rw [Kad hj,he])
 simp
 omega
def mrkK (m:Nat→Bool) (i:Nat) (l:List Int) (k:Nat):Nat→Bool:=fun a=>m a||(m i&&(l.take k).any fun b=>b==(a:Int))
theorem ZcF (m:Nat→Bool) (i:Nat) (l:List Int):mrkK m i l 0=m:=by
 funext a
 unfold mrkK
 simp
theorem ZcG {m:Nat→Bool} {i k:Nat} {l:List Int} (h:∀ (j:Nat) (d:Int),l[j]?=some d→d<(i:Int)):mrkK m i l k i=m i:=by
 unfold mrkK
 rw [Zko h]
 simp
theorem ZcH (m:Nat→Bool) (i:Nat) (l:List Int) {k a:Nat} (h:l[k]?=some (a:Int)) (x:Nat):mrkK m i l (k+1) x=if x=a then (mrkK m i l k a||m i) else mrkK m i l k x:=by
 unfold mrkK
 rw [Zir l h]
 by_cases hx:x=a
 ·subst hx
  rw [if_pos rfl]
  cases m x <;> cases m i <;> simp
 ·rw [if_neg hx]
  simp [hx]
theorem Zbv {es:List EI} {root i:Nat} {e:EI} (he:es[i]?=some e) (m:Nat→Bool):markP es root (i+1) m=markP es root i (mrkK m i e.args e.args.length):=by
 show markP es root i (fun a=>m a||(m i&&((es[i]?.map EI.args).getD []).any fun b=>b==(a:Int)))=_
 rw [he]
 unfold mrkK
 rw [List.take_length]
 rfl
theorem Zis (cb:Nat) (EA:Option Addr) (ne ec:Nat) (es:List EI) (root:Nat) (w:World) (hne:ne=es.length) (hr:root<ne) (hn:ne≤100000) (hRd:RdEI w w.heap.size EA es)
  (hcb:cb<w.heap.size) (hc:w.cell? ⟨cb,1,none⟩=some (.slice EA ne ec)) (hok:exsOk 0 es=true):
  Calls Tryz.prog 151 #[.pointer (some ⟨cb,0,none⟩),.int .i64 root] w fun e w'=>e=.returned (.slice (some ⟨w.heap.size,0,none⟩) (root+1) (root+1))∧MkB w' 3 w.heap.size (root+1) (fun i=>bI (Zac es root i))∧Below w.heap.size w w':=by
 have HNE:=hid hne
 have HRD:=hid hRd
 have HOK:=hid hok
 have HC:=hid (fun W (hW:Below w.heap.size w W)=>(hW.cell (p:=⟨cb,1,none⟩) hcb).trans hc)
 obtain ⟨W0,hW0⟩:∃ W0,W0=w.alloc (.cells ((List.range (root+1)).map fun _=>bI false).toArray 3):=⟨_,rfl⟩
 have hm0:MkB W0 3 w.heap.size (root+1) (fun _=>bI false):=by rw [hW0];exact Kac w _
 have hb0:Below w.heap.size w W0:=by rw [hW0];exact (Kai _ _).alloc (Kag _) _
 have HM0:=hid hm0
 have HB0:=hid hb0
 have fr0:W0.frozen? ⟨w.heap.size,root,none⟩=false:=hm0.free root
 have hi0:(0:Int)≤(root:Int):=by omega
 have hi1:(root:Int)<((root+1:Nat):Int):=by omega
 have cw0:=hm0.cell (i:=root) (by omega)
 have hmk:(Instr.makeSlice 41 (.int .i64 ((root:Int)+1)) (.int .i64 ((root:Int)+1))).run Tryz.prog w=.ok (.slice (some ⟨w.heap.size,0,none⟩) (root+1) (root+1)) W0:=by
  rw [hW0];exact Zfw (root+1) (by omega) w ((root:Int)+1) (by simp)
 clear hW0 hm0 hb0 hne hRd hok hc
 go_enter Tryz.func151,Tryz.ntmps151
 go_wp2
 have HM1:=hid (HM0.out.set (i:=root) (by omega) (.int .i64 1) (fun a=>bI (a==root)) (fun a=>by
  by_cases h:a=root
  ·subst h;simp [bI]
  ·simp [bI,h]))
 have HB1:=hid (Zaf (k:=root) HB0.out (Kag _) (.int .i64 1))
 clear fr0 cw0 hmk HM0 HB0 hi0 hi1
 go_loopw [6] (fun iv wr=>(∃ (j:Nat) (m:Nat→Bool),j≤root+1∧iv=.int .i64 ((j:Int)-1)∧Zac es root=markP es root j m∧MkB wr 3 w.heap.size (root+1) (fun a=>bI (m a)))∧Below w.heap.size w wr) (fun iv _=>(intOf iv+1).toNat)
 case atStart=>exact ⟨⟨root+1,fun a=>a==root,Kag _,(by rw [show ((root+1:Nat):Int)-1=(root:Int) by omega]),rfl,HM1.out⟩,HB1.out⟩
 case round=>
  clear HM1 HB1
  obtain ⟨⟨j,m,hj,rfl,hwm,hM⟩,hb⟩:=hrel
  have HW:=hid hwm
  have HM:=hid hM
  have HB:=hid hb
  clear hwm hM hb
  match j,hj,HW with
  | 0,hj,HW=>
   rw [show (((0:Nat):Int)-1) = -1 by omega]
   go_wp2
   go_ret
   exact ⟨rfl,by rw [HW.out];exact HM.out,HB.out⟩
  | i+1,hj,HW=>
   rw [show (((i+1:Nat):Int)-1)=(i:Int) by omega]
   have ht:es[i]?=some (es[i]'(by rw [←HNE.out];omega)):=Kad _
   obtain ⟨d,hd⟩:∃ d,d=es[i]'(by rw [←HNE.out];omega):=⟨_,rfl⟩
   rw [←hd] at ht
   have HT:=hid ht
   obtain ⟨b,o,rfl,hbl,c0,c1,c2,⟨A',c',c3,c3r,c3n,-⟩,c4⟩:=(HRD.out.below HB.out).at_ ht
   have cc:=HC.out _ HB.out
   have i0:(0:Int)≤(i:Int):=by omega
   have i1:(i:Int)<(ne:Int):=by omega
   obtain ⟨dk,dn,du,da,dp⟩:=d
   dsimp only at c3 c3r c3n
   obtain ⟨al,hal⟩:∃ al,al=da.length:=⟨_,rfl⟩
   rw [←hal] at c3 c3n
   have HAL:=hid hal
   have HDR:=hid (show ∀ W,Below w.heap.size w W→Rd W w.heap.size A' (da.map VI) from fun W hW=>by
    obtain ⟨b2,o2,e2,_,_,_,_,⟨A2,c2,f3,f3r,_⟩,_⟩:=(HRD.out.below hW).at_ ht
    injection e2 with e2
    injection e2 with e2 e3 _
    subst e2 e3
    obtain ⟨b4,o4,e4,hb4,_,_,_,⟨A4,c4',f4,f4r,_⟩,_⟩:=HRD.out.at_ ht
    injection e4 with e4
    injection e4 with e4 e5 _
    subst e4 e5
    have:(W.cell? ⟨b,o+i*5+3,none⟩)=wr.cell? ⟨b,o+i*5+3,none⟩:=(hW.cell (p:=⟨b,_,none⟩) hb4).trans (HB.out.cell (p:=⟨b,_,none⟩) hb4).symm
    rw [f3,c3] at this
    injection this with this
    injection this with this _ _
    rw [←this]
    exact f3r)
   clear ht hd c3r c0 c1 c2 c4 hal
   go_wp2
   have hsm:=hid (fun (k:Nat) (x:Int) (hx:da[k]?=some x)=>Zc0 HOK.out HT.out hx)
   clear cc c3 i0 i1
   go_loopw [30] (fun kv wr=>(∃ k:Nat,k≤al∧kv=.int .i64 k∧MkB wr 3 w.heap.size (root+1) (fun a=>bI (mrkK m i da k a)))∧Below w.heap.size w wr) (fun kv _=>al-(intOf kv).toNat)
   case atStart=>exact ⟨⟨0,by omega,rfl,by rw [ZcF];exact HM.out⟩,HB.out⟩
   case round=>
    clear HM HB
    obtain ⟨⟨k,hk,rfl,hM⟩,hb⟩:=hrel
    have HM:=hid hM
    have HB:=hid hb
    clear hM hb
    by_cases hlk:k<al
    ·have ht:da[k]?=some (da[k]'(by rw [←HAL.out];exact hlk)):=Kad _
     obtain ⟨x,hx⟩:∃ d,d=da[k]'(by rw [←HAL.out];exact hlk):=⟨_,rfl⟩
     rw [←hx] at ht
     obtain ⟨x0,x1⟩:=hsm.out k x ht
     obtain ⟨a,rfl⟩:∃ a:Nat,x=(a:Int):=⟨x.toNat,by omega⟩
     have ha:a<i:=by omega
     obtain ⟨b2,o2,rfl,hbl2,d0⟩:=(HDR.out _ HB.out).at_ (show (da.map VI)[k]?=some (VI (a:Int)) by rw [Kal,ht];rfl)
     unfold VI at d0
     have k0:(0:Int)≤(k:Int):=by omega
     have k1:(k:Int)<(al:Int):=by omega
     have a0:(0:Int)≤(a:Int):=by omega
     have a1:(a:Int)<((root+1:Nat):Int):=by omega
     have i0:(0:Int)≤(i:Int):=by omega
     have i1:(i:Int)<((root+1:Nat):Int):=by omega
     have ca:=HM.out.cell (i:=a) (by omega)
     have ci:=HM.out.cell (i:=i) (by omega)
     rw [ZcG (fun j d hd=>(hsm.out j d hd).2)] at ci
     have fa:=HM.out.free a
     have HST:=hid (fun v (hv:v=bI (mrkK m i da k a||m i))=>HM.out.drew.set (i:=a) (by omega) v (fun y=>bI (mrkK m i da (k+1) y)) (fun y=>by
      rw [ZcH m i da ht y,hv]
      split <;> rfl))
     have HBT:=hid (fun v=>Zaf (k:=a) HB.out.drew (Kag _) v)
     obtain ⟨ba,hba⟩:∃ ba,ba=mrkK m i da k a:=⟨_,rfl⟩
     rw [←hba] at ca HST
     obtain ⟨bi,hbi⟩:∃ bi,bi=m i:=⟨_,rfl⟩
     rw [←hbi] at ci HST
     clear ht hx hba hbi hbl2 x0 x1
     cases ba <;> cases bi
     all_goals
      simp only [bI,if_true,Bool.false_eq_true,if_false] at ca ci
      go_wp2_with fail
      go_region
      all_goals
       go_wp2
       exact ⟨⟨⟨k+1,by omega,rfl,HST.out _ rfl⟩,HBT.out _⟩,by simp [intOf];omega⟩
    ·obtain rfl:al=k:=by omega
     have HX:=hid (show Zac es root=markP es root i (mrkK m i da al) from by rw [HW.out,Zbv HT.out,HAL.out])
     clear hk hlk
     go_wp2
     exact ⟨⟨⟨i,_,by omega,rfl,HX.out,HM.out⟩,HB.out⟩,by simp [intOf]⟩
def findV:List (ByteArray × Value)→ByteArray→Option Value
 | [],_=>none
 | p::r,n=>if n==p.1 then some p.2 else findV r n
def NamM (w:World) (g:Nat) (ns:List (ByteArray × Value)):Prop:=∃ (es:Array MapEntry) (clock:Nat),w.heap[g]?=some (.map es clock)∧es.toList.map (fun e=>(e.key,e.val))=ns.map fun p=>(Value.string p.1,p.2)
theorem Zbx (n:ByteArray):∀ (l:List MapEntry) (ns:List (ByteArray × Value)) (k:Nat),l.map (fun e=>(e.key,e.val))=ns.map (fun p=>(Value.string p.1,p.2)) →
  (findV ns n=none∧Instr.findNow .string (.string n) l k=some none)∨∃ v i,findV ns n=some v∧Instr.findNow .string (.string n) l k=some (some (i,v))
 | [],[],k,_=>.inl ⟨rfl,rfl⟩
 | e::l,p::ns,k,h=>by
  rw [List.map_cons,List.map_cons] at h
  injection h with h1 h2
  injection h1 with h3 h4
  have hs:Instr.sameNow .string (.string n) e.key=some (n==p.1):=by rw [h3];rfl
  unfold findV Instr.findNow
  rw [hs]
  cases hn:(n==p.1) with
  | true=>
   simp only [if_true]
   exact .inr ⟨p.2,k,rfl,by simp [h4]⟩
  | false=>
   simp only [Bool.false_eq_true,if_false]
   exact Zbx n l ns (k+1) h2
 | [],p::ns,k,h=>by simp at h
 | e::l,[],k,h=>by simp at h
theorem Zhz (w:World):(zeroValue 41).run Tryz.prog w=.ok (.slice none 0 0) w:=by kernel_rfl
theorem Zbn {w:World} {g:Nat} {ns:List (ByteArray × Value)} (h:NamM w g ns) (n:ByteArray):
  (Instr.lookup 183 (.map (some g)) (.string n) true).run Tryz.prog w=.ok (.tuple #[(findV ns n).getD (.slice none 0 0),.bool (findV ns n).isSome]) w:=by
 obtain ⟨es,clock,hg,he⟩:=h
 unfold Instr.lookup
 simp only [Sem.run_bind,run_underlying Tryz.underlying183,Result.andThen_ok,Go.MapKept.run_getObj_map hg,Sem.run_pure]
 rw [Go.MapKept.run_checkKey Tryz.underlying9 (show Go.MapKept.IsKey .string (.string n) from trivial)]
 simp only [Result.andThen_ok]
 rcases Zbx n es.toList ns 0 he with ⟨h1,h2⟩ | ⟨v,i,h1,h2⟩
 ·rw [Go.MapKept.run_findKey Tryz.underlying9 h2,h1]
  simp [Sem.run_bind,Zhz,Sem.run_pure]
 ·rw [Go.MapKept.run_findKey Tryz.underlying9 h2,h1]
  simp [Sem.run_bind,Sem.run_pure]
def chkN:ByteArray:=⟨#[99,104,101,99,107]⟩
theorem Zb8 (code at_:Int) (w:World) (hg:ETyped w):Calls Tryz.prog 94 #[.int .i64 code,.int .i64 at_] w (OutE w [(chkN,at_)] code):=by
 have HW:=hid (ZdE code chkN at_ w hg)
 unfold chkN at HW
 clear hg
 go_enter Tryz.func94,Tryz.ntmps94
 go_wp2_with (go_at_call 53;refine HW.out.mono ?_;rintro e w' ⟨v,rfl,hv,hb⟩)
 go_ret
 exact ⟨_,rfl,hv,hb⟩
def NamR (X:Nat→Prop) (w:World):List (ByteArray × Value)→Names→Prop
 | [],[]=>True
 | p::ps,q::qs=>p.1=q.1∧ShV X w p.2 q.2∧Zad q.2≠0∧NamR X w ps qs
 | _,_=>False
theorem NamR.keep {X:Nat→Prop} {w w':World} (hk:KeepX X w w'):∀ {ps:List (ByteArray × Value)} {qs:Names},NamR X w ps qs→NamR X w' ps qs
 | [],[],_=>trivial
 | p::ps,q::qs,h=>⟨h.1,h.2.1.keep hk,h.2.2.1,NamR.keep hk h.2.2.2⟩
 | [],_::_,h=>h
 | _::_,[],h=>h
theorem NamR.append {X:Nat→Prop} {w:World} {n:ByteArray} {v:Value} {l:List Int} (hv:ShV X w v l) (he:Zad l≠0):∀ {ps:List (ByteArray × Value)} {qs:Names},NamR X w ps qs→NamR X w (ps++[(n,v)]) (qs++[(n,l)])
 | [],[],_=>⟨rfl,hv,he,trivial⟩
 | p::ps,q::qs,h=>⟨h.1,h.2.1,h.2.2.1,NamR.append hv he h.2.2.2⟩
 | [],_::_,h=>h.elim
 | _::_,[],h=>h.elim
theorem ZbG (a b:ByteArray):(a==b)=decide (a.toList=b.toList):=by
 rw [ByteArray.toList_eq,ByteArray.toList_eq]
 show (a.data==b.data)=_
 by_cases h:a.data=b.data
 ·rw [h]
  simp
 ·have h2:¬ a.data.toList=b.data.toList:=fun e=>h (Array.ext' e)
  rw [Kaj.2 h,decide_eq_false h2]
theorem NamR.find {X:Nat→Prop} {w:World} (n:ByteArray):∀ {ps:List (ByteArray × Value)} {qs:Names},NamR X w ps qs →
  (findV ps n=none∧findN qs n=none)∨∃ v l,findV ps n=some v∧findN qs n=some l∧ShV X w v l∧Zad l≠0
 | [],[],_=>.inl ⟨rfl,rfl⟩
 | p::ps,q::qs,h=>by
  obtain ⟨t,l⟩:=q
  unfold findV findN
  rw [ZbG,h.1]
  by_cases e:t.toList=n.toList
  ·rw [if_pos e]
   have:decide (n.toList=t.toList)=true:=by simp [e]
   rw [this]
   exact .inr ⟨p.2,l,rfl,rfl,h.2.1,h.2.2.1⟩
  ·rw [if_neg e]
   have:decide (n.toList=t.toList)=false:=decide_eq_false fun h=>e h.symm
   rw [this]
   exact NamR.find n h.2.2.2
 | [],_::_,h=>h.elim
 | _::_,[],h=>h.elim
def ckX (cb g sg:Nat) (k:Nat):Prop:=k=cb∨k=g∨k=sg
structure CkSt (w:World) (B cb g sg:Nat) (SA EA:Option Addr) (ns sc ne ec:Nat) (names:Names) (shapes:List (List Int)):Prop where
 b1:B≤cb
 b2:B≤g
 b3:B≤sg
 n1:cb≠g
 n2:cb≠sg
 n3:g≠sg
 hc:w.heap[cb]?=some (.cells #[.slice SA ns sc,.slice EA ne ec,.map (some g),.slice (some ⟨sg,0,none⟩) ne ne] 185 (0,0))
 hn:∃ nv,NamM w g nv∧NamR (ckX cb g sg) w nv names
 hs:∃ svs:List Value,w.heap[sg]?=some (.cells svs.toArray 41 (0,0))∧svs.length=ne∧shapes.length=ne∧∀ (j:Nat) (v:Value) (l:List Int),svs[j]?=some v→shapes[j]?=some l→ShV (ckX cb g sg) w v l
section
variable {w w':World} {B cb g sg ns sc ne ec:Nat} {SA EA:Option Addr} {names:Names} {shapes:List (List Int)}
theorem CkSt.lt (h:CkSt w B cb g sg SA EA ns sc ne ec names shapes):∀ k,ckX cb g sg k→k<w.heap.size:=by
 intro k hk
 rcases hk with rfl | rfl | rfl
 ·exact (Kab.1 h.hc).1
 ·obtain ⟨nv,⟨es,c,h1,_⟩,_⟩:=h.hn
  exact (Kab.1 h1).1
 ·obtain ⟨svs,h1,_⟩:=h.hs
  exact (Kab.1 h1).1
theorem CkSt.ge (h:CkSt w B cb g sg SA EA ns sc ne ec names shapes):∀ k,ckX cb g sg k→B≤k:=by
 intro k hk
 rcases hk with rfl | rfl | rfl
 ·exact h.b1
 ·exact h.b2
 ·exact h.b3
theorem CkSt.next (h:CkSt w B cb g sg SA EA ns sc ne ec names shapes) (hb:Below w.heap.size w w'):CkSt w' B cb g sg SA EA ns sc ne ec names shapes:=by
 have hlt:=h.lt
 obtain ⟨b1,b2,b3,n1,n2,n3,hc,⟨nv,⟨es,c,m1,m2⟩,hr⟩,svs,s1,s2,s3,s4⟩:=h
 exact ⟨b1,b2,b3,n1,n2,n3,(hb.block _ (hlt _ (.inl rfl))).trans hc,⟨nv,⟨es,c,(hb.block _ (hlt _ (.inr (.inl rfl)))).trans m1,m2⟩,hr.keep (KeepX.of hb)⟩,svs,(hb.block _ (hlt _ (.inr (.inr rfl)))).trans s1,s2,s3,fun j v l hv hl=>(s4 j v l hv hl).next hb⟩
theorem CkSt.drewN (h:CkSt w B cb g sg SA EA ns sc ne ec names shapes) (q:Nat):CkSt (w.drewN q) B cb g sg SA EA ns sc ne ec names shapes:=h.next (Zaa (Kai _ _) q)
theorem CkSt.shape (h:CkSt w B cb g sg SA EA ns sc ne ec names shapes) {a:Nat} (ha:a<ne):∃ A c n,w.cell? ⟨sg,a,none⟩=some (.slice A n c)∧n=(shapes.getD a []).length∧ShV (ckX cb g sg) w (.slice A n c) (shapes.getD a []):=by
 obtain ⟨svs,s1,s2,s3,s4⟩:=h.hs
 have h1:svs[a]?=some (svs[a]'(by omega)):=Kad _
 have h2:shapes[a]?=some (shapes[a]'(by omega)):=Kad _
 have hv:=s4 a _ _ h1 h2
 have hd:shapes.getD a []=shapes[a]'(by omega):=by simp [List.getD_eq_getElem?_getD,h2]
 have hcell:w.cell? ⟨sg,a,none⟩=some (svs[a]'(by omega)):=by
  rw [Kaa w sg a _ _ (0,0) s1]
  simp
 rw [hd]
 have hv':=hv
 obtain ⟨A,c,e,_⟩:=hv
 rw [e] at hcell hv'
 exact ⟨A,c,_,hcell,rfl,hv'⟩
theorem CkSt.free (h:CkSt w B cb g sg SA EA ns sc ne ec names shapes) (k:Nat):w.frozen? ⟨sg,k,none⟩=false:=by
 obtain ⟨svs,s1,_⟩:=h.hs
 simp [World.frozen?,s1]
theorem CkSt.set (h:CkSt w B cb g sg SA EA ns sc ne ec names shapes) {a:Nat} (ha:a<ne) {v:Value} {l:List Int} (hv:ShV (ckX cb g sg) w v l):
  CkSt (w.setCell ⟨sg,a,none⟩ v) B cb g sg SA EA ns sc ne ec names (shapes.set a l)∧KeepX (ckX cb g sg) w (w.setCell ⟨sg,a,none⟩ v)∧Below B w (w.setCell ⟨sg,a,none⟩ v):=by
 have hblk:∀ k,k≠sg→(w.setCell ⟨sg,a,none⟩ v).heap[k]?=w.heap[k]?:=fun k hk=>by
  simp only [World.setCell,Array.getElem?_modify]
  rw [if_neg (fun e=>hk e.symm)]
 have hkeep:KeepX (ckX cb g sg) w (w.setCell ⟨sg,a,none⟩ v):=by
  refine ⟨by simp [World.setCell],fun p hp hx => ?_⟩
  unfold World.cell?
  rw [hblk p.block (fun e=>hx (.inr (.inr e)))]
 obtain ⟨b1,b2,b3,n1,n2,n3,hc,⟨nv,⟨es,c,m1,m2⟩,hr⟩,svs,s1,s2,s3,s4⟩:=h
 refine ⟨⟨b1,b2,b3,n1,n2,n3,(hblk cb n2).trans hc,⟨nv,⟨es,c,(hblk g n3).trans m1,m2⟩,hr.keep hkeep⟩,svs.set a v,?_,by simpa using s2,by simpa using s3,?_⟩,hkeep,Zaf (Kai _ _) b3 v⟩
 ·simp [World.setCell,Array.getElem?_modify,s1]
 ·intro j u m hu hm
  rw [List.getElem?_set] at hu hm
  by_cases e:a=j
  ·subst e
   rw [if_pos rfl,if_pos (by omega)] at hu hm
   injection hu with hu
   injection hm with hm
   subst hu hm
   exact hv.keep hkeep
  ·rw [if_neg e] at hu hm
   exact (s4 j u m hu hm).keep hkeep
end
end Go.Proofs.YtghlnncfigkkaaaGreatDoor
