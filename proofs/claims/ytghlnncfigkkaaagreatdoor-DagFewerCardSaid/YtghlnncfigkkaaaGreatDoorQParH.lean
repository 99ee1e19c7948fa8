/-
 Walks of the parser's levels: atom.
-/
import Derived.Test.YtghlnncfigkkaaaGreatDoorQParC
set_option maxRecDepth 100000
set_option maxHeartbeats 2000000
open Go.Lib (hid)
namespace Go.Proofs.YtghlnncfigkkaaaGreatDoor
set_option linter.unusedVariables false
set_option linter.unusedSimpArgs false
open Go.RowKit
attribute [local go_sem ↓] ZaO ZaP
theorem Zlp:(Tryz.prog.info? 3).map (fun i=>(i.zero,i.size,i.bytes))=some (some (.int .i64 0),1,8):=by kernel_rfl
theorem Zlq (l:List Nat):∀ u∈l.map I64,u.oneCell'=true:=by
 intro v hv
 obtain ⟨x,_,rfl⟩:=List.mem_map.1 hv
 rfl
theorem appI {w:World} {ops:Array Oper} {rest:List Oper} {o:Oper} {a:Act} {Q:Exit→Act→World→Prop} (hgd:o.guard=none) (s x:Operand)
  (ho:o.op=.call { callee:=.builtin .append,args:=#[s,x],argTypes:=#[41,41] }) (base:Nat)
  (A:Option Addr) (cap:Nat) (xs:List Nat) (n:Nat) (hn:xs.length=n) (hs:a.eval s=.slice A n cap) (hown:Own w base 3 A cap (xs.map I64))
  (g2:Nat) (hx:a.eval x=.slice (some ⟨g2,0,none⟩) 1 1) (v:Nat) (hb:w.heap[g2]?=some (.cells #[I64 v] 3 (0,0)))
  (hbytes:n+1≤26388279066624) (hbase:base≤w.heap.size)
  (h:∀ A' cap' w',Own w' base 3 A' cap' ((xs++[v]).map I64)→w.grownBy w' (blk A)→(blk A'=blk A∨blk A'=some w.heap.size)→wpList Tryz.prog ops Q rest (a.put o.dst (.slice A' (n+1) cap')) w'):
  wpList Tryz.prog ops Q (o::rest) a w:=by
 obtain ⟨i0,hi0,hz0,hz1,hz2⟩:=info_parts Zlp
 refine Zbu hgd s x 41 ho base 3 i0 _ 8 Tryz.underlying41 hi0 hz0 hz1 hz2 rfl A cap (xs.map I64) n (by rw [Kak];exact hn) hs hown (some ⟨g2,0,none⟩) 1 1 (g2+1) ([v].map I64) rfl hx (Rd.of_block hb (by omega) (by simp)) (fun h=>by cases h) (Zlq [v]) (by simp only [maxLen];omega) (by omega) hbase ?_
 intro A' cap' w' h1 h2 h3
 rw [←List.map_append] at h1
 exact h A' cap' w' h1 h2 h3
section
variable {X:Nat→Prop} {base P tc:Nat} {TA:Option Addr} {L:List Tok} {s:PS}
theorem Zj1 {a w w':World} {A:Option Addr} (h:KT base a w) (hg:w.grownBy w' (blk A)) (hA:∀ k,blk A=some k→a.heap.size≤k):KT base a w':=
 ⟨hg.os.trans h.os,hg.tape.trans h.tape,hg.output.trans h.output,Kah h.size hg.size,fun k o hk hp=>by
  have h1:=h.block k o hk hp
  rw [hg.block k (Kab.1 h1).1 (fun e=>by
   have h2:=hA k e.symm
   have h3:=(Kab.1 hk).1
   omega)]
  exact h1,fun k cs hk=>by
  obtain ⟨c1,h1,e1⟩:=h.stm k cs hk
  refine ⟨c1,?_,e1⟩
  rw [hg.block k (Kab.1 h1).1 (fun e=>by
   have h2:=hA k e.symm
   have h3:=(Kab.1 hk).1
   omega)]
  exact h1⟩
theorem Zff {w w':World} {b cap cap':Nat} {A A':Option Addr} {xs xs':List Value} (h:PM (XA X A) base P TA tc L s w) (ho:Own w b 3 A cap xs) (hb:base≤b) (hg:w.grownBy w' (blk A)) (ho':Own w' b 3 A' cap' xs') (hA':blk A'=blk A∨blk A'=some w.heap.size):PM (XA X A') base P TA tc L s w':=by
 obtain ⟨SA,sc,EA,ec,ev,h⟩:=h
 have hY:∀ k,XA X A' k→XA X A k∨w.heap.size≤k:=fun k hk=>by
  rcases hk with hk | hk
  ·exact .inl (.inl hk)
  ·rcases hA' with e | e
   ·exact .inl (.inr (e.symm.trans hk))
   ·rw [e] at hk
    injection hk with hk
    exact .inr (Nat.le_of_eq hk)
 have hZ:∀ k,(XA X A k∨XA X A' k)→XA X A k∨w.heap.size≤k:=fun k hk=>hk.elim .inl (hY k)
 have hin:∀ g cur,¬ XA X A g→w.heap[g]?=some (.cells cur 3 (0,0))→w'.heap[g]?=some (.cells cur 3 (0,0)):=fun g cur hx hc=>by
  rw [hg.block g (Kab.1 hc).1 (fun e=>hx (.inr e.symm))]
  exact hc
 have hne:∀ (k:Nat) (cs:Array Value) (T:TypeId) (fr:Nat × Nat),w.heap[k]?=some (.cells cs T fr)→T≠3→w'.heap[k]?=some (.cells cs T fr):=fun k cs T fr hk hT=>by
  rw [hg.block k (Kab.1 hk).1 (fun e=>by
   rcases Zhr ho with rfl | ⟨g,cur,rfl,_,hc⟩
   ·simp [blk] at e
   ·have e':k=g:=by simpa [blk] using e
    subst e'
    rw [hc] at hk
    injection hk with hk
    injection hk with _ hk _
    exact hT hk.symm)]
  exact hk
 have hlow:∀ k,k<base→w'.heap[k]?=w.heap[k]?:=fun k hk=>hg.block k (by have:=h.base_le;omega) (fun e=>by
  rcases Zhr ho with rfl | ⟨g,cur,rfl,hbg,hc⟩
  ·simp [blk] at e
  ·have e':k=g:=by simpa [blk] using e
   omega)
 have herr:∀ {l:List (ByteArray × Int)} {v:Value} {code:Int},IsErr w v l code→IsErr w' v l code:=by
  intro l
  induction l with
  | nil=>intro v code h;exact h
  | cons p r ih=>
   intro v code h
   obtain ⟨a,inner,rfl,hc,hi⟩:=h
   exact ⟨a,inner,rfl,hne a _ _ _ hc (by decide),ih hi⟩
 refine ⟨SA,sc,EA,ec,ev,h.hb,hne P _ _ _ h.blk (by decide),?_,?_,?_,?_,?_,h.etb,h.len,h.ii,h.dd,h.el,h.sl,?_,?_⟩
 ·exact ((h.ownS.re hZ).keep' (fun g cur hx=>hin g cur (fun e=>hx (.inl e))) (fun g cur _ hg'=>hne g _ _ _ hg' (by decide))).re fun k hk=>.inl (.inr hk)
 ·exact ((h.ownE.re hZ).keep' (fun g cur hx=>hin g cur (fun e=>hx (.inl e))) (fun g cur _ hg'=>hne g _ _ _ hg' (by decide))).re fun k hk=>.inl (.inr hk)
 ·have he:=h.err
  cases hc:s.err with
  | none=>rw [hc] at he;exact he
  | some x=>rw [hc] at he;exact herr he
 ·exact h.toks.keep fun p hp=>World.cell?_of_block (hlow _ hp)
 ·have he:=h.ety
  unfold ETyped at he ⊢
  rw [←he]
  exact World.cell?_of_block (hlow _ h.etb)
 ·intro k hk
  rcases hk with hk | hk
  ·exact Kae (h.xx k (.inl hk)) hg.size
  ·exact (ho'.lt k hk).2
 ·obtain ⟨Z,zS,zE⟩:=h.sep
  have hW:∀ (Q:Nat→Prop) k,((XA X A k∨XA X A' k)∨Q k)→(XA X A k∨Q k)∨w.heap.size≤k:=fun Q k hk=>hk.elim (fun x=>(hZ k x).imp_left .inl) (fun x=>.inl (.inr x))
  exact ⟨Z,((zS.re (hW _)).keep' (fun g cur hx=>hin g cur (fun e=>hx (.inl (.inl e)))) (fun g cur _ hg'=>hne g _ _ _ hg' (by decide))).re fun k hk=>.inl (hk.elim (fun x=>.inl (.inr x)) .inr),
   ((zE.re (hW _)).keep' (fun g cur hx=>hin g cur (fun e=>hx (.inl (.inl e)))) (fun g cur _ hg'=>hne g _ _ _ hg' (by decide))).re fun k hk=>.inl (hk.elim (fun x=>.inl (.inr x)) .inr)⟩
theorem PM.errc {w:World} (h:PM X base P TA tc L s w):∃ ev,w.cell? ⟨P,5,none⟩=some ev∧(s.err=none→ev=.nilIface)∧(s.err≠none→∃ t x,ev=.iface t x):=by
 obtain ⟨_,_,_,_,ev,h⟩:=h
 exact ⟨ev,h.c5,h.noErr,h.anErr⟩
theorem tcell {a w:World} {g kd nm ps:Nat} {tx:ByteArray} (T:a.heap[g]?=some (.cells #[.int .i64 kd,.string tx,.int .u64 nm,.int .i64 ps] 155 (0,0))) (h:KT base a w):
  w.cell? ⟨g,0,none⟩=some (.int .i64 kd)∧w.cell? ⟨g,1,none⟩=some (.string tx)∧w.cell? ⟨g,2,none⟩=some (.int .u64 nm)∧w.cell? ⟨g,3,none⟩=some (.int .i64 ps):=by
 have hb:=h.block g _ T (.inr ⟨by decide,by decide⟩)
 exact ⟨Kaa _ _ 0 _ _ _ hb,Kaa _ _ 1 _ _ _ hb,Kaa _ _ 2 _ _ _ hb,Kaa _ _ 3 _ _ _ hb⟩
theorem sOpen:tOpen.toList=[40]:=by unfold tOpen;rw [ByteArray.toList_eq]
theorem ZdX (t:Tok) (h:(callP t).2≠0):t.text.toList≠tOpen.toList:=by
 intro e
 apply h
 unfold callP
 rw [e,sOpen,sRelu,sSum,Zjy,sMax,sMux]
 split <;> rfl
def ZnA (X:Nat→Prop) (base P:Nat) (TA:Option Addr) (tc:Nat) (L:List Tok) (f n:Nat) (wa:World) (R:PS × List Nat) (av iv:Value) (wr:World):Prop:=
 ∃ (f' j:Nat) (s':PS) (l:List Nat) (A:Option Addr) (cap:Nat),f'≤f∧j≤n∧iv=.int .i64 j∧av=.slice A j cap∧l.length=j∧R=argsP L f' (n-j) s' l∧PM (XA X A) base P TA tc L s' wr∧Own wr wa.heap.size 3 A cap (l.map I64)∧KT base wa wr∧12*(L.length-s'.i)+7+(n-j)≤f'
theorem Zlr (f:Nat) (ih:∀ f',f'≤f→AllW base P TA tc L f') (w:World) (s:PS) (h:PM X base P TA tc L s w) (hf:12*(L.length-s.i)+1≤f+1) (x:Nat × Nat) (herr:s.err=some x):
  Calls Tryz.prog 218 #[PP P] w (ZaR X base P TA tc L w (atomP L (f+1) s)):=by
 obtain ⟨he1,he2,he3,he4⟩:=h.el
 obtain ⟨kd,tx,nm,ps,hnow⟩:∃ kd tx nm ps,nowP L s=⟨kd,tx,nm,ps⟩:=⟨_,_,_,_,rfl⟩
 have HNOW:=hid hnow
 have H:=hid h
 have IH:=hid ih
 obtain ⟨ck,cn,hc⟩:∃ ck cn,callP ⟨kd,tx,nm,ps⟩=(ck,cn):=⟨_,_,rfl⟩
 have hcn:cn≤3:=by
  rcases ZaY ⟨kd,tx,nm,ps⟩ with h | h | h | h | h | h <;> rw [hc] at h <;> injection h <;> omega
 have HC:=hid hc
 have hcall:=Zb6 ⟨kd,tx,nm,ps⟩
 rw [hc] at hcall
 have HCALL:=hid hcall
 clear ih h hnow hc hcall
 have HR:=hid (show atomP L (f+1) s=(s,0) from by rw [atomP];simp only [herr];rfl)
 go_enter Tryz.func218,Tryz.ntmps218
 go_wp2_with fail
 refine (Za7 w H.out HNOW.out).mono ?_
 rintro e w1 ⟨rfl,h1,k1,b1⟩
 go_wp2_with fail
 obtain ⟨wa,hwa⟩:∃ wa,wa=w1.alloc (.cells #[.int .i64 kd,.string tx,.int .u64 nm,.int .i64 ps] 155):=⟨_,rfl⟩
 rw [←hwa]
 have T:=hid (show wa.heap[w1.heap.size]?=some (.cells #[.int .i64 kd,.string tx,.int .u64 nm,.int .i64 ps] 155 (0,0)) from by rw [hwa];exact Kac _ _)
 have HA:=hid (show PM X base P TA tc L s wa from by rw [hwa];exact h1.below (Zai w1 _))
 have KA:=hid (show KT base w wa from by rw [hwa];exact k1.trans (KT.below (Zai w1 _)))
 clear hwa h1 k1 b1
 refine (HCALL.out wa).mono ?_
 rintro e w2 ⟨rfl,b2⟩
 have H2:=hid (HA.out.below b2)
 have K2:=hid (KT.below (base:=base) b2)
 obtain ⟨t0,t1,t2,t3⟩:=tcell T.out K2.out
 obtain ⟨ev,c5,hev1,hev2⟩:=H2.out.errc
 clear b2
 obtain ⟨te,xe,rfl⟩:=hev2 (by rw [herr];simp)
 clear hev1 hev2 herr
 go_wp2
 go_ret
 exact ⟨by rw [HR.out];rfl,by rw [HR.out];exact H2.out,KA.out.trans K2.out⟩
theorem Zls (f:Nat) (ih:∀ f',f'≤f→AllW base P TA tc L f') (w:World) (s:PS) (h:PM X base P TA tc L s w) (hf:12*(L.length-s.i)+1≤f+1) (herr:s.err=none) (h2:(nowP L s).kind=2):
  Calls Tryz.prog 218 #[PP P] w (ZaR X base P TA tc L w (atomP L (f+1) s)):=by
 obtain ⟨he1,he2,he3,he4⟩:=h.el
 obtain ⟨kd,tx,nm,ps,hnow⟩:∃ kd tx nm ps,nowP L s=⟨kd,tx,nm,ps⟩:=⟨_,_,_,_,rfl⟩
 have HNOW:=hid hnow
 have H:=hid h
 have IH:=hid ih
 obtain ⟨ck,cn,hc⟩:∃ ck cn,callP ⟨kd,tx,nm,ps⟩=(ck,cn):=⟨_,_,rfl⟩
 have hcn:cn≤3:=by
  rcases ZaY ⟨kd,tx,nm,ps⟩ with h | h | h | h | h | h <;> rw [hc] at h <;> injection h <;> omega
 have HC:=hid hc
 have hcall:=Zb6 ⟨kd,tx,nm,ps⟩
 rw [hc] at hcall
 have HCALL:=hid hcall
 have HERR:=hid herr
 rw [hnow] at h2
 have h2':kd=2:=h2
 have q2:((kd:Int)==2)=true:=by rw [beq_iff_eq];omega
 have Q2:Hid ((kd==2)=true):=by show (kd==2)=true;rw [beq_iff_eq];omega
 have q1:((kd:Int)==1)=false:=by rw [Kaj];omega
 have Q1:Hid ((kd==1)=false):=by show (kd==1)=false;rw [Kaj];omega
 have hlt:s.i<L.length:=ZbX (by rw [HNOW.out];show kd≠0;omega)
 obtain ⟨sc,vc,hC⟩:∃ sc vc,putP (advP s) ⟨1,noB,nm,[],ps⟩=(sc,vc):=⟨_,_,rfl⟩
 have HR:=hid (show atomP L (f+1) s=(sc,vc) from by rw [atomP];simp only [HERR.out,HNOW.out,Q2.out,Q1.out,hC];rfl)
 have HC2:=hid hC
 clear hC herr h2 h2'
 clear ih h hnow hc hcall
 go_enter Tryz.func218,Tryz.ntmps218
 go_wp2_with fail
 refine (Za7 w H.out HNOW.out).mono ?_
 rintro e w1 ⟨rfl,h1,k1,b1⟩
 go_wp2_with fail
 obtain ⟨wa,hwa⟩:∃ wa,wa=w1.alloc (.cells #[.int .i64 kd,.string tx,.int .u64 nm,.int .i64 ps] 155):=⟨_,rfl⟩
 rw [←hwa]
 have T:=hid (show wa.heap[w1.heap.size]?=some (.cells #[.int .i64 kd,.string tx,.int .u64 nm,.int .i64 ps] 155 (0,0)) from by rw [hwa];exact Kac _ _)
 have HA:=hid (show PM X base P TA tc L s wa from by rw [hwa];exact h1.below (Zai w1 _))
 have KA:=hid (show KT base w wa from by rw [hwa];exact k1.trans (KT.below (Zai w1 _)))
 clear hwa h1 k1 b1
 refine (HCALL.out wa).mono ?_
 rintro e w2 ⟨rfl,b2⟩
 have H2:=hid (HA.out.below b2)
 have K2:=hid (KT.below (base:=base) b2)
 obtain ⟨t0,t1,t2,t3⟩:=tcell T.out K2.out
 obtain ⟨ev,c5,hev1,hev2⟩:=H2.out.errc
 clear b2
 obtain rfl:=hev1 HERR.out
 clear hev1 hev2
 obtain ⟨c1,y1,ha,ka⟩:=H2.out.adv hlt
 have H3:=hid ha
 have K3:=hid (K2.out.trans ka)
 clear ha ka
 obtain ⟨u0,u1,u2,u3⟩:=tcell T.out K3.out
 have HPU:=Zcy _ ⟨1,noB,nm,[],ps⟩ (.slice none 0 0) (ZcZ H3.out) (ArgsV.nil _ _ _) (by show s.es.length+1≤s.i+1;omega)
 rw [HC2.out] at HPU
 have HPU:=hid HPU
 go_wp2_with fail
 refine HPU.out.mono ?_
 rintro e w9 ⟨rfl,h9,k9⟩
 have H9:=hid h9
 have K9:=hid ((KA.out.trans K3.out).trans k9)
 clear h9 k9
 go_wp2
 go_ret
 exact ⟨by rw [HR.out];rfl,by rw [HR.out];exact H9.out,K9.out⟩
theorem Zj2 (f:Nat) (ih:∀ f',f'≤f→AllW base P TA tc L f') (w:World) (s:PS) (h:PM X base P TA tc L s w) (hf:12*(L.length-s.i)+1≤f+1) (herr:s.err=none) (h2:(nowP L s).kind=1):
  Calls Tryz.prog 218 #[PP P] w (ZaR X base P TA tc L w (atomP L (f+1) s)):=by
 obtain ⟨he1,he2,he3,he4⟩:=h.el
 obtain ⟨kd,tx,nm,ps,hnow⟩:∃ kd tx nm ps,nowP L s=⟨kd,tx,nm,ps⟩:=⟨_,_,_,_,rfl⟩
 have HNOW:=hid hnow
 have H:=hid h
 have IH:=hid ih
 obtain ⟨ck,cn,hc⟩:∃ ck cn,callP ⟨kd,tx,nm,ps⟩=(ck,cn):=⟨_,_,rfl⟩
 have hcn:cn≤3:=by
  rcases ZaY ⟨kd,tx,nm,ps⟩ with h | h | h | h | h | h <;> rw [hc] at h <;> injection h <;> omega
 have HC:=hid hc
 have hcall:=Zb6 ⟨kd,tx,nm,ps⟩
 rw [hc] at hcall
 have HCALL:=hid hcall
 have HERR:=hid herr
 rw [hnow] at h2
 have h2':kd=1:=h2
 have q2:((kd:Int)==2)=false:=by rw [Kaj];omega
 have Q2:Hid ((kd==2)=false):=by show (kd==2)=false;rw [Kaj];omega
 have q1:((kd:Int)==1)=true:=by rw [beq_iff_eq];omega
 have Q1:Hid ((kd==1)=true):=by show (kd==1)=true;rw [beq_iff_eq];omega
 have hlt:s.i<L.length:=ZbX (by rw [HNOW.out];show kd≠0;omega)
 obtain ⟨sc,vc,hC⟩:∃ sc vc,putP (advP s) ⟨2,tx,0,[],ps⟩=(sc,vc):=⟨_,_,rfl⟩
 have HR:=hid (show atomP L (f+1) s=(sc,vc) from by rw [atomP];simp only [HERR.out,HNOW.out,Q2.out,Q1.out,hC];rfl)
 have HC2:=hid hC
 clear hC herr h2 h2'
 clear ih h hnow hc hcall
 go_enter Tryz.func218,Tryz.ntmps218
 go_wp2_with fail
 refine (Za7 w H.out HNOW.out).mono ?_
 rintro e w1 ⟨rfl,h1,k1,b1⟩
 go_wp2_with fail
 obtain ⟨wa,hwa⟩:∃ wa,wa=w1.alloc (.cells #[.int .i64 kd,.string tx,.int .u64 nm,.int .i64 ps] 155):=⟨_,rfl⟩
 rw [←hwa]
 have T:=hid (show wa.heap[w1.heap.size]?=some (.cells #[.int .i64 kd,.string tx,.int .u64 nm,.int .i64 ps] 155 (0,0)) from by rw [hwa];exact Kac _ _)
 have HA:=hid (show PM X base P TA tc L s wa from by rw [hwa];exact h1.below (Zai w1 _))
 have KA:=hid (show KT base w wa from by rw [hwa];exact k1.trans (KT.below (Zai w1 _)))
 clear hwa h1 k1 b1
 refine (HCALL.out wa).mono ?_
 rintro e w2 ⟨rfl,b2⟩
 have H2:=hid (HA.out.below b2)
 have K2:=hid (KT.below (base:=base) b2)
 obtain ⟨t0,t1,t2,t3⟩:=tcell T.out K2.out
 obtain ⟨ev,c5,hev1,hev2⟩:=H2.out.errc
 clear b2
 obtain rfl:=hev1 HERR.out
 clear hev1 hev2
 obtain ⟨c1,y1,ha,ka⟩:=H2.out.adv hlt
 have H3:=hid ha
 have K3:=hid (K2.out.trans ka)
 clear ha ka
 obtain ⟨u0,u1,u2,u3⟩:=tcell T.out K3.out
 have HPU:=Zcy _ ⟨2,tx,0,[],ps⟩ (.slice none 0 0) (ZcZ H3.out) (ArgsV.nil _ _ _) (by show s.es.length+1≤s.i+1;omega)
 rw [HC2.out] at HPU
 have HPU:=hid HPU
 go_wp2_with fail
 refine HPU.out.mono ?_
 rintro e w9 ⟨rfl,h9,k9⟩
 have H9:=hid h9
 have K9:=hid ((KA.out.trans K3.out).trans k9)
 clear h9 k9
 go_wp2
 go_ret
 exact ⟨by rw [HR.out];rfl,by rw [HR.out];exact H9.out,K9.out⟩
theorem Zho (f:Nat) (ih:∀ f',f'≤f→AllW base P TA tc L f') (w:World) (s:PS) (h:PM X base P TA tc L s w) (hf:12*(L.length-s.i)+1≤f+1) (herr:s.err=none) (h2:(nowP L s).kind≠2) (h1:(nowP L s).kind≠1) (hq:isP L s tOpen=false) (hn0:(callP (nowP L s)).2=0):
  Calls Tryz.prog 218 #[PP P] w (ZaR X base P TA tc L w (atomP L (f+1) s)):=by
 obtain ⟨he1,he2,he3,he4⟩:=h.el
 obtain ⟨kd,tx,nm,ps,hnow⟩:∃ kd tx nm ps,nowP L s=⟨kd,tx,nm,ps⟩:=⟨_,_,_,_,rfl⟩
 have HNOW:=hid hnow
 have H:=hid h
 have IH:=hid ih
 obtain ⟨ck,cn,hc⟩:∃ ck cn,callP ⟨kd,tx,nm,ps⟩=(ck,cn):=⟨_,_,rfl⟩
 have hcn:cn≤3:=by
  rcases ZaY ⟨kd,tx,nm,ps⟩ with h | h | h | h | h | h <;> rw [hc] at h <;> injection h <;> omega
 have HC:=hid hc
 have hcall:=Zb6 ⟨kd,tx,nm,ps⟩
 rw [hc] at hcall
 have HCALL:=hid hcall
 have HERR:=hid herr
 rw [hnow] at h2 h1
 have q2:((kd:Int)==2)=false:=by rw [Kaj];dsimp only at h2;omega
 have Q2:Hid ((kd==2)=false):=by show (kd==2)=false;rw [Kaj];exact h2
 have q1:((kd:Int)==1)=false:=by rw [Kaj];dsimp only at h1;omega
 have Q1:Hid ((kd==1)=false):=by show (kd==1)=false;rw [Kaj];exact h1
 have HAT:=hid (show atomP L (f+1) s=(if (!isP L s tOpen)&&(cn==0) then (failP L s 130,0) else
   if (sinkP L s).2 then
    if cn==0 then (riseP (wantP L (exprP L f (advP (sinkP L s).1)).1 tShut),(exprP L f (advP (sinkP L s).1)).2)
    else putP (riseP (wantP L (argsP L f cn (wantP L (advP (sinkP L s).1) tOpen) []).1 tShut)) ⟨ck,noB,0,(argsP L f cn (wantP L (advP (sinkP L s).1) tOpen) []).2,ps⟩
   else ((sinkP L s).1,0)) from by rw [atomP];simp only [HERR.out,HNOW.out,Q1.out,Q2.out,HC.out];rfl)
 clear herr h2 h1
 rw [hnow,hc] at hn0
 dsimp only at hn0
 have HR:=hid (show atomP L (f+1) s=(failP L s 130,0) from by rw [HAT.out,hq,hn0];rfl)
 have HQ:=hid hq
 subst hn0
 clear hq
 clear ih h hnow hc hcall
 go_enter Tryz.func218,Tryz.ntmps218
 go_wp2_with fail
 refine (Za7 w H.out HNOW.out).mono ?_
 rintro e w1 ⟨rfl,h1,k1,b1⟩
 go_wp2_with fail
 obtain ⟨wa,hwa⟩:∃ wa,wa=w1.alloc (.cells #[.int .i64 kd,.string tx,.int .u64 nm,.int .i64 ps] 155):=⟨_,rfl⟩
 rw [←hwa]
 have T:=hid (show wa.heap[w1.heap.size]?=some (.cells #[.int .i64 kd,.string tx,.int .u64 nm,.int .i64 ps] 155 (0,0)) from by rw [hwa];exact Kac _ _)
 have HA:=hid (show PM X base P TA tc L s wa from by rw [hwa];exact h1.below (Zai w1 _))
 have KA:=hid (show KT base w wa from by rw [hwa];exact k1.trans (KT.below (Zai w1 _)))
 clear hwa h1 k1 b1
 refine (HCALL.out wa).mono ?_
 rintro e w2 ⟨rfl,b2⟩
 have H2:=hid (HA.out.below b2)
 have K2:=hid (KT.below (base:=base) b2)
 obtain ⟨t0,t1,t2,t3⟩:=tcell T.out K2.out
 obtain ⟨ev,c5,hev1,hev2⟩:=H2.out.errc
 clear b2
 obtain rfl:=hev1 HERR.out
 clear hev1 hev2
 go_wp2_with fail
 refine (is_pm _ H2.out tOpen HQ.out).mono ?_
 rintro e w3 ⟨rfl,h9,k9⟩
 have H3:=hid h9
 have K3:=hid (K2.out.trans k9)
 clear h9 k9
 go_wp2_with fail
 refine (Zg6 w3 H3.out 130).mono ?_
 rintro e w4 ⟨⟨v,rfl⟩,h9,k9⟩
 have H4:=hid h9
 have K4:=hid (K3.out.trans k9)
 clear h9 k9
 go_wp2
 go_ret
 exact ⟨by rw [HR.out];rfl,by rw [HR.out];exact H4.out,KA.out.trans K4.out⟩
theorem ZhU (f:Nat) (ih:∀ f',f'≤f→AllW base P TA tc L f') (w:World) (s:PS) (h:PM X base P TA tc L s w) (hf:12*(L.length-s.i)+1≤f+1) (herr:s.err=none) (h2:(nowP L s).kind≠2) (h1:(nowP L s).kind≠1) (hq:isP L s tOpen=true) (hsk0:(sinkP L s).2=false):
  Calls Tryz.prog 218 #[PP P] w (ZaR X base P TA tc L w (atomP L (f+1) s)):=by
 obtain ⟨he1,he2,he3,he4⟩:=h.el
 obtain ⟨kd,tx,nm,ps,hnow⟩:∃ kd tx nm ps,nowP L s=⟨kd,tx,nm,ps⟩:=⟨_,_,_,_,rfl⟩
 have HNOW:=hid hnow
 have H:=hid h
 have IH:=hid ih
 obtain ⟨ck,cn,hc⟩:∃ ck cn,callP ⟨kd,tx,nm,ps⟩=(ck,cn):=⟨_,_,rfl⟩
 have hcn:cn≤3:=by
  rcases ZaY ⟨kd,tx,nm,ps⟩ with h | h | h | h | h | h <;> rw [hc] at h <;> injection h <;> omega
 have HC:=hid hc
 have hcall:=Zb6 ⟨kd,tx,nm,ps⟩
 rw [hc] at hcall
 have HCALL:=hid hcall
 have HERR:=hid herr
 rw [hnow] at h2 h1
 have q2:((kd:Int)==2)=false:=by rw [Kaj];dsimp only at h2;omega
 have Q2:Hid ((kd==2)=false):=by show (kd==2)=false;rw [Kaj];exact h2
 have q1:((kd:Int)==1)=false:=by rw [Kaj];dsimp only at h1;omega
 have Q1:Hid ((kd==1)=false):=by show (kd==1)=false;rw [Kaj];exact h1
 have HAT:=hid (show atomP L (f+1) s=(if (!isP L s tOpen)&&(cn==0) then (failP L s 130,0) else
   if (sinkP L s).2 then
    if cn==0 then (riseP (wantP L (exprP L f (advP (sinkP L s).1)).1 tShut),(exprP L f (advP (sinkP L s).1)).2)
    else putP (riseP (wantP L (argsP L f cn (wantP L (advP (sinkP L s).1) tOpen) []).1 tShut)) ⟨ck,noB,0,(argsP L f cn (wantP L (advP (sinkP L s).1) tOpen) []).2,ps⟩
   else ((sinkP L s).1,0)) from by rw [atomP];simp only [HERR.out,HNOW.out,Q1.out,Q2.out,HC.out];rfl)
 clear herr h2 h1
 have hlt:=ZaD hq
 have hn0:cn=0:=by
  by_cases hz:cn=0
  ·exact hz
  ·exact absurd (by have:=(Zfg hq).2.2;rw [HNOW.out] at this;exact this) (ZdX ⟨kd,tx,nm,ps⟩ (by rw [HC.out];exact hz))
 subst hn0
 have HAT2:=hid (HAT.out)
 rw [hq] at HAT2
 have HQ:=hid hq
 clear hq
 obtain ⟨sk,hk⟩:∃ sk,sinkP L s=(sk,false):=⟨_,by rw [←hsk0]⟩
 have HR:=hid (show atomP L (f+1) s=(sk,0) from by rw [HAT2.out];simp only [hk];rfl)
 have HKK:=hid hk
 clear hk hsk0
 clear ih h hnow hc hcall
 go_enter Tryz.func218,Tryz.ntmps218
 go_wp2_with fail
 refine (Za7 w H.out HNOW.out).mono ?_
 rintro e w1 ⟨rfl,h1,k1,b1⟩
 go_wp2_with fail
 obtain ⟨wa,hwa⟩:∃ wa,wa=w1.alloc (.cells #[.int .i64 kd,.string tx,.int .u64 nm,.int .i64 ps] 155):=⟨_,rfl⟩
 rw [←hwa]
 have T:=hid (show wa.heap[w1.heap.size]?=some (.cells #[.int .i64 kd,.string tx,.int .u64 nm,.int .i64 ps] 155 (0,0)) from by rw [hwa];exact Kac _ _)
 have HA:=hid (show PM X base P TA tc L s wa from by rw [hwa];exact h1.below (Zai w1 _))
 have KA:=hid (show KT base w wa from by rw [hwa];exact k1.trans (KT.below (Zai w1 _)))
 clear hwa h1 k1 b1
 refine (HCALL.out wa).mono ?_
 rintro e w2 ⟨rfl,b2⟩
 have H2:=hid (HA.out.below b2)
 have K2:=hid (KT.below (base:=base) b2)
 obtain ⟨t0,t1,t2,t3⟩:=tcell T.out K2.out
 obtain ⟨ev,c5,hev1,hev2⟩:=H2.out.errc
 clear b2
 obtain rfl:=hev1 HERR.out
 clear hev1 hev2
 go_wp2_with fail
 refine (is_pm _ H2.out tOpen HQ.out).mono ?_
 rintro e w3 ⟨rfl,h9,k9⟩
 have H3:=hid h9
 have K3:=hid (K2.out.trans k9)
 clear h9 k9
 go_wp2_with fail
 refine (Zdn w3 H3.out HKK.out).mono ?_
 rintro e w4 ⟨rfl,h9,k9⟩
 have H4:=hid h9
 have K4:=hid (K3.out.trans k9)
 clear h9 k9
 go_wp2
 go_ret
 exact ⟨by rw [HR.out];rfl,by rw [HR.out];exact H4.out,KA.out.trans K4.out⟩
theorem ZhV (f:Nat) (ih:∀ f',f'≤f→AllW base P TA tc L f') (w:World) (s:PS) (h:PM X base P TA tc L s w) (hf:12*(L.length-s.i)+1≤f+1) (herr:s.err=none) (h2:(nowP L s).kind≠2) (h1:(nowP L s).kind≠1) (hq:isP L s tOpen=false) (hn0:(callP (nowP L s)).2≠0) (hsk0:(sinkP L s).2=false):
  Calls Tryz.prog 218 #[PP P] w (ZaR X base P TA tc L w (atomP L (f+1) s)):=by
 obtain ⟨he1,he2,he3,he4⟩:=h.el
 obtain ⟨kd,tx,nm,ps,hnow⟩:∃ kd tx nm ps,nowP L s=⟨kd,tx,nm,ps⟩:=⟨_,_,_,_,rfl⟩
 have HNOW:=hid hnow
 have H:=hid h
 have IH:=hid ih
 obtain ⟨ck,cn,hc⟩:∃ ck cn,callP ⟨kd,tx,nm,ps⟩=(ck,cn):=⟨_,_,rfl⟩
 have hcn:cn≤3:=by
  rcases ZaY ⟨kd,tx,nm,ps⟩ with h | h | h | h | h | h <;> rw [hc] at h <;> injection h <;> omega
 have HC:=hid hc
 have hcall:=Zb6 ⟨kd,tx,nm,ps⟩
 rw [hc] at hcall
 have HCALL:=hid hcall
 have HERR:=hid herr
 rw [hnow] at h2 h1
 have q2:((kd:Int)==2)=false:=by rw [Kaj];dsimp only at h2;omega
 have Q2:Hid ((kd==2)=false):=by show (kd==2)=false;rw [Kaj];exact h2
 have q1:((kd:Int)==1)=false:=by rw [Kaj];dsimp only at h1;omega
 have Q1:Hid ((kd==1)=false):=by show (kd==1)=false;rw [Kaj];exact h1
 have HAT:=hid (show atomP L (f+1) s=(if (!isP L s tOpen)&&(cn==0) then (failP L s 130,0) else
   if (sinkP L s).2 then
    if cn==0 then (riseP (wantP L (exprP L f (advP (sinkP L s).1)).1 tShut),(exprP L f (advP (sinkP L s).1)).2)
    else putP (riseP (wantP L (argsP L f cn (wantP L (advP (sinkP L s).1) tOpen) []).1 tShut)) ⟨ck,noB,0,(argsP L f cn (wantP L (advP (sinkP L s).1) tOpen) []).2,ps⟩
   else ((sinkP L s).1,0)) from by rw [atomP];simp only [HERR.out,HNOW.out,Q1.out,Q2.out,HC.out];rfl)
 clear herr h2 h1
 have hlt:s.i<L.length:=ZbX (by
  rw [hnow]
  intro h0
  dsimp only at h0
  subst h0
  exact hn0 (by rw [hnow];rfl))
 rw [hnow,hc] at hn0
 dsimp only at hn0
 have qn:((cn:Int)==0)=false:=by rw [Kaj];omega
 have qn':(cn==0)=false:=by rw [Kaj];exact hn0
 have HAT2:=hid (HAT.out)
 rw [hq,qn'] at HAT2
 have HQ:=hid hq
 have hcn1:1≤cn:=by omega
 clear hq hn0 qn'
 obtain ⟨sk,hk⟩:∃ sk,sinkP L s=(sk,false):=⟨_,by rw [←hsk0]⟩
 have HR:=hid (show atomP L (f+1) s=(sk,0) from by rw [HAT2.out];simp only [hk];rfl)
 have HKK:=hid hk
 clear hk hsk0
 clear ih h hnow hc hcall
 go_enter Tryz.func218,Tryz.ntmps218
 go_wp2_with fail
 refine (Za7 w H.out HNOW.out).mono ?_
 rintro e w1 ⟨rfl,h1,k1,b1⟩
 go_wp2_with fail
 obtain ⟨wa,hwa⟩:∃ wa,wa=w1.alloc (.cells #[.int .i64 kd,.string tx,.int .u64 nm,.int .i64 ps] 155):=⟨_,rfl⟩
 rw [←hwa]
 have T:=hid (show wa.heap[w1.heap.size]?=some (.cells #[.int .i64 kd,.string tx,.int .u64 nm,.int .i64 ps] 155 (0,0)) from by rw [hwa];exact Kac _ _)
 have HA:=hid (show PM X base P TA tc L s wa from by rw [hwa];exact h1.below (Zai w1 _))
 have KA:=hid (show KT base w wa from by rw [hwa];exact k1.trans (KT.below (Zai w1 _)))
 clear hwa h1 k1 b1
 refine (HCALL.out wa).mono ?_
 rintro e w2 ⟨rfl,b2⟩
 have H2:=hid (HA.out.below b2)
 have K2:=hid (KT.below (base:=base) b2)
 obtain ⟨t0,t1,t2,t3⟩:=tcell T.out K2.out
 obtain ⟨ev,c5,hev1,hev2⟩:=H2.out.errc
 clear b2
 obtain rfl:=hev1 HERR.out
 clear hev1 hev2
 go_wp2_with fail
 refine (is_pm _ H2.out tOpen HQ.out).mono ?_
 rintro e w3 ⟨rfl,h9,k9⟩
 have H3:=hid h9
 have K3:=hid (K2.out.trans k9)
 clear h9 k9
 go_wp2_with fail
 refine (Zdn w3 H3.out HKK.out).mono ?_
 rintro e w4 ⟨rfl,h9,k9⟩
 have H4:=hid h9
 have K4:=hid (K3.out.trans k9)
 clear h9 k9
 go_wp2
 go_ret
 exact ⟨by rw [HR.out];rfl,by rw [HR.out];exact H4.out,KA.out.trans K4.out⟩
theorem ZhW (f:Nat) (ih:∀ f',f'≤f→AllW base P TA tc L f') (w:World) (s:PS) (h:PM X base P TA tc L s w) (hf:12*(L.length-s.i)+1≤f+1) (herr:s.err=none) (h2:(nowP L s).kind≠2) (h1:(nowP L s).kind≠1) (hq:isP L s tOpen=true) (hsk0:(sinkP L s).2=true):
  Calls Tryz.prog 218 #[PP P] w (ZaR X base P TA tc L w (atomP L (f+1) s)):=by
 obtain ⟨he1,he2,he3,he4⟩:=h.el
 obtain ⟨kd,tx,nm,ps,hnow⟩:∃ kd tx nm ps,nowP L s=⟨kd,tx,nm,ps⟩:=⟨_,_,_,_,rfl⟩
 have HNOW:=hid hnow
 have H:=hid h
 have IH:=hid ih
 obtain ⟨ck,cn,hc⟩:∃ ck cn,callP ⟨kd,tx,nm,ps⟩=(ck,cn):=⟨_,_,rfl⟩
 have hcn:cn≤3:=by
  rcases ZaY ⟨kd,tx,nm,ps⟩ with h | h | h | h | h | h <;> rw [hc] at h <;> injection h <;> omega
 have HC:=hid hc
 have hcall:=Zb6 ⟨kd,tx,nm,ps⟩
 rw [hc] at hcall
 have HCALL:=hid hcall
 have HERR:=hid herr
 rw [hnow] at h2 h1
 have q2:((kd:Int)==2)=false:=by rw [Kaj];dsimp only at h2;omega
 have Q2:Hid ((kd==2)=false):=by show (kd==2)=false;rw [Kaj];exact h2
 have q1:((kd:Int)==1)=false:=by rw [Kaj];dsimp only at h1;omega
 have Q1:Hid ((kd==1)=false):=by show (kd==1)=false;rw [Kaj];exact h1
 have HAT:=hid (show atomP L (f+1) s=(if (!isP L s tOpen)&&(cn==0) then (failP L s 130,0) else
   if (sinkP L s).2 then
    if cn==0 then (riseP (wantP L (exprP L f (advP (sinkP L s).1)).1 tShut),(exprP L f (advP (sinkP L s).1)).2)
    else putP (riseP (wantP L (argsP L f cn (wantP L (advP (sinkP L s).1) tOpen) []).1 tShut)) ⟨ck,noB,0,(argsP L f cn (wantP L (advP (sinkP L s).1) tOpen) []).2,ps⟩
   else ((sinkP L s).1,0)) from by rw [atomP];simp only [HERR.out,HNOW.out,Q1.out,Q2.out,HC.out];rfl)
 clear herr h2 h1
 have hlt:=ZaD hq
 have hn0:cn=0:=by
  by_cases hz:cn=0
  ·exact hz
  ·exact absurd (by have:=(Zfg hq).2.2;rw [HNOW.out] at this;exact this) (ZdX ⟨kd,tx,nm,ps⟩ (by rw [HC.out];exact hz))
 subst hn0
 have HAT2:=hid (HAT.out)
 rw [hq] at HAT2
 have HQ:=hid hq
 clear hq
 clear ih h hnow hc hcall
 obtain ⟨sk,hk⟩:∃ sk,sinkP L s=(sk,true):=⟨_,by rw [←hsk0]⟩
 clear hsk0
 obtain ⟨hd1,hd2⟩:=Zck (show (sinkP L s).2=true by rw [hk])
 rw [hk] at hd2
 have hsk:sk={ s with deep:=s.deep+1 }:=hd2
 have hski:sk.i=s.i:=by rw [hsk]
 have hske:sk.es=s.es:=by rw [hsk]
 have h7:sk.deep=s.deep+1:=by rw [hsk]
 have hskl:sk.i<L.length:=by omega
 have g2:=(allG L f).expr (advP sk)
 have HB:=hid (fun w' (h':PM X base P TA tc L _ w')=>(IH.out f (Kag _)).expr w' (advP sk) h' (by show 12*(L.length-(sk.i+1))+6≤f;omega))
 obtain ⟨sb,vb,hB⟩:∃ sb vb,exprP L f (advP sk)=(sb,vb):=⟨_,_,rfl⟩
 rw [hB] at g2 HB
 have h6:sb.deep=sk.deep:=g2.hd
 have gw:=G.want (L:=L) sb tShut
 obtain ⟨sw,hsw⟩:∃ sw,wantP L sb tShut=sw:=⟨_,rfl⟩
 rw [hsw] at gw
 have h8:sw.deep=sb.deep:=gw.hd
 have hsd:1≤sw.deep:=by omega
 have hsd2:sw.deep≤32:=by omega
 have HR:=hid (show atomP L (f+1) s=(riseP sw,vb) from by rw [HAT2.out];simp only [hk,hB,hsw];rfl)
 have HKK:=hid hk
 have HSW:=hid hsw
 clear hk hd2 hsk g2 hB h6 h7 h8 gw hd1 hske hsw
 go_enter Tryz.func218,Tryz.ntmps218
 go_wp2_with fail
 refine (Za7 w H.out HNOW.out).mono ?_
 rintro e w1 ⟨rfl,h1,k1,b1⟩
 go_wp2_with fail
 obtain ⟨wa,hwa⟩:∃ wa,wa=w1.alloc (.cells #[.int .i64 kd,.string tx,.int .u64 nm,.int .i64 ps] 155):=⟨_,rfl⟩
 rw [←hwa]
 have T:=hid (show wa.heap[w1.heap.size]?=some (.cells #[.int .i64 kd,.string tx,.int .u64 nm,.int .i64 ps] 155 (0,0)) from by rw [hwa];exact Kac _ _)
 have HA:=hid (show PM X base P TA tc L s wa from by rw [hwa];exact h1.below (Zai w1 _))
 have KA:=hid (show KT base w wa from by rw [hwa];exact k1.trans (KT.below (Zai w1 _)))
 clear hwa h1 k1 b1
 refine (HCALL.out wa).mono ?_
 rintro e w2 ⟨rfl,b2⟩
 have H2:=hid (HA.out.below b2)
 have K2:=hid (KT.below (base:=base) b2)
 obtain ⟨t0,t1,t2,t3⟩:=tcell T.out K2.out
 obtain ⟨ev,c5,hev1,hev2⟩:=H2.out.errc
 clear b2
 obtain rfl:=hev1 HERR.out
 clear hev1 hev2
 go_wp2_with fail
 refine (is_pm _ H2.out tOpen HQ.out).mono ?_
 rintro e w3 ⟨rfl,h9,k9⟩
 have H3:=hid h9
 have K3:=hid (K2.out.trans k9)
 clear h9 k9
 go_wp2_with fail
 refine (Zdn w3 H3.out HKK.out).mono ?_
 rintro e w4 ⟨rfl,h9,k9⟩
 have H4:=hid h9
 have K4:=hid (K3.out.trans k9)
 clear h9 k9
 obtain ⟨c1,y1,ha,ka⟩:=H4.out.adv hskl
 rw [hski] at c1 ha ka
 have H5:=hid ha
 have K5:=hid (K4.out.trans ka)
 clear ha ka
 go_wp2_with fail
 refine (HB.out _ H5.out).mono ?_
 rintro e w6 ⟨rfl,h9,k9⟩
 have H6:=hid h9
 have K6:=hid (K5.out.trans k9)
 clear h9 k9
 have HWN:=Zbp w6 H6.out tShut
 rw [HSW.out] at HWN
 have HWN:=hid HWN
 go_wp2_with fail
 refine (HWN.out).mono ?_
 rintro e w7 ⟨⟨v,rfl⟩,h9,k9⟩
 have H7:=hid h9
 have K7:=hid (K6.out.trans k9)
 clear h9 k9
 obtain ⟨c4,y4,ha,ka⟩:=H7.out.rise hsd
 have H8:=hid ha
 have K8:=hid (K7.out.trans ka)
 clear ha ka
 go_wp2
 go_ret
 exact ⟨by rw [HR.out];rfl,by rw [HR.out];exact H8.out,KA.out.trans K8.out⟩
theorem Zj3 (f:Nat) (ih:∀ f',f'≤f→AllW base P TA tc L f') (w:World) (s:PS) (h:PM X base P TA tc L s w) (hf:12*(L.length-s.i)+1≤f+1) (herr:s.err=none) (h2:(nowP L s).kind≠2) (h1:(nowP L s).kind≠1) (hq:isP L s tOpen=false) (hn0:(callP (nowP L s)).2≠0) (hsk0:(sinkP L s).2=true):
  Calls Tryz.prog 218 #[PP P] w (ZaR X base P TA tc L w (atomP L (f+1) s)):=by
 obtain ⟨he1,he2,he3,he4⟩:=h.el
 obtain ⟨kd,tx,nm,ps,hnow⟩:∃ kd tx nm ps,nowP L s=⟨kd,tx,nm,ps⟩:=⟨_,_,_,_,rfl⟩
 have HNOW:=hid hnow
 have H:=hid h
 have IH:=hid ih
 obtain ⟨ck,cn,hc⟩:∃ ck cn,callP ⟨kd,tx,nm,ps⟩=(ck,cn):=⟨_,_,rfl⟩
 have hcn:cn≤3:=by
  rcases ZaY ⟨kd,tx,nm,ps⟩ with h | h | h | h | h | h <;> rw [hc] at h <;> injection h <;> omega
 have HC:=hid hc
 have hcall:=Zb6 ⟨kd,tx,nm,ps⟩
 rw [hc] at hcall
 have HCALL:=hid hcall
 have HERR:=hid herr
 rw [hnow] at h2 h1
 have q2:((kd:Int)==2)=false:=by rw [Kaj];dsimp only at h2;omega
 have Q2:Hid ((kd==2)=false):=by show (kd==2)=false;rw [Kaj];exact h2
 have q1:((kd:Int)==1)=false:=by rw [Kaj];dsimp only at h1;omega
 have Q1:Hid ((kd==1)=false):=by show (kd==1)=false;rw [Kaj];exact h1
 have HAT:=hid (show atomP L (f+1) s=(if (!isP L s tOpen)&&(cn==0) then (failP L s 130,0) else
   if (sinkP L s).2 then
    if cn==0 then (riseP (wantP L (exprP L f (advP (sinkP L s).1)).1 tShut),(exprP L f (advP (sinkP L s).1)).2)
    else putP (riseP (wantP L (argsP L f cn (wantP L (advP (sinkP L s).1) tOpen) []).1 tShut)) ⟨ck,noB,0,(argsP L f cn (wantP L (advP (sinkP L s).1) tOpen) []).2,ps⟩
   else ((sinkP L s).1,0)) from by rw [atomP];simp only [HERR.out,HNOW.out,Q1.out,Q2.out,HC.out];rfl)
 clear herr h2 h1
 have hlt:s.i<L.length:=ZbX (by
  rw [hnow]
  intro h0
  dsimp only at h0
  subst h0
  exact hn0 (by rw [hnow];rfl))
 rw [hnow,hc] at hn0
 dsimp only at hn0
 have qn:((cn:Int)==0)=false:=by rw [Kaj];omega
 have qn':(cn==0)=false:=by rw [Kaj];exact hn0
 have HAT2:=hid (HAT.out)
 rw [hq,qn'] at HAT2
 have HQ:=hid hq
 have hcn1:1≤cn:=by omega
 clear hq hn0 qn'
 clear ih h hnow hc hcall
 obtain ⟨sk,hk⟩:∃ sk,sinkP L s=(sk,true):=⟨_,by rw [←hsk0]⟩
 clear hsk0
 obtain ⟨hd1,hd2⟩:=Zck (show (sinkP L s).2=true by rw [hk])
 rw [hk] at hd2
 have hsk:sk={ s with deep:=s.deep+1 }:=hd2
 have hski:sk.i=s.i:=by rw [hsk]
 have hske:sk.es=s.es:=by rw [hsk]
 have h7:sk.deep=s.deep+1:=by rw [hsk]
 have hskl:sk.i<L.length:=by omega
 obtain ⟨so,hso⟩:∃ so,wantP L (advP sk) tOpen=so:=⟨_,rfl⟩
 have go1:=G.want (L:=L) (advP sk) tOpen
 rw [hso] at go1
 obtain ⟨R,hRR⟩:∃ R,R=argsP L f cn so []:=⟨_,rfl⟩
 have g2:=(allG L f).args cn so []
 rw [←hRR] at g2
 have gw:=G.want (L:=L) R.1 tShut
 obtain ⟨sw,hsw⟩:∃ sw,wantP L R.1 tShut=sw:=⟨_,rfl⟩
 rw [hsw] at gw
 have hso1:sk.i+1≤so.i:=go1.hi
 have hsd0:sw.deep=s.deep+1:=by rw [gw.hd,g2.hd,go1.hd];exact h7
 have hsd:1≤sw.deep:=by omega
 have hsd2:sw.deep≤32:=by omega
 have hbig:(riseP sw).es.length+1≤(riseP sw).i:=by
  show sw.es.length+1≤sw.i
  have a1:so.es.length+(sk.i+1)+0≤sk.es.length+so.i:=go1.he
  have a2:=g2.he
  have a3:=gw.he
  rw [hske] at a1
  omega
 obtain ⟨sc,vc,hC⟩:∃ sc vc,putP (riseP sw) ⟨ck,noB,0,R.2,ps⟩=(sc,vc):=⟨_,_,rfl⟩
 have HR:=hid (show atomP L (f+1) s=(sc,vc) from by rw [HAT2.out];simp only [hk,hso,←hRR,hsw,hC];rfl)
 have HKK:=hid hk
 have HSW:=hid hsw
 have HSO:=hid hso
 have HRR:=hid hRR
 have HBIG:=hid hbig
 have HC2:=hid hC
 have HNEED:=hid (show 12*(L.length-so.i)+7+(cn-0)≤f by omega)
 clear hk hd2 hsk g2 h7 gw hd1 hske hsw hso hRR hbig hC go1 hso1 hsd0
 go_enter Tryz.func218,Tryz.ntmps218
 go_wp2_with fail
 refine (Za7 w H.out HNOW.out).mono ?_
 rintro e w1 ⟨rfl,h1,k1,b1⟩
 go_wp2_with fail
 obtain ⟨wa,hwa⟩:∃ wa,wa=w1.alloc (.cells #[.int .i64 kd,.string tx,.int .u64 nm,.int .i64 ps] 155):=⟨_,rfl⟩
 rw [←hwa]
 have T:=hid (show wa.heap[w1.heap.size]?=some (.cells #[.int .i64 kd,.string tx,.int .u64 nm,.int .i64 ps] 155 (0,0)) from by rw [hwa];exact Kac _ _)
 have HA:=hid (show PM X base P TA tc L s wa from by rw [hwa];exact h1.below (Zai w1 _))
 have KA:=hid (show KT base w wa from by rw [hwa];exact k1.trans (KT.below (Zai w1 _)))
 clear hwa h1 k1 b1
 refine (HCALL.out wa).mono ?_
 rintro e w2 ⟨rfl,b2⟩
 have H2:=hid (HA.out.below b2)
 have K2:=hid (KT.below (base:=base) b2)
 obtain ⟨t0,t1,t2,t3⟩:=tcell T.out K2.out
 obtain ⟨ev,c5,hev1,hev2⟩:=H2.out.errc
 clear b2
 obtain rfl:=hev1 HERR.out
 clear hev1 hev2
 go_wp2_with fail
 refine (is_pm _ H2.out tOpen HQ.out).mono ?_
 rintro e w3 ⟨rfl,h9,k9⟩
 have H3:=hid h9
 have K3:=hid (K2.out.trans k9)
 clear h9 k9
 go_wp2_with fail
 refine (Zdn w3 H3.out HKK.out).mono ?_
 rintro e w4 ⟨rfl,h9,k9⟩
 have H4:=hid h9
 have K4:=hid (K3.out.trans k9)
 clear h9 k9
 obtain ⟨c1,y1,ha,ka⟩:=H4.out.adv hskl
 rw [hski] at c1 ha ka
 have H5:=hid ha
 have K5:=hid (K4.out.trans ka)
 clear ha ka
 have HWN:=Zbp _ H5.out tOpen
 rw [HSO.out] at HWN
 have HWN:=hid HWN
 go_wp2_with fail
 refine (HWN.out).mono ?_
 rintro e w6 ⟨⟨v,rfl⟩,h9,k9⟩
 have H6:=hid h9
 have K6:=hid (K5.out.trans k9)
 clear h9 k9
 clear c1 y1 t0 t1 t2 t3 c5
 go_wp2
 go_loopw [7,96] (fun av iv wr=>ZnA X base P TA tc L f cn wa R av iv wr) (fun _ iv _=>cn-(intOf iv).toNat)
 case atStart=>exact ⟨f,0,so,[],none,0,Kag _,Nat.zero_le _,rfl,rfl,rfl,HRR.out,ZcZ H6.out,World.ownsRow_nil _ _ _ 1,K6.out,HNEED.out⟩
 case round=>
  obtain ⟨f',j,s',l,A,cap,hff,hj,rfl,rfl,hl,hr,hp,ho,hk,hn⟩:=hrel
  have HP:=hid hp
  have HO:=hid ho
  have HK:=hid hk
  have HLL:=hid hl
  have HRJ:=hid hr
  have HBL:=hid (hp.el)
  clear hp ho hk hr hl
  by_cases hlt2:j<cn
  ·obtain ⟨f',rfl⟩:∃ g,f'=g+1:=⟨f'-1,by omega⟩
   obtain ⟨sq,hsq⟩:∃ sq,(if l.length=0 then s' else wantP L s' ZcY)=sq:=⟨_,rfl⟩
   have hsi:s'.i≤sq.i:=by
    rw [←hsq]
    split
    ·exact Kag _
    ·exact (G.want (L:=L) s' ZcY).hi
   have HB:=hid (fun w' (h':PM (XA X A) base P TA tc L _ w')=>(IH.out f' (by omega)).expr w' sq h' (by omega))
   have gx:=(allG L f').expr sq
   obtain ⟨sb,vb,hB⟩:∃ sb vb,exprP L f' sq=(sb,vb):=⟨_,_,rfl⟩
   rw [hB] at HB gx
   have hxi:sq.i≤sb.i:=gx.hi
   have HX:=hid (show R=argsP L f' (cn-(j+1)) sb (l++[vb]) from by
    rw [HRJ.out,show cn-j=(cn-(j+1))+1 from by omega,argsP]
    simp only [hsq,hB])
   have hneed:12*(L.length-sb.i)+7+(cn-(j+1))≤f':=by omega
   have HNE:=hid hneed
   have HSQ:=hid hsq
   clear hsq gx hB hneed hsi hxi
   by_cases hj0:j=0
   ·have hz:sq=s':=by have:=HSQ.out;rw [if_pos (by have:=HLL.out;omega)] at this;exact this.symm
    rw [hz] at HB
    have qj:decide (0<j)=false:=by simp;omega
    have qj2:decide ((0:Int)<(j:Int))=false:=by simp;omega
    clear hz hj0
    go_wp2_with fail
    refine (HB.out wr HP.out).mono ?_
    rintro e w8 ⟨rfl,h9,k9⟩
    have H8:=hid h9
    have K8:=hid (HK.out.trans k9)
    have HO8:=hid (ZbM (base:=base) HO.out k9)
    clear h9 k9
    have HWS:=hid (show base≤wa.heap.size∧wa.heap.size≤w8.heap.size from ⟨by obtain ⟨_,_,_,_,_,h⟩:=HA.out;exact h.base_le,K8.out.size⟩)
    have HO9:=hid (ZbM (base:=base) HO8.out (KT.below (Zai w8 (.cells #[I64 vb] 3))))
    have H89:=hid (H8.out.below (Zai w8 (.cells #[I64 vb] 3)))
    have K89:=hid (K8.out.trans (KT.below (Zai w8 (.cells #[I64 vb] 3))))
    go_wp2_with (at_builtin;(refine appI rfl (.tmp 103) (.tmp 106) rfl wa.heap.size A cap l j HLL.out rfl HO9.out w8.heap.size rfl vb (Kac _ _) (by omega) (by have:=HWS.out.2;simp;omega) ?_);intro A' cap' w9 ho9 hg9 hA9;have H9:=hid (Zff H89.out HO9.out HWS.out.1 hg9 ho9 hA9);have K9:=hid (Zj1 K89.out hg9 (fun k hk=>(HO9.out.lt k hk).1));have HOO:=hid ho9;clear ho9 hg9 hA9)
    refine ⟨⟨f',j+1,sb,l++[vb],A',cap',by omega,by omega,by go_num,rfl,by rw [List.length_append,HLL.out];rfl,HX.out,H9.out,HOO.out,K9.out,HNE.out⟩,by simp [intOf];omega⟩
   ·have hz:sq=wantP L s' ZcY:=by have:=HSQ.out;rw [if_neg (by have:=HLL.out;omega)] at this;exact this.symm
    rw [hz] at HB
    have qj:decide (0<j)=true:=by simp;omega
    have qj2:decide ((0:Int)<(j:Int))=true:=by simp;omega
    clear hz hj0
    go_wp2_with fail
    refine (Zbp wr HP.out ZcY).mono ?_
    rintro e w7 ⟨⟨v,rfl⟩,h9,k9⟩
    have H7:=hid h9
    have K7:=hid (HK.out.trans k9)
    have HO7:=hid (ZbM (base:=base) HO.out k9)
    clear h9 k9
    go_wp2_with fail
    refine (HB.out w7 H7.out).mono ?_
    rintro e w8 ⟨rfl,h9,k9⟩
    have H8:=hid h9
    have K8:=hid (K7.out.trans k9)
    have HO8:=hid (ZbM (base:=base) HO7.out k9)
    clear h9 k9
    have HWS:=hid (show base≤wa.heap.size∧wa.heap.size≤w8.heap.size from ⟨by obtain ⟨_,_,_,_,_,h⟩:=HA.out;exact h.base_le,K8.out.size⟩)
    have HO9:=hid (ZbM (base:=base) HO8.out (KT.below (Zai w8 (.cells #[I64 vb] 3))))
    have H89:=hid (H8.out.below (Zai w8 (.cells #[I64 vb] 3)))
    have K89:=hid (K8.out.trans (KT.below (Zai w8 (.cells #[I64 vb] 3))))
    go_wp2_with (at_builtin;(refine appI rfl (.tmp 103) (.tmp 106) rfl wa.heap.size A cap l j HLL.out rfl HO9.out w8.heap.size rfl vb (Kac _ _) (by omega) (by have:=HWS.out.2;simp;omega) ?_);intro A' cap' w9 ho9 hg9 hA9;have H9:=hid (Zff H89.out HO9.out HWS.out.1 hg9 ho9 hA9);have K9:=hid (Zj1 K89.out hg9 (fun k hk=>(HO9.out.lt k hk).1));have HOO:=hid ho9;clear ho9 hg9 hA9)
    refine ⟨⟨f',j+1,sb,l++[vb],A',cap',by omega,by omega,by go_num,rfl,by rw [List.length_append,HLL.out];rfl,HX.out,H9.out,HOO.out,K9.out,HNE.out⟩,by simp [intOf];omega⟩
  ·obtain rfl:cn=j:=by omega
   have hR:R=(s',l):=by
    obtain ⟨f',rfl⟩:∃ g,f'=g+1:=⟨f'-1,by omega⟩
    rw [HRJ.out,Nat.sub_self,argsP]
   have hcp:=HC2.out
   rw [hR] at hcp
   have HCP:=hid hcp
   have hws:=HSW.out
   rw [hR] at hws
   have HWN2:=Zbp wr HP.out tShut
   rw [hws] at HWN2
   have HWN2:=hid HWN2
   clear hcp hws hR
   go_wp2_with fail
   refine (HWN2.out).mono ?_
   rintro e w7 ⟨⟨v,rfl⟩,h9,k9⟩
   have H7:=hid h9
   have K7:=hid (HK.out.trans k9)
   have HO7:=hid (ZbM (base:=base) HO.out k9)
   clear h9 k9
   obtain ⟨c4,y4,ha,ka⟩:=H7.out.rise hsd
   have H8:=hid ha
   have K8:=hid (K7.out.trans ka)
   have HO8:=hid (ZbM (base:=base) HO7.out ka)
   clear ha ka
   obtain ⟨u0,u1,u2,u3⟩:=tcell T.out K8.out
   have HPU:=Zcy _ ⟨ck,noB,0,l,ps⟩ (.slice A cn cap) H8.out ⟨A,cap,by rw [HLL.out],HO8.out.more HA.out.ble,fun k hk hx=>by have h1:=(HO8.out.lt k hk).1;have h2:=HA.out.xlt k hx;omega⟩ HBIG.out
   rw [HCP.out] at HPU
   have HPU:=hid HPU
   go_wp2_with fail
   refine HPU.out.mono ?_
   rintro e w9 ⟨rfl,h9,k9⟩
   have H9:=hid h9
   have K9:=hid ((KA.out.trans K8.out).trans k9)
   clear h9 k9
   go_wp2
   go_ret
   exact ⟨by rw [HR.out];rfl,by rw [HR.out];exact H9.out,K9.out⟩
theorem Zj4 (f:Nat) (ih:∀ f',f'≤f→AllW base P TA tc L f') (w:World) (s:PS) (h:PM X base P TA tc L s w) (hf:12*(L.length-s.i)+1≤f+1):
  Calls Tryz.prog 218 #[PP P] w (ZaR X base P TA tc L w (atomP L (f+1) s)):=by
 cases herr:s.err with
 | some x=>exact Zlr f ih w s h hf x herr
 | none=>
  by_cases h2:(nowP L s).kind=2
  ·exact Zls f ih w s h hf herr h2
  by_cases h1:(nowP L s).kind=1
  ·exact Zj2 f ih w s h hf herr h1
  cases hsk:(sinkP L s).2 with
  | false=>
   cases hq:isP L s tOpen with
   | false=>
    by_cases hn:(callP (nowP L s)).2=0
    ·exact Zho f ih w s h hf herr h2 h1 hq hn
    ·exact ZhV f ih w s h hf herr h2 h1 hq hn hsk
   | true=>exact ZhU f ih w s h hf herr h2 h1 hq hsk
  | true=>
   cases hq:isP L s tOpen with
   | false=>
    by_cases hn:(callP (nowP L s)).2=0
    ·exact Zho f ih w s h hf herr h2 h1 hq hn
    ·exact Zj3 f ih w s h hf herr h2 h1 hq hn hsk
   | true=>exact ZhW f ih w s h hf herr h2 h1 hq hsk
end
end Go.Proofs.YtghlnncfigkkaaaGreatDoor
