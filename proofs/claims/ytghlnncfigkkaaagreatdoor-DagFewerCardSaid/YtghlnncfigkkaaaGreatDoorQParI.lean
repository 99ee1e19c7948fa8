/-
 The parser's levels at any fuel; walks of shape and name over the state.
-/
import Derived.Test.YtghlnncfigkkaaaGreatDoorQParH
set_option maxRecDepth 100000
set_option maxHeartbeats 4000000
open Go.Lib (hid)
set_option linter.unusedVariables false
set_option linter.unusedSimpArgs false
namespace Go.Proofs.YtghlnncfigkkaaaGreatDoor
open Go.RowKit
attribute [local go_sem ↓] ZaO ZaP
theorem allW (base P:Nat) (TA:Option Addr) (tc:Nat) (L:List Tok) (f:Nat):AllW base P TA tc L f:=by
 induction f using Nat.strongRecOn with
 | ind f ih=>
  cases f with
  | zero=>exact ⟨fun w s h hf=>absurd hf (by omega),fun w s h hf=>absurd hf (by omega),fun w s h hf=>absurd hf (by omega),fun w s h hf=>absurd hf (by omega),fun w s h hf=>absurd hf (by omega),fun w s h hf=>absurd hf (by omega)⟩
  | succ f=>
   have ih':∀ f',f'≤f→AllW base P TA tc L f':=fun f' h=>ih f' (by omega)
   exact ⟨fun w s h hf=>Zjw f ih' w s h hf,fun w s h hf=>Zlo f ih' w s h hf,fun w s h hf=>Zjx f ih' w s h hf,fun w s h hf=>Zj0 f ih' w s h hf,fun w s h hf=>Zjz f ih' w s h hf,fun w s h hf=>Zj4 f ih' w s h hf⟩
section
variable {X:Nat→Prop} {base P tc:Nat} {TA:Option Addr} {L:List Tok} {s:PS}
theorem Zg7 (w:World) (h:PM X base P TA tc L s w):
  Calls Tryz.prog 131 #[PP P] w fun e w'=>e=.returned (.string (nameP L s).2)∧PM X base P TA tc L (nameP L s).1 w'∧KT base w w':=by
 obtain ⟨_,_,_,_,_,h⟩:=h
 exact Zln w h
theorem PM.base_le {w:World} (h:PM X base P TA tc L s w):base≤w.heap.size:=by
 obtain ⟨_,_,_,_,_,h⟩:=h
 exact h.base_le
def Zlt (X:Nat→Prop) (base P:Nat) (TA:Option Addr) (tc:Nat) (L:List Tok) (w:World) (R:PS × List Nat) (av:Value) (wr:World):Prop:=
 ∃ (f':Nat) (s':PS) (l:List Nat) (A:Option Addr) (cap n:Nat),av=.slice A n cap∧l.length=n∧n≤s'.i+1∧R=Zaz L f' s' l∧PM (XA X A) base P TA tc L s' wr∧Own wr w.heap.size 3 A cap (l.map I64)∧KT base w wr∧L.length-s'.i+1≤f'
theorem Zlu (f:Nat) (w:World) (h:PM X base P TA tc L s w) (hf:L.length+1≤f):
  Calls Tryz.prog 132 #[PP P] w fun e w'=>∃ A c,e=.returned (.slice A (Zbr L f s).2.length c)∧PM (XA X A) base P TA tc L (Zbr L f s).1 w'∧KT base w w'∧ArgsV X base w' (.slice A (Zbr L f s).2.length c) (Zbr L f s).2:=by
 have hbl:=h.base_le
 have HXL:=hid h.xlt
 have HW:=Zbp w h tBra
 obtain ⟨s1,hs1⟩:∃ s1,wantP L s tBra=s1:=⟨_,rfl⟩
 rw [hs1] at HW
 have HW:=hid HW
 cases hq:isP L s1 tKet with
 | true=>
  have HR:=hid (show Zbr L f s=(advP s1,[]) from by unfold Zbr;rw [hs1];dsimp only;rw [hq];rfl)
  have HQ:=hid hq
  clear hq hs1 h
  go_enter Tryz.func132,Tryz.ntmps132
  go_wp2_with fail
  refine HW.out.mono ?_
  rintro e w1 ⟨⟨v,rfl⟩,h9,k9⟩
  have H1:=hid h9
  have K1:=hid k9
  clear h9 k9
  go_wp2_with fail
  refine (Zbf w1 H1.out tKet HQ.out).mono ?_
  rintro e w2 ⟨rfl,h9,k9⟩
  have H2:=hid h9
  have K2:=hid (K1.out.trans k9)
  clear h9 k9
  go_wp2
  go_ret
  exact ⟨none,0,by rw [HR.out];rfl,by rw [HR.out];exact ZcZ H2.out,K2.out,by rw [HR.out];exact ArgsV.nil _ _ _⟩
 | false=>
  obtain ⟨sn,vn,hn⟩:∃ sn vn,Zaw L s1=(sn,vn):=⟨_,_,rfl⟩
  obtain ⟨R,hR⟩:∃ R,R=Zaz L f sn [vn]:=⟨_,rfl⟩
  have hRR:Zbr L f s=R:=by unfold Zbr;rw [hs1,hR];dsimp only;rw [hq,hn];rfl
  rw [hRR]
  have HR:=hid hR
  have HQ:=hid hq
  have HN:=hid hn
  clear hR hRR hq hn hs1 h
  go_enter Tryz.func132,Tryz.ntmps132
  go_wp2_with fail
  refine HW.out.mono ?_
  rintro e w1 ⟨⟨v,rfl⟩,h9,k9⟩
  have H1:=hid h9
  have K1:=hid k9
  clear h9 k9
  go_wp2_with fail
  refine (ZaT w1 H1.out tKet HQ.out).mono ?_
  rintro e w2 ⟨rfl,h9,k9⟩
  have H2:=hid h9
  have K2:=hid (K1.out.trans k9)
  have HNU:=ZcW w2 h9
  rw [HN.out] at HNU
  have HNU:=hid HNU
  clear h9 k9
  go_wp2_with fail
  refine HNU.out.mono ?_
  rintro e w3 ⟨rfl,h9,k9⟩
  have H3:=hid h9
  have K3:=hid (K2.out.trans k9)
  clear h9 k9
  go_wp2
  obtain ⟨w4,hw4⟩:∃ w4,w4=w3.alloc (.cells #[I64 vn] 3):=⟨_,rfl⟩
  have HO4:=hid (show Own w4 w.heap.size 3 (some ⟨w3.heap.size,0,none⟩) 1 ([vn].map I64) from by rw [hw4];exact Own.full w3 3 [I64 vn] K3.out.size (by simp [maxLen]))
  have H4:=hid (show PM (XA X (some ⟨w3.heap.size,0,none⟩)) base P TA tc L sn w4 from by rw [hw4];exact Zcj H3.out _)
  have K4:=hid (show KT base w w4 from by rw [hw4];exact K3.out.trans (KT.below (Zai w3 _)))
  have HW4:Hid (w3.alloc (.cells #[.int .i64 (vn:Int)] 3)=w4):=hw4.symm
  rw [HW4.out]
  clear hw4
  go_loopw [3] (fun av wr=>Zlt X base P TA tc L w R av wr) (fun av wr=>L.length-curI P wr)
  case atStart=>exact ⟨f,sn,[vn],_,1,1,rfl,rfl,by omega,HR.out,H4.out,HO4.out,K4.out,by omega⟩
  case round=>
   obtain ⟨f',s',l,A,cap,n,rfl,hl,hns,hr,hp,ho,hk,hnf⟩:=hrel
   obtain ⟨f',rfl⟩:∃ g,f'=g+1:=⟨f'-1,by omega⟩
   have hcur:=hid hp.cur
   obtain ⟨he1,he2,he3,_⟩:=hp.el
   have HP:=hid hp
   have HK:=hid hk
   have HO:=hid ho
   have HLL:=hid hl
   have HRR:=hid hr
   clear hp hk hr ho hl
   cases hq0:isP L s' ZcY with
   | true=>
    have hlt:=ZaD hq0
    have g2:=G.number (L:=L) (advP s')
    obtain ⟨sb,vb,hB⟩:∃ sb vb,Zaw L (advP s')=(sb,vb):=⟨_,_,rfl⟩
    rw [hB] at g2
    have h3:s'.i+1≤sb.i:=g2.hi
    have HX:=hid (show R=Zaz L f' sb (l++[vb]) from by rw [HRR.out,Zaz];simp only [hq0,hB];rfl)
    have HQ0:=hid hq0
    have HB:=hid hB
    clear g2 hB hq0
    go_wp2_with fail
    refine (Zbf wr HP.out ZcY HQ0.out).mono ?_
    rintro e w5 ⟨rfl,h9,k9⟩
    have H5:=hid h9
    have K5:=hid (HK.out.trans k9)
    have HO5:=hid (ZbM (base:=base) HO.out k9)
    have HNU5:=ZcW w5 h9
    rw [HB.out] at HNU5
    have HNU5:=hid HNU5
    clear h9 k9
    go_wp2_with fail
    refine HNU5.out.mono ?_
    rintro e w8 ⟨rfl,h9,k9⟩
    have H8:=hid h9
    have K8:=hid (K5.out.trans k9)
    have HO8:=hid (ZbM (base:=base) HO5.out k9)
    clear h9 k9
    have HWS:=hid K8.out.size
    have HO9:=hid (ZbM (base:=base) HO8.out (KT.below (Zai w8 (.cells #[I64 vb] 3))))
    have H89:=hid (H8.out.below (Zai w8 (.cells #[I64 vb] 3)))
    have K89:=hid (K8.out.trans (KT.below (Zai w8 (.cells #[I64 vb] 3))))
    go_wp2_with (at_builtin;(refine appI rfl (.tmp 13) (.tmp 16) rfl w.heap.size A cap l n HLL.out rfl HO9.out w8.heap.size rfl vb (Kac _ _) (by omega) (by have:=HWS.out;simp;omega) ?_);intro A' cap' w9 ho9 hg9 hA9;have H9:=hid (Zff H89.out HO9.out hbl hg9 ho9 hA9);have K9:=hid (Zj1 K89.out hg9 (fun k hk=>(HO9.out.lt k hk).1));have HOO:=hid ho9;clear ho9 hg9 hA9)
    refine ⟨⟨f',sb,l++[vb],A',cap',n+1,rfl,by rw [List.length_append,HLL.out];rfl,by omega,HX.out,H9.out,HOO.out,K9.out,by omega⟩,?_⟩
    have e1:=H9.out.cur
    have e2:=hcur.out
    have e3:=H9.out.el
    simp only [e1,e2]
    omega
   | false=>
    have HX:=hid (show R=(wantP L s' tKet,l) from by rw [HRR.out,Zaz];simp only [hq0];rfl)
    have HQ0:=hid hq0
    clear hq0
    go_wp2_with fail
    refine (ZaT wr HP.out ZcY HQ0.out).mono ?_
    rintro e w5 ⟨rfl,h9,k9⟩
    have H5:=hid h9
    have K5:=hid (HK.out.trans k9)
    have HO5:=hid (ZbM (base:=base) HO.out k9)
    clear h9 k9
    go_wp2_with fail
    refine (Zbp w5 H5.out tKet).mono ?_
    rintro e w6 ⟨⟨v,rfl⟩,h9,k9⟩
    have H6:=hid h9
    have K6:=hid (K5.out.trans k9)
    have HO6:=hid (ZbM (base:=base) HO5.out k9)
    clear h9 k9
    go_wp2
    go_ret
    rw [HX.out]
    exact ⟨A,cap,by rw [HLL.out];rfl,H6.out,K6.out,A,cap,rfl,HO6.out.more hbl,fun k hk hx=>by have h1:=(HO6.out.lt k hk).1;have h2:=HXL.out k hx;omega⟩
end
end Go.Proofs.YtghlnncfigkkaaaGreatDoor
namespace Go.Proofs.YtghlnncfigkkaaaGreatDoor
open Go.RowKit
attribute [local go_sem ↓] ZaO ZaP
theorem ZmO:(Tryz.prog.info? 93).map (fun i=>(i.zero,i.size,i.bytes))=some (some (.agg #[.int .i64 0,.int .i64 0,.string ⟨#[]⟩,.slice none 0 0,.int .i64 0,.int .i64 0]),6,72):=by kernel_rfl
theorem Zci {X:Nat→Prop} {w:World} {ops:Array Oper} {o:Oper} {a:Act} {K:Act→World→Prop} {Q:Exit→Act→World→Prop} {E:Prop} (hgd:o.guard=none) (s x:Operand)
  (ho:o.op=.call { callee:=.builtin .append,args:=#[s,x],argTypes:=#[23,23] }) (base:Nat)
  (A:Option Addr) (cap:Nat) (es:List Sm) (n:Nat) (hn:es.length=n) (hs:a.eval s=.slice A n cap) (hown:OwnSX X w base A cap es)
  (g2:Nat) (hx:a.eval x=.slice (some ⟨g2,0,none⟩) 1 1) (m:Sm × Value) (hb:w.heap[g2]?=some (.cells (Zc6 m).toArray 93 (0,0))) (hargs:ArgsV X base w m.2 m.1.shape)
  (hbytes:n+1≤1000000) (hbase:base≤w.heap.size)
  (h:∀ A' cap' w',OwnSX X w' base A' cap' (es++[m.1])→w.grownBy w' (blk A)→K (a.put o.dst (.slice A' (n+1) cap')) w'):
  if Region.wanted o (yielded ops a.tmps)=true then Oper.wp Tryz.prog o a w K Q else E:=by
 have hw:Region.wanted o (yielded ops a.tmps)=true:=by simp [Region.wanted,hgd]
 rw [if_pos hw]
 subst hn
 obtain ⟨ms,hm1,hm2,hm3⟩:=hown
 obtain ⟨i0,hi0,hz0,hz1,hz2⟩:=info_parts ZmO
 refine wp_append_own w s x 23 ho base 93 i0 _ 6 72 Tryz.underlying23 hi0 hz0 hz1 hz2 rfl (by decide) _ es.length (ms.flatMap Zc6) hs hm2 ⟨g2,0,none⟩ 1 1 (Zc6 m) hx rfl ?_ ?_ (by simp only [maxLen];omega) (by omega) hbase ?_
 ·intro j u hu
  have e':(⟨g2,0,none⟩:Addr).add j=⟨g2,j,none⟩:=by unfold Addr.add;split <;> simp_all
  rw [e',Kaa w g2 j _ _ (0,0) hb]
  simpa using hu
 ·intro u hu
  unfold Zc6 at hu
  simp at hu
  rcases hu with rfl | rfl | rfl | rfl | rfl | rfl
  ·rfl
  ·rfl
  ·rfl
  ·exact Zhn hargs
  ·rfl
  ·rfl
 ·intro v' w' h1 h2 _
  have hin:∀ g cur,¬ X g→w.heap[g]?=some (.cells cur 3 (0,0))→w'.heap[g]?=some (.cells cur 3 (0,0)):=fun k cur _ hc=>by
   rw [Za4] at h2
   rw [h2.block k (Kab.1 hc).1 (fun e=>by
    rcases Zcs hm2 with rfl | ⟨g,cur',rfl,_,hc'⟩
    ·simp [blk] at e
    ·have e':k=g:=by simpa [blk] using e
     subst e'
     rw [hc'] at hc
     injection hc with hc
     injection hc with _ hc _
     exact absurd hc (by decide))]
   exact hc
  rcases h1.2 with ⟨_,h0⟩ | ⟨g,cap',cur,rfl,r⟩
  ·omega
  ·refine h (some ⟨g,0,none⟩) cap' w' ⟨ms++[m],by rw [List.map_append,hm1];rfl,?_,?_⟩ (by rw [Za4] at h2;exact h2)
   ·rw [List.flatMap_append,List.length_append]
    simp only [List.flatMap_cons,List.flatMap_nil,List.append_nil]
    exact h1
   ·intro y hy
    rcases List.mem_append.1 hy with hy | hy
    ·exact (hm3 y hy).keep hin
    ·rw [List.mem_singleton.1 hy]
     exact hargs.keep hin
section
variable {X:Nat→Prop} {base P tc:Nat} {TA:Option Addr} {L:List Tok} {s:PS} {SA EA:Option Addr} {sc ec:Nat} {ev:Value}
theorem pr_ne {w:World} (h:PR X base P TA tc L s w SA sc EA ec ev) {w':World} (hg:w.grownBy w' (blk SA)):∀ (k:Nat) (cs:Array Value) (T:TypeId) (fr:Nat × Nat),w.heap[k]?=some (.cells cs T fr)→T≠93→w'.heap[k]?=some (.cells cs T fr):=fun k cs T fr hk hT=>by
 obtain ⟨ms,_,h2,_⟩:=h.ownS
 rw [hg.block k (Kab.1 hk).1 (fun e=>by
  rcases Zcs h2 with rfl | ⟨g,cur,rfl,_,hc⟩
  ·simp [blk] at e
  ·have e':k=g:=by simpa [blk] using e
   subst e'
   rw [hc] at hk
   injection hk with hk
   injection hk with _ hk _
   exact hT hk.symm)]
 exact hk
theorem ZdY {Y:Nat→Prop} (hXY:∀ k,X k→Y k) {w w':World} (h:PR Y base P TA tc L s w SA sc EA ec ev) {x:Sm} {A':Option Addr} {cap':Nat} (Z:Nat→Prop) (ho:OwnSX (fun k=>X k∨Z k) w' base A' cap' (s.ss++[x])) (hE:OwnEX (fun k=>X k∨¬ Z k) w base EA ec s.es) (hg:w.grownBy w' (blk SA)) (hs:s.ss.length≤64):
  PR X base P TA tc L (putS s x) (w'.setCell ⟨P,2,none⟩ (.slice A' (s.ss.length+1:Nat) cap')) A' cap' EA ec ev∧Below base w (w'.setCell ⟨P,2,none⟩ (.slice A' (s.ss.length+1:Nat) cap')):=by
 have hne:=pr_ne h hg
 have hblk:=hne P _ _ _ h.blk (by decide)
 have hrow:(w'.setCell ⟨P,2,none⟩ (.slice A' (s.ss.length+1:Nat) cap')).heap[P]?=_:=heap_setCell_same _ _ _ _ _ _ hblk
 rw [Zj9] at hrow
 have hother:∀ (k:Nat) (cs:Array Value) (T:TypeId) (fr:Nat × Nat),w'.heap[k]?=some (.cells cs T fr)→T≠160→(w'.setCell ⟨P,2,none⟩ (.slice A' (s.ss.length+1:Nat) cap')).heap[k]?=some (.cells cs T fr):=fun k cs T fr hk hT=>by
  rw [Zap _ _ _ (fun e'=>by
   have e'':k=P:=e'
   subst e''
   rw [hblk] at hk
   injection hk with hk
   injection hk with _ hk _
   exact hT hk.symm)]
  exact hk
 have hbel:Below base w (w'.setCell ⟨P,2,none⟩ (.slice A' (s.ss.length+1:Nat) cap')):=by
  refine ((Kai base w).grown hg h.base_le (fun k hk => ?_)).setCell (p:=⟨P,2,none⟩) h.hb _
  obtain ⟨ms,_,h2,_⟩:=h.ownS
  rcases Zcs h2 with rfl | ⟨g,cur,rfl,hbg,hc⟩
  ·simp [blk] at hk
  ·have e':g=k:=by simpa [blk] using hk
   omega
 have herr:∀ {l:List (ByteArray × Int)} {v:Value} {code:Int},IsErr w v l code→IsErr (w'.setCell ⟨P,2,none⟩ (.slice A' (s.ss.length+1:Nat) cap')) v l code:=by
  intro l
  induction l with
  | nil=>intro v code h;exact h
  | cons p r ih=>
   intro v code h
   obtain ⟨a,inner,rfl,hc,hi⟩:=h
   exact ⟨a,inner,rfl,hother a _ _ _ (hne a _ _ _ hc (by decide)) (by decide),ih hi⟩
 refine ⟨⟨h.hb,?_,?_,?_,?_,h.toks.below hbel,?_,h.etb,h.len,h.ii,h.dd,h.el,?_,fun k hx=>Kae (h.xx k (hXY k hx)) hbel.size,⟨Z,?_,?_⟩⟩,hbel⟩
 ·show _=some (Obj.cells (PRow TA L.length tc s.i (.slice A' (s.ss++[x]).length cap') (.slice EA s.es.length ec) s.deep ev) 160 (0,0))
  rw [show (s.ss++[x]).length=s.ss.length+1 from by rw [List.length_append];rfl]
  exact hrow
 ·exact (ho.keep' (fun g cur _ hc=>hother g _ _ _ hc (by decide)) (fun g cur _ hc=>hother g _ _ _ hc (by decide))).re fun k hk=>.inl (.inl hk)
 ·exact (h.ownE.keep' (fun g cur _ hc=>hother g _ _ _ (hne g _ _ _ hc (by decide)) (by decide)) (fun g cur _ hc=>hother g _ _ _ (hne g _ _ _ hc (by decide)) (by decide))).re fun k hk=>.inl (hXY k hk)
 ·show ErrV _ ev s.err
  have he:=h.err
  cases hc:s.err with
  | none=>rw [hc] at he;exact he
  | some y=>rw [hc] at he;exact herr he
 ·have he:=h.ety
  unfold ETyped at he ⊢
  rw [←he]
  exact World.cell?_of_block (hbel.block _ h.etb)
 ·show (s.ss++[x]).length≤65
  rw [List.length_append]
  simp
  omega
 ·exact ho.keep' (fun g cur _ hc=>hother g _ _ _ hc (by decide)) (fun g cur _ hc=>hother g _ _ _ hc (by decide))
 ·exact hE.keep' (fun g cur _ hc=>hother g _ _ _ (hne g _ _ _ hc (by decide)) (by decide)) (fun g cur _ hc=>hother g _ _ _ (hne g _ _ _ hc (by decide)) (by decide))
def SM (X:Nat→Prop) (base P:Nat) (TA:Option Addr) (tc:Nat) (L:List Tok) (w0:World) (g:Nat) (s:PS) (k p:Nat) (nm:ByteArray) (v:Value) (sh:List Nat) (e q:Nat) (w:World):Prop:=
 PM (XA X (vA v)) base P TA tc L s w∧KT base w0 w∧w.heap[g]?=some (.cells #[.int .i64 k,.int .i64 p,.string nm,v,.int .i64 e,.int .i64 q] 93 (0,0))∧ArgsV X base w v sh
variable {w0 w w':World} {g k p e q:Nat} {nm:ByteArray} {v:Value} {sh:List Nat}
theorem SM.call (h:SM X base P TA tc L w0 g s k p nm v sh e q w) {s':PS} (hp:PM (XA X (vA v)) base P TA tc L s' w') (hk:KT base w w'):SM X base P TA tc L w0 g s' k p nm v sh e q w':=
 ⟨hp,h.2.1.trans hk,hk.block g _ h.2.2.1 (.inr ⟨by decide,by decide⟩),h.2.2.2.kt hk⟩
theorem Zhp {Y:Nat→Prop} (hp:PM Y base P TA tc L s w) (hk:KT base w0 w) (hr:w.heap[g]?=some (.cells #[.int .i64 k,.int .i64 p,.string nm,v,.int .i64 e,.int .i64 q] 93 (0,0))) (h0:∃ s0,PM X base P TA tc L s0 w0) (hg:w0.heap.size≤g) (j:Nat) (x:Value):
  PM Y base P TA tc L s (w.setCell ⟨g,j,none⟩ x)∧KT base w0 (w.setCell ⟨g,j,none⟩ x)∧(w.setCell ⟨g,j,none⟩ x).heap[g]?=some (.cells ((#[.int .i64 k,.int .i64 p,.string nm,v,.int .i64 e,.int .i64 q]:Array Value).setIfInBounds j x) 93 (0,0))∧∀ v' sh',ArgsV X base w v' sh'→ArgsV X base (w.setCell ⟨g,j,none⟩ x) v' sh':=by
 obtain ⟨s0,SA0,sc0,EA0,ec0,ev0,h0⟩:=h0
 obtain ⟨SA,sc,EA,ec,ev,h⟩:=hp
 have hbg:base≤g:=Kah h0.base_le hg
 have hne:∀ (i:Nat) (cs:Array Value) (T:TypeId) (fr:Nat × Nat),w.heap[i]?=some (.cells cs T fr)→i≠g→(w.setCell ⟨g,j,none⟩ x).heap[i]?=some (.cells cs T fr):=fun i cs T fr hi hh=>by
  rw [Zap _ _ _ hh];exact hi
 have hty:∀ (i:Nat) (cs:Array Value) (T:TypeId) (fr:Nat × Nat),w.heap[i]?=some (.cells cs T fr)→T≠93→(w.setCell ⟨g,j,none⟩ x).heap[i]?=some (.cells cs T fr):=fun i cs T fr hi hT=>hne i cs T fr hi (fun e'=>by
  subst e'
  rw [hr] at hi
  injection hi with hi
  injection hi with _ hi _
  exact hT hi.symm)
 have hSA:∀ g' cur,SA=some ⟨g',0,none⟩→w.heap[g']?=some (.cells cur 93 (0,0))→g'≠g:=by
  intro g' cur hA hc
  obtain ⟨c',hc1,hc2⟩:=hk.stm P _ h0.blk
  rw [h.blk] at hc1
  injection hc1 with hc1
  injection hc1 with hc1 _ _
  subst hc1
  have hc3:(some (Value.slice SA s.ss.length sc))=some (Value.slice SA0 s0.ss.length sc0):=hc2
  injection hc3 with hc3
  injection hc3 with e1 _ _
  obtain ⟨ms,_,h2,_⟩:=h0.ownS
  rcases Zcs h2 with e2 | ⟨g0,cur0,e2,_,hc0⟩
  ·rw [e1,e2] at hA;cases hA
  ·rw [e1,e2] at hA
   injection hA with hA
   injection hA with hA _ _
   subst hA
   have:=(Kab.1 hc0).1
   omega
 have hlow:∀ i,i<base→(w.setCell ⟨g,j,none⟩ x).heap[i]?=w.heap[i]?:=fun i hi=>Zap _ _ _ (by show i≠g;omega)
 have herr:∀ {l:List (ByteArray × Int)} {v:Value} {code:Int},IsErr w v l code→IsErr (w.setCell ⟨g,j,none⟩ x) v l code:=by
  intro l
  induction l with
  | nil=>intro v code h;exact h
  | cons p r ih=>
   intro v code h
   obtain ⟨a,inner,rfl,hc,hi⟩:=h
   exact ⟨a,inner,rfl,hty a _ _ _ hc (by decide),ih hi⟩
 refine ⟨⟨SA,sc,EA,ec,ev,h.hb,hty P _ _ _ h.blk (by decide),?_,?_,?_,?_,?_,h.etb,h.len,h.ii,h.dd,h.el,h.sl,fun k hx=>by have:=h.xx k hx;simpa [World.setCell] using this,h.sep.map (fun _ _ a=>a.keep' (fun g' cur _ hc=>hty g' _ _ _ hc (by decide)) (fun g' cur hA hc=>hne g' _ _ _ hc (hSA g' cur hA hc))) (fun _ _ a=>a.keep' (fun g' cur _ hc=>hty g' _ _ _ hc (by decide)) (fun g' cur _ hc=>hty g' _ _ _ hc (by decide)))⟩,?_,heap_setCell_same _ _ _ _ _ _ hr,fun v' sh' hv=>hv.keep (fun g' cur _ hc=>hty g' _ _ _ hc (by decide))⟩
 ·exact h.ownS.keep' (fun g' cur _ hc=>hty g' _ _ _ hc (by decide)) (fun g' cur hA hc=>hne g' _ _ _ hc (hSA g' cur hA hc))
 ·exact h.ownE.keep' (fun g' cur _ hc=>hty g' _ _ _ hc (by decide)) (fun g' cur _ hc=>hty g' _ _ _ hc (by decide))
 ·have he:=h.err
  cases hc:s.err with
  | none=>rw [hc] at he;exact he
  | some y=>rw [hc] at he;exact herr he
 ·exact h.toks.keep fun pp hp=>World.cell?_of_block (hlow _ hp)
 ·have he:=h.ety
  unfold ETyped at he ⊢
  rw [←he]
  exact World.cell?_of_block (hlow _ h.etb)
 ·have hw0:∀ i o,w0.heap[i]?=some o→i≠g:=fun i o hi=>by have:=(Kab.1 hi).1;omega
  exact ⟨hk.os,hk.tape,hk.output,by have:=hk.size;simpa [World.setCell] using this,fun i o hi hp=>by rw [Zap _ _ _ (hw0 i o hi)];exact hk.block i o hi hp,fun i cs hi=>by
   obtain ⟨c1,h1,e1⟩:=hk.stm i cs hi
   exact ⟨c1,by rw [Zap _ _ _ (hw0 i _ hi)];exact h1,e1⟩⟩
theorem SM.set (h:SM X base P TA tc L w0 g s k p nm v sh e q w) (h0:∃ s0,PM X base P TA tc L s0 w0) (hg:w0.heap.size≤g) (j:Nat) (x:Value):
  PM (XA X (vA v)) base P TA tc L s (w.setCell ⟨g,j,none⟩ x)∧KT base w0 (w.setCell ⟨g,j,none⟩ x)∧(w.setCell ⟨g,j,none⟩ x).heap[g]?=some (.cells ((#[.int .i64 k,.int .i64 p,.string nm,v,.int .i64 e,.int .i64 q]:Array Value).setIfInBounds j x) 93 (0,0))∧∀ v' sh',ArgsV X base w v' sh'→ArgsV X base (w.setCell ⟨g,j,none⟩ x) v' sh':=
 Zhp h.1 h.2.1 h.2.2.1 h0 hg j x
theorem ZdZ (h:PR (XA X (vA v)) base P TA tc L s w SA sc EA ec ev) (hv:ArgsV X base w v sh):∃ Z:Nat→Prop,(∀ o,OwnSX (fun k=>X k∨Z k) ((w.alloc o).drew) base SA sc s.ss∧OwnEX (fun k=>X k∨¬ Z k) ((w.alloc o).drew) base EA ec s.es)∧∀ o,ArgsV (fun k=>X k∨Z k) base ((w.alloc o).drew) v sh:=by
 obtain ⟨Z,zS,zE⟩:=h.sep
 have hb:∀ o,Below w.heap.size w ((w.alloc o).drew):=fun o=>((Kai _ _).alloc (Kag _) o).drew
 refine ⟨fun k=>Z k∧blk (vA v)≠some k,fun o=>⟨?_,?_⟩,fun o => ?_⟩
 ·exact (zS.kt (base':=base) (KT.below (hb o))).re fun k hk=>.inl (hk.elim (fun x=>.inl (.inl x)) (fun x=>.inr x.1))
 ·exact (zE.keep (base':=base) (KT.below (hb o)) (fun g cur _ hg=>((hb o).block g (Kab.1 hg).1).trans hg)).re fun k hk=>.inl (hk.elim (fun x=>.inl (.inl x)) (fun x=>by
   by_cases h1:blk (vA v)=some k
   ·exact .inl (.inr h1)
   ·exact .inr (fun z=>x ⟨z,h1⟩)))
 ·obtain ⟨A,c,rfl,h1,h2⟩:=hv
  have h3:ArgsV (fun k=>X k∨(Z k∧blk A≠some k)) base w (.slice A sh.length c) sh:=⟨A,c,rfl,h1,fun k hk hx=>hx.elim (h2 k hk) (fun x=>x.2 hk)⟩
  exact h3.kt (base:=base) (KT.below (hb o))
theorem SM.free (h:SM X base P TA tc L w0 g s k p nm v sh e q w) (j:Nat):w.frozen? ⟨g,j,none⟩=false:=Zan h.2.2.1 j
theorem SM.c0 (h:SM X base P TA tc L w0 g s k p nm v sh e q w):w.cell? ⟨g,0,none⟩=some (.int .i64 k):=Kaa _ _ 0 _ _ _ h.2.2.1
theorem SM.c1 (h:SM X base P TA tc L w0 g s k p nm v sh e q w):w.cell? ⟨g,1,none⟩=some (.int .i64 p):=Kaa _ _ 1 _ _ _ h.2.2.1
theorem SM.c2 (h:SM X base P TA tc L w0 g s k p nm v sh e q w):w.cell? ⟨g,2,none⟩=some (.string nm):=Kaa _ _ 2 _ _ _ h.2.2.1
theorem SM.c3 (h:SM X base P TA tc L w0 g s k p nm v sh e q w):w.cell? ⟨g,3,none⟩=some v:=Kaa _ _ 3 _ _ _ h.2.2.1
theorem SM.c4 (h:SM X base P TA tc L w0 g s k p nm v sh e q w):w.cell? ⟨g,4,none⟩=some (.int .i64 e):=Kaa _ _ 4 _ _ _ h.2.2.1
theorem SM.c5 (h:SM X base P TA tc L w0 g s k p nm v sh e q w):w.cell? ⟨g,5,none⟩=some (.int .i64 q):=Kaa _ _ 5 _ _ _ h.2.2.1
end
end Go.Proofs.YtghlnncfigkkaaaGreatDoor
namespace Go.Proofs.YtghlnncfigkkaaaGreatDoor
open Go.RowKit
attribute [local go_sem ↓] ZaO ZaP
section
variable {X:Nat→Prop} {base P tc:Nat} {TA:Option Addr} {L:List Tok} {s:PS} {w0 w w':World} {g k p e q:Nat} {nm:ByteArray} {v:Value} {sh:List Nat}
theorem Zg8 (h:SM X base P TA tc L w0 g s k p nm v sh e q w) (h0:∃ s0,PM X base P TA tc L s0 w0) (hg:w0.heap.size≤g) (k':Nat):SM X base P TA tc L w0 g s k' p nm v sh e q (w.setCell ⟨g,0,none⟩ (.int .i64 k')):=by
 obtain ⟨a,b,c,d⟩:=h.set h0 hg 0 (.int .i64 k')
 exact ⟨a,b,c,d _ _ h.2.2.2⟩
theorem ZmP (h:SM X base P TA tc L w0 g s k p nm v sh e q w) (h0:∃ s0,PM X base P TA tc L s0 w0) (hg:w0.heap.size≤g) (k':Nat):SM X base P TA tc L w0 g s k k' nm v sh e q (w.setCell ⟨g,1,none⟩ (.int .i64 k')):=by
 obtain ⟨a,b,c,d⟩:=h.set h0 hg 1 (.int .i64 k')
 exact ⟨a,b,c,d _ _ h.2.2.2⟩
theorem Zg9 (h:SM X base P TA tc L w0 g s k p nm v sh e q w) (h0:∃ s0,PM X base P TA tc L s0 w0) (hg:w0.heap.size≤g) (nm':ByteArray):SM X base P TA tc L w0 g s k p nm' v sh e q (w.setCell ⟨g,2,none⟩ (.string nm')):=by
 obtain ⟨a,b,c,d⟩:=h.set h0 hg 2 (.string nm')
 exact ⟨a,b,c,d _ _ h.2.2.2⟩
theorem ZmQ (h:SM X base P TA tc L w0 g s k p nm v sh e q w) (h0:∃ s0,PM X base P TA tc L s0 w0) (hg:w0.heap.size≤g) (A:Option Addr) (n c:Nat) {sh':List Nat} (hs:ArgsV X base w (.slice A n c) sh') (hp:PM (XA X A) base P TA tc L s w):SM X base P TA tc L w0 g s k p nm (.slice A n c) sh' e q (w.setCell ⟨g,3,none⟩ (.slice A n c)):=by
 obtain ⟨a,b,c',d⟩:=Zhp hp h.2.1 h.2.2.1 h0 hg 3 (.slice A n c)
 exact ⟨a,b,c',d _ _ hs⟩
theorem ZmR (h:SM X base P TA tc L w0 g s k p nm v sh e q w) (h0:∃ s0,PM X base P TA tc L s0 w0) (hg:w0.heap.size≤g) (k':Nat):SM X base P TA tc L w0 g s k p nm v sh k' q (w.setCell ⟨g,4,none⟩ (.int .i64 k')):=by
 obtain ⟨a,b,c,d⟩:=h.set h0 hg 4 (.int .i64 k')
 exact ⟨a,b,c,d _ _ h.2.2.2⟩
theorem Zlv (f:Nat):∀ (f':Nat) (s:PS) (l:List Nat),G L s (Zaz L f' s l).1 0:=by
 intro f'
 induction f' with
 | zero=>intro s l;exact G.refl s
 | succ f' ih=>
  intro s l
  rw [Zaz]
  split
  ·rename_i h
   exact (((G.adv (ZaD h)).trans (G.number _)).trans (ih _ _)).less (by omega)
  ·exact G.want _ _
theorem ZmS (f:Nat) (s:PS):G L s (Zbr L f s).1 0:=by
 unfold Zbr
 dsimp only
 split
 ·rename_i h
  exact ((G.want _ _).trans (G.adv (ZaD h))).less (by omega)
 ·exact (((G.want _ _).trans (G.number _)).trans (Zlv f f _ _)).less (by omega)
theorem Zdz (f:Nat) (s:PS):G L s (bodyP L f s).1 0:=by
 unfold bodyP
 split
 ·exact G.fail s _
 ·split
  ·rename_i h
   exact ((((G.adv (ZaD h)).trans (G.number _)).trans (G.name _)).trans (ZmS f _)).less (by omega)
  ·split
   ·rename_i h
    exact ((((G.adv (ZaD h)).trans (G.name _)).trans (G.want _ _)).trans ((allG L f).expr _)).less (by omega)
   ·split
    ·rename_i h
     exact ((G.adv (ZaD h)).trans (G.name _)).less (by omega)
    ·exact G.fail s _
theorem pm_c2 (h:PM X base P TA tc L s w):∃ SA sc,w.cell? ⟨P,2,none⟩=some (.slice SA s.ss.length sc)∧∀ o:Obj,(w.alloc o).cell? ⟨P,2,none⟩=some (.slice SA s.ss.length sc):=by
 obtain ⟨SA,sc,EA,ec,ev,h⟩:=h
 exact ⟨SA,sc,h.c2,fun o=>(World.cell?_alloc_lt w o ⟨P,2,none⟩ h.lt).trans h.c2⟩
theorem Zea {w:World} {n i sn deep:Nat} {ev:Value} {TA SA EA:Option Addr} {ln tc sc ec en:Nat} (hn:n=sn) (h:w.heap[P]?=some (.cells (PRow TA ln tc i (.slice SA sn sc) (.slice EA en ec) deep ev) 160 (0,0))):w.cell? ⟨P,2,none⟩=some (.slice SA n sc):=by
 subst hn
 exact Kaa _ _ 2 _ _ _ h
theorem Zj5 (f:Nat) (w:World) (s:PS) (h:PM X base P TA tc L s w) (h64:s.ss.length≤64) (hf:12*L.length+20≤f) (hl:s.ss.length=64):
  Calls Tryz.prog 84 #[PP P] w fun e w'=>(∃ v,e=.returned v)∧PM X base P TA tc L (stmtP L f s) w'∧Below base w w':=by
 have hbl:=h.base_le
 obtain ⟨kd,tx,nm,ps,hnow⟩:∃ kd tx nm ps,nowP L s=⟨kd,tx,nm,ps⟩:=⟨_,_,_,_,rfl⟩
 have HNOW:=hid hnow
 have H:=hid h
 have HG:=hid (Zdz (L:=L) f s)
 clear h hnow
 have q6:((s.ss.length:Int)==64)=true:=by rw [beq_iff_eq];omega
 have HBODY:=hid (show bodyP L f s=(failP L s 5,⟨0,0,noB,[],0,ps⟩) from by unfold bodyP;rw [if_pos hl,HNOW.out])
 clear hl
 go_enter Tryz.func84,Tryz.ntmps84
 go_wp2_with fail
 refine (Za7 w H.out HNOW.out).mono ?_
 rintro e w1 ⟨rfl,h1,k1,b1⟩
 obtain ⟨SA,sc,c2,d2⟩:=pm_c2 h1
 clear c2
 have H1:=hid (show ∃ s0,PM X base P TA tc L s0 w1 from ⟨s,h1⟩)
 have K1:=hid k1
 have HP1:=hid h1
 clear h1 k1 b1
 go_wp2_with fail
 obtain ⟨wa,hwa⟩:∃ wa,wa=w1.alloc (.cells #[.int .i64 0,.int .i64 0,.string ⟨#[]⟩,.slice none 0 0,.int .i64 0,.int .i64 ps] 93):=⟨_,rfl⟩
 rw [←hwa]
 have SA0:=hid (show SM X base P TA tc L w1 w1.heap.size s 0 0 ⟨#[]⟩ (.slice none 0 0) [] 0 ps wa from by rw [hwa];exact ⟨ZcZ (HP1.out.below (Zai w1 _)),KT.below (Zai w1 _),Kac _ _,ArgsV.nil _ _ _⟩)
 clear hwa d2
 refine (Zg6 _ SA0.out.1 5).mono ?_
 rintro e v1 ⟨⟨v,rfl⟩,h9,k9⟩
 have S1:=hid (SA0.out.call h9 k9)
 clear h9 k9
 obtain ⟨sw,hsw⟩:∃ sw,wantP L (failP L s 5) tSemi=sw:=⟨_,rfl⟩
 have HW:=Zbp _ S1.out.1 tSemi
 rw [hsw] at HW
 have HW:=hid HW
 have hst:stmtP L f s=putS sw ⟨0,0,noB,[],0,ps⟩:=by unfold stmtP;rw [HBODY.out];dsimp only;rw [hsw]
 have HST:=hid hst
 have hss:sw.ss=s.ss:=by
  have a:=(G.want (L:=L) (failP L s 5) tSemi).hs
  rw [hsw] at a
  have b:=HG.out.hs
  rw [HBODY.out] at b
  exact a.trans b
 have h64':sw.ss.length≤64:=by rw [hss];exact h64
 clear hst hsw hss
 go_wp2_with fail
 refine (HW.out).mono ?_
 rintro e v2 ⟨⟨v,rfl⟩,h9,k9⟩
 have S2:=hid (S1.out.call h9 k9)
 clear h9 k9
 obtain ⟨SR,sr,ER,er,ev,hpr⟩:=S2.out.1
 have HPR:=hid hpr
 have c2:=hpr.c2
 obtain ⟨nn,hnn⟩:∃ nn,nn=sw.ss.length:=⟨_,rfl⟩
 rw [←hnn] at c2
 have HNN:=hid hnn
 have hn64:nn+1≤1000000:=by omega
 have r0:=S2.out.c0
 have r1:=S2.out.c1
 have r2:=S2.out.c2
 have r3:=S2.out.c3
 have r4:=S2.out.c4
 have r5:=S2.out.c5
 have c2o:∀ o:Obj,(v2.alloc o).cell? ⟨P,2,none⟩=some (.slice SR nn sr):=fun o=>(World.cell?_alloc_lt v2 o ⟨P,2,none⟩ HPR.out.lt).trans c2
 obtain ⟨ZZ,zz1,zz2⟩:=ZdZ hpr S2.out.2.2.2
 have HZ1:=hid zz1
 have HZ2:=hid zz2
 clear hpr hnn zz1 zz2
 go_wp2_with fail
 have HGO:=hid (fun o:Obj=>HPR.out.below (w':=(v2.alloc o).drew) ((Kai _ _).alloc (Kag _) o).drew)
 go_region_law (refine Zci (X:=fun k=>X k∨ZZ k) rfl (.tmp 58) (.tmp 60) rfl base SR sr sw.ss nn HNN.out.symm rfl (HZ1.out _).1 v2.heap.size rfl (⟨0,0,noB,[],0,ps⟩,(Value.slice none 0 0)) (Kac _ _) (HZ2.out _) hn64 (by have:=HPR.out.base_le;simp;omega) ?_;intro A' cap' w5 ho hg;have hPB:=pr_ne (HGO.out _) hg P _ _ _ (HGO.out _).blk (by decide);have q3:=Zea HNN.out hPB;have z3:=Zan hPB 2;have HX:=hid (ZdY (X:=X) (fun k hk=>.inl hk) (HGO.out _) ZZ ho (HZ1.out _).2 hg h64');clear hPB ho hg)
 all_goals
  go_wp2
  go_end0
  have hn:=HNN.out
  subst hn
  obtain ⟨x1,x2⟩:=HX.out
  exact ⟨⟨_,rfl⟩,by rw [HST.out];exact x1.pm,(((K1.out.trans S2.out.2.1).toBelow hbl).trans (Below.mono (((Kai _ _).alloc (Kag _) _).drew) HPR.out.base_le)).trans x2⟩
theorem Zj6 (f:Nat) (w:World) (s:PS) (h:PM X base P TA tc L s w) (h64:s.ss.length≤64) (hf:12*L.length+20≤f) (hl:s.ss.length≠64) (hq1:isP L s Zcz=false) (hq2:isP L s tLet=false) (hq3:isP L s Zdo=false):
  Calls Tryz.prog 84 #[PP P] w fun e w'=>(∃ v,e=.returned v)∧PM X base P TA tc L (stmtP L f s) w'∧Below base w w':=by
 have hbl:=h.base_le
 obtain ⟨kd,tx,nm,ps,hnow⟩:∃ kd tx nm ps,nowP L s=⟨kd,tx,nm,ps⟩:=⟨_,_,_,_,rfl⟩
 have HNOW:=hid hnow
 have H:=hid h
 have HG:=hid (Zdz (L:=L) f s)
 clear h hnow
 have q6:((s.ss.length:Int)==64)=false:=by rw [Kaj];omega
 have HBODY:=hid (show bodyP L f s=(failP L s 130,⟨0,0,noB,[],0,ps⟩) from by unfold bodyP;rw [if_neg hl,hq1,hq2,hq3,HNOW.out];rfl)
 have Q1:=hid hq1
 have Q2:=hid hq2
 have Q3:=hid hq3
 clear hl hq1 hq2 hq3
 go_enter Tryz.func84,Tryz.ntmps84
 go_wp2_with fail
 refine (Za7 w H.out HNOW.out).mono ?_
 rintro e w1 ⟨rfl,h1,k1,b1⟩
 obtain ⟨SA,sc,c2,d2⟩:=pm_c2 h1
 clear c2
 have H1:=hid (show ∃ s0,PM X base P TA tc L s0 w1 from ⟨s,h1⟩)
 have K1:=hid k1
 have HP1:=hid h1
 clear h1 k1 b1
 go_wp2_with fail
 obtain ⟨wa,hwa⟩:∃ wa,wa=w1.alloc (.cells #[.int .i64 0,.int .i64 0,.string ⟨#[]⟩,.slice none 0 0,.int .i64 0,.int .i64 ps] 93):=⟨_,rfl⟩
 rw [←hwa]
 have SA0:=hid (show SM X base P TA tc L w1 w1.heap.size s 0 0 ⟨#[]⟩ (.slice none 0 0) [] 0 ps wa from by rw [hwa];exact ⟨ZcZ (HP1.out.below (Zai w1 _)),KT.below (Zai w1 _),Kac _ _,ArgsV.nil _ _ _⟩)
 clear hwa d2
 refine (ZaT _ SA0.out.1 Zcz Q1.out).mono ?_
 rintro e v3 ⟨rfl,h9,k9⟩
 have S3:=hid (SA0.out.call h9 k9)
 clear h9 k9
 go_wp2_with fail
 refine (ZaT _ S3.out.1 tLet Q2.out).mono ?_
 rintro e v4 ⟨rfl,h9,k9⟩
 have S4:=hid (S3.out.call h9 k9)
 clear h9 k9
 go_wp2_with fail
 refine (ZaT _ S4.out.1 Zdo Q3.out).mono ?_
 rintro e v5 ⟨rfl,h9,k9⟩
 have S5:=hid (S4.out.call h9 k9)
 clear h9 k9
 go_wp2_with fail
 refine (Zg6 _ S5.out.1 130).mono ?_
 rintro e v6 ⟨⟨v,rfl⟩,h9,k9⟩
 have S6:=hid (S5.out.call h9 k9)
 clear h9 k9
 obtain ⟨sw,hsw⟩:∃ sw,wantP L (failP L s 130) tSemi=sw:=⟨_,rfl⟩
 have HW:=Zbp _ S6.out.1 tSemi
 rw [hsw] at HW
 have HW:=hid HW
 have hst:stmtP L f s=putS sw ⟨0,0,noB,[],0,ps⟩:=by unfold stmtP;rw [HBODY.out];dsimp only;rw [hsw]
 have HST:=hid hst
 have hss:sw.ss=s.ss:=by
  have a:=(G.want (L:=L) (failP L s 130) tSemi).hs
  rw [hsw] at a
  have b:=HG.out.hs
  rw [HBODY.out] at b
  exact a.trans b
 have h64':sw.ss.length≤64:=by rw [hss];exact h64
 clear hst hsw hss
 go_wp2_with fail
 refine (HW.out).mono ?_
 rintro e v7 ⟨⟨v,rfl⟩,h9,k9⟩
 have S7:=hid (S6.out.call h9 k9)
 clear h9 k9
 obtain ⟨SR,sr,ER,er,ev,hpr⟩:=S7.out.1
 have HPR:=hid hpr
 have c2:=hpr.c2
 obtain ⟨nn,hnn⟩:∃ nn,nn=sw.ss.length:=⟨_,rfl⟩
 rw [←hnn] at c2
 have HNN:=hid hnn
 have hn64:nn+1≤1000000:=by omega
 have r0:=S7.out.c0
 have r1:=S7.out.c1
 have r2:=S7.out.c2
 have r3:=S7.out.c3
 have r4:=S7.out.c4
 have r5:=S7.out.c5
 have c2o:∀ o:Obj,(v7.alloc o).cell? ⟨P,2,none⟩=some (.slice SR nn sr):=fun o=>(World.cell?_alloc_lt v7 o ⟨P,2,none⟩ HPR.out.lt).trans c2
 obtain ⟨ZZ,zz1,zz2⟩:=ZdZ hpr S7.out.2.2.2
 have HZ1:=hid zz1
 have HZ2:=hid zz2
 clear hpr hnn zz1 zz2
 go_wp2_with fail
 have HGO:=hid (fun o:Obj=>HPR.out.below (w':=(v7.alloc o).drew) ((Kai _ _).alloc (Kag _) o).drew)
 go_region_law (refine Zci (X:=fun k=>X k∨ZZ k) rfl (.tmp 58) (.tmp 60) rfl base SR sr sw.ss nn HNN.out.symm rfl (HZ1.out _).1 v7.heap.size rfl (⟨0,0,noB,[],0,ps⟩,(Value.slice none 0 0)) (Kac _ _) (HZ2.out _) hn64 (by have:=HPR.out.base_le;simp;omega) ?_;intro A' cap' w5 ho hg;have hPB:=pr_ne (HGO.out _) hg P _ _ _ (HGO.out _).blk (by decide);have q3:=Zea HNN.out hPB;have z3:=Zan hPB 2;have HX:=hid (ZdY (X:=X) (fun k hk=>.inl hk) (HGO.out _) ZZ ho (HZ1.out _).2 hg h64');clear hPB ho hg)
 all_goals
  go_wp2
  go_end0
  have hn:=HNN.out
  subst hn
  obtain ⟨x1,x2⟩:=HX.out
  exact ⟨⟨_,rfl⟩,by rw [HST.out];exact x1.pm,(((K1.out.trans S7.out.2.1).toBelow hbl).trans (Below.mono (((Kai _ _).alloc (Kag _) _).drew) HPR.out.base_le)).trans x2⟩
theorem ZgA (f:Nat) (w:World) (s:PS) (h:PM X base P TA tc L s w) (h64:s.ss.length≤64) (hf:12*L.length+20≤f) (hl:s.ss.length≠64) (hq1:isP L s Zcz=false) (hq2:isP L s tLet=false) (hq3:isP L s Zdo=true):
  Calls Tryz.prog 84 #[PP P] w fun e w'=>(∃ v,e=.returned v)∧PM X base P TA tc L (stmtP L f s) w'∧Below base w w':=by
 have hbl:=h.base_le
 obtain ⟨kd,tx,nm,ps,hnow⟩:∃ kd tx nm ps,nowP L s=⟨kd,tx,nm,ps⟩:=⟨_,_,_,_,rfl⟩
 have HNOW:=hid hnow
 have H:=hid h
 have HG:=hid (Zdz (L:=L) f s)
 clear h hnow
 have q6:((s.ss.length:Int)==64)=false:=by rw [Kaj];omega
 obtain ⟨sm,vm,hm⟩:∃ sm vm,nameP L (advP s)=(sm,vm):=⟨_,_,rfl⟩
 have HBODY:=hid (show bodyP L f s=(sm,⟨3,0,vm,[],0,ps⟩) from by unfold bodyP;rw [if_neg hl,hq1,hq2,hq3,HNOW.out];dsimp only;rw [hm];rfl)
 have Q1:=hid hq1
 have Q2:=hid hq2
 have Q3:=hid hq3
 have HM:=hid hm
 clear hl hq1 hq2 hq3 hm
 go_enter Tryz.func84,Tryz.ntmps84
 go_wp2_with fail
 refine (Za7 w H.out HNOW.out).mono ?_
 rintro e w1 ⟨rfl,h1,k1,b1⟩
 obtain ⟨SA,sc,c2,d2⟩:=pm_c2 h1
 clear c2
 have H1:=hid (show ∃ s0,PM X base P TA tc L s0 w1 from ⟨s,h1⟩)
 have K1:=hid k1
 have HP1:=hid h1
 clear h1 k1 b1
 go_wp2_with fail
 obtain ⟨wa,hwa⟩:∃ wa,wa=w1.alloc (.cells #[.int .i64 0,.int .i64 0,.string ⟨#[]⟩,.slice none 0 0,.int .i64 0,.int .i64 ps] 93):=⟨_,rfl⟩
 rw [←hwa]
 have SA0:=hid (show SM X base P TA tc L w1 w1.heap.size s 0 0 ⟨#[]⟩ (.slice none 0 0) [] 0 ps wa from by rw [hwa];exact ⟨ZcZ (HP1.out.below (Zai w1 _)),KT.below (Zai w1 _),Kac _ _,ArgsV.nil _ _ _⟩)
 clear hwa d2
 refine (ZaT _ SA0.out.1 Zcz Q1.out).mono ?_
 rintro e v8 ⟨rfl,h9,k9⟩
 have S8:=hid (SA0.out.call h9 k9)
 clear h9 k9
 go_wp2_with fail
 refine (ZaT _ S8.out.1 tLet Q2.out).mono ?_
 rintro e v9 ⟨rfl,h9,k9⟩
 have S9:=hid (S8.out.call h9 k9)
 clear h9 k9
 go_wp2_with fail
 refine (Zbf _ S9.out.1 Zdo Q3.out).mono ?_
 rintro e v10 ⟨rfl,h9,k9⟩
 have S10:=hid (S9.out.call h9 k9)
 clear h9 k9
 have c11:=S10.out.c0
 have y11:=S10.out.free 0
 have S11:=hid (Zg8 S10.out H1.out (Kag _) 3)
 have HNM:=Zg7 _ S11.out.1
 rw [HM.out] at HNM
 have HNM:=hid HNM
 go_wp2_with fail
 refine (HNM.out).mono ?_
 rintro e v12 ⟨rfl,h9,k9⟩
 have S12:=hid (S11.out.call h9 k9)
 clear h9 k9
 have c13:=S12.out.c2
 have y13:=S12.out.free 2
 have S13:=hid (Zg9 S12.out H1.out (Kag _) vm)
 obtain ⟨sw,hsw⟩:∃ sw,wantP L sm tSemi=sw:=⟨_,rfl⟩
 have HW:=Zbp _ S13.out.1 tSemi
 rw [hsw] at HW
 have HW:=hid HW
 have hst:stmtP L f s=putS sw ⟨3,0,vm,[],0,ps⟩:=by unfold stmtP;rw [HBODY.out];dsimp only;rw [hsw]
 have HST:=hid hst
 have hss:sw.ss=s.ss:=by
  have a:=(G.want (L:=L) sm tSemi).hs
  rw [hsw] at a
  have b:=HG.out.hs
  rw [HBODY.out] at b
  exact a.trans b
 have h64':sw.ss.length≤64:=by rw [hss];exact h64
 clear hst hsw hss
 go_wp2_with fail
 refine (HW.out).mono ?_
 rintro e v14 ⟨⟨v,rfl⟩,h9,k9⟩
 have S14:=hid (S13.out.call h9 k9)
 clear h9 k9
 obtain ⟨SR,sr,ER,er,ev,hpr⟩:=S14.out.1
 have HPR:=hid hpr
 have c2:=hpr.c2
 obtain ⟨nn,hnn⟩:∃ nn,nn=sw.ss.length:=⟨_,rfl⟩
 rw [←hnn] at c2
 have HNN:=hid hnn
 have hn64:nn+1≤1000000:=by omega
 have r0:=S14.out.c0
 have r1:=S14.out.c1
 have r2:=S14.out.c2
 have r3:=S14.out.c3
 have r4:=S14.out.c4
 have r5:=S14.out.c5
 have c2o:∀ o:Obj,(v14.alloc o).cell? ⟨P,2,none⟩=some (.slice SR nn sr):=fun o=>(World.cell?_alloc_lt v14 o ⟨P,2,none⟩ HPR.out.lt).trans c2
 obtain ⟨ZZ,zz1,zz2⟩:=ZdZ hpr S14.out.2.2.2
 have HZ1:=hid zz1
 have HZ2:=hid zz2
 clear hpr hnn zz1 zz2
 go_wp2_with fail
 have HGO:=hid (fun o:Obj=>HPR.out.below (w':=(v14.alloc o).drew) ((Kai _ _).alloc (Kag _) o).drew)
 go_region_law (refine Zci (X:=fun k=>X k∨ZZ k) rfl (.tmp 58) (.tmp 60) rfl base SR sr sw.ss nn HNN.out.symm rfl (HZ1.out _).1 v14.heap.size rfl (⟨3,0,vm,[],0,ps⟩,(Value.slice none 0 0)) (Kac _ _) (HZ2.out _) hn64 (by have:=HPR.out.base_le;simp;omega) ?_;intro A' cap' w5 ho hg;have hPB:=pr_ne (HGO.out _) hg P _ _ _ (HGO.out _).blk (by decide);have q3:=Zea HNN.out hPB;have z3:=Zan hPB 2;have HX:=hid (ZdY (X:=X) (fun k hk=>.inl hk) (HGO.out _) ZZ ho (HZ1.out _).2 hg h64');clear hPB ho hg)
 all_goals
  go_wp2
  go_end0
  have hn:=HNN.out
  subst hn
  obtain ⟨x1,x2⟩:=HX.out
  exact ⟨⟨_,rfl⟩,by rw [HST.out];exact x1.pm,(((K1.out.trans S14.out.2.1).toBelow hbl).trans (Below.mono (((Kai _ _).alloc (Kag _) _).drew) HPR.out.base_le)).trans x2⟩
theorem Zlw (f:Nat) (w:World) (s:PS) (h:PM X base P TA tc L s w) (h64:s.ss.length≤64) (hf:12*L.length+20≤f) (hl:s.ss.length≠64) (hq1:isP L s Zcz=false) (hq2:isP L s tLet=true):
  Calls Tryz.prog 84 #[PP P] w fun e w'=>(∃ v,e=.returned v)∧PM X base P TA tc L (stmtP L f s) w'∧Below base w w':=by
 have hbl:=h.base_le
 obtain ⟨kd,tx,nm,ps,hnow⟩:∃ kd tx nm ps,nowP L s=⟨kd,tx,nm,ps⟩:=⟨_,_,_,_,rfl⟩
 have HNOW:=hid hnow
 have H:=hid h
 have HG:=hid (Zdz (L:=L) f s)
 clear h hnow
 have q6:((s.ss.length:Int)==64)=false:=by rw [Kaj];omega
 obtain ⟨sm,vm,hm⟩:∃ sm vm,nameP L (advP s)=(sm,vm):=⟨_,_,rfl⟩
 obtain ⟨so,ho⟩:∃ so,wantP L sm tEq=so:=⟨_,rfl⟩
 obtain ⟨se,ve,he⟩:∃ se ve,exprP L f so=(se,ve):=⟨_,_,rfl⟩
 have HBODY:=hid (show bodyP L f s=(se,⟨2,0,vm,[],ve,ps⟩) from by unfold bodyP;rw [if_neg hl,hq1,hq2,HNOW.out];dsimp only;rw [hm];dsimp only;rw [ho,he];rfl)
 have Q1:=hid hq1
 have Q2:=hid hq2
 have HM:=hid hm
 have HOO:=hid ho
 have HEE:=hid he
 clear hl hq1 hq2 hm ho he
 go_enter Tryz.func84,Tryz.ntmps84
 go_wp2_with fail
 refine (Za7 w H.out HNOW.out).mono ?_
 rintro e w1 ⟨rfl,h1,k1,b1⟩
 obtain ⟨SA,sc,c2,d2⟩:=pm_c2 h1
 clear c2
 have H1:=hid (show ∃ s0,PM X base P TA tc L s0 w1 from ⟨s,h1⟩)
 have K1:=hid k1
 have HP1:=hid h1
 clear h1 k1 b1
 go_wp2_with fail
 obtain ⟨wa,hwa⟩:∃ wa,wa=w1.alloc (.cells #[.int .i64 0,.int .i64 0,.string ⟨#[]⟩,.slice none 0 0,.int .i64 0,.int .i64 ps] 93):=⟨_,rfl⟩
 rw [←hwa]
 have SA0:=hid (show SM X base P TA tc L w1 w1.heap.size s 0 0 ⟨#[]⟩ (.slice none 0 0) [] 0 ps wa from by rw [hwa];exact ⟨ZcZ (HP1.out.below (Zai w1 _)),KT.below (Zai w1 _),Kac _ _,ArgsV.nil _ _ _⟩)
 clear hwa d2
 refine (ZaT _ SA0.out.1 Zcz Q1.out).mono ?_
 rintro e v15 ⟨rfl,h9,k9⟩
 have S15:=hid (SA0.out.call h9 k9)
 clear h9 k9
 go_wp2_with fail
 refine (Zbf _ S15.out.1 tLet Q2.out).mono ?_
 rintro e v16 ⟨rfl,h9,k9⟩
 have S16:=hid (S15.out.call h9 k9)
 clear h9 k9
 have c17:=S16.out.c0
 have y17:=S16.out.free 0
 have S17:=hid (Zg8 S16.out H1.out (Kag _) 2)
 have HNM:=Zg7 _ S17.out.1
 rw [HM.out] at HNM
 have HNM:=hid HNM
 go_wp2_with fail
 refine (HNM.out).mono ?_
 rintro e v18 ⟨rfl,h9,k9⟩
 have S18:=hid (S17.out.call h9 k9)
 clear h9 k9
 have c19:=S18.out.c2
 have y19:=S18.out.free 2
 have S19:=hid (Zg9 S18.out H1.out (Kag _) vm)
 have HWE:=Zbp _ S19.out.1 tEq
 rw [HOO.out] at HWE
 have HWE:=hid HWE
 go_wp2_with fail
 refine (HWE.out).mono ?_
 rintro e v20 ⟨⟨v,rfl⟩,h9,k9⟩
 have S20:=hid (S19.out.call h9 k9)
 clear h9 k9
 have HEX:=(allW base P TA tc L f).expr _ so S20.out.1 (by omega)
 rw [HEE.out] at HEX
 have HEX:=hid HEX
 go_wp2_with fail
 refine (HEX.out).mono ?_
 rintro e v21 ⟨rfl,h9,k9⟩
 have S21:=hid (S20.out.call h9 k9)
 clear h9 k9
 have c22:=S21.out.c4
 have y22:=S21.out.free 4
 have S22:=hid (ZmR S21.out H1.out (Kag _) ve)
 obtain ⟨sw,hsw⟩:∃ sw,wantP L se tSemi=sw:=⟨_,rfl⟩
 have HW:=Zbp _ S22.out.1 tSemi
 rw [hsw] at HW
 have HW:=hid HW
 have hst:stmtP L f s=putS sw ⟨2,0,vm,[],ve,ps⟩:=by unfold stmtP;rw [HBODY.out];dsimp only;rw [hsw]
 have HST:=hid hst
 have hss:sw.ss=s.ss:=by
  have a:=(G.want (L:=L) se tSemi).hs
  rw [hsw] at a
  have b:=HG.out.hs
  rw [HBODY.out] at b
  exact a.trans b
 have h64':sw.ss.length≤64:=by rw [hss];exact h64
 clear hst hsw hss
 go_wp2_with fail
 refine (HW.out).mono ?_
 rintro e v23 ⟨⟨v,rfl⟩,h9,k9⟩
 have S23:=hid (S22.out.call h9 k9)
 clear h9 k9
 obtain ⟨SR,sr,ER,er,ev,hpr⟩:=S23.out.1
 have HPR:=hid hpr
 have c2:=hpr.c2
 obtain ⟨nn,hnn⟩:∃ nn,nn=sw.ss.length:=⟨_,rfl⟩
 rw [←hnn] at c2
 have HNN:=hid hnn
 have hn64:nn+1≤1000000:=by omega
 have r0:=S23.out.c0
 have r1:=S23.out.c1
 have r2:=S23.out.c2
 have r3:=S23.out.c3
 have r4:=S23.out.c4
 have r5:=S23.out.c5
 have c2o:∀ o:Obj,(v23.alloc o).cell? ⟨P,2,none⟩=some (.slice SR nn sr):=fun o=>(World.cell?_alloc_lt v23 o ⟨P,2,none⟩ HPR.out.lt).trans c2
 obtain ⟨ZZ,zz1,zz2⟩:=ZdZ hpr S23.out.2.2.2
 have HZ1:=hid zz1
 have HZ2:=hid zz2
 clear hpr hnn zz1 zz2
 go_wp2_with fail
 have HGO:=hid (fun o:Obj=>HPR.out.below (w':=(v23.alloc o).drew) ((Kai _ _).alloc (Kag _) o).drew)
 go_region_law (refine Zci (X:=fun k=>X k∨ZZ k) rfl (.tmp 58) (.tmp 60) rfl base SR sr sw.ss nn HNN.out.symm rfl (HZ1.out _).1 v23.heap.size rfl (⟨2,0,vm,[],ve,ps⟩,(Value.slice none 0 0)) (Kac _ _) (HZ2.out _) hn64 (by have:=HPR.out.base_le;simp;omega) ?_;intro A' cap' w5 ho hg;have hPB:=pr_ne (HGO.out _) hg P _ _ _ (HGO.out _).blk (by decide);have q3:=Zea HNN.out hPB;have z3:=Zan hPB 2;have HX:=hid (ZdY (X:=X) (fun k hk=>.inl hk) (HGO.out _) ZZ ho (HZ1.out _).2 hg h64');clear hPB ho hg)
 all_goals
  go_wp2
  go_end0
  have hn:=HNN.out
  subst hn
  obtain ⟨x1,x2⟩:=HX.out
  exact ⟨⟨_,rfl⟩,by rw [HST.out];exact x1.pm,(((K1.out.trans S23.out.2.1).toBelow hbl).trans (Below.mono (((Kai _ _).alloc (Kag _) _).drew) HPR.out.base_le)).trans x2⟩
theorem ZhX (f:Nat) (w:World) (s:PS) (h:PM X base P TA tc L s w) (h64:s.ss.length≤64) (hf:12*L.length+20≤f) (hl:s.ss.length≠64) (hq1:isP L s Zcz=true):
  Calls Tryz.prog 84 #[PP P] w fun e w'=>(∃ v,e=.returned v)∧PM X base P TA tc L (stmtP L f s) w'∧Below base w w':=by
 have hbl:=h.base_le
 obtain ⟨kd,tx,nm,ps,hnow⟩:∃ kd tx nm ps,nowP L s=⟨kd,tx,nm,ps⟩:=⟨_,_,_,_,rfl⟩
 have HNOW:=hid hnow
 have H:=hid h
 have HG:=hid (Zdz (L:=L) f s)
 clear h hnow
 have q6:((s.ss.length:Int)==64)=false:=by rw [Kaj];omega
 obtain ⟨sn,vn,hn⟩:∃ sn vn,Zaw L (advP s)=(sn,vn):=⟨_,_,rfl⟩
 obtain ⟨sm,vm,hm⟩:∃ sm vm,nameP L sn=(sm,vm):=⟨_,_,rfl⟩
 obtain ⟨sh,vh,hh⟩:∃ sh vh,Zbr L f sm=(sh,vh):=⟨_,_,rfl⟩
 have HBODY:=hid (show bodyP L f s=(sh,⟨1,vn,vm,vh,0,ps⟩) from by unfold bodyP;rw [if_neg hl,hq1,HNOW.out];dsimp only;rw [hn];dsimp only;rw [hm];dsimp only;rw [hh];rfl)
 have Q1:=hid hq1
 have HN:=hid hn
 have HM:=hid hm
 have HH:=hid hh
 clear hl hq1 hn hm hh
 go_enter Tryz.func84,Tryz.ntmps84
 go_wp2_with fail
 refine (Za7 w H.out HNOW.out).mono ?_
 rintro e w1 ⟨rfl,h1,k1,b1⟩
 obtain ⟨SA,sc,c2,d2⟩:=pm_c2 h1
 clear c2
 have H1:=hid (show ∃ s0,PM X base P TA tc L s0 w1 from ⟨s,h1⟩)
 have K1:=hid k1
 have HP1:=hid h1
 clear h1 k1 b1
 go_wp2_with fail
 obtain ⟨wa,hwa⟩:∃ wa,wa=w1.alloc (.cells #[.int .i64 0,.int .i64 0,.string ⟨#[]⟩,.slice none 0 0,.int .i64 0,.int .i64 ps] 93):=⟨_,rfl⟩
 rw [←hwa]
 have SA0:=hid (show SM X base P TA tc L w1 w1.heap.size s 0 0 ⟨#[]⟩ (.slice none 0 0) [] 0 ps wa from by rw [hwa];exact ⟨ZcZ (HP1.out.below (Zai w1 _)),KT.below (Zai w1 _),Kac _ _,ArgsV.nil _ _ _⟩)
 clear hwa d2
 refine (Zbf _ SA0.out.1 Zcz Q1.out).mono ?_
 rintro e v24 ⟨rfl,h9,k9⟩
 have S24:=hid (SA0.out.call h9 k9)
 clear h9 k9
 have c25:=S24.out.c0
 have y25:=S24.out.free 0
 have S25:=hid (Zg8 S24.out H1.out (Kag _) 1)
 have HNU:=ZcW _ S25.out.1
 rw [HN.out] at HNU
 have HNU:=hid HNU
 go_wp2_with fail
 refine (HNU.out).mono ?_
 rintro e v26 ⟨rfl,h9,k9⟩
 have S26:=hid (S25.out.call h9 k9)
 clear h9 k9
 have c27:=S26.out.c1
 have y27:=S26.out.free 1
 have S27:=hid (ZmP S26.out H1.out (Kag _) vn)
 have HNM:=Zg7 _ S27.out.1
 rw [HM.out] at HNM
 have HNM:=hid HNM
 go_wp2_with fail
 refine (HNM.out).mono ?_
 rintro e v28 ⟨rfl,h9,k9⟩
 have S28:=hid (S27.out.call h9 k9)
 clear h9 k9
 have c29:=S28.out.c2
 have y29:=S28.out.free 2
 have S29:=hid (Zg9 S28.out H1.out (Kag _) vm)
 have HSH:=Zlu f _ S29.out.1 (by omega)
 rw [HH.out] at HSH
 have HSH:=hid HSH
 go_wp2_with fail
 refine HSH.out.mono ?_
 rintro e v30 ⟨HA,HAc,rfl,h9,k9,a9⟩
 have S30:=hid (S29.out.call (h9.re fun k hk=>.inl hk) k9)
 have A30:=hid (a9.re (Y:=X) fun k hk=>.inl (.inl hk))
 have P30:=hid (h9.re (Y:=XA X HA) fun k hk=>hk.elim (fun x=>.inl (.inl x)) .inr)
 clear h9 k9 a9
 have c31:=S30.out.c3
 have y31:=S30.out.free 3
 have S31:=hid (ZmQ S30.out H1.out (Kag _) HA vh.length HAc A30.out P30.out)
 obtain ⟨sw,hsw⟩:∃ sw,wantP L sh tSemi=sw:=⟨_,rfl⟩
 have HW:=Zbp _ S31.out.1 tSemi
 rw [hsw] at HW
 have HW:=hid HW
 have hst:stmtP L f s=putS sw ⟨1,vn,vm,vh,0,ps⟩:=by unfold stmtP;rw [HBODY.out];dsimp only;rw [hsw]
 have HST:=hid hst
 have hss:sw.ss=s.ss:=by
  have a:=(G.want (L:=L) sh tSemi).hs
  rw [hsw] at a
  have b:=HG.out.hs
  rw [HBODY.out] at b
  exact a.trans b
 have h64':sw.ss.length≤64:=by rw [hss];exact h64
 clear hst hsw hss
 go_wp2_with fail
 refine (HW.out).mono ?_
 rintro e v32 ⟨⟨v,rfl⟩,h9,k9⟩
 have S32:=hid (S31.out.call h9 k9)
 clear h9 k9
 obtain ⟨SR,sr,ER,er,ev,hpr⟩:=S32.out.1
 have HPR:=hid hpr
 have c2:=hpr.c2
 obtain ⟨nn,hnn⟩:∃ nn,nn=sw.ss.length:=⟨_,rfl⟩
 rw [←hnn] at c2
 have HNN:=hid hnn
 have hn64:nn+1≤1000000:=by omega
 have r0:=S32.out.c0
 have r1:=S32.out.c1
 have r2:=S32.out.c2
 have r3:=S32.out.c3
 have r4:=S32.out.c4
 have r5:=S32.out.c5
 have c2o:∀ o:Obj,(v32.alloc o).cell? ⟨P,2,none⟩=some (.slice SR nn sr):=fun o=>(World.cell?_alloc_lt v32 o ⟨P,2,none⟩ HPR.out.lt).trans c2
 obtain ⟨ZZ,zz1,zz2⟩:=ZdZ hpr S32.out.2.2.2
 have HZ1:=hid zz1
 have HZ2:=hid zz2
 clear hpr hnn zz1 zz2
 go_wp2_with fail
 have HGO:=hid (fun o:Obj=>HPR.out.below (w':=(v32.alloc o).drew) ((Kai _ _).alloc (Kag _) o).drew)
 go_region_law (refine Zci (X:=fun k=>X k∨ZZ k) rfl (.tmp 58) (.tmp 60) rfl base SR sr sw.ss nn HNN.out.symm rfl (HZ1.out _).1 v32.heap.size rfl (⟨1,vn,vm,vh,0,ps⟩,(Value.slice HA vh.length HAc)) (Kac _ _) (HZ2.out _) hn64 (by have:=HPR.out.base_le;simp;omega) ?_;intro A' cap' w5 ho hg;have hPB:=pr_ne (HGO.out _) hg P _ _ _ (HGO.out _).blk (by decide);have q3:=Zea HNN.out hPB;have z3:=Zan hPB 2;have HX:=hid (ZdY (X:=X) (fun k hk=>.inl hk) (HGO.out _) ZZ ho (HZ1.out _).2 hg h64');clear hPB ho hg)
 all_goals
  go_wp2
  go_end0
  have hn:=HNN.out
  subst hn
  obtain ⟨x1,x2⟩:=HX.out
  exact ⟨⟨_,rfl⟩,by rw [HST.out];exact x1.pm,(((K1.out.trans S32.out.2.1).toBelow hbl).trans (Below.mono (((Kai _ _).alloc (Kag _) _).drew) HPR.out.base_le)).trans x2⟩
theorem Zlx (f:Nat) (w:World) (s:PS) (h:PM X base P TA tc L s w) (h64:s.ss.length≤64) (hf:12*L.length+20≤f):
  Calls Tryz.prog 84 #[PP P] w fun e w'=>(∃ v,e=.returned v)∧PM X base P TA tc L (stmtP L f s) w'∧Below base w w':=by
 by_cases hl:s.ss.length=64
 ·exact Zj5 f w s h h64 hf hl
 cases hq1:isP L s Zcz with
 | true=>exact ZhX f w s h h64 hf hl hq1
 | false=>
  cases hq2:isP L s tLet with
  | true=>exact Zlw f w s h h64 hf hl hq1 hq2
  | false=>
   cases hq3:isP L s Zdo with
   | true=>exact ZgA f w s h h64 hf hl hq1 hq2 hq3
   | false=>exact Zj6 f w s h h64 hf hl hq1 hq2 hq3
end
end Go.Proofs.YtghlnncfigkkaaaGreatDoor
