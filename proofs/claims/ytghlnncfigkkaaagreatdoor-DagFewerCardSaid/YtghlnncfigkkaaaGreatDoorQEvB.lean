/-
 Clones of words; answered tensors: new rows; the evaluator is made.
-/
import Derived.Test.YtghlnncfigkkaaaGreatDoorQChkQ
import Derived.Test.YtghlnncfigkkaaaGreatDoorQEvS
set_option maxRecDepth 100000
set_option maxHeartbeats 2000000
open Go.Lib (hid)
namespace Go.Proofs.YtghlnncfigkkaaaGreatDoor
set_option linter.unusedVariables false
set_option linter.unusedSimpArgs false
open Go.RowKit
theorem Zh6 (A:Option Addr) (n c:Nat) (l:List UInt64) (w:World) (hn:n=l.length) (hl:n≤1000000) (h:Rd w w.heap.size A (l.map U)):
  Calls Tryz.prog 56 #[.slice A n c] w fun e w'=>∃ A' c',e=.returned (.slice A' n c')∧Own w' w.heap.size 39 A' c' (l.map U)∧Below w.heap.size w w':=by
 have q22:∀ (w:World) (a:Option Addr) (n c n' c':Nat),(binOp .eql 40 (.slice a n c) (.slice none n' c')).run Tryz.prog w=.ok (.bool a.isNone) w:=fun w a n c n' c'=>Lib.run_eql_slice_nil w _ _ a n c n' c' Tryz.underlying40
 cases A with
 | none=>
  have hl0:l=[]:=List.eq_nil_of_length_eq_zero (ZlQ h rfl)
  subst hl0
  subst hn
  clear h
  go_enter Tryz.func56,Tryz.ntmps56
  go_wp2
  go_ret
  exact ⟨none,0,rfl,Own.nil _ _ _,Kai _ _⟩
 | some ad=>
  have HN:=hid hn
  have H:=hid h
  clear hn h
  go_enter Tryz.func56,Tryz.ntmps56
  go_wp2_with (at_builtin;(refine app64 rfl (.tmp 5) (.tmp 6) rfl w.heap.size (some ⟨w.heap.size,0,none⟩) 0 [] 0 rfl rfl (Own.made w 39 (Kag _)) (some ad) n c w.heap.size l HN.out.symm rfl (H.out.alloc (Kag _) _) (fun e=>by cases e) (by omega) (by simp) ?_);intro A3 k3 w3 o3 g3 h3;have O3:=hid o3;have B3:=hid (Zal ((Kai w.heap.size w).alloc (Kag _) _) g3 (by simp) (fun k hk=>by cases hk;exact Kag _));clear o3 g3 h3)
  go_ret
  exact ⟨A3,k3,by rw [←Nat.zero_add n];rfl,O3.out,B3.out⟩
def apart (a b:Option Nat):Prop:=a=none∨a≠b
def tnB (p:Value × Value):List (Option Nat):=[p.1.ownBlock,p.2.ownBlock]
theorem ZgY {a b:Option Nat} {m:Nat} (h1:∀ k,a=some k→k<m) (h2:∀ k,b=some k→m≤k):apart a b:=by
 cases ha:a with
 | none=>exact .inl rfl
 | some k=>
  right
  intro e
  have:=h1 k ha
  have:=h2 k e.symm
  omega
theorem Zk6 {a b:Option Nat} {m:Nat} (h1:∀ k,a=some k→m≤k) (h2:∀ k,b=some k→k<m):apart a b:=by
 cases ha:a with
 | none=>exact .inl rfl
 | some k=>
  right
  intro e
  have:=h1 k ha
  have:=h2 k e.symm
  omega
def OutT (w:World) (base:Nat) (A:Option Addr) (n c:Nat) (l:List TN):Prop:=
 ∃ vs:List (Value × Value),w.ownsRow base 43 2 (.slice A n c) n (vs.flatMap tnC)∧vs.length=n∧l.length=n ∧
 (∀ (j:Nat) (p:Value × Value) (x:TN),vs[j]?=some p→l[j]?=some x→x.sh.length≤1000000∧∃ A1 c1 A2 c2,p=(.slice A1 x.sh.length c1,.slice A2 x.el.length c2)∧Own w base 3 A1 c1 (x.sh.map VI)∧Own w base 39 A2 c2 (x.el.map U)) ∧
 (vs.flatMap tnB).Pairwise apart∧∀ b∈vs.flatMap tnB,apart b (blk A)
section
variable {w w':World} {base n c:Nat} {A:Option Addr} {l:List TN}
theorem OutT.nil (w:World) (base:Nat):OutT w base none 0 0 []:=⟨[],World.ownsRow_nil w base _ 2,rfl,rfl,fun j p x h=>by simp at h,by simp,by simp⟩
theorem OutT.lt (h:OutT w base A n c l):∀ g,blk A=some g→base≤g∧g<w.heap.size:=by
 obtain ⟨vs,h1,_⟩:=h
 exact Zdg h1
theorem OutT.next (h:OutT w base A n c l) (hb:Below w.heap.size w w'):OutT w' base A n c l:=by
 have hlt:=h.lt
 obtain ⟨vs,h1,h2,h3,h4,h5,h6⟩:=h
 refine ⟨vs,ZaK h1 (fun g hg=>hb.block g (hlt g hg).2),h2,h3,fun j p x hp hx => ?_,h5,h6⟩
 obtain ⟨q0,A1,c1,A2,c2,q1,q2,q3⟩:=h4 j p x hp hx
 exact ⟨q0,A1,c1,A2,c2,q1,q2.next hb,q3.next hb⟩
theorem OutT.at_ (h:OutT w base A n c l) {j:Nat} {x:TN} (hx:l[j]?=some x):∃ g A1 c1 A2 c2,A=some ⟨g,0,none⟩∧g<w.heap.size∧w.cell? ⟨g,j*2,none⟩=some (.slice A1 x.sh.length c1)∧w.cell? ⟨g,j*2+1,none⟩=some (.slice A2 x.el.length c2)∧Own w base 3 A1 c1 (x.sh.map VI)∧Own w base 39 A2 c2 (x.el.map U):=by
 have hlt:=h.lt
 obtain ⟨vs,h1,h2,h3,h4,_⟩:=h
 have hj:j<l.length:=(Kaf.1 hx).1
 have hv:vs[j]?=some (vs[j]'(by omega)):=Kad _
 obtain ⟨q0,A1,c1,A2,c2,q1,q2,q3⟩:=h4 j _ x hv hx
 obtain ⟨g,hA,hg,_,hc⟩:=Zbm h1 (by omega)
 have key:∀ i v,(tnC (vs[j]'(by omega)))[i]?=some v→i<2→w.cell? ⟨g,j*2+i,none⟩=some v:=fun i v hv2 hi=>hc _ v ((Zaq tnC 2 (fun _=>rfl) vs j i _ hv hi).trans hv2)
 have k0:=key 0 _ rfl (by omega)
 have k1:=key 1 _ rfl (by omega)
 rw [q1] at k0 k1
 exact ⟨g,A1,c1,A2,c2,hA,hg,k0,k1,q2,q3⟩
end
theorem ZaS (w:World) (t:Addr) (v:Value) {k:Nat} (h:k≠t.block):(w.setCell t v).heap[k]?=w.heap[k]?:=by
 unfold World.setCell
 simp only [Array.getElem?_modify]
 rw [if_neg (fun e=>h e.symm)]
theorem Zf4 {w w':World} {base c:Nat} {e:TypeId} {A:Option Addr} {xs:List Value} (h:Own w base e A c xs) (hk:∀ (g:Nat) (cur:Array Value),w.heap[g]?=some (.cells cur e (0,0))→w'.heap[g]?=w.heap[g]?):Own w' base e A c xs:=by
 refine ⟨h.1,?_⟩
 rcases h.2 with hv | ⟨g',cap',cur,hv,hb,hh,r⟩
 ·exact .inl hv
 ·exact .inr ⟨g',cap',cur,hv,hb,(hk g' cur hh).trans hh,r⟩
theorem OutT.keepT {w w':World} {base n c:Nat} {A:Option Addr} {l:List TN} (h:OutT w base A n c l) (hA:∀ g,blk A=some g→w'.heap[g]?=w.heap[g]?) (hk:∀ (g:Nat) (cur:Array Value) (T:TypeId),w.heap[g]?=some (.cells cur T (0,0))→(T=3∨T=39)→w'.heap[g]?=w.heap[g]?):OutT w' base A n c l:=by
 obtain ⟨vs,h1,h2,h3,h4,h5,h6⟩:=h
 refine ⟨vs,ZaK h1 hA,h2,h3,fun j p x hp hx => ?_,h5,h6⟩
 obtain ⟨q0,A1,c1,A2,c2,q1,q2,q3⟩:=h4 j p x hp hx
 exact ⟨q0,A1,c1,A2,c2,q1,Zf4 q2 (fun g cur hg=>hk g cur _ hg (.inl rfl)),Zf4 q3 (fun g cur hg=>hk g cur _ hg (.inr rfl))⟩
theorem ZiE {w:World} {base c n:Nat} {e:TypeId} {A:Option Addr} {xs:List Value} (h:Own w base e A c xs):∀ k,(Value.slice A n c).ownBlock=some k→base≤k∧k<w.heap.size:=fun k hk=>h.lt k (by rwa [Za4] at hk)
theorem Zf5 {w:World} {o:Oper} {a:Act} {K:Act→World→Prop} {Q:Exit→Act→World→Prop} (s x:Operand)
  (ho:o.op=.call { callee:=.builtin .append,args:=#[s,x],argTypes:=#[44,44] })
  (base:Nat) (A:Option Addr) (c n:Nat) (l:List TN) (hs:a.eval s=.slice A n c) (W w4:World) (hO:OutT W base A n c l) (hB:base≤W.heap.size) (hb4:Below W.heap.size W w4)
  (A1 A2:Option Addr) (c1 c2 n1 n2:Nat) (t:TN) (hn1:n1=t.sh.length) (hn2:n2=t.el.length) (h2:t.sh.length≤1000000) (o1:Own w4 W.heap.size 3 A1 c1 (t.sh.map VI)) (o2:Own w4 W.heap.size 39 A2 c2 (t.el.map U)) (hne:apart (blk A1) (blk A2))
  (hw:w=w4.alloc (.cells #[.slice A1 n1 c1,.slice A2 n2 c2] 43)) (hx:a.eval x=.slice (some ⟨w4.heap.size,0,none⟩) 1 1) (hbytes:n≤1000000)
  (h:∀ A' c' w',OutT w' base A' (n+1) c' (l++[t])→w.grownBy w' (blk A)→(blk A'=blk A∨blk A'=some w.heap.size)→K (a.put o.dst (.slice A' (n+1) c')) w'):
  Oper.wp Tryz.prog o a w K Q:=by
 obtain ⟨i0,hi0,hz0,hz1,hz2⟩:=info_parts ZeW
 subst hn1 hn2
 have hlt:=hO.lt
 have hal:Below w4.heap.size w4 w:=by rw [hw];exact (Kai _ _).alloc (Kag _) _
 have hbw:Below W.heap.size W w:=bnext hb4 hal
 have p1:=o1.next hal
 have p2:=o2.next hal
 have hcell:w.heap[w4.heap.size]?=some (.cells #[.slice A1 t.sh.length c1,.slice A2 t.el.length c2] 43 (0,0)):=by rw [hw];exact Kac w4 _
 have hWw:W.heap.size≤w.heap.size:=hbw.size
 obtain ⟨vs,g1,g2,g3,g4,g5,g6⟩:=hO
 have hvs:∀ b∈vs.flatMap tnB,∀ k,b=some k→k<W.heap.size:=by
  intro b hb k hk
  obtain ⟨p,hp,hbp⟩:=List.mem_flatMap.1 hb
  obtain ⟨j,hj,hje⟩:=List.getElem_of_mem hp
  have hx':l[j]?=some (l[j]'(by omega)):=Kad _
  obtain ⟨_,B1,d1,B2,d2,q1,q2,q3⟩:=g4 j p _ (by rw [Kad hj,hje]) hx'
  rw [q1] at hbp
  simp [tnB] at hbp
  rcases hbp with rfl | rfl
  ·exact (ZiE q2 k hk).2
  ·exact (ZiE q3 k hk).2
 have hnew:∀ b,b=blk A1∨b=blk A2→∀ k,b=some k→W.heap.size≤k∧k<w.heap.size:=by
  rintro b (rfl | rfl) k hk
  ·exact p1.lt k hk
  ·exact p2.lt k hk
 have g1':=ZaK g1 (fun g hg=>hbw.block g (hlt g hg).2)
 obtain ⟨A',cap',w',hrun,r1,r2,r3⟩:=ZeH (P := Tryz.prog) w base 44 o.type 43 i0 _ 2 48 Tryz.underlying44 hi0 hz0 hz1 (by decide) hz2 rfl A c n (vs.flatMap tnC) g1' w4.heap.size [.slice A1 t.sh.length c1,.slice A2 t.el.length c2] rfl
  (fun j u hu=>by rw [Kaa w w4.heap.size j _ _ (0,0) hcell];simpa using hu)
  (fun u hu=>by
   simp at hu
   rcases hu with rfl | rfl <;> rfl) (by simp only [maxLen];omega) (by omega) (Kah hB hWw)
 have hfin:OutT w' base A' (n+1) cap' (l++[t]):=by
  refine ⟨vs++[(.slice A1 t.sh.length c1,.slice A2 t.el.length c2)],?_,by rw [List.length_append,g2];rfl,by rw [List.length_append,g3];rfl,fun j p y hp hy => ?_,?_,?_⟩
  ·rw [List.flatMap_append]
   have:(List.flatMap tnC [(Value.slice A1 t.sh.length c1,Value.slice A2 t.el.length c2)])=[.slice A1 t.sh.length c1,.slice A2 t.el.length c2]:=rfl
   rw [this]
   exact r1
  ·by_cases hj:j<n
   ·rw [List.getElem?_append_left (by omega)] at hp hy
    obtain ⟨q0,B1,d1,B2,d2,q1,q2,q3⟩:=g4 j p y hp hy
    have hm:∀ b,b∈tnB p→b∈vs.flatMap tnB:=fun b hb=>List.mem_flatMap.2 ⟨p,Kam hp,hb⟩
    refine ⟨q0,B1,d1,B2,d2,q1,((q2.next hbw).kept r2 ?_),((q3.next hbw).kept r2 ?_)⟩
    ·have:=g6 (blk B1) (hm _ (by rw [q1];simp [tnB,Za4]))
     exact this
    ·have:=g6 (blk B2) (hm _ (by rw [q1];simp [tnB,Za4]))
     exact this
   ·rw [List.getElem?_append_right (by omega)] at hp hy
    have h0:j-vs.length=0:=by
     have:=(Kaf.1 hp).1
     simp at this
     omega
    rw [h0] at hp
    rw [show j-l.length=0 by omega] at hy
    simp at hp hy
    subst hp hy
    have hne':∀ b,b=blk A1∨b=blk A2→b=none∨b≠blk A:=by
     intro b hb
     cases hbn:b with
     | none=>exact .inl rfl
     | some k=>
      right
      intro e
      have h1:=(hnew b hb k hbn).1
      have h2:=(hlt k e.symm).2
      omega
    exact ⟨h2,A1,c1,A2,c2,rfl,(p1.more (by omega)).kept r2 (hne' _ (.inl rfl)),(p2.more (by omega)).kept r2 (hne' _ (.inr rfl))⟩
  ·rw [List.flatMap_append,List.pairwise_append]
   refine ⟨g5,?_,fun a ha b hb => ?_⟩
   ·have:List.flatMap tnB [(Value.slice A1 t.sh.length c1,Value.slice A2 t.el.length c2)]=[blk A1,blk A2]:=by simp [tnB,Za4]
    rw [this]
    simp only [List.pairwise_cons,List.mem_singleton,forall_eq,List.not_mem_nil,false_implies,implies_true,List.Pairwise.nil,and_true]
    exact hne
   ·have hb':b=blk A1∨b=blk A2:=by simpa [tnB,Za4] using hb
    cases han:a with
    | none=>exact .inl rfl
    | some k=>
     right
     intro e
     have h1:=hvs a ha k han
     have h2:=(hnew b hb' k e.symm).1
     omega
  ·intro b hb
   rw [List.flatMap_append,List.mem_append] at hb
   cases hbn:b with
   | none=>exact .inl rfl
   | some k=>
    right
    have hk:k<w.heap.size∧(b∈vs.flatMap tnB∨W.heap.size≤k):=by
     rcases hb with hb | hb
     ·exact ⟨Kae (hvs b hb k hbn) hWw,.inl hb⟩
     ·have hb':b=blk A1∨b=blk A2:=by simpa [tnB,Za4] using hb
      exact ⟨(hnew b hb' k hbn).2,.inr (hnew b hb' k hbn).1⟩
    intro e
    rcases r3 with r3 | r3
    ·rw [r3] at e
     rcases hk.2 with h1 | h1
     ·rcases g6 b h1 with h2 | h2
      ·rw [hbn] at h2;cases h2
      ·exact h2 (hbn.trans e)
     ·have:=(hlt k e.symm).2
      omega
    ·rw [r3] at e
     injection e with e
     omega
 unfold Oper.wp execOp
 simp only [ho,resolve,invoke,builtin,Sem.run_bind,Sem.run_pure,Result.andThen_ok,List.map_toArray,List.map_cons,List.map_nil,hs,hx,hrun]
 exact h A' cap' w' hfin r2 r3
theorem Zgj {w:World} {ops:Array Oper} {o:Oper} {a:Act} {K:Act→World→Prop} {Q:Exit→Act→World→Prop} {E:Prop} (hgd:o.guard=none) (s x:Operand)
  (ho:o.op=.call { callee:=.builtin .append,args:=#[s,x],argTypes:=#[44,44] })
  (base:Nat) (A:Option Addr) (c n:Nat) (l:List TN) (hs:a.eval s=.slice A n c) (W w4:World) (hO:OutT W base A n c l) (hB:base≤W.heap.size) (hb4:Below W.heap.size W w4)
  (A1 A2:Option Addr) (c1 c2 n1 n2:Nat) (t:TN) (hn1:n1=t.sh.length) (hn2:n2=t.el.length) (h2:t.sh.length≤1000000) (o1:Own w4 W.heap.size 3 A1 c1 (t.sh.map VI)) (o2:Own w4 W.heap.size 39 A2 c2 (t.el.map U)) (hne:apart (blk A1) (blk A2))
  (hw:w=w4.alloc (.cells #[.slice A1 n1 c1,.slice A2 n2 c2] 43)) (hx:a.eval x=.slice (some ⟨w4.heap.size,0,none⟩) 1 1) (hbytes:n≤1000000)
  (h:∀ A' c' w',OutT w' base A' (n+1) c' (l++[t])→w.grownBy w' (blk A)→(blk A'=blk A∨blk A'=some w.heap.size)→K (a.put o.dst (.slice A' (n+1) c')) w'):
  if Region.wanted o (yielded ops a.tmps)=true then Oper.wp Tryz.prog o a w K Q else E:=by
 have hwt:Region.wanted o (yielded ops a.tmps)=true:=by simp [Region.wanted,hgd]
 rw [if_pos hwt]
 exact Zf5 s x ho base A c n l hs W w4 hO hB hb4 A1 A2 c1 c2 n1 n2 t hn1 hn2 h2 o1 o2 hne hw hx hbytes h
theorem Zgk {w5 wx w8:World} {A A8:Option Addr} {o:Obj} (hb:Below w5.heap.size w5 wx) (hg:(wx.alloc o).grownBy w8 (blk A)) (hA:blk A8=blk A∨blk A8=some (wx.alloc o).heap.size):
  w5.heap.size≤w8.heap.size∧(∀ k,k<w5.heap.size→blk A≠some k→w8.heap[k]?=w5.heap[k]?)∧(blk A8=blk A∨∃ z,blk A8=some z∧w5.heap.size≤z):=by
 have hs:=hb.size
 refine ⟨Kah hs (Kah (by simp) hg.size),fun k hk hne => ?_,?_⟩
 ·rw [hg.block k (by simp;omega) (fun e=>hne e.symm),Below.heap_alloc _ _ _ (by omega)]
  exact hb.block k hk
 ·rcases hA with h | h
  ·exact .inl h
  ·exact .inr ⟨_,h,by simp;omega⟩
theorem Zk7 (n:Nat):(madeCells (Value.agg #[Value.slice none 0 0,Value.slice none 0 0]).cells (n*2))=(List.replicate (n*2) (Value.slice none 0 0)).toArray:=by
 apply Array.ext'
 apply List.ext_getElem?
 intro j
 by_cases hj:j<n*2
 ·have h2:j % 2=0∨j % 2=1:=by omega
  rcases h2 with h2 | h2 <;> simp [madeCells,Value.cells,hj,h2]
 ·simp [madeCells,hj]
theorem Zdu (n:Nat) (hn:n≤1000000) (w:World) (e:Int) (he:e=n):
  (Instr.makeSlice 44 (.int .i64 e) (.int .i64 e)).run Tryz.prog w=.ok (.slice (some ⟨w.heap.size,0,none⟩) n n) (w.alloc (.cells (List.replicate (n*2) (Value.slice none 0 0)).toArray 43)):=by
 obtain ⟨i0,hi0,hz0,hz1,hz2⟩:=info_parts ZeW
 have hr:=run_make (P := Tryz.prog) w 44 43 i0 (.agg #[.slice none 0 0,.slice none 0 0]) Tryz.underlying44 hi0 hz0 .i64 .i64 e e (by omega) (by omega) (by rw [hz2];omega) (by omega)
 rw [hr,he,hz1,show (n:Int).toNat=n from Int.toNat_natCast n,Zk7]
def EvNew (w3:World) (B:Nat) (Z:List Nat) (SA EA HA:Option Addr) (ns sc ne ec:Nat) (shF:List (List Int)) (s:Value) (wx:World):Prop:=
 ∃ cb g vg,s=.pointer (some ⟨cb,0,none⟩)∧EvSt wx B cb g vg Z SA EA HA ns sc ne ec [] (fun _=>zTN) shF∧Below w3.heap.size w3 wx∧w3.heap.size≤cb∧w3.heap.size≤g∧w3.heap.size≤vg
theorem evnew {w3 wx:World} {B cb g vg ns sc ne ec:Nat} {SA EA HA:Option Addr} {shF:List (List Int)} {svs:List Value} (hB:B≤w3.heap.size) (h1:w3.heap.size≤cb) (h2:w3.heap.size≤g) (h3:w3.heap.size≤vg) (n1:cb≠g) (n2:cb≠vg) (n3:g≠vg)
  (hr:Rd w3 w3.heap.size HA svs) (hl:svs.length=ne) (hl2:shF.length=ne) (hsh:∀ (j:Nat) (v:Value) (l:List Int),svs[j]?=some v→shF[j]?=some l→∃ A c,v=.slice A l.length c∧l.length≤c∧c≤9223372036854775807∧l.length≤2∧Rd w3 w3.heap.size A (l.map VI))
  (hc:wx.heap[cb]?=some (.cells #[.slice SA ns sc,.slice EA ne ec,.map (some g),.slice (some ⟨vg,0,none⟩) ne ne,.slice HA ne ne] 113 (0,0)))
  (hg:wx.heap[g]?=some (.map #[] 0)) (hs:wx.heap[vg]?=some (.cells (Array.replicate (ne*2) (Value.slice none 0 0)) 43 (0,0))) (hb:Below w3.heap.size w3 wx):
  EvNew w3 B [] SA EA HA ns sc ne ec shF (.pointer (some ⟨cb,0,none⟩)) wx:=by
 have cv:∀ {A:Option Addr} {xs:List Value},Rd w3 w3.heap.size A xs→RdX (evX cb g vg []) wx A xs:=fun {A xs} hr=>by
  rcases hr with hr | ⟨b',o',hA,hb',hc'⟩
  ·exact .inl hr
  ·refine .inr ⟨b',o',hA,Kae hb' hb.size,fun hx => ?_,fun j v hv=>(hb.cell (p:=⟨b',_,none⟩) hb').trans (hc' j v hv)⟩
   rcases hx with e | e | e | e
   ·omega
   ·omega
   ·omega
   ·cases e
 refine ⟨cb,g,vg,rfl,⟨by omega,by omega,by omega,n1,n2,n3,fun k hk=>(by cases hk),hc,⟨[],⟨#[],0,hg,rfl⟩,trivial⟩,⟨List.replicate (ne*2) (Value.slice none 0 0),by rw [hs];simp,by simp;omega,fun j hj=>⟨.slice none 0 0,.slice none 0 0,?_,?_,TnV.nil _ _⟩⟩,svs,cv hr,hl,hl2,fun j v l hv hl => ?_⟩,hb,h1,h2,h3⟩
 ·rw [List.getElem?_replicate,if_pos (by omega)]
 ·rw [List.getElem?_replicate,if_pos (by omega)]
 ·obtain ⟨A,c,q1,q2,q3,q4,q5⟩:=hsh j v l hv hl
  exact ⟨A,c,q1,q2,q3,q4,cv q5⟩
end Go.Proofs.YtghlnncfigkkaaaGreatDoor
