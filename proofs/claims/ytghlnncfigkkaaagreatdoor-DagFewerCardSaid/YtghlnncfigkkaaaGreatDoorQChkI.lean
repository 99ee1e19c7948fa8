/-
 Walk of check.Inputs.
-/
import Derived.Test.YtghlnncfigkkaaaGreatDoorQRdSh
import Derived.Deep.RegionLaw
import Derived.Deep.RegionWith
set_option maxRecDepth 100000
set_option maxHeartbeats 16000000
open Go.Lib (hid)
namespace Go.Proofs.YtghlnncfigkkaaaGreatDoor
set_option linter.unusedVariables false
set_option linter.unusedSimpArgs false
open Go.RowKit
def InRow (w:World) (B:Nat) (A:Option Addr) (n c:Nat) (l:List (List Int)):Prop:=∃ vs:List Value,n=vs.length∧Own w B 41 A c vs∧vs.length=l.length∧∀ (j:Nat) (v:Value) (x:List Int),vs[j]?=some v→l[j]?=some x→∃ A' c',v=.slice A' x.length c'∧Own w B 3 A' c' (x.map VI)
theorem ZgN {w w':World} {base c:Nat} {e:TypeId} {A:Option Addr} {xs:List Value} (h:Own w base e A c xs) (hk:∀ g,blk A=some g→w'.heap[g]?=w.heap[g]?):Own w' base e A c xs:=by
 refine ⟨h.1,?_⟩
 rcases h.2 with hv | ⟨g',cap',cur,hv,hb,hh,r⟩
 ·exact .inl hv
 ·refine .inr ⟨g',cap',cur,hv,hb,?_,r⟩
  have:blk A=some g':=by injection hv with a;rw [a];rfl
  rw [hk g' this]
  exact hh
theorem InRow.next {w w':World} {B:Nat} {A:Option Addr} {n c:Nat} {l:List (List Int)} (h:InRow w B A n c l) (hb:Below w.heap.size w w'):InRow w' B A n c l:=by
 obtain ⟨vs,h0,h1,h2,h3⟩:=h
 refine ⟨vs,h0,h1.next hb,h2,fun j v x hv hx => ?_⟩
 obtain ⟨A',c',e,ho⟩:=h3 j v x hv hx
 exact ⟨A',c',e,ho.next hb⟩
theorem InRow.base {w:World} {B B':Nat} {A:Option Addr} {n c:Nat} {l:List (List Int)} (h:InRow w B A n c l) (hb:B'≤B):InRow w B' A n c l:=by
 obtain ⟨vs,h0,h1,h2,h3⟩:=h
 refine ⟨vs,h0,h1.more hb,h2,fun j v x hv hx => ?_⟩
 obtain ⟨A',c',e,ho⟩:=h3 j v x hv hx
 exact ⟨A',c',e,ho.more hb⟩
theorem InRow.other {w w':World} {B q:Nat} {T:TypeId} {cs:Array Value} {fr:Nat × Nat} {A:Option Addr} {n c:Nat} {l:List (List Int)} (h:InRow w B A n c l) (hq:w.heap[q]?=some (.cells cs T fr)) (h1:T≠41) (h2:T≠3) (hk:∀ g,g<w.heap.size→g≠q→w'.heap[g]?=w.heap[g]?):InRow w' B A n c l:=by
 obtain ⟨vs,e0,e1,e2,e3⟩:=h
 refine ⟨vs,e0,ZgN e1 fun g hg => ?_,e2,fun j v x hv hx => ?_⟩
 ·obtain ⟨cur,hc⟩:=Zb2 e1 hg
  exact hk g (Kab.1 hc).1 (fun e=>by subst e;rw [hq] at hc;injection hc with hc;injection hc with _ hc _;exact h1 hc)
 ·obtain ⟨A',c',e,ho⟩:=e3 j v x hv hx
  refine ⟨A',c',e,ZgN ho fun g hg => ?_⟩
  obtain ⟨cur,hc⟩:=Zb2 ho hg
  exact hk g (Kab.1 hc).1 (fun e=>by subst e;rw [hq] at hc;injection hc with hc;injection hc with _ hc _;exact h2 hc)
theorem InRow.beside {w w':World} {B:Nat} {A A2:Option Addr} {n c c2:Nat} {l:List (List Int)} {xs:List Value} (h:InRow w B A n c l) (hg:w.grownBy w' (blk A2)) (ho2:Own w B 41 A2 c2 xs) (hne:blk A=none∨blk A≠blk A2):InRow w' B A n c l:=by
 obtain ⟨vs,e0,e1,e2,e3⟩:=h
 refine ⟨vs,e0,e1.kept hg hne,e2,fun j v x hv hx => ?_⟩
 obtain ⟨A',c',e,ho⟩:=e3 j v x hv hx
 refine ⟨A',c',e,ho.kept hg ?_⟩
 cases hA:blk A' with
 | none=>exact .inl rfl
 | some g=>
  right
  intro e
  obtain ⟨cur,hc⟩:=Zb2 ho hA
  obtain ⟨cur2,hc2⟩:=Zb2 ho2 e.symm
  rw [hc] at hc2
  injection hc2 with hc2
  injection hc2 with _ hc2 _
  exact absurd hc2 (by decide)
theorem InRow.more {w w':World} {B:Nat} {A A':Option Addr} {n c c':Nat} {l:List (List Int)} {vs:List Value} (hn:n=vs.length) (h1:Own w B 41 A c vs) (h2:vs.length=l.length) (h3:∀ (j:Nat) (v:Value) (x:List Int),vs[j]?=some v→l[j]?=some x→∃ A' c',v=.slice A' x.length c'∧Own w B 3 A' c' (x.map VI))
  {A9:Option Addr} {c9:Nat} {x9:List Int} (ho9:Own w B 3 A9 c9 (x9.map VI)) (hg:w.grownBy w' (blk A)) (ho:Own w' B 41 A' c' (vs++[.slice A9 x9.length c9])):InRow w' B A' (n+1) c' (l++[x9]):=by
 have hkeep:∀ {A2:Option Addr} {c2:Nat} {xs:List Value},Own w B 3 A2 c2 xs→Own w' B 3 A2 c2 xs:=fun {A2 c2 xs} h=>h.kept hg (by
  cases hA:blk A2 with
  | none=>exact .inl rfl
  | some g=>
   right
   intro e
   obtain ⟨cur,hc⟩:=Zb2 h hA
   obtain ⟨cur2,hc2⟩:=Zb2 h1 e.symm
   rw [hc] at hc2
   injection hc2 with hc2
   injection hc2 with _ hc2 _
   exact absurd hc2 (by decide))
 refine ⟨_,by rw [List.length_append,hn];rfl,ho,by rw [List.length_append,List.length_append,h2];rfl,fun j v x hv hx => ?_⟩
 by_cases hj:j<vs.length
 ·rw [List.getElem?_append_left hj] at hv
  rw [List.getElem?_append_left (by omega)] at hx
  obtain ⟨A2,c2,e,ho2⟩:=h3 j v x hv hx
  exact ⟨A2,c2,e,hkeep ho2⟩
 ·have hj2:j=vs.length:=by
   have:=(Kaf.1 hv).1
   simp at this
   omega
  rw [List.getElem?_append_right (by omega),hj2,Nat.sub_self] at hv
  rw [List.getElem?_append_right (by omega),hj2,h2,Nat.sub_self] at hx
  simp at hv hx
  subst hv hx
  exact ⟨A9,c9,rfl,hkeep ho9⟩
theorem Zft (s:SI) (r:List SI) (p:Int):Zae (s::r) p=(if s.kind=1∧s.party=p then [s.shape] else [])++Zae r p:=by
 unfold Zae
 rw [List.filter_cons]
 by_cases h:s.kind=1∧s.party=p
 ·rw [if_pos h,if_pos (by simp [h.1,h.2])]
  rfl
 ·rw [if_neg h,if_neg (by simpa using h)]
  rfl
theorem Zeo {w:World} {ops:Array Oper} {o:Oper} {a:Act} {K:Act→World→Prop} {Q:Exit→Act→World→Prop} {E:Prop} (hgd:o.guard=none) (s x:Operand)
  (ho:o.op=.call { callee:=.builtin .append,args:=#[s,x],argTypes:=#[51,51] }) (base:Nat)
  (A:Option Addr) (cap:Nat) (xs:List Value) (n:Nat) (hn:xs.length=n) (hs:a.eval s=.slice A n cap) (hown:Own w base 41 A cap xs)
  (A2:Option Addr) (c B:Nat) (v:Value) (hx:a.eval x=.slice A2 1 c) (hr:Rd w B A2 [v]) (hnil:A2=none→1=0) (hv:v.oneCell'=true)
  (hbytes:n≤1000000) (hbase:base≤w.heap.size)
  (h:∀ A' cap' w',Own w' base 41 A' cap' (xs++[v])→w.grownBy w' (blk A)→(blk A'=blk A∨blk A'=some w.heap.size)→K (a.put o.dst (.slice A' (n+1) cap')) w'):
  if Region.wanted o (yielded ops a.tmps)=true then Oper.wp Tryz.prog o a w K Q else E:=by
 obtain ⟨i0,hi0,hz0,hz1,hz2⟩:=info_parts ZdG
 exact ZeG hgd s x 51 ho base 41 i0 _ 24 Tryz.underlying51 hi0 hz0 hz1 hz2 rfl A cap xs n hn hs hown A2 1 c B [v] rfl hx hr hnil (fun u hu=>by rw [List.mem_singleton.1 hu];exact hv) (by simp only [maxLen];omega) (by omega) hbase h
structure InSt (w:World) (B ob:Nat) (A0:Option Addr) (n0 c0:Nat) (A1:Option Addr) (n1 c1:Nat) (l0 l1:List (List Int)):Prop where
 ho:w.heap[ob]?=some (.cells #[.slice A0 n0 c0,.slice A1 n1 c1] 63 (0,0))
 r0:InRow w B A0 n0 c0 l0
 r1:InRow w B A1 n1 c1 l1
 ne:blk A0=none∨blk A0≠blk A1
theorem Zco {W w8:World} {B c:Nat} {A:Option Addr} {xs:List Value} (ho:Own W B 41 A c xs) (hg:W.grownBy w8 (blk A)) {q:Nat} {T:TypeId} {cs:Array Value} {fr:Nat × Nat} (hq:W.heap[q]?=some (.cells cs T fr)) (hT:T≠41):w8.heap[q]?=some (.cells cs T fr):=by
 rw [hg.block q (Kab.1 hq).1 (fun e=>by
  obtain ⟨cur,hc⟩:=Zb2 ho e.symm
  rw [hq] at hc
  injection hc with hc
  injection hc with _ hc _
  exact hT hc)]
 exact hq
theorem InSt.push0 {wr W w8:World} {B ob:Nat} {A0 A1 A9 A8:Option Addr} {n0 c0 n1 c1 c9 c8:Nat} {l0 l1:List (List Int)} {vs:List Value} {x:List Int} (h:InSt wr B ob A0 n0 c0 A1 n1 c1 l0 l1) (hb:Below wr.heap.size wr W)
  (e0:n0=vs.length) (e1:Own W B 41 A0 c0 vs) (e2:vs.length=l0.length) (e3:∀ (j:Nat) (v:Value) (x:List Int),vs[j]?=some v→l0[j]?=some x→∃ A' c',v=.slice A' x.length c'∧Own wr B 3 A' c' (x.map VI))
  (ho9:Own W B 3 A9 c9 (x.map VI)) (hg:W.grownBy w8 (blk A0)) (ho8:Own w8 B 41 A8 c8 (vs++[.slice A9 x.length c9])) (hA8:blk A8=blk A0∨blk A8=some W.heap.size):
  InSt (w8.setCell ⟨ob,0,none⟩ (.slice A8 (n0+1) c8)) B ob A8 (n0+1) c8 A1 n1 c1 (l0++[x]) l1:=by
 have hoW:=(hb.block ob (Kab.1 h.ho).1).trans h.ho
 have ho8':=Zco e1 hg hoW (by decide)
 have hk:∀ g,g<w8.heap.size→g≠ob→(w8.setCell ⟨ob,0,none⟩ (.slice A8 (n0+1) c8)).heap[g]?=w8.heap[g]?:=fun g _ hg=>Zfi w8 ob 0 _ hg
 have r0:InRow w8 B A8 (n0+1) c8 (l0++[x]):=InRow.more e0 e1 e2 (fun j v x hv hx=>by obtain ⟨A',c',e,ho⟩:=e3 j v x hv hx;exact ⟨A',c',e,ho.next hb⟩) ho9 hg ho8
 have r1:InRow w8 B A1 n1 c1 l1:=(h.r1.next hb).beside hg e1 (by
  rcases h.ne with h | h
  ·cases hA:blk A1 with
   | none=>exact .inl rfl
   | some g=>right;rw [h];exact fun e=>by cases e
  ·cases hA:blk A1 with
   | none=>exact .inl rfl
   | some g=>right;intro e;exact h (by rw [hA,e]))
 refine ⟨by simp [World.setCell,Array.getElem?_modify,ho8'],r0.other ho8' (by decide) (by decide) hk,r1.other ho8' (by decide) (by decide) hk,?_⟩
 rcases hA8 with e | e
 ·rw [e];exact h.ne
 ·right
  rw [e]
  intro e'
  obtain ⟨vs1,_,f1,_⟩:=h.r1
  have:=(f1.lt _ e'.symm).2
  have:=hb.size
  omega
theorem InSt.push1 {wr W w8:World} {B ob:Nat} {A0 A1 A9 A8:Option Addr} {n0 c0 n1 c1 c9 c8:Nat} {l0 l1:List (List Int)} {vs:List Value} {x:List Int} (h:InSt wr B ob A0 n0 c0 A1 n1 c1 l0 l1) (hb:Below wr.heap.size wr W)
  (e0:n1=vs.length) (e1:Own W B 41 A1 c1 vs) (e2:vs.length=l1.length) (e3:∀ (j:Nat) (v:Value) (x:List Int),vs[j]?=some v→l1[j]?=some x→∃ A' c',v=.slice A' x.length c'∧Own wr B 3 A' c' (x.map VI))
  (ho9:Own W B 3 A9 c9 (x.map VI)) (hg:W.grownBy w8 (blk A1)) (ho8:Own w8 B 41 A8 c8 (vs++[.slice A9 x.length c9])) (hA8:blk A8=blk A1∨blk A8=some W.heap.size):
  InSt (w8.setCell ⟨ob,1,none⟩ (.slice A8 (n1+1) c8)) B ob A0 n0 c0 A8 (n1+1) c8 l0 (l1++[x]):=by
 have hoW:=(hb.block ob (Kab.1 h.ho).1).trans h.ho
 have ho8':=Zco e1 hg hoW (by decide)
 have hk:∀ g,g<w8.heap.size→g≠ob→(w8.setCell ⟨ob,1,none⟩ (.slice A8 (n1+1) c8)).heap[g]?=w8.heap[g]?:=fun g _ hg=>Zfi w8 ob 1 _ hg
 have r1:InRow w8 B A8 (n1+1) c8 (l1++[x]):=InRow.more e0 e1 e2 (fun j v x hv hx=>by obtain ⟨A',c',e,ho⟩:=e3 j v x hv hx;exact ⟨A',c',e,ho.next hb⟩) ho9 hg ho8
 have r0:InRow w8 B A0 n0 c0 l0:=(h.r0.next hb).beside hg e1 h.ne
 refine ⟨by simp [World.setCell,Array.getElem?_modify,ho8'],r0.other ho8' (by decide) (by decide) hk,r1.other ho8' (by decide) (by decide) hk,?_⟩
 rcases hA8 with e | e
 ·rw [e];exact h.ne
 ·cases hA:blk A0 with
  | none=>exact .inl rfl
  | some g=>
   right
   rw [e]
   intro e'
   injection e' with e'
   obtain ⟨vs1,_,f1,_⟩:=h.r0
   have:=(f1.lt _ hA).2
   have:=hb.size
   omega
theorem Zep (SA EA:Option Addr) (ns ne sc ec:Nat) (ss:List SI) (w:World) (hns:ns=ss.length) (hl1:ns≤100000) (h1:RdSI w w.heap.size SA ss) (hsm:∀ s∈ss,s.shape.length≤1000000):
  Calls Tryz.prog 32 #[.agg #[.slice SA ns sc,.slice EA ne ec]] w fun e w'=>Below w.heap.size w w'∧∃ A0 n0 c0 A1 n1 c1,e=.returned (.agg #[.slice A0 n0 c0,.slice A1 n1 c1])∧InRow w' w.heap.size A0 n0 c0 (Zae ss 0)∧InRow w' w.heap.size A1 n1 c1 (Zae ss 1):=by
 obtain ⟨w2,hw2⟩:∃ w2,w2=w.alloc (.cells #[.slice SA ns sc,.slice EA ne ec] 26):=⟨_,rfl⟩
 have hb2:Below w.heap.size w w2:=by rw [hw2];exact (Kai _ _).alloc (Kag _) _
 have hA:w2.heap[w.heap.size]?=some (.cells #[.slice SA ns sc,.slice EA ne ec] 26 (0,0)):=by rw [hw2];exact Kac w _
 have HW2:=hid hw2
 have HB2:=hid hb2
 have HNS:=hid hns
 have HSM:=hid hsm
 have H1:=hid h1
 have HA:=hid hA
 clear hw2 hb2 hA hns h1 hsm
 go_enter Tryz.func32,Tryz.ntmps32
 go_wp2_with fail
 obtain ⟨w4,hw4⟩:∃ w4,w4=(((w.alloc (.cells #[.slice SA ns sc,.slice EA ne ec] 26)).alloc (.cells #[.slice none 0 0,.slice none 0 0] 63)).alloc (.cells #[.slice none 0 0,.slice none 0 0] 63)):=⟨_,rfl⟩
 rw [←hw4]
 have hb4:Below w.heap.size w w4:=by rw [hw4];exact (((Kai _ _).alloc (Kag _) _).alloc (by simp) _).alloc (by simp;omega) _
 obtain ⟨rb,hrb⟩:∃ rb,rb=w.heap.size+1:=⟨_,rfl⟩
 obtain ⟨ob,hob⟩:∃ ob,ob=w.heap.size+1+1:=⟨_,rfl⟩
 have hz4:w4.heap.size=ob+1:=by rw [hw4,hob];simp
 have hR4:w4.heap[rb]?=some (.cells #[.slice none 0 0,.slice none 0 0] 63 (0,0)):=by
  rw [hw4,hrb,Below.heap_alloc _ _ _ (by simp)]
  have:=Kac (w.alloc (.cells #[.slice SA ns sc,.slice EA ne ec] 26)) (.cells #[.slice none 0 0,.slice none 0 0] 63)
  rwa [World.size_alloc] at this
 have hO4:w4.heap[ob]?=some (.cells #[.slice none 0 0,.slice none 0 0] 63 (0,0)):=by
  rw [hw4,hob]
  have:=Kac ((w.alloc (.cells #[.slice SA ns sc,.slice EA ne ec] 26)).alloc (.cells #[.slice none 0 0,.slice none 0 0] 63)) (.cells #[.slice none 0 0,.slice none 0 0] 63)
  rwa [World.size_alloc,World.size_alloc] at this
 have HB4:=hid hb4
 have HR4:=hid hR4
 have HO4:=hid hO4
 have HZ4:=hid hz4
 have HOB:=hid hob
 have HRB:=hid hrb
 rw [←hob,←hrb]
 clear hw4 hb4 hz4 hR4 hO4 hob hrb
 go_loopw [9] (fun iv wr=>∃ (k:Nat) (A0:Option Addr) (n0 c0:Nat) (A1:Option Addr) (n1 c1:Nat) (l0 l1:List (List Int)),k≤ns∧iv=.int .i64 k∧n0≤k∧n1≤k∧Zae ss 0=l0++Zae (ss.drop k) 0∧Zae ss 1=l1++Zae (ss.drop k) 1∧InSt wr w4.heap.size ob A0 n0 c0 A1 n1 c1 l0 l1∧Below ob w4 wr) (fun iv _=>ns-(intOf iv).toNat)
 case atStart=>exact ⟨0,none,0,0,none,0,0,[],[],by omega,rfl,by omega,by omega,rfl,rfl,⟨HO4.out,⟨[],rfl,Own.nil _ _ _,rfl,fun j v x h=>by simp at h⟩,⟨[],rfl,Own.nil _ _ _,rfl,fun j v x h=>by simp at h⟩,.inl rfl⟩,Kai _ _⟩
 case round=>
  obtain ⟨k,A0,n0,c0,A1,n1,c1,l0,l1,hk,rfl,hn0,hn1,hi0,hi1,hS,hB⟩:=hrel
  have HI0:=hid hi0
  have HI1:=hid hi1
  have HS:=hid hS
  have HB:=hid hB
  have HBW:=hid (show Below w.heap.size w wr from HB4.out.trans (hB.mono (by rw [HOB.out];omega)))
  have HZR:=hid (show w4.heap.size≤wr.heap.size from hB.size)
  clear hi0 hi1 hS hB
  by_cases hlt:k<ns
  ·have ht:ss[k]?=some (ss[k]'(by rw [←HNS.out];exact hlt)):=Kad _
   obtain ⟨d,hd⟩:∃ d,d=ss[k]'(by rw [←HNS.out];exact hlt):=⟨_,rfl⟩
   rw [←hd] at ht
   have hsml:=HSM.out d (Kam ht)
   have hD:=hid (show ∀ p,Zae (ss.drop k) p=(if d.kind=1∧d.party=p then [d.shape] else [])++Zae (ss.drop (k+1)) p from fun p=>by
    obtain ⟨hi,he⟩:=Kaf.1 ht
    rw [List.drop_eq_getElem_cons hi,he,Zft])
   obtain ⟨b,o,rfl,hbl,e0,e1,e2,⟨A',c',e3,e3r,e3n,-⟩,e4,e5⟩:=(H1.out.below HBW.out).at_ ht
   have i0:(0:Int)≤(k:Int):=by omega
   have i1:(k:Int)<(ns:Int):=by omega
   obtain ⟨dk,dp,dn,dsh,de,dq⟩:=d
   dsimp only at e0 e1 e2 e3 e3r e3n e4 e5 hsml
   obtain ⟨sl,hsl⟩:∃ sl,sl=dsh.length:=⟨_,rfl⟩
   rw [←hsl] at e3 e3n hsml
   have HSL:=hid hsl
   obtain ⟨w5,hw5⟩:∃ w5,w5=wr.alloc (.cells #[.int .i64 dk,.int .i64 dp,.string dn,.slice A' sl c',.int .i64 de,.int .i64 dq] 93):=⟨_,rfl⟩
   have b5:Below wr.heap.size wr w5:=by rw [hw5];exact (Kai _ _).alloc (Kag _) _
   have hE:w5.heap[wr.heap.size]?=some (.cells #[.int .i64 dk,.int .i64 dp,.string dn,.slice A' sl c',.int .i64 de,.int .i64 dq] 93 (0,0)):=by rw [hw5];exact Kac wr _
   have HW5:=hid hw5
   obtain ⟨eb,heb⟩:∃ eb,eb=wr.heap.size:=⟨_,rfl⟩
   rw [←heb] at hE
   have HEB:=hid heb
   have HB5:=hid b5
   have HC5:=hid (show ∀ W,Below w5.heap.size w5 W→(W.cell? ⟨eb,1,none⟩=some (.int .i64 dp)∧W.cell? ⟨eb,3,none⟩=some (.slice A' sl c')∧W.cell? ⟨ob,0,none⟩=some (.slice A0 n0 c0)∧W.cell? ⟨ob,1,none⟩=some (.slice A1 n1 c1)) from fun W hW=>by
    have hE':=(hW.block eb (Kab.1 hE).1).trans hE
    have hO':=((bnext HB5.out hW).block ob (Kab.1 HS.out.ho).1).trans HS.out.ho
    exact ⟨Kaa _ _ 1 _ _ _ hE',Kaa _ _ 3 _ _ _ hE',Kaa _ _ 0 _ _ _ hO',Kaa _ _ 1 _ _ _ hO'⟩)
   have HEH:=hid (show ∀ W,Below w5.heap.size w5 W→W.heap[eb]?=some (.cells #[.int .i64 dk,.int .i64 dp,.string dn,.slice A' sl c',.int .i64 de,.int .i64 dq] 93 (0,0)) from fun W hW=>(hW.block eb (Kab.1 hE).1).trans hE)
   have HCL:=hid (show ∀ W,Below w5.heap.size w5 W→Calls Tryz.prog 55 #[.slice A' sl c'] W fun e w'=>∃ A' c',e=.returned (.slice A' sl c')∧Own w' W.heap.size 3 A' c' (dsh.map VI)∧Below W.heap.size W w' from fun W hW=>ZdH A' sl c' dsh W HSL.out hsml ((((e3r.more HBW.out.size).next b5).next hW)))
   have HBOB:=hid (show ob<wr.heap.size from (Kab.1 HS.out.ho).1)
   by_cases hin:dk=1∧(dp=0∨dp=1)
   ·obtain ⟨rfl,hp⟩:=hin
    rcases hp with rfl | rfl
    ·obtain ⟨vs,v0,v1,v2,v3⟩:=HS.out.r0
     have HX0:=hid (show Zae ss 0=(l0++[dsh])++Zae (ss.drop (k+1)) 0 from by
      rw [HI0.out,hD.out]
      rw [if_pos ⟨rfl,rfl⟩,List.append_assoc])
     have HX1:=hid (show Zae ss 1=l1++Zae (ss.drop (k+1)) 1 from by
      rw [HI1.out,hD.out]
      rw [if_neg (by intro h;exact absurd h.2 (by simp))]
      rfl)
     have HV:=hid (And.intro v0 (And.intro v1 (And.intro v2 v3)))
     have hnk:n0≤1000000:=by omega
     obtain ⟨s1,s3,so0,so1⟩:=HC5.out w5 (Kai _ _)
     have hB9:=hid (show ∀ W,Below w5.heap.size w5 W→w4.heap.size≤W.heap.size from fun W hW=>by have:=HZR.out;have:=HB5.out.size;have:=hW.size;omega)
     clear v0 v1 v2 v3 ht hd hw5 b5 hE heb hsl e3r hbl
     go_wp2_with fail
     rw [←HW5.out,←HEB.out]
     go_region_law (first
      | (rw [if_pos (by rfl)];go_simp;go_at_call 55;refine (HCL.out w5.drew (Kai _ _).drew).mono ?_;rintro e w6 ⟨A9,c9,rfl,ho9,hb9⟩;have HB6:=hid (show Below w5.heap.size w5 w6 from (Kai _ _).drew.trans hb9);obtain ⟨m1,m3,mo0,mo1⟩:=HC5.out w6 HB6.out;obtain ⟨t1,t3,to0,to1⟩:=HC5.out (w6.alloc (.cells #[.slice A9 sl c9] 41)) (HB6.out.alloc HB6.out.size _);have HO9:=hid (show Own w6 w4.heap.size 3 A9 c9 (dsh.map VI) from ho9.more (hB9.out _ (Kai _ _).drew));clear ho9 hb9;dsimp only)
      | (refine Zeo rfl (.tmp 31) (.tmp 35) rfl w4.heap.size A0 c0 vs n0 HV.out.1.symm rfl ((HV.out.2.1.next HB5.out).next ((HB6.out.alloc HB6.out.size _))) (some ⟨w6.heap.size,0,none⟩) 1 (w6.heap.size+1) (.slice A9 sl c9) rfl (Rd.one _ _ _) (fun h=>by cases h) rfl hnk (hB9.out _ (HB6.out.alloc HB6.out.size _)) ?_;intro A8 c8 w8 ho8 hg8 hA8;have hob8:=Zco ((HV.out.2.1.next HB5.out).next ((HB6.out.alloc HB6.out.size _))) hg8 (((bnext HB5.out (HB6.out.alloc HB6.out.size _)).block ob HBOB.out).trans HS.out.ho) (by decide);have heb8:=Zco ((HV.out.2.1.next HB5.out).next ((HB6.out.alloc HB6.out.size _))) hg8 (HEH.out _ (HB6.out.alloc HB6.out.size _)) (by decide);have y1:=Kaa _ _ 1 _ _ _ heb8;have x0:=Kaa _ _ 0 _ _ _ hob8;have x1:=Kaa _ _ 1 _ _ _ hob8;have fx:w8.frozen? ⟨ob,0,none⟩=false:=(by simp [World.frozen?,hob8]);have HSN:=hid (HS.out.push0 (bnext HB5.out (HB6.out.alloc HB6.out.size (.cells #[.slice A9 sl c9] 41))) HV.out.1 ((HV.out.2.1.next HB5.out).next ((HB6.out.alloc HB6.out.size _))) HV.out.2.2.1 HV.out.2.2.2 (HO9.out.alloc _) hg8 (by rw [←HSL.out];exact ho8) hA8);have HBN:=hid (Zaf (k:=0) (Zal (HB.out.trans ((bnext HB5.out (HB6.out.alloc HB6.out.size (.cells #[.slice A9 sl c9] 41))).mono (Nat.le_of_lt HBOB.out))) hg8 (by have:=(bnext HB5.out (HB6.out.alloc HB6.out.size (.cells #[.slice A9 sl c9] 41))).size;have:=HBOB.out;omega) (fun g hg=>by have:=(((HV.out.2.1.next HB5.out).next ((HB6.out.alloc HB6.out.size (.cells #[.slice A9 sl c9] 41)))).lt g hg).1;have:=HZ4.out;omega)) (Kag ob) (.slice A8 (n0+1) c8));clear ho8 hg8 hA8 hob8 heb8))
     all_goals
      go_wp2
      exact ⟨⟨k+1,A8,n0+1,c8,A1,n1,c1,_,l1,by omega,rfl,by omega,by omega,HX0.out,HX1.out,HSN.out,HBN.out⟩,by simp [intOf];omega⟩
    ·obtain ⟨vs,v0,v1,v2,v3⟩:=HS.out.r1
     have HX0:=hid (show Zae ss 0=l0++Zae (ss.drop (k+1)) 0 from by
      rw [HI0.out,hD.out]
      rw [if_neg (by intro h;exact absurd h.2 (by simp))]
      rfl)
     have HX1:=hid (show Zae ss 1=(l1++[dsh])++Zae (ss.drop (k+1)) 1 from by
      rw [HI1.out,hD.out]
      rw [if_pos ⟨rfl,rfl⟩,List.append_assoc])
     have HV:=hid (And.intro v0 (And.intro v1 (And.intro v2 v3)))
     have hnk:n1≤1000000:=by omega
     obtain ⟨s1,s3,so0,so1⟩:=HC5.out w5 (Kai _ _)
     have hB9:=hid (show ∀ W,Below w5.heap.size w5 W→w4.heap.size≤W.heap.size from fun W hW=>by have:=HZR.out;have:=HB5.out.size;have:=hW.size;omega)
     clear v0 v1 v2 v3 ht hd hw5 b5 hE heb hsl e3r hbl
     go_wp2_with fail
     rw [←HW5.out,←HEB.out]
     go_region_law (first
      | (rw [if_pos (by rfl)];go_simp;go_at_call 55;refine (HCL.out w5.drew (Kai _ _).drew).mono ?_;rintro e w6 ⟨A9,c9,rfl,ho9,hb9⟩;have HB6:=hid (show Below w5.heap.size w5 w6 from (Kai _ _).drew.trans hb9);obtain ⟨m1,m3,mo0,mo1⟩:=HC5.out w6 HB6.out;obtain ⟨t1,t3,to0,to1⟩:=HC5.out (w6.alloc (.cells #[.slice A9 sl c9] 41)) (HB6.out.alloc HB6.out.size _);have HO9:=hid (show Own w6 w4.heap.size 3 A9 c9 (dsh.map VI) from ho9.more (hB9.out _ (Kai _ _).drew));clear ho9 hb9;dsimp only)
      | (refine Zeo rfl (.tmp 31) (.tmp 35) rfl w4.heap.size A1 c1 vs n1 HV.out.1.symm rfl ((HV.out.2.1.next HB5.out).next ((HB6.out.alloc HB6.out.size _))) (some ⟨w6.heap.size,0,none⟩) 1 (w6.heap.size+1) (.slice A9 sl c9) rfl (Rd.one _ _ _) (fun h=>by cases h) rfl hnk (hB9.out _ (HB6.out.alloc HB6.out.size _)) ?_;intro A8 c8 w8 ho8 hg8 hA8;have hob8:=Zco ((HV.out.2.1.next HB5.out).next ((HB6.out.alloc HB6.out.size _))) hg8 (((bnext HB5.out (HB6.out.alloc HB6.out.size _)).block ob HBOB.out).trans HS.out.ho) (by decide);have heb8:=Zco ((HV.out.2.1.next HB5.out).next ((HB6.out.alloc HB6.out.size _))) hg8 (HEH.out _ (HB6.out.alloc HB6.out.size _)) (by decide);have y1:=Kaa _ _ 1 _ _ _ heb8;have x0:=Kaa _ _ 0 _ _ _ hob8;have x1:=Kaa _ _ 1 _ _ _ hob8;have fx:w8.frozen? ⟨ob,1,none⟩=false:=(by simp [World.frozen?,hob8]);have HSN:=hid (HS.out.push1 (bnext HB5.out (HB6.out.alloc HB6.out.size (.cells #[.slice A9 sl c9] 41))) HV.out.1 ((HV.out.2.1.next HB5.out).next ((HB6.out.alloc HB6.out.size _))) HV.out.2.2.1 HV.out.2.2.2 (HO9.out.alloc _) hg8 (by rw [←HSL.out];exact ho8) hA8);have HBN:=hid (Zaf (k:=1) (Zal (HB.out.trans ((bnext HB5.out (HB6.out.alloc HB6.out.size (.cells #[.slice A9 sl c9] 41))).mono (Nat.le_of_lt HBOB.out))) hg8 (by have:=(bnext HB5.out (HB6.out.alloc HB6.out.size (.cells #[.slice A9 sl c9] 41))).size;have:=HBOB.out;omega) (fun g hg=>by have:=(((HV.out.2.1.next HB5.out).next ((HB6.out.alloc HB6.out.size (.cells #[.slice A9 sl c9] 41)))).lt g hg).1;have:=HZ4.out;omega)) (Kag ob) (.slice A8 (n1+1) c8));clear ho8 hg8 hA8 hob8 heb8))
     all_goals
      go_wp2
      exact ⟨⟨k+1,A0,n0,c0,A8,n1+1,c8,l0,_,by omega,rfl,by omega,by omega,HX0.out,HX1.out,HSN.out,HBN.out⟩,by simp [intOf];omega⟩
   ·have HX0:=hid (show Zae ss 0=l0++Zae (ss.drop (k+1)) 0 from by
     rw [HI0.out,hD.out,if_neg (by intro h;exact hin ⟨h.1,.inl h.2⟩)]
     rfl)
    have HX1:=hid (show Zae ss 1=l1++Zae (ss.drop (k+1)) 1 from by
     rw [HI1.out,hD.out,if_neg (by intro h;exact hin ⟨h.1,.inr h.2⟩)]
     rfl)
    have HSN:=hid (show InSt w5 w4.heap.size ob A0 n0 c0 A1 n1 c1 l0 l1 from ⟨(b5.block ob HBOB.out).trans HS.out.ho,HS.out.r0.next b5,HS.out.r1.next b5,HS.out.ne⟩)
    have HBN:=hid (show Below ob w4 w5 from HB.out.trans (b5.mono (Nat.le_of_lt HBOB.out)))
    by_cases hk1:dk=1
    ·subst hk1
     have p0:(dp==0)=false:=by rw [Kaj];omega
     have p1:(dp==1)=false:=by rw [Kaj];omega
     clear hin ht hd b5 hE heb hsl e3r hbl
     go_wp2
     rw [←HW5.out]
     exact ⟨⟨k+1,A0,n0,c0,A1,n1,c1,l0,l1,by omega,rfl,by omega,by omega,HX0.out,HX1.out,HSN.out,HBN.out⟩,by simp [intOf];omega⟩
    ·have k1:(dk==1)=false:=by rw [Kaj];exact hk1
     clear hin hk1 ht hd b5 hE heb hsl e3r hbl
     go_wp2
     rw [←HW5.out]
     exact ⟨⟨k+1,A0,n0,c0,A1,n1,c1,l0,l1,by omega,rfl,by omega,by omega,HX0.out,HX1.out,HSN.out,HBN.out⟩,by simp [intOf];omega⟩
  ·obtain rfl:k=ns:=by omega
   have HX0:=hid (show Zae ss 0=l0 from by rw [HI0.out,HNS.out,List.drop_length];exact List.append_nil _)
   have HX1:=hid (show Zae ss 1=l1 from by rw [HI1.out,HNS.out,List.drop_length];exact List.append_nil _)
   have o0:=Kaa _ _ 0 _ _ _ HS.out.ho
   have o1:=Kaa _ _ 1 _ _ _ HS.out.ho
   have hrb:=(HB.out.block rb (by rw [HRB.out,HOB.out];omega)).trans HR4.out
   have q0:=Kaa _ _ 0 _ _ _ hrb
   have q1:=Kaa _ _ 1 _ _ _ hrb
   have fq0:wr.frozen? ⟨rb,0,none⟩=false:=by simp [World.frozen?,hrb]
   have fq1:wr.frozen? ⟨rb,1,none⟩=false:=by simp [World.frozen?,hrb]
   clear hlt
   go_wp2
   obtain ⟨wf,hwf⟩:∃ wf,wf=(wr.setCell ⟨rb,0,none⟩ (.slice A0 n0 c0)).setCell ⟨rb,1,none⟩ (.slice A1 n1 c1):=⟨_,rfl⟩
   rw [←hwf]
   have hfr:wf.heap[rb]?=some (.cells #[.slice A0 n0 c0,.slice A1 n1 c1] 63 (0,0)):=by rw [hwf];simp [World.setCell,Array.getElem?_modify,hrb]
   have hfo:∀ g,g≠rb→wf.heap[g]?=wr.heap[g]?:=fun g hg=>by rw [hwf,Zfi _ rb 1 _ hg,Zfi _ rb 0 _ hg]
   have hfz:wf.heap.size=wr.heap.size:=by rw [hwf];simp [World.setCell]
   have hbf:Below w.heap.size w wf:=by
    rw [hwf]
    exact Zaf (Zaf HBW.out (by rw [HRB.out];omega) _) (by rw [HRB.out];omega) _
   have d0:=Kaa _ _ 0 _ _ _ hfr
   have d1:=Kaa _ _ 1 _ _ _ hfr
   have hB9:w.heap.size≤w4.heap.size:=HB4.out.size
   have i0':InRow wf w4.heap.size A0 n0 c0 l0:=HS.out.r0.other hrb (by decide) (by decide) (fun g _ hg=>hfo g hg)
   have i1':InRow wf w4.heap.size A1 n1 c1 l1:=HS.out.r1.other hrb (by decide) (by decide) (fun g _ hg=>hfo g hg)
   clear hwf
   exact bodyPost_ret (v:=.agg #[.slice A0 n0 c0,.slice A1 n1 c1]) (by simp [results,Tryz.results32,go_sem,d0,d1]) rfl ⟨hbf,A0,n0,c0,A1,n1,c1,rfl,by rw [HX0.out];exact i0'.base hB9,by rw [HX1.out];exact i1'.base hB9⟩
end Go.Proofs.YtghlnncfigkkaaaGreatDoor
