/-
 Rows of integers held against one another: slices.Equal, the reference's Ints.
-/
import Derived.Test.YtghlnncfigkkaaaGreatDoorQNum
import Derived.Test.YtghlnncfigkkaaaGreatDoorQAppB
import Derived.Test.YtghlnncfigkkaaaGreatDoorQTree
import Derived.BigQuiet
import Derived.Lib.AppendZerosOnto
import Derived.Lib.Walk
import Derived.Lib.SliceRun
set_option maxRecDepth 100000
set_option maxHeartbeats 2000000
open Go.Lib (hid)
namespace Go.Proofs.YtghlnncfigkkaaaGreatDoor
set_option linter.unusedVariables false
set_option linter.unusedSimpArgs false
open Go.RowKit
theorem ZgM {l l':List Int} (hl:l.length=l'.length) {i:Nat} {a b:Int} (h:l[i]?=some a) (h':l'[i]?=some b):((l.drop i==l'.drop i)=((a==b)&&(l.drop (i+1)==l'.drop (i+1)))):=by
 obtain ⟨hi,he⟩:=Kaf.1 h
 obtain ⟨hi',he'⟩:=Kaf.1 h'
 rw [List.drop_eq_getElem_cons hi,List.drop_eq_getElem_cons hi',he,he']
 rfl
theorem Zio {l l':List Int} (h:l.length≠l'.length):(l==l')=false:=by
 rw [Kaj]
 intro e
 exact h (by rw [e])
theorem ZcA (A A':Option Addr) (n m c c':Nat) (l l':List Int) (w:World) (hn:n=l.length) (hm:m=l'.length) (hl:n≤9223372036854775807) (hl':m≤9223372036854775807) (h:Rd w w.heap.size A (l.map VI)) (h':Rd w w.heap.size A' (l'.map VI)):
  Calls Tryz.prog 79 #[.slice A n c,.slice A' m c'] w fun e w'=>e=.returned (.bool (l==l'))∧∃ q,w'=w.drewN q:=by
 have HN:=hid hn
 have HM:=hid hm
 have H:=hid h
 have H':=hid h'
 clear h h' hn hm
 by_cases hnm:n=m
 ·subst hnm
  have q0:((n:Int)==(n:Int))=true:=by simp
  have q0':((n:Int) != (n:Int))=false:=by simp
  go_enter Tryz.func79,Tryz.ntmps79
  go_wp2
  go_loopw [13] (fun iv wr=>(∃ i:Nat,i≤n∧iv=.int .i64 i∧(l==l')=(l.drop i==l'.drop i))∧∃ q,wr=w.drewN q) (fun iv _=>n-(intOf iv).toNat)
  case atStart=>exact ⟨⟨0,by omega,rfl,rfl⟩,0,rfl⟩
  case round=>
   obtain ⟨⟨i,hi,rfl,hr⟩,q,rfl⟩:=hrel
   have HR:=hid hr
   clear hr
   by_cases hlt:i<n
   ·have ht:l[i]?=some (l[i]'(by rw [←HN.out];exact hlt)):=Kad _
    obtain ⟨d,hd⟩:∃ d,d=l[i]'(by rw [←HN.out];exact hlt):=⟨_,rfl⟩
    rw [←hd] at ht
    have ht':l'[i]?=some (l'[i]'(by rw [←HM.out];exact hlt)):=Kad _
    obtain ⟨d',hd'⟩:∃ d,d=l'[i]'(by rw [←HM.out];exact hlt):=⟨_,rfl⟩
    rw [←hd'] at ht'
    obtain ⟨b,o,rfl,hbl,c0⟩:=H.out.at_ (show (l.map VI)[i]?=some (VI d) by rw [Kal,ht];rfl)
    obtain ⟨b',o',rfl,hbl',c0'⟩:=H'.out.at_ (show (l'.map VI)[i]?=some (VI d') by rw [Kal,ht'];rfl)
    unfold VI at c0 c0'
    have hD:=hid (ZgM (by rw [←HN.out,←HM.out]) ht ht')
    have i0:(0:Int)≤(i:Int):=by omega
    have i1:(i:Int)<(n:Int):=by omega
    clear ht hd ht' hd' hbl hbl'
    by_cases hdd:d=d'
    ·subst hdd
     have q1:(d==d)=true:=by simp
     have q2:(d != d)=false:=by simp
     have HX:=hid (show (l==l')=(l.drop (i+1)==l'.drop (i+1)) from by rw [HR.out,hD.out,q1];rfl)
     go_wp2_with fail
     go_quiet (fail)
     go_wp2
     exact ⟨⟨⟨i+1,by omega,rfl,HX.out⟩,_,rfl⟩,by simp [intOf];omega⟩
    ·have q1:(d==d')=false:=by rw [Kaj];exact hdd
     have q2:(d != d')=true:=by unfold bne;rw [q1];rfl
     have HX:=hid (show (l==l')=false from by rw [HR.out,hD.out,q1];rfl)
     clear hdd
     go_wp2_with fail
     go_quiet (fail)
     go_wp2
     go_ret
     exact ⟨by rw [HX.out];rfl,q+nq,World.drewN_drewN _ _ _⟩
   ·obtain rfl:n=i:=by omega
    have HX:=hid (show (l==l')=true from by rw [HR.out,HN.out,List.drop_length,←HN.out,HM.out,List.drop_length];rfl)
    go_wp2
    go_ret
    exact ⟨by rw [HX.out];rfl,_,rfl⟩
 ·have q1:((n:Int)==(m:Int))=false:=by rw [Kaj];omega
  have q2:((n:Int) != (m:Int))=true:=by unfold bne;rw [q1];rfl
  have HX:=hid (show (l==l')=false from Zio (by rw [←HN.out,←HM.out];exact hnm))
  clear hnm
  go_enter Tryz.func79,Tryz.ntmps79
  go_wp2
  go_ret
  exact ⟨by rw [HX.out];rfl,0,rfl⟩
theorem Zba (A A':Option Addr) (n m c c':Nat) (l l':List Int) (w:World) (hn:n=l.length) (hm:m=l'.length) (hl:n≤9223372036854775807) (hl':m≤9223372036854775807) (h:Rd w w.heap.size A (l.map VI)) (h':Rd w w.heap.size A' (l'.map VI)):
  Calls Tryz.prog 49 #[.slice A n c,.slice A' m c'] w fun e w'=>e=.returned (.bool (l==l'))∧∃ q,w'=w.drewN q:=by
 have HN:=hid hn
 have HM:=hid hm
 have H:=hid h
 have H':=hid h'
 clear h h' hn hm
 by_cases hnm:n=m
 ·subst hnm
  have q0:((n:Int)==(n:Int))=true:=by simp
  have q0':((n:Int) != (n:Int))=false:=by simp
  go_enter Tryz.func49,Tryz.ntmps49
  go_wp2
  go_loopw [13] (fun iv wr=>(∃ i:Nat,i≤n∧iv=.int .i64 i∧(l==l')=(l.drop i==l'.drop i))∧∃ q,wr=w.drewN q) (fun iv _=>n-(intOf iv).toNat)
  case atStart=>exact ⟨⟨0,by omega,rfl,rfl⟩,0,rfl⟩
  case round=>
   obtain ⟨⟨i,hi,rfl,hr⟩,q,rfl⟩:=hrel
   have HR:=hid hr
   clear hr
   by_cases hlt:i<n
   ·have ht:l[i]?=some (l[i]'(by rw [←HN.out];exact hlt)):=Kad _
    obtain ⟨d,hd⟩:∃ d,d=l[i]'(by rw [←HN.out];exact hlt):=⟨_,rfl⟩
    rw [←hd] at ht
    have ht':l'[i]?=some (l'[i]'(by rw [←HM.out];exact hlt)):=Kad _
    obtain ⟨d',hd'⟩:∃ d,d=l'[i]'(by rw [←HM.out];exact hlt):=⟨_,rfl⟩
    rw [←hd'] at ht'
    obtain ⟨b,o,rfl,hbl,c0⟩:=H.out.at_ (show (l.map VI)[i]?=some (VI d) by rw [Kal,ht];rfl)
    obtain ⟨b',o',rfl,hbl',c0'⟩:=H'.out.at_ (show (l'.map VI)[i]?=some (VI d') by rw [Kal,ht'];rfl)
    unfold VI at c0 c0'
    have hD:=hid (ZgM (by rw [←HN.out,←HM.out]) ht ht')
    have i0:(0:Int)≤(i:Int):=by omega
    have i1:(i:Int)<(n:Int):=by omega
    clear ht hd ht' hd' hbl hbl'
    by_cases hdd:d=d'
    ·subst hdd
     have q1:(d==d)=true:=by simp
     have q2:(d != d)=false:=by simp
     have HX:=hid (show (l==l')=(l.drop (i+1)==l'.drop (i+1)) from by rw [HR.out,hD.out,q1];rfl)
     go_wp2_with fail
     go_quiet (fail)
     go_wp2
     exact ⟨⟨⟨i+1,by omega,rfl,HX.out⟩,_,rfl⟩,by simp [intOf];omega⟩
    ·have q1:(d==d')=false:=by rw [Kaj];exact hdd
     have q2:(d != d')=true:=by unfold bne;rw [q1];rfl
     have HX:=hid (show (l==l')=false from by rw [HR.out,hD.out,q1];rfl)
     clear hdd
     go_wp2_with fail
     go_quiet (fail)
     go_wp2
     go_ret
     exact ⟨by rw [HX.out];rfl,q+nq,World.drewN_drewN _ _ _⟩
   ·obtain rfl:n=i:=by omega
    have HX:=hid (show (l==l')=true from by rw [HR.out,HN.out,List.drop_length,←HN.out,HM.out,List.drop_length];rfl)
    go_wp2
    go_ret
    exact ⟨by rw [HX.out];rfl,_,rfl⟩
 ·have q1:((n:Int)==(m:Int))=false:=by rw [Kaj];omega
  have q2:((n:Int) != (m:Int))=true:=by unfold bne;rw [q1];rfl
  have HX:=hid (show (l==l')=false from Zio (by rw [←HN.out,←HM.out];exact hnm))
  clear hnm
  go_enter Tryz.func49,Tryz.ntmps49
  go_wp2
  go_ret
  exact ⟨by rw [HX.out];rfl,0,rfl⟩
def RdX (X:Nat→Prop) (w:World) (A:Option Addr) (xs:List Value):Prop:=
 xs=[]∨∃ b o,A=some ⟨b,o,none⟩∧b<w.heap.size∧¬ X b∧∀ (j:Nat) (v:Value),xs[j]?=some v→w.cell? ⟨b,o+j,none⟩=some v
theorem RdX.rd {X:Nat→Prop} {w:World} {A:Option Addr} {xs:List Value} (h:RdX X w A xs):Rd w w.heap.size A xs:=by
 rcases h with h | ⟨b,o,hA,hb,_,hc⟩
 ·exact .inl h
 ·exact .inr ⟨b,o,hA,hb,hc⟩
def KeepX (X:Nat→Prop) (w w':World):Prop:=w.heap.size≤w'.heap.size∧∀ p:Addr,p.block<w.heap.size→¬ X p.block→w'.cell? p=w.cell? p
theorem KeepX.of {X:Nat→Prop} {w w':World} (h:Below w.heap.size w w'):KeepX X w w':=⟨h.size,fun p hp _=>h.cell hp⟩
theorem KeepX.trans {X:Nat→Prop} {w w' w'':World} (h:KeepX X w w') (h':KeepX X w' w''):KeepX X w w'':=
 ⟨Kah h.1 h'.1,fun p hp hx=>(h'.2 p (Kae hp h.1) hx).trans (h.2 p hp hx)⟩
theorem RdX.keep {X:Nat→Prop} {w w':World} {A:Option Addr} {xs:List Value} (h:RdX X w A xs) (hk:KeepX X w w'):RdX X w' A xs:=by
 rcases h with h | ⟨b,o,hA,hb,hx,hc⟩
 ·exact .inl h
 ·exact .inr ⟨b,o,hA,Kae hb hk.1,hx,fun j v hv=>(hk.2 ⟨b,o+j,none⟩ hb hx).trans (hc j v hv)⟩
def ShV (X:Nat→Prop) (w:World) (v:Value) (l:List Int):Prop:=∃ A c,v=.slice A l.length c∧l.length≤c∧c≤9223372036854775807∧l.length≤2∧RdX X w A (l.map VI)
theorem ShV.keep {X:Nat→Prop} {w w':World} {v:Value} {l:List Int} (h:ShV X w v l) (hk:KeepX X w w'):ShV X w' v l:=by
 obtain ⟨A,c,h1,h2,h3,h4,h5⟩:=h
 exact ⟨A,c,h1,h2,h3,h4,h5.keep hk⟩
theorem ShV.next {X:Nat→Prop} {w w':World} {v:Value} {l:List Int} (h:ShV X w v l) (hb:Below w.heap.size w w'):ShV X w' v l:=h.keep (KeepX.of hb)
theorem ShV.nil (X:Nat→Prop) (w:World):ShV X w (.slice none 0 0) []:=⟨none,0,rfl,Kag _,by decide,by decide,.inl rfl⟩
theorem ZcB:(Tryz.prog.info? 3).map (fun i=>(i.zero,i.size,i.bytes))=some (some (.int .i64 0),1,8):=by kernel_rfl
theorem Zfs (l:List Int):∀ u∈l.map VI,u.oneCell'=true:=by
 intro v hv
 obtain ⟨x,_,rfl⟩:=List.mem_map.1 hv
 rfl
theorem Zkg (n:Nat) (hn:n≤1000) (w:World):
  Calls Tryz.prog 212 #[.slice none 0 0,.int .i64 n] w fun e w'=>∃ A c,e=.returned (.slice A 0 c)∧Own w' w.heap.size 3 A c []∧Below w.heap.size w w':=by
 by_cases h0:n=0
 ·subst h0
  go_enter Tryz.func212,Tryz.ntmps212
  go_wp2
  go_ret
  exact ⟨none,0,rfl,Own.nil _ _ _,Kai _ _⟩
 ·obtain ⟨i0,hi0,hz0,hz1,hz2⟩:=info_parts ZcB
  have hold:(Builtin.firstCells i0.size 0 (.slice none 0 0)).run Tryz.prog w.drew=.ok ([]:List Value).toArray w.drew:=run_firstCells_none w.drew i0.size 0 0 0
  have hrz:=fun ty=>Lib.run_append_grow_zeros w 41 3 ty 3 i0 (.int .i64 0) .i64 .i64 Tryz.underlying41 Tryz.underlying3 hi0 hz0 none 0 0 [] hold n (by omega) (by omega) (by omega) (by omega) (by rw [hz2];omega)
   (by
    simp only [Nat.zero_add]
    exact growslice_fits (by omega) (by rw [hz2];omega))
  simp only [Nat.zero_add] at hrz
  obtain ⟨G,hG⟩:∃ G,G=grownCap w n 0 3:=⟨_,rfl⟩
  have hGn:n≤G:=by rw [hG];exact grownCap_ge w _ _ _
  have hGm:G≤maxLen:=by rw [hG];exact grownCap_le_maxLen w n 0 3 (by unfold maxLen;omega)
  rw [←hG] at hrz
  have hG63:G≤9223372036854775807:=by unfold maxLen at hGm;omega
  have HGM:=hid hGm
  have i1:(0:Int)<(n:Int):=by omega
  have i2:decide ((0:Int)<(n:Int))=true:=by simp;omega
  clear hold hG hi0 hz0 hz1 hz2 hGm
  go_enter Tryz.func212,Tryz.ntmps212
  go_wp2_with (at_builtin;refine Lib.wpList_append_run _ rfl _ _ _ _ rfl _ _ rfl rfl _ _ (hrz _) ?_)
  go_ret
  refine ⟨_,_,rfl,⟨rfl,.inr ⟨w.heap.size,G,_,rfl,Kag _,Kac w.drew _,Nat.zero_le _,HGM.out,?_,rfl⟩⟩,?_⟩
  ·simp [size_zeroCells]
   omega
  ·exact ((Kai _ w).alloc (Kag _) _).drew
theorem appV {w:World} {ops:Array Oper} {rest:List Oper} {o:Oper} {a:Act} {Q:Exit→Act→World→Prop} (hgd:o.guard=none) (s x:Operand)
  (ho:o.op=.call { callee:=.builtin .append,args:=#[s,x],argTypes:=#[41,41] }) (base:Nat)
  (A:Option Addr) (cap:Nat) (xs:List Int) (n:Nat) (hn:xs.length=n) (hs:a.eval s=.slice A n cap) (hown:Own w base 3 A cap (xs.map VI))
  (A2:Option Addr) (m c B:Nat) (news:List Int) (hm:news.length=m) (hx:a.eval x=.slice A2 m c) (hr:Rd w B A2 (news.map VI)) (hnil:A2=none→m=0)
  (hbytes:n+m≤26388279066624) (hbase:base≤w.heap.size)
  (h:∀ A' cap' w',Own w' base 3 A' cap' ((xs++news).map VI)→w.grownBy w' (blk A)→(blk A'=blk A∨blk A'=some w.heap.size)→wpList Tryz.prog ops Q rest (a.put o.dst (.slice A' (n+m) cap')) w'):
  wpList Tryz.prog ops Q (o::rest) a w:=by
 obtain ⟨i0,hi0,hz0,hz1,hz2⟩:=info_parts ZcB
 refine Zbu hgd s x 41 ho base 3 i0 _ 8 Tryz.underlying41 hi0 hz0 hz1 hz2 rfl A cap (xs.map VI) n (by rw [Kak];exact hn) hs hown A2 m c B (news.map VI) (by rw [Kak];exact hm) hx hr hnil (Zfs _) (by simp only [maxLen];omega) (by omega) hbase ?_
 intro A' cap' w' h1 h2 h3
 rw [←List.map_append] at h1
 exact h A' cap' w' h1 h2 h3
theorem ZaW {w:World} {B:Nat} {A:Option Addr} {l:List Int} (h:Rd w B A (l.map VI)):A=none→l.length=0:=by
 intro e
 rcases h with h | ⟨b,o,hA,_⟩
 ·have:=congrArg List.length h
  simpa using this
 ·rw [e] at hA
  cases hA
theorem Zcn (g:Nat) (A A':Option Addr) (n m c c':Nat) (a b:List Int) (w:World) (hn:n=a.length) (hm:m=b.length) (hl:n≤100) (hl':m≤100) (h:Rd w w.heap.size A (a.map VI)) (h':Rd w w.heap.size A' (b.map VI))
  (hg:g<w.heap.size) (c0:w.cell? ⟨g,0,none⟩=some (.slice A n c)) (c1:w.cell? ⟨g,1,none⟩=some (.slice A' m c')):
  Calls Tryz.prog 203 #[.slice (some ⟨g,0,none⟩) 2 2] w fun e w'=>∃ B k,e=.returned (.slice B (n+m) k)∧Own w' w.heap.size 3 B k ((a++b).map VI)∧Below w.heap.size w w':=by
 have HN:=hid hn
 have HM:=hid hm
 have H:=hid h
 have H':=hid h'
 have HG:=hid (Zkg (n+m) (by omega) w)
 have p0:decide (((n:Int)+(m:Int))<0)=false:=by simp;omega
 have p1:decide ((n:Int)<0)=false:=by simp
 have HC0:=hid (fun W (hW:Below w.heap.size w W)=>(hW.cell (p:=⟨g,0,none⟩) hg).trans c0)
 have HC1:=hid (fun W (hW:Below w.heap.size w W)=>(hW.cell (p:=⟨g,1,none⟩) hg).trans c1)
 clear h h' hn hm
 go_enter Tryz.func203,Tryz.ntmps203
 go_wp2
 go_loop [3,5,11] (fun sv _ iv=>(iv=.int .i64 0∧sv=.int .i64 0)∨(iv=.int .i64 1∧sv=.int .i64 n)∨(iv=.int .i64 2∧sv=.int .i64 ((n:Int)+(m:Int)))) (fun _ _ iv=>2-(intOf iv).toNat)
 case atStart=>exact .inl ⟨rfl,rfl⟩
 case round=>
  rcases hrel with ⟨rfl,rfl⟩ | ⟨rfl,rfl⟩ | ⟨rfl,rfl⟩
  ·go_wp2
   exact ⟨.inr (.inl ⟨rfl,rfl⟩),by simp [intOf]⟩
  ·go_wp2
   exact ⟨.inr (.inr ⟨rfl,rfl⟩),by simp [intOf]⟩
  ·go_wp2_with (go_at_call 212;refine HG.out.mono ?_;rintro e w1 ⟨A1,k1,rfl,o1,b1⟩)
   have hin:=H.out.next b1
   have hin':=H'.out.next b1
   have O1:=hid o1
   have B1:=hid b1
   clear o1 b1 hin hin' c0 c1
   go_loopw [6,8,27] (fun v6 _ iv wr=>Below w.heap.size w wr∧∃ A c xs nx,v6=.slice A nx c∧nx=xs.length∧Own wr w.heap.size 3 A c (xs.map VI)∧((iv=.int .i64 0∧xs=[])∨(iv=.int .i64 1∧xs=a)∨(iv=.int .i64 2∧xs=a++b))) (fun _ _ iv _=>2-(intOf iv).toNat)
   case atStart=>exact ⟨B1.out,A1,k1,[],0,rfl,rfl,O1.out,.inl ⟨rfl,rfl⟩⟩
   case round=>
    obtain ⟨hb,A2,k2,xs,nx,rfl,hnx,o2,hcase⟩:=hrel
    have c0:=HC0.out _ hb
    have c1:=HC1.out _ hb
    have O2:=hid o2
    have B2:=hid hb
    have NX:=hid hnx
    clear o2 hb hnx
    rcases hcase with ⟨rfl,rfl⟩ | ⟨rfl,hx⟩ | ⟨rfl,hx⟩
    ·have hnx:nx=0:=by rw [NX.out];rfl
     subst hnx
     go_wp2_with (at_builtin;(refine appV rfl (.tmp 31) (.tmp 32) rfl w.heap.size A2 k2 [] 0 rfl rfl O2.out A n c w.heap.size a HN.out.symm rfl (H.out.below B2.out) (fun e=>by rw [HN.out];exact ZaW H.out e) (by omega) B2.out.size ?_);intro A3 k3 w3 o3 g3 h3;have B3:=hid (Zal B2.out g3 B2.out.size (fun k hk=>(O2.out.lt k hk).1));have O3:=hid o3;clear o3 g3 h3)
     exact ⟨⟨B3.out,A3,k3,a,_,rfl,by have:=HN.out;omega,by simpa using O3.out,.inr (.inl ⟨rfl,rfl⟩)⟩,by simp [intOf]⟩
    ·have HX:=hid hx
     have hnx:nx=n:=by rw [NX.out,hx,HN.out]
     subst hnx
     clear hx
     go_wp2_with (at_builtin;(refine appV rfl (.tmp 31) (.tmp 32) rfl w.heap.size A2 k2 xs nx NX.out.symm rfl O2.out A' m c' w.heap.size b HM.out.symm rfl (H'.out.below B2.out) (fun e=>by rw [HM.out];exact ZaW H'.out e) (by omega) B2.out.size ?_);intro A3 k3 w3 o3 g3 h3;have B3:=hid (Zal B2.out g3 B2.out.size (fun k hk=>(O2.out.lt k hk).1));have O3:=hid o3;clear o3 g3 h3)
     exact ⟨⟨B3.out,A3,k3,xs++b,_,rfl,by rw [List.length_append,NX.out,HM.out],O3.out,.inr (.inr ⟨rfl,by rw [HX.out]⟩)⟩,by simp [intOf]⟩
    ·have HX:=hid hx
     have hnx:nx=n+m:=by rw [NX.out,hx,List.length_append,HN.out,HM.out]
     subst hnx
     clear hx
     go_wp2
     go_ret
     exact ⟨A2,k2,rfl,by rw [←HX.out];exact O2.out,B2.out⟩
end Go.Proofs.YtghlnncfigkkaaaGreatDoor
