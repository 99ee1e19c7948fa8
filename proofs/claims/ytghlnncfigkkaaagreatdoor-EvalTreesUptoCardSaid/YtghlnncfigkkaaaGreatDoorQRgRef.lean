/-
  The walk of the document's Mat. Walks of the document's evaluation: a word at a place, word by word, the words of an expression. Walk of the document's words of an expression. Walks of the document's look-up of a name, its test of inputs, its inputs' shapes. The document's value of an expression: its memory. Walk of the document's value of an expression. Walk of the document's value of an expression. The document's evaluation: its memory.
-/
import Derived.Test.YtghlnncfigkkaaaGreatDoorQChkY
import Derived.Test.YtghlnncfigkkaaaGreatDoorQLabL
import Derived.Test.YtghlnncfigkkaaaGreatDoorQAppN
import Derived.Test.YtghlnncfigkkaaaGreatDoorQEvS
import Derived.Test.YtghlnncfigkkaaaGreatDoorQChkQ
import Derived.Test.YtghlnncfigkkaaaGreatDoorQEvB
import Derived.Test.YtghlnncfigkkaaaGreatDoorQEvE
import Derived.Test.YtghlnncfigkkaaaGreatDoorQEvY
import Derived.BigQuiet
import Derived.Deep.QuietTactic
import Derived.Deep.OwnRows
import Derived.Deep.RegionHeld3
set_option maxRecDepth 100000
set_option maxHeartbeats 8000000
open Go.Lib (hid)
namespace Go.Proofs.YtghlnncfigkkaaaGreatDoor
set_option linter.unusedVariables false
set_option linter.unusedSimpArgs false
open Go.RowKit
attribute [local go_sem ↓] Zcg Zc4 ZbA Zch
theorem Zly (xs ys:List UInt64) (k n p:Nat):dotW xs ys k n p 0=0:=by unfold dotW;rfl
theorem Zlz (xs ys:List UInt64) (k n i j t:Nat) (hj:j<n):addW (dotW xs ys k n (i*n+j) t) (mulW (nthW xs (i*k+t)) (nthW ys (t*n+j)))=dotW xs ys k n (i*n+j) (t+1):=by
 have hd:(i*n+j) / n=i:=by
  rw [Nat.mul_comm,Nat.mul_add_div (by omega),Nat.div_eq_of_lt hj];omega
 have hm:(i*n+j) % n=j:=by
  rw [Nat.mul_comm,Nat.mul_add_mod,Nat.mod_eq_of_lt hj]
 rw [show dotW xs ys k n (i*n+j) (t+1)=addW (dotW xs ys k n (i*n+j) t) (mulW (nthW xs ((i*n+j) / n*k+t)) (nthW ys (t*n+(i*n+j) % n))) from by rw [dotW],hd,hm]
theorem Zl0 (xs ys:List UInt64) (m k n:Nat) {r:Nat} (h:r<m*n):(matW xs ys m k n).take (r+1)=(matW xs ys m k n).take r++[dotW xs ys k n r k]:=by
 rw [List.take_succ_eq_append_getElem (by rw [ZaV];exact h)]
 congr 2
 have h1:=ZfF xs ys m k n h
 rw [Zbo,List.getD_eq_getElem?_getD,List.getElem?_eq_getElem (by rw [ZaV];exact h)] at h1
 exact h1
theorem ZhZ {w w':World} {B:Nat} {A:Option Addr} {cap:Nat} {e:TypeId} {xs:List Value} {o:Obj} (hown:Own w B e A cap xs) (hB:B≤w.heap.size) (h:(w.alloc o).grownBy w' (blk A)):Below B w w':=
 ((Below.refl B w).alloc hB _).grown h (by simp;omega) (fun k hk=>(hown.lt k hk).1)
def ZjE (W:World) (L:List UInt64) (hi r step:Nat) (ov iv:Value) (wr:World):Prop:=
 ∃ (p:Nat) (A:Option Addr) (cap:Nat) (cur:List UInt64),p≤hi∧iv=.int .i64 p∧ov=.slice A cur.length cap∧cur=L.take (r+p*step)∧Own wr W.heap.size 39 A cap (cur.map U)∧Below W.heap.size W wr
theorem Zl1 (A A':Option Addr) (c c':Nat) (l l':List UInt64) (m k n:Nat) (w:World)
  (hm1:1≤m) (hm:m≤1024) (hk1:1≤k) (hk:k≤1024) (hn1:1≤n) (hn:n≤1024) (hl:l.length=m*k) (hl':l'.length=k*n)
  (hA:Rd w w.heap.size A (l.map U)) (hA':Rd w w.heap.size A' (l'.map U)):
  Calls Tryz.prog 163 #[.slice A l.length c,.slice A' l'.length c',.int .i64 m,.int .i64 k,.int .i64 n] w fun e w'=>
   ∃ A2 c2,e=.returned (.slice A2 (m*n) c2)∧Own w' w.heap.size 39 A2 c2 ((matW l l' m k n).map U)∧Below w.heap.size w w':=by
 have hmn:m*n≤1048576:=Nat.mul_le_mul hm hn
 have hmk:m*k≤1048576:=Nat.mul_le_mul hm hk
 have hkn:k*n≤1048576:=Nat.mul_le_mul hk hn
 have HL:=hid hl
 have HL':=hid hl'
 have HA:=hid hA
 have HA':=hid hA'
 clear hl hl' hA hA'
 obtain ⟨L,hL⟩:∃ L,L=matW l l' m k n:=⟨_,rfl⟩
 have hLl:L.length=m*n:=by rw [hL,ZaV]
 have HM:=hid hL
 have HLL:=hid hLl
 rw [←hL]
 clear hL hLl
 go_enter Tryz.func163,Tryz.ntmps163
 go_wp2
 go_loopw [11,12] (fun ov iv wr=>ZjE w L m 0 n ov iv wr) (fun _ iv _=>m-(intOf iv).toNat)
 case atStart=>exact ⟨0,none,0,[],Nat.zero_le _,rfl,rfl,by simp,Own.nil _ _ _,Below.refl _ _⟩
 case round=>
  obtain ⟨p,A1,k1,cur,hp,rfl,rfl,hcur,hown,hbel⟩:=hrel
  obtain ⟨wo,rfl⟩:∃ wo:World,wo=wr:=⟨_,rfl⟩
  have HC:=hid hcur
  have HO:=hid hown
  have HB:=hid hbel
  clear hcur hown hbel
  by_cases hlt:p<m
  ·go_wp2
   go_loopw [11,13] (fun ov jv wr=>ZjE w L n (p*n) 1 ov jv wr) (fun _ jv _=>n-(intOf jv).toNat)
   case atStart=>exact ⟨0,A1,k1,cur,Nat.zero_le _,rfl,rfl,by rw [HC.out];simp,HO.out,HB.out⟩
   case round=>
    obtain ⟨q,A2,k2,now,hq,rfl,rfl,hnow,hown,hbel⟩:=hrel
    obtain ⟨wm,rfl⟩:∃ wm:World,wm=wr:=⟨_,rfl⟩
    have HN:=hid hnow
    have HO2:=hid hown
    have HB2:=hid hbel
    have hcl:now.length≤1048576:=by rw [hnow,List.length_take,HLL.out];omega
    clear hnow hown hbel
    by_cases hlq:q<n
    ·go_wp2
     go_loopw [14,15] (fun xv tv wr=>∃ s:Nat,s≤k∧tv=.int .i64 s∧xv=U (dotW l l' k n (p*n+q) s)∧∃ d,wr=wm.drewN d) (fun _ tv _=>k-(intOf tv).toNat)
     case atStart=>exact ⟨0,by omega,rfl,by rw [Zly];rfl,0,rfl⟩
     case round=>
      obtain ⟨s,hs,rfl,rfl,d,rfl⟩:=hrel
      by_cases hls:s<k
      ·have f2:p*k+s<l.length:=by
        have h1:(p+1)*k≤m*k:=Nat.mul_le_mul_right k hlt
        rw [Nat.add_mul] at h1
        rw [HL.out]
        omega
       have f3:s*n+q<l'.length:=by
        have h1:(s+1)*n≤k*n:=Nat.mul_le_mul_right n hls
        rw [Nat.add_mul] at h1
        rw [HL'.out]
        omega
       have f4:l.length≤1048576:=by rw [HL.out];exact hmk
       have f5:l'.length≤1048576:=by rw [HL'.out];exact hkn
       obtain ⟨b,o,hAe,hb1,hc1⟩:=HA.out.word f2
       obtain ⟨b',o',hAe',hb2,hc2⟩:=HA'.out.word f3
       have g1:wm.cell? ⟨b,o+(p*k+s),none⟩=some (U (nthW l (p*k+s))):=(HB2.out.cell (p:=⟨b,_,none⟩) hb1).trans hc1
       have g2:wm.cell? ⟨b',o'+(s*n+q),none⟩=some (U (nthW l' (s*n+q))):=(HB2.out.cell (p:=⟨b',_,none⟩) hb2).trans hc2
       have HS:=hid (Zlz l l' k n p q s hlq)
       clear hc1 hc2
       rw [hAe,hAe']
       clear hAe hAe'
       go_wp2
       go_quiet (fail)
       go_wp2
       exact ⟨⟨s+1,by omega,by go_num,by rw [←HS.out],d+nq,rfl⟩,by simp [intOf];omega⟩
      ·obtain rfl:s=k:=by omega
       have f1:p*n+q<m*n:=by
        have h1:(p+1)*n≤m*n:=Nat.mul_le_mul_right n hlt
        rw [Nat.add_mul] at h1
        omega
       have HT:=hid (Zl0 l l' m s n f1)
       clear f1
       go_wp2_with (at_builtin;(refine app64 rfl (.tmp 50) (.tmp 52) rfl w.heap.size A2 k2 now now.length rfl rfl ((HO2.out.drewN d).alloc _) (some ⟨wm.heap.size,0,none⟩) 1 1 (wm.heap.size+1) [dotW l l' s n (p*n+q) s] rfl rfl (ZbC _ _) (fun h=>by cases h) (by omega) (by have:=HB2.out.size;simp;omega) ?_);intro A' cap' w5 hown' hgrow hat;have H5:=hid (ZhZ (HO2.out.drewN d) HB2.out.size hgrow);have O5:=hid hown';clear hown' hgrow hat)
       refine ⟨⟨q+1,A',cap',now++[dotW l l' s n (p*n+q) s],by omega,by go_num,by simp,?_,O5.out,?_⟩,by simp [intOf];omega⟩
       ·rw [HN.out,Nat.mul_one,Nat.mul_one,HM.out,←HT.out];congr 1
       ·exact (Zaa HB2.out d).trans H5.out
    ·obtain rfl:q=n:=by omega
     go_wp2
     refine ⟨⟨p+1,A2,k2,now,by omega,by go_num,rfl,?_,HO2.out,HB2.out⟩,by simp [intOf];omega⟩
     rw [HN.out];congr 1;rw [Nat.add_mul];omega
  ·obtain rfl:p=m:=by omega
   have hcl:cur=L:=by rw [HC.out,List.take_of_length_le (by rw [HLL.out];omega)]
   have HCL:=hid hcl
   clear hcl
   go_wp2
   go_ret
   exact ⟨A1,k1,by rw [←HLL.out,←HCL.out];rfl,by rw [←HCL.out];exact HO.out,HB.out⟩
end Go.Proofs.YtghlnncfigkkaaaGreatDoor
namespace Go.Proofs.YtghlnncfigkkaaaGreatDoor
set_option linter.unusedVariables false
set_option linter.unusedSimpArgs false
open Go.RowKit
theorem ZjF (x y:UInt64):ltW (up63 x) (up63 y)=sltW x y:=by
 unfold ltW up63 sltW
 rw [decide_eq_decide,UInt64.lt_iff_toNat_lt,UInt64.toNat_add,UInt64.toNat_add,sI_eq,sI_eq]
 have:=x.toNat_lt;have:=y.toNat_lt
 have e:(9223372036854775808:UInt64).toNat=9223372036854775808:=rfl
 rw [e]
 split <;> split <;> omega
theorem ZfU (x y:UInt64) (w:World):Calls Tryz.prog 164 #[U x,U y] w fun e w'=>e=.returned (U (oneW (sltW x y)))∧w=w':=by
 have:=Zje x y w
 rwa [ZjF] at this
theorem Zeb (A:Option Addr) (n c i:Nat) (l:List UInt64) (w:World) (hn:n=l.length) (hl:n≤9223372036854775807) (hi:n=1∨i<n) (h:Rd w w.heap.size A (l.map U)):
  Calls Tryz.prog 165 #[.slice A n c,.int .i64 (i:Int)] w fun e w'=>e=.returned (U (atL l i))∧w=w':=by
 by_cases h1:n=1
 ·obtain ⟨b,o,rfl,hb,hc⟩:=h.word (k:=0) (by omega)
  have HA:=hid (show atL l i=nthW l 0 from by unfold atL;rw [if_pos (by omega)])
  subst h1
  clear h hb hn hi
  rw [Nat.add_zero] at hc
  go_enter Tryz.func165,Tryz.ntmps165
  go_wp2
  go_ret
  exact ⟨by rw [HA.out];rfl,rfl⟩
 ·have hlt:i<n:=by omega
  obtain ⟨b,o,rfl,hb,hc⟩:=h.word (k:=i) (by omega)
  have HA:=hid (show atL l i=nthW l i from by unfold atL;rw [if_neg (by omega)])
  have q1:((n:Int)==1)=false:=by rw [beq_eq_false_iff_ne];omega
  have i0:(0:Int)≤(i:Int):=by omega
  have i1:(i:Int)<(n:Int):=by omega
  clear h hb hn hi h1
  go_enter Tryz.func165,Tryz.ntmps165
  go_wp2
  go_ret
  exact ⟨by rw [HA.out];rfl,rfl⟩
attribute [local go_sem ↓] Zcg Zc4 Zfc Zgz ZcU
theorem ZjG {k:Nat} (h:k≤63):(min (max (k:Int) 0) 63).toNat=k:=by omega
theorem Zl2 (k:Int) (num:Nat) (a b:UInt64) (w:World) (hnum:k=9→num≤63):
  Calls Tryz.prog 166 #[.int .i64 k,.int .u64 (num:Int),U a,U b] w fun e w'=>e=.returned (U (oneF k num a b))∧w=w':=by
 have HL:=hid (fun x y W=>ZfU x y W)
 by_cases k3:k=3
 ·subst k3
  clear hnum
  go_enter Tryz.func166,Tryz.ntmps166
  go_wp2
  go_ret
  exact ⟨by unfold oneF;rw [if_pos rfl];rfl,rfl⟩
 by_cases k4:k=4
 ·subst k4
  clear hnum k3
  go_enter Tryz.func166,Tryz.ntmps166
  go_wp2
  go_ret
  exact ⟨by unfold oneF;rw [if_neg (by decide),if_pos rfl];rfl,rfl⟩
 by_cases k5:k=5
 ·subst k5
  clear hnum k3 k4
  go_enter Tryz.func166,Tryz.ntmps166
  go_wp2
  go_ret
  exact ⟨by unfold oneF;rw [if_neg (by decide),if_neg (by decide),if_pos rfl];rfl,rfl⟩
 by_cases k6:k=6
 ·subst k6
  clear hnum k3 k4 k5
  go_enter Tryz.func166,Tryz.ntmps166
  go_wp2
  go_ret
  exact ⟨by unfold oneF;rw [if_neg (by decide),if_neg (by decide),if_neg (by decide),if_pos rfl];rfl,rfl⟩
 by_cases k8:k=8
 ·subst k8
  clear hnum k3 k4 k5 k6
  go_enter Tryz.func166,Tryz.ntmps166
  go_wp2_with (go_at_call 164;refine (HL.out a b _).mono ?_;rintro e w' ⟨rfl,rfl⟩)
  go_ret
  exact ⟨by unfold oneF;rw [if_neg (by decide),if_neg (by decide),if_neg (by decide),if_neg (by decide),if_pos rfl];rfl,rfl⟩
 by_cases k9:k=9
 ·subst k9
  have hn:=hnum rfl
  have hw:IntKind.i64.wrap (num:Int)=(num:Int):=by rw [IntKind.wrap_i64];omega
  have HF:=hid (ZhL a (num:Int) w)
  rw [ZjG hn] at HF
  clear hnum k3 k4 k5 k6 k8
  go_enter Tryz.func166,Tryz.ntmps166
  go_wp2_with (go_at_call 192;refine HF.out.mono ?_;rintro e w' ⟨rfl,rfl⟩)
  go_ret
  exact ⟨by unfold oneF;rw [if_neg (by decide),if_neg (by decide),if_neg (by decide),if_neg (by decide),if_neg (by decide),if_pos rfl,show min num 63=num from by omega];rfl,rfl⟩
 by_cases k10:k=10
 ·subst k10
  clear hnum k3 k4 k5 k6 k8 k9
  have hz:(Value.int .u64 0)=U 0:=rfl
  cases hs:sltW a 0 with
  | true=>
   have HE:=hid (show oneF 10 num a b=0 from by unfold oneF;rw [if_neg (by decide),if_neg (by decide),if_neg (by decide),if_neg (by decide),if_neg (by decide),if_neg (by decide),if_pos rfl,if_pos hs])
   have HS:=hid hs
   clear hs
   go_enter Tryz.func166,Tryz.ntmps166
   go_wp2_with (go_at_call 164;refine (HL.out a 0 _).mono ?_;rw [HS.out];rintro e w' ⟨rfl,rfl⟩)
   go_ret
   exact ⟨by rw [HE.out];rfl,rfl⟩
  | false=>
   have HE:=hid (show oneF 10 num a b=a from by unfold oneF;rw [if_neg (by decide),if_neg (by decide),if_neg (by decide),if_neg (by decide),if_neg (by decide),if_neg (by decide),if_pos rfl,if_neg (by rw [hs];decide)])
   have HS:=hid hs
   clear hs
   go_enter Tryz.func166,Tryz.ntmps166
   go_wp2_with (go_at_call 164;refine (HL.out a 0 _).mono ?_;rw [HS.out];rintro e w' ⟨rfl,rfl⟩)
   go_ret
   exact ⟨by rw [HE.out];rfl,rfl⟩
 ·have q3:(k==3)=false:=by rw [beq_eq_false_iff_ne];exact k3
  have q4:(k==4)=false:=by rw [beq_eq_false_iff_ne];exact k4
  have q5:(k==5)=false:=by rw [beq_eq_false_iff_ne];exact k5
  have q6:(k==6)=false:=by rw [beq_eq_false_iff_ne];exact k6
  have q8:(k==8)=false:=by rw [beq_eq_false_iff_ne];exact k8
  have q9:(k==9)=false:=by rw [beq_eq_false_iff_ne];exact k9
  have q10:(k==10)=false:=by rw [beq_eq_false_iff_ne];exact k10
  have HE:=hid (show oneF k num a b=if sltW a b then b else a from by unfold oneF;rw [if_neg k3,if_neg k4,if_neg k5,if_neg k6,if_neg k8,if_neg k9,if_neg k10])
  clear hnum k3 k4 k5 k6 k8 k9 k10
  cases hs:sltW a b with
  | true=>
   have HS:=hid hs
   clear hs
   go_enter Tryz.func166,Tryz.ntmps166
   go_wp2_with (go_at_call 164;refine (HL.out a b _).mono ?_;rw [HS.out];rintro e w' ⟨rfl,rfl⟩)
   go_ret
   exact ⟨by rw [HE.out,HS.out];rfl,rfl⟩
  | false=>
   have HS:=hid hs
   clear hs
   go_enter Tryz.func166,Tryz.ntmps166
   go_wp2_with (go_at_call 164;refine (HL.out a b _).mono ?_;rw [HS.out];rintro e w' ⟨rfl,rfl⟩)
   go_ret
   exact ⟨by rw [HE.out,HS.out];rfl,rfl⟩
end Go.Proofs.YtghlnncfigkkaaaGreatDoor
namespace Go.Proofs.YtghlnncfigkkaaaGreatDoor
set_option linter.unusedVariables false
set_option linter.unusedSimpArgs false
open Go.RowKit
def RdWs (w:World) (A:Option Addr) (xs:List (List UInt64)):Prop:=xs=[]∨∃ b o,A=some ⟨b,o,none⟩∧b<w.heap.size∧∀ (j:Nat) (l:List UInt64),xs[j]?=some l→∃ A' c,w.cell? ⟨b,o+j,none⟩=some (.slice A' l.length c)∧Rd w w.heap.size A' (l.map U)∧l.length≤1000000
theorem RdWs.at_ {w:World} {A:Option Addr} {xs:List (List UInt64)} (h:RdWs w A xs) {j:Nat} {l:List UInt64} (hj:xs[j]?=some l):∃ b o A' c,A=some ⟨b,o,none⟩∧b<w.heap.size∧w.cell? ⟨b,o+j,none⟩=some (.slice A' l.length c)∧Rd w w.heap.size A' (l.map U)∧l.length≤1000000:=by
 rcases h with h | ⟨b,o,hA,hlt,hc⟩
 ·rw [h] at hj;simp at hj
 ·obtain ⟨A',c,h1,h2,h3⟩:=hc j l hj
  exact ⟨b,o,A',c,hA,hlt,h1,h2,h3⟩
theorem RdSh.at_ {w:World} {A:Option Addr} {xs:List (List Int)} (h:RdSh w A xs) {j:Nat} {l:List Int} (hj:xs[j]?=some l):∃ b o A' c,A=some ⟨b,o,none⟩∧b<w.heap.size∧w.cell? ⟨b,o+j,none⟩=some (.slice A' l.length c)∧Rd w w.heap.size A' (l.map VI)∧l.length≤1000000:=by
 rcases h with h | ⟨b,o,hA,hlt,hc⟩
 ·rw [h] at hj;simp at hj
 ·obtain ⟨A',c,h1,h2,h3⟩:=hc j l hj
  exact ⟨b,o,A',c,hA,hlt,h1,h2,h3⟩
def ZbU (w:World) (L:List UInt64) (e:Ending) (w':World):Prop:=Below w.heap.size w w'∧∃ A c,e=.returned (.slice A L.length c)∧Own w' w.heap.size 39 A c (L.map U)
theorem Zl3 {w W W':World} {b o p:Nat} {v v':Value} (h:W.cell? ⟨b,o,none⟩=some v∧W.cell? ⟨b,p,none⟩=some v'∧b<W.heap.size∧Below w.heap.size w W) (hb:Below W.heap.size W W'):W'.cell? ⟨b,o,none⟩=some v∧W'.cell? ⟨b,p,none⟩=some v'∧b<W'.heap.size∧Below w.heap.size w W':=
 ⟨(hb.cell (p:=⟨b,o,none⟩) h.2.2.1).trans h.1,(hb.cell (p:=⟨b,p,none⟩) h.2.2.1).trans h.2.1,Nat.lt_of_lt_of_le h.2.2.1 hb.size,bnext h.2.2.2 hb⟩
theorem ZmT (num:Nat) (size:Int) (x y:TN) (XA SA:Option Addr) (xc sc:Nat) (m k n:Nat) (w:World) (hX:RdWs w XA [x.el,y.el]) (hS:RdSh w SA [x.sh,y.sh])
  (hm1:1≤m) (hm:m≤32) (hk1:1≤k) (hk:k≤32) (hn1:1≤n) (hn:n≤32) (hx:x.el.length=m*k) (hy:y.el.length=k*n) (hsh:y.sh.headD 0=(k:Int)) (hne:y.sh≠[]) (d1:x.el.length / k=m) (d2:y.el.length / k=n):
  Calls Tryz.prog 106 #[.int .i64 7,.int .u64 (num:Int),.int .i64 size,.slice XA 2 xc,.slice SA 2 sc] w (ZbU w (matW x.el y.el m k n)):=by
 obtain ⟨b,o,A1,c1,rfl,hb,e0,r0,_⟩:=hX.at_ (j:=0) (l:=x.el) rfl
 obtain ⟨b',o',A2,c2,he,_,e1,r1,_⟩:=hX.at_ (j:=1) (l:=y.el) rfl
 injection he with he
 injection he with he1 he2 _
 subst he1 he2
 obtain ⟨bs,os,A3,c3,rfl,hbs,s1,t1,_⟩:=hS.at_ (j:=1) (l:=y.sh) rfl
 have hys:y.sh[0]?=some (k:Int):=by
  cases h:y.sh with
  | nil=>exact absurd h hne
  | cons a r=>rw [h] at hsh;simpa using hsh
 obtain ⟨b3,o3,rfl,hb3,q0⟩:=t1.at_ (show (y.sh.map VI)[0]?=some (VI (k:Int)) by rw [List.getElem?_map,hys];rfl)
 have q0':w.cell? ⟨b3,o3,none⟩=some (.int .i64 (k:Int)):=q0
 obtain ⟨n2,h2⟩:∃ n2,n2=x.el.length:=⟨_,rfl⟩
 obtain ⟨n4,h4⟩:∃ n4,n4=y.el.length:=⟨_,rfl⟩
 obtain ⟨n3,h3⟩:∃ n3,n3=y.sh.length:=⟨_,rfl⟩
 have hn3:(0:Int)<(n3:Int):=by
  have:=(List.getElem?_eq_some_iff.1 hys).1
  omega
 have hmk:m*k≤1024:=Nat.mul_le_mul hm hk
 have hkn:k*n≤1024:=Nat.mul_le_mul hk hn
 have hmn:m*n≤1024:=Nat.mul_le_mul hm hn
 have HM:=hid (fun W (hW:Below w.heap.size w W)=>Zl1 A1 A2 c1 c2 x.el y.el m k n W hm1 (by omega) hk1 (by omega) hn1 (by omega) hx hy (r0.next hW) (r1.next hW))
 have HLen:=hid (ZaV x.el y.el m k n)
 rw [←h2] at e0 d1 hx HM
 rw [←h4] at e1 d2 hy HM
 rw [←h3] at s1
 rw [Nat.add_zero] at e0
 have v1:(n2:Int) / (k:Int)=(m:Int):=by rw [←d1];exact (Int.natCast_ediv _ _).symm
 have v2:(n4:Int) / (k:Int)=(n:Int):=by rw [←d2];exact (Int.natCast_ediv _ _).symm
 have k0:((k:Int)==0)=false:=by rw [beq_eq_false_iff_ne];omega
 have hw1:IntKind.i64.wrap ((n2:Int) / (k:Int))=(m:Int):=by rw [v1];exact ZaE (by omega) (by omega)
 have hw2:IntKind.i64.wrap ((n4:Int) / (k:Int))=(n:Int):=by rw [v2];exact ZaE (by omega) (by omega)
 have kz:¬ k=0:=by omega
 have S0:=hid (show w.drew.cell? ⟨b,o,none⟩=some (.slice A1 n2 c1)∧w.drew.cell? ⟨b,o+1,none⟩=some (.slice A2 n4 c2)∧b<w.drew.heap.size∧Below w.heap.size w w.drew from ⟨e0,e1,hb,(Below.refl _ _).drew⟩)
 clear hX hS r0 r1 t1 q0 hys hsh hne d1 d2 hx hy h2 h3 h4 v1 v2 hb hbs hb3 hmk hkn hmn
 go_enter Tryz.func106,Tryz.ntmps106
 go_wp2_with fail
 go_region_held3 (fun w'=>w'.cell? ⟨b,o,none⟩=some (.slice A1 n2 c1)∧w'.cell? ⟨b,o+1,none⟩=some (.slice A2 n4 c2)∧b<w'.heap.size∧Below w.heap.size w w') (first | with_reducible exact S0.out | assumption | exact Zl3 (by assumption) (by assumption))
  (first | (go_at_call 163;refine (HM.out _ ?_).mono ?_;(apply And.right;apply And.right;apply And.right;assumption);rintro e w4 ⟨A4,c4,rfl,o4,b4⟩))
 all_goals
  go_wp2
  go_ret
  exact ⟨bnext (Below.refl _ _).drew b4,A4,c4,by rw [HLen.out];rfl,o4⟩
theorem ZjH (l:List UInt64) {k:Nat} (h:k<l.length):(l.take (k+1)).foldl addW 0=addW ((l.take k).foldl addW 0) (nthW l k):=by
 rw [List.take_succ_eq_append_getElem h,List.foldl_append]
 show addW _ _=_
 rw [Zbo,List.getD_eq_getElem?_getD,List.getElem?_eq_getElem h]
 rfl
attribute [local go_sem ↓] Zcg ZcU ZdV ZcT
theorem Zl4 (num:Nat) (size:Int) (x:TN) (XA:Option Addr) (xc:Nat) (SV:Value) (w:World) (hX:RdWs w XA [x.el]):
  Calls Tryz.prog 106 #[.int .i64 11,.int .u64 (num:Int),.int .i64 size,.slice XA 1 xc,SV] w (ZbU w [x.el.foldl addW 0]):=by
 obtain ⟨b,o,A1,c1,rfl,hb,e0,r0,hl⟩:=hX.at_ (j:=0) (l:=x.el) rfl
 obtain ⟨n,hn⟩:∃ n,n=x.el.length:=⟨_,rfl⟩
 rw [←hn] at e0 hl
 rw [Nat.add_zero] at e0
 have HN:=hid hn
 have HR:=hid r0
 clear hX r0 hn hb
 go_enter Tryz.func106,Tryz.ntmps106
 go_wp2
 go_loop [12,52] (fun sv iv=>∃ i:Nat,i≤n∧iv=.int .i64 i∧sv=U ((x.el.take i).foldl addW 0)) (fun _ iv=>n-(intOf iv).toNat)
 case atStart=>exact ⟨0,by omega,rfl,rfl⟩
 case round=>
  obtain ⟨i,hi,rfl,rfl⟩:=hrel
  by_cases hlt:i<n
  ·obtain ⟨bx,ox,rfl,hbx,cx⟩:=HR.out.word (k:=i) (by rw [←HN.out];exact hlt)
   have HF:=hid (ZjH x.el (k:=i) (by rw [←HN.out];exact hlt))
   have i0:(0:Int)≤(i:Int):=by omega
   have i1:(i:Int)<(n:Int):=by omega
   clear hbx
   go_wp2
   go_round
   case rel=>exact ⟨i+1,by omega,by go_num,by rw [HF.out]⟩
   case measure=>simp [intOf];omega
  ·obtain rfl:i=n:=by omega
   have HT:=hid (show x.el.take i=x.el from by rw [HN.out,List.take_length])
   go_wp2
   go_ret
   refine ⟨(Below.refl _ _).alloc (Nat.le_refl _) _,some ⟨w.heap.size,0,none⟩,1,rfl,?_⟩
   have:=Own.full w 39 [U ((x.el.take i).foldl addW 0)] (Nat.le_refl _) (by simp [maxLen])
   rw [HT.out] at this ⊢
   exact this
theorem Zl5 (num:Nat) (size:Int) (x:TN) (XA:Option Addr) (xc:Nat) (SV:Value) (w:World) (hX:RdWs w XA [x.el]) (h1:1≤x.el.length) (h2:x.el.length≤1000):
  Calls Tryz.prog 106 #[.int .i64 12,.int .u64 (num:Int),.int .i64 size,.slice XA 1 xc,SV] w (ZbU w [UInt64.ofNat (argP x.el)]):=by
 obtain ⟨bb,oo,A1,c1,rfl,hb,e0,r0,hl⟩:=hX.at_ (j:=0) (l:=x.el) rfl
 obtain ⟨n,hn⟩:∃ n,n=x.el.length:=⟨_,rfl⟩
 rw [←hn] at e0 hl h1 h2
 rw [Nat.add_zero] at e0
 have HN:=hid hn
 have HR0:=hid r0
 clear hX r0 hn hb
 go_enter Tryz.func106,Tryz.ntmps106
 go_wp2
 go_loopw [14,72] (fun bv iv wr=>(∃ i b:Nat,i≤n∧b<n∧iv=.int .i64 i∧bv=.int .i64 b∧argP x.el=argGo x.el (n-i) b)∧∃ q,wr=w.drewN q) (fun _ iv _=>n-(intOf iv).toNat)
 case atStart=>exact ⟨⟨0,0,by omega,by omega,rfl,rfl,by rw [HN.out];rfl⟩,0,rfl⟩
 case round=>
  obtain ⟨⟨i,b,hi,hb,rfl,rfl,hr⟩,q,hq⟩:=hrel
  have HR:=hid hr
  have HQ:=hid hq
  have HL:=hid (show Rd wr w.heap.size A1 (x.el.map U) from by rw [hq];exact HR0.out.drewN q)
  have e1:wr.cell? ⟨bb,oo,none⟩=some (.slice A1 n c1):=by rw [hq];exact e0
  clear hr hq
  by_cases hlt:i<n
  ·obtain ⟨bx,ox,rfl,hbx,cx⟩:=HL.out.word (k:=b) (by rw [←HN.out];exact hb)
   obtain ⟨by_,oy,e2,hby,cy⟩:=HL.out.word (k:=i) (by rw [←HN.out];exact hlt)
   injection e2 with e2
   injection e2 with e2 e3 _
   subst e2 e3
   have i0:(0:Int)≤(i:Int):=by omega
   have i1:(i:Int)<(n:Int):=by omega
   have b0:(0:Int)≤(b:Int):=by omega
   have b1:(b:Int)<(n:Int):=by omega
   have hstep:=Zew x.el (i:=i) (by rw [←HN.out];exact hlt) b
   rw [←HN.out] at hstep
   have HC:=hid (fun W=>ZfU (nthW x.el b) (nthW x.el i) W)
   cases hs:sltW (nthW x.el b) (nthW x.el i) with
   | true=>
    rw [hs,if_pos rfl] at hstep
    have HX:=hid (HR.out.trans hstep)
    rw [hs] at HC
    clear hs hstep
    go_wp2_with fail
    go_quiet ((go_at_call 164;exact Calls.quiet_of_same (Zav (HC.out _))))
    go_wp2
    exact ⟨⟨⟨i+1,i,by omega,by omega,rfl,rfl,HX.out⟩,_,by rw [HQ.out];exact World.drewN_drewN _ _ _⟩,by simp [intOf];omega⟩
   | false=>
    rw [hs,if_neg (by decide)] at hstep
    have HX:=hid (HR.out.trans hstep)
    rw [hs] at HC
    clear hs hstep
    go_wp2_with fail
    go_quiet ((go_at_call 164;exact Calls.quiet_of_same (Zav (HC.out _))))
    go_wp2
    exact ⟨⟨⟨i+1,b,by omega,hb,rfl,rfl,HX.out⟩,_,by rw [HQ.out];exact World.drewN_drewN _ _ _⟩,by simp [intOf];omega⟩
  ·obtain rfl:n=i:=by omega
   have hw:=ZgZ (n:=b) (by omega)
   have HX:=hid (show argP x.el=b from by
    rw [HR.out,Nat.sub_self]
    rfl)
   have HY:=hid (ZdJ (n:=b) (by omega))
   go_wp2
   go_ret
   rw [HX.out]
   have hbw:Below w.heap.size w wr:=by rw [HQ.out];exact Zaa (Below.refl _ _) _
   refine ⟨hbw.alloc hbw.size _,some ⟨wr.heap.size,0,none⟩,1,rfl,?_⟩
   have:=Own.full wr 39 (base:=w.heap.size) [U (UInt64.ofNat b)] hbw.size (by simp [maxLen])
   unfold U at this
   rw [HY.out] at this
   simp only [List.map_cons,List.map_nil]
   unfold U
   rw [HY.out]
   exact this
theorem Zfj (f:Nat→UInt64) (i:Nat):(List.range (i+1)).map f=(List.range i).map f++[f i]:=by rw [List.range_succ,List.map_append];rfl
theorem Zl6 (num:Nat) (size:Nat) (x y z:TN) (XA:Option Addr) (xc:Nat) (SV:Value) (w:World) (hX:RdWs w XA [x.el,y.el,z.el]) (hsz:size≤1000) (h1:x.el.length=1∨x.el.length=size) (h2:y.el.length=1∨y.el.length=size) (h3:z.el.length=1∨z.el.length=size):
  Calls Tryz.prog 106 #[.int .i64 14,.int .u64 (num:Int),.int .i64 (size:Int),.slice XA 3 xc,SV] w (ZbU w ((List.range size).map fun i=>if andW (atL x.el i) 1=1 then atL y.el i else atL z.el i)):=by
 obtain ⟨b,o,A1,c1,rfl,hb,e0,r0,l0⟩:=hX.at_ (j:=0) (l:=x.el) rfl
 obtain ⟨b',o',A2,c2,he,_,e1,r1,l1⟩:=hX.at_ (j:=1) (l:=y.el) rfl
 injection he with he
 injection he with he1 he2 _
 subst he1 he2
 obtain ⟨b',o',A3,c3,he,_,e2,r2,l2⟩:=hX.at_ (j:=2) (l:=z.el) rfl
 injection he with he
 injection he with he1 he2 _
 subst he1 he2
 obtain ⟨n1,g1⟩:∃ n1,n1=x.el.length:=⟨_,rfl⟩
 obtain ⟨n2,g2⟩:∃ n2,n2=y.el.length:=⟨_,rfl⟩
 obtain ⟨n3,g3⟩:∃ n3,n3=z.el.length:=⟨_,rfl⟩
 rw [←g1] at e0 h1 l0
 rw [←g2] at e1 h2 l1
 rw [←g3] at e2 h3 l2
 rw [Nat.add_zero] at e0
 obtain ⟨F,hF⟩:∃ F:Nat→UInt64,F=fun i=>if andW (atL x.el i) 1=1 then atL y.el i else atL z.el i:=⟨_,rfl⟩
 rw [←hF]
 have HF:=hid hF
 have HC1:=hid (fun (i:Nat) (hi:i<size) W (hW:Below w.heap.size w W)=>Zeb A1 n1 c1 i x.el W g1 (by omega) (by omega) (r0.next hW))
 have HC2:=hid (fun (i:Nat) (hi:i<size) W (hW:Below w.heap.size w W)=>Zeb A2 n2 c2 i y.el W g2 (by omega) (by omega) (r1.next hW))
 have HC3:=hid (fun (i:Nat) (hi:i<size) W (hW:Below w.heap.size w W)=>Zeb A3 n3 c3 i z.el W g3 (by omega) (by omega) (r2.next hW))
 have HE:=hid (fun W (hW:Below w.heap.size w W)=>show W.cell? ⟨b,o,none⟩=some (.slice A1 n1 c1)∧W.cell? ⟨b,o+1,none⟩=some (.slice A2 n2 c2)∧W.cell? ⟨b,o+2,none⟩=some (.slice A3 n3 c3) from ⟨(hW.cell (p:=⟨b,o,none⟩) hb).trans e0,(hW.cell (p:=⟨b,o+1,none⟩) hb).trans e1,(hW.cell (p:=⟨b,o+2,none⟩) hb).trans e2⟩)
 clear hX r0 r1 r2 hb hF g1 g2 g3 h1 h2 h3 l0 l1 l2 e0 e1 e2
 go_enter Tryz.func106,Tryz.ntmps106
 go_wp2
 go_loopw [16,17] (fun ov iv wr=>∃ (i:Nat) (A':Option Addr) (c':Nat),i≤size∧iv=.int .i64 i∧ov=.slice A' i c'∧Own wr w.heap.size 39 A' c' (((List.range i).map F).map U)∧Below w.heap.size w wr) (fun _ iv _=>size-(intOf iv).toNat)
 case atStart=>exact ⟨0,none,0,by omega,rfl,rfl,Own.nil _ _ _,Below.refl _ _⟩
 case round=>
  obtain ⟨i,A',c',hi,rfl,rfl,hO,hb⟩:=hrel
  have HO:=hid hO
  have HB:=hid hb
  obtain ⟨e0,e1,e2⟩:=HE.out _ hb
  clear hO hb
  by_cases hlt:i<size
  ·have HK1:=hid (HC1.out i hlt)
   have HK2:=hid (HC2.out i hlt)
   have HK3:=hid (HC3.out i hlt)
   by_cases hm:andW (atL x.el i) 1=1
   ·have hmb:(andW (atL x.el i) 1==1)=true:=by rw [beq_iff_eq];exact hm
    have HFI:=hid (show F i=atL y.el i from by rw [HF.out];dsimp only;rw [if_pos hm])
    clear hm
    go_wp2_with (first
     | (go_at_call 165;(with_reducible show Calls Tryz.prog 165 #[Value.slice A1 n1 c1,Value.int IntKind.i64 (i:Int)] _ _);refine (HK1.out _ HB.out).mono ?_;rintro e w' ⟨rfl,rfl⟩)
     | (go_at_call 165;(with_reducible show Calls Tryz.prog 165 #[Value.slice A2 n2 c2,Value.int IntKind.i64 (i:Int)] _ _);refine (HK2.out _ HB.out).mono ?_;rintro e w' ⟨rfl,rfl⟩)
     | (at_builtin;(refine app64 rfl (.tmp 108) (.tmp 114) rfl w.heap.size A' c' ((List.range i).map F) i (by simp) rfl (HO.out.alloc _) (some ⟨wr.heap.size,0,none⟩) 1 1 (wr.heap.size+1) [atL y.el i] rfl rfl (ZbC _ _) (fun h=>by cases h) (by omega) (by have:=HB.out.size;simp;omega) ?_);intro A9 k9 w9 o9 g9 h9;have O9:=hid o9;have B9:=hid ((HB.out.alloc HB.out.size _).grown g9 (by have:=HB.out.size;simp;omega) (fun k hk=>(HO.out.lt k hk).1));clear o9 g9 h9))
    exact ⟨⟨i+1,A9,k9,by omega,by go_num,rfl,by rw [Zfj,HFI.out];exact O9.out,B9.out⟩,by simp [intOf];omega⟩
   ·have hmb:(andW (atL x.el i) 1==1)=false:=by rw [beq_eq_false_iff_ne];exact hm
    have HFI:=hid (show F i=atL z.el i from by rw [HF.out];dsimp only;rw [if_neg hm])
    clear hm
    go_wp2_with (first
     | (go_at_call 165;(with_reducible show Calls Tryz.prog 165 #[Value.slice A1 n1 c1,Value.int IntKind.i64 (i:Int)] _ _);refine (HK1.out _ HB.out).mono ?_;rintro e w' ⟨rfl,rfl⟩)
     | (go_at_call 165;(with_reducible show Calls Tryz.prog 165 #[Value.slice A3 n3 c3,Value.int IntKind.i64 (i:Int)] _ _);refine (HK3.out _ HB.out).mono ?_;rintro e w' ⟨rfl,rfl⟩)
     | (at_builtin;(refine app64 rfl (.tmp 116) (.tmp 122) rfl w.heap.size A' c' ((List.range i).map F) i (by simp) rfl (HO.out.alloc _) (some ⟨wr.heap.size,0,none⟩) 1 1 (wr.heap.size+1) [atL z.el i] rfl rfl (ZbC _ _) (fun h=>by cases h) (by omega) (by have:=HB.out.size;simp;omega) ?_);intro A9 k9 w9 o9 g9 h9;have O9:=hid o9;have B9:=hid ((HB.out.alloc HB.out.size _).grown g9 (by have:=HB.out.size;simp;omega) (fun k hk=>(HO.out.lt k hk).1));clear o9 g9 h9))
    exact ⟨⟨i+1,A9,k9,by omega,by go_num,rfl,by rw [Zfj,HFI.out];exact O9.out,B9.out⟩,by simp [intOf];omega⟩
  ·obtain rfl:i=size:=by omega
   go_wp2
   go_ret
   exact ⟨HB.out,A',c',by simp,HO.out⟩
def KeepE (w:World) (b o p:Nat) (v v':Value) (W:World):Prop:=W.cell? ⟨b,o,none⟩=some v∧W.cell? ⟨b,p,none⟩=some v'∧b<w.heap.size∧Below w.heap.size w W
theorem KeepE.next {w W W':World} {b o p:Nat} {v v':Value} (h:KeepE w b o p v v' W) (hb:Below w.heap.size W W'):KeepE w b o p v v' W':=
 ⟨(hb.cell (p:=⟨b,o,none⟩) h.2.2.1).trans h.1,(hb.cell (p:=⟨b,p,none⟩) h.2.2.1).trans h.2.1,h.2.2.1,h.2.2.2.trans hb⟩
theorem ZgB {w W:World} {b o p:Nat} {v v':Value} (h:W.cell? ⟨b,o,none⟩=some v∧W.cell? ⟨b,p,none⟩=some v'∧b<w.heap.size∧Below w.heap.size w W) (x:Obj):(W.alloc x).cell? ⟨b,o,none⟩=some v∧(W.alloc x).cell? ⟨b,p,none⟩=some v'∧b<w.heap.size∧Below w.heap.size w (W.alloc x):=
 KeepE.next h ((Below.refl _ _).alloc h.2.2.2.size _)
theorem ZgC {w W W':World} {b o p:Nat} {v v':Value} {A:Option Addr} (h:W.cell? ⟨b,o,none⟩=some v∧W.cell? ⟨b,p,none⟩=some v'∧b<w.heap.size∧Below w.heap.size w W) (hg:W.grownBy W' (blk A)) (hA:∀ k,blk A=some k→w.heap.size≤k):W'.cell? ⟨b,o,none⟩=some v∧W'.cell? ⟨b,p,none⟩=some v'∧b<w.heap.size∧Below w.heap.size w W':=
 KeepE.next h ((Below.refl _ _).grown hg h.2.2.2.size hA)
theorem Zfk (k:Int) (num:Nat) (size ne ln:Nat) (x z:TN) (xs:List (List UInt64)) (XA:Option Addr) (xc:Nat) (SV:Value) (w:World) (hX:RdWs w XA xs) (hx0:xs[0]?=some x.el) (hxl:xs[ln]?=some z.el) (hne:ne=ln+1) (hln:ln≤2) (hnum:k=9→num≤63)
  (k7:k≠7) (k11:k≠11) (k12:k≠12) (k14:k≠14) (hsz:size≤1000) (h1:x.el.length=1∨x.el.length=size) (h2:z.el.length=1∨z.el.length=size):
  Calls Tryz.prog 106 #[.int .i64 k,.int .u64 (num:Int),.int .i64 (size:Int),.slice XA ne xc,SV] w (ZbU w ((List.range size).map fun i=>oneF k num (atL x.el i) (atL z.el i))):=by
 obtain ⟨b,o,A1,c1,rfl,hb,e0,r0,l0⟩:=hX.at_ hx0
 obtain ⟨b',o',A2,c2,he,_,e1,r1,l1⟩:=hX.at_ hxl
 injection he with he
 injection he with he1 he2 _
 subst he1 he2
 obtain ⟨n1,g1⟩:∃ n1,n1=x.el.length:=⟨_,rfl⟩
 obtain ⟨n2,g2⟩:∃ n2,n2=z.el.length:=⟨_,rfl⟩
 rw [←g1] at e0 h1 l0
 rw [←g2] at e1 h2 l1
 rw [Nat.add_zero] at e0
 obtain ⟨F,hF⟩:∃ F:Nat→UInt64,F=fun i=>oneF k num (atL x.el i) (atL z.el i):=⟨_,rfl⟩
 rw [←hF]
 have HF:=hid hF
 have HC1:=hid (fun (i:Nat) (hi:i<size) W (hW:Below w.heap.size w W)=>Zeb A1 n1 c1 i x.el W g1 (by omega) (by omega) (r0.next hW))
 have HC2:=hid (fun (i:Nat) (hi:i<size) W (hW:Below w.heap.size w W)=>Zeb A2 n2 c2 i z.el W g2 (by omega) (by omega) (r1.next hW))
 have HE:=hid (fun W (hW:Below w.heap.size w W)=>show W.cell? ⟨b,o,none⟩=some (.slice A1 n1 c1)∧W.cell? ⟨b,o+ln,none⟩=some (.slice A2 n2 c2) from ⟨(hW.cell (p:=⟨b,o,none⟩) hb).trans e0,(hW.cell (p:=⟨b,o+ln,none⟩) hb).trans e1⟩)
 have HON:=hid (fun a b W=>Zl2 k num a b W hnum)
 have q7:(k==7)=false:=by rw [beq_eq_false_iff_ne];exact k7
 have q11:(k==11)=false:=by rw [beq_eq_false_iff_ne];exact k11
 have q12:(k==12)=false:=by rw [beq_eq_false_iff_ne];exact k12
 have q14:(k==14)=false:=by rw [beq_eq_false_iff_ne];exact k14
 have hwn:IntKind.i64.wrap ((ne:Int)-1)=(ln:Int):=by rw [IntKind.wrap_i64];omega
 have z0:(0:Int)≤(ln:Int):=by omega
 have z1:(ln:Int)<(ne:Int):=by omega
 have z2:(0:Int)<(ne:Int):=by omega
 have z3:0<ne:=by omega
 have HBL:=hid hb
 clear hX r0 r1 hb hF g1 g2 h1 h2 l0 l1 e0 e1 k7 k11 k12 k14 hnum hx0 hxl hne
 go_enter Tryz.func106,Tryz.ntmps106
 go_wp2
 go_loopw [16,17] (fun ov iv wr=>∃ (i:Nat) (A':Option Addr) (c':Nat),i≤size∧iv=.int .i64 i∧ov=.slice A' i c'∧Own wr w.heap.size 39 A' c' (((List.range i).map F).map U)∧Below w.heap.size w wr) (fun _ iv _=>size-(intOf iv).toNat)
 case atStart=>exact ⟨0,none,0,by omega,rfl,rfl,Own.nil _ _ _,Below.refl _ _⟩
 case round=>
  obtain ⟨i,A',c',hi,rfl,rfl,hO,hb⟩:=hrel
  obtain ⟨v0,rfl⟩:∃ v0:World,v0=wr:=⟨_,rfl⟩
  have HO:=hid hO
  have HB:=hid hb
  obtain ⟨e0,e1⟩:=HE.out _ hb
  clear hO hb
  by_cases hlt:i<size
  ·have HK1:=hid (HC1.out i hlt)
   have HK2:=hid (HC2.out i hlt)
   have HFI:=hid (show F i=oneF k num (atL x.el i) (atL z.el i) from by rw [HF.out])
   have S0:=hid (show v0.drew.cell? ⟨b,o,none⟩=some (.slice A1 n1 c1)∧v0.drew.cell? ⟨b,o+ln,none⟩=some (.slice A2 n2 c2)∧b<w.heap.size∧Below w.heap.size w v0.drew from ⟨e0,e1,HBL.out,HB.out.drew⟩)
   have HA':=hid (fun k (hk:blk A'=some k)=>(HO.out.lt k hk).1)
   clear e0 e1
   go_wp2_with fail
   go_region_held3 (fun w'=>w'.cell? ⟨b,o,none⟩=some (.slice A1 n1 c1)∧w'.cell? ⟨b,o+ln,none⟩=some (.slice A2 n2 c2)∧b<w.heap.size∧Below w.heap.size w w') (first | with_reducible exact S0.out | assumption | exact ZgB (by assumption) _ | exact ZgC (by assumption) (by assumption) HA'.out)
    (first
     | (go_at_call 165;(with_reducible show Calls Tryz.prog 165 #[Value.slice A1 n1 c1,Value.int IntKind.i64 (i:Int)] _ _);refine (HK1.out _ (And.right (And.right (And.right (by assumption))))).mono ?_;rintro e w' ⟨rfl,rfl⟩)
     | (go_at_call 165;(with_reducible show Calls Tryz.prog 165 #[Value.slice A2 n2 c2,Value.int IntKind.i64 (i:Int)] _ _);refine (HK2.out _ (And.right (And.right (And.right (by assumption))))).mono ?_;rintro e w' ⟨rfl,rfl⟩)
     | (go_at_call 166;refine (HON.out _ _ _).mono ?_;rintro e w' ⟨rfl,rfl⟩)
     | (refine Zhw rfl (.tmp 124) (.tmp 141) rfl w.heap.size A' c' ((List.range i).map F) i (by simp) rfl (Own.alloc (w:=v0.drew) HO.out _) (some ⟨v0.heap.size,0,none⟩) 1 1 (v0.heap.size+1) [oneF k num (atL x.el i) (atL z.el i)] rfl rfl (ZbC v0.drew _) (fun h=>by cases h) (by omega) (by have:=HB.out.size;simp;omega) ?_;intro A9 k9 w9 o9 g9 h9))
   all_goals
    have hS:w9.cell? ⟨b,o,none⟩=some (.slice A1 n1 c1)∧w9.cell? ⟨b,o+ln,none⟩=some (.slice A2 n2 c2)∧b<w.heap.size∧Below w.heap.size w w9:=by assumption
    have B9:=hid hS.2.2.2
    have O9:=hid o9
    clear hS o9 g9 h9
    go_wp2
    exact ⟨⟨i+1,A9,k9,by omega,by go_num,rfl,by rw [Zfj,HFI.out];exact O9.out,B9.out⟩,by simp [intOf];omega⟩
  ·obtain rfl:i=size:=by omega
   go_wp2
   go_ret
   exact ⟨HB.out,A',c',by simp,HO.out⟩
end Go.Proofs.YtghlnncfigkkaaaGreatDoor
namespace Go.Proofs.YtghlnncfigkkaaaGreatDoor
set_option linter.unusedVariables false
set_option linter.unusedSimpArgs false
open Go.RowKit
def nm3C (p:ByteArray × Value × Value):List Value:=[.string p.1,p.2.1,p.2.2]
def nm3A (p:ByteArray × Value × Value):ByteArray × Value:=(p.1,.agg #[p.2.1,p.2.2])
def RdNt (w:World) (A:Option Addr) (nv:List (ByteArray × Value × Value)):Prop:=Rd w w.heap.size A (nv.flatMap nm3C)
theorem RdNt.at_ {w:World} {A:Option Addr} {nv:List (ByteArray × Value × Value)} (h:RdNt w A nv) {i:Nat} {p:ByteArray × Value × Value} (hi:nv[i]?=some p):∃ b o,A=some ⟨b,o,none⟩∧b<w.heap.size∧w.cell? ⟨b,o+i*3,none⟩=some (.string p.1)∧w.cell? ⟨b,o+i*3+1,none⟩=some p.2.1∧w.cell? ⟨b,o+i*3+2,none⟩=some p.2.2:=by
 have h0:=Zaq nm3C 3 (fun _=>rfl) nv i 0 p hi (by omega)
 have h1:=Zaq nm3C 3 (fun _=>rfl) nv i 1 p hi (by omega)
 have h2:=Zaq nm3C 3 (fun _=>rfl) nv i 2 p hi (by omega)
 rcases h with h | ⟨b,o,hA,hb,hc⟩
 ·rw [h] at h0
  simp [nm3C] at h0
 ·exact ⟨b,o,hA,hb,hc _ _ h0,hc _ _ h1,hc _ _ h2⟩
theorem ZeE (X:Nat→Prop) (A:Option Addr) (n c:Nat) (nv:List (ByteArray × Value × Value)) (names:Zah) (s:ByteArray) (w:World) (hn:n=nv.length) (hl:n≤1000000) (h:RdNt w A nv) (hN:NamT X w (nv.map nm3A) names) (hs:(findN (shN names) s).isSome=true):
  Calls Tryz.prog 63 #[.slice A n c,.string s] w fun e w'=>Below w.heap.size w w'∧∃ sv ev,e=.returned (.agg #[sv,ev])∧TnV X w' sv ev (findT names s):=by
 obtain ⟨sv,ev,f1,f3⟩:∃ sv ev,findV (nv.map nm3A) s=some (.agg #[sv,ev])∧TnV X w sv ev (findT names s):=by
  rcases hN.find s with ⟨_,h2⟩ | ⟨sv,ev,h1,_,h3,_⟩
  ·rw [h2] at hs;cases hs
  ·exact ⟨sv,ev,h1,h3⟩
 have HN:=hid hn
 have H:=hid h
 have HF:=hid f1
 have HV:=hid f3
 clear hn h hN hs f1 f3
 obtain ⟨w2,hw2⟩:∃ w2,w2=w.alloc (.cells #[.slice none 0 0,.slice none 0 0] 43):=⟨_,rfl⟩
 have hb2:Below w.heap.size w w2:=by rw [hw2];exact (Below.refl _ _).alloc (Nat.le_refl _) _
 have HB2:=hid hb2
 have HW2:=hid hw2
 have H2:=hid (show RdNt w2 A nv from H.out.next hb2)
 have hE:w2.heap[w.heap.size]?=some (.cells #[.slice none 0 0,.slice none 0 0] 43 (0,0)):=by rw [hw2];exact heap_alloc_new w _
 have z0:=cell_of_row _ _ 0 _ _ _ hE
 have z1:=cell_of_row _ _ 1 _ _ _ hE
 have f0:w2.frozen? ⟨w.heap.size,0,none⟩=false:=by simp [World.frozen?,hE]
 have f1:w2.frozen? ⟨w.heap.size,1,none⟩=false:=by simp [World.frozen?,hE]
 have HE:=hid hE
 clear hw2 hb2 hE
 go_enter Tryz.func63,Tryz.ntmps63
 go_wp2
 rw [←HW2.out]
 go_loop [8] (fun iv=>∃ k:Nat,k≤n∧iv=.int .i64 k∧findV ((nv.map nm3A).drop k) s=some (.agg #[sv,ev])) (fun iv=>n-(intOf iv).toNat)
 case atStart=>exact ⟨0,by omega,rfl,HF.out⟩
 case round=>
  obtain ⟨k,hk,rfl,hr⟩:=hrel
  have HR:=hid hr
  clear hr
  by_cases hlt:k<n
  ·have ht:nv[k]?=some (nv[k]'(by rw [←HN.out];exact hlt)):=List.getElem?_eq_getElem _
   obtain ⟨d,hd⟩:∃ d,d=nv[k]'(by rw [←HN.out];exact hlt):=⟨_,rfl⟩
   rw [←hd] at ht
   obtain ⟨b,o,rfl,hbl,c0,c1,c2⟩:=H2.out.at_ ht
   have i0:(0:Int)≤(k:Int):=by omega
   have i1:(k:Int)<(n:Int):=by omega
   obtain ⟨dn,d1,d2⟩:=d
   have hD:=hid (show findV ((nv.map nm3A).drop k) s=if s==dn then some (.agg #[d1,d2]) else findV ((nv.map nm3A).drop (k+1)) s from by
    have ht':(nv.map nm3A)[k]?=some (dn,.agg #[d1,d2]):=by rw [List.getElem?_map,ht];rfl
    obtain ⟨hi,he⟩:=List.getElem?_eq_some_iff.1 ht'
    rw [List.drop_eq_getElem_cons hi,he]
    rfl)
   have HT:=hid ht
   dsimp only at c0 c1 c2
   clear ht hd hbl
   by_cases he:dn.toList=s.toList
   ·have q1:(dn.toList==s.toList)=true:=by rw [beq_iff_eq];exact he
    have hb:(s==dn)=true:=by rw [ZbG];exact decide_eq_true he.symm
    have HX:=hid (show Value.agg #[d1,d2]=.agg #[sv,ev] from by
     have:=HR.out
     rw [hD.out,hb,if_pos rfl] at this
     exact Option.some.inj this)
    clear hb he
    obtain ⟨rfl,rfl⟩:d1=sv∧d2=ev:=by
     have h:=HX.out
     injection h with h
     have h1:=congrArg (fun a=>a[0]?) h
     have h2:=congrArg (fun a=>a[1]?) h
     exact ⟨Option.some.inj h1,Option.some.inj h2⟩
    have HV2:=hid HV.out
    obtain ⟨⟨A1,k1,rfl,_⟩,A2,k2,rfl,_⟩:=HV.out
    clear HV
    go_wp2
    obtain ⟨W,hW⟩:∃ W,W=(w2.setCell ⟨w.heap.size,0,none⟩ (.slice A1 (findT names s).sh.length k1)).setCell ⟨w.heap.size,1,none⟩ (.slice A2 (findT names s).el.length k2):=⟨_,rfl⟩
    rw [←hW]
    have hWh:W.heap[w.heap.size]?=some (.cells #[.slice A1 (findT names s).sh.length k1,.slice A2 (findT names s).el.length k2] 43 (0,0)):=by rw [hW];simp [World.setCell,Array.getElem?_modify,HE.out]
    have hWb:Below w.heap.size w W:=by rw [hW];exact Zaf (Zaf HB2.out (Nat.le_refl _) _) (Nat.le_refl _) _
    have r0:W.cell? ⟨w.heap.size,0,none⟩=some (.slice A1 (findT names s).sh.length k1):=cell_of_row _ _ 0 _ _ _ hWh
    have r1:W.cell? ⟨w.heap.size,1,none⟩=some (.slice A2 (findT names s).el.length k2):=cell_of_row _ _ 1 _ _ _ hWh
    exact bodyPost_ret (v:=.agg #[.slice A1 (findT names s).sh.length k1,.slice A2 (findT names s).el.length k2]) (by simp [results,Tryz.results63,go_sem,r0,r1]) rfl ⟨hWb,_,_,rfl,HV2.out.next hWb⟩
   ·have q1:(dn.toList==s.toList)=false:=by rw [beq_eq_false_iff_ne];exact he
    have hb:(s==dn)=false:=by rw [ZbG];exact decide_eq_false fun h=>he h.symm
    have HX:=hid (show findV ((nv.map nm3A).drop (k+1)) s=some (.agg #[sv,ev]) from by
     have:=HR.out
     rw [hD.out,hb,if_neg (by decide)] at this
     exact this)
    clear hb he c1 c2
    go_wp2
    exact ⟨⟨k+1,by omega,rfl,HX.out⟩,by simp [intOf];omega⟩
  ·exfalso
   obtain rfl:n=k:=by omega
   have:=HR.out
   rw [HN.out,List.drop_eq_nil_of_le (by simp)] at this
   cases this
theorem Zhu (A A':Option Addr) (n m c c':Nat) (ws:List (List Int)) (ts:List TN) (w:World) (hn:n=ws.length) (hm:m=ts.length) (hl:n≤1000000) (hl':m≤1000000) (h:RdSh w A ws) (h':RdTN w w.heap.size A' ts):
  Calls Tryz.prog 60 #[.slice A n c,.slice A' m c'] w fun e w'=>e=.returned (.bool (fitT ws ts))∧Below w.heap.size w w':=by
 have HN:=hid hn
 have HM:=hid hm
 have H:=hid h
 have H':=hid h'
 clear h h' hn hm
 by_cases hnm:n=m
 ·subst hnm
  have q0':((n:Int) != (n:Int))=false:=by simp
  go_enter Tryz.func60,Tryz.ntmps60
  go_wp2
  go_loopw [13] (fun iv wr=>(∃ i:Nat,i≤n∧iv=.int .i64 i∧fitT ws ts=fitT (ws.drop i) (ts.drop i))∧Below w.heap.size w wr) (fun iv _=>n-(intOf iv).toNat)
  case atStart=>exact ⟨⟨0,by omega,rfl,rfl⟩,Below.refl _ _⟩
  case round=>
   obtain ⟨⟨i,hi,rfl,hr⟩,hb⟩:=hrel
   have HR:=hid hr
   have HB:=hid hb
   clear hr hb
   by_cases hlt:i<n
   ·have ht:ws[i]?=some (ws[i]'(by rw [←HN.out];exact hlt)):=List.getElem?_eq_getElem _
    obtain ⟨s,hs⟩:∃ d,d=ws[i]'(by rw [←HN.out];exact hlt):=⟨_,rfl⟩
    rw [←hs] at ht
    have ht':ts[i]?=some (ts[i]'(by rw [←HM.out];exact hlt)):=List.getElem?_eq_getElem _
    obtain ⟨t,htt⟩:∃ d,d=ts[i]'(by rw [←HM.out];exact hlt):=⟨_,rfl⟩
    rw [←htt] at ht'
    obtain ⟨bs,os,A1,k1,rfl,hbs,cs1,cs2,cs3⟩:=(H.out.next HB.out).at_ ht
    obtain ⟨bt,ot,rfl,hbt,⟨A2,k2,d0,d0r,d0n,-⟩,A3,k3,d1,d1r,d1n,-⟩:=(H'.out.next HB.out).at_ ht'
    have hD:=hid (Zf9 ht ht')
    obtain ⟨n1,hn1⟩:∃ n1,n1=s.length:=⟨_,rfl⟩
    obtain ⟨n2,hn2⟩:∃ n2,n2=t.sh.length:=⟨_,rfl⟩
    obtain ⟨n3,hn3⟩:∃ n3,n3=t.el.length:=⟨_,rfl⟩
    rw [←hn1] at cs1 cs3
    rw [←hn2] at d0 d0n
    rw [←hn3] at d1 d1n
    have HI:=hid (fun q=>Zba A1 A2 n1 n2 k1 k2 s t.sh (wr.drewN q) hn1 hn2 (by omega) d0n (cs2.drewN q) (d0r.drewN q))
    have HEL:=hid (fun q=>ZbE A1 n1 k1 s (wr.drewN q) hn1 (by omega) (cs2.drewN q))
    have HN3:=hid hn3
    have i0:(0:Int)≤(i:Int):=by omega
    have i1:(i:Int)<(n:Int):=by omega
    clear ht hs ht' htt hbs hbt cs2 d0r d1r hn1 hn2 hn3
    cases hq:(s==t.sh) with
    | false=>
     rw [hq] at HI
     have HX:=hid (show fitT ws ts=false from by rw [HR.out,hD.out];unfold fit1;rw [hq];rfl)
     clear hq
     go_wp2_with fail
     go_quiet (first
      | (go_at_call 49;exact Calls.quiet_of (HI.out _))
      | (go_at_call 58;exact Calls.quiet_of_same (Zav (HEL.out _))))
     go_wp2
     go_ret
     exact ⟨by rw [HX.out];rfl,Zaa HB.out _⟩
    | true=>
     rw [hq] at HI
     obtain ⟨k,hk⟩:∃ k,k=Zad s:=⟨_,rfl⟩
     have HX1:=hid (show fit1 s t=((n3:Int)==k) from by unfold fit1;rw [hq,hk,HN3.out];rfl)
     rw [←hk] at HEL
     clear hq hk
     cases he:((n3:Int)==k) with
     | false=>
      have hne:((n3:Int) != k)=true:=by unfold bne;rw [he];rfl
      have HX:=hid (show fitT ws ts=false from by rw [HR.out,hD.out,HX1.out,he];rfl)
      clear he
      go_wp2_with fail
      go_quiet (first
       | (go_at_call 49;exact Calls.quiet_of (HI.out _))
       | (go_at_call 58;exact Calls.quiet_of_same (Zav (HEL.out _))))
      go_wp2
      go_ret
      exact ⟨by rw [HX.out];rfl,Zaa HB.out _⟩
     | true=>
      have hne:((n3:Int) != k)=false:=by unfold bne;rw [he];rfl
      have HX:=hid (show fitT ws ts=fitT (ws.drop (i+1)) (ts.drop (i+1)) from by rw [HR.out,hD.out,HX1.out,he];rfl)
      clear he
      go_wp2_with fail
      go_quiet (first
       | (go_at_call 49;exact Calls.quiet_of (HI.out _))
       | (go_at_call 58;exact Calls.quiet_of_same (Zav (HEL.out _))))
      go_wp2
      exact ⟨⟨⟨i+1,by omega,rfl,HX.out⟩,Zaa HB.out _⟩,by simp [intOf];omega⟩
   ·obtain rfl:n=i:=by omega
    have HX:=hid (show fitT ws ts=true from by rw [HR.out,HN.out,List.drop_length,←HN.out,HM.out,List.drop_length];rfl)
    go_wp2
    go_ret
    exact ⟨by rw [HX.out];rfl,HB.out⟩
 ·have q1:((n:Int)==(m:Int))=false:=by rw [beq_eq_false_iff_ne];omega
  have q2:((n:Int) != (m:Int))=true:=by unfold bne;rw [q1];rfl
  have HX:=hid (show fitT ws ts=false from ZeV (by rw [←HN.out,←HM.out];exact hnm))
  clear hnm
  go_enter Tryz.func60,Tryz.ntmps60
  go_wp2
  go_ret
  exact ⟨by rw [HX.out];rfl,Below.refl _ _⟩
theorem ZfV {ss:List SI} {i:Nat} {s:SI} (h:ss[i]?=some s) (p:Int):Zae (ss.take (i+1)) p=Zae (ss.take i) p++(if s.kind==1&&s.party==p then [s.shape] else []):=by
 obtain ⟨hi,he⟩:=List.getElem?_eq_some_iff.1 h
 rw [List.take_succ_eq_append_getElem hi,he]
 unfold Zae
 rw [List.filter_append,List.map_append]
 congr 1
 by_cases hc:(s.kind==1&&s.party==p)=true
 ·rw [if_pos hc];simp [hc]
 ·rw [if_neg hc];simp [hc]
theorem ZgD (SA EA:Option Addr) (ns ne sc ec:Nat) (ss:List SI) (p:Int) (w:World) (hns:ns=ss.length) (hl:ns≤100000) (h:RdSI w w.heap.size SA ss) (hsm:∀ s∈ss,s.shape.length≤1000000):
  Calls Tryz.prog 61 #[.agg #[.slice SA ns sc,.slice EA ne ec],.int .i64 p] w fun e w'=>Below w.heap.size w w'∧∃ A n c,e=.returned (.slice A n c)∧n=(Zae ss p).length∧RdSh w' A (Zae ss p):=by
 obtain ⟨w2,hw2⟩:∃ w2,w2=w.alloc (.cells #[.slice SA ns sc,.slice EA ne ec] 26):=⟨_,rfl⟩
 have hb2:Below w.heap.size w w2:=by rw [hw2];exact (Below.refl _ _).alloc (Nat.le_refl _) _
 have hE:w2.heap[w.heap.size]?=some (.cells #[.slice SA ns sc,.slice EA ne ec] 26 (0,0)):=by rw [hw2];exact heap_alloc_new w _
 have HW2:=hid hw2
 have HB2:=hid hb2
 have HE:=hid (fun W (hW:Below w2.heap.size w2 W)=>(hW.block _ (Array.getElem?_eq_some_iff.1 hE).1).trans hE)
 have HN:=hid hns
 have H2:=hid (h.next hb2)
 have HSM:=hid hsm
 have e0:=cell_of_row _ _ 0 _ _ _ hE
 clear hw2 hb2 hE hns h hsm
 go_enter Tryz.func61,Tryz.ntmps61
 go_wp2_with fail
 rw [←HW2.out]
 go_wp2
 go_loopw [5,10] (fun ov iv wr=>∃ (i m:Nat) (A:Option Addr) (c:Nat) (vs:List Value),i≤ns∧iv=.int .i64 i∧ov=.slice A m c∧vs.length=m∧m=(Zae (ss.take i) p).length∧m≤i∧Own wr w2.heap.size 41 A c vs∧Below w2.heap.size w2 wr∧∀ (j:Nat) (v:Value) (l:List Int),vs[j]?=some v→(Zae (ss.take i) p)[j]?=some l→∃ A' c',v=.slice A' l.length c'∧Rd w2 w2.heap.size A' (l.map VI)∧l.length≤1000000) (fun _ iv _=>ns-(intOf iv).toNat)
 case atStart=>exact ⟨0,0,none,0,[],by omega,rfl,rfl,rfl,rfl,by omega,Own.nil _ _ _,Below.refl _ _,fun j v l h=>by simp at h⟩
 case round=>
  obtain ⟨i,m,A,c,vs,hi,rfl,rfl,hvs,hm,hmi,hO,hb,hvl⟩:=hrel
  have HVS:=hid hvs
  have HM:=hid hm
  have HO:=hid hO
  have HB:=hid hb
  have HVL:=hid hvl
  have hEb:=HE.out _ hb
  have d0:=cell_of_row _ _ 0 _ _ _ hEb
  clear hvs hm hO hb hvl hEb e0
  by_cases hlt:i<ns
  ·have ht:ss[i]?=some (ss[i]'(by rw [←HN.out];exact hlt)):=List.getElem?_eq_getElem _
   obtain ⟨s,hs⟩:∃ d,d=ss[i]'(by rw [←HN.out];exact hlt):=⟨_,rfl⟩
   rw [←hs] at ht
   have HT:=hid (ZfV ht p)
   have hsl:=HSM.out s (List.mem_of_getElem? ht)
   obtain ⟨b,o,rfl,hbl,c0,c1,c2,⟨A',c',c3,c3r,c3n,-⟩,c4,c5⟩:∃ b o,SA=some ⟨b,o,none⟩∧b<w2.heap.size∧SIAt w2 w2.heap.size b (o+i*6) s:=by
    rcases H2.out with h | ⟨b,o,hA,hb,hc⟩
    ·rw [h] at ht;simp at ht
    ·exact ⟨b,o,hA,hb,hc i s ht⟩
   have c0':=(HB.out.cell (p:=⟨b,_,none⟩) hbl).trans c0
   have c1':=(HB.out.cell (p:=⟨b,_,none⟩) hbl).trans c1
   have c3':=(HB.out.cell (p:=⟨b,_,none⟩) hbl).trans c3
   obtain ⟨sl,hsl2⟩:∃ sl,sl=s.shape.length:=⟨_,rfl⟩
   rw [←hsl2] at c3' hsl
   have HSL:=hid hsl2
   have HC3:=hid c3r
   have i0:(0:Int)≤(i:Int):=by omega
   have i1:(i:Int)<(ns:Int):=by omega
   obtain ⟨sk,hsk⟩:∃ sk,sk=s.kind:=⟨_,rfl⟩
   obtain ⟨sp,hsp⟩:∃ sp,sp=s.party:=⟨_,rfl⟩
   rw [←hsk] at c0' HT
   rw [←hsp] at c1' HT
   clear ht hs hbl c0 c1 c2 c3 c3r c3n c4 c5 hsk hsp hsl2
   cases hk:(sk==1) with
   | false=>
    have HX:=hid (show Zae (ss.take (i+1)) p=Zae (ss.take i) p from by rw [HT.out,hk];simp)
    go_wp2
    exact ⟨⟨i+1,m,A,c,vs,by omega,rfl,rfl,HVS.out,by rw [HX.out];exact HM.out,by omega,HO.out,HB.out,by rw [HX.out];exact HVL.out⟩,by simp [intOf];omega⟩
   | true=>
    cases hp:(sp==p) with
    | false=>
     have HX:=hid (show Zae (ss.take (i+1)) p=Zae (ss.take i) p from by rw [HT.out,hk,hp];simp)
     go_wp2
     exact ⟨⟨i+1,m,A,c,vs,by omega,rfl,rfl,HVS.out,by rw [HX.out];exact HM.out,by omega,HO.out,HB.out,by rw [HX.out];exact HVL.out⟩,by simp [intOf];omega⟩
    | true=>
     have HX:=hid (show Zae (ss.take (i+1)) p=Zae (ss.take i) p++[s.shape] from by rw [HT.out,hk,hp];rfl)
     have HNV:=hid (show ∀ (j:Nat) (v:Value) (l:List Int),(vs++[Value.slice A' sl c'])[j]?=some v→(Zae (ss.take (i+1)) p)[j]?=some l→∃ A' c',v=.slice A' l.length c'∧Rd w2 w2.heap.size A' (l.map VI)∧l.length≤1000000 from fun j v l hv hl=>by
      rw [HX.out] at hl
      by_cases hj:j<m
      ·rw [List.getElem?_append_left (by rw [HVS.out];exact hj)] at hv
       rw [List.getElem?_append_left (by rw [←HM.out];exact hj)] at hl
       exact HVL.out j v l hv hl
      ·rw [List.getElem?_append_right (by rw [HVS.out];omega),HVS.out] at hv
       rw [List.getElem?_append_right (by rw [←HM.out];omega),←HM.out] at hl
       have hj0:j-m=0:=by
        have:=(List.getElem?_eq_some_iff.1 hv).1
        simp at this
        omega
       rw [hj0] at hv hl
       simp at hv hl
       subst hv hl
       exact ⟨A',c',by rw [HSL.out],HC3.out,by have:=HSL.out;omega⟩)
     go_wp2_with (at_builtin;(refine appS rfl (.tmp 30) (.tmp 37) rfl w2.heap.size A c vs m HVS.out rfl (HO.out.alloc _) (some ⟨wr.heap.size,0,none⟩) 1 (wr.heap.size+1) (.slice A' sl c') rfl (Rd.one _ _ _) (fun h=>by cases h) rfl (by omega) (by have:=HB.out.size;simp;omega) ?_);intro A3 k3 w3 o3 b3;have O3:=hid o3;have B3:=hid ((HB.out.alloc HB.out.size _).trans b3);clear o3 b3)
     exact ⟨⟨i+1,m+1,A3,k3,_,by omega,rfl,rfl,by rw [List.length_append,HVS.out];rfl,by rw [HX.out,List.length_append,←HM.out];rfl,by omega,O3.out,B3.out,HNV.out⟩,by simp [intOf];omega⟩
  ·obtain rfl:i=ns:=by omega
   go_wp2
   go_ret
   have hT:Zae (ss.take i) p=Zae ss p:=by rw [HN.out,List.take_length]
   rw [hT] at HM HVL
   refine ⟨HB2.out.trans (HB.out.mono HB2.out.size),A,m,c,rfl,HM.out,?_⟩
   by_cases h0:m=0
   ·exact .inl (List.eq_nil_of_length_eq_zero (by rw [←HM.out];exact h0))
   ·obtain ⟨g,rfl,hg,hg2⟩:=HO.out.some_ (by rw [HVS.out];exact h0)
    refine .inr ⟨g,0,rfl,hg2,fun j l hl => ?_⟩
    have hj:j<vs.length:=by have:=(List.getElem?_eq_some_iff.1 hl).1;rw [HVS.out,HM.out];exact this
    obtain ⟨A',c',e,h1,h2⟩:=HVL.out j _ l (List.getElem?_eq_getElem hj) hl
    exact ⟨A',c',by rw [Nat.zero_add,HO.out.cellAt (List.getElem?_eq_getElem hj),e],h1.next HB.out,h2⟩
end Go.Proofs.YtghlnncfigkkaaaGreatDoor
namespace Go.Proofs.YtghlnncfigkkaaaGreatDoor
set_option linter.unusedVariables false
set_option linter.unusedSimpArgs false
open Go.RowKit
def rvX (X:Nat→Prop) (vg:Nat) (k:Nat):Prop:=X k∨k=vg∨k+1=vg
structure RvSt (X:Nat→Prop) (w:World) (base:World) (B n1:Nat) (SA EA:Option Addr) (ns sc ne ec:Nat) (V:Nat→TN) (mk:Nat→Bool):Prop where
 hB:B=base.heap.size
 ht:w.heap[B]?=some (.cells #[.slice SA ns sc,.slice EA ne ec] 26 (0,0))
 hr:w.heap[B+1]?=some (.cells #[.slice none 0 0,.slice none 0 0] 43 (0,0))
 hm:MkB w 4 (B+3) n1 (fun a=>.bool (mk a))
 hv:VRow (rvX X (B+2)) w (B+2) n1 V
 hb:Below base.heap.size base w
section
variable {X:Nat→Prop} {w w' base:World} {B n1 ns sc ne ec:Nat} {SA EA:Option Addr} {V:Nat→TN} {mk:Nat→Bool}
theorem VRow.lt {vg n:Nat} (h:VRow X w vg n V):vg<w.heap.size:=by
 obtain ⟨cs,h1,_⟩:=h
 exact (Array.getElem?_eq_some_iff.1 h1).1
theorem VRow.next {vg n:Nat} (h:VRow X w vg n V) (hb:Below w.heap.size w w'):VRow X w' vg n V:=by
 have hl:=h.lt
 obtain ⟨cs,h1,h2,h3⟩:=h
 refine ⟨cs,(hb.block _ hl).trans h1,h2,fun j hj => ?_⟩
 obtain ⟨sv,ev,e1,e2,e3⟩:=h3 j hj
 exact ⟨sv,ev,e1,e2,e3.next hb⟩
theorem RvSt.next (h:RvSt X w base B n1 SA EA ns sc ne ec V mk) (hb:Below w.heap.size w w'):RvSt X w' base B n1 SA EA ns sc ne ec V mk:=
 ⟨h.hB,(hb.block _ (Array.getElem?_eq_some_iff.1 h.ht).1).trans h.ht,(hb.block _ (Array.getElem?_eq_some_iff.1 h.hr).1).trans h.hr,h.hm.next hb,h.hv.next hb,bnext h.hb hb⟩
theorem RvSt.lt (h:RvSt X w base B n1 SA EA ns sc ne ec V mk):B+3<w.heap.size:=h.hm.lt
theorem KeepX.set1 {w:World} (b k:Nat) (v:Value) (hX:X b):KeepX X w (w.setCell ⟨b,k,none⟩ v):=
 ⟨by simp [World.setCell],fun p hp hx=>by unfold World.cell?;rw [ZaS w ⟨b,k,none⟩ v (fun e=>hx (by rw [e];exact hX))]⟩
theorem TnV.set {sv ev u:Value} {t:TN} {b k:Nat} (h:TnV X w sv ev t) (hX:X b):TnV X (w.setCell ⟨b,k,none⟩ u) sv ev t:=h.keep (KeepX.set1 b k u hX)
theorem RvSt.mark (h:RvSt X w base B n1 SA EA ns sc ne ec (fun _=>zTN) mk) {i:Nat} (hi:i<n1) (mk':Nat→Bool) (hmk:∀ a,mk' a=if a=i then true else mk a) (hz:∃ cs:List Value,w.heap[B+2]?=some (.cells cs.toArray 43 (0,0))∧cs=List.replicate (2*n1) (.slice none 0 0)):
  RvSt X (w.setCell ⟨B+3,i,none⟩ (.bool true)) base B n1 SA EA ns sc ne ec (fun _=>zTN) mk'∧(∃ cs:List Value,(w.setCell ⟨B+3,i,none⟩ (.bool true)).heap[B+2]?=some (.cells cs.toArray 43 (0,0))∧cs=List.replicate (2*n1) (.slice none 0 0)):=by
 obtain ⟨cs,h1,h2⟩:=hz
 have h1':=(ZaS w ⟨B+3,i,none⟩ (.bool true) (k:=B+2) (by show B+2≠B+3;omega)).trans h1
 refine ⟨⟨h.hB,(ZaS w _ _ (by show B≠B+3;omega)).trans h.ht,(ZaS w _ _ (by show B+1≠B+3;omega)).trans h.hr,h.hm.set hi _ _ (fun a => ?_),⟨cs,h1',by rw [h2];simp,fun j hj=>⟨.slice none 0 0,.slice none 0 0,?_,?_,TnV.nil _ _⟩⟩,Zaf h.hb (by rw [←h.hB];omega) _⟩,cs,h1',h2⟩
 ·rw [hmk a]
  split <;> rfl
 ·rw [h2,List.getElem?_replicate,if_pos (by omega)]
 ·rw [h2,List.getElem?_replicate,if_pos (by omega)]
theorem RvSt.val (h:RvSt X w base B n1 SA EA ns sc ne ec V mk) {a:Nat} (ha:a<n1):∃ A c A' c',w.cell? ⟨B+2,a*2,none⟩=some (.slice A (V a).sh.length c)∧w.cell? ⟨B+2,a*2+1,none⟩=some (.slice A' (V a).el.length c')∧TnV (rvX X (B+2)) w (.slice A (V a).sh.length c) (.slice A' (V a).el.length c') (V a):=by
 obtain ⟨cs,v1,v2,v3⟩:=h.hv
 obtain ⟨sv,ev,e1,e2,e3⟩:=v3 a ha
 have k:=e3
 obtain ⟨⟨A,c,rfl,_⟩,A',c',rfl,_⟩:=k
 exact ⟨A,c,A',c',by rw [cell_of_row w _ _ _ _ (0,0) v1];simpa using e1,by rw [cell_of_row w _ _ _ _ (0,0) v1];simpa using e2,e3⟩
theorem RvSt.free (h:RvSt X w base B n1 SA EA ns sc ne ec V mk) (k:Nat):w.frozen? ⟨B+2,k,none⟩=false:=by
 obtain ⟨cs,v1,_⟩:=h.hv
 simp [World.frozen?,v1]
theorem RvSt.set (h:RvSt X w base B n1 SA EA ns sc ne ec V mk) {a:Nat} (ha:a<n1) {sv ev:Value} {t:TN} (hv:TnV (rvX X (B+2)) w sv ev t) {W:World} (hW:W=(w.setCell ⟨B+2,a*2,none⟩ sv).setCell ⟨B+2,a*2+1,none⟩ ev) (V':Nat→TN) (hV':∀ j,V' j=if j=a then t else V j):
  RvSt X W base B n1 SA EA ns sc ne ec V' mk:=by
 have hblk:∀ k,k≠B+2→W.heap[k]?=w.heap[k]?:=fun k hk=>by
  rw [hW,ZaS _ _ _ hk,ZaS _ _ _ hk]
 have hsz:W.heap.size=w.heap.size:=by rw [hW];simp [World.setCell]
 have hkeep:KeepX (rvX X (B+2)) w W:=⟨Nat.le_of_eq hsz.symm,fun p hp hx=>by unfold World.cell?;rw [hblk p.block (fun e=>hx (.inr (.inl e)))]⟩
 obtain ⟨cs,v1,v2,v3⟩:=h.hv
 refine ⟨h.hB,(hblk B (by omega)).trans h.ht,(hblk (B+1) (by omega)).trans h.hr,(hblk (B+3) (by omega)).trans h.hm,⟨(cs.set (a*2) sv).set (a*2+1) ev,?_,by simpa using v2,fun j hj => ?_⟩,?_⟩
 ·rw [hW]
  simp [World.setCell,Array.getElem?_modify,v1]
 ·rw [hV' j]
  by_cases e:j=a
  ·subst e
   rw [if_pos rfl]
   refine ⟨sv,ev,?_,?_,hv.keep hkeep⟩
   ·rw [List.getElem?_set_ne (by omega),List.getElem?_set_self (by omega)]
   ·rw [List.getElem?_set_self (by rw [List.length_set];omega)]
  ·rw [if_neg e]
   obtain ⟨sv',ev',e1,e2,e3⟩:=v3 j hj
   refine ⟨sv',ev',?_,?_,e3.keep hkeep⟩
   ·rw [List.getElem?_set_ne (by omega),List.getElem?_set_ne (by omega)]
    exact e1
   ·rw [List.getElem?_set_ne (by omega),List.getElem?_set_ne (by omega)]
    exact e2
 ·rw [hW]
  exact Zaf (Zaf h.hb (by rw [←h.hB];omega) _) (by rw [←h.hB];omega) _
end
theorem TnV.inn {X:Nat→Prop} {base w:World} {vg:Nat} {sv ev:Value} {t:TN} (h:TnV X base sv ev t) (hb:Below base.heap.size base w) (hv:base.heap.size<vg):TnV (rvX X vg) w sv ev t:=by
 have ht:∀ A xs,RdX X base A xs→RdX (rvX X vg) w A xs:=by
  intro A xs hr
  rcases hr with hr | ⟨b,o,hA,hlt,hx,hc⟩
  ·exact .inl hr
  ·refine .inr ⟨b,o,hA,Nat.lt_of_lt_of_le hlt hb.size,fun hx' => ?_,fun j v hj=>(hb.cell (p:=⟨b,o+j,none⟩) hlt).trans (hc j v hj)⟩
   rcases hx' with e | e | e
   ·exact hx e
   ·omega
   ·omega
 obtain ⟨⟨A,c,h1,h2,h3,h4,h5⟩,A',c',g1,g2,g3,g4⟩:=h
 exact ⟨⟨A,c,h1,h2,h3,h4,ht _ _ h5⟩,A',c',g1,g2,g3,ht _ _ g4⟩
theorem NamT.inn {X:Nat→Prop} {base w:World} {vg:Nat} (hb:Below base.heap.size base w) (hv:base.heap.size<vg):∀ {ps:List (ByteArray × Value)} {qs:Zah},NamT X base ps qs→NamT (rvX X vg) w ps qs
 | [],[],_=>trivial
 | p::ps,q::qs,⟨h1,⟨sv,ev,h2,h3⟩,h4,h5⟩=>⟨h1,⟨sv,ev,h2,h3.inn hb hv⟩,h4,NamT.inn hb hv h5⟩
 | [],_::_,h=>h
 | _::_,[],h=>h
theorem TnV.out {X:Nat→Prop} {w:World} {vg:Nat} {sv ev:Value} {t:TN} (h:TnV (rvX X vg) w sv ev t):TnV X w sv ev t:=by
 have ht:∀ A xs,RdX (rvX X vg) w A xs→RdX X w A xs:=by
  intro A xs hr
  rcases hr with hr | ⟨b,o,hA,hlt,hx,hc⟩
  ·exact .inl hr
  ·exact .inr ⟨b,o,hA,hlt,fun hx'=>hx (.inl hx'),hc⟩
 obtain ⟨⟨A,c,h1,h2,h3,h4,h5⟩,A',c',g1,g2,g3,g4⟩:=h
 exact ⟨⟨A,c,h1,h2,h3,h4,ht _ _ h5⟩,A',c',g1,g2,g3,ht _ _ g4⟩
theorem Zia:(Tryz.prog.info? 40).map (fun i=>(i.zero,i.size,i.bytes))=some (some (.slice none 0 0),1,24):=by kernel_rfl
theorem Zib:(Tryz.prog.info? 41).map (fun i=>(i.zero,i.size,i.bytes))=some (some (.slice none 0 0),1,24):=by kernel_rfl
theorem appWs {w:World} {ops:Array Oper} {rest:List Oper} {o:Oper} {a:Act} {Q:Exit→Act→World→Prop} (hgd:o.guard=none) (s x:Operand)
  (ho:o.op=.call { callee:=.builtin .append,args:=#[s,x],argTypes:=#[203,203] }) (base:Nat)
  (A:Option Addr) (cap:Nat) (xs:List Value) (n:Nat) (hn:xs.length=n) (hs:a.eval s=.slice A n cap) (hown:Own w base 40 A cap xs)
  (A2:Option Addr) (c B:Nat) (v:Value) (hx:a.eval x=.slice A2 1 c) (hr:Rd w B A2 [v]) (hnil:A2=none→1=0) (hv:v.oneCell'=true)
  (hbytes:n≤1000000) (hbase:base≤w.heap.size)
  (h:∀ A' cap' w',Own w' base 40 A' cap' (xs++[v])→w.grownBy w' (blk A)→(blk A'=blk A∨blk A'=some w.heap.size)→wpList Tryz.prog ops Q rest (a.put o.dst (.slice A' (n+1) cap')) w'):
  wpList Tryz.prog ops Q (o::rest) a w:=by
 obtain ⟨i0,hi0,hz0,hz1,hz2⟩:=info_parts Zia
 exact Zbu hgd s x 203 ho base 40 i0 _ 24 Tryz.underlying203 hi0 hz0 hz1 hz2 rfl A cap xs n hn hs hown A2 1 c B [v] rfl hx hr hnil (fun u hu=>by rw [List.mem_singleton.1 hu];exact hv) (by simp only [maxLen];omega) (by omega) hbase h
theorem appIs {w:World} {ops:Array Oper} {rest:List Oper} {o:Oper} {a:Act} {Q:Exit→Act→World→Prop} (hgd:o.guard=none) (s x:Operand)
  (ho:o.op=.call { callee:=.builtin .append,args:=#[s,x],argTypes:=#[51,51] }) (base:Nat)
  (A:Option Addr) (cap:Nat) (xs:List Value) (n:Nat) (hn:xs.length=n) (hs:a.eval s=.slice A n cap) (hown:Own w base 41 A cap xs)
  (A2:Option Addr) (c B:Nat) (v:Value) (hx:a.eval x=.slice A2 1 c) (hr:Rd w B A2 [v]) (hnil:A2=none→1=0) (hv:v.oneCell'=true)
  (hbytes:n≤1000000) (hbase:base≤w.heap.size)
  (h:∀ A' cap' w',Own w' base 41 A' cap' (xs++[v])→w.grownBy w' (blk A)→(blk A'=blk A∨blk A'=some w.heap.size)→wpList Tryz.prog ops Q rest (a.put o.dst (.slice A' (n+1) cap')) w'):
  wpList Tryz.prog ops Q (o::rest) a w:=by
 obtain ⟨i0,hi0,hz0,hz1,hz2⟩:=info_parts Zib
 exact Zbu hgd s x 51 ho base 41 i0 _ 24 Tryz.underlying51 hi0 hz0 hz1 hz2 rfl A cap xs n hn hs hown A2 1 c B [v] rfl hx hr hnil (fun u hu=>by rw [List.mem_singleton.1 hu];exact hv) (by simp only [maxLen];omega) (by omega) hbase h
theorem ZjI {es:List EI} {shF:List (List Int)} {names:Zah} {root:Nat} (hx:exsOk 0 es=true) (ho:Ahead es) (hl:LetOk es (shN names) shF root) (hn:∀ p∈names,TnOk p.2) {k:Nat} (hk:Zac es root k=true) {e:EI} (he:es[k]?=some e):
  ArgsT e names shF (shF.getD k []) (e.args.map fun a=>letR es (Zac es root) names k a.toNat)∧TnOk (letR es (Zac es root) names (k+1) k)∧(letR es (Zac es root) names (k+1) k).sh=shF.getD k []:=by
 obtain ⟨⟨h1,h2⟩,h3⟩:=ZiN (V:=fun _=>zTN) hx ho hl hn k hk
 have hle:=ZcL ho hk
 have e1:=ZeU (V:=fun _=>zTN) ho hl k hk
 rw [ZbJ (root+1) (k+1) (by omega) (by omega),Zcc (root+1) (k+1) (by omega) (by omega)] at e1
 refine ⟨?_,by rw [←e1];exact h1,by rw [←e1];exact h2⟩
 have h4:=h3 e he
 have:(e.args.map fun a=>letF es (Zac es root) shF names (fun _=>zTN) k a.toNat)=e.args.map fun a=>letR es (Zac es root) names k a.toNat:=List.map_congr_left fun a ha=>by
  have h5:=ho k e he a ha
  have h6:=Zbi ho hl.1 k e hk he a ha
  have e2:=ZeU (V:=fun _=>zTN) ho hl a.toNat h6
  rw [ZbJ (root+1) k (by omega) (by omega),Zcc (root+1) k (by omega) (by omega)] at e2
  exact e2
 rwa [this] at h4
end Go.Proofs.YtghlnncfigkkaaaGreatDoor
namespace Go.Proofs.YtghlnncfigkkaaaGreatDoor
set_option linter.unusedVariables false
set_option linter.unusedSimpArgs false
open Go.RowKit
structure ArgsW (X:Nat→Prop) (W0 w:World) (A A':Option Addr) (k c c':Nat) (ts:List TN):Prop where
 ex:∃ vs us:List Value,vs.length=k∧us.length=k∧ts.length=k∧Own w W0.heap.size 40 A c vs∧Own w W0.heap.size 41 A' c' us∧(∀ (j:Nat) (v u:Value) (t:TN),vs[j]?=some v→us[j]?=some u→ts[j]?=some t→TnV X W0 u v t)
 ap:blk A=none∨blk A≠blk A'
theorem ArgsW.nil (X:Nat→Prop) (W0 w:World):ArgsW X W0 w none none 0 0 0 []:=⟨⟨[],[],rfl,rfl,rfl,Own.nil _ _ _,Own.nil _ _ _,fun j v u t h=>by simp at h⟩,.inl rfl⟩
theorem Zl7 {X:Nat→Prop} {W0 w:World} {A A':Option Addr} {k c c':Nat} {ts:List TN} (h:ArgsW X W0 w A A' k c c' ts) (hb:Below W0.heap.size W0 w) (hl:∀ t∈ts,t.el.length≤1000000):RdWs w A (ts.map TN.el)∧RdSh w A' (ts.map TN.sh)∧ShL X w A' (ts.map TN.sh):=by
 obtain ⟨vs,us,h1,h2,h3,o1,o2,hv⟩:=h.ex
 have key:∀ j t,ts[j]?=some t→∃ v u,vs[j]?=some v∧us[j]?=some u∧TnV X W0 u v t:=fun j t ht=>by
  have hj:j<ts.length:=(List.getElem?_eq_some_iff.1 ht).1
  exact ⟨_,_,List.getElem?_eq_getElem (by omega),List.getElem?_eq_getElem (by omega),hv j _ _ t (List.getElem?_eq_getElem (by omega)) (List.getElem?_eq_getElem (by omega)) ht⟩
 refine ⟨?_,?_,⟨us,by rw [List.length_map];omega,o2.rd,fun j v l hu hl => ?_⟩⟩
 ·by_cases h0:k=0
  ·exact .inl (by rw [List.eq_nil_of_length_eq_zero (h3.trans h0)];rfl)
  ·obtain ⟨g,rfl,hg,hg2⟩:=o1.some_ (by omega)
   refine .inr ⟨g,0,rfl,hg2,fun j l hl2 => ?_⟩
   rw [List.getElem?_map,Option.map_eq_some_iff] at hl2
   obtain ⟨t,ht,rfl⟩:=hl2
   obtain ⟨v,u,hv1,hu1,_,A2,c2,e2,q1,q2,q3⟩:=key j t ht
   exact ⟨A2,c2,by rw [Nat.zero_add,o1.cellAt hv1,e2],(q3.rd.next hb),hl t (List.mem_of_getElem? ht)⟩
 ·by_cases h0:k=0
  ·exact .inl (by rw [List.eq_nil_of_length_eq_zero (h3.trans h0)];rfl)
  ·obtain ⟨g,rfl,hg,hg2⟩:=o2.some_ (by omega)
   refine .inr ⟨g,0,rfl,hg2,fun j l hl2 => ?_⟩
   rw [List.getElem?_map,Option.map_eq_some_iff] at hl2
   obtain ⟨t,ht,rfl⟩:=hl2
   obtain ⟨v,u,hv1,hu1,⟨A1,c1,e1,p1,p2,p3,p4⟩,_⟩:=key j t ht
   exact ⟨A1,c1,by rw [Nat.zero_add,o2.cellAt hu1,e1],p4.rd.next hb,by omega⟩
 ·rw [List.getElem?_map,Option.map_eq_some_iff] at hl
  obtain ⟨t,ht,rfl⟩:=hl
  obtain ⟨v',u',_,hu1,h5⟩:=key j t ht
  rw [hu] at hu1
  injection hu1 with hu1
  subst hu1
  exact h5.1.next hb
def RdWX (X:Nat→Prop) (w:World) (A:Option Addr) (xs:List (List UInt64)):Prop:=xs=[]∨∃ b o,A=some ⟨b,o,none⟩∧b<w.heap.size∧¬ X b∧∀ (j:Nat) (l:List UInt64),xs[j]?=some l→∃ A' c,w.cell? ⟨b,o+j,none⟩=some (.slice A' l.length c)∧RdX X w A' (l.map U)∧l.length≤1000000
def RdSX (X:Nat→Prop) (w:World) (A:Option Addr) (xs:List (List Int)):Prop:=xs=[]∨∃ b o,A=some ⟨b,o,none⟩∧b<w.heap.size∧¬ X b∧∀ (j:Nat) (l:List Int),xs[j]?=some l→∃ A' c,w.cell? ⟨b,o+j,none⟩=some (.slice A' l.length c)∧RdX X w A' (l.map VI)∧l.length≤1000000
theorem RdWX.keep {X:Nat→Prop} {w w':World} {A:Option Addr} {xs:List (List UInt64)} (h:RdWX X w A xs) (hk:KeepX X w w'):RdWX X w' A xs:=by
 rcases h with h | ⟨b,o,hA,hb,hx,hc⟩
 ·exact .inl h
 ·refine .inr ⟨b,o,hA,Nat.lt_of_lt_of_le hb hk.1,hx,fun j l hj => ?_⟩
  obtain ⟨A',c,h1,h2,h3⟩:=hc j l hj
  exact ⟨A',c,(hk.2 ⟨b,o+j,none⟩ hb hx).trans h1,h2.keep hk,h3⟩
theorem RdSX.keep {X:Nat→Prop} {w w':World} {A:Option Addr} {xs:List (List Int)} (h:RdSX X w A xs) (hk:KeepX X w w'):RdSX X w' A xs:=by
 rcases h with h | ⟨b,o,hA,hb,hx,hc⟩
 ·exact .inl h
 ·refine .inr ⟨b,o,hA,Nat.lt_of_lt_of_le hb hk.1,hx,fun j l hj => ?_⟩
  obtain ⟨A',c,h1,h2,h3⟩:=hc j l hj
  exact ⟨A',c,(hk.2 ⟨b,o+j,none⟩ hb hx).trans h1,h2.keep hk,h3⟩
theorem RdWX.ws {X:Nat→Prop} {w:World} {A:Option Addr} {xs:List (List UInt64)} (h:RdWX X w A xs):RdWs w A xs:=by
 rcases h with h | ⟨b,o,hA,hb,hx,hc⟩
 ·exact .inl h
 ·refine .inr ⟨b,o,hA,hb,fun j l hj => ?_⟩
  obtain ⟨A',c,h1,h2,h3⟩:=hc j l hj
  exact ⟨A',c,h1,h2.rd,h3⟩
theorem RdSX.sh {X:Nat→Prop} {w:World} {A:Option Addr} {xs:List (List Int)} (h:RdSX X w A xs):RdSh w A xs:=by
 rcases h with h | ⟨b,o,hA,hb,hx,hc⟩
 ·exact .inl h
 ·refine .inr ⟨b,o,hA,hb,fun j l hj => ?_⟩
  obtain ⟨A',c,h1,h2,h3⟩:=hc j l hj
  exact ⟨A',c,h1,h2.rd,h3⟩
theorem ZjJ {X:Nat→Prop} {W0 w:World} {A A':Option Addr} {k c c':Nat} {ts:List TN} (h:ArgsW X W0 w A A' k c c' ts) (hb:Below W0.heap.size W0 w) (hl:∀ t∈ts,t.el.length≤1000000) (hX:∀ k,X k→k<W0.heap.size):RdWX X w A (ts.map TN.el)∧RdSX X w A' (ts.map TN.sh):=by
 obtain ⟨vs,us,h1,h2,h3,o1,o2,hv⟩:=h.ex
 have key:∀ j t,ts[j]?=some t→∃ v u,vs[j]?=some v∧us[j]?=some u∧TnV X w u v t:=fun j t ht=>by
  have hj:j<ts.length:=(List.getElem?_eq_some_iff.1 ht).1
  exact ⟨_,_,List.getElem?_eq_getElem (by omega),List.getElem?_eq_getElem (by omega),(hv j _ _ t (List.getElem?_eq_getElem (by omega)) (List.getElem?_eq_getElem (by omega)) ht).next hb⟩
 refine ⟨?_,?_⟩
 ·by_cases h0:k=0
  ·exact .inl (by rw [List.eq_nil_of_length_eq_zero (h3.trans h0)];rfl)
  ·obtain ⟨g,rfl,hg,hg2⟩:=o1.some_ (by omega)
   refine .inr ⟨g,0,rfl,hg2,fun hx=>by have:=hX g hx;omega,fun j l hl2 => ?_⟩
   rw [List.getElem?_map,Option.map_eq_some_iff] at hl2
   obtain ⟨t,ht,rfl⟩:=hl2
   obtain ⟨v,u,hv1,hu1,_,A2,c2,e2,q1,q2,q3⟩:=key j t ht
   exact ⟨A2,c2,by rw [Nat.zero_add,o1.cellAt hv1,e2],q3,hl t (List.mem_of_getElem? ht)⟩
 ·by_cases h0:k=0
  ·exact .inl (by rw [List.eq_nil_of_length_eq_zero (h3.trans h0)];rfl)
  ·obtain ⟨g,rfl,hg,hg2⟩:=o2.some_ (by omega)
   refine .inr ⟨g,0,rfl,hg2,fun hx=>by have:=hX g hx;omega,fun j l hl2 => ?_⟩
   rw [List.getElem?_map,Option.map_eq_some_iff] at hl2
   obtain ⟨t,ht,rfl⟩:=hl2
   obtain ⟨v,u,hv1,hu1,⟨A1,c1,e1,p1,p2,p3,p4⟩,_⟩:=key j t ht
   exact ⟨A1,c1,by rw [Nat.zero_add,o2.cellAt hu1,e1],p4,by omega⟩
theorem Zic {X:Nat→Prop} {W0 wx w7:World} {A A2 A1:Option Addr} {k c2 k1:Nat} {ts:List TN} {t:TN} {vs us:List Value} {v u:Value} {o1 o2:Obj}
  (hvs:vs.length=k) (hus:us.length=k) (hts:ts.length=k) (ho2:Own wx W0.heap.size 41 A2 c2 us) (hv:∀ (j:Nat) (v u:Value) (t:TN),vs[j]?=some v→us[j]?=some u→ts[j]?=some t→TnV X W0 u v t) (hap:blk A=none∨blk A≠blk A2)
  (ht:TnV X W0 u v t) (hbx:W0.heap.size≤wx.heap.size)
  (p1:Own w7 W0.heap.size 40 A1 k1 (vs++[v])) (g7:(wx.alloc o1).grownBy w7 (blk A)) (h7:blk A1=blk A∨blk A1=some (wx.alloc o1).heap.size) (hA1:∀ q,blk A1=some q→q<w7.heap.size):
  Own w7 W0.heap.size 41 A2 c2 us∧(∀ (A4:Option Addr) (k4:Nat) (w8:World),Own w8 W0.heap.size 41 A4 k4 (us++[u])→(w7.alloc o2).grownBy w8 (blk A2)→(blk A4=blk A2∨blk A4=some (w7.alloc o2).heap.size)→ArgsW X W0 w8 A1 A4 (k+1) k1 k4 (ts++[t])):=by
 have hk2:Own w7 W0.heap.size 41 A2 c2 us:=(ho2.alloc o1).kept g7 (by
  rcases hap with h | h
  ·by_cases h2:blk A2=none
   ·exact .inl h2
   ·right;rw [h];exact h2
  ·right;exact fun e=>h e.symm)
 have hap2:blk A1=none∨blk A1≠blk A2:=by
  rcases h7 with h | h
  ·rw [h];exact hap
  ·right
   rw [h]
   intro e
   have:=(ho2.lt _ e.symm).2
   rw [World.size_alloc] at this
   omega
 refine ⟨hk2,fun A4 k4 w8 p2 g8 h8=>⟨⟨vs++[v],us++[u],by rw [List.length_append,hvs];rfl,by rw [List.length_append,hus];rfl,by rw [List.length_append,hts];rfl,(p1.alloc o2).kept g8 hap2,p2,fun j v' u' t' hv' hu' ht' => ?_⟩,?_⟩⟩
 ·by_cases hj:j<k
  ·rw [List.getElem?_append_left (by omega)] at hv' hu' ht'
   exact hv j v' u' t' hv' hu' ht'
  ·rw [List.getElem?_append_right (by omega)] at hv' hu' ht'
   have hj0:j-vs.length=0:=by
    have:=(List.getElem?_eq_some_iff.1 hv').1
    simp at this
    omega
   rw [hj0] at hv'
   rw [show j-us.length=0 by omega] at hu'
   rw [show j-ts.length=0 by omega] at ht'
   simp at hv' hu' ht'
   subst hv' hu' ht'
   exact ht
 ·rcases h8 with h | h
  ·rw [h];exact hap2
  ·by_cases hn:blk A1=none
   ·exact .inl hn
   ·right
    rw [h]
    intro e
    have:=hA1 _ e
    rw [World.size_alloc] at this
    omega
theorem Zid (e:EI) (names:Zah) (shF:List (List Int)) (s:List Int) (ts:List TN) (hA:ArgsT e names shF s ts) (h1:e.kind≠1) (h2:e.kind≠2) (hkn:1≤e.kind∧e.kind≤14) (XA SA:Option Addr) (n xc sc:Nat) (w:World) (hn:n=ts.length) (hX:RdWs w XA (ts.map TN.el)) (hS:RdSh w SA (ts.map TN.sh)):
  Calls Tryz.prog 106 #[.int .i64 e.kind,.int .u64 (e.num:Int),.int .i64 (Zad s),.slice XA n xc,.slice SA n sc] w (ZbU w (Zbc e.kind e.num (Zad s).toNat ts)):=by
 obtain ⟨hc,hx,ho,hnn,hl⟩:=hA
 unfold exprC at hc
 rw [if_neg h2] at hc
 dsimp only at hc
 split at hc
 ·cases hc
 ·rename_i hok
  injection hc with hs
  simp only [not_or] at hok
  rw [hs] at hok
  have hsh:Zab e.kind e.num (ts.map TN.sh)=(s,true):=by
   rw [hx]
   refine Prod.ext hs ?_
   cases h:(Zab e.kind e.num (e.args.map fun a=>shF.getD a.toNat [])).2 with
   | true=>rfl
   | false=>exact absurd h hok.1
  have hsz:=Zby hok.2
  obtain ⟨sz,hsz2⟩:∃ sz:Nat,Zad s=(sz:Int):=⟨(Zad s).toNat,by omega⟩
  have hlen:ts.length=e.args.length:=by have:=congrArg List.length hx;rwa [List.length_map,List.length_map] at this
  rw [hsz2,Int.toNat_natCast]
  have len_of:∀ t∈ts,Zad t.sh=Zad s→t.el.length=sz:=fun t ht h=>by have:=(ho t ht).2;omega
  have wide:∀ (x y:TN),ts=[x,y]→(e.kind=4∨e.kind=5∨e.kind=6∨e.kind=8∨e.kind=13)→(x.el.length=1∨x.el.length=sz)∧(y.el.length=1∨y.el.length=sz):=fun x y e2 hk=>by
   have hw:wideP x.sh y.sh=(s,true):=by
    rw [←hsh,e2]
    unfold Zab
    rw [if_neg (by omega),if_neg (by omega),if_neg (by omega),if_pos hk]
    rfl
   obtain ⟨q,q1,q2,q3,q4,q5,q6⟩:=Ze0 (ho x (by rw [e2];simp)) (ho y (by rw [e2];simp)) hw
   have:q=sz:=by omega
   subst this
   exact ⟨q4,q5⟩
  rcases (by omega:e.kind=3∨e.kind=9∨e.kind=10∨e.kind=11∨e.kind=12∨e.kind=7∨e.kind=14∨(e.kind=4∨e.kind=5∨e.kind=6∨e.kind=8∨e.kind=13)) with k | k | k | k | k | k | k | k
  ·have hl1:ts.length=1:=by (have:madeP e.kind=1:=(by rw [k];rfl));omega
   match ts,hl1 with
   | [x],_=>
    have hxs:x.sh=s:=by have:=congrArg Prod.fst hsh;rw [k] at this;exact this
    have hxl:=len_of x (by simp) (by rw [hxs])
    have:=Zfk e.kind e.num sz n 0 x x [x.el] XA xc (.slice SA n sc) w hX rfl rfl (by rw [hn];rfl) (by omega) (fun h=>by omega) (by omega) (by omega) (by omega) (by omega) (by omega) (.inr hxl) (.inr hxl)
    unfold Zbc
    rw [if_neg (by omega),if_neg (by omega),if_neg (by omega),if_neg (by omega)]
    exact this
  ·have hl1:ts.length=1:=by (have:madeP e.kind=1:=(by rw [k];rfl));omega
   match ts,hl1 with
   | [x],_=>
    have hxs:x.sh=s∧e.num≤63:=by
     have h1:=congrArg Prod.fst hsh
     have h2:=congrArg Prod.snd hsh
     rw [k] at h1 h2
     exact ⟨h1,of_decide_eq_true h2⟩
    have hxl:=len_of x (by simp) (by rw [hxs.1])
    have:=Zfk e.kind e.num sz n 0 x x [x.el] XA xc (.slice SA n sc) w hX rfl rfl (by rw [hn];rfl) (by omega) (fun h=>hxs.2) (by omega) (by omega) (by omega) (by omega) (by omega) (.inr hxl) (.inr hxl)
    unfold Zbc
    rw [if_neg (by omega),if_neg (by omega),if_neg (by omega),if_neg (by omega)]
    exact this
  ·have hl1:ts.length=1:=by (have:madeP e.kind=1:=(by rw [k];rfl));omega
   match ts,hl1 with
   | [x],_=>
    have hxs:x.sh=s:=by have:=congrArg Prod.fst hsh;rw [k] at this;exact this
    have hxl:=len_of x (by simp) (by rw [hxs])
    have:=Zfk e.kind e.num sz n 0 x x [x.el] XA xc (.slice SA n sc) w hX rfl rfl (by rw [hn];rfl) (by omega) (fun h=>by omega) (by omega) (by omega) (by omega) (by omega) (by omega) (.inr hxl) (.inr hxl)
    unfold Zbc
    rw [if_neg (by omega),if_neg (by omega),if_neg (by omega),if_neg (by omega)]
    exact this
  ·have hl1:ts.length=1:=by (have:madeP e.kind=1:=(by rw [k];rfl));omega
   match ts,hl1 with
   | [x],_=>
    have:=Zl4 e.num sz x XA xc (.slice SA n sc) w hX
    subst hn
    unfold Zbc
    rw [if_neg (by omega),if_pos k,k]
    exact this
  ·have hl1:ts.length=1:=by (have:madeP e.kind=1:=(by rw [k];rfl));omega
   match ts,hl1 with
   | [x],_=>
    have ht:=ho x (by simp)
    have hp:=Zby ht.1
    have hq:=ht.2
    have:=Zl5 e.num sz x XA xc (.slice SA n sc) w hX (by omega) (by omega)
    subst hn
    unfold Zbc
    rw [if_neg (by omega),if_neg (by omega),if_pos k,k]
    exact this
  ·have hl2:ts.length=2:=by (have:madeP e.kind=2:=(by rw [k];rfl));omega
   match ts,hl2 with
   | [x,y],_=>
    have hm:matP x.sh y.sh=(s,true):=by rw [←hsh,k];rfl
    obtain ⟨m,q,r,m1,m2,q1,q2,r1,r2,l1,l2,hd,hne,hsz3,d1,d2⟩:=ZdK (ho x (by simp)) (ho y (by simp)) hm hok.2
    have:=ZmT e.num sz x y XA SA xc sc m q r w hX hS m1 m2 q1 q2 r1 r2 l1 l2 hd hne d1 d2
    subst hn
    unfold Zbc
    rw [if_pos k,k]
    show Calls _ _ _ _ (ZbU w (matW x.el y.el (x.el.length / (y.sh.headD 0).toNat) (y.sh.headD 0).toNat (y.el.length / (y.sh.headD 0).toNat)))
    rw [hd,Int.toNat_natCast,d1,d2]
    exact this
  ·have hl3:ts.length=3:=by (have:madeP e.kind=3:=(by rw [k];rfl));omega
   match ts,hl3 with
   | [x,y,z],_=>
    rw [k] at hsh
    have e1:y.sh=s:=congrArg Prod.fst hsh
    have e2:=congrArg Prod.snd hsh
    have e3:((y.sh==z.sh)&&(x.sh.length==0||x.sh==y.sh))=true:=e2
    rw [Bool.and_eq_true,Bool.or_eq_true,beq_iff_eq,beq_iff_eq,beq_iff_eq] at e3
    obtain ⟨e4,e5⟩:=e3
    have hy:=len_of y (by simp) (by rw [e1])
    have hz:=len_of z (by simp) (by rw [←e4,e1])
    have hx2:x.el.length=1∨x.el.length=sz:=by
     rcases e5 with e5 | e5
     ·left
      have hx0:x.sh=[]:=List.eq_nil_of_length_eq_zero e5
      have:=(ho x (by simp)).2
      rw [hx0,Zbd] at this
      omega
     ·exact .inr (len_of x (by simp) (by rw [e5,e1]))
    have:=Zl6 e.num sz x y z XA xc (.slice SA n sc) w hX (by omega) hx2 (.inr hy) (.inr hz)
    subst hn
    unfold Zbc
    rw [if_neg (by omega),if_neg (by omega),if_neg (by omega),if_pos k,k]
    exact this
  ·have hl2:ts.length=2:=by
    have:madeP e.kind=2:=by rcases k with k | k | k | k | k <;> (rw [k];rfl)
    omega
   match ts,hl2 with
   | [x,y],_=>
    obtain ⟨w1,w2⟩:=wide x y rfl k
    have:=Zfk e.kind e.num sz n 1 x y [x.el,y.el] XA xc (.slice SA n sc) w hX rfl rfl (by rw [hn];rfl) (by omega) (fun h=>by omega) (by omega) (by omega) (by omega) (by omega) (by omega) w1 w2
    unfold Zbc
    rw [if_neg (by omega),if_neg (by omega),if_neg (by omega),if_neg (by omega)]
    exact this
end Go.Proofs.YtghlnncfigkkaaaGreatDoor
namespace Go.Proofs.YtghlnncfigkkaaaGreatDoor
set_option linter.unusedVariables false
set_option linter.unusedSimpArgs false
open Go.RowKit
def ValZ (w:World) (vg n1:Nat):Prop:=∃ cs:List Value,w.heap[vg]?=some (.cells cs.toArray 43 (0,0))∧cs=List.replicate (2*n1) (.slice none 0 0)
def RvP (X:Nat→Prop) (w w9:World) (n1 ns sc ne ec:Nat) (SA EA:Option Addr) (Vi:Nat→TN) (i:Nat) (mk:Nat→Bool) (W:World):Prop:=
 KeepB (fun k=>k=w.heap.size+2) w9 W∧∃ V',RvSt X W w w.heap.size n1 SA EA ns sc ne ec V' mk∧∀ j,j≠i→V' j=Vi j
section
variable {X:Nat→Prop} {w w9 W W':World} {n1 ns sc ne ec i:Nat} {SA EA:Option Addr} {Vi:Nat→TN} {mk:Nat→Bool}
theorem RvP.next (h:RvP X w w9 n1 ns sc ne ec SA EA Vi i mk W) (hb:Below W.heap.size W W'):RvP X w w9 n1 ns sc ne ec SA EA Vi i mk W':=by
 obtain ⟨h1,V',h2,h3⟩:=h
 exact ⟨h1.trans (KeepB.of hb),V',h2.next hb,h3⟩
theorem KeepB.rvx {vg:Nat} (h:KeepB (fun k=>k=vg) W W'):KeepX (rvX X vg) W W':=⟨h.1,fun p hp hx=>by unfold World.cell?;rw [h.2 p.block hp (fun e=>hx (.inr (.inl e)))]⟩
theorem RvP.set (h:RvP X w w9 n1 ns sc ne ec SA EA Vi i mk W) (hi:i<n1) {sv ev:Value} {t:TN} (hv:TnV (rvX X (w.heap.size+2)) W sv ev t):
  RvP X w w9 n1 ns sc ne ec SA EA Vi i mk ((W.setCell ⟨w.heap.size+2,i*2,none⟩ sv).setCell ⟨w.heap.size+2,i*2+1,none⟩ ev)∧RvSt X ((W.setCell ⟨w.heap.size+2,i*2,none⟩ sv).setCell ⟨w.heap.size+2,i*2+1,none⟩ ev) w w.heap.size n1 SA EA ns sc ne ec (fun j=>if j=i then t else Vi j) mk:=by
 obtain ⟨h1,V',h2,h3⟩:=h
 have hs:=h2.set hi hv rfl (fun j=>if j=i then t else Vi j) (fun j=>by
  by_cases hj:j=i
  ·rw [if_pos hj,if_pos hj]
  ·rw [if_neg hj,if_neg hj,h3 j hj])
 refine ⟨⟨h1.trans ⟨by simp [World.setCell],fun k hk hx => ?_⟩,_,hs,fun j hj=>by rw [if_neg hj]⟩,hs⟩
 rw [ZaS _ _ _ hx,ZaS _ _ _ hx]
end
theorem Zl8 {X:Nat→Prop} {w5:World} {du:Nat} (hdu:du≤18446744073709551615) (hX:¬ X w5.heap.size):TnV X (w5.alloc (.cells #[.int .u64 (du:Int)] 39)) (.slice none 0 0) (.slice (some ⟨w5.heap.size,0,none⟩) 1 1) ⟨[],[UInt64.ofNat du]⟩:=by
 refine ⟨ShV.nil _ _,some ⟨w5.heap.size,0,none⟩,1,rfl,Nat.le_refl _,by decide,.inr ⟨w5.heap.size,0,rfl,by simp,hX,fun j v hv => ?_⟩⟩
 have hj:j=0:=by
  have:=(List.getElem?_eq_some_iff.1 hv).1
  simp at this
  exact this
 subst hj
 have hv':v=.int .u64 (du:Int):=by
  simp only [List.map_cons,List.map_nil,List.getElem?_cons_zero,Option.some.injEq] at hv
  rw [←hv]
  unfold U
  rw [UInt64.toNat_ofNat',Nat.mod_eq_of_lt (by omega)]
 rw [hv',cell_of_row _ _ _ _ _ (0,0) (heap_alloc_new w5 _)]
 rfl
theorem Zhv {w:World} {b k:Nat} {v:Value} (h:w.cell? ⟨b,k,none⟩=some v):b<w.heap.size:=by
 rcases Nat.lt_or_ge b w.heap.size with h1 | h1
 ·exact h1
 ·exfalso
  unfold World.cell? at h
  rw [Array.getElem?_eq_none h1] at h
  cases h
theorem lastR {a b c d e f g:Prop} (x:a∧b∧c∧d∧e∧f∧g):g:=x.2.2.2.2.2.2
theorem Zec {e:EI} {names:Zah} {shF:List (List Int)} {s:List Int} {ts:List TN} (hA:ArgsT e names shF s ts) (h2:e.kind≠2):Zab e.kind e.num (ts.map TN.sh)=(s,true)∧Zad s≠0:=by
 obtain ⟨hc,hx,ho,hnn,hl⟩:=hA
 unfold exprC at hc
 rw [if_neg h2] at hc
 dsimp only at hc
 split at hc
 ·cases hc
 ·rename_i hok
  injection hc with hs
  simp only [not_or] at hok
  rw [hs] at hok
  refine ⟨?_,hok.2⟩
  rw [hx]
  refine Prod.ext hs ?_
  cases h:(Zab e.kind e.num (e.args.map fun a=>shF.getD a.toNat [])).2 with
  | true=>rfl
  | false=>exact absurd h hok.1
theorem Zl9 {e:EI} {names nt:Zah} {shF:List (List Int)} {s:List Int} {V:Nat→TN} (hA:ArgsT e names shF s (e.args.map fun a=>V a.toNat)) (h1:e.kind≠1) (h2:e.kind≠2):exprR e V nt=⟨s,Zbc e.kind e.num (Zad s).toNat (e.args.map fun a=>V a.toNat)⟩:=by
 have h:=(Zec hA h2).1
 rw [List.map_map] at h
 unfold exprR
 rw [if_neg h1,if_neg h2]
 dsimp only
 have h3:(Zab e.kind e.num (e.args.map fun a=>(V a.toNat).sh)).1=s:=congrArg Prod.fst h
 rw [h3]
theorem ZjK {k:Int} (h:0≤madeP k):1≤k∧k≤14:=by
 unfold madeP at h
 split at h
 ·omega
 ·split at h
  ·omega
  ·split at h
   ·omega
   ·split at h
    ·omega
    ·omega
theorem Zie (X:Nat→Prop) (SA EA:Option Addr) (ns sc ne ec:Nat) (es:List EI) (shF:List (List Int)) (root:Nat) (NA:Option Addr) (nn nc:Nat) (nv:List (ByteArray × Value × Value)) (names:Zah) (w:World)
  (hne:ne=es.length) (hr:root<ne) (hn:ne≤100000) (hRd:RdEI w w.heap.size EA es) (hok:exsOk 0 es=true) (hl:LetOk es (shN names) shF root) (hnum:∀ e∈es,e.num≤18446744073709551615) (hnn:nn=nv.length) (hnl:nn≤1000000) (hnm:RdNt w NA nv) (hN:NamT X w (nv.map nm3A) names) (hX:∀ k,X k→k<w.heap.size):
  Calls Tryz.prog 62 #[.agg #[.slice SA ns sc,.slice EA ne ec],.int .i64 (root:Int),.slice NA nn nc] w fun e w'=>Below w.heap.size w w'∧∃ sv ev,e=.returned (.agg #[sv,ev])∧TnV X w' sv ev (letR es (Zac es root) names (root+1) root):=by
 obtain ⟨B,hB⟩:∃ B,B=w.heap.size:=⟨_,rfl⟩
 obtain ⟨n1,hn1⟩:∃ n1,n1=root+1:=⟨_,rfl⟩
 obtain ⟨wA,hwA⟩:∃ wA,wA=w.alloc (.cells #[.slice SA ns sc,.slice EA ne ec] 26):=⟨_,rfl⟩
 obtain ⟨wB,hwB⟩:∃ wB,wB=wA.alloc (.cells #[.slice none 0 0,.slice none 0 0] 43):=⟨_,rfl⟩
 obtain ⟨wC,hwC⟩:∃ wC,wC=wB.alloc (.cells (List.replicate (n1*2) (Value.slice none 0 0)).toArray 43):=⟨_,rfl⟩
 obtain ⟨wD,hwD⟩:∃ wD,wD=wC.alloc (.cells ((List.range n1).map fun _=>Value.bool false).toArray 4):=⟨_,rfl⟩
 have sA:wA.heap.size=B+1:=by rw [hwA,World.size_alloc,hB]
 have sB:wB.heap.size=B+2:=by rw [hwB,World.size_alloc,sA]
 have sC:wC.heap.size=B+3:=by rw [hwC,World.size_alloc,sB]
 have bA:Below w.heap.size w wA:=by rw [hwA];exact (Below.refl _ _).alloc (Nat.le_refl _) _
 have bB:Below wA.heap.size wA wB:=by rw [hwB];exact (Below.refl _ _).alloc (Nat.le_refl _) _
 have bC:Below wB.heap.size wB wC:=by rw [hwC];exact (Below.refl _ _).alloc (Nat.le_refl _) _
 have bD:Below wC.heap.size wC wD:=by rw [hwD];exact (Below.refl _ _).alloc (Nat.le_refl _) _
 have tA:wA.heap[B]?=some (.cells #[.slice SA ns sc,.slice EA ne ec] 26 (0,0)):=by rw [hwA,hB];exact heap_alloc_new w _
 have tB:wB.heap[B+1]?=some (.cells #[.slice none 0 0,.slice none 0 0] 43 (0,0)):=by rw [hwB,←sA];exact heap_alloc_new wA _
 have tC:wC.heap[B+2]?=some (.cells (List.replicate (n1*2) (Value.slice none 0 0)).toArray 43 (0,0)):=by rw [hwC,←sB];exact heap_alloc_new wB _
 have tD:MkB wD 4 (B+3) n1 (fun _=>.bool false):=by rw [hwD,←sC];exact heap_alloc_new wC _
 have hAD:Below wA.heap.size wA wD:=bnext bB (bnext bC bD)
 have hBD:Below wB.heap.size wB wD:=bnext bC bD
 have hZD:ValZ wD (B+2) n1:=⟨_,(bD.block _ (by omega)).trans tC,by rw [Nat.mul_comm]⟩
 have hS0:RvSt X wD w B n1 SA EA ns sc ne ec (fun _=>zTN) (fun _=>false):=by
  refine ⟨hB,(hAD.block _ (by omega)).trans tA,(hBD.block _ (by omega)).trans tB,tD,?_,bnext bA hAD⟩
  obtain ⟨cs,z1,z2⟩:=hZD
  refine ⟨cs,z1,by rw [z2];simp,fun j hj=>⟨.slice none 0 0,.slice none 0 0,?_,?_,TnV.nil _ _⟩⟩
  ·rw [z2,List.getElem?_replicate,if_pos (by omega)]
  ·rw [z2,List.getElem?_replicate,if_pos (by omega)]
 have hw1:IntKind.i64.wrap ((root:Int)+1)=(n1:Int):=by rw [IntKind.wrap_i64];omega
 have mk1:(Instr.makeSlice 44 (.int .i64 (n1:Int)) (.int .i64 (n1:Int))).run Tryz.prog ((w.alloc (.cells #[.slice SA ns sc,.slice EA ne ec] 26)).alloc (.cells #[.slice none 0 0,.slice none 0 0] 43))=.ok (.slice (some ⟨B+2,0,none⟩) n1 n1) wC:=by
  rw [←hwA,←hwB,hwC,←sB];exact Zdu n1 (by omega) wB _ rfl
 have mk2:(Instr.makeSlice 73 (.int .i64 (n1:Int)) (.int .i64 (n1:Int))).run Tryz.prog wC=.ok (.slice (some ⟨B+3,0,none⟩) n1 n1) wD:=by
  rw [hwD,←sC];exact Zer n1 (by omega) wC _ rfl
 subst hB
 have HNE:=hid hne
 have HRD:=hid hRd
 have HOK:=hid hok
 have HL:=hid hl
 have HNU:=hid hnum
 have HNN:=hid hnn
 have HNM:=hid hnm
 have HNT:=hid hN
 have HX:=hid hX
 have HN1:=hid hn1
 have HS0:=hid hS0
 have HZ0:=hid hZD
 have HA0:=hid (ZaU hok)
 have r0:(0:Int)≤(root:Int):=by omega
 have r1:(root:Int)<(n1:Int):=by omega
 have fr0:wD.frozen? ⟨w.heap.size+3,root,none⟩=false:=tD.free root
 have cw0:=tD.cell (i:=root) (by omega)
 have HRN:=hid (show root+1=n1 from hn1.symm)
 have HSZ:=hid sA
 clear hwA hwB hwC hwD sA sB sC bA bB bC bD tA tB tC tD hAD hBD hZD hS0 hne hRd hok hl hnum hnn hnm hN hX hn1
 go_enter Tryz.func62,Tryz.ntmps62
 go_wp2
 obtain ⟨hm1,hz1⟩:=HS0.out.mark (i:=root) (by have:=HRN.out;omega) (fun a=>a==root) (fun a=>by
  by_cases h:a=root
  ·subst h;simp
  ·simp [h]) HZ0.out
 have HM1:=hid hm1
 have HZ1:=hid hz1
 clear hm1 hz1 HS0 HZ0 fr0 cw0 mk1 mk2
 go_loopw [9] (fun iv wr=>∃ (j:Nat) (m:Nat→Bool),j≤root+1∧iv=.int .i64 ((j:Int)-1)∧Zac es root=markP es root j m∧RvSt X wr w w.heap.size n1 SA EA ns sc ne ec (fun _=>zTN) m∧ValZ wr (w.heap.size+2) n1) (fun iv _=>(intOf iv+1).toNat)
 case atStart=>exact ⟨root+1,fun a=>a==root,Nat.le_refl _,(by rw [show ((root+1:Nat):Int)-1=(root:Int) by omega]),rfl,HM1.out,HZ1.out⟩
 case round=>
  clear HM1 HZ1
  obtain ⟨j,m,hj,rfl,hwm,hM,hZ⟩:=hrel
  have HW:=hid hwm
  have HM:=hid hM
  have HZ:=hid hZ
  clear hwm hM hZ
  match j,hj,HW with
  | 0,hj,HW=>
   rw [show (((0:Nat):Int)-1) = -1 by omega]
   have HM2:=hid (show RvSt X wr w w.heap.size n1 SA EA ns sc ne ec (letR es (Zac es root) names 0) (Zac es root) from by rw [HW.out];exact HM.out)
   obtain ⟨mk,hmk⟩:∃ mk,mk=Zac es root:=⟨_,rfl⟩
   clear HM HZ HW
   go_wp2
   go_loopw [11] (fun iv wr=>∃ i:Nat,i≤n1∧iv=.int .i64 (i:Int)∧RvSt X wr w w.heap.size n1 SA EA ns sc ne ec (letR es (Zac es root) names i) (Zac es root)) (fun iv _=>n1-(intOf iv).toNat)
   case atStart=>exact ⟨0,by omega,rfl,HM2.out⟩
   case round=>
    clear HM2
    obtain ⟨i,hi,rfl,hS⟩:=hrel
    have HS:=hid hS
    by_cases hlt:i<n1
    ·have hle:i≤root:=by have:=HRN.out;omega
     have hq1:(i:Int)≤(root:Int):=by omega
     have ht:es[i]?=some (es[i]'(by rw [←HNE.out];omega)):=List.getElem?_eq_getElem _
     obtain ⟨d,hd⟩:∃ d,d=es[i]'(by rw [←HNE.out];omega):=⟨_,rfl⟩
     rw [←hd] at ht
     have HT:=hid ht
     have hdu:=HNU.out d (List.mem_of_getElem? ht)
     obtain ⟨b,o,rfl,hbl,c0,c1,c2,⟨A',c',c3,c3r,c3n,-⟩,c4⟩:=(HRD.out.below hS.hb).at_ ht
     obtain ⟨Vi,hVi⟩:∃ Vi,Vi=letR es (Zac es root) names i:=⟨_,rfl⟩
     have HVI:=hid hVi
     rw [←hVi] at HS
     have hnx:=Zcb es (Zac es root) names i
     rw [ht] at hnx
     dsimp only at hnx
     rw [←hVi] at hnx
     have HNX:=hid hnx
     have HARG:=hid (fun (hm:Zac es root i=true)=>ZjI HOK.out HA0.out HL.out HNT.out.ok hm ht)
     obtain ⟨dk,dn,du,da,dp⟩:=d
     dsimp only at c0 c1 c2 c3 c3r c3n c4 hdu HARG
     obtain ⟨al,hal⟩:∃ al,al=da.length:=⟨_,rfl⟩
     rw [←hal] at c3 c3n
     have HAL:=hid hal
     have hsm:=hid (fun (k:Nat) (x:Int) (hx:da[k]?=some x)=>Zc0 HOK.out HT.out hx)
     obtain ⟨w5,hw5⟩:∃ w5,w5=wr.alloc (.cells #[.int .i64 dk,.string dn,.int .u64 (du:Int),.slice A' al c',.int .i64 dp] 90):=⟨_,rfl⟩
     have hb5:Below wr.heap.size wr w5:=by rw [hw5];exact (Below.refl _ _).alloc (Nat.le_refl _) _
     obtain ⟨eb,heb⟩:∃ eb,eb=wr.heap.size:=⟨_,rfl⟩
     have hE:w5.heap[eb]?=some (.cells #[.int .i64 dk,.string dn,.int .u64 (du:Int),.slice A' al c',.int .i64 dp] 90 (0,0)):=by rw [hw5,heb];exact heap_alloc_new wr _
     have HEB:=hid (show w.heap.size+3<eb by rw [heb];exact hS.lt)
     have HS5:=hid (HS.out.next hb5)
     have HC3:=hid ((c3r.more hS.hb.size).next hb5)
     have tt:=cell_of_row _ _ 1 _ _ _ hS.ht
     have HW5:=hid hw5
     have HE5:=hid hE
     have HBW5:=hid (bnext hS.hb hb5)
     have i0:(0:Int)≤(i:Int):=by omega
     have i1:(i:Int)<(n1:Int):=by omega
     have i2:(i:Int)<(ne:Int):=by omega
     clear ht hd hbl c3r hS hnx hVi hal hw5 hb5 hE
     go_upto_region 15 with fail
     rw [←HW5.out,←heb]
     clear heb
     have e0:=cell_of_row _ _ 0 _ _ _ HE5.out
     have e1:=cell_of_row _ _ 1 _ _ _ HE5.out
     have e2:=cell_of_row _ _ 2 _ _ _ HE5.out
     have e3:=cell_of_row _ _ 3 _ _ _ HE5.out
     have e4:=cell_of_row _ _ 4 _ _ _ HE5.out
     have ci:=HS5.out.hm.cell (i:=i) (by omega)
     clear c0 c1 c2 c3 c4 HS tt
     cases hmi:Zac es root i with
     | false=>
      rw [hmi] at ci
      have HEQ:=hid (show letR es (Zac es root) names (i+1)=Vi from by
       funext a
       rw [Zcb,if_neg (by rw [hmi];simp),HVI.out])
      go_wp2
      exact ⟨⟨i+1,by omega,rfl,by rw [HEQ.out];exact HS5.out⟩,by simp [intOf];omega⟩
     | true=>
      rw [hmi] at ci
      have HMI:=hid hmi
      obtain ⟨hA,hTok,hTsh⟩:=HARG.out hmi
      rw [←HVI.out] at hA
      have HEQ:=hid (show letR es (Zac es root) names (i+1)=fun a=>if a=i then exprR ⟨dk,dn,du,da,dp⟩ Vi names else Vi a from by
       funext a
       rw [Zcb,HT.out]
       by_cases ha:a=i
       ·rw [if_pos ⟨ha,hmi⟩,if_pos ha,←HVI.out]
       ·rw [if_neg (fun e=>ha e.1),if_neg ha,HVI.out])
      obtain ⟨_,_,_,_,u0,u1,_⟩:=HS5.out.val (a:=i) (by omega)
      have HAA:=hid hA
      clear hmi hTok hTsh hA HARG HNX
      have HXN:=hid (show ∀ k,rvX X (w.heap.size+2) k→k<w5.heap.size from fun k hk=>by
       have:=HEB.out
       have:=(Array.getElem?_eq_some_iff.1 HE5.out).1
       rcases hk with h | h | h
       ·have:=HX.out k h;omega
       ·omega
       ·omega)
      by_cases k1:dk=1
      ·subst k1
       obtain ⟨w6,hw6⟩:∃ w6,w6=w5.alloc (.cells #[.int .u64 (du:Int)] 39):=⟨_,rfl⟩
       have hb6:Below w5.heap.size w5 w6:=by rw [hw6];exact (Below.refl _ _).alloc (Nat.le_refl _) _
       have hs6:=HS5.out.next hb6
       have htv:=Zl8 (X:=rvX X (w.heap.size+2)) (w5:=w5) hdu (fun h=>by have:=HXN.out _ h;omega)
       rw [←hw6] at htv
       have HST:=hid (hs6.set (a:=i) (by omega) htv rfl (letR es (Zac es root) names (i+1)) (fun j=>by
        rw [HEQ.out]
        dsimp only
        by_cases hj:j=i
        ·rw [if_pos hj,if_pos hj];rfl
        ·rw [if_neg hj,if_neg hj]))
       obtain ⟨_,_,_,_,v0,v1,_⟩:=hs6.val (a:=i) (by omega)
       have f0:=hs6.free (i*2)
       have f1:=hs6.free (i*2+1)
       rw [hw6] at v0 v1 f0 f1 HST
       clear hw6 hb6 hs6 htv u0 u1 HAA
       go_wp2
       exact ⟨⟨i+1,by omega,rfl,HST.out⟩,by simp [intOf];omega⟩
      ·have q1:(dk==1)=false:=by rw [beq_eq_false_iff_ne];exact k1
       by_cases k2:dk=2
       ·subst k2
        have hfd:(findN (shN names) dn).isSome=true:=by
         have hc:=HAA.out.hc
         unfold exprC at hc
         rw [if_pos rfl] at hc
         dsimp only at hc
         cases hf:findN (shN names) dn with
         | none=>rw [hf] at hc;cases hc
         | some z=>rfl
        have HF:=hid (ZeE (rvX X (w.heap.size+2)) NA nn nc nv names dn w5 HNN.out hnl (HNM.out.next HBW5.out) (NamT.inn HBW5.out (by omega) HNT.out) hfd)
        clear hfd u0 u1 HAA
        go_wp2_with (go_at_call 63;refine HF.out.mono ?_;rintro e w6 ⟨b6,sv,ev,rfl,tv⟩;have B6:=hid b6;have TV:=hid tv;obtain ⟨⟨A1,c1,rfl,-⟩,A2,c2,rfl,-⟩:=tv;obtain ⟨_,_,_,_,v0,v1,_⟩:=(HS5.out.next b6).val (a:=i) (by omega);have f0:=(HS5.out.next b6).free (i*2);have f1:=(HS5.out.next b6).free (i*2+1);clear b6)
        exact ⟨⟨i+1,by omega,rfl,(HS5.out.next B6.out).set (a:=i) (by omega) TV.out rfl _ (fun j=>by
         rw [HEQ.out]
         dsimp only
         by_cases hj:j=i
         ·rw [if_pos hj,if_pos hj];rfl
         ·rw [if_neg hj,if_neg hj])⟩,by simp [intOf];omega⟩
       ·have q2:(dk==2)=false:=by rw [beq_eq_false_iff_ne];exact k2
        have hmd:(al:Int)=madeP dk:=by rw [HAL.out];exact HAA.out.hl
        have hal3:al≤3:=by have:=Zgg dk;omega
        have HMD:=hid hmd
        have hkn:1≤dk∧dk≤14:=ZjK (by omega)
        have HKN:=hid hkn
        have HK1:=hid k1
        have HK2:=hid k2
        have HVLE:=hid (show ∀ (W:World),Below w5.heap.size w5 W→W.cell? ⟨eb,0,none⟩=some (.int .i64 dk)∧W.cell? ⟨eb,1,none⟩=some (.string dn)∧W.cell? ⟨eb,2,none⟩=some (.int .u64 (du:Int))∧W.cell? ⟨eb,3,none⟩=some (.slice A' al c')∧W.cell? ⟨eb,4,none⟩=some (.int .i64 dp) from fun W hW=>by
         have h:=(hW.block _ (Array.getElem?_eq_some_iff.1 HE5.out).1).trans HE5.out
         exact ⟨cell_of_row _ _ 0 _ _ _ h,cell_of_row _ _ 1 _ _ _ h,cell_of_row _ _ 2 _ _ _ h,cell_of_row _ _ 3 _ _ _ h,cell_of_row _ _ 4 _ _ _ h⟩)
        clear u0 u1 hmd hkn k1 k2
        go_wp2
        go_loopw [13,14,98] (fun xv sv kv wx=>∃ (k:Nat) (A:Option Addr) (c:Nat) (A2:Option Addr) (c2:Nat),k≤al∧kv=.int .i64 (k:Int)∧xv=.slice A k c∧sv=.slice A2 k c2∧ArgsW (rvX X (w.heap.size+2)) w5 wx A A2 k c c2 ((da.take k).map fun a=>Vi a.toNat)∧Below w5.heap.size w5 wx) (fun _ _ kv _=>al-(intOf kv).toNat)
        case atStart=>exact ⟨0,none,0,none,0,by omega,rfl,rfl,rfl,ArgsW.nil _ _ _,Below.refl _ _⟩
        case round=>
         clear e0 e1 e2 e3 e4 ci
         obtain ⟨k,A,c,A2,c2,hk,rfl,rfl,rfl,hAW,hbx⟩:=hrel
         have HAW:=hid hAW
         have HBX:=hid hbx
         obtain ⟨e0,e1,e2,e3,e4⟩:=HVLE.out _ hbx
         clear hAW hbx
         by_cases hlk:k<al
         ·have ht:da[k]?=some (da[k]'(by rw [←HAL.out];exact hlk)):=List.getElem?_eq_getElem _
          obtain ⟨x,hx⟩:∃ d,d=da[k]'(by rw [←HAL.out];exact hlk):=⟨_,rfl⟩
          rw [←hx] at ht
          obtain ⟨x0,x1⟩:=hsm.out k x ht
          obtain ⟨a,rfl⟩:∃ a:Nat,x=(a:Int):=⟨x.toNat,by omega⟩
          obtain ⟨b2,o2,rfl,hbl2,d0⟩:=HC3.out.at_ (show (da.map VI)[k]?=some (VI (a:Int)) by rw [List.getElem?_map,ht];rfl)
          unfold VI at d0
          obtain ⟨A1',c1',A2',c2',v0,v1,tv⟩:=HS5.out.val (a:=a) (by omega)
          obtain ⟨T,hT⟩:∃ T,T=Vi a:=⟨_,rfl⟩
          rw [←hT] at v0 v1 tv
          obtain ⟨l1,hl1⟩:∃ l1,l1=T.sh.length:=⟨_,rfl⟩
          obtain ⟨l2,hl2⟩:∃ l2,l2=T.el.length:=⟨_,rfl⟩
          rw [←hl1] at v0 tv
          rw [←hl2] at v1 tv
          have htk:(da.take (k+1)).map (fun a=>Vi a.toNat)=(da.take k).map (fun a=>Vi a.toNat)++[T]:=by
           rw [List.take_succ_eq_append_getElem (by rw [←HAL.out];exact hlk),List.map_append,←hx,hT]
           rfl
          have HTK:=hid htk
          have HTV:=hid tv
          obtain ⟨vs,us,hvs,hus,hts,p1,p2,hvv⟩:=HAW.out.ex
          have HAP:=hid HAW.out.ap
          have HVS:=hid hvs
          have HUS:=hid hus
          have HTS:=hid hts
          have HP1:=hid p1
          have HP2:=hid p2
          have HVV:=hid hvv
          have HLV:=hid (show ∀ W,Below w5.heap.size w5 W→W.cell? ⟨b2,o2+k,none⟩=some (.int .i64 (a:Int))∧W.cell? ⟨w.heap.size+2,a*2,none⟩=some (.slice A1' l1 c1')∧W.cell? ⟨w.heap.size+2,a*2+1,none⟩=some (.slice A2' l2 c2') from fun W hW=>
           ⟨(hW.cell (p:=⟨b2,_,none⟩) hbl2).trans d0,(hW.cell (p:=⟨_,_,none⟩) (Zhv v0)).trans v0,(hW.cell (p:=⟨_,_,none⟩) (Zhv v1)).trans v1⟩)
          have k0:(0:Int)≤(k:Int):=by omega
          have k1:(k:Int)<(al:Int):=by omega
          have a0:(0:Int)≤(a:Int):=by omega
          have a1:(a:Int)<(n1:Int):=by omega
          obtain ⟨g0,g1,g2⟩:=HLV.out _ HBX.out
          clear ht hx hbl2 x0 x1 d0 v0 v1 tv hT hl1 hl2 htk hvs hus hts p1 p2 hvv
          go_wp2_with (first
           | (at_builtin;(refine appWs rfl (.tmp 101) (.tmp 111) rfl w5.heap.size A c vs k HVS.out rfl (HP1.out.alloc _) (some ⟨wr.heap.size,0,none⟩) 1 (wr.heap.size+1) (.slice A2' l2 c2') rfl (Rd.one _ _ _) (fun h=>by cases h) rfl (by omega) (by have:=HBX.out.size;simp;omega) ?_);intro A9 k9 w9 o9 g9 h9;have O9:=hid o9;have B9:=hid ((HBX.out.alloc HBX.out.size _).grown g9 (by have:=HBX.out.size;simp;omega) (fun q hq=>(HP1.out.lt q hq).1));obtain ⟨e0,e1,e2,e3,e4⟩:=HVLE.out _ B9.out;obtain ⟨m0,m1,m2⟩:=HLV.out _ B9.out;have ST:=hid (Zic (o2:=.cells #[.slice A1' l1 c1'] 41) (t:=T) HVS.out HUS.out HTS.out HP2.out HVV.out HAP.out HTV.out HBX.out.size o9 g9 h9 (fun q hq=>(o9.lt q hq).2));clear o9 g9 h9)
           | (at_builtin;(refine appIs rfl (.tmp 113) (.tmp 123) rfl w5.heap.size A2 c2 us k HUS.out rfl (ST.out.1.alloc _) (some ⟨w9.heap.size,0,none⟩) 1 (w9.heap.size+1) (.slice A1' l1 c1') rfl (Rd.one _ _ _) (fun h=>by cases h) rfl (by omega) (by have:=B9.out.size;simp;omega) ?_);intro A7 k7 w7 o7 g7 h7;have B7:=hid ((B9.out.alloc B9.out.size _).grown g7 (by have:=B9.out.size;simp;omega) (fun q hq=>(HP2.out.lt q hq).1));have R7:=hid (ST.out.2 A7 k7 w7 o7 g7 h7);clear o7 g7 h7))
          exact ⟨⟨k+1,A9,k9,A7,k7,by omega,rfl,rfl,rfl,by rw [HTK.out];exact R7.out,B7.out⟩,by simp [intOf];omega⟩
         ·obtain rfl:k=al:=by omega
          obtain ⟨ts,hts⟩:∃ ts,ts=da.map fun a=>Vi a.toNat:=⟨_,rfl⟩
          have hA:=HAA.out
          try dsimp only at hA
          rw [←hts] at hA
          have haw:=HAW.out
          rw [HAL.out,List.take_length,←HAL.out,←hts] at haw
          obtain ⟨s,hs⟩:∃ s,s=shF.getD i []:=⟨_,rfl⟩
          rw [←hs] at hA
          obtain ⟨hsh,hel⟩:=Zec hA HK2.out
          try dsimp only at hsh
          have hex:=Zl9 (e:=⟨dk,dn,du,da,dp⟩) (names:=names) (nt:=names) (shF:=shF) (s:=s) (V:=Vi) (by show ArgsT _ _ _ _ (da.map fun a=>Vi a.toNat);rw [←hts];exact hA) HK1.out HK2.out
          try dsimp only at hex
          rw [←hts] at hex
          have hlen:∀ t∈ts,t.el.length≤1000000:=fun t ht=>by
           have h1:=hA.ho t ht
           have h2:=Zby h1.1
           have h3:=h1.2
           omega
          have htl:k=ts.length:=by rw [hts,List.length_map];exact HAL.out
          obtain ⟨hrw,hrs,hsl⟩:=Zl7 haw HBX.out hlen
          obtain ⟨hwx,hsx⟩:=ZjJ haw HBX.out hlen HXN.out
          have HSH:=hid (Zes (rvX X (w.heap.size+2)) dk dn du (.slice A' k c') dp (ts.map TN.sh) A2 k c2 wr (by rw [List.length_map];exact htl) HK2.out (by rw [List.length_map,←htl];exact HMD.out.symm) (fun q hq=>Nat.lt_of_lt_of_le (HXN.out q hq) HBX.out.size) hsl)
          rw [hsh] at HSH
          have HWX:=hid hwx
          have HSX:=hid hsx
          have HARGS:=hid hA
          have HTL:=hid htl
          have HEX:=hid hex
          have HEL0:=hid hel
          obtain ⟨L,hL⟩:∃ L,L=Zbc dk du (Zad s).toNat ts:=⟨_,rfl⟩
          have HLL:=hid hL
          rw [←hL] at HEX
          obtain ⟨es',hes⟩:∃ z,z=Zad s:=⟨_,rfl⟩
          have HES:=hid hes
          clear hts hA haw hs hsh hel hex hlen htl hrw hrs hsl hwx hsx hL hes HAW HAA
          go_upto_region 29 with (go_at_call 105;refine HSH.out.mono ?_;rintro e w9 ⟨v,rfl,hv,hb9⟩;have B9:=hid hb9;have V9:=hid hv;clear hb9)
          obtain ⟨Av,cv,rfl,hv1,hv2,hv3,hv4⟩:=hv
          obtain ⟨sl,hsl⟩:∃ sl,sl=s.length:=⟨_,rfl⟩
          rw [←hsl] at V9 ⊢
          have B59:=hid (bnext HBX.out B9.out)
          have HX9:=hid (fun q hq=>Nat.lt_of_lt_of_le (HXN.out q hq) B59.out.size)
          obtain ⟨mk,hmk⟩:∃ mk,mk=Zac es root:=⟨_,rfl⟩
          have HP0:=hid (show RvP X w w9 n1 ns sc ne ec SA (some ⟨b,o,none⟩) Vi i mk w9.drew from ⟨⟨Nat.le_refl _,fun _ _ _=>rfl⟩,Vi,by rw [hmk];exact (HS5.out.next B59.out).next (Below.refl _ _).drew,fun _ _=>rfl⟩)
          have HE9:=hid ((B59.out.block _ (Array.getElem?_eq_some_iff.1 HE5.out).1).trans HE5.out)
          have HEBL:=hid (Array.getElem?_eq_some_iff.1 HE9.out).1
          have HSS:=hid (show ∀ W,RvP X w w9 n1 ns sc ne ec SA (some ⟨b,o,none⟩) Vi i mk W→W.cell? ⟨eb,0,none⟩=some (.int .i64 dk)∧W.cell? ⟨eb,2,none⟩=some (.int .u64 (du:Int))∧W.cell? ⟨w.heap.size+2,i*2,none⟩=some (cellV W ⟨w.heap.size+2,i*2,none⟩)∧W.cell? ⟨w.heap.size+2,i*2+1,none⟩=some (cellV W ⟨w.heap.size+2,i*2+1,none⟩)∧W.frozen? ⟨w.heap.size+2,i*2,none⟩=false∧W.frozen? ⟨w.heap.size+2,i*2+1,none⟩=false∧RvP X w w9 n1 ns sc ne ec SA (some ⟨b,o,none⟩) Vi i mk W from fun W hP=>by
           have hP':=hP
           obtain ⟨p1,V',p2,p3⟩:=hP
           have he:=(p1.2 eb HEBL.out (by have:=HEB.out;omega)).trans HE9.out
           obtain ⟨_,_,_,_,z0,z1,_⟩:=p2.val (a:=i) (by omega)
           exact ⟨cell_of_row _ _ 0 _ _ _ he,cell_of_row _ _ 2 _ _ _ he,Zd8 z0,Zd8 z1,p2.free _,p2.free _,hP'⟩)
          have HEL:=hid (show ∀ W,RvP X w w9 n1 ns sc ne ec SA (some ⟨b,o,none⟩) Vi i mk W→Calls Tryz.prog 58 #[.slice Av sl cv] W fun e w'=>e=.returned (.int .i64 es')∧W=w' from fun W hP=>by
           have h:=ZbE Av sl cv s W hsl (by omega) (hv4.keep hP.1.rvx).rd
           rw [←HES.out] at h
           exact h)
          have HWO:=hid (show ∀ W,RvP X w w9 n1 ns sc ne ec SA (some ⟨b,o,none⟩) Vi i mk W→Calls Tryz.prog 106 #[.int .i64 dk,.int .u64 (du:Int),.int .i64 es',.slice A k c,.slice A2 k c2] W fun e w'=>(∃ A6 c6 n6,e=.returned (.slice A6 n6 c6)∧WoV (rvX X (w.heap.size+2)) w' (.slice A6 n6 c6) L)∧RvP X w w9 n1 ns sc ne ec SA (some ⟨b,o,none⟩) Vi i mk w'∧Below W.heap.size W w' from fun W hP=>by
           have hkx:=(KeepX.of (X:=rvX X (w.heap.size+2)) B9.out)
           have h:=Zid ⟨dk,dn,du,da,dp⟩ names shF s ts HARGS.out HK1.out HK2.out HKN.out A A2 k c c2 W HTL.out ((HWX.out.keep hkx).keep hP.1.rvx).ws ((HSX.out.keep hkx).keep hP.1.rvx).sh
           try dsimp only at h
           rw [←HES.out] at h
           refine h.mono ?_
           rintro e w' ⟨hb,A6,c6,rfl,ho⟩
           rw [HES.out,←HLL.out] at ho ⊢
           exact ⟨⟨A6,c6,_,rfl,A6,c6,rfl,(ZgH ho).1,(ZgH ho).2,RdX.of_own ho (fun q hq=>Nat.lt_of_lt_of_le (HX9.out q hq) hP.1.1)⟩,hP.next hb,hb⟩)
          have HFI:=hid (show ∀ (w6:World) (A6:Option Addr) (n6 c6:Nat),RvP X w w9 n1 ns sc ne ec SA (some ⟨b,o,none⟩) Vi i mk w6→WoV (rvX X (w.heap.size+2)) w6 (.slice A6 n6 c6) L→RvP X w w9 n1 ns sc ne ec SA (some ⟨b,o,none⟩) Vi i mk ((w6.setCell ⟨w.heap.size+2,i*2,none⟩ (.slice Av sl cv)).setCell ⟨w.heap.size+2,i*2+1,none⟩ (.slice A6 n6 c6))∧RvSt X ((w6.setCell ⟨w.heap.size+2,i*2,none⟩ (.slice Av sl cv)).setCell ⟨w.heap.size+2,i*2+1,none⟩ (.slice A6 n6 c6)) w w.heap.size n1 SA (some ⟨b,o,none⟩) ns sc ne ec (letR es (Zac es root) names (i+1)) (Zac es root) from fun w6 A6 n6 c6 hP hW6=>by
           have hr:=hP.set (i:=i) (by omega) (sv:=.slice Av sl cv) (ev:=.slice A6 n6 c6) (t:=⟨s,L⟩) ⟨V9.out.keep hP.1.rvx,hW6⟩
           refine ⟨hr.1,?_⟩
           have h2:=hr.2
           rw [hmk] at h2
           rw [HEQ.out,HEX.out]
           exact h2)
          clear e0 e1 e2 e3 e4 hv1 hv2 hv3 hv4 hsl
          go_wp2_with fail
          have S0:=hid (HSS.out _ HP0.out)
          go_region_held3 (fun w'=>w'.cell? ⟨eb,0,none⟩=some (.int .i64 dk)∧w'.cell? ⟨eb,2,none⟩=some (.int .u64 (du:Int))∧w'.cell? ⟨w.heap.size+2,i*2,none⟩=some (cellV w' ⟨w.heap.size+2,i*2,none⟩)∧w'.cell? ⟨w.heap.size+2,i*2+1,none⟩=some (cellV w' ⟨w.heap.size+2,i*2+1,none⟩)∧w'.frozen? ⟨w.heap.size+2,i*2,none⟩=false∧w'.frozen? ⟨w.heap.size+2,i*2+1,none⟩=false∧RvP X w w9 n1 ns sc ne ec SA (some ⟨b,o,none⟩) Vi i mk w') (first | with_reducible exact S0.out | assumption | exact HSS.out _ (by assumption) | exact HSS.out _ (HFI.out _ _ _ _ P6.out V6.out).1)
           (first
            | (go_at_call 58;refine (HEL.out _ ?_).mono ?_;(apply lastR;assumption);rintro e w' ⟨rfl,rfl⟩)
            | (go_at_call 106;refine (HWO.out _ ?_).mono ?_;(apply lastR;assumption);rintro e w6 ⟨⟨A6,c6,n6,rfl,v6⟩,p6,b6⟩;have P6:=hid p6;have V6:=hid v6))
          all_goals
           have R:=hid (HFI.out _ _ _ _ P6.out V6.out)
           go_wp2
           exact ⟨⟨i+1,by omega,rfl,R.out.2⟩,by simp [intOf];omega⟩
    ·obtain rfl:i=n1:=by omega
     have hrn:=HRN.out
     have q1:¬ ((i:Int)≤(root:Int)):=by omega
     obtain ⟨A1,c1,A2,c2,u0,u1,tv⟩:=hS.val (a:=root) (by omega)
     have z0:=cell_of_row _ _ 0 _ _ _ hS.hr
     have z1:=cell_of_row _ _ 1 _ _ _ hS.hr
     have f0:wr.frozen? ⟨w.heap.size+1,0,none⟩=false:=by simp [World.frozen?,hS.hr]
     have f1:wr.frozen? ⟨w.heap.size+1,1,none⟩=false:=by simp [World.frozen?,hS.hr]
     obtain ⟨T,hT⟩:∃ T,T=letR es (Zac es root) names i root:=⟨_,rfl⟩
     rw [←hT] at u0 u1 tv
     obtain ⟨l1,hl1⟩:∃ l1,l1=T.sh.length:=⟨_,rfl⟩
     obtain ⟨l2,hl2⟩:∃ l2,l2=T.el.length:=⟨_,rfl⟩
     rw [←hl1] at u0 tv
     rw [←hl2] at u1 tv
     have HTV:=hid tv
     have HTT:=hid hT
     have HR:=hid hS.hr
     have HBW:=hid hS.hb
     clear hS tv hT hl1 hl2 hrn
     go_wp2
     obtain ⟨W,hW⟩:∃ W,W=(wr.setCell ⟨w.heap.size+1,0,none⟩ (.slice A1 l1 c1)).setCell ⟨w.heap.size+1,1,none⟩ (.slice A2 l2 c2):=⟨_,rfl⟩
     rw [←hW]
     have hWh:W.heap[w.heap.size+1]?=some (.cells #[.slice A1 l1 c1,.slice A2 l2 c2] 43 (0,0)):=by rw [hW];simp [World.setCell,Array.getElem?_modify,HR.out]
     have hWb:Below w.heap.size w W:=by rw [hW];exact Zaf (Zaf HBW.out (Nat.le_succ _) _) (Nat.le_succ _) _
     have r0:W.cell? ⟨w.heap.size+1,0,none⟩=some (.slice A1 l1 c1):=cell_of_row _ _ 0 _ _ _ hWh
     have r1:W.cell? ⟨w.heap.size+1,1,none⟩=some (.slice A2 l2 c2):=cell_of_row _ _ 1 _ _ _ hWh
     have htv:TnV X W (.slice A1 l1 c1) (.slice A2 l2 c2) (letR es (Zac es root) names (root+1) root):=by
      have h:=HTV.out
      rw [hW,HRN.out,←HTT.out]
      exact ((h.set (X:=rvX X (w.heap.size+2)) (.inr (.inr rfl))).set (.inr (.inr rfl))).out
     exact bodyPost_ret (v:=.agg #[.slice A1 l1 c1,.slice A2 l2 c2]) (by simp [results,Tryz.results62,go_sem,r0,r1]) rfl ⟨hWb,_,_,rfl,htv⟩
  | i+1,hj,HW=>
   rw [show (((i+1:Nat):Int)-1)=(i:Int) by omega]
   have ht:es[i]?=some (es[i]'(by rw [←HNE.out];omega)):=List.getElem?_eq_getElem _
   obtain ⟨d,hd⟩:∃ d,d=es[i]'(by rw [←HNE.out];omega):=⟨_,rfl⟩
   rw [←hd] at ht
   have HT:=hid ht
   obtain ⟨dk,dn,du,da,dp⟩:=d
   obtain ⟨al,hal⟩:∃ al,al=da.length:=⟨_,rfl⟩
   have HAL:=hid hal
   have hsm:=hid (fun (k:Nat) (x:Int) (hx:da[k]?=some x)=>Zc0 HOK.out HT.out hx)
   have i0:(0:Int)≤(i:Int):=by omega
   have i1:(i:Int)<(n1:Int):=by have:=HRN.out;omega
   have i2:(i:Int)<(ne:Int):=by omega
   clear ht hd hal
   go_wp2
   go_loopw [10] (fun kv wr=>∃ k:Nat,k≤al∧kv=.int .i64 (k:Int)∧RvSt X wr w w.heap.size n1 SA EA ns sc ne ec (fun _=>zTN) (mrkK m i da k)∧ValZ wr (w.heap.size+2) n1) (fun kv _=>al-(intOf kv).toNat)
   case atStart=>exact ⟨0,by omega,rfl,by rw [ZcF];exact HM.out,HZ.out⟩
   case round=>
    clear HM HZ
    obtain ⟨k,hk,rfl,hM,hZ⟩:=hrel
    have HM:=hid hM
    have HZ:=hid hZ
    have cc:=cell_of_row _ _ 1 _ _ _ hM.ht
    have ci:=hM.hm.cell (i:=i) (by have:=HRN.out;omega)
    rw [ZcG (fun j d hd=>(hsm.out j d hd).2)] at ci
    obtain ⟨b,o,rfl,hbl,c0,c1,c2,⟨A',c',c3,c3r,c3n,-⟩,c4⟩:=(HRD.out.below hM.hb).at_ HT.out
    dsimp only at c3 c3r c3n
    rw [←HAL.out] at c3 c3n
    clear hM hZ
    cases hmi:m i with
    | false=>
     rw [hmi] at ci
     have HX2:=hid (show Zac es root=markP es root i (mrkK m i da k) from by
      rw [HW.out,Zbv HT.out]
      congr 1
      funext a
      unfold mrkK
      rw [hmi]
      simp)
     clear hk hmi c0 c1 c2 c4 c3r
     go_wp2
     exact ⟨⟨i,_,by omega,rfl,HX2.out,HM.out,HZ.out⟩,by simp [intOf]⟩
    | true=>
     rw [hmi] at ci
     have HMI:=hid hmi
     by_cases hlk:k<al
     ·have ht:da[k]?=some (da[k]'(by rw [←HAL.out];exact hlk)):=List.getElem?_eq_getElem _
      obtain ⟨x,hx⟩:∃ d,d=da[k]'(by rw [←HAL.out];exact hlk):=⟨_,rfl⟩
      rw [←hx] at ht
      obtain ⟨x0,x1⟩:=hsm.out k x ht
      obtain ⟨a,rfl⟩:∃ a:Nat,x=(a:Int):=⟨x.toNat,by omega⟩
      have ha:a<i:=by omega
      obtain ⟨b2,o2,rfl,hbl2,d0⟩:=c3r.at_ (show (da.map VI)[k]?=some (VI (a:Int)) by rw [List.getElem?_map,ht];rfl)
      unfold VI at d0
      have k0:(0:Int)≤(k:Int):=by omega
      have k1:(k:Int)<(al:Int):=by omega
      have k2:decide ((k:Int)<(al:Int))=true:=by simp;omega
      have a0:(0:Int)≤(a:Int):=by omega
      have a1:(a:Int)<(n1:Int):=by omega
      have ca:=HM.out.hm.cell (i:=a) (by omega)
      have fa:=HM.out.hm.free a
      obtain ⟨s1,s2⟩:=HM.out.mark (i:=a) (by omega) (mrkK m i da (k+1)) (fun y=>by
       rw [ZcH m i da ht y,HMI.out]
       split
       ·simp
       ·rfl) HZ.out
      have HS1:=hid s1
      have HS2:=hid s2
      clear ht hx hbl2 x0 x1 s1 s2 c0 c1 c2 c4 c3r hmi hbl
      go_wp2
      exact ⟨⟨k+1,by omega,rfl,HS1.out,HS2.out⟩,by simp [intOf];omega⟩
     ·obtain rfl:al=k:=by omega
      have k2:decide ((al:Int)<(al:Int))=false:=by simp
      have HX2:=hid (show Zac es root=markP es root i (mrkK m i da al) from by
       rw [HW.out,Zbv HT.out,HAL.out])
      clear hmi c0 c1 c2 c4 c3r hbl hk hlk
      go_wp2
      exact ⟨⟨i,_,by omega,rfl,HX2.out,HM.out,HZ.out⟩,by simp [intOf]⟩
end Go.Proofs.YtghlnncfigkkaaaGreatDoor
namespace Go.Proofs.YtghlnncfigkkaaaGreatDoor
set_option linter.unusedVariables false
set_option linter.unusedSimpArgs false
open Go.RowKit
def rfX (NA OA:Option Addr) (nb:Nat) (k:Nat):Prop:=blk NA=some k∨blk OA=some k∨k=nb
theorem TnV.turn {X X':Nat→Prop} {w w':World} (ht:∀ A xs,RdX X w A xs→RdX X' w' A xs) {sv ev:Value} {t:TN} (h:TnV X w sv ev t):TnV X' w' sv ev t:=by
 obtain ⟨⟨A,c,h1,h2,h3,h4,h5⟩,A',c',g1,g2,g3,g4⟩:=h
 exact ⟨⟨A,c,h1,h2,h3,h4,ht _ _ h5⟩,A',c',g1,g2,g3,ht _ _ g4⟩
theorem NamT.turn {X X':Nat→Prop} {w w':World} (ht:∀ A xs,RdX X w A xs→RdX X' w' A xs):∀ {ps:List (ByteArray × Value)} {qs:Zah},NamT X w ps qs→NamT X' w' ps qs
 | [],[],_=>trivial
 | p::ps,q::qs,⟨h1,⟨sv,ev,h2,h3⟩,h4,h5⟩=>⟨h1,⟨sv,ev,h2,h3.turn ht⟩,h4,NamT.turn ht h5⟩
 | [],_::_,h=>h
 | _::_,[],h=>h
theorem ZfW {X X':Nat→Prop} {w w':World} {row:Option Nat} (hg:w.grownBy w' row) (h1:∀ k,row=some k→X k) (h2:∀ k,X' k→X k∨w.heap.size≤k):∀ A xs,RdX X w A xs→RdX X' w' A xs:=by
 intro A xs hr
 rcases hr with hr | ⟨b,o,hA,hb,hx,hc⟩
 ·exact .inl hr
 ·refine .inr ⟨b,o,hA,Nat.lt_of_lt_of_le hb hg.size,fun hx' => ?_,fun j v hv => ?_⟩
  ·rcases h2 b hx' with h | h
   ·exact hx h
   ·omega
  ·rw [←hc j v hv]
   unfold World.cell?
   rw [hg.block b hb (fun e=>hx (h1 b e.symm))]
structure RefSt (base w:World) (NA OA:Option Addr) (nn nc no oc nb:Nat) (nt:Zah) (outs:List TN):Prop where
 hn:∃ nv:List (ByteArray × Value × Value),w.ownsRow base.heap.size 125 3 (.slice NA nn nc) nn (nv.flatMap nm3C)∧nv.length=nn∧NamT (rfX NA OA nb) w (nv.map nm3A) nt
 ho:OwnTn (rfX NA OA nb) w w base.heap.size OA no oc outs
 ap:blk NA=none∨blk NA≠blk OA
 nb1:base.heap.size≤nb
 nb2:nb<w.heap.size
 nb3:blk NA≠some nb
 nb4:blk OA≠some nb
 hb:Below base.heap.size base w
section
variable {base w w':World} {NA OA NA' OA':Option Addr} {nn nc no oc nb nc' oc':Nat} {nt:Zah} {outs:List TN}
theorem OwnTn.told {X:Nat→Prop} {W0 W1 w:World} {n c:Nat} {A:Option Addr} {xs:List TN} (h:OwnTn X W0 w base.heap.size A n c xs) {X':Nat→Prop} (ht:∀ A xs,RdX X W0 A xs→RdX X' W1 A xs):OwnTn X' W1 w base.heap.size A n c xs:=by
 obtain ⟨vs,h1,h2,h3,h4⟩:=h
 exact ⟨vs,h1,h2,h3,fun j p x hp hx=>(h4 j p x hp hx).turn ht⟩
theorem RefSt.next (h:RefSt base w NA OA nn nc no oc nb nt outs) (hb:Below w.heap.size w w'):RefSt base w' NA OA nn nc no oc nb nt outs:=by
 obtain ⟨⟨nv,h1,h2,h3⟩,ho,h4,h5,h6,h7,h8,h9⟩:=h
 have hlt:=Zdg h1
 refine ⟨⟨nv,ZaK h1 (fun g hg=>hb.block g (hlt g hg).2),h2,h3.keep (KeepX.of hb)⟩,(ho.next hb).told fun A xs hr=>hr.keep (KeepX.of hb),h4,h5,Nat.lt_of_lt_of_le h6 hb.size,h7,h8,bnext h9 hb⟩
theorem RefSt.lt (h:RefSt base w NA OA nn nc no oc nb nt outs):∀ k,rfX NA OA nb k→k<w.heap.size:=by
 obtain ⟨⟨nv,h1,h2,h3⟩,ho,h4,h5,h6,h7,h8,h9⟩:=h
 intro k hk
 rcases hk with e | e | e
 ·exact (Zdg h1 k e).2
 ·exact (ho.lt k e).2
 ·omega
theorem RefSt.ge (h:RefSt base w NA OA nn nc no oc nb nt outs):∀ k,rfX NA OA nb k→base.heap.size≤k:=by
 obtain ⟨⟨nv,h1,h2,h3⟩,ho,h4,h5,h6,h7,h8,h9⟩:=h
 intro k hk
 rcases hk with e | e | e
 ·exact (Zdg h1 k e).1
 ·exact (ho.lt k e).1
 ·omega
theorem RefSt.names (h:RefSt base w NA OA nn nc no oc nb nt outs):∃ nv,nn=nv.length∧RdNt w NA nv∧NamT (rfX NA OA nb) w (nv.map nm3A) nt:=by
 obtain ⟨nv,h1,h2,h3⟩:=h.hn
 refine ⟨nv,h2.symm,?_,h3⟩
 by_cases h0:nn=0
 ·left
  rw [List.eq_nil_of_length_eq_zero (h2.trans h0)]
  rfl
 ·obtain ⟨g,hA,hg,_,hc⟩:=Zbm h1 (by omega)
  exact .inr ⟨g,0,hA,hg,fun j v hv=>by rw [Nat.zero_add];exact hc j v hv⟩
theorem RefSt.count (h:RefSt base w NA OA nn nc no oc nb nt outs) (k:Nat) (v:Value):RefSt base (w.setCell ⟨nb,k,none⟩ v) NA OA nn nc no oc nb nt outs:=by
 obtain ⟨⟨nv,h1,h2,h3⟩,ho,h4,h5,h6,h7,h8,h9⟩:=h
 have hk:KeepX (rfX NA OA nb) w (w.setCell ⟨nb,k,none⟩ v):=KeepX.set1 nb k v (.inr (.inr rfl))
 have hne:∀ g,g≠nb→(w.setCell ⟨nb,k,none⟩ v).heap[g]?=w.heap[g]?:=fun g hg=>ZaS w ⟨nb,k,none⟩ v hg
 refine ⟨⟨nv,ZaK h1 (fun g hg=>hne g (fun e=>h7 (by rw [hg,e]))),h2,h3.keep hk⟩,?_,h4,h5,by simpa [World.setCell] using h6,h7,h8,Zaf h9 h5 v⟩
 obtain ⟨vs,o1,o2,o3,o4⟩:=ho
 exact ⟨vs,ZaK o1 (fun g hg=>hne g (fun e=>h8 (by rw [hg,e]))),o2,o3,fun j p x hp hx=>(o4 j p x hp hx).keep hk⟩
theorem RefSt.put (h:RefSt base w NA OA nn nc no oc nb nt outs) {n:ByteArray} {sv ev:Value} {t:TN} (hv:TnV (rfX NA OA nb) w sv ev t) (he:TnOk t) {nv:List (ByteArray × Value × Value)} (hnv:nv.length=nn) (hN:NamT (rfX NA OA nb) w (nv.map nm3A) nt)
  (h1:w'.ownsRow base.heap.size 125 3 (.slice NA' (nn+1) nc') (nn+1) (nv.flatMap nm3C++[.string n,sv,ev])) (hg:w.grownBy w' (blk NA)) (hA:blk NA'=blk NA∨blk NA'=some w.heap.size):
  RefSt base w' NA' OA (nn+1) nc' no oc nb (nt++[(n,t)]) outs:=by
 have hge:=h.ge
 obtain ⟨_,ho,h4,h5,h6,h7,h8,h9⟩:=h
 have ht:∀ A xs,RdX (rfX NA OA nb) w A xs→RdX (rfX NA' OA nb) w' A xs:=ZfW hg (fun k hk=>.inl hk) (fun k hk=>by
  rcases hk with e | e | e
  ·rcases hA with hA | hA
   ·exact .inl (.inl (by rw [←hA];exact e))
   ·right
    rw [hA] at e
    injection e with e
    omega
  ·exact .inl (.inr (.inl e))
  ·exact .inl (.inr (.inr e)))
 have hlt:=ho.lt
 refine ⟨⟨nv++[(n,sv,ev)],by rw [List.flatMap_append];exact h1,by rw [List.length_append,hnv];rfl,?_⟩,?_,?_,h5,Nat.lt_of_lt_of_le h6 hg.size,?_,h8,h9.grown hg h9.size (fun k hk=>hge k (.inl hk))⟩
 ·rw [List.map_append]
  exact (hN.turn ht).append (hv.turn ht) he
 ·obtain ⟨vs,o1,o2,o3,o4⟩:=ho
  refine ⟨vs,ZaK o1 (fun g hg2=>hg.block g (hlt g hg2).2 (fun e => ?_)),o2,o3,fun j p x hp hx=>(o4 j p x hp hx).turn ht⟩
  rcases h4 with h4 | h4
  ·rw [h4] at e;cases e
  ·exact h4 (by rw [hg2,←e])
 ·rcases hA with hA | hA
  ·rw [hA];exact h4
  ·right
   rw [hA]
   intro e
   have:=(hlt _ e.symm).2
   omega
 ·rcases hA with hA | hA
  ·rw [hA];exact h7
  ·rw [hA]
   intro e
   injection e with e
   omega
theorem RefSt.give (h:RefSt base w NA OA nn nc no oc nb nt outs) {sv ev:Value} {t:TN} (hv:TnV (rfX NA OA nb) w sv ev t) {vs:List (Value × Value)} (hvl:vs.length=no) (hvv:∀ (j:Nat) (p:Value × Value) (x:TN),vs[j]?=some p→outs[j]?=some x→TnV (rfX NA OA nb) w p.1 p.2 x)
  (h1:w'.ownsRow base.heap.size 43 2 (.slice OA' (no+1) oc') (no+1) (vs.flatMap tnC++[sv,ev])) (hg:w.grownBy w' (blk OA)) (hA:blk OA'=blk OA∨blk OA'=some w.heap.size):
  RefSt base w' NA OA' nn nc (no+1) oc' nb nt (outs++[t]):=by
 have hge:=h.ge
 have hol:=h.ho.len
 obtain ⟨⟨nv,n1,n2,n3⟩,ho,h4,h5,h6,h7,h8,h9⟩:=h
 have ht:∀ A xs,RdX (rfX NA OA nb) w A xs→RdX (rfX NA OA' nb) w' A xs:=ZfW hg (fun k hk=>.inr (.inl hk)) (fun k hk=>by
  rcases hk with e | e | e
  ·exact .inl (.inl e)
  ·rcases hA with hA | hA
   ·exact .inl (.inr (.inl (by rw [←hA];exact e)))
   ·right
    rw [hA] at e
    injection e with e
    omega
  ·exact .inl (.inr (.inr e)))
 have hlt:=Zdg n1
 refine ⟨⟨nv,ZaK n1 (fun g hg2=>hg.block g (hlt g hg2).2 (fun e => ?_)),n2,n3.turn ht⟩,⟨vs++[(sv,ev)],by rw [List.flatMap_append];exact h1,by rw [List.length_append,hvl];rfl,by rw [List.length_append,hol];rfl,fun j p x hp hx => ?_⟩,?_,h5,Nat.lt_of_lt_of_le h6 hg.size,h7,?_,h9.grown hg h9.size (fun k hk=>hge k (.inr (.inl hk)))⟩
 ·rcases h4 with h4 | h4
  ·rw [h4] at hg2;cases hg2
  ·exact h4 (by rw [hg2,e])
 ·by_cases hj:j<no
  ·rw [List.getElem?_append_left (by omega)] at hp hx
   exact (hvv j p x hp hx).turn ht
  ·rw [List.getElem?_append_right (by omega)] at hp hx
   have hj0:j-vs.length=0:=by
    have:=(List.getElem?_eq_some_iff.1 hp).1
    simp at this
    omega
   rw [hj0] at hp
   rw [show j-outs.length=0 by omega] at hx
   simp at hp hx
   subst hp hx
   exact hv.turn ht
 ·rcases hA with hA | hA
  ·rw [hA];exact h4
  ·by_cases h0:blk NA=none
   ·exact .inl h0
   ·right
    rw [hA]
    intro e
    have:=(hlt _ e).2
    omega
 ·rcases hA with hA | hA
  ·rw [hA];exact h8
  ·rw [hA]
   intro e
   injection e with e
   omega
theorem RefSt.rd (h:RefSt base w NA OA nn nc no oc nb nt outs):RdTN w w.heap.size OA outs:=by
 by_cases hl:outs=[]
 ·exact .inl hl
 ·have h0:outs[0]?=some (outs[0]'(List.length_pos_iff.2 hl)):=List.getElem?_eq_getElem _
  obtain ⟨g,_,_,_,_,rfl,_⟩:=h.ho.at_ h0
  have hg:=(h.ho.lt g rfl).2
  refine .inr ⟨g,0,rfl,hg,fun i x hx => ?_⟩
  obtain ⟨g',A1,c1,A2,c2,e,k0,k1,⟨B1,d1,e1,p1,p2,p3,p4⟩,B2,d2,e2,q1,q2,q3⟩:=h.ho.at_ hx
  injection e with e
  injection e with e _ _
  subst e
  injection e1 with e1 _ e3
  injection e2 with e2 _ e4
  subst e1 e2 e3 e4
  exact ⟨⟨A1,c1,by rw [Nat.zero_add];exact k0,p4.rd,by omega,p1,p2⟩,A2,c2,by rw [Nat.zero_add];exact k1,q3.rd,by omega,q1,q2⟩
end
theorem ZjL:(Tryz.prog.info? 125).map (fun i=>(i.zero,i.size,i.bytes))=some (some (.agg #[.string ⟨#[]⟩,.slice none 0 0,.slice none 0 0]),3,64):=by kernel_rfl
theorem Zcl {w:World} {ops:Array Oper} {o:Oper} {a:Act} {K:Act→World→Prop} {Q:Exit→Act→World→Prop} {E:Prop} (hgd:o.guard=none) (s x:Operand)
  (ho:o.op=.call { callee:=.builtin .append,args:=#[s,x],argTypes:=#[123,123] }) (B:Nat)
  (A:Option Addr) (cap n:Nat) (xs:List Value) (hs:a.eval s=.slice A n cap) (hown:w.ownsRow B 125 3 (.slice A n cap) n xs)
  (g2:Nat) (hx:a.eval x=.slice (some ⟨g2,0,none⟩) 1 1) (nm:ByteArray) (sv ev:Value) (hb:w.heap[g2]?=some (.cells #[.string nm,sv,ev] 125 (0,0))) (h1:sv.oneCell'=true) (h2:ev.oneCell'=true)
  (hbytes:n≤1000000) (hbase:B≤w.heap.size)
  (h:∀ A' cap' w',w'.ownsRow B 125 3 (.slice A' (n+1) cap') (n+1) (xs++[.string nm,sv,ev])→w.grownBy w' (blk A)→(blk A'=blk A∨blk A'=some w.heap.size)→K (a.put o.dst (.slice A' (n+1) cap')) w'):
  if Region.wanted o (yielded ops a.tmps)=true then Oper.wp Tryz.prog o a w K Q else E:=by
 have hwt:Region.wanted o (yielded ops a.tmps)=true:=by simp [Region.wanted,hgd]
 rw [if_pos hwt]
 obtain ⟨i0,hi0,hz0,hz1,hz2⟩:=info_parts ZjL
 exact ZfX s x 123 ho B 125 i0 _ 3 64 Tryz.underlying123 hi0 hz0 hz1 (by decide) hz2 rfl A cap n xs hs hown g2 [.string nm,sv,ev] rfl hx (fun j u hu=>by rw [cell_of_row w g2 j _ _ (0,0) hb];simpa using hu) (fun u hu=>by
  simp at hu
  rcases hu with rfl | rfl | rfl
  ·rfl
  ·exact h1
  ·exact h2) (by simp only [maxLen];omega) (by omega) hbase h
theorem ZmU {w:World} {ops:Array Oper} {rest:List Oper} {o:Oper} {a:Act} {Q:Exit→Act→World→Prop} (hgd:o.guard=none) (s x:Operand)
  (ho:o.op=.call { callee:=.builtin .append,args:=#[s,x],argTypes:=#[44,44] }) (B:Nat)
  (A:Option Addr) (cap n:Nat) (xs:List Value) (hs:a.eval s=.slice A n cap) (hown:w.ownsRow B 43 2 (.slice A n cap) n xs)
  (g2:Nat) (hx:a.eval x=.slice (some ⟨g2,0,none⟩) 1 1) (sv ev:Value) (hb:w.heap[g2]?=some (.cells #[sv,ev] 43 (0,0))) (h1:sv.oneCell'=true) (h2:ev.oneCell'=true)
  (hbytes:n≤1000000) (hbase:B≤w.heap.size)
  (h:∀ A' cap' w',w'.ownsRow B 43 2 (.slice A' (n+1) cap') (n+1) (xs++[sv,ev])→w.grownBy w' (blk A)→(blk A'=blk A∨blk A'=some w.heap.size)→wpList Tryz.prog ops Q rest (a.put o.dst (.slice A' (n+1) cap')) w'):
  wpList Tryz.prog ops Q (o::rest) a w:=by
 obtain ⟨i0,hi0,hz0,hz1,hz2⟩:=info_parts ZeW
 exact wpList_plain hgd fun _ hK=>ZfX s x 44 ho B 43 i0 _ 2 48 Tryz.underlying44 hi0 hz0 hz1 (by decide) hz2 rfl A cap n xs hs hown g2 [sv,ev] rfl hx (fun j u hu=>by rw [cell_of_row w g2 j _ _ (0,0) hb];simpa using hu) (fun u hu=>by
  simp at hu
  rcases hu with rfl | rfl
  ·exact h1
  ·exact h2) (by simp only [maxLen];omega) (by omega) hbase (fun A' c' w' g1 g2 g3=>hK _ _ (h A' c' w' g1 g2 g3))
end Go.Proofs.YtghlnncfigkkaaaGreatDoor
