/-
 append of bytes, and of words, onto rows of the call's own: the general law at this program's types.
-/
import Derived.Test.YtghlnncfigkkaaaGreatDoorQNum
import Derived.Deep.DeepAppendWide
import Derived.Deep.RegionLaw
import Derived.OwnWalk
import Derived.Test.YtghlnncfigkkaaaGreatDoorQAsE
import Derived.Test.YtghlnncfigkkaaaGreatDoorRows
import Derived.Deep.OwnRows
namespace Go.Proofs.YtghlnncfigkkaaaGreatDoor
set_option linter.unusedVariables false
set_option linter.unusedSimpArgs false
open Go.RowKit
def blk (A:Option Addr):Option Nat:=A.map (·.block)
theorem Za4 (A:Option Addr) (n c:Nat):(Value.slice A n c).ownBlock=blk A:=by cases A <;> rfl
def Own (w:World) (base:Nat) (e:TypeId) (A:Option Addr) (cap:Nat) (xs:List Value):Prop:=w.ownsRow base e 1 (.slice A xs.length cap) xs.length xs
section
variable {w w':World} {base:Nat} {e:TypeId} {A:Option Addr} {cap:Nat} {xs:List Value}
theorem Own.nil (w:World) (base:Nat) (e:TypeId):Own w base e none 0 []:=World.ownsRow_nil w base e 1
theorem Own.form (h:Own w base e A cap xs):(A=none∧xs=[])∨∃ g cur,A=some ⟨g,0,none⟩∧base≤g∧w.heap[g]?=some (.cells cur e (0,0))∧xs.length≤cap∧cap≤maxLen∧cur.size=cap∧cur.toList.take xs.length=xs:=by
 rcases h.2 with ⟨hv,hn⟩ | ⟨g,cap',cur,hv,hb,hg,h1,h2,h3,h4⟩
 ·injection hv with a b c
  exact .inl ⟨a,List.eq_nil_of_length_eq_zero hn⟩
 ·injection hv with a b c
  subst c
  exact .inr ⟨g,cur,a,hb,hg,h1,h2,by simpa using h3,by simpa using h4⟩
theorem Own.lt (h:Own w base e A cap xs):∀ k,blk A=some k→base≤k∧k<w.heap.size:=by
 intro k hk
 rcases h.form with ⟨rfl,_⟩ | ⟨g,cur,rfl,hb,hg,_⟩
 ·simp [blk] at hk
 ·simp [blk] at hk
  subst hk
  exact ⟨hb,(Kab.1 hg).1⟩
theorem Own.rd (h:Own w base e A cap xs):Rd w w.heap.size A xs:=by
 rcases h.form with ⟨rfl,rfl⟩ | ⟨g,cur,rfl,hb,hg,h1,h2,h3,h4⟩
 ·exact Rd.nil _ _ _
 ·refine Rd.of_block hg (Kab.1 hg).1 ⟨cur.toList.drop xs.length,?_⟩
  have:=List.take_append_drop xs.length cur.toList
  rw [h4] at this
  exact this
theorem Own.made (w:World) (e:TypeId) (hb:base≤w.heap.size):Own (w.alloc (.cells #[] e)) base e (some ⟨w.heap.size,0,none⟩) 0 []:=
 World.ownsRow_made w #[] 0 hb (by simp) (by simp)
theorem Own.full (w:World) (e:TypeId) (l:List Value) (hb:base≤w.heap.size) (hm:l.length≤maxLen):Own (w.alloc (.cells l.toArray e)) base e (some ⟨w.heap.size,0,none⟩) l.length l:=
 ⟨by simp,.inr ⟨w.heap.size,l.length,l.toArray,rfl,hb,Kac w _,Kag _,hm,by simp,by simp⟩⟩
theorem Own.kept {row:Option Nat} (h:Own w base e A cap xs) (hg:w.grownBy w' row) (hne:blk A=none∨blk A≠row):Own w' base e A cap xs:=
 World.ownsRow.kept h hg (by rw [Za4];exact hne)
theorem Own.below {B:Nat} (h:Own w base e A cap xs) (hb:Below B w w') (hB:∀ k,blk A=some k→k<B):Own w' base e A cap xs:=by
 refine ⟨h.1,?_⟩
 rcases h.2 with hv | ⟨g,cap',cur,hv,hb1,hg,r⟩
 ·exact .inl hv
 ·refine .inr ⟨g,cap',cur,hv,hb1,?_,r⟩
  have:blk A=some g:=by injection hv with a;rw [a];rfl
  rw [hb.block g (hB g this)]
  exact hg
theorem Own.next (h:Own w base e A cap xs) (hb:Below w.heap.size w w'):Own w' base e A cap xs:=h.below hb fun k hk=>(h.lt k hk).2
theorem Own.alloc (h:Own w base e A cap xs) (o:Obj):Own (w.alloc o) base e A cap xs:=World.ownsRow.alloc h o
theorem Own.more {base':Nat} (h:Own w base e A cap xs) (hb:base'≤base):Own w base' e A cap xs:=by
 refine ⟨h.1,?_⟩
 rcases h.2 with hv | ⟨g,cap',cur,hv,hb1,r⟩
 ·exact .inl hv
 ·exact .inr ⟨g,cap',cur,hv,by omega,r⟩
theorem Rd.one (w:World) (e:TypeId) (v:Value):Rd (w.alloc (.cells #[v] e)) (w.heap.size+1) (some ⟨w.heap.size,0,none⟩) [v]:=
 Rd.of_block (Kac w _) (by omega) (by simp)
end
section
variable {P:Program} (w:World)
theorem Zc8 (base:Nat) (t ty e:TypeId) (i:TypeInfo) (ht:P.underlying t=some (.slice e)) (hi:P.info? e=some i) (hsz:i.size=1)
  (A:Option Addr) (cap:Nat) (xs:List Value) (n:Nat) (hn:xs.length=n) (hown:Own w base e A cap xs) (c:Nat):
  (Builtin.append_ #[t,t] ty #[.slice A n cap,.slice none 0 c]).run P w=.ok (.slice A n cap) w:=by
 subst hn
 rcases hown.2 with ⟨hv,h0⟩ | ⟨g,cap',cur,hv,_,_,hnc,_⟩
 ·rw [hv]
  simp [Builtin.append_,run_underlying ht,sizeOf,typeInfo,hi,Builtin.lenOf,Builtin.firstCells]
 ·rw [hv]
  simp [Builtin.append_,run_underlying ht,sizeOf,typeInfo,hi,Builtin.lenOf,Builtin.firstCells,hnc,storeCells]
theorem ZlP (base:Nat) (t ty e:TypeId) (i:TypeInfo) (z:Value) (bytes:Nat) (ht:P.underlying t=some (.slice e)) (hi:P.info? e=some i) (hz:i.zero=some z)
  (hsz:i.size=1) (hby:i.bytes=bytes) (hzs:z.cells.size=1)
  (A:Option Addr) (cap:Nat) (xs:List Value) (n:Nat) (hn:xs.length=n) (hown:Own w base e A cap xs)
  (A2:Option Addr) (m c B:Nat) (news:List Value) (hm:news.length=m) (hr:Rd w B A2 news) (hnil:A2=none→m=0) (h1:∀ u∈news,u.oneCell'=true)
  (h63:n+m≤maxLen) (hbytes:((n+m)+(n+m) / 4+192)*bytes≤281474976710656) (hbase:base≤w.heap.size):
  ∃ A' cap' w',(Builtin.append_ #[t,t] ty #[.slice A n cap,.slice A2 m c]).run P w=.ok (.slice A' (n+m) cap') w'∧Own w' base e A' cap' (xs++news)∧w.grownBy w' (blk A)∧(blk A'=blk A∨blk A'=some w.heap.size):=by
 have hlen:(xs++news).length=n+m:=by rw [List.length_append];omega
 have grown:∀ (old:Nat),old<n+m→∀ (row:Option Nat),
   Own (w.drew.alloc (.cells (xs.toArray++news.toArray++Builtin.zeroCells z.cells (grownCap w (n+m) old e-(n+m))) e)) base e (some ⟨w.heap.size,0,none⟩) (grownCap w (n+m) old e) (xs++news) ∧
   w.grownBy (w.drew.alloc (.cells (xs.toArray++news.toArray++Builtin.zeroCells z.cells (grownCap w (n+m) old e-(n+m))) e)) row:=by
  intro old _ row
  have hge:=grownCap_ge w (n+m) old e
  have hcm:grownCap w (n+m) old e≤maxLen:=grownCap_le_maxLen w (n+m) old e h63
  refine ⟨⟨by simp,.inr ⟨w.heap.size,_,_,rfl,hbase,Kac w.drew _,by omega,hcm,?_,?_⟩⟩,⟨rfl,rfl,rfl,by simp,fun k hk _=>Below.heap_alloc w.drew _ k hk⟩⟩
  ·simp only [Array.size_append,List.size_toArray,size_zeroCells,hzs]
   omega
  ·simp only [Array.toList_append,Nat.mul_one]
   exact List.take_left
 cases A2 with
 | none=>
  obtain rfl:=hnil rfl
  have hnews:news=[]:=List.eq_nil_of_length_eq_zero hm
  subst hnews
  refine ⟨A,cap,w,Zc8 w base t ty e i ht hi hsz A cap xs n hn hown c,by simpa using hown,World.grownBy.refl w _,.inl rfl⟩
 | some ad=>
  have hcells:∀ (j:Nat) (u:Value),news[j]?=some u→w.cell? (ad.add j)=some u:=by
   intro j u hu
   rcases hr with rfl | ⟨b,o,hA,_,hc⟩
   ·simp at hu
   ·injection hA with hA
    subst hA
    have e':(⟨b,o,none⟩:Addr).add j=⟨b,o+j,none⟩:=by unfold Addr.add;split <;> simp_all
    rw [e']
    exact hc j u hu
  have hsmall:n+m≤9223372036854775807:=by simp only [maxLen] at h63;omega
  rcases hown.2 with ⟨hv,h0⟩ | ⟨g,cap',cur,hv,hbg,hg,hnc,hcm,hcs,htake⟩
  ·injection hv with a1 a2 a3
   subst a1 a3
   have hxs:xs=[]:=List.eq_nil_of_length_eq_zero a2
   subst hxs
   obtain rfl:n=0:=by simpa using hn.symm
   by_cases hm0:m=0
   ·subst hm0
    have hnews:news=[]:=List.eq_nil_of_length_eq_zero hm
    subst hnews
    refine ⟨none,0,w,?_,hown,World.grownBy.refl w _,.inl rfl⟩
    simp [Builtin.append_,run_underlying ht,sizeOf,typeInfo,hi,Builtin.lenOf,Builtin.firstCells,loadCells,loadCellsFrom]
   ·have hrun:=run_append_nil (P:=P) w t ty e i z ht hi hz ad m c news (by rw [hsz,hm];omega) hcells (by omega) (by omega)
     (by rw [hby];have hb:=hbytes;simp only [Nat.zero_add] at hb;exact Kah (Nat.mul_le_mul_right _ (by omega)) hb)
    have hgr:=grown 0 (by omega) (blk none)
    simp only [Nat.zero_add,List.nil_append,Array.empty_append] at hgr ⊢
    exact ⟨_,_,_,hrun,hgr.1,hgr.2,.inr rfl⟩
  ·injection hv with a1 a2 a3
   subst a1 a3
   simp only [Nat.mul_one] at hcs htake
   by_cases hroom:n+m≤cap
   ·have hrun:=run_append_room (P:=P) w t ty e i ht hi g n cap cur hg ad m c news (by rw [hsz,hm];omega) hcells h1 hroom (by rw [hsz];omega)
    refine ⟨_,_,_,hrun,⟨by simp,.inr ⟨g,cap,_,rfl,hbg,setRow_heap w g cur _ e _ hg,by omega,hcm,?_,?_⟩⟩,⟨rfl,rfl,rfl,by simp,fun k _ hk=>setRow_other w g k _ (fun e=>hk (by simp [blk,e]))⟩,.inl rfl⟩
    ·simp only [List.size_toArray,List.length_append,List.length_take,List.length_drop,Array.length_toList]
     rw [hsz]
     omega
    ·rw [hsz,Nat.mul_one,Nat.mul_one,←hn,htake]
     exact List.take_left
   ·have holds:∀ (j:Nat) (u:Value),xs[j]?=some u→w.cell? ((⟨g,0,none⟩:Addr).add j)=some u:=fun j u hu=>by
     have e':(⟨g,0,none⟩:Addr).add j=⟨g,j,none⟩:=by unfold Addr.add;split <;> simp_all
     rw [e',Kaa w g j cur e (0,0) hg]
     have h2:(cur.toList.take xs.length)[j]?=some u:=by rw [htake];exact hu
     rw [List.getElem?_take] at h2
     split at h2
     ·simpa using h2
     ·cases h2
    have hrun:=run_append_grow (P:=P) w t ty e i z ht hi hz ⟨g,0,none⟩ n cap xs (by rw [hsz];omega) holds ad m c news (by rw [hsz,hm];omega) hcells (by omega) (by omega) (growslice_fits_wide (by omega) (by rw [hby];exact hbytes))
    have hgr:=grown cap (by omega) (blk (some ⟨g,0,none⟩))
    exact ⟨_,_,_,hrun,hgr.1,hgr.2,.inr rfl⟩
variable {w}
theorem ZlF {o:Oper} {a:Act} {K:Act→World→Prop} {Q:Exit→Act→World→Prop} (s x:Operand) (t:TypeId)
  (ho:o.op=.call { callee:=.builtin .append,args:=#[s,x],argTypes:=#[t,t] })
  (base:Nat) (e:TypeId) (i:TypeInfo) (z:Value) (bytes:Nat) (ht:P.underlying t=some (.slice e)) (hi:P.info? e=some i) (hz:i.zero=some z)
  (hsz:i.size=1) (hby:i.bytes=bytes) (hzs:z.cells.size=1)
  (A:Option Addr) (cap:Nat) (xs:List Value) (n:Nat) (hn:xs.length=n) (hs:a.eval s=.slice A n cap) (hown:Own w base e A cap xs)
  (A2:Option Addr) (m c B:Nat) (news:List Value) (hm:news.length=m) (hx:a.eval x=.slice A2 m c) (hr:Rd w B A2 news) (hnil:A2=none→m=0) (h1:∀ u∈news,u.oneCell'=true)
  (h63:n+m≤maxLen) (hbytes:((n+m)+(n+m) / 4+192)*bytes≤281474976710656) (hbase:base≤w.heap.size)
  (h:∀ A' cap' w',Own w' base e A' cap' (xs++news)→w.grownBy w' (blk A)→(blk A'=blk A∨blk A'=some w.heap.size)→K (a.put o.dst (.slice A' (n+m) cap')) w'):o.wp P a w K Q:=by
 obtain ⟨A',cap',w',hrun,h2,h3,h4⟩:=ZlP (P:=P) w base t o.type e i z bytes ht hi hz hsz hby hzs A cap xs n hn hown A2 m c B news hm hr hnil h1 h63 hbytes hbase
 unfold Oper.wp execOp
 simp only [ho,resolve,invoke,builtin,Sem.run_bind,Sem.run_pure,Result.andThen_ok,List.map_toArray,List.map_cons,List.map_nil,hs,hx,hrun]
 exact h A' cap' w' h2 h3 h4
theorem Zbu {ops:Array Oper} {rest:List Oper} {o:Oper} {a:Act} {Q:Exit→Act→World→Prop} (hgd:o.guard=none) (s x:Operand) (t:TypeId)
  (ho:o.op=.call { callee:=.builtin .append,args:=#[s,x],argTypes:=#[t,t] })
  (base:Nat) (e:TypeId) (i:TypeInfo) (z:Value) (bytes:Nat) (ht:P.underlying t=some (.slice e)) (hi:P.info? e=some i) (hz:i.zero=some z)
  (hsz:i.size=1) (hby:i.bytes=bytes) (hzs:z.cells.size=1)
  (A:Option Addr) (cap:Nat) (xs:List Value) (n:Nat) (hn:xs.length=n) (hs:a.eval s=.slice A n cap) (hown:Own w base e A cap xs)
  (A2:Option Addr) (m c B:Nat) (news:List Value) (hm:news.length=m) (hx:a.eval x=.slice A2 m c) (hr:Rd w B A2 news) (hnil:A2=none→m=0) (h1:∀ u∈news,u.oneCell'=true)
  (h63:n+m≤maxLen) (hbytes:((n+m)+(n+m) / 4+192)*bytes≤281474976710656) (hbase:base≤w.heap.size)
  (h:∀ A' cap' w',Own w' base e A' cap' (xs++news)→w.grownBy w' (blk A)→(blk A'=blk A∨blk A'=some w.heap.size)→wpList P ops Q rest (a.put o.dst (.slice A' (n+m) cap')) w'):
  wpList P ops Q (o::rest) a w:=
 wpList_plain hgd fun _ hK=>ZlF s x t ho base e i z bytes ht hi hz hsz hby hzs A cap xs n hn hs hown A2 m c B news hm hx hr hnil h1 h63 hbytes hbase fun A' cap' w' h2 h3 h4=>hK _ _ (h A' cap' w' h2 h3 h4)
theorem ZeG {ops:Array Oper} {o:Oper} {a:Act} {K:Act→World→Prop} {Q:Exit→Act→World→Prop} {E:Prop} (hgd:o.guard=none) (s x:Operand) (t:TypeId)
  (ho:o.op=.call { callee:=.builtin .append,args:=#[s,x],argTypes:=#[t,t] })
  (base:Nat) (e:TypeId) (i:TypeInfo) (z:Value) (bytes:Nat) (ht:P.underlying t=some (.slice e)) (hi:P.info? e=some i) (hz:i.zero=some z)
  (hsz:i.size=1) (hby:i.bytes=bytes) (hzs:z.cells.size=1)
  (A:Option Addr) (cap:Nat) (xs:List Value) (n:Nat) (hn:xs.length=n) (hs:a.eval s=.slice A n cap) (hown:Own w base e A cap xs)
  (A2:Option Addr) (m c B:Nat) (news:List Value) (hm:news.length=m) (hx:a.eval x=.slice A2 m c) (hr:Rd w B A2 news) (hnil:A2=none→m=0) (h1:∀ u∈news,u.oneCell'=true)
  (h63:n+m≤maxLen) (hbytes:((n+m)+(n+m) / 4+192)*bytes≤281474976710656) (hbase:base≤w.heap.size)
  (h:∀ A' cap' w',Own w' base e A' cap' (xs++news)→w.grownBy w' (blk A)→(blk A'=blk A∨blk A'=some w.heap.size)→K (a.put o.dst (.slice A' (n+m) cap')) w'):
  if Region.wanted o (yielded ops a.tmps)=true then Oper.wp P o a w K Q else E:=by
 have hw:Region.wanted o (yielded ops a.tmps)=true:=by simp [Region.wanted,hgd]
 rw [if_pos hw]
 exact ZlF s x t ho base e i z bytes ht hi hz hsz hby hzs A cap xs n hn hs hown A2 m c B news hm hx hr hnil h1 h63 hbytes hbase h
end
theorem Zal {W w w':World} {base:Nat} {A:Option Addr} (h:Below base W w) (hg:w.grownBy w' (blk A)) (hb:base≤w.heap.size) (hA:∀ k,blk A=some k→base≤k):Below base W w':=
 h.grown hg hb hA
theorem ZbY (w:World) (t:Addr) (v:Value) {k:Nat} (h:k≠t.block):(w.setCell t v).heap[k]?=w.heap[k]?:=by
 unfold World.setCell
 simp only [Array.getElem?_modify]
 rw [if_neg (fun e=>h e.symm)]
theorem IsErr.set {w:World} {t:Addr} {x:Value} {cs:Array Value} {T:TypeId} {fr:Nat × Nat} (hp:w.heap[t.block]?=some (.cells cs T fr)) (hT:T≠192):
  ∀ {l:List (ByteArray × Int)} {v:Value} {code:Int},IsErr w v l code→IsErr (w.setCell t x) v l code:=by
 intro l
 induction l with
 | nil=>intro v code h;exact h
 | cons p r ih=>
  intro v code h
  obtain ⟨a,inner,rfl,hc,hi⟩:=h
  refine ⟨a,inner,rfl,?_,ih hi⟩
  rw [ZbY w t x (fun e=>by rw [e,hp] at hc;injection hc with hc;injection hc with _ h2;exact hT h2)]
  exact hc
end Go.Proofs.YtghlnncfigkkaaaGreatDoor
