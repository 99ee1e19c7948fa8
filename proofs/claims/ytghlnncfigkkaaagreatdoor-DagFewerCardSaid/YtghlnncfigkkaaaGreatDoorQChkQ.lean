/-
 The reference's within.
-/
import Derived.Test.YtghlnncfigkkaaaGreatDoorQNum
import Derived.Test.YtghlnncfigkkaaaGreatDoorQAppB
import Derived.Test.YtghlnncfigkkaaaGreatDoorRows
import Derived.Deep.OwnRows
import Derived.Test.YtghlnncfigkkaaaGreatDoorQChkD
import Derived.Test.YtghlnncfigkkaaaGreatDoorQChkF
import Derived.Test.YtghlnncfigkkaaaGreatDoorQChkP
import Derived.Test.YtghlnncfigkkaaaGreatDoorQChkY
import Derived.Test.YtghlnncfigkkaaaGreatDoorQChkA
import Derived.Test.YtghlnncfigkkaaaGreatDoorQChkV
import Derived.BigQuiet
import Derived.Deep.RegionWith
import Derived.Deep.RegionHeld3
namespace Go.Proofs.YtghlnncfigkkaaaGreatDoor
set_option linter.unusedVariables false
set_option linter.unusedSimpArgs false
open Go.RowKit
theorem ZeH {P:Program} (w:World) (base:Nat) (t ty e:TypeId) (i:TypeInfo) (z:Value) (size bytes:Nat) (ht:P.underlying t=some (.slice e)) (hi:P.info? e=some i) (hz:i.zero=some z)
  (hsz:i.size=size) (hs0:0<size) (hby:i.bytes=bytes) (hzs:z.cells.size=size)
  (A:Option Addr) (cap n:Nat) (xs:List Value) (hown:w.ownsRow base e size (.slice A n cap) n xs)
  (b:Nat) (news:List Value) (hm:news.length=size) (hr:∀ (j:Nat) (u:Value),news[j]?=some u→w.cell? ⟨b,j,none⟩=some u) (h1:∀ u∈news,u.oneCell'=true)
  (h63:n+1≤maxLen) (hbytes:((n+1)+(n+1) / 4+192)*bytes≤281474976710656) (hbase:base≤w.heap.size):
  ∃ A' cap' w',(Builtin.append_ #[t,t] ty #[.slice A n cap,.slice (some ⟨b,0,none⟩) 1 1]).run P w=.ok (.slice A' (n+1) cap') w'∧w'.ownsRow base e size (.slice A' (n+1) cap') (n+1) (xs++news)∧w.grownBy w' (blk A)∧(blk A'=blk A∨blk A'=some w.heap.size):=by
 have hcells:∀ (j:Nat) (u:Value),news[j]?=some u→w.cell? ((⟨b,0,none⟩:Addr).add j)=some u:=by
  intro j u hu
  have e':(⟨b,0,none⟩:Addr).add j=⟨b,j,none⟩:=by unfold Addr.add;split <;> simp_all
  rw [e']
  exact hr j u hu
 have hsmall:n+1≤9223372036854775807:=by simp only [maxLen] at h63;omega
 have hxl:=hown.1
 have hml:news.length=1*i.size:=by rw [hsz,hm,Nat.one_mul]
 have hlen:(xs++news).length=(n+1)*size:=by rw [List.length_append,hxl,hm,Nat.succ_mul]
 have grown:∀ (old:Nat),old<n+1→∀ (row:Option Nat),
   (w.drew.alloc (.cells (xs.toArray++news.toArray++Builtin.zeroCells z.cells (grownCap w (n+1) old e-(n+1))) e)).ownsRow base e size (.slice (some ⟨w.heap.size,0,none⟩) (n+1) (grownCap w (n+1) old e)) (n+1) (xs++news) ∧
   w.grownBy (w.drew.alloc (.cells (xs.toArray++news.toArray++Builtin.zeroCells z.cells (grownCap w (n+1) old e-(n+1))) e)) row:=by
  intro old _ row
  have hge:=grownCap_ge w (n+1) old e
  have hcm:grownCap w (n+1) old e≤maxLen:=grownCap_le_maxLen w (n+1) old e h63
  refine ⟨⟨hlen,.inr ⟨w.heap.size,_,_,rfl,hbase,Kac w.drew _,by omega,hcm,?_,?_⟩⟩,⟨rfl,rfl,rfl,by simp,fun k hk _=>Below.heap_alloc w.drew _ k hk⟩⟩
  ·simp only [Array.size_append,List.size_toArray,size_zeroCells,hzs,hxl,hm]
   rw [←Nat.succ_mul,←Nat.add_mul]
   congr 1
   omega
  ·simp only [Array.toList_append]
   rw [←hlen]
   exact List.take_left
 rcases hown.2 with ⟨hv,h0⟩ | ⟨g,cap',cur,hv,hbg,hg,hnc,hcm,hcs,htake⟩
 ·injection hv with a1 a2 a3
  subst a1 a3 a2
  have hxs:xs=[]:=List.eq_nil_of_length_eq_zero (by rw [hxl,Nat.zero_mul])
  subst hxs
  have hrun:=run_append_nil (P:=P) w t ty e i z ht hi hz ⟨b,0,none⟩ 1 1 news hml hcells (by omega) (by omega)
   (by rw [hby];have hb:=hbytes;simp only [Nat.zero_add] at hb;exact Kah (Nat.mul_le_mul_right _ (by omega)) hb)
  have hgr:=grown 0 (by omega) (blk none)
  simp only [Nat.zero_add,List.nil_append,Array.empty_append] at hgr ⊢
  exact ⟨_,_,_,hrun,hgr.1,hgr.2,.inr rfl⟩
 ·injection hv with a1 a2 a3
  subst a1 a3
  by_cases hroom:n+1≤cap
  ·have hrun:=run_append_room (P:=P) w t ty e i ht hi g n cap cur hg ⟨b,0,none⟩ 1 1 news hml hcells h1 hroom (by rw [hsz,hcs,hm,←Nat.succ_mul];exact Nat.mul_le_mul_right _ hroom)
   refine ⟨_,_,_,hrun,⟨hlen,.inr ⟨g,cap,_,rfl,hbg,setRow_heap w g cur _ e _ hg,by omega,hcm,?_,?_⟩⟩,⟨rfl,rfl,rfl,by simp,fun k _ hk=>setRow_other w g k _ (fun e=>hk (by simp [blk,e]))⟩,.inl rfl⟩
   ·have:(n+1)*size≤cap*size:=Nat.mul_le_mul_right _ hroom
    have h5:n*size≤cap*size:=Nat.mul_le_mul_right _ hnc
    have hs1:(n+1)*size=n*size+size:=Nat.succ_mul n size
    simp only [List.size_toArray,List.length_append,List.length_take,List.length_drop,Array.length_toList]
    rw [hsz,hm,hcs]
    omega
   ·rw [hsz,htake,←hlen]
    exact List.take_left
  ·have holds:∀ (j:Nat) (u:Value),xs[j]?=some u→w.cell? ((⟨g,0,none⟩:Addr).add j)=some u:=fun j u hu=>by
    have e':(⟨g,0,none⟩:Addr).add j=⟨g,j,none⟩:=by unfold Addr.add;split <;> simp_all
    rw [e',Kaa w g j cur e (0,0) hg]
    have h2:(cur.toList.take (n*size))[j]?=some u:=by rw [htake];exact hu
    rw [List.getElem?_take] at h2
    split at h2
    ·simpa using h2
    ·cases h2
   have hrun:=run_append_grow (P:=P) w t ty e i z ht hi hz ⟨g,0,none⟩ n cap xs (by rw [hsz];exact hxl) holds ⟨b,0,none⟩ 1 1 news hml hcells (by omega) (by omega) (growslice_fits_wide (by omega) (by rw [hby];exact hbytes))
   have hgr:=grown cap (by omega) (blk (some ⟨g,0,none⟩))
   exact ⟨_,_,_,hrun,hgr.1,hgr.2,.inr rfl⟩
theorem Zei:(Tryz.prog.info? 39).map (fun i=>(i.zero,i.size,i.bytes))=some (some (.int .u64 0),1,8):=by kernel_rfl
theorem Zej (l:List UInt64):∀ u∈l.map U,u.oneCell'=true:=by
 intro v hv
 obtain ⟨x,_,rfl⟩:=List.mem_map.1 hv
 rfl
theorem app64 {w:World} {ops:Array Oper} {rest:List Oper} {o:Oper} {a:Act} {Q:Exit→Act→World→Prop} (hgd:o.guard=none) (s x:Operand)
  (ho:o.op=.call { callee:=.builtin .append,args:=#[s,x],argTypes:=#[40,40] }) (base:Nat)
  (A:Option Addr) (cap:Nat) (xs:List UInt64) (n:Nat) (hn:xs.length=n) (hs:a.eval s=.slice A n cap) (hown:Own w base 39 A cap (xs.map U))
  (A2:Option Addr) (m c B:Nat) (news:List UInt64) (hm:news.length=m) (hx:a.eval x=.slice A2 m c) (hr:Rd w B A2 (news.map U)) (hnil:A2=none→m=0)
  (hbytes:n+m≤26388279066624) (hbase:base≤w.heap.size)
  (h:∀ A' cap' w',Own w' base 39 A' cap' ((xs++news).map U)→w.grownBy w' (blk A)→(blk A'=blk A∨blk A'=some w.heap.size)→wpList Tryz.prog ops Q rest (a.put o.dst (.slice A' (n+m) cap')) w'):
  wpList Tryz.prog ops Q (o::rest) a w:=by
 obtain ⟨i0,hi0,hz0,hz1,hz2⟩:=info_parts Zei
 refine Zbu hgd s x 40 ho base 39 i0 _ 8 Tryz.underlying40 hi0 hz0 hz1 hz2 rfl A cap (xs.map U) n (by rw [Kak];exact hn) hs hown A2 m c B (news.map U) (by rw [Kak];exact hm) hx hr hnil (Zej _) (by simp only [maxLen];omega) (by omega) hbase ?_
 intro A' cap' w' h1 h2 h3
 rw [←List.map_append] at h1
 exact h A' cap' w' h1 h2 h3
section
variable {w w':World} {base cap g:Nat} {e:TypeId} {A:Option Addr} {xs:List Value}
theorem Own.cellAt (h:Own w base e (some ⟨g,0,none⟩) cap xs) {i:Nat} {v:Value} (hi:xs[i]?=some v):w.cell? ⟨g,i,none⟩=some v:=by
 obtain ⟨b,o,h1,_,h2⟩:=h.rd.at_ hi
 injection h1 with h1
 injection h1 with h1 h3
 subst h1 h3
 rw [Nat.zero_add] at h2
 exact h2
theorem ZfY (h:Own w base e A cap xs):xs.length≤cap∧cap≤9223372036854775807:=by
 rcases h.2 with ⟨hv,hn⟩ | ⟨g,cap',cur,hv,hb,hg,h1,h2,_⟩
 ·injection hv with a b c
  subst c
  exact ⟨by omega,by omega⟩
 ·injection hv with a b c
  subst c
  simp only [maxLen] at h2
  exact ⟨h1,by omega⟩
end
theorem ZlQ {w:World} {B:Nat} {A:Option Addr} {l:List UInt64} (h:Rd w B A (l.map U)):A=none→l.length=0:=by
 rintro rfl
 rcases h with h | ⟨b,o,h,_⟩
 ·simpa using h
 ·cases h
end Go.Proofs.YtghlnncfigkkaaaGreatDoor
set_option maxRecDepth 100000
set_option maxHeartbeats 8000000
open Go.Lib (hid)
namespace Go.Proofs.YtghlnncfigkkaaaGreatDoor
open Go.RowKit
theorem Zit:(Tryz.prog.info? 4).map (fun i=>(i.zero,i.size,i.bytes))=some (some (.bool false),1,1):=by kernel_rfl
theorem Zer (n:Nat) (hn:n≤1099511627776) (w:World) (e:Int) (he:e=n):
  (Instr.makeSlice 73 (.int .i64 e) (.int .i64 e)).run Tryz.prog w=.ok (.slice (some ⟨w.heap.size,0,none⟩) n n) (w.alloc (.cells ((List.range n).map fun _=>Value.bool false).toArray 4)):=by
 obtain ⟨i0,hi0,hz0,hz1,hz2⟩:=info_parts Zit
 have hr:=run_make (P := Tryz.prog) w 73 4 i0 (.bool false) Tryz.underlying73 hi0 hz0 .i64 .i64 e e (by omega) (by omega) (by rw [hz2];omega) (by omega)
 rw [hr,he,hz1]
 have:(madeCells (Value.bool false).cells ((n:Int).toNat*1))=((List.range n).map fun _=>Value.bool false).toArray:=by
  apply Array.ext'
  rw [show (Value.bool false).cells=#[Value.bool false] from rfl,toList_madeCells_one]
  simp
  symm
  rw [List.eq_replicate_iff]
  simp
 rw [this]
 rfl
def Zdb (p:ByteArray × Value):List Value:=[.string p.1,p.2]
def RdNm (w:World) (A:Option Addr) (nv:List (ByteArray × Value)):Prop:=Rd w w.heap.size A (nv.flatMap Zdb)
theorem RdNm.at_ {w:World} {A:Option Addr} {nv:List (ByteArray × Value)} (h:RdNm w A nv) {i:Nat} {p:ByteArray × Value} (hi:nv[i]?=some p):∃ b o,A=some ⟨b,o,none⟩∧b<w.heap.size∧w.cell? ⟨b,o+i*2,none⟩=some (.string p.1)∧w.cell? ⟨b,o+i*2+1,none⟩=some p.2:=by
 have h0:=Zaq Zdb 2 (fun _=>rfl) nv i 0 p hi (by omega)
 have h1:=Zaq Zdb 2 (fun _=>rfl) nv i 1 p hi (by omega)
 rcases h with h | ⟨b,o,hA,hb,hc⟩
 ·rw [h] at h0
  simp [Zdb] at h0
 ·exact ⟨b,o,hA,hb,hc _ _ h0,hc _ _ h1⟩
def RShp (X:Nat→Prop) (w:World) (sg ne:Nat) (shapes:List (List Int)):Prop:=∃ svs:List Value,w.heap[sg]?=some (.cells svs.toArray 41 (0,0))∧svs.length=ne∧shapes.length=ne∧∀ (j:Nat) (v:Value) (l:List Int),svs[j]?=some v→shapes[j]?=some l→ShV X w v l
section
variable {X:Nat→Prop} {w w':World} {sg ne:Nat} {shapes:List (List Int)}
theorem RShp.lt (h:RShp X w sg ne shapes):sg<w.heap.size:=by
 obtain ⟨svs,s1,_⟩:=h
 exact (Kab.1 s1).1
theorem RShp.next (h:RShp X w sg ne shapes) (hb:Below w.heap.size w w'):RShp X w' sg ne shapes:=by
 have hlt:=h.lt
 obtain ⟨svs,s1,s2,s3,s4⟩:=h
 exact ⟨svs,(hb.block _ hlt).trans s1,s2,s3,fun j v l hv hl=>(s4 j v l hv hl).next hb⟩
theorem RShp.shape (h:RShp X w sg ne shapes) {a:Nat} (ha:a<ne):∃ A c n,w.cell? ⟨sg,a,none⟩=some (.slice A n c)∧n=(shapes.getD a []).length∧ShV X w (.slice A n c) (shapes.getD a []):=by
 obtain ⟨svs,s1,s2,s3,s4⟩:=h
 have h1:svs[a]?=some (svs[a]'(by omega)):=Kad _
 have h2:shapes[a]?=some (shapes[a]'(by omega)):=Kad _
 have hv:=s4 a _ _ h1 h2
 have hd:shapes.getD a []=shapes[a]'(by omega):=by simp [List.getD_eq_getElem?_getD,h2]
 have hcell:w.cell? ⟨sg,a,none⟩=some (svs[a]'(by omega)):=by
  rw [Kaa w sg a _ _ (0,0) s1]
  simp
 rw [hd]
 have hv':=hv
 obtain ⟨A,c,e,_⟩:=hv
 rw [e] at hcell hv'
 exact ⟨A,c,_,hcell,rfl,hv'⟩
end
def rkX (sg:Nat) (NA:Option Addr) (k:Nat):Prop:=k=sg∨blk NA=some k
structure RkSt (w:World) (B sg ne:Nat) (NA:Option Addr) (nn nc:Nat) (names:Names) (sh:List (List Int)):Prop where
 b:B≤sg
 nm:∃ nv:List (ByteArray × Value),w.ownsRow B 199 2 (.slice NA nn nc) nn (nv.flatMap Zdb)∧nn=nv.length∧NamR (rkX sg NA) w nv names
 sp:RShp (rkX sg NA) w sg ne sh
 ns:blk NA≠some sg
theorem Zi0 {w:World} {base k n c:Nat} {T:TypeId} {A:Option Addr} {xs:List Value} (h:w.ownsRow base T k (.slice A n c) n xs):∀ g,blk A=some g→base≤g∧g<w.heap.size:=by
 intro g hg
 rcases h.2 with ⟨hv,h0⟩ | ⟨g',cap',cur,hv,hb,hh,r⟩
 ·injection hv with a
  rw [a] at hg
  cases hg
 ·injection hv with a
  rw [a] at hg
  have:g'=g:=by simpa [blk] using hg
  subst this
  exact ⟨hb,(Kab.1 hh).1⟩
theorem Zfy {w w':World} {base k n c:Nat} {T:TypeId} {A:Option Addr} {xs:List Value} (h:w.ownsRow base T k (.slice A n c) n xs) (hk:∀ g,blk A=some g→w'.heap[g]?=w.heap[g]?):w'.ownsRow base T k (.slice A n c) n xs:=by
 refine ⟨h.1,?_⟩
 rcases h.2 with hv | ⟨g',cap',cur,hv,hb,hh,r⟩
 ·exact .inl hv
 ·refine .inr ⟨g',cap',cur,hv,hb,?_,r⟩
  have:blk A=some g':=by injection hv with a;rw [a];rfl
  rw [hk g' this]
  exact hh
section
variable {w w':World} {B sg ne:Nat} {NA:Option Addr} {nn nc:Nat} {names:Names} {sh:List (List Int)}
theorem RkSt.lt (h:RkSt w B sg ne NA nn nc names sh):∀ k,rkX sg NA k→k<w.heap.size:=by
 intro k hk
 rcases hk with rfl | hk
 ·exact h.sp.lt
 ·obtain ⟨nv,h1,_⟩:=h.nm
  exact (Zi0 h1 k hk).2
theorem RkSt.next (h:RkSt w B sg ne NA nn nc names sh) (hb:Below w.heap.size w w'):RkSt w' B sg ne NA nn nc names sh:=by
 have hlt:=h.lt
 obtain ⟨b,⟨nv,h1,h2,h3⟩,sp,ns⟩:=h
 exact ⟨b,⟨nv,Zfy h1 (fun g hg=>hb.block g (hlt g (.inr hg))),h2,h3.keep (KeepX.of hb)⟩,sp.next hb,ns⟩
theorem Zgf (w:World) (t:Addr) (v:Value) {k:Nat} (h:k≠t.block):(w.setCell t v).heap[k]?=w.heap[k]?:=by
 unfold World.setCell
 simp only [Array.getElem?_modify]
 rw [if_neg (fun e=>h e.symm)]
theorem RkSt.set (h:RkSt w B sg ne NA nn nc names sh) {a:Nat} (ha:a<ne) {v:Value} {l:List Int} (hv:ShV (rkX sg NA) w v l):
  RkSt (w.setCell ⟨sg,a,none⟩ v) B sg ne NA nn nc names (sh.set a l):=by
 have hkeep:KeepX (rkX sg NA) w (w.setCell ⟨sg,a,none⟩ v):=by
  refine ⟨by simp [World.setCell],fun p hp hx => ?_⟩
  unfold World.cell?
  rw [Zgf w ⟨sg,a,none⟩ v (fun e=>hx (.inl e))]
 obtain ⟨b,⟨nv,h1,h2,h3⟩,⟨svs,s1,s2,s3,s4⟩,ns⟩:=h
 refine ⟨b,⟨nv,Zfy h1 (fun g hg=>Zgf w ⟨sg,a,none⟩ v (fun e=>ns (by rw [hg];exact congrArg some e))),h2,h3.keep hkeep⟩,⟨svs.set a v,?_,by simpa using s2,by simpa using s3,?_⟩,ns⟩
 ·simp [World.setCell,Array.getElem?_modify,s1]
 ·intro j u m hu hm
  rw [List.getElem?_set] at hu hm
  by_cases e:a=j
  ·subst e
   rw [if_pos rfl,if_pos (by omega)] at hu hm
   injection hu with hu
   injection hm with hm
   subst hu hm
   exact hv.keep hkeep
  ·rw [if_neg e] at hu hm
   exact (s4 j u m hu hm).keep hkeep
end
end Go.Proofs.YtghlnncfigkkaaaGreatDoor
