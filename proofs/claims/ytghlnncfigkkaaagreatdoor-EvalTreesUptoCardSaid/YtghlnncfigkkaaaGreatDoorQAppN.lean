/-
  append of one element of several cells onto a row of the call's own: where the new row lies. append of words onto rows of the call's own: the general law at this program's types. Rows of the call's own: their cells, and what becomes of them.
-/
import Derived.Test.YtghlnncfigkkaaaGreatDoorQNum
import Derived.Test.YtghlnncfigkkaaaGreatDoorQApp
import Derived.Test.YtghlnncfigkkaaaGreatDoorRows
import Derived.Deep.OwnRows
namespace Go.Proofs.YtghlnncfigkkaaaGreatDoor
set_option linter.unusedVariables false
set_option linter.unusedSimpArgs false
open Go.RowKit
theorem ZeH {P:Program} (w:World) (base:Nat) (t ty e:TypeId) (i:TypeInfo) (z:Value) (size bytes:Nat) (ht:P.underlying t=some (.slice e)) (hi:P.info? e=some i) (hz:i.zero=some z)
  (hsz:i.size=size) (hs0:0<size) (hby:i.bytes=bytes) (hzs:z.cells.size=size)
  (A:Option Addr) (cap n:Nat) (xs:List Value) (hown:w.ownsRow base e size (.slice A n cap) n xs)
  (b:Nat) (news:List Value) (hm:news.length=size) (hr:∀ (j:Nat) (u:Value),news[j]?=some u→w.cell? ⟨b,j,none⟩=some u) (h1:∀ u∈news,u.oneCell'=true)
  (h63:n+1≤maxLen) (hbytes:((n+1)+(n+1) / 4+192)*bytes≤281474976710656) (hbase:base≤w.heap.size):
  ∃ A' cap' w',(Builtin.append_ #[t,t] ty #[.slice A n cap,.slice (some ⟨b,0,none⟩) 1 1]).run P w=.ok (.slice A' (n+1) cap') w'∧w'.ownsRow base e size (.slice A' (n+1) cap') (n+1) (xs++news)∧w.grownBy w' (blk A)∧(blk A'=blk A∨blk A'=some w.heap.size):=by
 have hcells:∀ (j:Nat) (u:Value),news[j]?=some u→w.cell? ((⟨b,0,none⟩:Addr).add j)=some u:=by
  intro j u hu
  have e':(⟨b,0,none⟩:Addr).add j=⟨b,j,none⟩:=by unfold Addr.add;split <;> simp_all
  rw [e']
  exact hr j u hu
 have hsmall:n+1≤9223372036854775807:=by simp only [maxLen] at h63;omega
 have hxl:=hown.1
 have hml:news.length=1*i.size:=by rw [hsz,hm,Nat.one_mul]
 have hlen:(xs++news).length=(n+1)*size:=by rw [List.length_append,hxl,hm,Nat.succ_mul]
 have grown:∀ (old:Nat),old<n+1→∀ (row:Option Nat),
   (w.drew.alloc (.cells (xs.toArray++news.toArray++Builtin.zeroCells z.cells (grownCap w (n+1) old e-(n+1))) e)).ownsRow base e size (.slice (some ⟨w.heap.size,0,none⟩) (n+1) (grownCap w (n+1) old e)) (n+1) (xs++news) ∧
   w.grownBy (w.drew.alloc (.cells (xs.toArray++news.toArray++Builtin.zeroCells z.cells (grownCap w (n+1) old e-(n+1))) e)) row:=by
  intro old _ row
  have hge:=grownCap_ge w (n+1) old e
  have hcm:grownCap w (n+1) old e≤maxLen:=grownCap_le_maxLen w (n+1) old e h63
  refine ⟨⟨hlen,.inr ⟨w.heap.size,_,_,rfl,hbase,heap_alloc_new w.drew _,by omega,hcm,?_,?_⟩⟩,⟨rfl,rfl,rfl,by simp,fun k hk _=>Below.heap_alloc w.drew _ k hk⟩⟩
  ·simp only [Array.size_append,List.size_toArray,size_zeroCells,hzs,hxl,hm]
   rw [←Nat.succ_mul,←Nat.add_mul]
   congr 1
   omega
  ·simp only [Array.toList_append]
   rw [←hlen]
   exact List.take_left
 rcases hown.2 with ⟨hv,h0⟩ | ⟨g,cap',cur,hv,hbg,hg,hnc,hcm,hcs,htake⟩
 ·injection hv with a1 a2 a3
  subst a1 a3 a2
  have hxs:xs=[]:=List.eq_nil_of_length_eq_zero (by rw [hxl,Nat.zero_mul])
  subst hxs
  have hrun:=run_append_nil (P:=P) w t ty e i z ht hi hz ⟨b,0,none⟩ 1 1 news hml hcells (by omega) (by omega)
   (by rw [hby];have hb:=hbytes;simp only [Nat.zero_add] at hb;exact Nat.le_trans (Nat.mul_le_mul_right _ (by omega)) hb)
  have hgr:=grown 0 (by omega) (blk none)
  simp only [Nat.zero_add,List.nil_append,Array.empty_append] at hgr ⊢
  exact ⟨_,_,_,hrun,hgr.1,hgr.2,.inr rfl⟩
 ·injection hv with a1 a2 a3
  subst a1 a3
  by_cases hroom:n+1≤cap
  ·have hrun:=run_append_room (P:=P) w t ty e i ht hi g n cap cur hg ⟨b,0,none⟩ 1 1 news hml hcells h1 hroom (by rw [hsz,hcs,hm,←Nat.succ_mul];exact Nat.mul_le_mul_right _ hroom)
   refine ⟨_,_,_,hrun,⟨hlen,.inr ⟨g,cap,_,rfl,hbg,setRow_heap w g cur _ e _ hg,by omega,hcm,?_,?_⟩⟩,⟨rfl,rfl,rfl,by simp,fun k _ hk=>setRow_other w g k _ (fun e=>hk (by simp [blk,e]))⟩,.inl rfl⟩
   ·have:(n+1)*size≤cap*size:=Nat.mul_le_mul_right _ hroom
    have h5:n*size≤cap*size:=Nat.mul_le_mul_right _ hnc
    have hs1:(n+1)*size=n*size+size:=Nat.succ_mul n size
    simp only [List.size_toArray,List.length_append,List.length_take,List.length_drop,Array.length_toList]
    rw [hsz,hm,hcs]
    omega
   ·rw [hsz,htake,←hlen]
    exact List.take_left
  ·have holds:∀ (j:Nat) (u:Value),xs[j]?=some u→w.cell? ((⟨g,0,none⟩:Addr).add j)=some u:=fun j u hu=>by
    have e':(⟨g,0,none⟩:Addr).add j=⟨g,j,none⟩:=by unfold Addr.add;split <;> simp_all
    rw [e',cell_of_row w g j cur e (0,0) hg]
    have h2:(cur.toList.take (n*size))[j]?=some u:=by rw [htake];exact hu
    rw [List.getElem?_take] at h2
    split at h2
    ·simpa using h2
    ·cases h2
   have hrun:=run_append_grow (P:=P) w t ty e i z ht hi hz ⟨g,0,none⟩ n cap xs (by rw [hsz];exact hxl) holds ⟨b,0,none⟩ 1 1 news hml hcells (by omega) (by omega) (growslice_fits_wide (by omega) (by rw [hby];exact hbytes))
   have hgr:=grown cap (by omega) (blk (some ⟨g,0,none⟩))
   exact ⟨_,_,_,hrun,hgr.1,hgr.2,.inr rfl⟩
theorem ZfX {P:Program} {w:World} {o:Oper} {a:Act} {K:Act→World→Prop} {Q:Exit→Act→World→Prop} (s x:Operand) (t:TypeId)
  (ho:o.op=.call { callee:=.builtin .append,args:=#[s,x],argTypes:=#[t,t] })
  (base:Nat) (e:TypeId) (i:TypeInfo) (z:Value) (size bytes:Nat) (ht:P.underlying t=some (.slice e)) (hi:P.info? e=some i) (hz:i.zero=some z)
  (hsz:i.size=size) (hs0:0<size) (hby:i.bytes=bytes) (hzs:z.cells.size=size)
  (A:Option Addr) (cap n:Nat) (xs:List Value) (hs:a.eval s=.slice A n cap) (hown:w.ownsRow base e size (.slice A n cap) n xs)
  (b:Nat) (news:List Value) (hm:news.length=size) (hx:a.eval x=.slice (some ⟨b,0,none⟩) 1 1) (hr:∀ (j:Nat) (u:Value),news[j]?=some u→w.cell? ⟨b,j,none⟩=some u) (h1:∀ u∈news,u.oneCell'=true)
  (h63:n+1≤maxLen) (hbytes:((n+1)+(n+1) / 4+192)*bytes≤281474976710656) (hbase:base≤w.heap.size)
  (h:∀ A' cap' w',w'.ownsRow base e size (.slice A' (n+1) cap') (n+1) (xs++news)→w.grownBy w' (blk A)→(blk A'=blk A∨blk A'=some w.heap.size)→K (a.put o.dst (.slice A' (n+1) cap')) w'):o.wp P a w K Q:=by
 obtain ⟨A',cap',w',hrun,h2,h3,h4⟩:=ZeH (P:=P) w base t o.type e i z size bytes ht hi hz hsz hs0 hby hzs A cap n xs hown b news hm hr h1 h63 hbytes hbase
 unfold Oper.wp execOp
 simp only [ho,resolve,invoke,builtin,Sem.run_bind,Sem.run_pure,Result.andThen_ok,List.map_toArray,List.map_cons,List.map_nil,hs,hx,hrun]
 exact h A' cap' w' h2 h3 h4
theorem Zei:(Tryz.prog.info? 39).map (fun i=>(i.zero,i.size,i.bytes))=some (some (.int .u64 0),1,8):=by kernel_rfl
theorem Zej (l:List UInt64):∀ u∈l.map U,u.oneCell'=true:=by
 intro v hv
 obtain ⟨x,_,rfl⟩:=List.mem_map.1 hv
 rfl
theorem app64 {w:World} {ops:Array Oper} {rest:List Oper} {o:Oper} {a:Act} {Q:Exit→Act→World→Prop} (hgd:o.guard=none) (s x:Operand)
  (ho:o.op=.call { callee:=.builtin .append,args:=#[s,x],argTypes:=#[40,40] }) (base:Nat)
  (A:Option Addr) (cap:Nat) (xs:List UInt64) (n:Nat) (hn:xs.length=n) (hs:a.eval s=.slice A n cap) (hown:Own w base 39 A cap (xs.map U))
  (A2:Option Addr) (m c B:Nat) (news:List UInt64) (hm:news.length=m) (hx:a.eval x=.slice A2 m c) (hr:Rd w B A2 (news.map U)) (hnil:A2=none→m=0)
  (hbytes:n+m≤26388279066624) (hbase:base≤w.heap.size)
  (h:∀ A' cap' w',Own w' base 39 A' cap' ((xs++news).map U)→w.grownBy w' (blk A)→(blk A'=blk A∨blk A'=some w.heap.size)→wpList Tryz.prog ops Q rest (a.put o.dst (.slice A' (n+m) cap')) w'):
  wpList Tryz.prog ops Q (o::rest) a w:=by
 obtain ⟨i0,hi0,hz0,hz1,hz2⟩:=info_parts Zei
 refine Zbu hgd s x 40 ho base 39 i0 _ 8 Tryz.underlying40 hi0 hz0 hz1 hz2 rfl A cap (xs.map U) n (by rw [List.length_map];exact hn) hs hown A2 m c B (news.map U) (by rw [List.length_map];exact hm) hx hr hnil (Zej _) (by simp only [maxLen];omega) (by omega) hbase ?_
 intro A' cap' w' h1 h2 h3
 rw [←List.map_append] at h1
 exact h A' cap' w' h1 h2 h3
theorem Zhw {w:World} {ops:Array Oper} {o:Oper} {a:Act} {K:Act→World→Prop} {Q:Exit→Act→World→Prop} {E:Prop} (hgd:o.guard=none) (s x:Operand)
  (ho:o.op=.call { callee:=.builtin .append,args:=#[s,x],argTypes:=#[40,40] }) (base:Nat)
  (A:Option Addr) (cap:Nat) (xs:List UInt64) (n:Nat) (hn:xs.length=n) (hs:a.eval s=.slice A n cap) (hown:Own w base 39 A cap (xs.map U))
  (A2:Option Addr) (m c B:Nat) (news:List UInt64) (hm:news.length=m) (hx:a.eval x=.slice A2 m c) (hr:Rd w B A2 (news.map U)) (hnil:A2=none→m=0)
  (hbytes:n+m≤26388279066624) (hbase:base≤w.heap.size)
  (h:∀ A' cap' w',Own w' base 39 A' cap' ((xs++news).map U)→w.grownBy w' (blk A)→(blk A'=blk A∨blk A'=some w.heap.size)→K (a.put o.dst (.slice A' (n+m) cap')) w'):
  if Region.wanted o (yielded ops a.tmps)=true then Oper.wp Tryz.prog o a w K Q else E:=by
 obtain ⟨i0,hi0,hz0,hz1,hz2⟩:=info_parts Zei
 refine ZeG hgd s x 40 ho base 39 i0 _ 8 Tryz.underlying40 hi0 hz0 hz1 hz2 rfl A cap (xs.map U) n (by rw [List.length_map];exact hn) hs hown A2 m c B (news.map U) (by rw [List.length_map];exact hm) hx hr hnil (Zej _) (by simp only [maxLen];omega) (by omega) hbase ?_
 intro A' cap' w' h1 h2 h3
 rw [←List.map_append] at h1
 exact h A' cap' w' h1 h2 h3
theorem ZbC (w:World) (x:UInt64):Rd (w.alloc (.cells #[U x] 39)) (w.heap.size+1) (some ⟨w.heap.size,0,none⟩) ([x].map U):=Rd.one _ _ _
section
variable {w w':World} {base cap g:Nat} {e:TypeId} {A:Option Addr} {xs:List Value}
theorem Own.some_ (h:Own w base e A cap xs) (hl:xs.length≠0):∃ g,A=some ⟨g,0,none⟩∧base≤g∧g<w.heap.size:=by
 rcases h.form with ⟨_,h2⟩ | ⟨g,cur,h1,hb,hg,_⟩
 ·exact absurd (by rw [h2];rfl) hl
 ·exact ⟨g,h1,hb,(Array.getElem?_eq_some_iff.1 hg).1⟩
theorem Own.cellAt (h:Own w base e (some ⟨g,0,none⟩) cap xs) {i:Nat} {v:Value} (hi:xs[i]?=some v):w.cell? ⟨g,i,none⟩=some v:=by
 obtain ⟨b,o,h1,_,h2⟩:=h.rd.at_ hi
 injection h1 with h1
 injection h1 with h1 h3
 subst h1 h3
 rw [Nat.zero_add] at h2
 exact h2
theorem ZfY (h:Own w base e A cap xs):xs.length≤cap∧cap≤9223372036854775807:=by
 rcases h.2 with ⟨hv,hn⟩ | ⟨g,cap',cur,hv,hb,hg,h1,h2,_⟩
 ·injection hv with a b c
  subst c
  exact ⟨by omega,by omega⟩
 ·injection hv with a b c
  subst c
  simp only [maxLen] at h2
  exact ⟨h1,by omega⟩
end
theorem ZgH {w:World} {base cap:Nat} {e:TypeId} {A:Option Addr} {l:List UInt64} (h:Own w base e A cap (l.map U)):l.length≤cap∧cap≤9223372036854775807:=by
 have:=ZfY h
 rwa [List.length_map] at this
theorem ZlQ {w:World} {B:Nat} {A:Option Addr} {l:List UInt64} (h:Rd w B A (l.map U)):A=none→l.length=0:=by
 rintro rfl
 rcases h with h | ⟨b,o,h,_⟩
 ·simpa using h
 ·cases h
end Go.Proofs.YtghlnncfigkkaaaGreatDoor
