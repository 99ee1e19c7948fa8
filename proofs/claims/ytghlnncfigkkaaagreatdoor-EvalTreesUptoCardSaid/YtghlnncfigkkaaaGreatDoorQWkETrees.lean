/-
  Rows of statements and of expressions with any integers, of the call's own: appends and stores. Printed by gen_ownt.py. The law's Own walked: a tree with lists of its own. As many outputs as statements, at most. Rows of tensors: the document's Same at two that read alike; stores into answered tensors. The eval law's own copies of tensors, plainly: at most twelve tensors, five sizes, a hundred words of each. The eval law's own walked: tensors with lists of their own. The walk of the law EvalTrees.
-/
import Derived.Test.YtghlnncfigkkaaaGreatDoorQTree
import Derived.Test.YtghlnncfigkkaaaGreatDoorQAppN
import Derived.Test.YtghlnncfigkkaaaGreatDoorQNum
import Derived.Test.YtghlnncfigkkaaaGreatDoorQChkB
import Derived.Test.YtghlnncfigkkaaaGreatDoorQChkP
import Derived.BigQuiet
import Derived.Test.YtghlnncfigkkaaaGreatDoorQEvL
import Derived.Test.YtghlnncfigkkaaaGreatDoorQEvAT
import Derived.Test.YtghlnncfigkkaaaGreatDoorQEvS
import Derived.Test.YtghlnncfigkkaaaGreatDoorQEvB
import Derived.Test.YtghlnncfigkkaaaGreatDoorQTk
import Derived.Deep.RegionHeld3
import Derived.Test.YtghlnncfigkkaaaGreatDoorQRvH
import Derived.Test.YtghlnncfigkkaaaGreatDoorQEvC
import Derived.Deep.RegionLaw
set_option maxRecDepth 100000
set_option maxHeartbeats 8000000
open Go.Lib (hid)
namespace Go.Proofs.YtghlnncfigkkaaaGreatDoor
set_option linter.unusedVariables false
set_option linter.unusedSimpArgs false
open Go.RowKit
theorem Yaa {α β:Type} (f:α→List β) (k:Nat) (hf:∀ x,(f x).length=k) (x':α) (v:β):∀ (l:List α) (i j:Nat) (x:α),l[i]?=some x→j<k→f x'=(f x).set j v→(l.set i x').flatMap f=(l.flatMap f).set (i*k+j) v
 | [],i,j,x,h,_,_=>by simp at h
 | y::l,0,j,x,h,hj,hv=>by
  simp at h
  subst h
  rw [List.set_cons_zero,List.flatMap_cons,List.flatMap_cons,hv,Nat.zero_mul,Nat.zero_add,List.set_append_left _ _ (by rw [hf];exact hj)]
 | y::l,i+1,j,x,h,hj,hv=>by
  have ih:=Yaa f k hf x' v l i j x (by simpa using h) hj hv
  rw [List.set_cons_succ,List.flatMap_cons,List.flatMap_cons,ih,List.set_append_right _ _ (by rw [hf,Nat.succ_mul];omega)]
  congr 2
  rw [hf,Nat.succ_mul]
  omega
def ArgI (w:World) (B:Nat) (v:Value) (l:List Int):Prop:=∃ A c,v=.slice A l.length c∧Own w B 3 A c (l.map VI)
theorem Yab {w w':World} {b cap:Nat} {A:Option Addr} {xs:List Value} (h:Own w b 3 A cap xs) (hk:∀ (g:Nat) (cur:Array Value),w.heap[g]?=some (.cells cur 3 (0,0))→w'.heap[g]?=some (.cells cur 3 (0,0))):Own w' b 3 A cap xs:=by
 refine ⟨h.1,?_⟩
 rcases h.2 with hv | ⟨g,cap',cur,hv,hb1,hg,r⟩
 ·exact .inl hv
 ·exact .inr ⟨g,cap',cur,hv,hb1,hk g cur hg,r⟩
theorem ArgI.keep {w w':World} {b:Nat} {v:Value} {l:List Int} (h:ArgI w b v l) (hk:∀ (g:Nat) (cur:Array Value),w.heap[g]?=some (.cells cur 3 (0,0))→w'.heap[g]?=some (.cells cur 3 (0,0))):ArgI w' b v l:=by
 obtain ⟨A,c,h1,h2⟩:=h
 exact ⟨A,c,h1,Yab h2 hk⟩
theorem ArgI.base {w:World} {b b':Nat} {v:Value} {l:List Int} (h:ArgI w b v l) (hb:b'≤b):ArgI w b' v l:=by
 obtain ⟨A,c,h1,h2⟩:=h
 exact ⟨A,c,h1,h2.more hb⟩
theorem ArgI.int {w:World} {b:Nat} {v:Value} {l:List Int} (h:ArgI w b v l):∃ A c,v=.slice A l.length c∧Rd w w.heap.size A (l.map VI)∧l.length≤9223372036854775807∧l.length≤c∧c≤9223372036854775807:=by
 obtain ⟨A,c,h1,h2⟩:=h
 have hc:=Zfl h2
 rw [List.length_map] at hc
 exact ⟨A,c,h1,h2.rd,hc⟩
theorem ArgI.one {w:World} {b:Nat} {v:Value} {l:List Int} (h:ArgI w b v l):v.oneCell'=true:=by
 obtain ⟨A,c,rfl,_⟩:=h
 rfl
def KI (w w':World):Prop:=∀ (g:Nat) (cur:Array Value),w.heap[g]?=some (.cells cur 3 (0,0))→w'.heap[g]?=some (.cells cur 3 (0,0))
theorem KI.below {w w':World} (h:Below w.heap.size w w'):KI w w':=fun g cur hg=>(h.block g (Array.getElem?_eq_some_iff.1 hg).1).trans hg
theorem KI.trans {a b c:World} (h:KI a b) (h':KI b c):KI a c:=fun g cur hg=>h' g cur (h g cur hg)
theorem KI.set {w:World} {b k:Nat} {cs:Array Value} {T:TypeId} {fr:Nat × Nat} (hp:w.heap[b]?=some (.cells cs T fr)) (hT:T≠3) (v:Value):KI w (w.setCell ⟨b,k,none⟩ v):=fun g cur hg=>by
 rw [Below.heap_setCell w ⟨b,k,none⟩ v g (fun e=>by
  have e':g=b:=e
  subst e'
  rw [hp] at hg
  injection hg with hg
  injection hg with _ hg _
  exact hT hg)]
 exact hg
theorem KI.grown {w w':World} {A:Option Addr} {T:TypeId} (hg:w.grownBy w' (blk A)) (hT:T≠3) (hA:A=none∨∃ g cur,A=some ⟨g,0,none⟩∧w.heap[g]?=some (.cells cur T (0,0))):KI w w':=fun k cur hk=>by
 rw [hg.block k (Array.getElem?_eq_some_iff.1 hk).1 (fun e=>by
  rcases hA with rfl | ⟨g,cur',rfl,hc⟩
  ·simp [blk] at e
  ·have e':k=g:=by simpa [blk] using e
   subst e'
   rw [hc] at hk
   injection hk with hk
   injection hk with _ hk _
   exact hT hk)]
 exact hk
theorem Yac {w:World} {base size n c:Nat} {T:TypeId} {A:Option Addr} {xs:List Value} (h:w.ownsRow base T size (.slice A n c) n xs):A=none∨∃ g cur,A=some ⟨g,0,none⟩∧base≤g∧w.heap[g]?=some (.cells cur T (0,0)):=by
 rcases h.2 with ⟨hv,_⟩ | ⟨g,cap',cur,hv,hb,hg,_⟩
 ·injection hv with a b c
  exact .inl a
 ·injection hv with a b c
  exact .inr ⟨g,cur,a,hb,hg⟩
theorem Yad {w w':World} {base size n c:Nat} {T:TypeId} {A:Option Addr} {xs:List Value} (h:w.ownsRow base T size (.slice A n c) n xs) (hk:∀ k,blk A=some k→w'.heap[k]?=w.heap[k]?):w'.ownsRow base T size (.slice A n c) n xs:=by
 refine ⟨h.1,?_⟩
 rcases h.2 with hv | ⟨g,cap',cur,hv,hb1,hg,r⟩
 ·exact .inl hv
 ·have e:blk A=some g:=by injection hv with a;rw [a];rfl
  exact .inr ⟨g,cap',cur,hv,hb1,(hk g e).trans hg,r⟩
theorem Yae {w:World} {base base' size n c:Nat} {T:TypeId} {A:Option Addr} {xs:List Value} (h:w.ownsRow base T size (.slice A n c) n xs) (hb:base'≤base):w.ownsRow base' T size (.slice A n c) n xs:=by
 refine ⟨h.1,?_⟩
 rcases h.2 with hv | ⟨g,cap',cur,hv,hb1,r⟩
 ·exact .inl hv
 ·exact .inr ⟨g,cap',cur,hv,by omega,r⟩
theorem Yaf {w:World} {base size n c k:Nat} {T:TypeId} {g:Nat} {xs:List Value} (h:w.ownsRow base T size (.slice (some ⟨g,0,none⟩) n c) n xs) (v:Value) (hk:k<n*size):(w.setCell ⟨g,k,none⟩ v).ownsRow base T size (.slice (some ⟨g,0,none⟩) n c) n (xs.set k v):=by
 refine ⟨by rw [List.length_set];exact h.1,?_⟩
 rcases h.2 with ⟨hv,_⟩ | ⟨g',cap',cur,hv,hb1,hg,h1,h2,h3,h4⟩
 ·injection hv with a;cases a
 ·have e:g'=g:=by injection hv with a;injection a with a;injection a with a;exact a.symm
  subst e
  refine .inr ⟨g',cap',cur.setIfInBounds k v,hv,hb1,by simp [World.setCell,Array.getElem?_modify,hg],h1,h2,by simpa using h3,?_⟩
  rw [Array.toList_setIfInBounds,List.take_set,h4]
def siC (m:SI × Value):List Value:=[.int .i64 m.1.kind,.int .i64 m.1.party,.string m.1.name,m.2,.int .i64 m.1.expr,.int .i64 m.1.pos]
def OwnSI (w:World) (B:Nat) (A:Option Addr) (c:Nat) (l:List SI):Prop:=
 ∃ ms:List (SI × Value),ms.map Prod.fst=l∧w.ownsRow B 93 6 (.slice A l.length c) l.length (ms.flatMap siC)∧∀ m∈ms,ArgI w B m.2 m.1.shape
theorem OwnSI.nil (w:World) (B:Nat):OwnSI w B none 0 []:=⟨[],rfl,World.ownsRow_nil w B _ 6,by simp⟩
theorem OwnSI.keep {w w':World} {B c:Nat} {A:Option Addr} {l:List SI} (h:OwnSI w B A c l) (hi:KI w w') (hk:∀ k,blk A=some k→w'.heap[k]?=w.heap[k]?):OwnSI w' B A c l:=by
 obtain ⟨ms,h1,h2,h3⟩:=h
 exact ⟨ms,h1,Yad h2 hk,fun m hm=>(h3 m hm).keep hi⟩
theorem OwnSI.form {w:World} {B c:Nat} {A:Option Addr} {l:List SI} (h:OwnSI w B A c l):A=none∨∃ g cur,A=some ⟨g,0,none⟩∧B≤g∧w.heap[g]?=some (.cells cur 93 (0,0)):=by
 obtain ⟨ms,h1,h2,h3⟩:=h
 exact Yac h2
theorem OwnSI.lt {w:World} {B c:Nat} {A:Option Addr} {l:List SI} (h:OwnSI w B A c l):∀ k,blk A=some k→B≤k∧k<w.heap.size:=fun k hk=>by
 rcases h.form with rfl | ⟨g,cur,rfl,hb,hg⟩
 ·cases hk
 ·have e:g=k:=by simpa [blk] using hk
  subst e
  exact ⟨hb,(Array.getElem?_eq_some_iff.1 hg).1⟩
theorem OwnSI.next {w w':World} {B c:Nat} {A:Option Addr} {l:List SI} (h:OwnSI w B A c l) (hb:Below w.heap.size w w'):OwnSI w' B A c l:=h.keep (KI.below hb) fun k hk=>hb.block k (h.lt k hk).2
theorem OwnSI.base {w:World} {B B' c:Nat} {A:Option Addr} {l:List SI} (h:OwnSI w B A c l) (hb:B'≤B):OwnSI w B' A c l:=by
 obtain ⟨ms,h1,h2,h3⟩:=h
 exact ⟨ms,h1,Yae h2 hb,fun m hm=>(h3 m hm).base hb⟩
theorem OwnSI.other {w:World} {B c b k:Nat} {A:Option Addr} {l:List SI} {cs:Array Value} {T:TypeId} {fr:Nat × Nat} (h:OwnSI w B A c l) (hp:w.heap[b]?=some (.cells cs T fr)) (hT:T≠3) (hT2:T≠93) (v:Value):OwnSI (w.setCell ⟨b,k,none⟩ v) B A c l:=
 h.keep (KI.set hp hT v) fun g hg=>Below.heap_setCell w ⟨b,k,none⟩ v g (fun e=>by
  have e':g=b:=e
  subst e'
  rcases h.form with rfl | ⟨g',cur,rfl,_,hc⟩
  ·cases hg
  ·have e2:g'=g:=by simpa [blk] using hg
   subst e2
   rw [hp] at hc
   injection hc with hc
   injection hc with _ hc _
   exact hT2 hc)
theorem OwnSI.rd {w:World} {B c:Nat} {A:Option Addr} {l:List SI} (h:OwnSI w B A c l):RdSI w w.heap.size A l:=by
 obtain ⟨ms,h1,h2,h3⟩:=h
 by_cases hl:l=[]
 ·subst hl
  exact .inl rfl
 ·obtain ⟨g,hA,hg,_,hc⟩:=Zbm h2 (List.length_pos_iff.2 hl)
  refine .inr ⟨g,0,hA,hg,fun i x hx => ?_⟩
  subst h1
  rw [List.getElem?_map,Option.map_eq_some_iff] at hx
  obtain ⟨m,hm,rfl⟩:=hx
  have key:∀ j v,(siC m)[j]?=some v→j<6→w.cell? ⟨g,0+i*6+j,none⟩=some v:=fun j v hv hj=>by
   rw [Nat.zero_add]
   exact hc _ v ((Zaq siC 6 (fun _=>rfl) ms i j m hm hj).trans hv)
  obtain ⟨A',c',e1,e2⟩:=(h3 m (List.mem_of_getElem? hm)).int
  exact ⟨key 0 _ rfl (by omega),key 1 _ rfl (by omega),key 2 _ rfl (by omega),⟨A',c',by rw [←e1];exact key 3 _ rfl (by omega),e2⟩,key 4 _ rfl (by omega),key 5 _ rfl (by omega)⟩
theorem Yag:(Tryz.prog.info? 93).map (fun i=>(i.zero,i.size,i.bytes))=some (some (.agg #[.int .i64 0,.int .i64 0,.string ⟨#[]⟩,.slice none 0 0,.int .i64 0,.int .i64 0]),6,72):=by kernel_rfl
theorem Yah {w:World} (ty:TypeId) (B:Nat) (A:Option Addr) (cap n:Nat) (l:List SI) (hn:n=l.length) (hown:OwnSI w B A cap l) (g2:Nat) (m:SI × Value) (hb:w.heap[g2]?=some (.cells (siC m).toArray 93 (0,0))) (hargs:ArgI w B m.2 m.1.shape)
  (hbytes:n≤100000) (hbase:B≤w.heap.size):
  ∃ A' cap' w',(Builtin.append_ #[23,23] ty #[.slice A n cap,.slice (some ⟨g2,0,none⟩) 1 1]).run Tryz.prog w=.ok (.slice A' (n+1) cap') w'∧OwnSI w' B A' cap' (l++[m.1])∧w.grownBy w' (blk A)∧(blk A'=blk A∨blk A'=some w.heap.size)∧KI w w':=by
 subst hn
 obtain ⟨ms,h1,h2,h3⟩:=hown
 obtain ⟨i0,hi0,hz0,hz1,hz2⟩:=info_parts Yag
 obtain ⟨A',cap',w',r1,r2,r3,r4⟩:=ZeH (P := Tryz.prog) w B 23 ty 93 i0 _ 6 72 Tryz.underlying23 hi0 hz0 hz1 (by decide) hz2 rfl A cap l.length (ms.flatMap siC) h2 g2 (siC m) rfl (fun j u hu=>by
   rw [cell_of_row w g2 j _ _ (0,0) hb]
   simpa using hu) (fun u hu=>by
   unfold siC at hu
   simp at hu
   rcases hu with rfl | rfl | rfl | rfl | rfl | rfl
   ·rfl
   ·rfl
   ·rfl
   ·exact hargs.one
   ·rfl
   ·rfl) (by simp only [maxLen];omega) (by omega) hbase
 have hki:KI w w':=KI.grown (T:=93) r3 (by decide) (by
  rcases Yac h2 with h | ⟨g,cur,e,_,hc⟩
  ·exact .inl h
  ·exact .inr ⟨g,cur,e,hc⟩)
 refine ⟨A',cap',w',r1,⟨ms++[m],by rw [List.map_append,h1];rfl,?_,?_⟩,r3,r4,hki⟩
 ·rw [List.flatMap_append,List.length_append]
  simp only [List.flatMap_cons,List.flatMap_nil,List.append_nil]
  exact r2
 ·intro y hy
  rcases List.mem_append.1 hy with hy | hy
  ·exact (h3 y hy).keep hki
  ·rw [List.mem_singleton.1 hy]
   exact hargs.keep hki
theorem appSI {w:World} {ops:Array Oper} {rest:List Oper} {o:Oper} {a:Act} {Q:Exit→Act→World→Prop} (hgd:o.guard=none) (s x:Operand)
  (ho:o.op=.call { callee:=.builtin .append,args:=#[s,x],argTypes:=#[23,23] }) (B:Nat)
  (A:Option Addr) (cap n:Nat) (l:List SI) (hn:n=l.length) (hs:a.eval s=.slice A n cap) (hown:OwnSI w B A cap l)
  (g2:Nat) (hx:a.eval x=.slice (some ⟨g2,0,none⟩) 1 1) (m:SI × Value) (hb:w.heap[g2]?=some (.cells (siC m).toArray 93 (0,0))) (hargs:ArgI w B m.2 m.1.shape)
  (hbytes:n≤100000) (hbase:B≤w.heap.size)
  (h:∀ A' cap' w',OwnSI w' B A' cap' (l++[m.1])→w.grownBy w' (blk A)→(blk A'=blk A∨blk A'=some w.heap.size)→KI w w'→wpList Tryz.prog ops Q rest (a.put o.dst (.slice A' (n+1) cap')) w'):
  wpList Tryz.prog ops Q (o::rest) a w:=by
 obtain ⟨A',cap',w',hrun,h2,h3,h4,h5⟩:=Yah o.type B A cap n l hn hown g2 m hb hargs hbytes hbase
 refine wpList_plain hgd fun K hK => ?_
 unfold Oper.wp execOp
 simp only [ho,resolve,invoke,builtin,Sem.run_bind,Sem.run_pure,Result.andThen_ok,List.map_toArray,List.map_cons,List.map_nil,hs,hx,hrun]
 exact hK _ _ (h A' cap' w' h2 h3 h4 h5)
theorem OwnSI.name {w:World} {B c g k:Nat} {l:List SI} {x:SI} (h:OwnSI w B (some ⟨g,0,none⟩) c l) (hk:l[k]?=some x) (nm:ByteArray):OwnSI (w.setCell ⟨g,k*6+2,none⟩ (.string nm)) B (some ⟨g,0,none⟩) c (l.set k { x with name:=nm }):=by
 obtain ⟨ms,h1,h2,h3⟩:=h
 subst h1
 rw [List.getElem?_map,Option.map_eq_some_iff] at hk
 obtain ⟨m,hm,rfl⟩:=hk
 have hlt:=(List.getElem?_eq_some_iff.1 hm).1
 have hki:KI w (w.setCell ⟨g,k*6+2,none⟩ (.string nm)):=by
  rcases Yac h2 with e | ⟨g',cur,e,_,hc⟩
  ·cases e
  ·injection e with e
   injection e with e
   subst e
   exact KI.set hc (by decide) _
 refine ⟨ms.set k ({ m.1 with name:=nm },m.2),by rw [List.map_set],?_,?_⟩
 ·rw [Yaa siC 6 (fun _=>rfl) ({ m.1 with name:=nm },m.2) (.string nm) ms k 2 m hm (by omega) rfl,List.length_set]
  exact Yaf h2 _ (by rw [List.length_map];omega)
 ·intro y hy
  rw [List.mem_iff_getElem?] at hy
  obtain ⟨i,hi⟩:=hy
  by_cases e:k=i
  ·subst e
   rw [List.getElem?_set_self hlt] at hi
   injection hi with hi
   subst hi
   exact (h3 m (List.mem_of_getElem? hm)).keep hki
  ·rw [List.getElem?_set_ne e] at hi
   exact (h3 y (List.mem_of_getElem? hi)).keep hki
def eiC (m:EI × Value):List Value:=[.int .i64 m.1.kind,.string m.1.name,.int .u64 m.1.num,m.2,.int .i64 m.1.pos]
def OwnEI (w:World) (B:Nat) (A:Option Addr) (c:Nat) (l:List EI):Prop:=
 ∃ ms:List (EI × Value),ms.map Prod.fst=l∧w.ownsRow B 90 5 (.slice A l.length c) l.length (ms.flatMap eiC)∧∀ m∈ms,ArgI w B m.2 m.1.args
theorem OwnEI.nil (w:World) (B:Nat):OwnEI w B none 0 []:=⟨[],rfl,World.ownsRow_nil w B _ 5,by simp⟩
theorem OwnEI.keep {w w':World} {B c:Nat} {A:Option Addr} {l:List EI} (h:OwnEI w B A c l) (hi:KI w w') (hk:∀ k,blk A=some k→w'.heap[k]?=w.heap[k]?):OwnEI w' B A c l:=by
 obtain ⟨ms,h1,h2,h3⟩:=h
 exact ⟨ms,h1,Yad h2 hk,fun m hm=>(h3 m hm).keep hi⟩
theorem OwnEI.form {w:World} {B c:Nat} {A:Option Addr} {l:List EI} (h:OwnEI w B A c l):A=none∨∃ g cur,A=some ⟨g,0,none⟩∧B≤g∧w.heap[g]?=some (.cells cur 90 (0,0)):=by
 obtain ⟨ms,h1,h2,h3⟩:=h
 exact Yac h2
theorem OwnEI.lt {w:World} {B c:Nat} {A:Option Addr} {l:List EI} (h:OwnEI w B A c l):∀ k,blk A=some k→B≤k∧k<w.heap.size:=fun k hk=>by
 rcases h.form with rfl | ⟨g,cur,rfl,hb,hg⟩
 ·cases hk
 ·have e:g=k:=by simpa [blk] using hk
  subst e
  exact ⟨hb,(Array.getElem?_eq_some_iff.1 hg).1⟩
theorem OwnEI.next {w w':World} {B c:Nat} {A:Option Addr} {l:List EI} (h:OwnEI w B A c l) (hb:Below w.heap.size w w'):OwnEI w' B A c l:=h.keep (KI.below hb) fun k hk=>hb.block k (h.lt k hk).2
theorem OwnEI.base {w:World} {B B' c:Nat} {A:Option Addr} {l:List EI} (h:OwnEI w B A c l) (hb:B'≤B):OwnEI w B' A c l:=by
 obtain ⟨ms,h1,h2,h3⟩:=h
 exact ⟨ms,h1,Yae h2 hb,fun m hm=>(h3 m hm).base hb⟩
theorem OwnEI.other {w:World} {B c b k:Nat} {A:Option Addr} {l:List EI} {cs:Array Value} {T:TypeId} {fr:Nat × Nat} (h:OwnEI w B A c l) (hp:w.heap[b]?=some (.cells cs T fr)) (hT:T≠3) (hT2:T≠90) (v:Value):OwnEI (w.setCell ⟨b,k,none⟩ v) B A c l:=
 h.keep (KI.set hp hT v) fun g hg=>Below.heap_setCell w ⟨b,k,none⟩ v g (fun e=>by
  have e':g=b:=e
  subst e'
  rcases h.form with rfl | ⟨g',cur,rfl,_,hc⟩
  ·cases hg
  ·have e2:g'=g:=by simpa [blk] using hg
   subst e2
   rw [hp] at hc
   injection hc with hc
   injection hc with _ hc _
   exact hT2 hc)
theorem OwnEI.rd {w:World} {B c:Nat} {A:Option Addr} {l:List EI} (h:OwnEI w B A c l):RdEI w w.heap.size A l:=by
 obtain ⟨ms,h1,h2,h3⟩:=h
 by_cases hl:l=[]
 ·subst hl
  exact .inl rfl
 ·obtain ⟨g,hA,hg,_,hc⟩:=Zbm h2 (List.length_pos_iff.2 hl)
  refine .inr ⟨g,0,hA,hg,fun i x hx => ?_⟩
  subst h1
  rw [List.getElem?_map,Option.map_eq_some_iff] at hx
  obtain ⟨m,hm,rfl⟩:=hx
  have key:∀ j v,(eiC m)[j]?=some v→j<5→w.cell? ⟨g,0+i*5+j,none⟩=some v:=fun j v hv hj=>by
   rw [Nat.zero_add]
   exact hc _ v ((Zaq eiC 5 (fun _=>rfl) ms i j m hm hj).trans hv)
  obtain ⟨A',c',e1,e2⟩:=(h3 m (List.mem_of_getElem? hm)).int
  exact ⟨key 0 _ rfl (by omega),key 1 _ rfl (by omega),key 2 _ rfl (by omega),⟨A',c',by rw [←e1];exact key 3 _ rfl (by omega),e2⟩,key 4 _ rfl (by omega)⟩
theorem Yai:(Tryz.prog.info? 90).map (fun i=>(i.zero,i.size,i.bytes))=some (some (.agg #[.int .i64 0,.string ⟨#[]⟩,.int .u64 0,.slice none 0 0,.int .i64 0]),5,64):=by kernel_rfl
theorem Yaj {w:World} (ty:TypeId) (B:Nat) (A:Option Addr) (cap n:Nat) (l:List EI) (hn:n=l.length) (hown:OwnEI w B A cap l) (g2:Nat) (m:EI × Value) (hb:w.heap[g2]?=some (.cells (eiC m).toArray 90 (0,0))) (hargs:ArgI w B m.2 m.1.args)
  (hbytes:n≤100000) (hbase:B≤w.heap.size):
  ∃ A' cap' w',(Builtin.append_ #[24,24] ty #[.slice A n cap,.slice (some ⟨g2,0,none⟩) 1 1]).run Tryz.prog w=.ok (.slice A' (n+1) cap') w'∧OwnEI w' B A' cap' (l++[m.1])∧w.grownBy w' (blk A)∧(blk A'=blk A∨blk A'=some w.heap.size)∧KI w w':=by
 subst hn
 obtain ⟨ms,h1,h2,h3⟩:=hown
 obtain ⟨i0,hi0,hz0,hz1,hz2⟩:=info_parts Yai
 obtain ⟨A',cap',w',r1,r2,r3,r4⟩:=ZeH (P := Tryz.prog) w B 24 ty 90 i0 _ 5 64 Tryz.underlying24 hi0 hz0 hz1 (by decide) hz2 rfl A cap l.length (ms.flatMap eiC) h2 g2 (eiC m) rfl (fun j u hu=>by
   rw [cell_of_row w g2 j _ _ (0,0) hb]
   simpa using hu) (fun u hu=>by
   unfold eiC at hu
   simp at hu
   rcases hu with rfl | rfl | rfl | rfl | rfl
   ·rfl
   ·rfl
   ·rfl
   ·exact hargs.one
   ·rfl) (by simp only [maxLen];omega) (by omega) hbase
 have hki:KI w w':=KI.grown (T:=90) r3 (by decide) (by
  rcases Yac h2 with h | ⟨g,cur,e,_,hc⟩
  ·exact .inl h
  ·exact .inr ⟨g,cur,e,hc⟩)
 refine ⟨A',cap',w',r1,⟨ms++[m],by rw [List.map_append,h1];rfl,?_,?_⟩,r3,r4,hki⟩
 ·rw [List.flatMap_append,List.length_append]
  simp only [List.flatMap_cons,List.flatMap_nil,List.append_nil]
  exact r2
 ·intro y hy
  rcases List.mem_append.1 hy with hy | hy
  ·exact (h3 y hy).keep hki
  ·rw [List.mem_singleton.1 hy]
   exact hargs.keep hki
theorem appEI {w:World} {ops:Array Oper} {rest:List Oper} {o:Oper} {a:Act} {Q:Exit→Act→World→Prop} (hgd:o.guard=none) (s x:Operand)
  (ho:o.op=.call { callee:=.builtin .append,args:=#[s,x],argTypes:=#[24,24] }) (B:Nat)
  (A:Option Addr) (cap n:Nat) (l:List EI) (hn:n=l.length) (hs:a.eval s=.slice A n cap) (hown:OwnEI w B A cap l)
  (g2:Nat) (hx:a.eval x=.slice (some ⟨g2,0,none⟩) 1 1) (m:EI × Value) (hb:w.heap[g2]?=some (.cells (eiC m).toArray 90 (0,0))) (hargs:ArgI w B m.2 m.1.args)
  (hbytes:n≤100000) (hbase:B≤w.heap.size)
  (h:∀ A' cap' w',OwnEI w' B A' cap' (l++[m.1])→w.grownBy w' (blk A)→(blk A'=blk A∨blk A'=some w.heap.size)→KI w w'→wpList Tryz.prog ops Q rest (a.put o.dst (.slice A' (n+1) cap')) w'):
  wpList Tryz.prog ops Q (o::rest) a w:=by
 obtain ⟨A',cap',w',hrun,h2,h3,h4,h5⟩:=Yaj o.type B A cap n l hn hown g2 m hb hargs hbytes hbase
 refine wpList_plain hgd fun K hK => ?_
 unfold Oper.wp execOp
 simp only [ho,resolve,invoke,builtin,Sem.run_bind,Sem.run_pure,Result.andThen_ok,List.map_toArray,List.map_cons,List.map_nil,hs,hx,hrun]
 exact hK _ _ (h A' cap' w' h2 h3 h4 h5)
theorem OwnEI.name {w:World} {B c g k:Nat} {l:List EI} {x:EI} (h:OwnEI w B (some ⟨g,0,none⟩) c l) (hk:l[k]?=some x) (nm:ByteArray):OwnEI (w.setCell ⟨g,k*5+1,none⟩ (.string nm)) B (some ⟨g,0,none⟩) c (l.set k { x with name:=nm }):=by
 obtain ⟨ms,h1,h2,h3⟩:=h
 subst h1
 rw [List.getElem?_map,Option.map_eq_some_iff] at hk
 obtain ⟨m,hm,rfl⟩:=hk
 have hlt:=(List.getElem?_eq_some_iff.1 hm).1
 have hki:KI w (w.setCell ⟨g,k*5+1,none⟩ (.string nm)):=by
  rcases Yac h2 with e | ⟨g',cur,e,_,hc⟩
  ·cases e
  ·injection e with e
   injection e with e
   subst e
   exact KI.set hc (by decide) _
 refine ⟨ms.set k ({ m.1 with name:=nm },m.2),by rw [List.map_set],?_,?_⟩
 ·rw [Yaa eiC 5 (fun _=>rfl) ({ m.1 with name:=nm },m.2) (.string nm) ms k 1 m hm (by omega) rfl,List.length_set]
  exact Yaf h2 _ (by rw [List.length_map];omega)
 ·intro y hy
  rw [List.mem_iff_getElem?] at hy
  obtain ⟨i,hi⟩:=hy
  by_cases e:k=i
  ·subst e
   rw [List.getElem?_set_self hlt] at hi
   injection hi with hi
   subst hi
   exact (h3 m (List.mem_of_getElem? hm)).keep hki
  ·rw [List.getElem?_set_ne e] at hi
   exact (h3 y (List.mem_of_getElem? hi)).keep hki
end Go.Proofs.YtghlnncfigkkaaaGreatDoor
namespace Go.Proofs.YtghlnncfigkkaaaGreatDoor
set_option linter.unusedVariables false
set_option linter.unusedSimpArgs false
open Go.RowKit
def ownS1 (x:SI):SI:={ x with shape:=x.shape.take 10 }
def ownE1 (x:EI):EI:={ x with args:=x.args.take 5 }
def ownSs (ss:List SI):List SI:=(ss.take 100).map ownS1
def ownEs (es:List EI):List EI:=(es.take 600).map ownE1
theorem Yak (w:World) (ts:Array TypeId) (t:TypeId) (a:Nat):(Builtin.min_ ts t #[.int .i64 (a:Int),.int .i64 10]).run Tryz.prog w=.ok (.int .i64 (minN a 10:Nat)) w:=Zg3 w ts t a 10
theorem Yal (w:World) (ts:Array TypeId) (t:TypeId) (a:Nat):(Builtin.min_ ts t #[.int .i64 (a:Int),.int .i64 5]).run Tryz.prog w=.ok (.int .i64 (minN a 5:Nat)) w:=Zg3 w ts t a 5
attribute [local go_sem ↓] Yak Yal
structure OwSt (w wr:World) (SA EA:Option Addr) (ns ne sc ec:Nat) (A:Option Addr) (n c:Nat) (E:Option Addr) (m d:Nat):Prop where
 bel:Below w.heap.size w wr
 tb:wr.heap[w.heap.size]?=some (.cells #[.slice SA ns sc,.slice EA ne ec] 26 (0,0))
 rb:wr.heap[w.heap.size+1]?=some (.cells #[.slice none 0 0,.slice none 0 0] 26 (0,0))
 ob:wr.heap[w.heap.size+1+1]?=some (.cells #[.slice A n c,.slice E m d] 26 (0,0))
theorem OwSt.t0 {w wr:World} {SA EA:Option Addr} {ns ne sc ec:Nat} {A:Option Addr} {n c:Nat} {E:Option Addr} {m d:Nat} (h:OwSt w wr SA EA ns ne sc ec A n c E m d):
  wr.cell? ⟨w.heap.size,0,none⟩=some (.slice SA ns sc)∧wr.cell? ⟨w.heap.size,1,none⟩=some (.slice EA ne ec)∧wr.cell? ⟨w.heap.size+1+1,0,none⟩=some (.slice A n c)∧wr.cell? ⟨w.heap.size+1+1,1,none⟩=some (.slice E m d)∧w.heap.size+1+1<wr.heap.size:=
 ⟨cell_of_row _ _ 0 _ _ _ h.tb,cell_of_row _ _ 1 _ _ _ h.tb,cell_of_row _ _ 0 _ _ _ h.ob,cell_of_row _ _ 1 _ _ _ h.ob,(Array.getElem?_eq_some_iff.1 h.ob).1⟩
theorem Yam (w:World) (SA EA:Option Addr) (ns ne sc ec:Nat):OwSt w (((w.alloc (.cells #[.slice SA ns sc,.slice EA ne ec] 26)).alloc (.cells #[.slice none 0 0,.slice none 0 0] 26)).alloc (.cells #[.slice none 0 0,.slice none 0 0] 26)) SA EA ns ne sc ec none 0 0 none 0 0:=by
 refine ⟨(((Below.refl _ _).alloc (Nat.le_refl _) _).alloc (by simp) _).alloc (by simp;omega) _,?_,?_,?_⟩
 ·rw [Below.heap_alloc _ _ _ (by simp;omega),Below.heap_alloc _ _ _ (by simp)]
  exact heap_alloc_new w _
 ·rw [Below.heap_alloc _ _ _ (by simp)]
  have:=heap_alloc_new (w.alloc (.cells #[.slice SA ns sc,.slice EA ne ec] 26)) (.cells #[.slice none 0 0,.slice none 0 0] 26)
  rwa [World.size_alloc] at this
 ·have:=heap_alloc_new ((w.alloc (.cells #[.slice SA ns sc,.slice EA ne ec] 26)).alloc (.cells #[.slice none 0 0,.slice none 0 0] 26)) (.cells #[.slice none 0 0,.slice none 0 0] 26)
  rwa [World.size_alloc,World.size_alloc] at this
section
variable {w wr w':World} {SA EA:Option Addr} {ns ne sc ec:Nat} {A:Option Addr} {n c:Nat} {E:Option Addr} {m d:Nat}
theorem OwSt.next (h:OwSt w wr SA EA ns ne sc ec A n c E m d) (hb:Below wr.heap.size wr w'):OwSt w w' SA EA ns ne sc ec A n c E m d:=
 ⟨bnext h.bel hb,(hb.block _ (Array.getElem?_eq_some_iff.1 h.tb).1).trans h.tb,(hb.block _ (Array.getElem?_eq_some_iff.1 h.rb).1).trans h.rb,(hb.block _ (Array.getElem?_eq_some_iff.1 h.ob).1).trans h.ob⟩
theorem OwSt.grown (h:OwSt w wr SA EA ns ne sc ec A n c E m d) {A':Option Addr} {T:TypeId} (hg:wr.grownBy w' (blk A')) (hT:T≠26) (hA:A'=none∨∃ g cur,A'=some ⟨g,0,none⟩∧w.heap.size≤g∧wr.heap[g]?=some (.cells cur T (0,0))):OwSt w w' SA EA ns ne sc ec A n c E m d:=by
 have key:∀ (k:Nat) (cs:Array Value),wr.heap[k]?=some (.cells cs 26 (0,0))→w'.heap[k]?=some (.cells cs 26 (0,0)):=fun k cs hk=>by
  rw [hg.block k (Array.getElem?_eq_some_iff.1 hk).1 (fun e=>by
   rcases hA with rfl | ⟨g,cur',rfl,_,hc⟩
   ·simp [blk] at e
   ·have e':k=g:=by simpa [blk] using e
    subst e'
    rw [hc] at hk
    injection hk with hk
    injection hk with _ hk _
    exact hT hk)]
  exact hk
 refine ⟨Zal h.bel hg h.bel.size (fun k hk => ?_),key _ _ h.tb,key _ _ h.rb,key _ _ h.ob⟩
 rcases hA with rfl | ⟨g,cur',rfl,hb,hc⟩
 ·cases hk
 ·have e':g=k:=by simpa [blk] using hk
  omega
theorem OwSt.setS (h:OwSt w wr SA EA ns ne sc ec A n c E m d) (A':Option Addr) (n' c':Nat):OwSt w (wr.setCell ⟨w.heap.size+1+1,0,none⟩ (.slice A' n' c')) SA EA ns ne sc ec A' n' c' E m d:=
 ⟨Zaf h.bel (by omega) _,(Below.heap_setCell _ _ _ _ (by show w.heap.size≠w.heap.size+1+1;omega)).trans h.tb,(Below.heap_setCell _ _ _ _ (by show w.heap.size+1≠w.heap.size+1+1;omega)).trans h.rb,heap_setCell_same _ _ _ _ _ _ h.ob⟩
theorem OwSt.setE (h:OwSt w wr SA EA ns ne sc ec A n c E m d) (A':Option Addr) (n' c':Nat):OwSt w (wr.setCell ⟨w.heap.size+1+1,1,none⟩ (.slice A' n' c')) SA EA ns ne sc ec A n c A' n' c':=
 ⟨Zaf h.bel (by omega) _,(Below.heap_setCell _ _ _ _ (by show w.heap.size≠w.heap.size+1+1;omega)).trans h.tb,(Below.heap_setCell _ _ _ _ (by show w.heap.size+1≠w.heap.size+1+1;omega)).trans h.rb,heap_setCell_same _ _ _ _ _ _ h.ob⟩
end
theorem Yan {wr w5:World} {cs:Array Value} {T:TypeId} (g3:((wr.alloc (.cells cs T)).alloc (.cells #[] 3)).grownBy w5 (blk (some ⟨wr.heap.size+1,0,none⟩))):Below wr.heap.size wr w5∧w5.heap[wr.heap.size]?=some (.cells cs T (0,0)):=by
 have b:Below (wr.heap.size+1) (wr.alloc (.cells cs T)) w5:=Zal ((Below.refl (wr.heap.size+1) (wr.alloc (.cells cs T))).alloc (by simp) (.cells #[] 3)) g3 (by simp) (fun k hk=>by cases hk;exact Nat.le_refl _)
 exact ⟨((Below.refl _ _).alloc (Nat.le_refl _) _).trans (b.mono (Nat.le_succ _)),(b.block _ (Nat.lt_succ_self _)).trans (heap_alloc_new wr _)⟩
theorem Yao {w wr w5:World} {A3:Option Addr} {k3 kk M:Nat} {l:List Int} {cs:Array Value} {T:TypeId} (hb5:Below wr.heap.size wr w5) (hw:w.heap.size≤wr.heap.size) (h3:Own w5 w.heap.size 3 A3 k3 (l.map VI)) (h5:w5.heap[wr.heap.size]?=some (.cells cs T (0,0))) (hT:T≠3) (hl:l.length=M) (v:Value) (O:Obj):
  Below wr.heap.size wr ((w5.setCell ⟨wr.heap.size,kk,none⟩ v).alloc O)∧((w5.setCell ⟨wr.heap.size,kk,none⟩ v).alloc O).heap[w5.heap.size]?=some O∧ArgI ((w5.setCell ⟨wr.heap.size,kk,none⟩ v).alloc O) w.heap.size (.slice A3 M k3) l∧w.heap.size≤((w5.setCell ⟨wr.heap.size,kk,none⟩ v).alloc O).heap.size:=by
 have hz:(w5.setCell ⟨wr.heap.size,kk,none⟩ v).heap.size=w5.heap.size:=by simp [World.setCell]
 have hb:Below wr.heap.size wr ((w5.setCell ⟨wr.heap.size,kk,none⟩ v).alloc O):=(Zaf hb5 (Nat.le_refl _) v).alloc (by rw [hz];exact hb5.size) O
 refine ⟨hb,?_,⟨A3,k3,by rw [hl],?_⟩,Nat.le_trans hw hb.size⟩
 ·have:=heap_alloc_new (w5.setCell ⟨wr.heap.size,kk,none⟩ v) O
  rwa [hz] at this
 ·exact Yab h3 ((KI.set h5 hT v).trans (KI.below ((Below.refl _ _).alloc (Nat.le_refl _) O)))
theorem Yap {l:List Int} {n M k:Nat} (hn:n=l.length) (h:M≤n∧M≤k∧(M=n∨M=k)):l.take M=l.take k:=by
 rcases h.2.2 with h | h
 ·rw [List.take_of_length_le (by omega),List.take_of_length_le (by omega)]
 ·rw [h]
theorem Yaq {α:Type} {l:List α} {n i k:Nat} (hn:n=l.length) (h:n≤i∧i≤k∨i=k):l.take i=l.take k:=by
 rcases h with h | h
 ·rw [List.take_of_length_le (by omega),List.take_of_length_le (by omega)]
 ·rw [h]
theorem OwnSI.grown {w8 w9:World} {B c:Nat} {A E:Option Addr} {l:List SI} {T:TypeId} (h:OwnSI w8 B A c l) (g:w8.grownBy w9 (blk E)) (ki:KI w8 w9) (hE:E=none∨∃ g cur,E=some ⟨g,0,none⟩∧B≤g∧w8.heap[g]?=some (.cells cur T (0,0))) (hT:T≠93):OwnSI w9 B A c l:=
 h.keep ki fun k hk=>g.block k (h.lt k hk).2 (fun e=>by
  rcases h.form with rfl | ⟨g',cur,rfl,_,hc⟩
  ·cases hk
  ·have e2:g'=k:=by simpa [blk] using hk
   subst e2
   rcases hE with rfl | ⟨g2,cur2,rfl,_,hc2⟩
   ·simp [blk] at e
   ·have e3:g'=g2:=by simpa [blk] using e
    subst e3
    rw [hc2] at hc
    injection hc with hc
    injection hc with _ hc _
    exact hT hc)
theorem Yar {α β:Type} (f:α→β) {l:List α} {i:Nat} {x:α} (h:l[i]?=some x):(l.take (i+1)).map f=(l.take i).map f++[f x]:=by
 rw [List.take_add_one,h,List.map_append]
 rfl
theorem appVn {w:World} {ops:Array Oper} {rest:List Oper} {o:Oper} {a:Act} {Q:Exit→Act→World→Prop} (hgd:o.guard=none) (s x:Operand)
  (ho:o.op=.call { callee:=.builtin .append,args:=#[s,x],argTypes:=#[41,41] }) (base:Nat)
  (A:Option Addr) (cap:Nat) (hs:a.eval s=.slice A 0 cap) (hown:Own w base 3 A cap [])
  (A2:Option Addr) (m c B:Nat) (news:List Int) (hm:news.length=m) (hx:a.eval x=.slice A2 m c) (hr:Rd w B A2 (news.map VI)) (hnil:A2=none→m=0)
  (hbytes:m≤26388279066624) (hbase:base≤w.heap.size)
  (h:∀ A' cap' w',Own w' base 3 A' cap' (news.map VI)→w.grownBy w' (blk A)→(blk A'=blk A∨blk A'=some w.heap.size)→wpList Tryz.prog ops Q rest (a.put o.dst (.slice A' m cap')) w'):
  wpList Tryz.prog ops Q (o::rest) a w:=by
 refine appV hgd s x ho base A cap [] 0 rfl hs hown A2 m c B news hm hx hr hnil (by omega) hbase ?_
 intro A' cap' w' h1 h2 h3
 rw [Nat.zero_add]
 exact h A' cap' w' h1 h2 h3
theorem Yas (SA EA:Option Addr) (ns ne sc ec:Nat) (ss:List SI) (es:List EI) (w:World) (hns:ns=ss.length) (hne:ne=es.length) (hl1:ns≤9223372036854775807) (hl2:ne≤9223372036854775807)
  (h1:RdSI w w.heap.size SA ss) (h3:RdEI w w.heap.size EA es):
  Calls Tryz.prog 29 #[.agg #[.slice SA ns sc,.slice EA ne ec]] w fun e w'=>Below w.heap.size w w'∧∃ SA' sc' EA' ec',e=.returned (.agg #[.slice SA' (ownSs ss).length sc',.slice EA' (ownEs es).length ec']) ∧
   OwnSI w' w.heap.size SA' sc' (ownSs ss)∧OwnEI w' w.heap.size EA' ec' (ownEs es):=by
 have HNS:=hid hns
 have HNE:=hid hne
 have H1:=hid h1
 have H3:=hid h3
 clear hns hne h1 h3
 go_enter Tryz.func29,Tryz.ntmps29
 go_wp2_with fail
 obtain ⟨w3,hw3⟩:∃ w3,w3=((w.alloc (.cells #[.slice SA ns sc,.slice EA ne ec] 26)).alloc (.cells #[.slice none 0 0,.slice none 0 0] 26)).alloc (.cells #[.slice none 0 0,.slice none 0 0] 26):=⟨_,rfl⟩
 rw [←hw3]
 have hst:OwSt w w3 SA EA ns ne sc ec none 0 0 none 0 0:=by rw [hw3];exact Yam _ _ _ _ _ _ _
 have HST:=hid hst
 clear hst
 go_loopw [4] (fun iv wr=>∃ (i:Nat) (A:Option Addr) (c:Nat),i≤ns∧i≤100∧iv=.int .i64 i∧OwSt w wr SA EA ns ne sc ec A i c none 0 0∧OwnSI wr w.heap.size A c ((ss.take i).map ownS1)) (fun iv _=>100-(intOf iv).toNat)
 case atStart=>exact ⟨0,none,0,by omega,by omega,rfl,HST.out,OwnSI.nil _ _⟩
 case round=>
  obtain ⟨i,A,c,hi,hi2,rfl,hS,hO⟩:=hrel
  have hHB:=hS.bel
  have HS:=hid hS
  have HO:=hid hO
  have k0:=hS.t0
  clear hS hO
  by_cases hlt:i<ns
  ·have q1:decide ((i:Int)<(ns:Int))=true:=by simp;omega
   by_cases hlt2:i<100
   ·have q2:decide ((i:Int)<100)=true:=by simp;omega
    have ht:ss[i]?=some (ss[i]'(by rw [←HNS.out];exact hlt)):=List.getElem?_eq_getElem _
    obtain ⟨x,hx⟩:∃ x,x=ss[i]'(by rw [←HNS.out];exact hlt):=⟨_,rfl⟩
    rw [←hx] at ht
    obtain ⟨b,o,rfl,hbl,hat⟩:=(H1.out.below hHB).at_ ht
    obtain ⟨c0,c1,c2,⟨Ax,cx,c3,hrd,hcap⟩,c4,c5⟩:=hat
    obtain ⟨nx,hnx⟩:∃ nx,nx=x.shape.length:=⟨_,rfl⟩
    rw [←hnx] at c3 hcap
    have HR:=hid hrd
    have HX:=hid ht
    have HNX:=hid hnx
    have i0:(0:Int)≤(i:Int):=by omega
    have i1:(i:Int)<(ns:Int):=by omega
    clear hrd hnx ht hx hHB
    obtain ⟨M,hM⟩:∃ M,M=minN nx 10:=⟨_,rfl⟩
    have hMl:=Zjt nx 10
    rw [←hM] at hMl
    have hm:=hM.symm
    have hM2:M≤cx:=by omega
    have hM3:M≤10:=by omega
    have f1:∀ W,(Instr.sliceAt 41 (.slice Ax nx cx) none (some (.int .i64 (M:Int))) none).run Tryz.prog W=.ok (.slice (cutA Ax 0 1 cx) M cx) W:=fun W=>ZaB (P := Tryz.prog) Tryz.underlying41 (fun W=>by kernel_rfl) Ax hM2 W
    have HML:=hid hMl
    have HR1:=hid (show Rd wr w.heap.size (cutA Ax 0 1 cx) ((x.shape.take M).map VI) from by
     have h:=(HR.out.cut (k:=0) (c:=cx) (by rw [List.length_map,←HNX.out];omega)).take M
     rw [List.drop_zero,←List.map_take] at h
     exact h)
    have HLN:=hid (show (x.shape.take M).length=M from by rw [List.length_take,←HNX.out];omega)
    have HNL:=hid (show cutA Ax 0 1 cx=none→M=0 from fun e=>by rw [←HLN.out];exact ZaW HR1.out e)
    have HBW:=hid HS.out.bel.size
    have HLI:=hid (show i=((ss.take i).map ownS1).length from by rw [List.length_map,List.length_take,←HNS.out];omega)
    clear hMl hM
    go_wp2_with (first
     | (at_builtin;(refine appVn rfl (.tmp 25) (.tmp 32) rfl w.heap.size (some ⟨wr.heap.size+1,0,none⟩) 0 rfl (by have h:=Own.made (base:=w.heap.size) (wr.alloc (.cells #[.int .i64 x.kind,.int .i64 x.party,.string x.name,.slice Ax nx cx,.int .i64 x.expr,.int .i64 x.pos] 93)) 3 (by rw [World.size_alloc];have:=HBW.out;omega);rwa [World.size_alloc] at h) (cutA Ax 0 1 cx) M cx w.heap.size (x.shape.take M) HLN.out rfl ((HR1.out.alloc HBW.out _).alloc (by rw [World.size_alloc];have:=HBW.out;omega) _) HNL.out (by omega) (by simp only [World.size_alloc];have:=HBW.out;omega) ?_);intro A3 k3 w5 o3 g3 h3;obtain ⟨b5,s5⟩:=Yan g3;have HS5:=hid (HS.out.next b5);have HO5:=hid (HO.out.next b5);have HB5:=hid b5;have H35:=hid o3;have H55:=hid s5;have d0:=cell_of_row _ _ 0 _ _ _ s5;have d1:=cell_of_row _ _ 1 _ _ _ s5;have d2:=cell_of_row _ _ 2 _ _ _ s5;have d3:=cell_of_row _ _ 3 _ _ _ s5;have d4:=cell_of_row _ _ 4 _ _ _ s5;have d5:=cell_of_row _ _ 5 _ _ _ s5;have e0:∀ v,(w5.setCell ⟨wr.heap.size,3,none⟩ v).cell? ⟨w.heap.size+1+1,0,none⟩=some (.slice A i c):=(fun v=>(World.cell?_of_block (Below.heap_setCell _ _ _ _ (by have:=HS.out.t0.2.2.2.2;show w.heap.size+1+1≠wr.heap.size;omega))).trans HS5.out.t0.2.2.1);have fz5:∀ k,w5.frozen? ⟨wr.heap.size,k,none⟩=false:=(fun k=>by simp [World.frozen?,s5]);clear o3 g3 h3 b5 s5 k0)
     | (at_builtin;have P:=Yao (kk:=3) HB5.out HBW.out H35.out H55.out (by decide) HLN.out (.slice A3 M k3) (.cells #[.int .i64 x.kind,.int .i64 x.party,.string x.name,.slice A3 M k3,.int .i64 x.expr,.int .i64 x.pos] 93);have O8:=HO.out.next P.1;(refine appSI rfl (.tmp 36) (.tmp 38) rfl w.heap.size A c i ((ss.take i).map ownS1) HLI.out rfl O8 w5.heap.size rfl ({ x with shape:=x.shape.take M },.slice A3 M k3) P.2.1 P.2.2.1 (by omega) P.2.2.2 ?_);intro A9 c9 w9 hO9 g9 h9 ki9;have S9:=(HS.out.next P.1).grown g9 (by decide) O8.form;have HS9:=hid S9;have HO9:=hid hO9;have e9:=S9.t0.2.2.1;have fz9:w9.frozen? ⟨w.heap.size+1+1,0,none⟩=false:=(by simp [World.frozen?,S9.ob]);clear P O8 hO9 g9 h9 ki9 S9))
    refine ⟨⟨i+1,A9,c9,by omega,by omega,rfl,HS9.out.setS A9 (i+1) c9,?_⟩,by simp [intOf];omega⟩
    rw [Yar ownS1 HX.out,show ownS1 x={ x with shape:=x.shape.take M } from by unfold ownS1;rw [Yap HNX.out HML.out]]
    exact HO9.out.other HS9.out.ob (by decide) (by decide) _
   ·-- first
    have q2:decide ((i:Int)<100)=false:=by simp;omega
    have HN4:=hid (show (ss.take i).map ownS1=ownSs ss from by unfold ownSs;rw [Yaq (i:=i) (k:=100) HNS.out (.inr (by omega))])
    obtain ⟨N,hN⟩:∃ N,N=i:=⟨_,rfl⟩
    have HLS:=hid (show N=(ownSs ss).length from by rw [←HN4.out,List.length_map,List.length_take,←HNS.out];omega)
    have HOS:=hid (HN4.out ▸ HO.out)
    rw [←hN] at HS k0
    have hi3:N≤100:=by omega
    obtain ⟨A0,hA0⟩:∃ A0,A0=A:=⟨_,rfl⟩
    obtain ⟨c0,hc0⟩:∃ c0,c0=c:=⟨_,rfl⟩
    rw [←hA0,←hc0] at HS HOS k0
    go_wp2_with fail
    clear hN hA0 hc0 HO HN4 HST q1 q2
    go_loopw [6] (fun iv wr=>∃ (i:Nat) (A:Option Addr) (c:Nat),i≤ne∧i≤600∧iv=.int .i64 i∧OwSt w wr SA EA ns ne sc ec A0 N c0 A i c∧OwnEI wr w.heap.size A c ((es.take i).map ownE1)∧OwnSI wr w.heap.size A0 c0 (ownSs ss)) (fun iv _=>600-(intOf iv).toNat)
    case atStart=>exact ⟨0,none,0,by omega,by omega,rfl,HS.out,OwnEI.nil _ _,HOS.out⟩
    case round=>
     obtain ⟨i,A,c,hi,hi2,rfl,hS,hO,hOS2⟩:=hrel
     have HOS2:=hid hOS2
     have hHB:=hS.bel
     have HS:=hid hS
     have HO:=hid hO
     have k0:=hS.t0
     clear hS hO hOS2
     by_cases hlt:i<ne
     ·have q1:decide ((i:Int)<(ne:Int))=true:=by simp;omega
      by_cases hlt2:i<600
      ·have q2:decide ((i:Int)<600)=true:=by simp;omega
       have ht:es[i]?=some (es[i]'(by rw [←HNE.out];exact hlt)):=List.getElem?_eq_getElem _
       obtain ⟨x,hx⟩:∃ x,x=es[i]'(by rw [←HNE.out];exact hlt):=⟨_,rfl⟩
       rw [←hx] at ht
       obtain ⟨b,o,rfl,hbl,hat⟩:=(H3.out.below hHB).at_ ht
       obtain ⟨c0,c1,c2,⟨Ax,cx,c3,hrd,hcap⟩,c4⟩:=hat
       obtain ⟨nx,hnx⟩:∃ nx,nx=x.args.length:=⟨_,rfl⟩
       rw [←hnx] at c3 hcap
       have HR:=hid hrd
       have HX:=hid ht
       have HNX:=hid hnx
       have i0:(0:Int)≤(i:Int):=by omega
       have i1:(i:Int)<(ne:Int):=by omega
       clear hrd hnx ht hx hHB
       obtain ⟨M,hM⟩:∃ M,M=minN nx 5:=⟨_,rfl⟩
       have hMl:=Zjt nx 5
       rw [←hM] at hMl
       have hm:=hM.symm
       have hM2:M≤cx:=by omega
       have hM3:M≤5:=by omega
       have f1:∀ W,(Instr.sliceAt 41 (.slice Ax nx cx) none (some (.int .i64 (M:Int))) none).run Tryz.prog W=.ok (.slice (cutA Ax 0 1 cx) M cx) W:=fun W=>ZaB (P := Tryz.prog) Tryz.underlying41 (fun W=>by kernel_rfl) Ax hM2 W
       have HML:=hid hMl
       have HR1:=hid (show Rd wr w.heap.size (cutA Ax 0 1 cx) ((x.args.take M).map VI) from by
        have h:=(HR.out.cut (k:=0) (c:=cx) (by rw [List.length_map,←HNX.out];omega)).take M
        rw [List.drop_zero,←List.map_take] at h
        exact h)
       have HLN:=hid (show (x.args.take M).length=M from by rw [List.length_take,←HNX.out];omega)
       have HNL:=hid (show cutA Ax 0 1 cx=none→M=0 from fun e=>by rw [←HLN.out];exact ZaW HR1.out e)
       have HBW:=hid HS.out.bel.size
       have HLI:=hid (show i=((es.take i).map ownE1).length from by rw [List.length_map,List.length_take,←HNE.out];omega)
       clear hMl hM
       go_wp2_with (first
        | (at_builtin;(refine appVn rfl (.tmp 57) (.tmp 64) rfl w.heap.size (some ⟨wr.heap.size+1,0,none⟩) 0 rfl (by have h:=Own.made (base:=w.heap.size) (wr.alloc (.cells #[.int .i64 x.kind,.string x.name,.int .u64 x.num,.slice Ax nx cx,.int .i64 x.pos] 90)) 3 (by rw [World.size_alloc];have:=HBW.out;omega);rwa [World.size_alloc] at h) (cutA Ax 0 1 cx) M cx w.heap.size (x.args.take M) HLN.out rfl ((HR1.out.alloc HBW.out _).alloc (by rw [World.size_alloc];have:=HBW.out;omega) _) HNL.out (by omega) (by simp only [World.size_alloc];have:=HBW.out;omega) ?_);intro A3 k3 w5 o3 g3 h3;obtain ⟨b5,s5⟩:=Yan g3;have HS5:=hid (HS.out.next b5);have HO5:=hid (HO.out.next b5);have HB5:=hid b5;have H35:=hid o3;have H55:=hid s5;have d0:=cell_of_row _ _ 0 _ _ _ s5;have d1:=cell_of_row _ _ 1 _ _ _ s5;have d2:=cell_of_row _ _ 2 _ _ _ s5;have d3:=cell_of_row _ _ 3 _ _ _ s5;have d4:=cell_of_row _ _ 4 _ _ _ s5;have e0:∀ v,(w5.setCell ⟨wr.heap.size,3,none⟩ v).cell? ⟨w.heap.size+1+1,1,none⟩=some (.slice A i c):=(fun v=>(World.cell?_of_block (Below.heap_setCell _ _ _ _ (by have:=HS.out.t0.2.2.2.2;show w.heap.size+1+1≠wr.heap.size;omega))).trans HS5.out.t0.2.2.2.1);have fz5:∀ k,w5.frozen? ⟨wr.heap.size,k,none⟩=false:=(fun k=>by simp [World.frozen?,s5]);clear o3 g3 h3 b5 s5 k0)
        | (at_builtin;have P:=Yao (kk:=3) HB5.out HBW.out H35.out H55.out (by decide) HLN.out (.slice A3 M k3) (.cells #[.int .i64 x.kind,.string x.name,.int .u64 x.num,.slice A3 M k3,.int .i64 x.pos] 90);have O8:=HO.out.next P.1;(refine appEI rfl (.tmp 68) (.tmp 70) rfl w.heap.size A c i ((es.take i).map ownE1) HLI.out rfl O8 w5.heap.size rfl ({ x with args:=x.args.take M },.slice A3 M k3) P.2.1 P.2.2.1 (by omega) P.2.2.2 ?_);intro A9 c9 w9 hO9 g9 h9 ki9;have S9:=(HS.out.next P.1).grown g9 (by decide) O8.form;have HS9:=hid S9;have HO9:=hid hO9;have HOS9:=hid ((HOS2.out.next P.1).grown g9 ki9 O8.form (by decide));have e9:=S9.t0.2.2.2.1;have fz9:w9.frozen? ⟨w.heap.size+1+1,1,none⟩=false:=(by simp [World.frozen?,S9.ob]);clear P O8 hO9 g9 h9 ki9 S9))
       refine ⟨⟨i+1,A9,c9,by omega,by omega,rfl,HS9.out.setE A9 (i+1) c9,?_,HOS9.out.other HS9.out.ob (by decide) (by decide) _⟩,by simp [intOf];omega⟩
       rw [Yar ownE1 HX.out,show ownE1 x={ x with args:=x.args.take M } from by unfold ownE1;rw [Yap HNX.out HML.out]]
       exact HO9.out.other HS9.out.ob (by decide) (by decide) _
      ·-- second
       have q2:decide ((i:Int)<600)=false:=by simp;omega
       have HN5:=hid (show (es.take i).map ownE1=ownEs es from by unfold ownEs;rw [Yaq (i:=i) (k:=600) HNE.out (.inr (by omega))])
       have HLE:=hid (show i=(ownEs es).length from by rw [←HN5.out,List.length_map,List.length_take,←HNE.out];omega)
       have HO5:=hid (HN5.out ▸ HO.out)
       have r0:=HS.out.t0.2.2.1
       have r1:=HS.out.t0.2.2.2.1
       have x0:=cell_of_row _ _ 0 _ _ _ HS.out.rb
       have x1:=cell_of_row _ _ 1 _ _ _ HS.out.rb
       have fz:∀ k,wr.frozen? ⟨w.heap.size+1,k,none⟩=false:=fun k=>by simp [World.frozen?,HS.out.rb]
       clear hHB
       go_wp2
       have hs1:(wr.setCell ⟨w.heap.size+1,0,none⟩ (.slice A0 N c0)).heap[w.heap.size+1]?=some (.cells #[.slice A0 N c0,.slice none 0 0] 26 (0,0)):=heap_setCell_same _ _ _ _ _ _ HS.out.rb
       have hs2:((wr.setCell ⟨w.heap.size+1,0,none⟩ (.slice A0 N c0)).setCell ⟨w.heap.size+1,1,none⟩ (.slice A i c)).heap[w.heap.size+1]?=some (.cells #[.slice A0 N c0,.slice A i c] 26 (0,0)):=heap_setCell_same _ _ _ _ _ _ hs1
       have z0:=cell_of_row _ _ 0 _ _ _ hs2
       have z1:=cell_of_row _ _ 1 _ _ _ hs2
       refine bodyPost_ret (v:=.agg #[.slice A0 N c0,.slice A i c]) (by simp [results,Tryz.results29,go_sem,z0,z1]) rfl ⟨Zaf (Zaf HS.out.bel (Nat.le_succ _) _) (Nat.le_succ _) _,A0,c0,A,c,by rw [←HLS.out,←HLE.out],?_,?_⟩
       ·exact (HOS2.out.other HS.out.rb (by decide) (by decide) _).other hs1 (by decide) (by decide) _
       ·exact (HO5.out.other HS.out.rb (by decide) (by decide) _).other hs1 (by decide) (by decide) _
     ·-- third
      have q1:decide ((i:Int)<(ne:Int))=false:=by simp;omega
      have HN5:=hid (show (es.take i).map ownE1=ownEs es from by unfold ownEs;rw [Yaq (i:=i) (k:=600) HNE.out (.inl (by omega))])
      have HLE:=hid (show i=(ownEs es).length from by rw [←HN5.out,List.length_map,List.length_take,←HNE.out];omega)
      have HO5:=hid (HN5.out ▸ HO.out)
      have r0:=HS.out.t0.2.2.1
      have r1:=HS.out.t0.2.2.2.1
      have x0:=cell_of_row _ _ 0 _ _ _ HS.out.rb
      have x1:=cell_of_row _ _ 1 _ _ _ HS.out.rb
      have fz:∀ k,wr.frozen? ⟨w.heap.size+1,k,none⟩=false:=fun k=>by simp [World.frozen?,HS.out.rb]
      clear hHB
      go_wp2
      have hs1:(wr.setCell ⟨w.heap.size+1,0,none⟩ (.slice A0 N c0)).heap[w.heap.size+1]?=some (.cells #[.slice A0 N c0,.slice none 0 0] 26 (0,0)):=heap_setCell_same _ _ _ _ _ _ HS.out.rb
      have hs2:((wr.setCell ⟨w.heap.size+1,0,none⟩ (.slice A0 N c0)).setCell ⟨w.heap.size+1,1,none⟩ (.slice A i c)).heap[w.heap.size+1]?=some (.cells #[.slice A0 N c0,.slice A i c] 26 (0,0)):=heap_setCell_same _ _ _ _ _ _ hs1
      have z0:=cell_of_row _ _ 0 _ _ _ hs2
      have z1:=cell_of_row _ _ 1 _ _ _ hs2
      refine bodyPost_ret (v:=.agg #[.slice A0 N c0,.slice A i c]) (by simp [results,Tryz.results29,go_sem,z0,z1]) rfl ⟨Zaf (Zaf HS.out.bel (Nat.le_succ _) _) (Nat.le_succ _) _,A0,c0,A,c,by rw [←HLS.out,←HLE.out],?_,?_⟩
      ·exact (HOS2.out.other HS.out.rb (by decide) (by decide) _).other hs1 (by decide) (by decide) _
      ·exact (HO5.out.other HS.out.rb (by decide) (by decide) _).other hs1 (by decide) (by decide) _
  ·-- first
   have q1:decide ((i:Int)<(ns:Int))=false:=by simp;omega
   have HN4:=hid (show (ss.take i).map ownS1=ownSs ss from by unfold ownSs;rw [Yaq (i:=i) (k:=100) HNS.out (.inl (by omega))])
   obtain ⟨N,hN⟩:∃ N,N=i:=⟨_,rfl⟩
   have HLS:=hid (show N=(ownSs ss).length from by rw [←HN4.out,List.length_map,List.length_take,←HNS.out];omega)
   have HOS:=hid (HN4.out ▸ HO.out)
   rw [←hN] at HS k0
   have hi3:N≤100:=by omega
   obtain ⟨A0,hA0⟩:∃ A0,A0=A:=⟨_,rfl⟩
   obtain ⟨c0,hc0⟩:∃ c0,c0=c:=⟨_,rfl⟩
   rw [←hA0,←hc0] at HS HOS k0
   go_wp2_with fail
   clear hN hA0 hc0 HO HN4 HST q1
   go_loopw [6] (fun iv wr=>∃ (i:Nat) (A:Option Addr) (c:Nat),i≤ne∧i≤600∧iv=.int .i64 i∧OwSt w wr SA EA ns ne sc ec A0 N c0 A i c∧OwnEI wr w.heap.size A c ((es.take i).map ownE1)∧OwnSI wr w.heap.size A0 c0 (ownSs ss)) (fun iv _=>600-(intOf iv).toNat)
   case atStart=>exact ⟨0,none,0,by omega,by omega,rfl,HS.out,OwnEI.nil _ _,HOS.out⟩
   case round=>
    obtain ⟨i,A,c,hi,hi2,rfl,hS,hO,hOS2⟩:=hrel
    have HOS2:=hid hOS2
    have hHB:=hS.bel
    have HS:=hid hS
    have HO:=hid hO
    have k0:=hS.t0
    clear hS hO hOS2
    by_cases hlt:i<ne
    ·have q1:decide ((i:Int)<(ne:Int))=true:=by simp;omega
     by_cases hlt2:i<600
     ·have q2:decide ((i:Int)<600)=true:=by simp;omega
      have ht:es[i]?=some (es[i]'(by rw [←HNE.out];exact hlt)):=List.getElem?_eq_getElem _
      obtain ⟨x,hx⟩:∃ x,x=es[i]'(by rw [←HNE.out];exact hlt):=⟨_,rfl⟩
      rw [←hx] at ht
      obtain ⟨b,o,rfl,hbl,hat⟩:=(H3.out.below hHB).at_ ht
      obtain ⟨c0,c1,c2,⟨Ax,cx,c3,hrd,hcap⟩,c4⟩:=hat
      obtain ⟨nx,hnx⟩:∃ nx,nx=x.args.length:=⟨_,rfl⟩
      rw [←hnx] at c3 hcap
      have HR:=hid hrd
      have HX:=hid ht
      have HNX:=hid hnx
      have i0:(0:Int)≤(i:Int):=by omega
      have i1:(i:Int)<(ne:Int):=by omega
      clear hrd hnx ht hx hHB
      obtain ⟨M,hM⟩:∃ M,M=minN nx 5:=⟨_,rfl⟩
      have hMl:=Zjt nx 5
      rw [←hM] at hMl
      have hm:=hM.symm
      have hM2:M≤cx:=by omega
      have hM3:M≤5:=by omega
      have f1:∀ W,(Instr.sliceAt 41 (.slice Ax nx cx) none (some (.int .i64 (M:Int))) none).run Tryz.prog W=.ok (.slice (cutA Ax 0 1 cx) M cx) W:=fun W=>ZaB (P := Tryz.prog) Tryz.underlying41 (fun W=>by kernel_rfl) Ax hM2 W
      have HML:=hid hMl
      have HR1:=hid (show Rd wr w.heap.size (cutA Ax 0 1 cx) ((x.args.take M).map VI) from by
       have h:=(HR.out.cut (k:=0) (c:=cx) (by rw [List.length_map,←HNX.out];omega)).take M
       rw [List.drop_zero,←List.map_take] at h
       exact h)
      have HLN:=hid (show (x.args.take M).length=M from by rw [List.length_take,←HNX.out];omega)
      have HNL:=hid (show cutA Ax 0 1 cx=none→M=0 from fun e=>by rw [←HLN.out];exact ZaW HR1.out e)
      have HBW:=hid HS.out.bel.size
      have HLI:=hid (show i=((es.take i).map ownE1).length from by rw [List.length_map,List.length_take,←HNE.out];omega)
      clear hMl hM
      go_wp2_with (first
       | (at_builtin;(refine appVn rfl (.tmp 57) (.tmp 64) rfl w.heap.size (some ⟨wr.heap.size+1,0,none⟩) 0 rfl (by have h:=Own.made (base:=w.heap.size) (wr.alloc (.cells #[.int .i64 x.kind,.string x.name,.int .u64 x.num,.slice Ax nx cx,.int .i64 x.pos] 90)) 3 (by rw [World.size_alloc];have:=HBW.out;omega);rwa [World.size_alloc] at h) (cutA Ax 0 1 cx) M cx w.heap.size (x.args.take M) HLN.out rfl ((HR1.out.alloc HBW.out _).alloc (by rw [World.size_alloc];have:=HBW.out;omega) _) HNL.out (by omega) (by simp only [World.size_alloc];have:=HBW.out;omega) ?_);intro A3 k3 w5 o3 g3 h3;obtain ⟨b5,s5⟩:=Yan g3;have HS5:=hid (HS.out.next b5);have HO5:=hid (HO.out.next b5);have HB5:=hid b5;have H35:=hid o3;have H55:=hid s5;have d0:=cell_of_row _ _ 0 _ _ _ s5;have d1:=cell_of_row _ _ 1 _ _ _ s5;have d2:=cell_of_row _ _ 2 _ _ _ s5;have d3:=cell_of_row _ _ 3 _ _ _ s5;have d4:=cell_of_row _ _ 4 _ _ _ s5;have e0:∀ v,(w5.setCell ⟨wr.heap.size,3,none⟩ v).cell? ⟨w.heap.size+1+1,1,none⟩=some (.slice A i c):=(fun v=>(World.cell?_of_block (Below.heap_setCell _ _ _ _ (by have:=HS.out.t0.2.2.2.2;show w.heap.size+1+1≠wr.heap.size;omega))).trans HS5.out.t0.2.2.2.1);have fz5:∀ k,w5.frozen? ⟨wr.heap.size,k,none⟩=false:=(fun k=>by simp [World.frozen?,s5]);clear o3 g3 h3 b5 s5 k0)
       | (at_builtin;have P:=Yao (kk:=3) HB5.out HBW.out H35.out H55.out (by decide) HLN.out (.slice A3 M k3) (.cells #[.int .i64 x.kind,.string x.name,.int .u64 x.num,.slice A3 M k3,.int .i64 x.pos] 90);have O8:=HO.out.next P.1;(refine appEI rfl (.tmp 68) (.tmp 70) rfl w.heap.size A c i ((es.take i).map ownE1) HLI.out rfl O8 w5.heap.size rfl ({ x with args:=x.args.take M },.slice A3 M k3) P.2.1 P.2.2.1 (by omega) P.2.2.2 ?_);intro A9 c9 w9 hO9 g9 h9 ki9;have S9:=(HS.out.next P.1).grown g9 (by decide) O8.form;have HS9:=hid S9;have HO9:=hid hO9;have HOS9:=hid ((HOS2.out.next P.1).grown g9 ki9 O8.form (by decide));have e9:=S9.t0.2.2.2.1;have fz9:w9.frozen? ⟨w.heap.size+1+1,1,none⟩=false:=(by simp [World.frozen?,S9.ob]);clear P O8 hO9 g9 h9 ki9 S9))
      refine ⟨⟨i+1,A9,c9,by omega,by omega,rfl,HS9.out.setE A9 (i+1) c9,?_,HOS9.out.other HS9.out.ob (by decide) (by decide) _⟩,by simp [intOf];omega⟩
      rw [Yar ownE1 HX.out,show ownE1 x={ x with args:=x.args.take M } from by unfold ownE1;rw [Yap HNX.out HML.out]]
      exact HO9.out.other HS9.out.ob (by decide) (by decide) _
     ·-- second
      have q2:decide ((i:Int)<600)=false:=by simp;omega
      have HN5:=hid (show (es.take i).map ownE1=ownEs es from by unfold ownEs;rw [Yaq (i:=i) (k:=600) HNE.out (.inr (by omega))])
      have HLE:=hid (show i=(ownEs es).length from by rw [←HN5.out,List.length_map,List.length_take,←HNE.out];omega)
      have HO5:=hid (HN5.out ▸ HO.out)
      have r0:=HS.out.t0.2.2.1
      have r1:=HS.out.t0.2.2.2.1
      have x0:=cell_of_row _ _ 0 _ _ _ HS.out.rb
      have x1:=cell_of_row _ _ 1 _ _ _ HS.out.rb
      have fz:∀ k,wr.frozen? ⟨w.heap.size+1,k,none⟩=false:=fun k=>by simp [World.frozen?,HS.out.rb]
      clear hHB
      go_wp2
      have hs1:(wr.setCell ⟨w.heap.size+1,0,none⟩ (.slice A0 N c0)).heap[w.heap.size+1]?=some (.cells #[.slice A0 N c0,.slice none 0 0] 26 (0,0)):=heap_setCell_same _ _ _ _ _ _ HS.out.rb
      have hs2:((wr.setCell ⟨w.heap.size+1,0,none⟩ (.slice A0 N c0)).setCell ⟨w.heap.size+1,1,none⟩ (.slice A i c)).heap[w.heap.size+1]?=some (.cells #[.slice A0 N c0,.slice A i c] 26 (0,0)):=heap_setCell_same _ _ _ _ _ _ hs1
      have z0:=cell_of_row _ _ 0 _ _ _ hs2
      have z1:=cell_of_row _ _ 1 _ _ _ hs2
      refine bodyPost_ret (v:=.agg #[.slice A0 N c0,.slice A i c]) (by simp [results,Tryz.results29,go_sem,z0,z1]) rfl ⟨Zaf (Zaf HS.out.bel (Nat.le_succ _) _) (Nat.le_succ _) _,A0,c0,A,c,by rw [←HLS.out,←HLE.out],?_,?_⟩
      ·exact (HOS2.out.other HS.out.rb (by decide) (by decide) _).other hs1 (by decide) (by decide) _
      ·exact (HO5.out.other HS.out.rb (by decide) (by decide) _).other hs1 (by decide) (by decide) _
    ·-- third
     have q1:decide ((i:Int)<(ne:Int))=false:=by simp;omega
     have HN5:=hid (show (es.take i).map ownE1=ownEs es from by unfold ownEs;rw [Yaq (i:=i) (k:=600) HNE.out (.inl (by omega))])
     have HLE:=hid (show i=(ownEs es).length from by rw [←HN5.out,List.length_map,List.length_take,←HNE.out];omega)
     have HO5:=hid (HN5.out ▸ HO.out)
     have r0:=HS.out.t0.2.2.1
     have r1:=HS.out.t0.2.2.2.1
     have x0:=cell_of_row _ _ 0 _ _ _ HS.out.rb
     have x1:=cell_of_row _ _ 1 _ _ _ HS.out.rb
     have fz:∀ k,wr.frozen? ⟨w.heap.size+1,k,none⟩=false:=fun k=>by simp [World.frozen?,HS.out.rb]
     clear hHB
     go_wp2
     have hs1:(wr.setCell ⟨w.heap.size+1,0,none⟩ (.slice A0 N c0)).heap[w.heap.size+1]?=some (.cells #[.slice A0 N c0,.slice none 0 0] 26 (0,0)):=heap_setCell_same _ _ _ _ _ _ HS.out.rb
     have hs2:((wr.setCell ⟨w.heap.size+1,0,none⟩ (.slice A0 N c0)).setCell ⟨w.heap.size+1,1,none⟩ (.slice A i c)).heap[w.heap.size+1]?=some (.cells #[.slice A0 N c0,.slice A i c] 26 (0,0)):=heap_setCell_same _ _ _ _ _ _ hs1
     have z0:=cell_of_row _ _ 0 _ _ _ hs2
     have z1:=cell_of_row _ _ 1 _ _ _ hs2
     refine bodyPost_ret (v:=.agg #[.slice A0 N c0,.slice A i c]) (by simp [results,Tryz.results29,go_sem,z0,z1]) rfl ⟨Zaf (Zaf HS.out.bel (Nat.le_succ _) _) (Nat.le_succ _) _,A0,c0,A,c,by rw [←HLS.out,←HLE.out],?_,?_⟩
     ·exact (HOS2.out.other HS.out.rb (by decide) (by decide) _).other hs1 (by decide) (by decide) _
     ·exact (HO5.out.other HS.out.rb (by decide) (by decide) _).other hs1 (by decide) (by decide) _
end Go.Proofs.YtghlnncfigkkaaaGreatDoor
namespace Go.Proofs.YtghlnncfigkkaaaGreatDoor
set_option linter.unusedVariables false
set_option linter.unusedSimpArgs false
open Go.RowKit
theorem Zdi (es:List EI) (in0 in1:List TN):∀ (ss:List SI) (names:Zah) (i0 i1:Nat) (out:List TN),(ZaG es in0 in1 ss names i0 i1 out).length≤out.length+ss.length
 | [],names,i0,i1,out=>Nat.le_refl _
 | s::ss,names,i0,i1,out=>by
  unfold ZaG
  have h:=fun nm j0 j1=>Zdi es in0 in1 ss nm j0 j1 out
  have h2:=fun x=>Zdi es in0 in1 ss names i0 i1 (out++[x])
  rw [List.length_cons]
  split
  ·split
   ·exact Nat.le_trans (h _ _ _) (by omega)
   ·exact Nat.le_trans (h _ _ _) (by omega)
  ·split
   ·exact Nat.le_trans (h _ _ _) (by omega)
   ·refine Nat.le_trans (h2 _) ?_
    rw [List.length_append,List.length_singleton]
    omega
theorem Zja {ss:List SI} {es:List EI} {in0 in1 outs:List TN} (h:evalR ss es in0 in1=.inl outs):outs.length≤ss.length:=by
 unfold evalR at h
 split at h
 ·cases h
 ·split at h
  ·cases h
  ·injection h with h
   rw [←h]
   have:=Zdi es in0 in1 ss [] 0 0 []
   simpa using this
end Go.Proofs.YtghlnncfigkkaaaGreatDoor
namespace Go.Proofs.YtghlnncfigkkaaaGreatDoor
set_option linter.unusedVariables false
set_option linter.unusedSimpArgs false
open Go.RowKit
theorem ZlG (A A':Option Addr) (n c c':Nat) (xs:List TN) (w:World) (hn:n=xs.length) (hl:n≤1000000) (h:RdTN w w.heap.size A xs) (h':RdTN w w.heap.size A' xs):
  Calls Tryz.prog 26 #[.slice A n c,.slice A' n c'] w fun e w'=>e=.returned (.bool true)∧Below w.heap.size w w':=by
 have HN:=hid hn
 have H:=hid h
 have H':=hid h'
 clear h h' hn
 have q0':((n:Int) != (n:Int))=false:=by simp
 go_enter Tryz.func26,Tryz.ntmps26
 go_wp2
 go_loopw [13] (fun iv wr=>(∃ i:Nat,i≤n∧iv=.int .i64 i)∧Below w.heap.size w wr) (fun iv _=>n-(intOf iv).toNat)
 case atStart=>exact ⟨⟨0,by omega,rfl⟩,Below.refl _ _⟩
 case round=>
  obtain ⟨⟨i,hi,rfl⟩,hb⟩:=hrel
  have HB:=hid hb
  by_cases hlt:i<n
  ·have hx:xs[i]?=some (xs[i]'(by rw [←HN.out];exact hlt)):=List.getElem?_eq_getElem _
   obtain ⟨x,hxx⟩:∃ x,x=xs[i]'(by rw [←HN.out];exact hlt):=⟨_,rfl⟩
   rw [←hxx] at hx
   obtain ⟨b,o,rfl,hbl,⟨A1,c1,d0,d1,d2,_⟩,A2,c2,d3,d4,d5,_⟩:=(H.out.next hb).at_ hx
   obtain ⟨b',o',rfl,hbl',⟨A3,c3,e0,e1,e2,_⟩,A4,c4,e3,e4,e5,_⟩:=(H'.out.next hb).at_ hx
   have i0:(0:Int)≤(i:Int):=by omega
   have i1:(i:Int)<(n:Int):=by omega
   obtain ⟨xl,hxl⟩:∃ xl,xl=x.sh.length:=⟨_,rfl⟩
   obtain ⟨yl,hyl⟩:∃ yl,yl=x.el.length:=⟨_,rfl⟩
   rw [←hxl] at d0 d2 e0 e2
   rw [←hyl] at d3 d5 e3 e5
   have HI:=hid (fun q=>Zba A1 A3 xl xl c1 c3 x.sh x.sh (wr.drewN q) hxl hxl d2 e2 (d1.drewN q) (e1.drewN q))
   rw [show (x.sh==x.sh)=true from beq_self_eq_true _] at HI
   have HJ:=hid (fun q=>Zeu A2 A4 c2 c4 x.el yl yl (wr.drewN q).heap.size (wr.drewN q) hyl.symm hyl.symm d5 (d4.drewN q) (e4.drewN q))
   clear hx hxx d1 d2 d4 d5 e1 e2 e4 e5 hbl hbl' hb hxl hyl
   go_wp2_with fail
   go_quiet (first
    | (go_at_call 49;exact Calls.quiet_of (HI.out _))
    | (go_at_call 50;exact Calls.quiet_of (HJ.out _)))
   go_wp2
   exact ⟨⟨⟨i+1,by omega,rfl⟩,Zaa HB.out _⟩,by simp [intOf];omega⟩
  ·obtain rfl:i=n:=by omega
   go_wp2
   go_ret
   exact ⟨rfl,HB.out⟩
theorem Zcr {L:List (Option Nat)} (h:L.Pairwise apart) {p q:Nat} {x:Option Nat} {b:Nat} (hp:L[p]?=some x) (hq:L[q]?=some (some b)) (hne:p≠q):x≠some b:=by
 obtain ⟨h1,e1⟩:=List.getElem?_eq_some_iff.1 hp
 obtain ⟨h2,e2⟩:=List.getElem?_eq_some_iff.1 hq
 rw [List.pairwise_iff_getElem] at h
 rcases Nat.lt_or_gt_of_ne hne with hl | hl
 ·have h3:=h p q h1 h2 hl
  rw [e1,e2] at h3
  rcases h3 with h3 | h3
  ·rw [h3];simp
  ·exact h3
 ·have h3:=h q p h2 h1 hl
  rw [e1,e2] at h3
  rcases h3 with h3 | h3
  ·cases h3
  ·exact fun e=>h3 e.symm
theorem Own.setAt {w:World} {base cap g:Nat} {e:TypeId} {xs:List Value} (h:Own w base e (some ⟨g,0,none⟩) cap xs) (i:Nat) (v:Value):Own (w.setCell ⟨g,i,none⟩ v) base e (some ⟨g,0,none⟩) cap (xs.set i v):=by
 rcases h.form with ⟨h1,_⟩ | ⟨g',cur,h1,hb,hg,h2,h3,h4,h5⟩
 ·cases h1
 ·injection h1 with h1
  injection h1 with h1
  subst h1
  refine ⟨by simp,.inr ⟨g,cap,cur.set! i v,by simp,hb,?_,by simpa using h2,h3,?_,?_⟩⟩
  ·simp [World.setCell,Array.getElem?_modify,hg]
  ·simpa using h4
  ·have h6:=congrArg (fun l=>l.set i v) h5
   simp only [List.length_set,Nat.mul_one]
   rw [←h6,Array.set!_eq_setIfInBounds,Array.toList_setIfInBounds,List.take_set]
theorem Own.freeAt {w:World} {base cap g:Nat} {e:TypeId} {xs:List Value} (h:Own w base e (some ⟨g,0,none⟩) cap xs) (i:Nat):w.frozen? ⟨g,i,none⟩=false:=by
 rcases h.form with ⟨h1,_⟩ | ⟨g',cur,h1,hb,hg,_⟩
 ·cases h1
 ·injection h1 with h1
  injection h1 with h1
  subst h1
  simp [World.frozen?,hg]
theorem OutT.setEl {w:World} {base n c:Nat} {A:Option Addr} {l:List TN} (h:OutT w base A n c l) {i k:Nat} {t:TN} (ht:l[i]?=some t) (hk:k<t.el.length):
  ∃ g b c2,A=some ⟨g,0,none⟩∧w.cell? ⟨g,i*2+1,none⟩=some (.slice (some ⟨b,0,none⟩) t.el.length c2)∧base≤b∧w.cell? ⟨b,k,none⟩=some (U (nthW t.el k))∧w.frozen? ⟨b,k,none⟩=false ∧
   ∀ x,OutT (w.setCell ⟨b,k,none⟩ (U x)) base A n c (l.set i ⟨t.sh,t.el.set k x⟩):=by
 obtain ⟨vs,h1,h2,h3,h4,h5,h6⟩:=h
 have hi:i<l.length:=(List.getElem?_eq_some_iff.1 ht).1
 have hv:vs[i]?=some (vs[i]'(by omega)):=List.getElem?_eq_getElem _
 obtain ⟨q0,A1,c1,A2,c2,q1,q2,q3⟩:=h4 i _ t hv ht
 obtain ⟨b,rfl,hb,hbw⟩:=q3.some_ (by rw [List.length_map];omega)
 obtain ⟨g,hA,hg,_,hc⟩:=Zbm h1 (by omega)
 have k1:=hc _ _ ((Zaq tnC 2 (fun _=>rfl) vs i 1 _ hv (by omega)).trans (by rw [q1];rfl))
 have hB:(vs.flatMap tnB)[i*2+1]?=some (some b):=(Zaq tnB 2 (fun _=>rfl) vs i 1 _ hv (by omega)).trans (by rw [q1];simp [tnB,Za4,blk])
 have hbA:some b≠blk A:=by
  rcases h6 (some b) (List.mem_of_getElem? hB) with h | h
  ·cases h
  ·exact h
 refine ⟨g,b,c2,hA,k1,hb,q3.cellAt (by rw [List.getElem?_map,List.getElem?_eq_getElem hk];simp [nthW,List.getD,List.getElem?_eq_getElem hk]),q3.freeAt k,fun x=>⟨vs,ZaK h1 (fun g' hg'=>ZaS _ _ _ (fun e=>hbA (by rw [hg',e]))),h2,by rw [List.length_set];exact h3,fun j p y hp hy => ?_,h5,h6⟩⟩
 by_cases hji:j=i
 ·subst hji
  rw [List.getElem?_set_self hi] at hy
  injection hy with hy
  rw [hv] at hp
  injection hp with hp
  subst hy hp
  refine ⟨q0,A1,c1,some ⟨b,0,none⟩,c2,by rw [q1];simp,Own.other q2 _ _ ?_,?_⟩
  ·have:=Zcr h5 ((Zaq tnB 2 (fun _=>rfl) vs j 0 _ hv (by omega)).trans (show _=some (blk A1) from by rw [q1];simp [tnB,Za4])) hB (by omega)
   exact this
  ·have:=q3.setAt k (U x)
   rw [←List.map_set] at this
   exact this
 ·rw [List.getElem?_set_ne (fun e=>hji e.symm)] at hy
  obtain ⟨r0,B1,d1,B2,d2,r1,r2,r3⟩:=h4 j p y hp hy
  refine ⟨r0,B1,d1,B2,d2,r1,Own.other r2 _ _ ?_,Own.other r3 _ _ ?_⟩
  ·exact Zcr h5 ((Zaq tnB 2 (fun _=>rfl) vs j 0 _ hp (by omega)).trans (show _=some (blk B1) from by rw [r1];simp [tnB,Za4])) hB (by omega)
  ·exact Zcr h5 ((Zaq tnB 2 (fun _=>rfl) vs j 1 _ hp (by omega)).trans (show _=some (blk B2) from by rw [r1];simp [tnB,Za4])) hB (by omega)
theorem OutT.setSh {w:World} {base n c:Nat} {A:Option Addr} {l:List TN} (h:OutT w base A n c l) {i k:Nat} {t:TN} (ht:l[i]?=some t) (hk:k<t.sh.length):
  ∃ g b c2,A=some ⟨g,0,none⟩∧w.cell? ⟨g,i*2,none⟩=some (.slice (some ⟨b,0,none⟩) t.sh.length c2)∧base≤b∧w.cell? ⟨b,k,none⟩=some (VI (t.sh[k]'hk))∧w.frozen? ⟨b,k,none⟩=false ∧
   ∀ x,OutT (w.setCell ⟨b,k,none⟩ (VI x)) base A n c (l.set i ⟨t.sh.set k x,t.el⟩):=by
 obtain ⟨vs,h1,h2,h3,h4,h5,h6⟩:=h
 have hi:i<l.length:=(List.getElem?_eq_some_iff.1 ht).1
 have hv:vs[i]?=some (vs[i]'(by omega)):=List.getElem?_eq_getElem _
 obtain ⟨q0,A1,c1,A2,c2,q1,q2,q3⟩:=h4 i _ t hv ht
 obtain ⟨b,rfl,hb,hbw⟩:=q2.some_ (by rw [List.length_map];omega)
 obtain ⟨g,hA,hg,_,hc⟩:=Zbm h1 (by omega)
 have k1:=hc _ _ ((Zaq tnC 2 (fun _=>rfl) vs i 0 _ hv (by omega)).trans (by rw [q1];rfl))
 have hB:(vs.flatMap tnB)[i*2+0]?=some (some b):=(Zaq tnB 2 (fun _=>rfl) vs i 0 _ hv (by omega)).trans (by rw [q1];simp [tnB,Za4,blk])
 have hbA:some b≠blk A:=by
  rcases h6 (some b) (List.mem_of_getElem? hB) with h | h
  ·cases h
  ·exact h
 refine ⟨g,b,c1,hA,k1,hb,q2.cellAt (by rw [List.getElem?_map,List.getElem?_eq_getElem hk];rfl),q2.freeAt k,fun x=>⟨vs,ZaK h1 (fun g' hg'=>ZaS _ _ _ (fun e=>hbA (by rw [hg',e]))),h2,by rw [List.length_set];exact h3,fun j p y hp hy => ?_,h5,h6⟩⟩
 by_cases hji:j=i
 ·subst hji
  rw [List.getElem?_set_self hi] at hy
  injection hy with hy
  rw [hv] at hp
  injection hp with hp
  subst hy hp
  refine ⟨by simpa using q0,some ⟨b,0,none⟩,c1,A2,c2,by rw [q1];simp,?_,Own.other q3 _ _ ?_⟩
  ·have:=q2.setAt k (VI x)
   rw [←List.map_set] at this
   exact this
  ·have:=Zcr h5 ((Zaq tnB 2 (fun _=>rfl) vs j 1 _ hv (by omega)).trans (show _=some (blk A2) from by rw [q1];simp [tnB,Za4])) hB (by omega)
   exact this
 ·rw [List.getElem?_set_ne (fun e=>hji e.symm)] at hy
  obtain ⟨r0,B1,d1,B2,d2,r1,r2,r3⟩:=h4 j p y hp hy
  refine ⟨r0,B1,d1,B2,d2,r1,Own.other r2 _ _ ?_,Own.other r3 _ _ ?_⟩
  ·exact Zcr h5 ((Zaq tnB 2 (fun _=>rfl) vs j 0 _ hp (by omega)).trans (show _=some (blk B1) from by rw [r1];simp [tnB,Za4])) hB (by omega)
  ·exact Zcr h5 ((Zaq tnB 2 (fun _=>rfl) vs j 1 _ hp (by omega)).trans (show _=some (blk B2) from by rw [r1];simp [tnB,Za4])) hB (by omega)
end Go.Proofs.YtghlnncfigkkaaaGreatDoor
namespace Go.Proofs.YtghlnncfigkkaaaGreatDoor
set_option linter.unusedVariables false
set_option linter.unusedSimpArgs false
open Go.RowKit
def ownTn (t:TN):TN:=⟨t.sh.take 5,t.el.take 100⟩
def ownIn (l:List TN):List TN:=(l.take 12).map ownTn
theorem Yat (l:List TN):(ownIn l).length≤12:=by
 unfold ownIn
 rw [List.length_map,List.length_take]
 omega
theorem Yau {l:List TN} {k:Nat} {t:TN} (h:l[k]?=some t):(l.take (k+1)).map ownTn=(l.take k).map ownTn++[ownTn t]:=by
 rw [List.take_add_one,h,List.map_append]
 rfl
theorem Yav (t:TN):(ownTn t).sh.length=min t.sh.length 5:=by
 show (t.sh.take 5).length=_
 rw [List.length_take,Nat.min_comm]
theorem Yaw (t:TN):(ownTn t).el.length=min t.el.length 100:=by
 show (t.el.take 100).length=_
 rw [List.length_take,Nat.min_comm]
theorem Yax {w:World} {B:Nat} {A:Option Addr} {xs:List Value} (h:Rd w B A xs) (m:Nat):Rd w B A (xs.take m):=by
 rcases h with h | ⟨b,o,hA,hb,hc⟩
 ·exact .inl (by rw [h];simp)
 ·refine .inr ⟨b,o,hA,hb,fun i v hv=>hc i v ?_⟩
  rw [List.getElem?_take] at hv
  split at hv
  ·exact hv
  ·cases hv
end Go.Proofs.YtghlnncfigkkaaaGreatDoor
namespace Go.Proofs.YtghlnncfigkkaaaGreatDoor
set_option linter.unusedVariables false
set_option linter.unusedSimpArgs false
open Go.RowKit
theorem Yay (w:World) (ts:Array TypeId) (t:TypeId) (a:Nat):(Builtin.min_ ts t #[.int .i64 (a:Int),.int .i64 5]).run Tryz.prog w=.ok (.int .i64 (minN a 5:Nat)) w:=Zg3 w ts t a 5
theorem Yaz (w:World) (ts:Array TypeId) (t:TypeId) (a:Nat):(Builtin.min_ ts t #[.int .i64 (a:Int),.int .i64 100]).run Tryz.prog w=.ok (.int .i64 (minN a 100:Nat)) w:=Zg3 w ts t a 100
attribute [local go_sem ↓] Yay Yaz
theorem Ya0 {w:World} {b1 b2 c1 c2:Nat} {A1 A2:Option Addr} {xs ys:List Value} (h1:Own w b1 3 A1 c1 xs) (h2:Own w b2 39 A2 c2 ys):apart (blk A1) (blk A2):=by
 rcases h1.form with ⟨rfl,_⟩ | ⟨g,cur,rfl,_,hg,_⟩
 ·exact .inl rfl
 ·refine .inr fun e => ?_
  rcases h2.form with ⟨rfl,_⟩ | ⟨g',cur',rfl,_,hg',_⟩
  ·cases e
  ·have e':g=g':=by simpa [blk] using e
   subst e'
   rw [hg] at hg'
   injection hg' with hg'
   injection hg' with _ hg' _
   exact absurd hg' (by decide)
theorem Ya1 {w w':World} {b1 b2 c1 c2:Nat} {A1 A2:Option Addr} {xs ys:List Value} {e e':TypeId} (h1:Own w b1 e A1 c1 xs) (hg:w.grownBy w' (blk A1)) (hne:e≠e') (h2:Own w b2 e' A2 c2 ys):Own w' b2 e' A2 c2 ys:=
 Zf4 h2 fun g cur hc=>hg.block g (Array.getElem?_eq_some_iff.1 hc).1 fun q=>by
  rcases h1.form with ⟨rfl,_⟩ | ⟨g',cur',rfl,_,hg',_⟩
  ·cases q
  ·have q':g=g':=by simpa [blk] using q
   subst q'
   rw [hc] at hg'
   injection hg' with hg'
   injection hg' with _ hg' _
   exact hne hg'.symm
theorem Ya2:(Tryz.prog.info? 3).map (fun i=>(i.zero,i.size,i.bytes))=some (some (.int .i64 0),1,8):=by kernel_rfl
theorem Ya3 {w:World} {o:Oper} {a:Act} {K:Act→World→Prop} {Q:Exit→Act→World→Prop} (s x:Operand)
  (ho:o.op=.call { callee:=.builtin .append,args:=#[s,x],argTypes:=#[41,41] }) (base g:Nat) (hs:a.eval s=.slice (some ⟨g,0,none⟩) 0 0) (hown:Own w base 3 (some ⟨g,0,none⟩) 0 [])
  (A2:Option Addr) (m c B:Nat) (news:List Int) (hm:news.length=m) (hx:a.eval x=.slice A2 m c) (hr:Rd w B A2 (news.map VI)) (hnil:A2=none→m=0) (hb:m≤1000) (hbase:base≤w.heap.size)
  (h:∀ A' cap' w',Own w' base 3 A' cap' (news.map VI)→w.grownBy w' (blk (some ⟨g,0,none⟩))→K (a.put o.dst (.slice A' m cap')) w'):o.wp Tryz.prog a w K Q:=by
 obtain ⟨i0,hi0,hz0,hz1,hz2⟩:=info_parts Ya2
 refine ZlF s x 41 ho base 3 i0 _ 8 Tryz.underlying41 hi0 hz0 hz1 hz2 rfl (some ⟨g,0,none⟩) 0 [] 0 rfl hs hown A2 m c B (news.map VI) (by rw [List.length_map];exact hm) hx hr hnil (fun u hu=>by obtain ⟨y,_,rfl⟩:=List.mem_map.1 hu;rfl) (by simp only [maxLen];omega) (by omega) hbase ?_
 intro A' cap' w' h1 h2 _
 rw [Nat.zero_add]
 exact h A' cap' w' h1 h2
theorem Ya4 {w:World} {o:Oper} {a:Act} {K:Act→World→Prop} {Q:Exit→Act→World→Prop} (s x:Operand)
  (ho:o.op=.call { callee:=.builtin .append,args:=#[s,x],argTypes:=#[40,40] }) (base g:Nat) (hs:a.eval s=.slice (some ⟨g,0,none⟩) 0 0) (hown:Own w base 39 (some ⟨g,0,none⟩) 0 [])
  (A2:Option Addr) (m c B:Nat) (news:List UInt64) (hm:news.length=m) (hx:a.eval x=.slice A2 m c) (hr:Rd w B A2 (news.map U)) (hnil:A2=none→m=0) (hb:m≤1000) (hbase:base≤w.heap.size)
  (h:∀ A' cap' w',Own w' base 39 A' cap' (news.map U)→w.grownBy w' (blk (some ⟨g,0,none⟩))→K (a.put o.dst (.slice A' m cap')) w'):o.wp Tryz.prog a w K Q:=by
 obtain ⟨i0,hi0,hz0,hz1,hz2⟩:=info_parts Zei
 refine ZlF s x 40 ho base 39 i0 _ 8 Tryz.underlying40 hi0 hz0 hz1 hz2 rfl (some ⟨g,0,none⟩) 0 [] 0 rfl hs hown A2 m c B (news.map U) (by rw [List.length_map];exact hm) hx hr hnil (Zej _) (by simp only [maxLen];omega) (by omega) hbase ?_
 intro A' cap' w' h1 h2 _
 rw [Nat.zero_add]
 exact h A' cap' w' h1 h2
theorem Ya5 {w:World} {B:Nat} {A:Option Addr} {xs:List Value} (h:Rd w B A xs) {n c m:Nat} (hn:n=xs.length) (hc:n≤c):Rd w B (cutA A 0 1 c) (xs.take m):=by
 have h2:=(h.cut (k:=0) (c:=c) (by omega))
 rw [List.drop_zero] at h2
 exact Yax h2 m
theorem Ya6 {w:World} {B:Nat} {A:Option Addr} {xs:List Value} (h:Rd w B A xs) (e:A=none):xs=[]:=by
 rcases h with h | ⟨b,o,hA,_⟩
 ·exact h
 ·rw [e] at hA;cases hA
theorem Ya7 {α:Type} {l:List α} {n M k:Nat} (hn:n=l.length) (h:M≤n∧M≤k∧(M=n∨M=k)):l.take M=l.take k:=by
 rcases h.2.2 with h | h
 ·rw [List.take_of_length_le (by omega),List.take_of_length_le (by omega)]
 ·rw [h]
theorem Ya8 (A0:Option Addr) (n c0:Nat) (l:List TN) (w:World) (hn:n=l.length) (hl:n≤9223372036854775807) (h:RdTN w w.heap.size A0 l):
  Calls Tryz.prog 30 #[.slice A0 n c0] w fun e w'=>∃ A' c',e=.returned (.slice A' (ownIn l).length c')∧OutT w' w.heap.size A' (ownIn l).length c' (ownIn l)∧Below w.heap.size w w':=by
 have HN:=hid hn
 have H:=hid h
 clear hn h
 go_enter Tryz.func30,Tryz.ntmps30
 go_wp2_with fail
 go_loopw [3,4] (fun xv iv wr=>∃ (i:Nat) (A:Option Addr) (c:Nat),i≤n∧i≤12∧iv=.int .i64 i∧xv=.slice A i c∧OutT wr w.heap.size A i c ((l.take i).map ownTn)∧Below w.heap.size w wr) (fun _ iv _=>12-(intOf iv).toNat)
 case atStart=>exact ⟨0,none,0,by omega,by omega,rfl,rfl,OutT.nil _ _,Below.refl _ _⟩
 case round=>
  obtain ⟨i,A,c,hi,hi2,rfl,rfl,hO,hB⟩:=hrel
  have HO:=hid hO
  have HB:=hid hB
  clear hO hB
  by_cases hlt:i<n∧i<12
  ·obtain ⟨hlt,hlt2⟩:=hlt
   have q1:decide ((i:Int)<(n:Int))=true:=by simp;omega
   have q2:decide ((i:Int)<12)=true:=by simp;omega
   have ht:l[i]?=some (l[i]'(by rw [←HN.out];exact hlt)):=List.getElem?_eq_getElem _
   obtain ⟨t,htt⟩:∃ t,t=l[i]'(by rw [←HN.out];exact hlt):=⟨_,rfl⟩
   rw [←htt] at ht
   obtain ⟨b,o,rfl,hbl,⟨Ax,cx,z0,r0,_,l0,_⟩,Ay,cy,z1,r1,_,l1,_⟩:=H.out.at_ ht
   obtain ⟨nx,hnx⟩:∃ nx,nx=t.sh.length:=⟨_,rfl⟩
   obtain ⟨ny,hny⟩:∃ ny,ny=t.el.length:=⟨_,rfl⟩
   rw [←hnx] at z0 l0
   rw [←hny] at z1 l1
   have HX:=hid ht
   have HBL:=hid hbl
   have i0:(0:Int)≤(i:Int):=by omega
   have i1:(i:Int)<(n:Int):=by omega
   have HC:=hid (show ∀ W,Below w.heap.size w W→W.cell? ⟨b,o+i*2,none⟩=some (.slice Ax nx cx)∧W.cell? ⟨b,o+i*2+1,none⟩=some (.slice Ay ny cy) from fun W hW=>⟨(hW.cell (p:=⟨b,o+i*2,none⟩) hbl).trans z0,(hW.cell (p:=⟨b,o+i*2+1,none⟩) hbl).trans z1⟩)
   obtain ⟨M1,hM1⟩:∃ M,M=minN nx 5:=⟨_,rfl⟩
   obtain ⟨M2,hM2⟩:∃ M,M=minN ny 100:=⟨_,rfl⟩
   have m1:=Zjt nx 5
   have m2:=Zjt ny 100
   rw [←hM1] at m1
   rw [←hM2] at m2
   have m3:=hM1.symm
   have m4:=hM2.symm
   have f1:∀ W,(Instr.sliceAt 41 (.slice Ax nx cx) none (some (.int .i64 (M1:Int))) none).run Tryz.prog W=.ok (.slice (cutA Ax 0 1 cx) M1 cx) W:=fun W=>ZaB (P := Tryz.prog) Tryz.underlying41 (fun W=>by kernel_rfl) Ax (by omega) W
   have f2:∀ W,(Instr.sliceAt 40 (.slice Ay ny cy) none (some (.int .i64 (M2:Int))) none).run Tryz.prog W=.ok (.slice (cutA Ay 0 1 cy) M2 cy) W:=fun W=>ZaB (P := Tryz.prog) Tryz.underlying40 (fun W=>by kernel_rfl) Ay (by omega) W
   have t1:=Ya7 hnx m1
   have t2:=Ya7 hny m2
   have HM1:=hid (show (t.sh.take M1).length=M1 from by rw [List.length_take,←hnx];omega)
   have HM2:=hid (show (t.el.take M2).length=M2 from by rw [List.length_take,←hny];omega)
   have s1:=Ya5 (m:=M1) r0 (by rw [List.length_map];exact hnx) l0
   have s2:=Ya5 (m:=M2) r1 (by rw [List.length_map];exact hny) l1
   rw [←List.map_take] at s1 s2
   have HR1:=hid (fun W (hW:Below w.heap.size w W)=>s1.below hW)
   have HR2:=hid (fun W (hW:Below w.heap.size w W)=>s2.below hW)
   have HX1:=hid (show cutA Ax 0 1 cx=none→M1=0 from fun e=>by have:=Ya6 s1 e;rw [←HM1.out];simpa using this)
   have HX2:=hid (show cutA Ay 0 1 cy=none→M2=0 from fun e=>by have:=Ya6 s2 e;rw [←HM2.out];simpa using this)
   have HU1:=hid (show (ownTn t).sh=t.sh.take M1 from t1.symm)
   have HU2:=hid (show (ownTn t).el=t.el.take M2 from t2.symm)
   have HT1:=hid (show M1=(ownTn t).sh.length from by rw [HU1.out];exact HM1.out.symm)
   have HT2:=hid (show M2=(ownTn t).el.length from by rw [HU2.out];exact HM2.out.symm)
   have hM15:M1≤5:=m1.2.1
   have hM2h:M2≤100:=m2.2.1
   have HT3:=hid (show (ownTn t).sh.length≤1000000 from by rw [←HT1.out];omega)
   obtain ⟨y0,y1⟩:=HC.out wr HB.out
   clear z0 z1 r0 r1 l0 l1 s1 s2 t1 t2 m1 m2 hM1 hM2 hnx hny ht htt hbl
   go_upto_region 5 with fail
   refine wp_region_held_drew (S:=(fun w'=>w'.cell? ⟨b,o+i*2,none⟩=some (.slice Ax nx cx)∧w'.cell? ⟨b,o+i*2+1,none⟩=some (.slice Ay ny cy))) (by kernel_rfl) ⟨y0,y1⟩ (fun hHeld => ?_)
   obtain ⟨wd,hwd⟩:∃ wd,wd=wr.drew:=⟨_,rfl⟩
   rw [←hwd] at hHeld ⊢
   have HB:=hid (show Below w.heap.size w wd from by rw [hwd];exact HB.out.drew)
   have HO:=hid (show OutT wd w.heap.size A i c ((l.take i).map ownTn) from by rw [hwd];exact HO.out.next (Below.refl _ _).drew)
   have BD:=hid (Below.refl wd.heap.size wd)
   clear hwd
   refine tk 0 ?_
   simp only [tkS]
   refine tk 2 ?_
   simp only [tkS]
   refine tk 3 ?_
   simp only [tkS]
   refine tk 4 ?_
   simp only [tkS]
   refine tk 5 ?_
   simp only [tkS]
   refine tk 6 ?_
   simp only [tkS]
   refine tk 7 ?_
   simp only [tkS]
   refine tk 8 ?_
   simp only [tkS]
   refine tk 9 ?_
   simp only [tkS]
   refine tk 10 ?_
   simp only [tkS]
   refine tk 11 ?_
   simp only [tkS]
   refine tk 12 ?_
   simp only [tkS]
   refine tk 13 ?_
   simp only [tkS]
   refine tk 14 ?_
   simp only [tkS]
   refine tk 17 ?_
   simp only [tkS]
   refine tk 18 ?_
   simp only [tkS]
   refine tk 19 ?_
   simp only [tkS]
   refine tk 20 ?_
   simp only [tkS]
   refine tk 21 ?_
   simp only [tkS]
   refine tk 22 ?_
   simp only [tkS]
   refine tk 23 ?_
   simp only [tkS]
   refine tk 24 ?_
   simp only [tkS]
   refine tk 25 ?_
   simp only [tkS]
   refine tk 26 ?_
   simp only [tkS]
   refine tk 27 ?_
   simp only [tkS]
   refine tk 28 ?_
   simp only [tkS]
   refine tk 29 ?_
   simp only [tkS]
   refine wpAnyH_ready (rs:=[1,16]) (by kernel_rfl) (by simp) ?_
   refine AllReadyH.cons (o:=_) rfl (fun K hK => ?_) (AllReadyH.cons (o:=_) rfl (fun K hK => ?_) (AllReadyH.nil))
   ·go_simp
    obtain ⟨w1,hw1⟩:∃ w1,w1=wd.alloc (.cells #[] 3):=⟨_,rfl⟩
    obtain ⟨g1,hg1⟩:∃ g1,g1=wd.heap.size:=⟨_,rfl⟩
    rw [←hw1,←hg1]
    have b1:Below wd.heap.size wd w1:=by rw [hw1];exact (Below.refl _ _).alloc (Nat.le_refl _) _
    have B1:=hid (bnext BD.out b1)
    have O1:=hid (show Own w1 wd.heap.size 3 (some ⟨g1,0,none⟩) 0 [] from by rw [hw1,hg1];exact Own.made _ _ BD.out.size)
    clear b1 hw1 hg1
    refine hK.out _ _ (show (fun w'=>w'.cell? ⟨b,o+i*2,none⟩=some (.slice Ax nx cx)∧w'.cell? ⟨b,o+i*2+1,none⟩=some (.slice Ay ny cy)) w1 from HC.out _ (bnext HB.out B1.out)) (fun hHeld => ?_)
    clear hK K
    try simp only [tkS]
    refine wpAnyH_ready (rs:=[15,16]) (by kernel_rfl) (by simp) ?_
    refine AllReadyH.cons (o:=_) rfl (fun K hK => ?_) (AllReadyH.cons (o:=_) rfl (fun K hK => ?_) (AllReadyH.nil))
    ·refine Ya3 (.tmp 16) (.tmp 29) rfl wd.heap.size g1 rfl O1.out (cutA Ax 0 1 cx) M1 cx w.heap.size (t.sh.take M1) HM1.out rfl (HR1.out w1 (bnext HB.out B1.out)) HX1.out (by omega) B1.out.size ?_
     intro A1 c1 w2 o1 g2
     have B2:=hid (Zal B1.out g2 B1.out.size (fun k hk=>(O1.out.lt k hk).1))
     have O1:=hid o1
     clear o1 g2
     refine hK.out _ _ (show (fun w'=>w'.cell? ⟨b,o+i*2,none⟩=some (.slice Ax nx cx)∧w'.cell? ⟨b,o+i*2+1,none⟩=some (.slice Ay ny cy)) w2 from HC.out _ (bnext HB.out B2.out)) (fun hHeld => ?_)
     clear hK K
     try simp only [tkS]
     refine wpAnyH_ready (rs:=[16]) (by kernel_rfl) (by simp) ?_
     refine AllReadyH.cons (o:=_) rfl (fun K hK => ?_) (AllReadyH.nil)
     ·go_simp
      obtain ⟨w3,hw3⟩:∃ w3,w3=w2.alloc (.cells #[] 39):=⟨_,rfl⟩
      obtain ⟨g2,hg2⟩:∃ g2,g2=w2.heap.size:=⟨_,rfl⟩
      rw [←hw3,←hg2]
      have b3:Below w2.heap.size w2 w3:=by rw [hw3];exact (Below.refl _ _).alloc (Nat.le_refl _) _
      have B3:=hid (bnext B2.out b3)
      have O1:=hid (O1.out.next b3)
      have O2:=hid (show Own w3 wd.heap.size 39 (some ⟨g2,0,none⟩) 0 [] from by rw [hw3,hg2];exact Own.made _ _ B2.out.size)
      clear b3 hw3 hg2
      refine hK.out _ _ (show (fun w'=>w'.cell? ⟨b,o+i*2,none⟩=some (.slice Ax nx cx)∧w'.cell? ⟨b,o+i*2+1,none⟩=some (.slice Ay ny cy)) w3 from HC.out _ (bnext HB.out B3.out)) (fun hHeld => ?_)
      clear hK K
      try simp only [tkS]
      refine wpAnyH_ready (rs:=[30]) (by kernel_rfl) (by simp) ?_
      refine AllReadyH.cons (o:=_) rfl (fun K hK => ?_) (AllReadyH.nil)
      ·refine Ya4 (.tmp 31) (.tmp 44) rfl wd.heap.size g2 rfl O2.out (cutA Ay 0 1 cy) M2 cy w.heap.size (t.el.take M2) HM2.out rfl (HR2.out w3 (bnext HB.out B3.out)) HX2.out (by omega) B3.out.size ?_
       intro A2 c2 w4 o2 g4
       have B4:=hid (Zal B3.out g4 B3.out.size (fun k hk=>(O2.out.lt k hk).1))
       have O1:=hid (Ya1 O2.out g4 (by decide) O1.out)
       have O2:=hid o2
       clear o2 g4
       refine hK.out _ _ (show (fun w'=>w'.cell? ⟨b,o+i*2,none⟩=some (.slice Ax nx cx)∧w'.cell? ⟨b,o+i*2+1,none⟩=some (.slice Ay ny cy)) w4 from HC.out _ (bnext HB.out B4.out)) (fun hHeld => ?_)
       clear hK K
       try simp only [tkS]
       refine tk 31 ?_
       simp only [tkS]
       refine wpAnyH_ready (rs:=[32]) (by kernel_rfl) (by simp) ?_
       refine AllReadyH.cons (o:=_) rfl (fun K hK => ?_) (AllReadyH.nil)
       go_simp
       obtain ⟨w5,hw5⟩:∃ w5,w5=w4.alloc (.cells #[.slice A1 M1 c1,.slice A2 M2 c2] 43):=⟨_,rfl⟩
       rw [←hw5]
       have B5:=hid (show Below wd.heap.size wd w5 from by rw [hw5];exact B4.out.alloc B4.out.size _)
       refine hK.out _ _ (show (fun w'=>w'.cell? ⟨b,o+i*2,none⟩=some (.slice Ax nx cx)∧w'.cell? ⟨b,o+i*2+1,none⟩=some (.slice Ay ny cy)) w5 from HC.out _ (bnext HB.out B5.out)) (fun hHeld => ?_)
       clear hK K
       try simp only [tkS]
       refine wpAnyH_ready (rs:=[33]) (by kernel_rfl) (by simp) ?_
       refine AllReadyH.cons (o:=_) rfl (fun K hK => ?_) (AllReadyH.nil)
       refine Zf5 (.tmp 15) (.tmp 47) rfl w.heap.size A c i ((l.take i).map ownTn) rfl wd w4 HO.out HB.out.size B4.out A1 A2 c1 c2 M1 M2 (ownTn t) HT1.out HT2.out HT3.out (by rw [HU1.out];exact O1.out) (by rw [HU2.out];exact O2.out) (Ya0 O1.out O2.out) hw5 rfl (by omega) ?_
       intro A8 c8 w6 o8 g8 h8
       have BF:=hid (Zal (bnext HB.out B5.out) g8 (Nat.le_trans HB.out.size B5.out.size) (fun k hk=>(HO.out.lt k hk).1))
       have O8:=hid o8
       clear o8 g8 h8 hw5
       refine hK.out _ _ (show (fun w'=>w'.cell? ⟨b,o+i*2,none⟩=some (.slice Ax nx cx)∧w'.cell? ⟨b,o+i*2+1,none⟩=some (.slice Ay ny cy)) w6 from HC.out _ BF.out) (fun hHeld => ?_)
       clear hK K
       try simp only [tkS]
       refine tk 34 ?_
       simp only [tkS]
       refine wpAnyH_done (by kernel_rfl) ?_ _
       go_wp2_with fail
       exact ⟨⟨i+1,A8,c8,by omega,by omega,rfl,rfl,by rw [Yau HX.out];exact O8.out,BF.out⟩,by simp [intOf];omega⟩
    ·go_simp
     obtain ⟨w7,hw7⟩:∃ w7,w7=w1.alloc (.cells #[] 39):=⟨_,rfl⟩
     obtain ⟨g2,hg2⟩:∃ g2,g2=w1.heap.size:=⟨_,rfl⟩
     rw [←hw7,←hg2]
     have b7:Below w1.heap.size w1 w7:=by rw [hw7];exact (Below.refl _ _).alloc (Nat.le_refl _) _
     have B7:=hid (bnext B1.out b7)
     have O1:=hid (O1.out.next b7)
     have O2:=hid (show Own w7 wd.heap.size 39 (some ⟨g2,0,none⟩) 0 [] from by rw [hw7,hg2];exact Own.made _ _ B1.out.size)
     clear b7 hw7 hg2
     refine hK.out _ _ (show (fun w'=>w'.cell? ⟨b,o+i*2,none⟩=some (.slice Ax nx cx)∧w'.cell? ⟨b,o+i*2+1,none⟩=some (.slice Ay ny cy)) w7 from HC.out _ (bnext HB.out B7.out)) (fun hHeld => ?_)
     clear hK K
     try simp only [tkS]
     refine wpAnyH_ready (rs:=[15]) (by kernel_rfl) (by simp) ?_
     refine AllReadyH.cons (o:=_) rfl (fun K hK => ?_) (AllReadyH.nil)
     ·refine Ya3 (.tmp 16) (.tmp 29) rfl wd.heap.size g1 rfl O1.out (cutA Ax 0 1 cx) M1 cx w.heap.size (t.sh.take M1) HM1.out rfl (HR1.out w7 (bnext HB.out B7.out)) HX1.out (by omega) B7.out.size ?_
      intro A1 c1 w8 o1 g8
      have B8:=hid (Zal B7.out g8 B7.out.size (fun k hk=>(O1.out.lt k hk).1))
      have O2:=hid (Ya1 O1.out g8 (by decide) O2.out)
      have O1:=hid o1
      clear o1 g8
      refine hK.out _ _ (show (fun w'=>w'.cell? ⟨b,o+i*2,none⟩=some (.slice Ax nx cx)∧w'.cell? ⟨b,o+i*2+1,none⟩=some (.slice Ay ny cy)) w8 from HC.out _ (bnext HB.out B8.out)) (fun hHeld => ?_)
      clear hK K
      try simp only [tkS]
      refine wpAnyH_ready (rs:=[30]) (by kernel_rfl) (by simp) ?_
      refine AllReadyH.cons (o:=_) rfl (fun K hK => ?_) (AllReadyH.nil)
      ·refine Ya4 (.tmp 31) (.tmp 44) rfl wd.heap.size g2 rfl O2.out (cutA Ay 0 1 cy) M2 cy w.heap.size (t.el.take M2) HM2.out rfl (HR2.out w8 (bnext HB.out B8.out)) HX2.out (by omega) B8.out.size ?_
       intro A2 c2 w9 o2 g9
       have B9:=hid (Zal B8.out g9 B8.out.size (fun k hk=>(O2.out.lt k hk).1))
       have O1:=hid (Ya1 O2.out g9 (by decide) O1.out)
       have O2:=hid o2
       clear o2 g9
       refine hK.out _ _ (show (fun w'=>w'.cell? ⟨b,o+i*2,none⟩=some (.slice Ax nx cx)∧w'.cell? ⟨b,o+i*2+1,none⟩=some (.slice Ay ny cy)) w9 from HC.out _ (bnext HB.out B9.out)) (fun hHeld => ?_)
       clear hK K
       try simp only [tkS]
       refine tk 31 ?_
       simp only [tkS]
       refine wpAnyH_ready (rs:=[32]) (by kernel_rfl) (by simp) ?_
       refine AllReadyH.cons (o:=_) rfl (fun K hK => ?_) (AllReadyH.nil)
       go_simp
       obtain ⟨w10,hw10⟩:∃ w10,w10=w9.alloc (.cells #[.slice A1 M1 c1,.slice A2 M2 c2] 43):=⟨_,rfl⟩
       rw [←hw10]
       have B10:=hid (show Below wd.heap.size wd w10 from by rw [hw10];exact B9.out.alloc B9.out.size _)
       refine hK.out _ _ (show (fun w'=>w'.cell? ⟨b,o+i*2,none⟩=some (.slice Ax nx cx)∧w'.cell? ⟨b,o+i*2+1,none⟩=some (.slice Ay ny cy)) w10 from HC.out _ (bnext HB.out B10.out)) (fun hHeld => ?_)
       clear hK K
       try simp only [tkS]
       refine wpAnyH_ready (rs:=[33]) (by kernel_rfl) (by simp) ?_
       refine AllReadyH.cons (o:=_) rfl (fun K hK => ?_) (AllReadyH.nil)
       refine Zf5 (.tmp 15) (.tmp 47) rfl w.heap.size A c i ((l.take i).map ownTn) rfl wd w9 HO.out HB.out.size B9.out A1 A2 c1 c2 M1 M2 (ownTn t) HT1.out HT2.out HT3.out (by rw [HU1.out];exact O1.out) (by rw [HU2.out];exact O2.out) (Ya0 O1.out O2.out) hw10 rfl (by omega) ?_
       intro A8 c8 w11 o8 g8 h8
       have BF:=hid (Zal (bnext HB.out B10.out) g8 (Nat.le_trans HB.out.size B10.out.size) (fun k hk=>(HO.out.lt k hk).1))
       have O8:=hid o8
       clear o8 g8 h8 hw10
       refine hK.out _ _ (show (fun w'=>w'.cell? ⟨b,o+i*2,none⟩=some (.slice Ax nx cx)∧w'.cell? ⟨b,o+i*2+1,none⟩=some (.slice Ay ny cy)) w11 from HC.out _ BF.out) (fun hHeld => ?_)
       clear hK K
       try simp only [tkS]
       refine tk 34 ?_
       simp only [tkS]
       refine wpAnyH_done (by kernel_rfl) ?_ _
       go_wp2_with fail
       exact ⟨⟨i+1,A8,c8,by omega,by omega,rfl,rfl,by rw [Yau HX.out];exact O8.out,BF.out⟩,by simp [intOf];omega⟩
   ·go_simp
    obtain ⟨w12,hw12⟩:∃ w12,w12=wd.alloc (.cells #[] 39):=⟨_,rfl⟩
    obtain ⟨g2,hg2⟩:∃ g2,g2=wd.heap.size:=⟨_,rfl⟩
    rw [←hw12,←hg2]
    have b12:Below wd.heap.size wd w12:=by rw [hw12];exact (Below.refl _ _).alloc (Nat.le_refl _) _
    have B12:=hid (bnext BD.out b12)
    have O2:=hid (show Own w12 wd.heap.size 39 (some ⟨g2,0,none⟩) 0 [] from by rw [hw12,hg2];exact Own.made _ _ BD.out.size)
    clear b12 hw12 hg2
    refine hK.out _ _ (show (fun w'=>w'.cell? ⟨b,o+i*2,none⟩=some (.slice Ax nx cx)∧w'.cell? ⟨b,o+i*2+1,none⟩=some (.slice Ay ny cy)) w12 from HC.out _ (bnext HB.out B12.out)) (fun hHeld => ?_)
    clear hK K
    try simp only [tkS]
    refine wpAnyH_ready (rs:=[1]) (by kernel_rfl) (by simp) ?_
    refine AllReadyH.cons (o:=_) rfl (fun K hK => ?_) (AllReadyH.nil)
    ·go_simp
     obtain ⟨w13,hw13⟩:∃ w13,w13=w12.alloc (.cells #[] 3):=⟨_,rfl⟩
     obtain ⟨g1,hg1⟩:∃ g1,g1=w12.heap.size:=⟨_,rfl⟩
     rw [←hw13,←hg1]
     have b13:Below w12.heap.size w12 w13:=by rw [hw13];exact (Below.refl _ _).alloc (Nat.le_refl _) _
     have B13:=hid (bnext B12.out b13)
     have O2:=hid (O2.out.next b13)
     have O1:=hid (show Own w13 wd.heap.size 3 (some ⟨g1,0,none⟩) 0 [] from by rw [hw13,hg1];exact Own.made _ _ B12.out.size)
     clear b13 hw13 hg1
     refine hK.out _ _ (show (fun w'=>w'.cell? ⟨b,o+i*2,none⟩=some (.slice Ax nx cx)∧w'.cell? ⟨b,o+i*2+1,none⟩=some (.slice Ay ny cy)) w13 from HC.out _ (bnext HB.out B13.out)) (fun hHeld => ?_)
     clear hK K
     try simp only [tkS]
     refine wpAnyH_ready (rs:=[15]) (by kernel_rfl) (by simp) ?_
     refine AllReadyH.cons (o:=_) rfl (fun K hK => ?_) (AllReadyH.nil)
     ·refine Ya3 (.tmp 16) (.tmp 29) rfl wd.heap.size g1 rfl O1.out (cutA Ax 0 1 cx) M1 cx w.heap.size (t.sh.take M1) HM1.out rfl (HR1.out w13 (bnext HB.out B13.out)) HX1.out (by omega) B13.out.size ?_
      intro A1 c1 w14 o1 g14
      have B14:=hid (Zal B13.out g14 B13.out.size (fun k hk=>(O1.out.lt k hk).1))
      have O2:=hid (Ya1 O1.out g14 (by decide) O2.out)
      have O1:=hid o1
      clear o1 g14
      refine hK.out _ _ (show (fun w'=>w'.cell? ⟨b,o+i*2,none⟩=some (.slice Ax nx cx)∧w'.cell? ⟨b,o+i*2+1,none⟩=some (.slice Ay ny cy)) w14 from HC.out _ (bnext HB.out B14.out)) (fun hHeld => ?_)
      clear hK K
      try simp only [tkS]
      refine wpAnyH_ready (rs:=[30]) (by kernel_rfl) (by simp) ?_
      refine AllReadyH.cons (o:=_) rfl (fun K hK => ?_) (AllReadyH.nil)
      ·refine Ya4 (.tmp 31) (.tmp 44) rfl wd.heap.size g2 rfl O2.out (cutA Ay 0 1 cy) M2 cy w.heap.size (t.el.take M2) HM2.out rfl (HR2.out w14 (bnext HB.out B14.out)) HX2.out (by omega) B14.out.size ?_
       intro A2 c2 w15 o2 g15
       have B15:=hid (Zal B14.out g15 B14.out.size (fun k hk=>(O2.out.lt k hk).1))
       have O1:=hid (Ya1 O2.out g15 (by decide) O1.out)
       have O2:=hid o2
       clear o2 g15
       refine hK.out _ _ (show (fun w'=>w'.cell? ⟨b,o+i*2,none⟩=some (.slice Ax nx cx)∧w'.cell? ⟨b,o+i*2+1,none⟩=some (.slice Ay ny cy)) w15 from HC.out _ (bnext HB.out B15.out)) (fun hHeld => ?_)
       clear hK K
       try simp only [tkS]
       refine tk 31 ?_
       simp only [tkS]
       refine wpAnyH_ready (rs:=[32]) (by kernel_rfl) (by simp) ?_
       refine AllReadyH.cons (o:=_) rfl (fun K hK => ?_) (AllReadyH.nil)
       go_simp
       obtain ⟨w16,hw16⟩:∃ w16,w16=w15.alloc (.cells #[.slice A1 M1 c1,.slice A2 M2 c2] 43):=⟨_,rfl⟩
       rw [←hw16]
       have B16:=hid (show Below wd.heap.size wd w16 from by rw [hw16];exact B15.out.alloc B15.out.size _)
       refine hK.out _ _ (show (fun w'=>w'.cell? ⟨b,o+i*2,none⟩=some (.slice Ax nx cx)∧w'.cell? ⟨b,o+i*2+1,none⟩=some (.slice Ay ny cy)) w16 from HC.out _ (bnext HB.out B16.out)) (fun hHeld => ?_)
       clear hK K
       try simp only [tkS]
       refine wpAnyH_ready (rs:=[33]) (by kernel_rfl) (by simp) ?_
       refine AllReadyH.cons (o:=_) rfl (fun K hK => ?_) (AllReadyH.nil)
       refine Zf5 (.tmp 15) (.tmp 47) rfl w.heap.size A c i ((l.take i).map ownTn) rfl wd w15 HO.out HB.out.size B15.out A1 A2 c1 c2 M1 M2 (ownTn t) HT1.out HT2.out HT3.out (by rw [HU1.out];exact O1.out) (by rw [HU2.out];exact O2.out) (Ya0 O1.out O2.out) hw16 rfl (by omega) ?_
       intro A8 c8 w17 o8 g8 h8
       have BF:=hid (Zal (bnext HB.out B16.out) g8 (Nat.le_trans HB.out.size B16.out.size) (fun k hk=>(HO.out.lt k hk).1))
       have O8:=hid o8
       clear o8 g8 h8 hw16
       refine hK.out _ _ (show (fun w'=>w'.cell? ⟨b,o+i*2,none⟩=some (.slice Ax nx cx)∧w'.cell? ⟨b,o+i*2+1,none⟩=some (.slice Ay ny cy)) w17 from HC.out _ BF.out) (fun hHeld => ?_)
       clear hK K
       try simp only [tkS]
       refine tk 34 ?_
       simp only [tkS]
       refine wpAnyH_done (by kernel_rfl) ?_ _
       go_wp2_with fail
       exact ⟨⟨i+1,A8,c8,by omega,by omega,rfl,rfl,by rw [Yau HX.out];exact O8.out,BF.out⟩,by simp [intOf];omega⟩
  ·have HD:=hid (show ownIn l=(l.take i).map ownTn from by
    unfold ownIn
    by_cases e:i=12
    ·rw [e]
    ·rw [List.take_of_length_le (by rw [←HN.out];omega),List.take_of_length_le (by rw [←HN.out];omega)])
   have HE:=hid (show i=(ownIn l).length from by rw [HD.out,List.length_map,List.length_take,←HN.out];omega)
   by_cases hlt1:i<n
   ·have q1:decide ((i:Int)<(n:Int))=true:=by simp;omega
    have q2:decide ((i:Int)<12)=false:=by simp;omega
    go_wp2_with fail
    go_ret
    exact ⟨A,c,(by rw [←HE.out];rfl),by rw [←HE.out,HD.out];exact HO.out,HB.out⟩
   ·have q1:decide ((i:Int)<(n:Int))=false:=by simp;omega
    go_wp2_with fail
    go_ret
    exact ⟨A,c,(by rw [←HE.out];rfl),by rw [←HE.out,HD.out];exact HO.out,HB.out⟩
end Go.Proofs.YtghlnncfigkkaaaGreatDoor
namespace Go.Proofs.YtghlnncfigkkaaaGreatDoor
set_option linter.unusedVariables false
set_option linter.unusedSimpArgs false
open Go.RowKit
theorem Ya9 {w6 w7:World} {q B0 B1 n0 n1 k0 k1:Nat} {I0 I1:Option Addr} {X0 X1:List TN} (hq:q=w6.heap.size) (hw:w7=w6.alloc (.cells #[.slice I0 n0 k0,.slice I1 n1 k1] 45))
  (o0:OutT w6 B0 I0 n0 k0 X0) (o1:OutT w6 B1 I1 n1 k1 X1):Below w6.heap.size w6 w7∧w7.heap[q]?=some (.cells #[.slice I0 n0 k0,.slice I1 n1 k1] 45 (0,0))∧RdTN w7 w7.heap.size I0 X0∧RdTN w7 w7.heap.size I1 X1:=by
 have hb:Below w6.heap.size w6 w7:=by
  rw [hw]
  exact (Below.refl _ _).alloc (Nat.le_refl _) _
 exact ⟨hb,by rw [hw,hq];exact heap_alloc_new w6 _,(o0.next hb).rd,(o1.next hb).rd⟩
theorem YaA (ss:List SI):(ownSs ss).length≤100:=by unfold ownSs;rw [List.length_map,List.length_take];omega
theorem YaB (es:List EI):(ownEs es).length≤600:=by unfold ownEs;rw [List.length_map,List.length_take];omega
theorem YaC (ss:List SI):∀ s∈ownSs ss,s.shape.length≤1000000:=fun s hs=>by
 obtain ⟨x,_,rfl⟩:=List.mem_map.1 hs
 show (x.shape.take 10).length≤_
 rw [List.length_take]
 omega
theorem YaD {es:List EI} {b:Nat} (h:∀ e∈es,e.num≤b):∀ e∈ownEs es,e.num≤b:=fun e he=>by
 obtain ⟨x,hx,rfl⟩:=List.mem_map.1 he
 exact h x (List.mem_of_mem_take hx)
theorem YaE {ss:List SI} {es:List EI} {in0 in1:List TN} {c:Nat} {p:Int} {b:Bool} (h:evalE ss es in0 in1=.inr (c,p,b)):c≠0:=by
 unfold evalE at h
 split at h
 ·rename_i x y hc
  injection h with h
  injection h with h _
  rw [←h]
  exact ZgE hc
 ·split at h
  ·injection h with h
   injection h with h _
   omega
  ·split at h
   ·injection h with h
    injection h with h _
    omega
   ·cases h
theorem YaF {W:World} {b:Nat} {a a':Value} (h:W.heap[b]?=some (.cells #[a,a'] 26 (0,0))) (x y:Value):
  ((W.setCell ⟨b,0,none⟩ x).setCell ⟨b,1,none⟩ y).heap[b]?=some (.cells #[x,y] 26 (0,0))∧(∀ {B c:Nat} {A:Option Addr} {l:List SI},OwnSI W B A c l→OwnSI ((W.setCell ⟨b,0,none⟩ x).setCell ⟨b,1,none⟩ y) B A c l)∧(∀ {B c:Nat} {A:Option Addr} {l:List EI},OwnEI W B A c l→OwnEI ((W.setCell ⟨b,0,none⟩ x).setCell ⟨b,1,none⟩ y) B A c l) ∧
   ∀ {w:World},Below w.heap.size w W→w.heap.size≤b→Below w.heap.size w ((W.setCell ⟨b,0,none⟩ x).setCell ⟨b,1,none⟩ y):=by
 have h1:(W.setCell ⟨b,0,none⟩ x).heap[b]?=some (.cells #[x,a'] 26 (0,0)):=heap_setCell_same _ _ _ _ _ _ h
 have h2:((W.setCell ⟨b,0,none⟩ x).setCell ⟨b,1,none⟩ y).heap[b]?=some (.cells #[x,y] 26 (0,0)):=heap_setCell_same _ _ _ _ _ _ h1
 exact ⟨h2,fun ho=>(ho.other h (by decide) (by decide) _).other h1 (by decide) (by decide) _,fun ho=>(ho.other h (by decide) (by decide) _).other h1 (by decide) (by decide) _,fun hb hl=>Zaf (Zaf hb hl _) hl _⟩
theorem YaG {W:World} {b:Nat} {a a':Value} (h:W.heap[b]?=some (.cells #[a,a'] 26 (0,0))):W.cell? ⟨b,0,none⟩=some a∧W.cell? ⟨b,1,none⟩=some a'∧(∀ k,W.frozen? ⟨b,k,none⟩=false)∧b<W.heap.size:=
 ⟨cell_of_row _ _ 0 _ _ _ h,cell_of_row _ _ 1 _ _ _ h,fun k=>by simp [World.frozen?,h],(Array.getElem?_eq_some_iff.1 h).1⟩
theorem EvalTrees_walk (w:World) (hg:ETyped w) (ht:ErrT w) (SA:Option Addr) (sc:Nat) (ss:List SI) (EA:Option Addr) (ec:Nat) (es:List EI) (hs1:ss.length≤sc) (hs2:sc≤maxLen) (he1:es.length≤ec) (he2:ec≤maxLen)
  (hS:RdSI w w.heap.size SA ss) (hE:RdEI w w.heap.size EA es) (hsn:∀ s∈ss,s.name.size≤140737488351232) (hen:∀ e∈es,e.name.size≤140737488351232∧e.num≤18446744073709551615)
  (Aa:Option Addr) (ca:Nat) (la:List TN) (ha1:la.length≤ca) (ha2:ca≤maxLen) (hA:RdTN w w.heap.size Aa la) (Ab:Option Addr) (cb:Nat) (lb:List TN) (hb1:lb.length≤cb) (hb2:cb≤maxLen) (hB:RdTN w w.heap.size Ab lb):
  Calls Tryz.prog 8 #[.agg #[.slice SA ss.length sc,.slice EA es.length ec],.slice Aa la.length ca,.slice Ab lb.length cb] w fun e w'=>e=.returned (.bool true)∧Below w.heap.size w w':=by
 obtain ⟨ns,hn1⟩:∃ ns,ns=ss.length:=⟨_,rfl⟩
 obtain ⟨ne,hn2⟩:∃ ne,ne=es.length:=⟨_,rfl⟩
 obtain ⟨na,hna⟩:∃ n,n=la.length:=⟨_,rfl⟩
 obtain ⟨nb,hnb⟩:∃ n,n=lb.length:=⟨_,rfl⟩
 have hls:=hid hn1
 have hle:=hid hn2
 have HNA:=hid hna
 have HNB:=hid hnb
 have hns':ns≤9223372036854775807:=by rw [hn1];simp only [maxLen] at hs2;omega
 have hne':ne≤9223372036854775807:=by rw [hn2];simp only [maxLen] at he2;omega
 have hna':na≤9223372036854775807:=by rw [hna];simp only [maxLen] at ha2;omega
 have hnb':nb≤9223372036854775807:=by rw [hnb];simp only [maxLen] at hb2;omega
 rw [←hn1,←hn2,←hna,←hnb]
 have HS:=hid hS
 have HE:=hid hE
 have HA:=hid hA
 have HBT:=hid hB
 have HEN:=hid (fun e he=>(hen e he).2)
 have HG:=hid hg
 have HT:=hid ht
 clear hn1 hn2 hs1 hs2 he1 he2 hS hE hsn hen hg ht hna hnb ha1 ha2 hA hb1 hb2 hB
 go_enter Tryz.func8,Tryz.ntmps8
 go_wp2_with fail
 obtain ⟨w1,hw1⟩:∃ w1,w1=w.alloc (.cells #[.slice SA ns sc,.slice EA ne ec] 26):=⟨_,rfl⟩
 rw [←hw1]
 have hb1:Below w.heap.size w w1:=by rw [hw1];exact (Below.refl _ _).alloc (Nat.le_refl _) _
 have hT1:w1.heap[w.heap.size]?=some (.cells #[.slice SA ns sc,.slice EA ne ec] 26 (0,0)):=by rw [hw1];exact heap_alloc_new w _
 obtain ⟨tb,htb⟩:∃ tb,tb=w.heap.size:=⟨_,rfl⟩
 rw [←htb] at hT1 ⊢
 refine (Zgi w1 (HG.out.next hb1) (HT.out.next hb1)).mono ?_
 rintro e w2 ⟨rfl,hb2⟩
 have hT2:=(hb2.block _ (Array.getElem?_eq_some_iff.1 hT1).1).trans hT1
 have HB2:=hid (bnext hb1 hb2)
 have HTB2:=hid hT2
 have HLE:=hid (show w.heap.size≤tb from Nat.le_of_eq htb.symm)
 obtain ⟨z0,z1,zf,zl⟩:=YaG hT2
 clear hw1 hb1 hT1 hb2 hT2 htb
 go_wp2_with fail
 refine (Yas SA EA ns ne sc ec ss es w2 hls.out hle.out hns' hne' (HS.out.next HB2.out) (HE.out.next HB2.out)).mono ?_
 rintro e w3 ⟨hb3,TA,tc,XA,xc,rfl,oT,oX⟩
 obtain ⟨ts,hts⟩:∃ ts,ts=ownSs ss:=⟨_,rfl⟩
 obtain ⟨xs,hxs⟩:∃ xs,xs=ownEs es:=⟨_,rfl⟩
 have HSP:=hid (show ∀ s∈ts,s.shape.length≤1000000 from by rw [hts];exact YaC ss)
 have HNM:=hid (show ∀ e∈xs,e.num≤18446744073709551615 from by rw [hxs];exact YaD HEN.out)
 obtain ⟨nt,hnt⟩:∃ nt,nt=ts.length:=⟨_,rfl⟩
 obtain ⟨nx,hnx⟩:∃ nx,nx=xs.length:=⟨_,rfl⟩
 have hnt1:nt≤100:=by rw [hnt,hts];exact YaA ss
 have hnx1:nx≤600:=by rw [hnx,hxs];exact YaB es
 rw [←hts] at oT
 rw [←hxs] at oX
 rw [←hts,←hxs,←hnt,←hnx]
 have HNT:=hid hnt
 have HNX:=hid hnx
 have hT3:=(hb3.block _ zl).trans HTB2.out
 have HB3:=hid (bnext HB2.out hb3)
 clear z0 z1 zf zl hts hxs hnt hnx
 obtain ⟨z0,z1,zf,zl⟩:=YaG hT3
 obtain ⟨s1,s2,s3,s4⟩:=YaF hT3 (.slice TA nt tc) (.slice XA nx xc)
 have HO4:=hid (s2 oT)
 have HX4:=hid (s3 oX)
 have HT4:=hid s1
 have HB4:=hid (s4 HB3.out HLE.out)
 clear s1 s2 s3 s4 hb3 oT oX hT3
 go_wp2_with fail
 obtain ⟨w4,hw4⟩:∃ w4,w4=(w3.setCell ⟨tb,0,none⟩ (.slice TA nt tc)).setCell ⟨tb,1,none⟩ (.slice XA nx xc):=⟨_,rfl⟩
 rw [←hw4] at HO4 HX4 HT4 HB4 ⊢
 clear hw4 z0 z1 zf zl
 refine (Ya8 Aa na ca la w4 HNA.out hna' (HA.out.next HB4.out)).mono ?_
 rintro e w5 ⟨I0,k0,rfl,o5,b5⟩
 have B5:=hid (bnext HB4.out b5)
 go_wp2_with fail
 refine (Ya8 Ab nb cb lb w5 HNB.out hnb' (HBT.out.next B5.out)).mono ?_
 rintro e w6 ⟨I1,k1,rfl,o6,b6⟩
 have B6:=hid (bnext B5.out b6)
 have B46:=hid (bnext b5 b6)
 obtain ⟨m0,hm0⟩:∃ m,m=(ownIn la).length:=⟨_,rfl⟩
 obtain ⟨m1,hm1⟩:∃ m,m=(ownIn lb).length:=⟨_,rfl⟩
 have hm0':m0≤12:=by rw [hm0];exact Yat la
 have hm1':m1≤12:=by rw [hm1];exact Yat lb
 rw [←hm0] at o5 ⊢
 rw [←hm1] at o6 ⊢
 have HM0:=hid hm0
 have HM1:=hid hm1
 have O5:=hid (o5.next b6)
 have O6:=hid o6
 clear o5 o6 b5 b6 hm0 hm1
 go_upto_region 5 with fail
 obtain ⟨qb,hqb⟩:∃ qb,qb=w6.heap.size:=⟨_,rfl⟩
 rw [←hqb]
 obtain ⟨w7,hw7⟩:∃ w7,w7=w6.alloc (.cells #[.slice I0 m0 k0,.slice I1 m1 k1] 45):=⟨_,rfl⟩
 rw [←hw7]
 obtain ⟨b7,hQ7,i0,i1⟩:=Ya9 hqb hw7 O5.out O6.out
 have B7:=hid b7
 have HB7:=hid (bnext B6.out b7)
 have B47:=hid (bnext B46.out b7)
 have HI0:=hid i0
 have HI1:=hid i1
 have HT7:=hid ((B47.out.block _ (Array.getElem?_eq_some_iff.1 HT4.out).1).trans HT4.out)
 have HTC:=hid (show ∀ W,Below w7.heap.size w7 W→W.cell? ⟨tb,0,none⟩=some (.slice TA nt tc)∧W.cell? ⟨tb,1,none⟩=some (.slice XA nx xc) from fun W hW=>by
  have h:=(hW.block _ (Array.getElem?_eq_some_iff.1 HT7.out).1).trans HT7.out
  exact ⟨cell_of_row _ _ 0 _ _ _ h,cell_of_row _ _ 1 _ _ _ h⟩)
 have HQC:=hid (show ∀ W,Below w7.heap.size w7 W→W.cell? ⟨qb,0,none⟩=some (.slice I0 m0 k0)∧W.cell? ⟨qb,1,none⟩=some (.slice I1 m1 k1) from fun W hW=>by
  have h:=(hW.block _ (Array.getElem?_eq_some_iff.1 hQ7).1).trans hQ7
  exact ⟨cell_of_row _ _ 0 _ _ _ h,cell_of_row _ _ 1 _ _ _ h⟩)
 have HS7:=hid (HO4.out.rd.next B47.out)
 have HE7:=hid (HX4.out.rd.next B47.out)
 have HGW:=hid (show ∀ W,Below w7.heap.size w7 W→ETyped W from fun W hW=>HG.out.next (bnext HB7.out hW))
 have HOA:=hid (fun W (hW:Below w7.heap.size w7 W)=>Ya8 Aa na ca la W HNA.out hna' (HA.out.next (bnext HB7.out hW)))
 have HOB:=hid (fun W (hW:Below w7.heap.size w7 W)=>Ya8 Ab nb cb lb W HNB.out hnb' (HBT.out.next (bnext HB7.out hW)))
 have HEV:=hid (Zf6 TA XA nt nx tc xc ts xs I0 I1 m0 m1 k0 k1 (ownIn la) (ownIn lb) w7 HNT.out HNX.out (by omega) (by omega) HS7.out HE7.out (HGW.out _ (Below.refl _ _)) HNM.out HSP.out HM0.out HM1.out (by omega) (by omega) HI0.out HI1.out)
 have HRV:=hid (fun (A A':Option Addr) (c c':Nat) W (hW:Below w7.heap.size w7 W) (r:RdTN W W.heap.size A (ownIn la)) (r':RdTN W W.heap.size A' (ownIn lb))=>ZjN TA XA nt nx tc xc ts xs A A' m0 m1 c c' (ownIn la) (ownIn lb) W HNT.out HNX.out (by omega) (by omega) (HS7.out.next hW) (HE7.out.next hW) HNM.out HSP.out HM0.out HM1.out (by omega) (by omega) r r')
 have HES:=hid (ZiM ts xs (ownIn la) (ownIn lb))
 have HSL:=hid (fun outs (h:evalR ts xs (ownIn la) (ownIn lb)=.inl outs)=>Zja h)
 clear i0 i1 b7 hQ7 hw7 hqb HO4 HX4 HT4 O5 O6
 obtain ⟨z0,z1⟩:=HTC.out _ (Below.refl _ _)
 obtain ⟨z2,z3⟩:=HQC.out _ (Below.refl _ _)
 cases hv:evalE ts xs (ownIn la) (ownIn lb) with
 | inl outs=>
  rw [hv] at HEV HES
  rw [HES.out] at HRV HSL
  have hol:outs.length≤1000000:=by have:=HSL.out outs rfl;have:=HNT.out;omega
  clear hv HES HSL
  go_wp2_with fail
  refine HEV.out.mono ?_
  rintro e w8 ⟨b8,A8,c8,rfl,o8⟩
  obtain ⟨no,hno⟩:∃ no,no=outs.length:=⟨_,rfl⟩
  rw [←hno] at o8 ⊢
  have B8:=hid b8
  have O8:=hid o8
  have HNO:=hid hno
  clear b8 o8 z0 z1 z2 z3 HEV hno
  go_upto_region 6 with fail
  refine wp_region_held_drew (S:=(fun w'=>w'.cell? ⟨tb,0,none⟩=some (.slice TA nt tc)∧w'.cell? ⟨tb,1,none⟩=some (.slice XA nx xc))) (by kernel_rfl) (HTC.out _ B8.out.drew) (fun hHeld => ?_)
  obtain ⟨wa,hwa⟩:∃ wa,wa=w8.drew:=⟨_,rfl⟩
  rw [←hwa] at hHeld ⊢
  have BA:=hid (show Below w7.heap.size w7 wa from by rw [hwa];exact B8.out.drew)
  have O8:=hid (show OutT wa w7.heap.size A8 no c8 outs from by rw [hwa];exact O8.out.next (Below.refl _ _).drew)
  clear hwa
  refine tk 0 ?_
  simp only [tkS]
  refine tk 1 ?_
  simp only [tkS]
  refine tk 3 ?_
  simp only [tkS]
  refine wpAnyH_ready (rs:=[2]) (by kernel_rfl) (by simp) ?_
  refine AllReadyH.cons (o:=_) rfl (fun K hK => ?_) AllReadyH.nil
  go_simp
  go_at_call 30
  refine (HOA.out wa BA.out).mono ?_
  rintro e w9 ⟨A9,c9,rfl,o9,b9⟩
  rw [←HM0.out] at o9 ⊢
  have B9:=hid (bnext BA.out b9)
  have O8:=hid (O8.out.next b9)
  have R9:=hid o9.rd
  clear o9 b9
  refine hK.out _ _ (HTC.out _ B9.out) (fun hHeld => ?_)
  clear hK K
  try simp only [tkS]
  refine wpAnyH_ready (rs:=[4]) (by kernel_rfl) (by simp) ?_
  refine AllReadyH.cons (o:=_) rfl (fun K hK => ?_) AllReadyH.nil
  go_simp
  go_at_call 30
  refine (HOB.out w9 B9.out).mono ?_
  rintro e w10 ⟨A10,c10,rfl,o10,b10⟩
  rw [←HM1.out] at o10 ⊢
  have B10:=hid (bnext B9.out b10)
  have O8:=hid (O8.out.next b10)
  have R9:=hid (R9.out.next b10)
  have R10:=hid o10.rd
  clear o10 b10
  refine hK.out _ _ (HTC.out _ B10.out) (fun hHeld => ?_)
  clear hK K
  try simp only [tkS]
  refine tk 5 ?_
  simp only [tkS]
  refine wpAnyH_ready (rs:=[6]) (by kernel_rfl) (by simp) ?_
  refine AllReadyH.cons (o:=_) rfl (fun K hK => ?_) AllReadyH.nil
  go_simp
  go_at_call 31
  refine (HRV.out A9 A10 c9 c10 w10 B10.out R9.out R10.out).mono ?_
  rintro e w11 ⟨b11,A11,n11,c11,rfl,hn11,r11⟩
  obtain rfl:n11=no:=by rw [HNO.out];exact hn11
  have B11:=hid (bnext B10.out b11)
  have O8:=hid (O8.out.next b11)
  have R11:=hid r11
  clear hn11 r11 b11
  refine hK.out _ _ (HTC.out _ B11.out) (fun hHeld => ?_)
  clear hK K
  try simp only [tkS]
  refine tk 7 ?_
  simp only [tkS]
  refine tk 8 ?_
  simp only [tkS]
  refine tk 9 ?_
  simp only [tkS]
  refine tk 10 ?_
  simp only [tkS]
  refine tk 11 ?_
  simp only [tkS]
  refine wpAnyH_done (by kernel_rfl) ?_ _
  go_upto_region 7 with fail
  refine wp_region_held_drew (S:=(fun w'=>w'.cell? ⟨qb,0,none⟩=some (.slice I0 m0 k0)∧w'.cell? ⟨qb,1,none⟩=some (.slice I1 m1 k1))) (by kernel_rfl) (HQC.out _ B11.out.drew) (fun hHeld => ?_)
  obtain ⟨wb,hwb⟩:∃ wb,wb=w11.drew:=⟨_,rfl⟩
  rw [←hwb] at hHeld ⊢
  have BB:=hid (show Below w7.heap.size w7 wb from by rw [hwb];exact B11.out.drew)
  have O8:=hid (show OutT wb w7.heap.size A8 n11 c8 outs from by rw [hwb];exact O8.out.next (Below.refl _ _).drew)
  have R11:=hid (show RdTN wb wb.heap.size A11 outs from by rw [hwb];exact R11.out.next (Below.refl _ _).drew)
  clear hwb R9 R10
  refine tk 0 ?_
  simp only [tkS]
  refine tk 2 ?_
  simp only [tkS]
  refine wpAnyH_ready (rs:=[1]) (by kernel_rfl) (by simp) ?_
  refine AllReadyH.cons (o:=_) rfl (fun K hK => ?_) AllReadyH.nil
  go_simp
  go_at_call 20
  refine (ZjS wb).mono ?_
  rintro e w12 ⟨rfl,rfl⟩
  refine hK.out _ _ (HQC.out _ BB.out) (fun hHeld => ?_)
  clear hK K
  try simp only [tkS]
  refine tk 3 ?_
  simp only [tkS]
  refine tk 4 ?_
  simp only [tkS]
  refine tk 5 ?_
  simp only [tkS]
  refine tk 6 ?_
  simp only [tkS]
  refine tk 7 ?_
  simp only [tkS]
  refine tk 8 ?_
  simp only [tkS]
  refine tk 9 ?_
  simp only [tkS]
  refine tk 10 ?_
  simp only [tkS]
  refine tk 11 ?_
  simp only [tkS]
  refine tk 12 ?_
  simp only [tkS]
  refine tk 13 ?_
  simp only [tkS]
  refine wpAnyH_ready (rs:=[14]) (by kernel_rfl) (by simp) ?_
  refine AllReadyH.cons (o:=_) rfl (fun K hK => ?_) AllReadyH.nil
  go_simp
  go_at_call 26
  refine (ZlG A8 A11 n11 c8 c11 outs wb HNO.out (by rw [HNO.out];exact hol) O8.out.rd R11.out).mono ?_
  rintro e w13 ⟨rfl,b13⟩
  have B13:=hid (bnext BB.out b13)
  clear b13
  refine hK.out _ _ (HQC.out _ B13.out) (fun hHeld => ?_)
  clear hK K
  try simp only [tkS]
  refine tk 15 ?_
  simp only [tkS]
  refine tk 16 ?_
  simp only [tkS]
  refine tk 17 ?_
  simp only [tkS]
  refine tk 18 ?_
  simp only [tkS]
  refine tk 19 ?_
  simp only [tkS]
  refine wpAnyH_ready (rs:=[20]) (by kernel_rfl) (by simp) ?_
  refine AllReadyH.cons (o:=_) rfl (fun K hK => ?_) AllReadyH.nil
  go_simp
  go_at_call 30
  refine (HOA.out w13 B13.out).mono ?_
  rintro e w14 ⟨A14,c14,rfl,o14,b14⟩
  rw [←HM0.out] at o14 ⊢
  have B14:=hid (bnext B13.out b14)
  have R14:=hid o14.rd
  clear o14 b14
  refine hK.out _ _ (HQC.out _ B14.out) (fun hHeld => ?_)
  clear hK K
  try simp only [tkS]
  refine wpAnyH_ready (rs:=[21]) (by kernel_rfl) (by simp) ?_
  refine AllReadyH.cons (o:=_) rfl (fun K hK => ?_) AllReadyH.nil
  go_simp
  go_at_call 26
  refine (ZlG I0 A14 m0 k0 c14 _ w14 HM0.out (by omega) (HI0.out.next B14.out) R14.out).mono ?_
  rintro e w15 ⟨rfl,b15⟩
  have B15:=hid (bnext B14.out b15)
  clear b15 R14
  refine hK.out _ _ (HQC.out _ B15.out) (fun hHeld => ?_)
  clear hK K
  try simp only [tkS]
  refine tk 22 ?_
  simp only [tkS]
  refine tk 23 ?_
  simp only [tkS]
  refine tk 24 ?_
  simp only [tkS]
  refine tk 25 ?_
  simp only [tkS]
  refine tk 26 ?_
  simp only [tkS]
  refine wpAnyH_ready (rs:=[27]) (by kernel_rfl) (by simp) ?_
  refine AllReadyH.cons (o:=_) rfl (fun K hK => ?_) AllReadyH.nil
  go_simp
  go_at_call 30
  refine (HOB.out w15 B15.out).mono ?_
  rintro e w16 ⟨A16,c16,rfl,o16,b16⟩
  rw [←HM1.out] at o16 ⊢
  have B16:=hid (bnext B15.out b16)
  have R16:=hid o16.rd
  clear o16 b16
  refine hK.out _ _ (HQC.out _ B16.out) (fun hHeld => ?_)
  clear hK K
  try simp only [tkS]
  refine wpAnyH_ready (rs:=[28]) (by kernel_rfl) (by simp) ?_
  refine AllReadyH.cons (o:=_) rfl (fun K hK => ?_) AllReadyH.nil
  go_simp
  go_at_call 26
  refine (ZlG I1 A16 m1 k1 c16 _ w16 HM1.out (by omega) (HI1.out.next B16.out) R16.out).mono ?_
  rintro e w17 ⟨rfl,b17⟩
  have B17:=hid (bnext B16.out b17)
  clear b17 R16
  refine hK.out _ _ (HQC.out _ B17.out) (fun hHeld => ?_)
  clear hK K
  try simp only [tkS]
  refine tk 29 ?_
  simp only [tkS]
  refine tk 30 ?_
  simp only [tkS]
  refine wpAnyH_done (by kernel_rfl) ?_ _
  go_wp2_with fail
  go_ret
  exact ⟨rfl,bnext HB7.out B17.out⟩
 | inr r=>
  obtain ⟨cc,cp,cb2⟩:=r
  have hcc:=YaE hv
  rw [hv] at HEV HES
  rw [HES.out] at HRV
  have q1:((cc:Int)==(cc:Int))=true:=by simp
  have q2:((cc:Int)==0)=false:=by simp;omega
  clear hv HES HSL
  go_wp2_with fail
  refine HEV.out.mono ?_
  rintro e w8 ⟨b8,v,rfl,hv⟩
  have B8:=hid b8
  obtain ⟨ti,xi,rfl⟩:=hv.iface
  have HV8:=hid hv
  clear b8 hv z0 z1 z2 z3 HEV
  go_upto_region 6 with fail
  refine wp_region_held_drew (S:=(fun w'=>w'.cell? ⟨tb,0,none⟩=some (.slice TA nt tc)∧w'.cell? ⟨tb,1,none⟩=some (.slice XA nx xc))) (by kernel_rfl) (HTC.out _ B8.out.drew) (fun hHeld => ?_)
  obtain ⟨wa,hwa⟩:∃ wa,wa=w8.drew:=⟨_,rfl⟩
  rw [←hwa] at hHeld ⊢
  have BA:=hid (show Below w7.heap.size w7 wa from by rw [hwa];exact B8.out.drew)
  have HV8:=hid (show IsErr wa (.iface ti xi) _ cc from by rw [hwa];exact HV8.out.next (Below.refl _ _).drew)
  clear hwa
  refine tk 0 ?_
  simp only [tkS]
  refine tk 1 ?_
  simp only [tkS]
  refine tk 3 ?_
  simp only [tkS]
  refine wpAnyH_ready (rs:=[2]) (by kernel_rfl) (by simp) ?_
  refine AllReadyH.cons (o:=_) rfl (fun K hK => ?_) AllReadyH.nil
  go_simp
  go_at_call 30
  refine (HOA.out wa BA.out).mono ?_
  rintro e w9 ⟨A9,c9,rfl,o9,b9⟩
  rw [←HM0.out] at o9 ⊢
  have B9:=hid (bnext BA.out b9)
  have HV8:=hid (HV8.out.next b9)
  have R9:=hid o9.rd
  clear o9 b9
  refine hK.out _ _ (HTC.out _ B9.out) (fun hHeld => ?_)
  clear hK K
  try simp only [tkS]
  refine wpAnyH_ready (rs:=[4]) (by kernel_rfl) (by simp) ?_
  refine AllReadyH.cons (o:=_) rfl (fun K hK => ?_) AllReadyH.nil
  go_simp
  go_at_call 30
  refine (HOB.out w9 B9.out).mono ?_
  rintro e w10 ⟨A10,c10,rfl,o10,b10⟩
  rw [←HM1.out] at o10 ⊢
  have B10:=hid (bnext B9.out b10)
  have HV8:=hid (HV8.out.next b10)
  have R9:=hid (R9.out.next b10)
  have R10:=hid o10.rd
  clear o10 b10
  refine hK.out _ _ (HTC.out _ B10.out) (fun hHeld => ?_)
  clear hK K
  try simp only [tkS]
  refine tk 5 ?_
  simp only [tkS]
  refine wpAnyH_ready (rs:=[6]) (by kernel_rfl) (by simp) ?_
  refine AllReadyH.cons (o:=_) rfl (fun K hK => ?_) AllReadyH.nil
  go_simp
  go_at_call 31
  refine (HRV.out A9 A10 c9 c10 w10 B10.out R9.out R10.out).mono ?_
  rintro e w11 ⟨b11,rfl⟩
  have B11:=hid (bnext B10.out b11)
  have HV8:=hid (HV8.out.next b11)
  clear b11
  refine hK.out _ _ (HTC.out _ B11.out) (fun hHeld => ?_)
  clear hK K
  try simp only [tkS]
  refine tk 7 ?_
  simp only [tkS]
  refine tk 8 ?_
  simp only [tkS]
  refine tk 9 ?_
  simp only [tkS]
  refine tk 10 ?_
  simp only [tkS]
  refine tk 11 ?_
  simp only [tkS]
  refine wpAnyH_done (by kernel_rfl) ?_ _
  go_upto_region 7 with fail
  refine wp_region_held_drew (S:=(fun w'=>w'.cell? ⟨qb,0,none⟩=some (.slice I0 m0 k0)∧w'.cell? ⟨qb,1,none⟩=some (.slice I1 m1 k1))) (by kernel_rfl) (HQC.out _ B11.out.drew) (fun hHeld => ?_)
  obtain ⟨wb,hwb⟩:∃ wb,wb=w11.drew:=⟨_,rfl⟩
  rw [←hwb] at hHeld ⊢
  have BB:=hid (show Below w7.heap.size w7 wb from by rw [hwb];exact B11.out.drew)
  have HV8:=hid (show IsErr wb (.iface ti xi) _ cc from by rw [hwb];exact HV8.out.next (Below.refl _ _).drew)
  clear hwb R9 R10
  refine tk 0 ?_
  simp only [tkS]
  refine tk 2 ?_
  simp only [tkS]
  refine wpAnyH_ready (rs:=[1]) (by kernel_rfl) (by simp) ?_
  refine AllReadyH.cons (o:=_) rfl (fun K hK => ?_) AllReadyH.nil
  go_simp
  go_at_call 20
  refine (ZjW _ _ _ wb (HGW.out _ BB.out) HV8.out).mono ?_
  rintro e w12 ⟨rfl,b12⟩
  have B12:=hid (bnext BB.out b12)
  clear b12
  refine hK.out _ _ (HQC.out _ B12.out) (fun hHeld => ?_)
  clear hK K
  try simp only [tkS]
  refine tk 3 ?_
  simp only [tkS]
  refine tk 4 ?_
  simp only [tkS]
  refine tk 5 ?_
  simp only [tkS]
  refine tk 6 ?_
  simp only [tkS]
  refine tk 7 ?_
  simp only [tkS]
  refine tk 8 ?_
  simp only [tkS]
  refine tk 9 ?_
  simp only [tkS]
  refine tk 10 ?_
  simp only [tkS]
  refine tk 11 ?_
  simp only [tkS]
  refine tk 12 ?_
  simp only [tkS]
  refine tk 13 ?_
  simp only [tkS]
  refine wpAnyH_ready (rs:=[14]) (by kernel_rfl) (by simp) ?_
  refine AllReadyH.cons (o:=_) rfl (fun K hK => ?_) AllReadyH.nil
  go_simp
  go_at_call 26
  refine (ZlG none none 0 0 0 [] w12 rfl (by omega) (.inl rfl) (.inl rfl)).mono ?_
  rintro e w13 ⟨rfl,b13⟩
  have B13:=hid (bnext B12.out b13)
  clear b13
  refine hK.out _ _ (HQC.out _ B13.out) (fun hHeld => ?_)
  clear hK K
  try simp only [tkS]
  refine tk 15 ?_
  simp only [tkS]
  refine tk 16 ?_
  simp only [tkS]
  refine tk 17 ?_
  simp only [tkS]
  refine tk 18 ?_
  simp only [tkS]
  refine tk 19 ?_
  simp only [tkS]
  refine wpAnyH_ready (rs:=[20]) (by kernel_rfl) (by simp) ?_
  refine AllReadyH.cons (o:=_) rfl (fun K hK => ?_) AllReadyH.nil
  go_simp
  go_at_call 30
  refine (HOA.out w13 B13.out).mono ?_
  rintro e w14 ⟨A14,c14,rfl,o14,b14⟩
  rw [←HM0.out] at o14 ⊢
  have B14:=hid (bnext B13.out b14)
  have R14:=hid o14.rd
  clear o14 b14
  refine hK.out _ _ (HQC.out _ B14.out) (fun hHeld => ?_)
  clear hK K
  try simp only [tkS]
  refine wpAnyH_ready (rs:=[21]) (by kernel_rfl) (by simp) ?_
  refine AllReadyH.cons (o:=_) rfl (fun K hK => ?_) AllReadyH.nil
  go_simp
  go_at_call 26
  refine (ZlG I0 A14 m0 k0 c14 _ w14 HM0.out (by omega) (HI0.out.next B14.out) R14.out).mono ?_
  rintro e w15 ⟨rfl,b15⟩
  have B15:=hid (bnext B14.out b15)
  clear b15 R14
  refine hK.out _ _ (HQC.out _ B15.out) (fun hHeld => ?_)
  clear hK K
  try simp only [tkS]
  refine tk 22 ?_
  simp only [tkS]
  refine tk 23 ?_
  simp only [tkS]
  refine tk 24 ?_
  simp only [tkS]
  refine tk 25 ?_
  simp only [tkS]
  refine tk 26 ?_
  simp only [tkS]
  refine wpAnyH_ready (rs:=[27]) (by kernel_rfl) (by simp) ?_
  refine AllReadyH.cons (o:=_) rfl (fun K hK => ?_) AllReadyH.nil
  go_simp
  go_at_call 30
  refine (HOB.out w15 B15.out).mono ?_
  rintro e w16 ⟨A16,c16,rfl,o16,b16⟩
  rw [←HM1.out] at o16 ⊢
  have B16:=hid (bnext B15.out b16)
  have R16:=hid o16.rd
  clear o16 b16
  refine hK.out _ _ (HQC.out _ B16.out) (fun hHeld => ?_)
  clear hK K
  try simp only [tkS]
  refine wpAnyH_ready (rs:=[28]) (by kernel_rfl) (by simp) ?_
  refine AllReadyH.cons (o:=_) rfl (fun K hK => ?_) AllReadyH.nil
  go_simp
  go_at_call 26
  refine (ZlG I1 A16 m1 k1 c16 _ w16 HM1.out (by omega) (HI1.out.next B16.out) R16.out).mono ?_
  rintro e w17 ⟨rfl,b17⟩
  have B17:=hid (bnext B16.out b17)
  clear b17 R16
  refine hK.out _ _ (HQC.out _ B17.out) (fun hHeld => ?_)
  clear hK K
  try simp only [tkS]
  refine tk 29 ?_
  simp only [tkS]
  refine tk 30 ?_
  simp only [tkS]
  refine wpAnyH_done (by kernel_rfl) ?_ _
  go_wp2_with fail
  go_ret
  exact ⟨rfl,bnext HB7.out B17.out⟩
end Go.Proofs.YtghlnncfigkkaaaGreatDoor
