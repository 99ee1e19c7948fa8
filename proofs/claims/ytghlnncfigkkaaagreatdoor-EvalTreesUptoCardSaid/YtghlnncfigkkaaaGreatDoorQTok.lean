/-
  Tokens in memory: rows of the call's own, and append of one token.
-/
import Derived.Test.YtghlnncfigkkaaaGreatDoorQNum
import Derived.Test.YtghlnncfigkkaaaGreatDoorQApp
import Derived.Test.YtghlnncfigkkaaaGreatDoorRows
import Derived.Deep.OwnRows
namespace Go.Proofs.YtghlnncfigkkaaaGreatDoor
set_option linter.unusedVariables false
set_option linter.unusedSimpArgs false
open Go.RowKit
structure Tok where
 kind:Nat
 text:ByteArray
 num:Nat
 pos:Nat
def Zbg (t:Tok):List Value:=[.int .i64 t.kind,.string t.text,.int .u64 t.num,.int .i64 t.pos]
def ZbB (l:List Tok):List Value:=l.flatMap Zbg
theorem Zeh (l:List Tok) (t:Tok):ZbB (l++[t])=ZbB l++Zbg t:=by unfold ZbB;simp
theorem Zb3:∀ (l:List Tok) (i j:Nat) (t:Tok),l[i]?=some t→j<4→(ZbB l)[i*4+j]?=(Zbg t)[j]?
 | [],i,j,t,h,_=>by simp at h
 | x::l,0,j,t,h,hj=>by
  simp at h
  subst h
  unfold ZbB
  rw [List.flatMap_cons,List.getElem?_append_left (by simp [Zbg];omega)]
  simp
 | x::l,i+1,j,t,h,hj=>by
  have hh:l[i]?=some t:=by simpa using h
  have ih:=Zb3 l i j t hh hj
  unfold ZbB at ih ⊢
  rw [List.flatMap_cons,List.getElem?_append_right (by simp [Zbg];omega)]
  have e:(i+1)*4+j-(Zbg x).length=i*4+j:=by simp [Zbg];omega
  rw [e,ih]
def RdT (w:World) (B:Nat) (A:Option Addr) (l:List Tok):Prop:=
 l=[]∨∃ b o,A=some ⟨b,o,none⟩∧b<B∧∀ (i j:Nat) (v:Value),(ZbB l)[i*4+j]?=some v→j<4→w.cell? ⟨b,o+(i*4+j),none⟩=some v
def OwnT (w:World) (base:Nat) (A:Option Addr) (cap:Nat) (l:List Tok):Prop:=w.ownsRow base 155 4 (.slice A l.length cap) l.length (ZbB l)
section
variable {w w':World} {base B:Nat} {A:Option Addr} {cap:Nat} {l:List Tok}
theorem OwnT.nil (w:World) (base:Nat):OwnT w base none 0 []:=World.ownsRow_nil w base _ 4
theorem OwnT.form (h:OwnT w base A cap l):(A=none∧l=[])∨∃ g cur,A=some ⟨g,0,none⟩∧base≤g∧w.heap[g]?=some (.cells cur 155 (0,0))∧l.length≤cap∧cap≤maxLen∧cur.size=cap*4∧cur.toList.take (l.length*4)=ZbB l:=by
 rcases h.2 with ⟨hv,hn⟩ | ⟨g,cap',cur,hv,hb,hg,h1,h2,h3,h4⟩
 ·injection hv with a b c
  exact .inl ⟨a,List.eq_nil_of_length_eq_zero hn⟩
 ·injection hv with a b c
  subst c
  exact .inr ⟨g,cur,a,hb,hg,h1,h2,h3,h4⟩
theorem OwnT.lt (h:OwnT w base A cap l):∀ k,blk A=some k→base≤k∧k<w.heap.size:=by
 intro k hk
 rcases h.form with ⟨rfl,_⟩ | ⟨g,cur,rfl,hb,hg,_⟩
 ·simp [blk] at hk
 ·simp [blk] at hk
  subst hk
  exact ⟨hb,(Array.getElem?_eq_some_iff.1 hg).1⟩
theorem OwnT.below (h:OwnT w base A cap l) (hb:Below B w w') (hB:∀ k,blk A=some k→k<B):OwnT w' base A cap l:=by
 refine ⟨h.1,?_⟩
 rcases h.2 with hv | ⟨g,cap',cur,hv,hb1,hg,r⟩
 ·exact .inl hv
 ·refine .inr ⟨g,cap',cur,hv,hb1,?_,r⟩
  have:blk A=some g:=by injection hv with a;rw [a];rfl
  rw [hb.block g (hB g this)]
  exact hg
theorem OwnT.next (h:OwnT w base A cap l) (hb:Below w.heap.size w w'):OwnT w' base A cap l:=h.below hb fun k hk=>(h.lt k hk).2
theorem OwnT.rd (h:OwnT w base A cap l):RdT w w.heap.size A l:=by
 rcases h.form with ⟨rfl,rfl⟩ | ⟨g,cur,rfl,hb,hg,h1,h2,h3,h4⟩
 ·exact .inl rfl
 ·refine .inr ⟨g,0,rfl,(Array.getElem?_eq_some_iff.1 hg).1,fun i j v hv hj => ?_⟩
  rw [Nat.zero_add,cell_of_row w g _ cur _ (0,0) hg]
  rw [←h4,List.getElem?_take] at hv
  split at hv
  ·simpa using hv
  ·cases hv
theorem RdT.keep (h:RdT w B A l) (hk:∀ p:Addr,p.block<B→w'.cell? p=w.cell? p):RdT w' B A l:=by
 rcases h with h | ⟨b,o,hA,hb,hc⟩
 ·exact .inl h
 ·exact .inr ⟨b,o,hA,hb,fun i j v hv hj=>(hk ⟨b,_,none⟩ hb).trans (hc i j v hv hj)⟩
theorem RdT.below (h:RdT w B A l) (hb:Below B w w'):RdT w' B A l:=h.keep fun _ hp=>hb.cell hp
theorem RdT.more {B':Nat} (h:RdT w B A l) (hB:B≤B'):RdT w B' A l:=by
 rcases h with h | ⟨b,o,hA,hb,hc⟩
 ·exact .inl h
 ·exact .inr ⟨b,o,hA,Nat.lt_of_lt_of_le hb hB,hc⟩
theorem RdT.tok (h:RdT w B A l) {i:Nat} {t:Tok} (hi:l[i]?=some t):∃ b o,A=some ⟨b,o,none⟩∧b<B ∧
  w.cell? ⟨b,o+i*4,none⟩=some (.int .i64 t.kind)∧w.cell? ⟨b,o+i*4+1,none⟩=some (.string t.text)∧w.cell? ⟨b,o+i*4+2,none⟩=some (.int .u64 t.num)∧w.cell? ⟨b,o+i*4+3,none⟩=some (.int .i64 t.pos):=by
 rcases h with rfl | ⟨b,o,hA,hb,hc⟩
 ·simp at hi
 ·refine ⟨b,o,hA,hb,?_,?_,?_,?_⟩
  ·have:=hc i 0 (.int .i64 t.kind) (by rw [Zb3 l i 0 t hi (by omega)];rfl) (by omega)
   exact this
  ·have:=hc i 1 (.string t.text) (by rw [Zb3 l i 1 t hi (by omega)];rfl) (by omega)
   rw [←Nat.add_assoc] at this;exact this
  ·have:=hc i 2 (.int .u64 t.num) (by rw [Zb3 l i 2 t hi (by omega)];rfl) (by omega)
   rw [←Nat.add_assoc] at this;exact this
  ·have:=hc i 3 (.int .i64 t.pos) (by rw [Zb3 l i 3 t hi (by omega)];rfl) (by omega)
   rw [←Nat.add_assoc] at this;exact this
end
theorem ZlC:(Tryz.prog.info? 155).map (fun i=>(i.zero,i.size,i.bytes))=some (some (.agg #[.int .i64 0,.string ⟨#[]⟩,.int .u64 0,.int .i64 0]),4,40):=by kernel_rfl
theorem ZlD (t:Tok):∀ u∈Zbg t,u.oneCell'=true:=by
 intro u hu
 unfold Zbg at hu
 simp at hu
 rcases hu with rfl | rfl | rfl | rfl <;> rfl
theorem ZlO {w:World} {ops:Array Oper} {rest:List Oper} {o:Oper} {a:Act} {Q:Exit→Act→World→Prop} (hgd:o.guard=none) (s x:Operand)
  (ho:o.op=.call { callee:=.builtin .append,args:=#[s,x],argTypes:=#[94,94] }) (base:Nat)
  (A:Option Addr) (cap:Nat) (l:List Tok) (n:Nat) (hn:l.length=n) (hs:a.eval s=.slice A n cap) (hown:OwnT w base A cap l)
  (g2:Nat) (hx:a.eval x=.slice (some ⟨g2,0,none⟩) 1 1) (t:Tok) (hb:w.heap[g2]?=some (.cells (Zbg t).toArray 155 (0,0)))
  (hbytes:n+1≤3518437208882) (hbase:base≤w.heap.size)
  (h:∀ A' cap' w',OwnT w' base A' cap' (l++[t])→w.grownBy w' (blk A)→wpList Tryz.prog ops Q rest (a.put o.dst (.slice A' (n+1) cap')) w'):
  wpList Tryz.prog ops Q (o::rest) a w:=by
 subst hn
 obtain ⟨i0,hi0,hz0,hz1,hz2⟩:=info_parts ZlC
 refine wpList_append_own w hgd s x 94 ho base 155 i0 _ 4 40 Tryz.underlying94 hi0 hz0 hz1 hz2 rfl (by decide) _ l.length (ZbB l) hs hown ⟨g2,0,none⟩ 1 1 (Zbg t) hx rfl ?_ (ZlD t) (by simp only [maxLen];omega) (by omega) hbase ?_
 ·intro j u hu
  have e':(⟨g2,0,none⟩:Addr).add j=⟨g2,j,none⟩:=by unfold Addr.add;split <;> simp_all
  rw [e',cell_of_row w g2 j _ _ (0,0) hb]
  simpa using hu
 ·intro v' w' h1 h2 _
  rcases h1.2 with ⟨_,h0⟩ | ⟨g,cap',cur,rfl,r⟩
  ·omega
  ·refine h (some ⟨g,0,none⟩) cap' w' ?_ (by rw [Za4] at h2;exact h2)
   unfold OwnT
   rw [Zeh,List.length_append]
   exact h1
end Go.Proofs.YtghlnncfigkkaaaGreatDoor
