/-
 The parser as plain functions over a list of tokens.
-/
import Derived.Test.YtghlnncfigkkaaaGreatDoorQNum
import Derived.Test.YtghlnncfigkkaaaGreatDoorQAppN
import Derived.Test.YtghlnncfigkkaaaGreatDoorRows
import Derived.Deep.OwnRows
set_option linter.unusedVariables false
set_option linter.unusedSimpArgs false
namespace Go.Proofs.YtghlnncfigkkaaaGreatDoor
open Go.RowKit
structure Tok where
 kind:Nat
 text:ByteArray
 num:Nat
 pos:Nat
def Zbg (t:Tok):List Value:=[.int .i64 t.kind,.string t.text,.int .u64 t.num,.int .i64 t.pos]
def ZbB (l:List Tok):List Value:=l.flatMap Zbg
theorem Zeh (l:List Tok) (t:Tok):ZbB (l++[t])=ZbB l++Zbg t:=by unfold ZbB;simp
theorem Zb3:∀ (l:List Tok) (i j:Nat) (t:Tok),l[i]?=some t→j<4→(ZbB l)[i*4+j]?=(Zbg t)[j]?
 | [],i,j,t,h,_=>by simp at h
 | x::l,0,j,t,h,hj=>by
  simp at h;subst h;unfold ZbB;rw [List.flatMap_cons,List.getElem?_append_left (by simp [Zbg];omega)]
  simp
 | x::l,i+1,j,t,h,hj=>by
  have b:l[i]?=some t:=by simpa using h
  have a:=Zb3 l i j t b hj;unfold ZbB at a ⊢;rw [List.flatMap_cons,List.getElem?_append_right (by simp [Zbg];omega)]
  have e:(i+1)*4+j-(Zbg x).length=i*4+j:=by simp [Zbg];omega
  rw [e,a]
def RdT (w:World) (B:Nat) (A:Option Addr) (l:List Tok):Prop:=
 l=[]∨∃ b o,A=some ⟨b,o,none⟩∧b<B∧∀ (i j:Nat) (v:Value),(ZbB l)[i*4+j]?=some v→j<4→w.cell? ⟨b,o+(i*4+j),none⟩=some v
def OwnT (w:World) (base:Nat) (A:Option Addr) (cap:Nat) (l:List Tok):Prop:=w.ownsRow base 155 4 (.slice A l.length cap) l.length (ZbB l)
section
variable {w w':World} {base B:Nat} {A:Option Addr} {cap:Nat} {l:List Tok}
theorem OwnT.nil (w:World) (base:Nat):OwnT w base none 0 []:=World.ownsRow_nil w base _ 4
theorem OwnT.form (h:OwnT w base A cap l):(A=none∧l=[])∨∃ g cur,A=some ⟨g,0,none⟩∧base≤g∧w.heap[g]?=some (.cells cur 155 (0,0))∧l.length≤cap∧cap≤maxLen∧cur.size=cap*4∧cur.toList.take (l.length*4)=ZbB l:=by
 rcases h.2 with ⟨d,e⟩ | ⟨g,p,cur,d,f,i,j,k,m,n⟩
 ·injection d with a b c
  exact .inl ⟨a,List.eq_nil_of_length_eq_zero e⟩
 ·injection d with a b c
  subst c;exact .inr ⟨g,cur,a,f,i,j,k,m,n⟩
theorem OwnT.lt (h:OwnT w base A cap l):∀ k,blk A=some k→base≤k∧k<w.heap.size:=by
 intro k a
 rcases h.form with ⟨rfl,_⟩ | ⟨g,cur,rfl,b,c,_⟩
 ·simp [blk] at a
 ·simp [blk] at a;subst a;exact ⟨b,(Kab.1 c).1⟩
theorem OwnT.below (h:OwnT w base A cap l) (c:Below B w w') (d:∀ k,blk A=some k→k<B):OwnT w' base A cap l:=by
 refine ⟨h.1,?_⟩;rcases h.2 with b | ⟨g,e,cur,b,f,i,r⟩
 ·exact .inl b
 ·refine .inr ⟨g,e,cur,b,f,?_,r⟩;have:blk A=some g:=by injection b with a;rw [a];rfl
  rw [c.block g (d g this)];exact i
theorem OwnT.next (h:OwnT w base A cap l) (a:Below w.heap.size w w'):OwnT w' base A cap l:=h.below a fun k b=>(h.lt k b).2
theorem OwnT.rd (h:OwnT w base A cap l):RdT w w.heap.size A l:=by
 rcases h.form with ⟨rfl,rfl⟩ | ⟨g,cur,rfl,d,b,e,f,k,c⟩
 ·exact .inl rfl
 ·refine .inr ⟨g,0,rfl,(Kab.1 b).1,fun i j v a m => ?_⟩
  rw [Nat.zero_add,cell_of_row w g _ cur _ (0,0) b];rw [←c,List.getElem?_take] at a;split at a
  ·simpa using a
  ·cases a
theorem RdT.keep (h:RdT w B A l) (c:∀ p:Addr,p.block<B→w'.cell? p=w.cell? p):RdT w' B A l:=by
 rcases h with h | ⟨b,o,d,a,e⟩
 ·exact .inl h
 ·exact .inr ⟨b,o,d,a,fun i j v f g=>(c ⟨b,_,none⟩ a).trans (e i j v f g)⟩
theorem RdT.below (h:RdT w B A l) (a:Below B w w'):RdT w' B A l:=h.keep fun _ b=>a.cell b
theorem RdT.more {a:Nat} (h:RdT w B A l) (c:B≤a):RdT w a A l:=by
 rcases h with h | ⟨b,o,d,e,f⟩
 ·exact .inl h
 ·exact .inr ⟨b,o,d,Kae e c,f⟩
theorem RdT.tok (h:RdT w B A l) {i:Nat} {t:Tok} (a:l[i]?=some t):∃ b o,A=some ⟨b,o,none⟩∧b<B ∧
  w.cell? ⟨b,o+i*4,none⟩=some (.int .i64 t.kind)∧w.cell? ⟨b,o+i*4+1,none⟩=some (.string t.text)∧w.cell? ⟨b,o+i*4+2,none⟩=some (.int .u64 t.num)∧w.cell? ⟨b,o+i*4+3,none⟩=some (.int .i64 t.pos):=by
 rcases h with rfl | ⟨b,o,d,e,c⟩
 ·simp at a
 ·refine ⟨b,o,d,e,?_,?_,?_,?_⟩
  ·have:=c i 0 (.int .i64 t.kind) (by rw [Zb3 l i 0 t a (by omega)];rfl) (by omega)
   exact this
  ·have:=c i 1 (.string t.text) (by rw [Zb3 l i 1 t a (by omega)];rfl) (by omega)
   rw [←Nat.add_assoc] at this;exact this
  ·have:=c i 2 (.int .u64 t.num) (by rw [Zb3 l i 2 t a (by omega)];rfl) (by omega)
   rw [←Nat.add_assoc] at this;exact this
  ·have:=c i 3 (.int .i64 t.pos) (by rw [Zb3 l i 3 t a (by omega)];rfl) (by omega)
   rw [←Nat.add_assoc] at this;exact this
end
theorem ZlC:(Tryz.prog.info? 155).map (fun i=>(i.zero,i.size,i.bytes))=some (some (.agg #[.int .i64 0,.string ⟨#[]⟩,.int .u64 0,.int .i64 0]),4,40):=by kernel_rfl
theorem ZlD (t:Tok):∀ b∈Zbg t,b.oneCell'=true:=by
 intro b a
 unfold Zbg at a;simp at a;rcases a with rfl | rfl | rfl | rfl <;> rfl
theorem ZlO {w:World} {d:Array Oper} {rest:List Oper} {o:Oper} {a:Act} {Q:Exit→Act→World→Prop} (i:o.guard=none) (s x:Operand)
  (k:o.op=.call { callee:=.builtin .append,args:=#[s,x],argTypes:=#[94,94] }) (base:Nat)
  (A:Option Addr) (cap:Nat) (l:List Tok) (n:Nat) (m:l.length=n) (p:a.eval s=.slice A n cap) (q:OwnT w base A cap l)
  (b:Nat) (v:a.eval x=.slice (some ⟨b,0,none⟩) 1 1) (t:Tok) (y:w.heap[b]?=some (.cells (Zbg t).toArray 155 (0,0)))
  (M:n+1≤3518437208882) (z:base≤w.heap.size)
  (h:∀ A' c w',OwnT w' base A' c (l++[t])→w.grownBy w' (blk A)→wpList Tryz.prog d Q rest (a.put o.dst (.slice A' (n+1) c)) w'):
  wpList Tryz.prog d Q (o::rest) a w:=by
 subst m;obtain ⟨C,D,E,F,H⟩:=info_parts ZlC;refine wpList_append_own w i s x 94 k base 155 C _ 4 40 Tryz.underlying94 D E F H rfl (by decide) _ l.length (ZbB l) p q ⟨b,0,none⟩ 1 1 (Zbg t) v rfl ?_ (ZlD t) (by simp only [maxLen];omega) (by omega) z ?_
 ·intro j N I
  have J:(⟨b,0,none⟩:Addr).add j=⟨b,j,none⟩:=by unfold Addr.add;split <;> simp_all
  rw [J,cell_of_row w b j _ _ (0,0) y];simpa using I
 ·intro O w' e f _
  rcases e.2 with ⟨_,P⟩ | ⟨g,c,cur,rfl,r⟩
  ·omega
  ·refine h (some ⟨g,0,none⟩) c w' ?_ (by rw [Za4] at f;exact f)
   unfold OwnT;rw [Zeh,List.length_append];exact e
structure Ex where
 kind:Nat
 name:ByteArray
 num:Nat
 args:List Nat
 pos:Nat
structure Sm where
 kind:Nat
 party:Nat
 name:ByteArray
 shape:List Nat
 expr:Nat
 pos:Nat
structure PS where
 i:Nat
 ss:List Sm
 es:List Ex
 deep:Nat
 err:Option (Nat × Nat)
def zTok:Tok:=⟨0,⟨#[]⟩,0,0⟩
def noB:ByteArray:=⟨#[]⟩
section
variable (L:List Tok)
def nowP (s:PS):Tok:=(L[s.i]?).getD zTok
def failP (s:PS) (c:Nat):PS:=match s.err with | none=>{ s with err:=some (c,(nowP L s).pos) } | some _=>s
def isP (s:PS) (t:ByteArray):Bool:=s.err.isNone&&((nowP L s).kind==3||(nowP L s).kind==4)&&((nowP L s).text.toList==t.toList)
def advP (s:PS):PS:={ s with i:=s.i+1 }
def wantP (s:PS) (t:ByteArray):PS:=if isP L s t then advP s else failP L s 130
def nameP (s:PS):PS × ByteArray:=if s.err.isSome||(nowP L s).kind != 1 then (failP L s 130,noB) else (advP s,(nowP L s).text)
def Zaw (s:PS):PS × Nat:=if s.err.isSome||(nowP L s).kind != 2||decide (1048576<(nowP L s).num) then (failP L s 130,0) else (advP s,(nowP L s).num)
def putP (s:PS) (e:Ex):PS × Nat:=if s.err.isSome then (s,0) else ({ s with es:=s.es++[e] },s.es.length)
def sinkP (s:PS):PS × Bool:=if s.deep=32 then (failP L s 5,false) else ({ s with deep:=s.deep+1 },true)
def riseP (s:PS):PS:={ s with deep:=s.deep-1 }
def tPlus:ByteArray:={ data:=#[43] }
def ZcX:ByteArray:={ data:=#[45] }
def tStar:ByteArray:={ data:=#[42] }
def tAt:ByteArray:={ data:=#[64] }
def tLess:ByteArray:={ data:=#[60] }
def Zhq:ByteArray:={ data:=#[62,62] }
def tEq:ByteArray:={ data:=#[61] }
def tOpen:ByteArray:={ data:=#[40] }
def tShut:ByteArray:={ data:=#[41] }
def tBra:ByteArray:={ data:=#[91] }
def tKet:ByteArray:={ data:=#[93] }
def ZcY:ByteArray:={ data:=#[44] }
def tSemi:ByteArray:={ data:=#[59] }
def tRelu:ByteArray:={ data:=#[114,101,108,117] }
def tSum:ByteArray:={ data:=#[115,117,109] }
def tArgmax:ByteArray:={ data:=#[97,114,103,109,97,120] }
def tMax:ByteArray:={ data:=#[109,97,120] }
def tMux:ByteArray:={ data:=#[109,117,120] }
def Zcz:ByteArray:={ data:=#[105,110,112,117,116] }
def tLet:ByteArray:={ data:=#[108,101,116] }
def Zdo:ByteArray:={ data:=#[111,117,116,112,117,116] }
def callP (t:Tok):Nat × Nat:=
 if t.kind != 4 then (0,0)
 else if t.text.toList==tRelu.toList then (10,1)
 else if t.text.toList==tSum.toList then (11,1)
 else if t.text.toList==tArgmax.toList then (12,1)
 else if t.text.toList==tMax.toList then (13,2)
 else if t.text.toList==tMux.toList then (14,3)
 else (0,0)
mutual
def exprP:Nat→PS→PS × Nat
 | 0,s=>(s,0)
 | f+1,s=>
  let a:=sumP f s
  if isP L a.1 tLess then
   let b:=sumP f (advP a.1)
   putP b.1 ⟨8,noB,0,[a.2,b.2],(nowP L a.1).pos⟩
  else a
def sumP:Nat→PS→PS × Nat
 | 0,s=>(s,0)
 | f+1,s=>let a:=prodP f s;ZaH f a.1 a.2
def ZaH:Nat→PS→Nat→PS × Nat
 | 0,s,a=>(s,a)
 | f+1,s,a=>
  if isP L s tPlus then
   let b:=prodP f (advP s)
   let c:=putP b.1 ⟨4,noB,0,[a,b.2],(nowP L s).pos⟩
   ZaH f c.1 c.2
  else if isP L s ZcX then
   let b:=prodP f (advP s)
   let c:=putP b.1 ⟨5,noB,0,[a,b.2],(nowP L s).pos⟩
   ZaH f c.1 c.2
  else (s,a)
def prodP:Nat→PS→PS × Nat
 | 0,s=>(s,0)
 | f+1,s=>let a:=signP f s;Za6 f a.1 a.2
def Za6:Nat→PS→Nat→PS × Nat
 | 0,s,a=>(s,a)
 | f+1,s,a=>
  if isP L s tStar then
   let b:=signP f (advP s)
   let c:=putP b.1 ⟨6,noB,0,[a,b.2],(nowP L s).pos⟩
   Za6 f c.1 c.2
  else if isP L s tAt then
   let b:=signP f (advP s)
   let c:=putP b.1 ⟨7,noB,0,[a,b.2],(nowP L s).pos⟩
   Za6 f c.1 c.2
  else (s,a)
def signP:Nat→PS→PS × Nat
 | 0,s=>(s,0)
 | f+1,s=>
  if isP L s ZcX then
   let d:=sinkP L s
   if d.2 then
    let a:=signP f (advP d.1)
    putP (riseP a.1) ⟨3,noB,0,[a.2],(nowP L s).pos⟩
   else (d.1,0)
  else postP f s
def postP:Nat→PS→PS × Nat
 | 0,s=>(s,0)
 | f+1,s=>let a:=atomP f s;ZaM f a.1 a.2
def ZaM:Nat→PS→Nat→PS × Nat
 | 0,s,a=>(s,a)
 | f+1,s,a=>
  if isP L s Zhq then
   let n:=Zaw L (advP s)
   let c:=putP n.1 ⟨9,noB,n.2,[a],(nowP L s).pos⟩
   ZaM f c.1 c.2
  else (s,a)
def atomP:Nat→PS→PS × Nat
 | 0,s=>(s,0)
 | f+1,s=>
  if s.err.isSome then (s,0)
  else if (nowP L s).kind==2 then putP (advP s) ⟨1,noB,(nowP L s).num,[],(nowP L s).pos⟩
  else if (nowP L s).kind==1 then putP (advP s) ⟨2,(nowP L s).text,0,[],(nowP L s).pos⟩
  else
   let k:=callP (nowP L s)
   if (!isP L s tOpen)&&(k.2==0) then (failP L s 130,0)
   else
    let d:=sinkP L s
    if d.2 then
     if k.2==0 then
      let a:=exprP f (advP d.1)
      (riseP (wantP L a.1 tShut),a.2)
     else
      let l:=argsP f k.2 (wantP L (advP d.1) tOpen) []
      putP (riseP (wantP L l.1 tShut)) ⟨k.1,noB,0,l.2,(nowP L s).pos⟩
    else (d.1,0)
def argsP:Nat→Nat→PS→List Nat→PS × List Nat
 | 0,_,s,l=>(s,l)
 | _+1,0,s,l=>(s,l)
 | f+1,n+1,s,l=>
  let a:=exprP f (if l.length=0 then s else wantP L s ZcY)
  argsP f n a.1 (l++[a.2])
end
def Zaz:Nat→PS→List Nat→PS × List Nat
 | 0,s,l=>(s,l)
 | f+1,s,l=>
  if isP L s ZcY then
   let n:=Zaw L (advP s)
   Zaz f n.1 (l++[n.2])
  else (wantP L s tKet,l)
def Zbr (f:Nat) (s:PS):PS × List Nat:=
 let s1:=wantP L s tBra
 if isP L s1 tKet then (advP s1,[])
 else
  let n:=Zaw L s1
  Zaz L f n.1 [n.2]
def putS (s:PS) (x:Sm):PS:={ s with ss:=s.ss++[x] }
def bodyP (f:Nat) (s:PS):PS × Sm:=
 if s.ss.length=64 then (failP L s 5,⟨0,0,noB,[],0,(nowP L s).pos⟩)
 else if isP L s Zcz then
  let n:=Zaw L (advP s)
  let m:=nameP L n.1
  let h:=Zbr L f m.1
  (h.1,⟨1,n.2,m.2,h.2,0,(nowP L s).pos⟩)
 else if isP L s tLet then
  let m:=nameP L (advP s)
  let e:=exprP L f (wantP L m.1 tEq)
  (e.1,⟨2,0,m.2,[],e.2,(nowP L s).pos⟩)
 else if isP L s Zdo then
  let m:=nameP L (advP s)
  (m.1,⟨3,0,m.2,[],0,(nowP L s).pos⟩)
 else (failP L s 130,⟨0,0,noB,[],0,(nowP L s).pos⟩)
def stmtP (f:Nat) (s:PS):PS:=
 let b:=bodyP L f s
 putS (wantP L b.1 tSemi) b.2
def Zak:Nat→Nat→PS→PS
 | 0,_,s=>s
 | n+1,f,s=>if s.err.isNone&&(nowP L s).kind != 0 then Zak n f (stmtP L f s) else s
def Zd0:PS:=⟨0,[],[],0,none⟩
end
def Zao (f:Nat) (L:List Tok):PS:=Zak L f f Zd0
end Go.Proofs.YtghlnncfigkkaaaGreatDoor
