/-
  The parser as plain functions over a list of tokens. No program.
-/
import Derived.Test.YtghlnncfigkkaaaGreatDoorQTok
namespace Go.Proofs.YtghlnncfigkkaaaGreatDoor
set_option linter.unusedVariables false
set_option linter.unusedSimpArgs false
open Go.RowKit
structure Ex where
 kind:Nat
 name:ByteArray
 num:Nat
 args:List Nat
 pos:Nat
structure Sm where
 kind:Nat
 party:Nat
 name:ByteArray
 shape:List Nat
 expr:Nat
 pos:Nat
structure PS where
 i:Nat
 ss:List Sm
 es:List Ex
 deep:Nat
 err:Option (Nat × Nat)
def zTok:Tok:=⟨0,⟨#[]⟩,0,0⟩
def noB:ByteArray:=⟨#[]⟩
section
variable (L:List Tok)
def nowP (s:PS):Tok:=(L[s.i]?).getD zTok
def failP (s:PS) (c:Nat):PS:=match s.err with | none=>{ s with err:=some (c,(nowP L s).pos) } | some _=>s
def isP (s:PS) (t:ByteArray):Bool:=s.err.isNone&&((nowP L s).kind==3||(nowP L s).kind==4)&&((nowP L s).text.toList==t.toList)
def advP (s:PS):PS:={ s with i:=s.i+1 }
def wantP (s:PS) (t:ByteArray):PS:=if isP L s t then advP s else failP L s 130
def nameP (s:PS):PS × ByteArray:=if s.err.isSome||(nowP L s).kind != 1 then (failP L s 130,noB) else (advP s,(nowP L s).text)
def Zaw (s:PS):PS × Nat:=if s.err.isSome||(nowP L s).kind != 2||decide (1048576<(nowP L s).num) then (failP L s 130,0) else (advP s,(nowP L s).num)
def putP (s:PS) (e:Ex):PS × Nat:=if s.err.isSome then (s,0) else ({ s with es:=s.es++[e] },s.es.length)
def sinkP (s:PS):PS × Bool:=if s.deep=32 then (failP L s 5,false) else ({ s with deep:=s.deep+1 },true)
def riseP (s:PS):PS:={ s with deep:=s.deep-1 }
def tPlus:ByteArray:={ data:=#[43] }
def ZcX:ByteArray:={ data:=#[45] }
def tStar:ByteArray:={ data:=#[42] }
def tAt:ByteArray:={ data:=#[64] }
def tLess:ByteArray:={ data:=#[60] }
def Zhq:ByteArray:={ data:=#[62,62] }
def tEq:ByteArray:={ data:=#[61] }
def tOpen:ByteArray:={ data:=#[40] }
def tShut:ByteArray:={ data:=#[41] }
def tBra:ByteArray:={ data:=#[91] }
def tKet:ByteArray:={ data:=#[93] }
def ZcY:ByteArray:={ data:=#[44] }
def tSemi:ByteArray:={ data:=#[59] }
def tRelu:ByteArray:={ data:=#[114,101,108,117] }
def tSum:ByteArray:={ data:=#[115,117,109] }
def tArgmax:ByteArray:={ data:=#[97,114,103,109,97,120] }
def tMax:ByteArray:={ data:=#[109,97,120] }
def tMux:ByteArray:={ data:=#[109,117,120] }
def Zcz:ByteArray:={ data:=#[105,110,112,117,116] }
def tLet:ByteArray:={ data:=#[108,101,116] }
def Zdo:ByteArray:={ data:=#[111,117,116,112,117,116] }
def callP (t:Tok):Nat × Nat:=
 if t.kind != 4 then (0,0)
 else if t.text.toList==tRelu.toList then (10,1)
 else if t.text.toList==tSum.toList then (11,1)
 else if t.text.toList==tArgmax.toList then (12,1)
 else if t.text.toList==tMax.toList then (13,2)
 else if t.text.toList==tMux.toList then (14,3)
 else (0,0)
mutual
def exprP:Nat→PS→PS × Nat
 | 0,s=>(s,0)
 | f+1,s=>
  let a:=sumP f s
  if isP L a.1 tLess then
   let b:=sumP f (advP a.1)
   putP b.1 ⟨8,noB,0,[a.2,b.2],(nowP L a.1).pos⟩
  else a
def sumP:Nat→PS→PS × Nat
 | 0,s=>(s,0)
 | f+1,s=>let a:=prodP f s;ZaH f a.1 a.2
def ZaH:Nat→PS→Nat→PS × Nat
 | 0,s,a=>(s,a)
 | f+1,s,a=>
  if isP L s tPlus then
   let b:=prodP f (advP s)
   let c:=putP b.1 ⟨4,noB,0,[a,b.2],(nowP L s).pos⟩
   ZaH f c.1 c.2
  else if isP L s ZcX then
   let b:=prodP f (advP s)
   let c:=putP b.1 ⟨5,noB,0,[a,b.2],(nowP L s).pos⟩
   ZaH f c.1 c.2
  else (s,a)
def prodP:Nat→PS→PS × Nat
 | 0,s=>(s,0)
 | f+1,s=>let a:=signP f s;Za6 f a.1 a.2
def Za6:Nat→PS→Nat→PS × Nat
 | 0,s,a=>(s,a)
 | f+1,s,a=>
  if isP L s tStar then
   let b:=signP f (advP s)
   let c:=putP b.1 ⟨6,noB,0,[a,b.2],(nowP L s).pos⟩
   Za6 f c.1 c.2
  else if isP L s tAt then
   let b:=signP f (advP s)
   let c:=putP b.1 ⟨7,noB,0,[a,b.2],(nowP L s).pos⟩
   Za6 f c.1 c.2
  else (s,a)
def signP:Nat→PS→PS × Nat
 | 0,s=>(s,0)
 | f+1,s=>
  if isP L s ZcX then
   let d:=sinkP L s
   if d.2 then
    let a:=signP f (advP d.1)
    putP (riseP a.1) ⟨3,noB,0,[a.2],(nowP L s).pos⟩
   else (d.1,0)
  else postP f s
def postP:Nat→PS→PS × Nat
 | 0,s=>(s,0)
 | f+1,s=>let a:=atomP f s;ZaM f a.1 a.2
def ZaM:Nat→PS→Nat→PS × Nat
 | 0,s,a=>(s,a)
 | f+1,s,a=>
  if isP L s Zhq then
   let n:=Zaw L (advP s)
   let c:=putP n.1 ⟨9,noB,n.2,[a],(nowP L s).pos⟩
   ZaM f c.1 c.2
  else (s,a)
def atomP:Nat→PS→PS × Nat
 | 0,s=>(s,0)
 | f+1,s=>
  if s.err.isSome then (s,0)
  else if (nowP L s).kind==2 then putP (advP s) ⟨1,noB,(nowP L s).num,[],(nowP L s).pos⟩
  else if (nowP L s).kind==1 then putP (advP s) ⟨2,(nowP L s).text,0,[],(nowP L s).pos⟩
  else
   let k:=callP (nowP L s)
   if (!isP L s tOpen)&&(k.2==0) then (failP L s 130,0)
   else
    let d:=sinkP L s
    if d.2 then
     if k.2==0 then
      let a:=exprP f (advP d.1)
      (riseP (wantP L a.1 tShut),a.2)
     else
      let l:=argsP f k.2 (wantP L (advP d.1) tOpen) []
      putP (riseP (wantP L l.1 tShut)) ⟨k.1,noB,0,l.2,(nowP L s).pos⟩
    else (d.1,0)
def argsP:Nat→Nat→PS→List Nat→PS × List Nat
 | 0,_,s,l=>(s,l)
 | _+1,0,s,l=>(s,l)
 | f+1,n+1,s,l=>
  let a:=exprP f (if l.length=0 then s else wantP L s ZcY)
  argsP f n a.1 (l++[a.2])
end
def Zaz:Nat→PS→List Nat→PS × List Nat
 | 0,s,l=>(s,l)
 | f+1,s,l=>
  if isP L s ZcY then
   let n:=Zaw L (advP s)
   Zaz f n.1 (l++[n.2])
  else (wantP L s tKet,l)
def Zbr (f:Nat) (s:PS):PS × List Nat:=
 let s1:=wantP L s tBra
 if isP L s1 tKet then (advP s1,[])
 else
  let n:=Zaw L s1
  Zaz L f n.1 [n.2]
def putS (s:PS) (x:Sm):PS:={ s with ss:=s.ss++[x] }
def bodyP (f:Nat) (s:PS):PS × Sm:=
 if s.ss.length=64 then (failP L s 5,⟨0,0,noB,[],0,(nowP L s).pos⟩)
 else if isP L s Zcz then
  let n:=Zaw L (advP s)
  let m:=nameP L n.1
  let h:=Zbr L f m.1
  (h.1,⟨1,n.2,m.2,h.2,0,(nowP L s).pos⟩)
 else if isP L s tLet then
  let m:=nameP L (advP s)
  let e:=exprP L f (wantP L m.1 tEq)
  (e.1,⟨2,0,m.2,[],e.2,(nowP L s).pos⟩)
 else if isP L s Zdo then
  let m:=nameP L (advP s)
  (m.1,⟨3,0,m.2,[],0,(nowP L s).pos⟩)
 else (failP L s 130,⟨0,0,noB,[],0,(nowP L s).pos⟩)
def stmtP (f:Nat) (s:PS):PS:=
 let b:=bodyP L f s
 putS (wantP L b.1 tSemi) b.2
def Zak:Nat→Nat→PS→PS
 | 0,_,s=>s
 | n+1,f,s=>if s.err.isNone&&(nowP L s).kind != 0 then Zak n f (stmtP L f s) else s
def Zd0:PS:=⟨0,[],[],0,none⟩
end
def Zao (f:Nat) (L:List Tok):PS:=Zak L f f Zd0
end Go.Proofs.YtghlnncfigkkaaaGreatDoor
