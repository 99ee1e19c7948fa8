/-
 A law's arguments, opened: what a reading of an argument says of the value that came in.
-/
import Derived.Test.YtghlnncfigkkaaaGreatDoorQLexO
import Derived.Test.YtghlnncfigkkaaaGreatDoorQLexQ
import Derived.Test.YtghlnncfigkkaaaGreatDoorQLexA
import Derived.Outline
import Derived.Test.YtghlnncfigkkaaaGreatDoorQNum
import Derived.ProofKit
import Derived.OpenShut
import Derived.ShutString
import Derived.ChangeOld
import Derived.Carry
import Derived.Test.YtghlnncfigkkaaaGreatDoorRows
import Derived.LaidMore
import Derived.Stop.LaidErr
import Derived.ChangeSame
import Derived.ChangeVars
import Derived.JoinedOf
import Derived.RowKit
import Derived.RowKitTokens
import Derived.LaidLaws
import Derived.LaidHandle
import Derived.Stop.Joined
import Derived.SizedLaws
set_option maxRecDepth 100000
set_option maxHeartbeats 4000000
set_option linter.unusedVariables false
set_option linter.unusedSimpArgs false
namespace Go.Proofs.YtghlnncfigkkaaaGreatDoor
open Go.RowKit
theorem ErrT.next {w w':World} (h:ErrT w) (b:Below w.heap.size w w'):ErrT w':=by
 obtain ⟨c,d,a⟩:=h;exact ⟨c,d,(b.cell (World.block_lt_of_cell? w _ a)).trans a⟩
theorem ZmV (s:ByteArray) (k:Nat) (w:World) (a:s.size≤100000) (b:k<s.size) (d:ErrT w):
  Calls Tryz.prog 82 #[.string s,.int .i64 k] w (Ze9 w s k):=by
 cases hd:digB s[k] with
 | true=>
  by_cases c:decV (Zam s k (Zax digB s k))<18446744073709551616
  ·exact Zjk s k w a b hd c
  ·exact Zjl s k w a b hd c d
 | false=>
  cases hl:lowB s[k] with
  | true=>exact Zlg s k w a b hd hl
  | false=>
   cases hp:Lib.hasPrefix (s.data.toList.drop k) [62,62] with
   | true=>exact Zjn s k w a b hd hl hp
   | false=>exact Zlh s k w a b hd hl hp
abbrev tokO (c:Array Value):Obj:=.cells c 155
theorem ZmW (w:World) (o:Obj) (c:Array Value):((w.alloc o).alloc (tokO c)).heap[w.heap.size+1]?=some (.cells c 155 (0,0)):=by
 have h:=Kac (w.alloc o) (tokO c);rw [World.size_alloc] at h;exact h
theorem ZeF (w:World) (B:Nat) (o a:Obj) (b:B≤w.heap.size):Below B w ((w.alloc o).alloc a):=((Kai _ _).alloc b _).alloc (by simp;omega) _
theorem ZjO {W w w5:World} {base a:Nat} {A:Option Addr} {l:List Tok} {v:Value} (b:W.grownBy w5 (blk A)) (c:OwnT w base A a l) (d:W.cell? ⟨w.heap.size,1,none⟩=some v):w5.cell? ⟨w.heap.size,1,none⟩=some v:=by
 refine b.cell d ?_
 intro e
 have:=(c.lt _ e.symm).2;simp at this
theorem ZmX (w:World) (o:Obj) (a b c d:Value):((w.alloc (tokO #[a,b,c,d])).alloc o).cell? ⟨w.heap.size,1,none⟩=some b:=by
 have e:((w.alloc (tokO #[a,b,c,d])).alloc o).heap[w.heap.size]?=some (.cells #[a,b,c,d] 155 (0,0)):=(Below.heap_alloc _ _ _ (by simp)).trans (Kac w _)
 exact Kaa 1 e
theorem ZjP {W w w5:World} {base b:Nat} {A:Option Addr} {l:List Tok} {o a:Obj} (c:OwnT w base A b l) (d:base≤w.heap.size) (e:Below base W w) (f:((w.alloc o).alloc a).grownBy w5 (blk A)):Below base W w5:=
 (e.trans (ZeF w base o a d)).grown f (by simp;omega) fun k g=>(c.lt k g).1
def lexN:ByteArray:={ data:=#[108,101,120] }
def ZmY (W:World) (R:ScanR) (e:Ending) (w':World):Prop:=
 Below W.heap.size W w'∧((∃ l A cap,R=.toks l∧e=.returned (.tuple #[.slice A l.length cap,.nilIface])∧OwnT w' W.heap.size A cap l) ∨
  ∃ c p v,R=.err c p∧e=.returned (.tuple #[.slice none 0 0,v])∧IsErr w' v [(lexN,(p:Int))] (c:Int))
def ZmZ (W:World) (s:ByteArray) (R:ScanR) (ov iv:Value) (wr:World):Prop:=
 ∃ (f k:Nat) (l:List Tok) (A:Option Addr) (cap:Nat),k≤s.size∧s.size-k<f∧iv=.int .i64 k∧ov=.slice A l.length cap∧R=ZaN f s k l∧l.length≤512∧OwnT wr W.heap.size A cap l∧Below W.heap.size W wr
theorem ZlB (s:ByteArray) (w:World) (B:s.size≤100000) (t:ETyped w) (C:ErrT w):
  Calls Tryz.prog 42 #[.string s] w (ZmY w (scanM s)):=by
 by_cases x:4096<s.size
 ·have q1:decide ((4096:Int)<(s.size:Int))=true:=by simp;omega
  have j:scanM s=.err 3 s.size:=by unfold scanM;rw [if_pos x]
  have a5:=Kz j;have D:=Kz t;clear j t C x
  go_enter Tryz.func42,Tryz.ntmps42
  go_wp2_with fail
  refine (ZdE 3 lexN s.size _ D.o).mono ?_
  rintro e w1 ⟨v,rfl,c,d⟩
  have a:=Kz c;have b:=Kz d;clear c d
  go_wp2
  go_ret2;exact ⟨b.o,.inr ⟨_,_,_,a5.o,rfl,a.o⟩⟩
 ·have q1:decide ((4096:Int)<(s.size:Int))=false:=by simp;omega
  obtain ⟨R,E⟩:=Ky (ZaN (s.size+1) s (Za1 s false 0) []);have j:scanM s=R:=by unfold scanM;rw [if_neg x,E]
  rw [j];have a6:=Kz E;have S:=ZfJ s false (Nat.zero_le s.size);obtain ⟨k0,F⟩:=Ky (Za1 s false 0);rw [←F] at S;have T:=Kz F;have D:=Kz t;have a7:=Kz C;have b3:s.size≤4096:=by omega
  clear j t C x E F
  go_enter Tryz.func42,Tryz.ntmps42
  go_wp2_with fail
  refine (Zhe s 0 w B (Nat.zero_le _)).mono ?_
  rintro e w1 ⟨rfl,rfl⟩
  rw [←T.o]
  go_wp2
  go_loopw [4,5] (fun a8 I wr=>ZmZ w s R a8 I wr) (fun _ I _=>s.size-(intOf I).toNat)
  case atStart=>exact ⟨s.size+1,k0,[],none,0,S.1,by omega,rfl,rfl,by rw [a6.o,T.o],by simp,OwnT.nil _ _,Kai _ _⟩
  case round=>
   obtain ⟨f,k,l,A,V,W,b4,rfl,rfl,X,b5,Y,Z⟩:=hrel;have y:=Kz X;have J:=Kz Y;have b:=Kz Z;obtain ⟨f,rfl⟩:∃ g,f=g+1:=⟨f-1,by omega⟩
   clear X Y Z
   by_cases m:k<s.size
   ·go_wp2_with fail
    refine (ZmV s k wr B m ((a7.o.next b.o))).mono ?_
    rintro e w1 ⟨z,b6,b7,b8,b9,ok,rfl,a9⟩
    have a0:=Kz ((D.o.next b.o).next z);have L:=Kz (J.o.next z);have p:=Kz (bnext b.o z);clear z;rcases a9 with ⟨h,rfl⟩ | ⟨a1,n,v,h,rfl,rfl,rfl,rfl,rfl⟩
    ·have a:=Kz (Zig (f:=f) (l:=l) m h);clear h
     go_wp2_with fail
     refine (ZdE 120 lexN k _ (a0.o.next ((Kai _ _).alloc (Kag _) _))).mono ?_
     rintro e w2 ⟨v,rfl,c,d⟩
     have M:=Kz c;have N:=Kz (bnext p.o (((Kai _ _).alloc (Kag _) _).trans (d.mono (by simp))))
     clear c d
     go_wp2
     go_ret2;exact ⟨N.o,.inr ⟨_,_,_,by rw [y.o,a.o],rfl,M.o⟩⟩
    ·obtain ⟨n1,n2,n3,n4⟩:=Zee h
     by_cases q:l.length=512
     ·have a:=Kz (ZgF (f:=f) m h q);have q2:((l.length:Int)==512)=true:=by rw [q];rfl
      clear h q
      go_wp2_with fail
      refine (ZdE 5 lexN k _ (a0.o.next ((Kai _ _).alloc (Kag _) _))).mono ?_
      rintro e w2 ⟨v,rfl,c,d⟩
      have M:=Kz c;have N:=Kz (bnext p.o (((Kai _ _).alloc (Kag _) _).trans (d.mono (by simp))))
      clear c d
      go_wp2
      go_ret2;exact ⟨N.o,.inr ⟨_,_,_,by rw [y.o,a.o],rfl,M.o⟩⟩
     ·have a:=Kz (ZgG (f:=f) m h q);have q2:((l.length:Int)==512)=false:=by rw [Kaj];omega
      have b0:l.length+1≤512:=by omega
      have a2:(s.extract k (k+n)).size=n:=by rw [ByteArray.size_extract];omega
      have c6:=Kz a2;clear h q a2
      go_wp2_with (at_builtin;(refine ZlO rfl (.tmp 43) (.tmp 45) rfl w.heap.size A V l l.length rfl rfl (L.o.next (ZeF w1 _ _ _ (Kag _))) (w1.heap.size+1) rfl ⟨a1,s.extract k (k+n),v,k⟩ (ZmW w1 _ _) (by omega) (by have:=p.o.size;simp;omega) ?_);intro a3 a4 w5 r i;go_loud (have O:=Kz (ZjP L.o p.o.size p.o i));go_loud (have c5:w5.cell? ⟨w1.heap.size,1,none⟩=some (.string (s.extract k (k+n))):=ZjO i L.o (ZmX w1 _ _ _ _ _));go_loud (have Q:=Kz r;clear r i))
      all_goals go_outline
      rw [show (k:Int)+(n:Int)=((k+n:Nat):Int) from rfl]
      refine (Zhe s (k+n) w5 B n2).mono ?_
      rintro e w6 ⟨rfl,rfl⟩
      have b1:=Kz (ZfJ s false n2)
      go_wp2
      obtain ⟨b2,c7⟩:=b1.o;refine ⟨⟨f,Za1 s false (k+n),l++[⟨a1,s.extract k (k+n),v,k⟩],a3,a4,b2,by omega,rfl,by rw [List.length_append];rfl,by rw [y.o,a.o],by rw [List.length_append];exact b0,Q.o,O.o⟩,?_⟩
      show s.size-((Za1 s false (k+n):Nat):Int).toNat<s.size-((k:Nat):Int).toNat
      rw [Int.toNat_natCast,Int.toNat_natCast];omega
   ·have e0:k=s.size:=by omega
    have a:=Kz (Zif (f:=f) (s:=s) (l:=l) m)
    go_wp2_with (at_builtin;(refine ZlO rfl (.tmp 52) (.tmp 56) rfl w.heap.size A V l l.length rfl rfl (J.o.next ((Kai _ _).alloc (Kag _) _)) wr.heap.size rfl (ZjQ s) (Kac _ _) (by omega) (by have:=b.o.size;simp;omega) ?_);intro a3 a4 w5 r i;have O:=Kz ((b.o.alloc b.o.size _).grown i (by have:=b.o.size;simp;omega) (fun k W=>(J.o.lt k W).1));have Q:=Kz r;clear r i)
    go_ret2;exact ⟨O.o,.inl ⟨_,_,_,by rw [y.o,a.o],by rw [List.length_append];rfl,Q.o⟩⟩
end Go.Proofs.YtghlnncfigkkaaaGreatDoor
namespace Go.Proofs.YtghlnncfigkkaaaGreatDoor
open Go.RowKit Go.ChangeShapes Go.WideShapes
section
variable {H:Type} {enc:TypeId × Value→H} {P:Program} {w:World}
theorem Zju {a:Addr} {v:Value} (h:w.cell? a=some v):a=⟨a.block,a.off,none⟩:=by
 unfold World.cell? at h;obtain ⟨b,o,s⟩:=a
 cases s with
 | none=>rfl
 | some n=>
  split at h
  ·simp at h
  ·cases h
theorem ZmF (b o j:Nat):(⟨b,o,none⟩:Addr).add j=⟨b,o+j,none⟩:=by unfold Addr.add;split <;> simp_all
theorem Zlk (a:List Int) (h:∀ n∈a,(Lit.int .u64 n).wf=true):∃ l:List UInt64,a=l.map fun x=>(x.toNat:Int):=by
 induction a with
 | nil=>exact ⟨[],rfl⟩
 | cons z a ih=>
  obtain ⟨l,b⟩:=ih fun n c=>h n (List.mem_cons_of_mem _ c)
  obtain ⟨x,d⟩:=Zn7 (h z (by simp))
  exact ⟨x::l,by rw [List.map_cons,←b,d]⟩
end
open Go.ChangeShapes Go.WideShapes Go.RowKit
theorem dOwn:ownKnob Tryz.prog.godebug=none:=by kernel_rfl
theorem Zfd:laidOutB Tryz.prog=true:=by kernel_rfl
theorem dEt : Tryz.prog.globalNamed "errors.errorType"=some 0:=by kernel_rfl
theorem dRt:(Tryz.prog.cutTypes.find? (·.1=="internal/reflectlite.rtype")).map (·.2)=some 237:=by kernel_rfl
theorem dOne:((List.range Tryz.prog.types.size).filter fun t => Tryz.prog.rowNamed t [101,114,114,111,114])=[28]:=by kernel_rfl
theorem ZmG:typeHandle Tryz.prog 28=hand 28:=by kernel_rfl
abbrev LaidW (W:World):Prop:=laidMetH Tryz.prog [("math/bits.deBruijn32tab",Rows.laid_math_bits_deBruijn32tab),("math/bits.deBruijn64tab",Rows.laid_math_bits_deBruijn64tab),("internal/strconv.uint64pow10",Rows.laid_internal_strconv_uint64pow10),("errors.errorType",Rows.laid_errors_errorType),("strconv.ErrRange",Rows.laid_strconv_ErrRange),("strconv.ErrSyntax",Rows.laid_strconv_ErrSyntax)] W
theorem Zeg {W:World} (h:LaidW W):ETyped W:=by
 have c:laidMet Tryz.prog [("math/bits.deBruijn32tab",Rows.laid_math_bits_deBruijn32tab),("math/bits.deBruijn64tab",Rows.laid_math_bits_deBruijn64tab),("internal/strconv.uint64pow10",Rows.laid_internal_strconv_uint64pow10),("strconv.ErrRange",Rows.laid_strconv_ErrRange),("strconv.ErrSyntax",Rows.laid_strconv_ErrSyntax)] W∧handlesMet Tryz.prog [("errors.errorType",Rows.laid_errors_errorType)] W:=h;obtain ⟨name,l,d,e,f,g,i,a⟩:=c.2 _ (List.mem_singleton.2 rfl);have j:name=[101,114,114,111,114]:=(Option.some.inj e).symm;subst j;obtain rfl:=Option.some.inj (dRt.symm.trans f);have b:d∈(List.range Tryz.prog.types.size).filter fun t => Tryz.prog.rowNamed t [101,114,114,111,114]:=List.mem_filter.2 ⟨List.mem_range.2 g,i⟩
 rw [dOne] at b;obtain rfl:=List.mem_singleton.1 b;rw [ZmG] at a;have k:=World.var?_cell dEt a 0;unfold ETyped;simpa [ETy] using k
theorem dRg : Tryz.prog.globalNamed "strconv.ErrRange"=some 3:=by kernel_rfl
theorem dRgT:(Tryz.prog.globals[3]?).map (·.type)=some 28:=by kernel_rfl
theorem ZfP {W:World} (h:LaidW W):ErrT W:=by
 have a:laidMet Tryz.prog [("math/bits.deBruijn32tab",Rows.laid_math_bits_deBruijn32tab),("math/bits.deBruijn64tab",Rows.laid_math_bits_deBruijn64tab),("internal/strconv.uint64pow10",Rows.laid_internal_strconv_uint64pow10),("strconv.ErrRange",Rows.laid_strconv_ErrRange),("strconv.ErrSyntax",Rows.laid_strconv_ErrSyntax)] W∧handlesMet Tryz.prog [("errors.errorType",Rows.laid_errors_errorType)] W:=h;have b:=a.1.tail.tail.tail;obtain ⟨l,⟨m,n,c,p,q,r,d,e,f,g,_,s⟩,_,_⟩:=b;obtain rfl:=Option.some.inj (dRg.symm.trans d);obtain rfl:=Option.some.inj (dRgT.symm.trans e);obtain ⟨x⟩:=c;obtain ⟨_,i,v,j,_⟩:=iface_of_trod Tryz.underlying28 g;have k:=World.var?_cell dRg f 0;subst j;exact ⟨i,v,by simpa using k⟩
noncomputable abbrev ZlL (os:Os):World:=World.doorLaid Tryz.prog 69 os
theorem ZhT (os:Os) (a:Array Value):LaidW ((ZlL os).forCall (fun _ _=>0) ⟨#[],a,[]⟩).memory:=
 laidMetH_of_parts (laidMet_of_run' 8 (by kernel_rfl) (by kernel_rfl)) (by kernel_rfl)
section
variable {H:Type} {enc:TypeId × Value→H} {w:World}
end
set_option maxRecDepth 100000
open Go.ChangeShapes Go.WideShapes Go.ChangeAt Go.RowKit
section
variable {H:Type} {enc:TypeId × Value→H} {w:World}
theorem Zd2 {r:Reach} {E:Nat} {t e:TypeId} {k:IntKind} {v:Value} {d:DataW H} {p:List MemPlace} (i : Tryz.prog.underlying t=some (.slice e)) (F : Tryz.prog.underlying e=some (.int k)) (I : Tryz.prog.cellsOf e=1)
  (b:Value.okWide Tryz.prog w r E t v) (h:DataW.Trod enc Tryz.prog w 0 (fun _=>true) true t v d p)
  {ts:List TypeId} {q:List (DataW H)} (J:(DataW.weightsEach Tryz.prog ts q).all (· ≤ reachBytes)=true) (j:Nat) (s:ts[j]?=some t) (L:q[j]?=some d):
  ∃ (A:Option Addr) (c:Nat) (a:List Int),v=.slice A a.length c∧a.length≤c∧c≤maxLen∧c * Tryz.prog.bytesOf e≤reachBytes∧Rd w w.heap.size A (a.map (Value.int k))∧∀ n∈a,(Lit.int k n).wf=true:=by
 obtain ⟨A,n,c,rfl⟩:=okWide_slice i b;obtain ⟨T,M⟩:=h;rcases open_ints i F I M with ⟨f,_⟩ | ⟨x,V,W,a,f,_,X,l,N,g,y,O⟩
 ·simp [Value.cells] at f;obtain ⟨rfl,rfl,rfl⟩:=f;exact ⟨none,0,[],rfl,by simp,by simp,by simp,.inl rfl,by simp⟩
 ·simp [Value.cells] at f;obtain ⟨rfl,rfl,rfl⟩:=f;simp only [if_true] at N;have Q:(a.take n).length=n:=by rw [List.length_take];omega
  have R:d=.slice (lits k (a.take n)) (lits k (a.drop n)):=(Prod.mk.inj g).1;have z:=sized_slice J s (L.trans (congrArg some R)) i;have S:(lits (H:=H) k (a.take n)).length+(lits (H:=H) k (a.drop n)).length=c:=by
   simp only [lits,Kak,List.length_take,List.length_drop];omega
  rw [S] at z;refine ⟨some x,c,a.take n,by rw [Q],by omega,l,z,?_,fun m l=>O m (List.mem_of_mem_take l)⟩
  rcases Nat.eq_zero_or_pos n with B | B
  ·exact .inl (by subst B;simp)
  ·have g:=y 0 (by omega)
   rw [show x.add 0=x from rfl] at g
   have C:=Zju g;refine .inr ⟨x.block,x.off,by rw [←C],World.block_lt_of_cell? w _ g,fun j v b => ?_⟩
   rw [Kal,List.getElem?_take] at b;split at b
   ·rename_i s
    have D:=y j (by omega)
    rw [C,ZmF] at D;rw [D,←b,Kad (by omega),List.getD_eq_getElem?_getD,Kad (by omega)]
    rfl
   ·cases b
end
set_option maxRecDepth 100000
section
variable {H:Type} {enc:TypeId × Value→H} {w:World}
theorem ZbW {r:Reach} {i:Nat} {t e:TypeId} {v:Value} {d:DataW H} {p:List MemPlace} (k : Tryz.prog.underlying t=some (.slice e)) (m : Tryz.prog.underlying e=some (.int .u64)) (n : Tryz.prog.cellsOf e=1) (q : Tryz.prog.bytesOf e=8)
  (a:Value.okWide Tryz.prog w r i t v) (h:DataW.Trod enc Tryz.prog w 0 (fun _=>true) true t v d p)
  {ts:List TypeId} {b:List (DataW H)} (s:(DataW.weightsEach Tryz.prog ts b).all (· ≤ reachBytes)=true) (j:Nat) (x:ts[j]?=some t) (y:b[j]?=some d):
  ∃ (A:Option Addr) (c:Nat) (l:List UInt64),v=.slice A l.length c∧l.length≤c∧c≤17592186043904∧Rd w w.heap.size A (l.map U):=by
 obtain ⟨A,c,z,a,B,D,f,g,C⟩:=Zd2 k m n a h s j x y;obtain ⟨l,rfl⟩:=Zlk z C;rw [q] at f;refine ⟨A,c,l,by rw [a,Kak],by simpa using B,by simp only [reachBytes] at f;omega,?_⟩
 rw [List.map_map] at g;exact g
end
end Go.Proofs.YtghlnncfigkkaaaGreatDoor
