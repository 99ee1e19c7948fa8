/-
 A law's arguments, opened: what a reading of an argument says of the value that came in.
-/
import Derived.Test.YtghlnncfigkkaaaGreatDoorQLexO
import Derived.Test.YtghlnncfigkkaaaGreatDoorQLexQ
import Derived.Test.YtghlnncfigkkaaaGreatDoorQLexA
import Derived.Outline
import Derived.Test.YtghlnncfigkkaaaGreatDoorQNum
import Derived.ProofKit
import Derived.OpenShut
import Derived.ShutString
import Derived.ChangeOld
import Derived.Carry
import Derived.Test.YtghlnncfigkkaaaGreatDoorRows
import Derived.LaidMore
import Derived.Stop.LaidErr
import Derived.ChangeSame
import Derived.ChangeVars
import Derived.JoinedOf
import Derived.RowKit
import Derived.RowKitTokens
import Derived.LaidLaws
import Derived.LaidHandle
import Derived.Stop.Joined
import Derived.SizedLaws
set_option maxRecDepth 100000
set_option maxHeartbeats 4000000
open Go.Lib (hid)
namespace Go.Proofs.YtghlnncfigkkaaaGreatDoor
set_option linter.unusedVariables false
set_option linter.unusedSimpArgs false
open Go.RowKit
theorem ErrT.next {w w':World} (h:ErrT w) (hb:Below w.heap.size w w'):ErrT w':=by
 obtain ⟨te,pe,hc⟩:=h
 exact ⟨te,pe,(hb.cell (World.block_lt_of_cell? w _ hc)).trans hc⟩
theorem ZmV (s:ByteArray) (k:Nat) (w:World) (hs:s.size≤100000) (hk:k<s.size) (ht:ErrT w):
  Calls Tryz.prog 82 #[.string s,.int .i64 k] w (Ze9 w s k):=by
 cases hd:digB s[k] with
 | true=>
  by_cases hv:decV (Zam s k (Zax digB s k))<18446744073709551616
  ·exact Zjk s k w hs hk hd hv
  ·exact Zjl s k w hs hk hd hv ht
 | false=>
  cases hl:lowB s[k] with
  | true=>exact Zlg s k w hs hk hd hl
  | false=>
   cases hp:Lib.hasPrefix (s.data.toList.drop k) [62,62] with
   | true=>exact Zjn s k w hs hk hd hl hp
   | false=>exact Zlh s k w hs hk hd hl hp
abbrev tokO (c:Array Value):Obj:=.cells c 155
theorem ZmW (w:World) (o:Obj) (c:Array Value):((w.alloc o).alloc (tokO c)).heap[w.heap.size+1]?=some (.cells c 155 (0,0)):=by
 have h:=Kac (w.alloc o) (tokO c)
 rw [World.size_alloc] at h
 exact h
theorem ZeF (w:World) (B:Nat) (o o':Obj) (hB:B≤w.heap.size):Below B w ((w.alloc o).alloc o'):=((Kai _ _).alloc hB _).alloc (by simp;omega) _
theorem ZjO {W w w5:World} {base cap:Nat} {A:Option Addr} {l:List Tok} {v:Value} (hg:W.grownBy w5 (blk A)) (ho:OwnT w base A cap l) (hv:W.cell? ⟨w.heap.size,1,none⟩=some v):w5.cell? ⟨w.heap.size,1,none⟩=some v:=by
 refine hg.cell hv ?_
 intro e
 have:=(ho.lt _ e.symm).2
 simp at this
theorem ZmX (w:World) (o:Obj) (a b c d:Value):((w.alloc (tokO #[a,b,c,d])).alloc o).cell? ⟨w.heap.size,1,none⟩=some b:=by
 have h0:((w.alloc (tokO #[a,b,c,d])).alloc o).heap[w.heap.size]?=some (.cells #[a,b,c,d] 155 (0,0)):=(Below.heap_alloc _ _ _ (by simp)).trans (Kac w _)
 exact Kaa _ _ 1 _ _ _ h0
theorem ZjP {W w w5:World} {base cap:Nat} {A:Option Addr} {l:List Tok} {o o':Obj} (ho:OwnT w base A cap l) (hB:base≤w.heap.size) (hW:Below base W w) (hg:((w.alloc o).alloc o').grownBy w5 (blk A)):Below base W w5:=
 (hW.trans (ZeF w base o o' hB)).grown hg (by simp;omega) fun k hk=>(ho.lt k hk).1
def lexN:ByteArray:={ data:=#[108,101,120] }
def ZmY (W:World) (R:ScanR) (e:Ending) (w':World):Prop:=
 Below W.heap.size W w'∧((∃ l A cap,R=.toks l∧e=.returned (.tuple #[.slice A l.length cap,.nilIface])∧OwnT w' W.heap.size A cap l) ∨
  ∃ c p v,R=.err c p∧e=.returned (.tuple #[.slice none 0 0,v])∧IsErr w' v [(lexN,(p:Int))] (c:Int))
def ZmZ (W:World) (s:ByteArray) (R:ScanR) (ov iv:Value) (wr:World):Prop:=
 ∃ (f k:Nat) (l:List Tok) (A:Option Addr) (cap:Nat),k≤s.size∧s.size-k<f∧iv=.int .i64 k∧ov=.slice A l.length cap∧R=ZaN f s k l∧l.length≤512∧OwnT wr W.heap.size A cap l∧Below W.heap.size W wr
theorem ZlB (s:ByteArray) (w:World) (hs:s.size≤100000) (hg:ETyped w) (ht:ErrT w):
  Calls Tryz.prog 42 #[.string s] w (ZmY w (scanM s)):=by
 by_cases hlong:4096<s.size
 ·have q1:decide ((4096:Int)<(s.size:Int))=true:=by simp;omega
  have hm:scanM s=.err 3 s.size:=by unfold scanM;rw [if_pos hlong]
  have HM:=hid hm
  have HG:=hid hg
  clear hm hg ht hlong
  go_enter Tryz.func42,Tryz.ntmps42
  go_wp2_with fail
  refine (ZdE 3 lexN s.size _ HG.out).mono ?_
  rintro e w1 ⟨v,rfl,he,hb⟩
  have HE:=hid he
  have HB:=hid hb
  clear he hb
  go_wp2
  go_ret2
  exact ⟨HB.out,.inr ⟨_,_,_,HM.out,rfl,HE.out⟩⟩
 ·have q1:decide ((4096:Int)<(s.size:Int))=false:=by simp;omega
  obtain ⟨R,hR⟩:∃ R,R=ZaN (s.size+1) s (Za1 s false 0) []:=⟨_,rfl⟩
  have hm:scanM s=R:=by unfold scanM;rw [if_neg hlong,hR]
  rw [hm]
  have HR:=hid hR
  have hk0:=ZfJ s false (Nat.zero_le s.size)
  obtain ⟨k0,hk0'⟩:∃ k0,k0=Za1 s false 0:=⟨_,rfl⟩
  rw [←hk0'] at hk0
  have HK0:=hid hk0'
  have HG:=hid hg
  have HT:=hid ht
  have hs2:s.size≤4096:=by omega
  clear hm hg ht hlong hR hk0'
  go_enter Tryz.func42,Tryz.ntmps42
  go_wp2_with fail
  refine (Zhe s 0 w hs (Nat.zero_le _)).mono ?_
  rintro e w1 ⟨rfl,rfl⟩
  rw [←HK0.out]
  go_wp2
  go_loopw [4,5] (fun ov iv wr=>ZmZ w s R ov iv wr) (fun _ iv _=>s.size-(intOf iv).toNat)
  case atStart=>exact ⟨s.size+1,k0,[],none,0,hk0.1,by omega,rfl,rfl,by rw [HR.out,HK0.out],by simp,OwnT.nil _ _,Kai _ _⟩
  case round=>
   obtain ⟨f,k,l,A,cap,hk,hf,rfl,rfl,hrr,hl,hown,hbel⟩:=hrel
   have HRR:=hid hrr
   have HO:=hid hown
   have HB:=hid hbel
   obtain ⟨f,rfl⟩:∃ g,f=g+1:=⟨f-1,by omega⟩
   clear hrr hown hbel
   by_cases hlt:k<s.size
   ·go_wp2_with fail
    refine (ZmV s k wr hs hlt ((HT.out.next HB.out))).mono ?_
    rintro e w1 ⟨b1,a,b,c,d,ok,rfl,hone⟩
    have HG1:=hid ((HG.out.next HB.out).next b1)
    have HO1:=hid (HO.out.next b1)
    have HB1:=hid (bnext HB.out b1)
    clear b1
    rcases hone with ⟨hn,rfl⟩ | ⟨t,n,v,hn,rfl,rfl,rfl,rfl,rfl⟩
    ·have HE:=hid (Zig (f:=f) (l:=l) hlt hn)
     clear hn
     go_wp2_with fail
     refine (ZdE 120 lexN k _ (HG1.out.next ((Kai _ _).alloc (Kag _) _))).mono ?_
     rintro e w2 ⟨v,rfl,he,hb⟩
     have HEE:=hid he
     have HB2:=hid (bnext HB1.out (((Kai _ _).alloc (Kag _) _).trans (hb.mono (by simp))))
     clear he hb
     go_wp2
     go_ret2
     exact ⟨HB2.out,.inr ⟨_,_,_,by rw [HRR.out,HE.out],rfl,HEE.out⟩⟩
    ·obtain ⟨n1,n2,n3,n4⟩:=Zee hn
     by_cases hfull:l.length=512
     ·have HE:=hid (ZgF (f:=f) hlt hn hfull)
      have q2:((l.length:Int)==512)=true:=by rw [hfull];rfl
      clear hn hfull
      go_wp2_with fail
      refine (ZdE 5 lexN k _ (HG1.out.next ((Kai _ _).alloc (Kag _) _))).mono ?_
      rintro e w2 ⟨v,rfl,he,hb⟩
      have HEE:=hid he
      have HB2:=hid (bnext HB1.out (((Kai _ _).alloc (Kag _) _).trans (hb.mono (by simp))))
      clear he hb
      go_wp2
      go_ret2
      exact ⟨HB2.out,.inr ⟨_,_,_,by rw [HRR.out,HE.out],rfl,HEE.out⟩⟩
     ·have HE:=hid (ZgG (f:=f) hlt hn hfull)
      have q2:((l.length:Int)==512)=false:=by rw [Kaj];omega
      have hl2:l.length+1≤512:=by omega
      have hsz:(s.extract k (k+n)).size=n:=by rw [ByteArray.size_extract];omega
      have HSZ:=hid hsz
      clear hn hfull hsz
      go_wp2_with (at_builtin;(refine ZlO rfl (.tmp 43) (.tmp 45) rfl w.heap.size A cap l l.length rfl rfl (HO1.out.next (ZeF w1 _ _ _ (Kag _))) (w1.heap.size+1) rfl ⟨t,s.extract k (k+n),v,k⟩ (ZmW w1 _ _) (by omega) (by have:=HB1.out.size;simp;omega) ?_);intro A' cap' w5 hown' hgrow;go_loud (have H5:=hid (ZjP HO1.out HB1.out.size HB1.out hgrow));go_loud (have c5:w5.cell? ⟨w1.heap.size,1,none⟩=some (.string (s.extract k (k+n))):=ZjO hgrow HO1.out (ZmX w1 _ _ _ _ _));go_loud (have O5:=hid hown';clear hown' hgrow))
      all_goals go_outline
      rw [show (k:Int)+(n:Int)=((k+n:Nat):Int) from rfl]
      refine (Zhe s (k+n) w5 hs n2).mono ?_
      rintro e w6 ⟨rfl,rfl⟩
      have HS:=hid (ZfJ s false n2)
      go_wp2
      obtain ⟨hs1,hs3⟩:=HS.out
      refine ⟨⟨f,Za1 s false (k+n),l++[⟨t,s.extract k (k+n),v,k⟩],A',cap',hs1,by omega,rfl,by rw [List.length_append];rfl,by rw [HRR.out,HE.out],by rw [List.length_append];exact hl2,O5.out,H5.out⟩,?_⟩
      show s.size-((Za1 s false (k+n):Nat):Int).toNat<s.size-((k:Nat):Int).toNat
      rw [Int.toNat_natCast,Int.toNat_natCast]
      omega
   ·have e0:k=s.size:=by omega
    have HE:=hid (Zif (f:=f) (s:=s) (l:=l) hlt)
    go_wp2_with (at_builtin;(refine ZlO rfl (.tmp 52) (.tmp 56) rfl w.heap.size A cap l l.length rfl rfl (HO.out.next ((Kai _ _).alloc (Kag _) _)) wr.heap.size rfl (ZjQ s) (Kac _ _) (by omega) (by have:=HB.out.size;simp;omega) ?_);intro A' cap' w5 hown' hgrow;have H5:=hid ((HB.out.alloc HB.out.size _).grown hgrow (by have:=HB.out.size;simp;omega) (fun k hk=>(HO.out.lt k hk).1));have O5:=hid hown';clear hown' hgrow)
    go_ret2
    exact ⟨H5.out,.inl ⟨_,_,_,by rw [HRR.out,HE.out],by rw [List.length_append];rfl,O5.out⟩⟩
end Go.Proofs.YtghlnncfigkkaaaGreatDoor
namespace Go.Proofs.YtghlnncfigkkaaaGreatDoor
open Go.RowKit Go.ChangeShapes Go.WideShapes
section
variable {H:Type} {enc:TypeId × Value→H} {P:Program} {w:World}
end
open Go.ChangeShapes Go.WideShapes Go.RowKit
theorem dOwn:ownKnob Tryz.prog.godebug=none:=by kernel_rfl
theorem Zfd:laidOutB Tryz.prog=true:=by kernel_rfl
theorem dEt : Tryz.prog.globalNamed "errors.errorType"=some 0:=by kernel_rfl
theorem dRt:(Tryz.prog.cutTypes.find? (·.1=="internal/reflectlite.rtype")).map (·.2)=some 237:=by kernel_rfl
theorem dOne:((List.range Tryz.prog.types.size).filter fun t => Tryz.prog.rowNamed t [101,114,114,111,114])=[28]:=by kernel_rfl
theorem ZmG:typeHandle Tryz.prog 28=hand 28:=by kernel_rfl
abbrev LaidW (W:World):Prop:=laidMetH Tryz.prog [("math/bits.deBruijn32tab",Rows.laid_math_bits_deBruijn32tab),("math/bits.deBruijn64tab",Rows.laid_math_bits_deBruijn64tab),("internal/strconv.uint64pow10",Rows.laid_internal_strconv_uint64pow10),("errors.errorType",Rows.laid_errors_errorType),("strconv.ErrRange",Rows.laid_strconv_ErrRange),("strconv.ErrSyntax",Rows.laid_strconv_ErrSyntax)] W
theorem Zeg {W:World} (h:LaidW W):ETyped W:=by
 have h':laidMet Tryz.prog [("math/bits.deBruijn32tab",Rows.laid_math_bits_deBruijn32tab),("math/bits.deBruijn64tab",Rows.laid_math_bits_deBruijn64tab),("internal/strconv.uint64pow10",Rows.laid_internal_strconv_uint64pow10),("strconv.ErrRange",Rows.laid_strconv_ErrRange),("strconv.ErrSyntax",Rows.laid_strconv_ErrSyntax)] W∧handlesMet Tryz.prog [("errors.errorType",Rows.laid_errors_errorType)] W:=h
 obtain ⟨name,u,ty,e1,e2,e3,e4,e5⟩:=h'.2 _ (List.mem_singleton.2 rfl)
 have en:name=[101,114,114,111,114]:=(Option.some.inj e1).symm
 subst en
 obtain rfl:=Option.some.inj (dRt.symm.trans e2)
 have hm:ty∈(List.range Tryz.prog.types.size).filter fun t => Tryz.prog.rowNamed t [101,114,114,111,114]:=List.mem_filter.2 ⟨List.mem_range.2 e3,e4⟩
 rw [dOne] at hm
 obtain rfl:=List.mem_singleton.1 hm
 rw [ZmG] at e5
 have hc:=World.var?_cell dEt e5 0
 unfold ETyped
 simpa [ETy] using hc
theorem dRg : Tryz.prog.globalNamed "strconv.ErrRange"=some 3:=by kernel_rfl
theorem dRgT:(Tryz.prog.globals[3]?).map (·.type)=some 28:=by kernel_rfl
theorem ZfP {W:World} (h:LaidW W):ErrT W:=by
 have h':laidMet Tryz.prog [("math/bits.deBruijn32tab",Rows.laid_math_bits_deBruijn32tab),("math/bits.deBruijn64tab",Rows.laid_math_bits_deBruijn64tab),("internal/strconv.uint64pow10",Rows.laid_internal_strconv_uint64pow10),("strconv.ErrRange",Rows.laid_strconv_ErrRange),("strconv.ErrSyntax",Rows.laid_strconv_ErrSyntax)] W∧handlesMet Tryz.prog [("errors.errorType",Rows.laid_errors_errorType)] W:=h
 have h2:=h'.1.tail.tail.tail
 obtain ⟨ps,⟨g0,t0,cs0,f0,p0,q0,hg0,ht0,hv0,hd0,_,e0⟩,_,_⟩:=h2
 obtain rfl:=Option.some.inj (dRg.symm.trans hg0)
 obtain rfl:=Option.some.inj (dRgT.symm.trans ht0)
 obtain ⟨l0⟩:=cs0
 obtain ⟨_,u,v,hl,_⟩:=iface_of_trod Tryz.underlying28 hd0
 have hc:=World.var?_cell dRg hv0 0
 subst hl
 exact ⟨u,v,by simpa using hc⟩
noncomputable abbrev ZlL (os:Os):World:=World.doorLaid Tryz.prog 69 os
theorem ZhT (os:Os) (args:Array Value):LaidW ((ZlL os).forCall (fun _ _=>0) ⟨#[],args,[]⟩).memory:=
 laidMetH_of_parts (laidMet_of_run' 8 (by kernel_rfl) (by kernel_rfl)) (by kernel_rfl)
section
variable {H:Type} {enc:TypeId × Value→H} {w:World}
end
set_option maxRecDepth 100000
open Go.ChangeShapes Go.WideShapes Go.ChangeAt Go.RowKit
section
variable {H:Type} {enc:TypeId × Value→H} {w:World}
end
set_option maxRecDepth 100000
section
variable {H:Type} {enc:TypeId × Value→H} {w:World}
end
end Go.Proofs.YtghlnncfigkkaaaGreatDoor
