/-
  parse.Text at a text whose tokens and tree are known; the laws' Cut. The document's Words: two lists of words held against each other. parse.Text at a fixed text, for evaluation; rows of tensors that a law builds; the eval laws' awake. Walk of the document's Fill: tensors of the shapes, out of words. Walks of the eval laws' run and alike, at texts whose trees are known.
-/
import Derived.Test.YtghlnncfigkkaaaGreatDoorQNum
import Derived.Test.YtghlnncfigkkaaaGreatDoorQEvS
import Derived.Test.YtghlnncfigkkaaaGreatDoorQEvB
import Derived.Test.YtghlnncfigkkaaaGreatDoorQEvE
import Derived.Test.YtghlnncfigkkaaaGreatDoorQMin
import Derived.Test.YtghlnncfigkkaaaGreatDoorQTreeB
import Derived.Test.YtghlnncfigkkaaaGreatDoorQEvC
import Derived.Test.YtghlnncfigkkaaaGreatDoorQIs
import Derived.Test.YtghlnncfigkkaaaGreatDoorRows
import Derived.BigQuiet
import Derived.Deep.QuietTactic
set_option maxRecDepth 100000
set_option maxHeartbeats 4000000
open Go.Lib (hid)
namespace Go.Proofs.YtghlnncfigkkaaaGreatDoor
set_option linter.unusedVariables false
set_option linter.unusedSimpArgs false
open Go.RowKit
theorem Zi5 (s:ByteArray) (F:Nat) (l:List Tok) (w:World) (hs:s.size≤100000) (hg:ETyped w) (ht:ErrT w) (hF:12*l.length+20≤F) (hl:scanM s=.toks l) (he:(Zao F l).err=none):
  Calls Tryz.prog 16 #[.string s] w fun e w'=>Below w.heap.size w w'∧∃ SA sc EA ec,e=.returned (.tuple #[.agg #[.slice SA (Zao F l).ss.length sc,.slice EA (Zao F l).es.length ec],.nilIface])∧OwnS w' w.heap.size SA sc (Zao F l).ss∧OwnE w' w.heap.size EA ec (Zao F l).es:=by
 refine (Zhh s F w hs hg ht (fun l' h'=>by rw [hl] at h';injection h' with h';subst h';exact hF)).mono ?_
 rintro e w' ⟨hb,h⟩
 rcases h with ⟨l',e1,e2,r⟩ | ⟨l',c,p,v,e1,e2,r⟩ | ⟨c,p,v,e1,r⟩
 ·rw [hl] at e1;injection e1 with e1;subst e1
  exact ⟨hb,r⟩
 ·rw [hl] at e1;injection e1 with e1;subst e1
  rw [he] at e2;cases e2
 ·rw [hl] at e1;cases e1
theorem Zf2 (w:World) (ts:Array TypeId) (t:TypeId) (a:Nat):(Builtin.min_ ts t #[.int .i64 (a:Int),.int .i64 4200]).run Tryz.prog w=.ok (.int .i64 (minN a 4200:Nat)) w:=Zg3 w ts t a 4200
attribute [local go_sem ↓] Zf2
theorem Zml (s:ByteArray) (hsz:s.size≤maxLen) (w:World):Calls Tryz.prog 17 #[.string s] w fun e w'=>e=.returned (.string (s.extract 0 (minN s.size 4200)))∧w=w':=by
 obtain ⟨m1,m2,m3⟩:=Zjt s.size 4200
 obtain ⟨M,hM⟩:∃ M,M=minN s.size 4200:=⟨_,rfl⟩
 rw [←hM] at m1 m2 ⊢
 have hm:=hM.symm
 clear m3 hM
 go_enter Tryz.func17,Tryz.ntmps17
 go_wp2
 go_ret
 exact ⟨rfl,rfl⟩
end Go.Proofs.YtghlnncfigkkaaaGreatDoor
namespace Go.Proofs.YtghlnncfigkkaaaGreatDoor
set_option linter.unusedVariables false
set_option linter.unusedSimpArgs false
open Go.RowKit
attribute [local go_sem ↓] Zch ZbA
theorem ZgS (l:List UInt64) {k:Nat} (h:k<l.length):nthW l k=l[k]:=by
 rw [Zbo,List.getD_eq_getElem?_getD,List.getElem?_eq_getElem h];rfl
theorem Zi6 {l l':List UInt64} {k:Nat} (ht:l.take k=l'.take k) (h:k<l.length) (h':k<l'.length) (he:nthW l k=nthW l' k):l.take (k+1)=l'.take (k+1):=by
 rw [List.take_succ_eq_append_getElem h,List.take_succ_eq_append_getElem h',ht,←ZgS l h,←ZgS l' h',he]
theorem Zgh {l l':List UInt64} (he:l.length=l'.length) (ht:l.take l.length=l'.take l.length):(l==l')=true:=by
 rw [List.take_length,he,List.take_length] at ht
 simpa using ht
theorem Zh3 {l l':List UInt64} {k:Nat} (h:(nthW l k != nthW l' k)=true):(l==l')=false:=by
 rw [beq_eq_false_iff_ne]
 rintro rfl
 simp at h
theorem Zh4 {l l':List UInt64} (h:l.length≠l'.length):(l==l')=false:=by
 rw [beq_eq_false_iff_ne]
 rintro rfl
 exact h rfl
theorem Zi7 (A A':Option Addr) (c c':Nat) (l l':List UInt64) (B:Nat) (w:World) (hl:l.length≤9223372036854775807) (hA:Rd w B A (l.map U)) (hA':Rd w B A' (l'.map U)):
  Calls Tryz.prog 50 #[.slice A l.length c,.slice A' l'.length c'] w fun e w'=>e=.returned (.bool (l==l'))∧∃ n,w'=w.drewN n:=by
 by_cases hne:l.length=l'.length
 ·have hb:((l.length:Int) != (l'.length:Int))=false:=by rw [hne];simp
  have HNE:=hid hne
  clear hne
  go_enter Tryz.func50,Tryz.ntmps50
  go_wp2
  go_loopw [5,13] (fun _ i wr=>∃ n:Nat,n≤l.length∧i=.int .i64 n∧l.take n=l'.take n∧∃ m,wr=w.drewN m) (fun _ i _=>l.length-(intOf i).toNat)
  case atStart=>exact ⟨0,by omega,rfl,rfl,0,rfl⟩
  case round=>
   obtain ⟨n,hn,rfl,ht,m,rfl⟩:=hrel
   have HT:=hid ht
   clear ht
   by_cases hlt:n<l.length
   ·have hlt':n<l'.length:=by rw [←HNE.out];exact hlt
    obtain ⟨b,o,rfl,hb1,hc⟩:=hA.word hlt
    obtain ⟨b',o',rfl,hb2,hc'⟩:=hA'.word hlt'
    clear hA hA'
    by_cases heq:nthW l n=nthW l' n
    ·have hbb:(nthW l n != nthW l' n)=false:=by rw [heq];simp
     have HE:=hid heq
     clear heq
     go_wp2
     go_quiet (fail)
     go_wp2
     exact ⟨⟨n+1,by omega,by go_num,Zi6 HT.out hlt hlt' HE.out,m+nq,rfl⟩,by simp [intOf];omega⟩
    ·have hbb:(nthW l n != nthW l' n)=true:=by simpa using heq
     have HB:=hid (Zh3 hbb)
     clear heq
     go_wp2
     go_quiet (fail)
     go_wp2
     go_ret
     exact ⟨by rw [HB.out];rfl,m+nq,by rw [World.drewN_drewN]⟩
   ·obtain rfl:n=l.length:=by omega
    have HB:=hid (Zgh HNE.out HT.out)
    go_wp2
    go_ret
    exact ⟨by rw [HB.out];rfl,m,rfl⟩
 ·have hb:((l.length:Int) != (l'.length:Int))=true:=by simp;omega
  have HB:=hid (Zh4 hne)
  clear hne
  go_enter Tryz.func50,Tryz.ntmps50
  go_wp2
  go_ret
  exact ⟨by rw [HB.out];rfl,0,rfl⟩
theorem Zi8 (A A':Option Addr) (c c':Nat) (l l':List UInt64) (x y:Nat) (B:Nat) (w:World) (hx:l.length=x) (hy:l'.length=y) (hl:x≤9223372036854775807) (hA:Rd w B A (l.map U)) (hA':Rd w B A' (l'.map U)):
  Calls Tryz.prog 50 #[.slice A x c,.slice A' y c'] w fun e w'=>e=.returned (.bool (l==l'))∧∃ n,w'=w.drewN n:=by
 subst hx hy
 exact Zi7 A A' c c' l l' B w hl hA hA'
theorem Zeu (A A':Option Addr) (c c':Nat) (l:List UInt64) (x y:Nat) (B:Nat) (w:World) (hx:l.length=x) (hy:l.length=y) (hl:x≤9223372036854775807) (hA:Rd w B A (l.map U)) (hA':Rd w B A' (l.map U)):
  Calls Tryz.prog 50 #[.slice A x c,.slice A' y c'] w fun e w'=>e=.returned (.bool true)∧∃ n,w'=w.drewN n:=by
 have h:=Zi8 A A' c c' l l x y B w hx hy hl hA hA'
 rw [show (l==l)=true from by simp] at h
 exact h
end Go.Proofs.YtghlnncfigkkaaaGreatDoor
namespace Go.Proofs.YtghlnncfigkkaaaGreatDoor
set_option linter.unusedVariables false
set_option linter.unusedSimpArgs false
open Go.RowKit
def toksE (r:ScanR):List Tok:=match r with | .toks l=>l | _=>[]
def ssE (s:ByteArray):List SI:=(Zao 2000 (toksE (scanM s))).ss.map SI.of
def esE (s:ByteArray):List EI:=(Zao 2000 (toksE (scanM s))).es.map EI.of
def TxtEv (s:ByteArray) (w:World) (e:Ending) (w':World):Prop:=
 Below w.heap.size w w'∧∃ SA sc EA ec ns ne,e=.returned (.tuple #[.agg #[.slice SA ns sc,.slice EA ne ec],.nilIface])∧ns=(ssE s).length∧ne=(esE s).length∧RdSI w' w'.heap.size SA (ssE s)∧RdEI w' w'.heap.size EA (esE s)
theorem Znn (s:ByteArray) (w:World) (hg:ETyped w) (ht:ErrT w) (hs:s.size≤100000) (hl:scanM s=.toks (toksE (scanM s))) (hn:(toksE (scanM s)).length≤160) (he:(Zao 2000 (toksE (scanM s))).err=none):Calls Tryz.prog 16 #[.string s] w (TxtEv s w):=by
 refine (Zi5 s 2000 _ w hs hg ht (by omega) hl he).mono ?_
 rintro e w1 ⟨b1,SA,sc,EA,ec,rfl,oS,oE⟩
 exact ⟨b1,SA,sc,EA,ec,_,_,rfl,by unfold ssE;rw [List.length_map],by unfold esE;rw [List.length_map],oS.int,oE.int⟩
theorem ZgT {W:World} {bs bw bt n m:Nat} {sh:List Int} {el:List UInt64} (hs:W.heap[bs]?=some (.cells (sh.map VI).toArray 3 (0,0))) (hw:W.heap[bw]?=some (.cells (el.map U).toArray 39 (0,0)))
  (ht:W.heap[bt]?=some (.cells #[.slice (some ⟨bs,0,none⟩) n n,.slice (some ⟨bw,0,none⟩) m m] 43 (0,0))) (hn:n=sh.length) (hm:m=el.length) (hn2:n≤1000000) (hm2:m≤1000000):RdTN W W.heap.size (some ⟨bt,0,none⟩) [⟨sh,el⟩]:=by
 refine .inr ⟨bt,0,rfl,(Array.getElem?_eq_some_iff.1 ht).1,fun i x hx => ?_⟩
 have h0:i=0:=by
  have:=(List.getElem?_eq_some_iff.1 hx).1
  simp at this
  exact this
 subst h0
 simp at hx
 subst hx
 refine ⟨⟨_,n,by rw [←hn];exact cell_of_row _ _ 0 _ _ _ ht,Rd.of_block hs (Array.getElem?_eq_some_iff.1 hs).1 (by simp),by dsimp only;omega,by dsimp only;omega,by omega⟩,_,m,by rw [←hm];exact cell_of_row _ _ 1 _ _ _ ht,Rd.of_block hw (Array.getElem?_eq_some_iff.1 hw).1 (by simp),by dsimp only;omega,by dsimp only;omega,by omega⟩
def Zf3 (w:World) (os:List Obj):World:=os.foldl World.alloc w
theorem ZbZ:∀ (os:List Obj) (w:World),Below w.heap.size w (Zf3 w os)
 | [],w=>Below.refl _ _
 | o::os,w=>by
  have h1:Below w.heap.size w (w.alloc o):=(Below.refl _ _).alloc (Nat.le_refl _) _
  exact bnext h1 (ZbZ os (w.alloc o))
theorem Zbk:∀ (os:List Obj) (w:World) (k:Nat) (o:Obj),os[k]?=some o→(Zf3 w os).heap[w.heap.size+k]?=some o
 | [],w,k,o,h=>by simp at h
 | x::os,w,0,o,h=>by
  simp at h
  subst h
  show (Zf3 (w.alloc x) os).heap[w.heap.size]?=_
  rw [(ZbZ os (w.alloc x)).block w.heap.size (by simp)]
  exact heap_alloc_new w x
 | x::os,w,k+1,o,h=>by
  have h1:=Zbk os (w.alloc x) k o (by simpa using h)
  rw [World.size_alloc] at h1
  show (Zf3 (w.alloc x) os).heap[w.heap.size+(k+1)]?=_
  rw [show w.heap.size+(k+1)=w.heap.size+1+k by omega]
  exact h1
def eawA:ByteArray:={ data:=#[105,110,112,117,116,32,48,32,119,32,91,50,93,59,32,105,110,112,117,116,32,49,32,120,32,91,50,93,59,32,108,101,116,32,121,32,61,32,114,101,108,117,40,119,32,64,32,120,32,45,32,51,41,59,32,111,117,116,112,117,116,32,121,59] }
theorem Zi9:scanM eawA=.toks (toksE (scanM eawA)):=by kernel_rfl
theorem Zk0:(toksE (scanM eawA)).length≤160:=by have:(toksE (scanM eawA)).length=(toksE (scanM eawA)).length:=rfl;exact Nat.le_of_ble_eq_true (by kernel_rfl)
theorem Zk1:(Zao 2000 (toksE (scanM eawA))).err=none:=by kernel_rfl
theorem eawA_ss:(ssE eawA).length=4:=by kernel_rfl
theorem eawA_es:(esE eawA).length=6:=by kernel_rfl
theorem Zk2:(esE eawA).all (fun e=>decide (e.num≤18446744073709551615))=true:=by kernel_rfl
theorem Zk3:(ssE eawA).all (fun s=>decide (s.shape.length≤1000000))=true:=by kernel_rfl
theorem Zmm:evalE (ssE eawA) (esE eawA) [⟨[2],[1,2]⟩] [⟨[2],[3,4]⟩]=.inl [⟨[],[8]⟩]:=by kernel_rfl
theorem Zk4:evalE (ssE eawA) (esE eawA) [] []=.inr (201,0,true):=by kernel_rfl
theorem ZiA:∀ e∈esE eawA,e.num≤18446744073709551615:=fun e he=>of_decide_eq_true (List.all_eq_true.1 Zk2 e he)
theorem ZiB:∀ s∈ssE eawA,s.shape.length≤1000000:=fun s hs=>of_decide_eq_true (List.all_eq_true.1 Zk3 s hs)
attribute [irreducible] ssE esE
theorem Zgi (w:World) (hg:ETyped w) (ht:ErrT w):Calls Tryz.prog 22 #[] w fun e w'=>e=.returned (.bool true)∧Below w.heap.size w w':=by
 have HG:=hid hg
 have HT:=hid ht
 clear hg ht
 go_enter Tryz.func22,Tryz.ntmps22
 go_wp2_with fail
 refine (Znn eawA w HG.out HT.out (by decide) Zi9 Zk0 Zk1).mono ?_
 rintro e w1 ⟨b1,SA,sc,EA,ec,ns,ne,rfl,hns,hne,hS,hE⟩
 rw [eawA_ss] at hns
 rw [eawA_es] at hne
 subst hns hne
 have HG1:=hid (HG.out.next b1)
 have HT1:=hid (HT.out.next b1)
 have HB1:=hid b1
 have HS1:=hid hS
 have HE1:=hid hE
 have HEV:=hid (show ∀ (W:World) (I0 I1:Option Addr) (m0 m1 k0 k1:Nat) (in0 in1:List TN),Below w1.heap.size w1 W→m0=in0.length→m1=in1.length→m0≤1000000→m1≤1000000→RdTN W W.heap.size I0 in0→RdTN W W.heap.size I1 in1→Calls Tryz.prog 23 #[.agg #[.slice SA 4 sc,.slice EA 6 ec],.agg #[.slice I0 m0 k0,.slice I1 m1 k1]] W (ZiF W (evalE (ssE eawA) (esE eawA) in0 in1)) from fun W I0 I1 m0 m1 k0 k1 in0 in1 hW e1 e2 e3 e4 e5 e6=>
  Zf6 SA EA 4 6 sc ec (ssE eawA) (esE eawA) I0 I1 m0 m1 k0 k1 in0 in1 W eawA_ss.symm eawA_es.symm (by omega) (by omega) (HS1.out.next hW) (HE1.out.next hW) (HG1.out.next hW) ZiA ZiB e1 e2 e3 e4 e5 e6)
 clear b1 hS hE
 go_wp2_with fail
 obtain ⟨w3,hw3⟩:∃ w3,w3=(((((((w1.alloc (.cells #[.slice SA 4 sc,.slice EA 6 ec] 26)).alloc (.cells #[.int .i64 2] 3)).alloc (.cells #[.int .u64 1,.int .u64 2] 39)).alloc (.cells #[.slice (some ⟨w1.heap.size+1,0,none⟩) 1 1,.slice (some ⟨w1.heap.size+1+1,0,none⟩) 2 2] 43)).alloc (.cells #[.int .i64 2] 3)).alloc (.cells #[.int .u64 3,.int .u64 4] 39)).alloc (.cells #[.slice (some ⟨w1.heap.size+1+1+1+1,0,none⟩) 1 1,.slice (some ⟨w1.heap.size+1+1+1+1+1,0,none⟩) 2 2] 43)):=⟨_,rfl⟩
 rw [←hw3]
 obtain ⟨L3,hL3⟩:∃ L3:List Obj,L3=[.cells #[.slice SA 4 sc,.slice EA 6 ec] 26,.cells #[.int .i64 2] 3,.cells #[.int .u64 1,.int .u64 2] 39,.cells #[.slice (some ⟨w1.heap.size+1,0,none⟩) 1 1,.slice (some ⟨w1.heap.size+1+1,0,none⟩) 2 2] 43,.cells #[.int .i64 2] 3,.cells #[.int .u64 3,.int .u64 4] 39,.cells #[.slice (some ⟨w1.heap.size+1+1+1+1,0,none⟩) 1 1,.slice (some ⟨w1.heap.size+1+1+1+1+1,0,none⟩) 2 2] 43]:=⟨_,rfl⟩
 have hw3':w3=Zf3 w1 L3:=by rw [hw3,hL3];rfl
 have hb3:Below w1.heap.size w1 w3:=by rw [hw3'];exact ZbZ _ _
 have h0:w3.heap[w1.heap.size]?=some (.cells #[.slice SA 4 sc,.slice EA 6 ec] 26 (0,0)):=by rw [hw3'];exact Zbk _ _ 0 _ (by rw [hL3];rfl)
 have h1:w3.heap[w1.heap.size+1]?=some (.cells #[.int .i64 2] 3 (0,0)):=by rw [hw3'];exact Zbk _ _ 1 _ (by rw [hL3];rfl)
 have h2:w3.heap[w1.heap.size+1+1]?=some (.cells #[.int .u64 1,.int .u64 2] 39 (0,0)):=by rw [hw3'];exact Zbk _ _ 2 _ (by rw [hL3];rfl)
 have h3:w3.heap[w1.heap.size+1+1+1]?=some (.cells #[.slice (some ⟨w1.heap.size+1,0,none⟩) 1 1,.slice (some ⟨w1.heap.size+1+1,0,none⟩) 2 2] 43 (0,0)):=by rw [hw3'];exact Zbk _ _ 3 _ (by rw [hL3];rfl)
 have h4:w3.heap[w1.heap.size+1+1+1+1]?=some (.cells #[.int .i64 2] 3 (0,0)):=by rw [hw3'];exact Zbk _ _ 4 _ (by rw [hL3];rfl)
 have h5:w3.heap[w1.heap.size+1+1+1+1+1]?=some (.cells #[.int .u64 3,.int .u64 4] 39 (0,0)):=by rw [hw3'];exact Zbk _ _ 5 _ (by rw [hL3];rfl)
 have h6:w3.heap[w1.heap.size+1+1+1+1+1+1]?=some (.cells #[.slice (some ⟨w1.heap.size+1+1+1+1,0,none⟩) 1 1,.slice (some ⟨w1.heap.size+1+1+1+1+1,0,none⟩) 2 2] 43 (0,0)):=by rw [hw3'];exact Zbk _ _ 6 _ (by rw [hL3];rfl)
 have r0:RdTN w3 w3.heap.size (some ⟨w1.heap.size+1+1+1,0,none⟩) [⟨[2],[1,2]⟩]:=ZgT (sh:=[2]) (el:=[1,2]) h1 h2 h3 rfl rfl (by decide) (by decide)
 have r1:RdTN w3 w3.heap.size (some ⟨w1.heap.size+1+1+1+1+1+1,0,none⟩) [⟨[2],[3,4]⟩]:=ZgT (sh:=[2]) (el:=[3,4]) h4 h5 h6 rfl rfl (by decide) (by decide)
 have HEV1:=hid (HEV.out w3 _ _ 1 1 1 1 [⟨[2],[1,2]⟩] [⟨[2],[3,4]⟩] hb3 rfl rfl (by decide) (by decide) r0 r1)
 rw [Zmm] at HEV1
 have HB3:=hid (bnext HB1.out hb3)
 have HB13:=hid hb3
 have HH0:=hid h0
 clear hw3 hw3' hL3 hb3 h0 h1 h2 h3 h4 h5 h6 r0 r1
 refine HEV1.out.mono ?_
 rintro e w4 ⟨hb4,A,c,rfl,hO⟩
 have HB4:=hid (bnext HB3.out hb4)
 have HB14:=hid (bnext HB13.out hb4)
 have HO:=hid hO
 have d0:=cell_of_row _ _ 0 _ _ _ ((hb4.block _ (Array.getElem?_eq_some_iff.1 HH0.out).1).trans HH0.out)
 have d1:=cell_of_row _ _ 1 _ _ _ ((hb4.block _ (Array.getElem?_eq_some_iff.1 HH0.out).1).trans HH0.out)
 have HEV2:=hid (HEV.out w4 none none 0 0 0 0 [] [] HB14.out rfl rfl (by decide) (by decide) (RdTN.nil _ _ _) (RdTN.nil _ _ _))
 rw [Zk4] at HEV2
 clear hb4 hO
 go_wp2_with fail
 refine HEV2.out.mono ?_
 rintro e w5 ⟨hb5,ve,rfl,hve⟩
 obtain ⟨ti,xi,rfl⟩:=hve.iface
 have HB5:=hid (bnext HB4.out hb5)
 have HO5:=hid (HO.out.next hb5)
 have HVE:=hid hve
 clear hb5 hve d0 d1
 obtain ⟨g,A1,c1,A2,c2,rfl,hg5,u0,u1,o1,o2⟩:=HO5.out.at_ (j:=0) (x:=⟨[],[8]⟩) rfl
 dsimp only [List.length_cons,List.length_nil] at u0 u1
 simp only [Nat.zero_mul,Nat.zero_add] at u0 u1
 have HW:=hid (Zeu A2 (some ⟨w5.heap.size,0,none⟩) c2 1 [8] 1 1 (w5.heap.size+1) (w5.alloc (.cells #[.int .u64 8] 39)) rfl rfl (by decide) ((o2.rd.alloc (Nat.le_refl _) _).more (Nat.le_succ _)) (Rd.of_block (heap_alloc_new w5 _) (by simp) (by simp)))
 have HIS:=hid (fun q=>Zn6 [(evalN,(0:Int))] 201 201 (.iface ti xi) ((w5.alloc (.cells #[.int .u64 8] 39)).drewN q) (HVE.out.next (Zaa ((Below.refl _ _).alloc (Nat.le_refl _) _) q)))
 have HFB:=hid (fun q=>Zaa (HB5.out.alloc HB5.out.size (.cells #[.int .u64 8] 39)) q)
 clear o1 o2
 go_wp2_with (first
  | (go_at_call 50;refine HW.out.mono ?_;rintro e w' ⟨rfl,qq,rfl⟩)
  | (go_at_call 24;refine (HIS.out qq).mono ?_;rintro e w' ⟨rfl,rfl⟩))
 go_ret
 exact ⟨rfl,HFB.out _⟩
end Go.Proofs.YtghlnncfigkkaaaGreatDoor
namespace Go.Proofs.YtghlnncfigkkaaaGreatDoor
set_option linter.unusedVariables false
set_option linter.unusedSimpArgs false
open Go.RowKit
theorem ZgU (x:UInt64):IntKind.u64.wrap ((x.toNat:Int)*11400714819323198485)=((mulW x 11400714819323198485).toNat:Int):=Zc4 x 11400714819323198485
theorem Zk5 (x:UInt64):IntKind.u64.wrap ((x.toNat:Int)-3)=((subW x 3).toNat:Int):=Zfc x 3
attribute [local go_sem ↓] ZgU Zk5
theorem ZiC {n:Nat} (h:n≤1000000):IntKind.u64.wrap ((n:Int)*11400714819323198485)=((mulW (UInt64.ofNat n) 11400714819323198485).toNat:Int):=by
 have e:((UInt64.ofNat n).toNat:Int)=(n:Int):=by
  rw [UInt64.toNat_ofNat']
  omega
 rw [←ZgU,e]
def Zbq (ws:List UInt64) (k:Nat):UInt64:=if k<ws.length then nthW ws k else subW (mulW (UInt64.ofNat k) 11400714819323198485) 3
def fillP:List (List Int)→List UInt64→Nat→List TN
 | [],_,_=>[]
 | s::r,ws,k=>⟨s,(List.range (Zad s).toNat).map fun j=>Zbq ws (k+j)⟩::fillP r ws (k+(Zad s).toNat)
def fillK:List (List Int)→Nat→Nat
 | [],k=>k
 | s::r,k=>fillK r (k+(Zad s).toNat)
theorem ZeS (s:List Int):0≤Zad s∧Zad s≤32:=by
 unfold Zad
 have:=ZbQ s 1 (by omega) (by omega)
 split
 ·omega
 ·split <;> omega
theorem Zev (ws:List UInt64):∀ (sh:List (List Int)) (k i:Nat) (s:List Int),sh[i]?=some s →
  fillP (sh.take (i+1)) ws k=fillP (sh.take i) ws k++[⟨s,(List.range (Zad s).toNat).map fun j=>Zbq ws (fillK (sh.take i) k+j)⟩]∧fillK (sh.take (i+1)) k=fillK (sh.take i) k+(Zad s).toNat
 | [],k,i,s,h=>by simp at h
 | x::r,k,0,s,h=>by
  simp at h
  subst h
  exact ⟨rfl,rfl⟩
 | x::r,k,i+1,s,h=>by
  obtain ⟨h1,h2⟩:=Zev ws r (k+(Zad x).toNat) i s (by simpa using h)
  constructor
  ·rw [List.take_succ_cons,List.take_succ_cons]
   show _::fillP (r.take (i+1)) ws _=_::fillP (r.take i) ws _++_
   rw [h1]
   rfl
  ·rw [List.take_succ_cons,List.take_succ_cons]
   exact h2
theorem ZgV:∀ (sh:List (List Int)) (k:Nat),fillK sh k≤k+32*sh.length
 | [],k=>by show k≤_;omega
 | s::r,k=>by
  have h1:=ZgV r (k+(Zad s).toNat)
  have h2:=ZeS s
  show fillK r _≤_
  rw [List.length_cons]
  omega
theorem ZdI (ws:List UInt64):∀ (sh:List (List Int)) (k:Nat),(fillP sh ws k).length=sh.length
 | [],_=>rfl
 | s::r,k=>congrArg (· + 1) (ZdI ws r _)
attribute [irreducible] Zbq
theorem ZiD {ws:List UInt64} {k:Nat} (h:k<ws.length):Zbq ws k=nthW ws k:=by unfold Zbq;rw [if_pos h]
theorem Zh5 {ws:List UInt64} {k:Nat} (h:¬ k<ws.length):Zbq ws k=subW (mulW (UInt64.ofNat k) 11400714819323198485) 3:=by unfold Zbq;rw [if_neg h]
theorem ZgW {w:World} {base c:Nat} {e:TypeId} {A:Option Addr} {xs:List Value} {g k:Nat} {v:Value} (h:Own w base e A c xs) (hA:∀ q,blk A=some q→q≠g):Own (w.setCell ⟨g,k,none⟩ v) base e A c xs:=by
 refine ⟨h.1,?_⟩
 rcases h.2 with hv | ⟨g',cap',cur,hv,hb,hh,r⟩
 ·exact .inl hv
 ·exact .inr ⟨g',cap',cur,hv,hb,(ZaS _ _ _ (hA g' (by injection hv with a;rw [a];rfl))).trans hh,r⟩
theorem ZgX (A:Option Addr) (n c:Nat) (shs:List (List Int)) (Aw:Option Addr) (m cw:Nat) (ws:List UInt64) (w:World) (hn:n=shs.length) (hm:m=ws.length) (hl:n≤1000) (hl2:m≤9223372036854775807) (h:RdSh w A shs) (hw:Rd w w.heap.size Aw (ws.map U)):
  Calls Tryz.prog 25 #[.slice A n c,.slice Aw m cw] w fun e w'=>Below w.heap.size w w'∧∃ A' c',e=.returned (.slice A' n c')∧OutT w' w.heap.size A' n c' (fillP shs ws 0):=by
 have HN:=hid hn
 have HM:=hid hm
 have H:=hid h
 have HW:=hid hw
 clear hn hm h hw
 go_enter Tryz.func25,Tryz.ntmps25
 go_wp2
 go_loopw [5,6,13] (fun ov kv iv wr=>∃ (i:Nat) (A':Option Addr) (c':Nat),i≤n∧iv=.int .i64 i∧kv=.int .i64 (fillK (shs.take i) 0)∧ov=.slice A' i c'∧OutT wr w.heap.size A' i c' (fillP (shs.take i) ws 0)∧Below w.heap.size w wr) (fun _ _ iv _=>n-(intOf iv).toNat)
 case atStart=>exact ⟨0,none,0,by omega,rfl,rfl,rfl,OutT.nil _ _,Below.refl _ _⟩
 case round=>
  obtain ⟨v0,rfl⟩:∃ v0:World,v0=wr:=⟨_,rfl⟩
  obtain ⟨i,A',c',hi,rfl,rfl,rfl,hO,hb⟩:=hrel
  have HO:=hid hO
  have HB:=hid hb
  clear hO hb
  by_cases hlt:i<n
  ·have ht:shs[i]?=some (shs[i]'(by rw [←HN.out];exact hlt)):=List.getElem?_eq_getElem _
   obtain ⟨s,hs⟩:∃ d,d=shs[i]'(by rw [←HN.out];exact hlt):=⟨_,rfl⟩
   rw [←hs] at ht
   obtain ⟨K,hK⟩:∃ K,K=fillK (shs.take i) 0:=⟨_,rfl⟩
   have hK2:K≤32000:=by
    have:=ZgV (shs.take i) 0
    rw [List.length_take] at this
    omega
   have hft:=Zev ws shs 0 i s ht
   rw [←hK] at hft ⊢
   obtain ⟨bs,os,A1,k1,rfl,hbs,cs1,cs2,cs3⟩:∃ bs os A1 k1,A=some ⟨bs,os,none⟩∧bs<v0.heap.size∧v0.cell? ⟨bs,os+i,none⟩=some (.slice A1 s.length k1)∧Rd v0 v0.heap.size A1 (s.map VI)∧s.length≤1000000:=by
    rcases H.out.next HB.out with h | ⟨b,o,hA,hlt',hc⟩
    ·rw [h] at ht;simp at ht
    ·obtain ⟨A1,k1,e1,e2,e3⟩:=hc i s ht
     exact ⟨b,o,A1,k1,hA,hlt',e1,e2,e3⟩
   obtain ⟨sl,hsl⟩:∃ sl,sl=s.length:=⟨_,rfl⟩
   rw [←hsl] at cs1 cs3
   have HSL:=hid hsl
   have HCS:=hid cs2
   have HFT:=hid hft
   have i0:(0:Int)≤(i:Int):=by omega
   have i1:(i:Int)<(n:Int):=by omega
   clear ht hs hK hft cs2 hsl
   obtain ⟨eq,heq⟩:∃ eq:Nat,(eq:Int)=Zad s:=⟨(Zad s).toNat,by have:=ZeS s;omega⟩
   have heq2:(Zad s).toNat=eq:=by omega
   have heq3:eq≤32:=by have:=ZeS s;omega
   rw [heq2] at HFT
   have HEL:=hid (fun W (hW:Below v0.heap.size v0 W)=>ZbE A1 sl k1 s W HSL.out (by omega) (HCS.out.next hW))
   rw [←heq] at HEL
   clear heq heq2
   go_upto_region 7 with (at_builtin;(refine appV rfl (.tmp 16) (.tmp 20) rfl v0.heap.size (some ⟨v0.heap.size,0,none⟩) 0 [] 0 rfl rfl (Own.made v0 3 (Nat.le_refl _)) A1 sl k1 v0.heap.size s HSL.out.symm rfl (HCS.out.alloc (Nat.le_refl _) _) (fun e=>by have:=ZaW HCS.out e;rw [HSL.out];exact this) (by omega) (by simp) ?_);intro A3 k3 w3 o3 g3 h3;have O3:=hid (show Own w3 v0.heap.size 3 A3 k3 (s.map VI) from o3);have B3:=hid (Zal ((Below.refl v0.heap.size v0).alloc (Nat.le_refl _) _) g3 (by simp) (fun k hk=>by cases hk;exact Nat.le_refl _));clear o3 g3 h3)
   obtain ⟨w4,hw4⟩:∃ w4,w4=w3.alloc (.cells #[.slice A3 sl k3,.slice none 0 0] 43):=⟨_,rfl⟩
   have hb4:Below w3.heap.size w3 w4:=by rw [hw4];exact (Below.refl _ _).alloc (Nat.le_refl _) _
   have htb:w4.heap[w3.heap.size]?=some (.cells #[.slice A3 sl k3,.slice none 0 0] 43 (0,0)):=by rw [hw4];exact heap_alloc_new w3 _
   rw [←hw4]
   obtain ⟨tb,hte⟩:∃ tb,tb=w3.heap.size:=⟨_,rfl⟩
   rw [←hte] at htb ⊢
   have HTE:=hid hte
   have HTB:=hid htb
   have HB4:=hid hb4
   have B4:=hid (bnext B3.out hb4)
   have HTL:=hid (show tb<w4.heap.size from (Array.getElem?_eq_some_iff.1 htb).1)
   have cs4:=(B4.out.cell (p:=⟨bs,os+i,none⟩) hbs).trans cs1
   clear hte htb hb4 hw4 cs1 hbs
   go_upto_region 8 with (go_at_call 58;refine (HEL.out _ B4.out).mono ?_;rintro e w' ⟨rfl,rfl⟩)
   clear cs4
   go_loopw [6,9] (fun kv nv wx=>∃ (j:Nat) (Bw:Option Addr) (cb:Nat),j≤eq∧kv=.int .i64 ((K+j:Nat):Int)∧nv=.int .i64 ((eq-j:Nat):Int)∧wx.heap[tb]?=some (.cells #[.slice A3 sl k3,.slice Bw j cb] 43 (0,0))∧Own wx w4.heap.size 39 Bw cb (((List.range j).map fun t=>Zbq ws (K+t)).map U)∧Below w3.heap.size w3 wx∧w4.heap.size≤wx.heap.size) (fun _ nv _=>(intOf nv).toNat)
   case atStart=>exact ⟨0,none,0,by omega,rfl,rfl,HTB.out,Own.nil _ _ _,HB4.out,Nat.le_refl _⟩
   case round=>
    obtain ⟨j,Bw,cb,hj,rfl,rfl,hT,hOw,hBx,hSx⟩:=hrel
    have HTW:=hid hT
    have HOW:=hid hOw
    have HBX:=hid hBx
    have HSX:=hid hSx
    have q0:=cell_of_row _ _ 0 _ _ _ hT
    have q1:=cell_of_row _ _ 1 _ _ _ hT
    clear hT hOw hBx hSx
    have HBW:=hid (show Below w.heap.size w wr from bnext HB.out (B3.out.trans (HBX.out.mono B3.out.size)))
    by_cases hlt2:j<eq
    ·obtain ⟨kj,hkj⟩:∃ kj,kj=K+j:=⟨_,rfl⟩
     obtain ⟨dj,hdj⟩:∃ dj,dj=eq-j:=⟨_,rfl⟩
     rw [←hkj,←hdj]
     have hkb:kj≤1000000:=by omega
     have hp1:=ZiC hkb
     have hwd:IntKind.i64.wrap ((dj:Int)-1)=(dj:Int)-1:=ZaE (by omega) (by omega)
     have t0:(0:Int)<(dj:Int):=by omega
     have HNJ:=hid (show dj=eq-j from hdj)
     have HKJ:=hid (show kj=K+j from hkj)
     by_cases hin:kj<m
     ·obtain ⟨bw,ow,rfl,hbw,cw⟩:=(HW.out.below HBW.out).word (k:=kj) (by rw [←HM.out];exact hin)
      have HVL:=hid (show Zbq ws (K+j)=nthW ws kj from by rw [←hkj];exact ZiD (by rw [←HM.out];exact hin))
      have x0:(0:Int)≤(kj:Int):=by omega
      have x1:(kj:Int)<(m:Int):=by omega
      clear hbw hkj hdj
      go_wp2_with (at_builtin;(refine app64 rfl (.tmp 45) (.tmp 47) rfl w4.heap.size Bw cb ((List.range j).map fun t=>Zbq ws (K+t)) j (by simp) rfl (HOW.out.next ((Below.refl _ _).alloc (Nat.le_refl _) _)) (some ⟨wr.heap.size,0,none⟩) 1 1 (wr.heap.size+1) [nthW ws kj] rfl rfl (ZbC _ _) (fun e=>by cases e) (by omega) (by have:=HSX.out;simp;omega) ?_);intro A9 k9 w9 o9 g9 h9;have O9:=hid o9;have B9:=hid (Zal ((Below.refl w4.heap.size wr).alloc HSX.out _) g9 (by have:=HSX.out;simp;omega) (fun k hk=>(HOW.out.lt k hk).1));have t9:=(B9.out.block tb HTL.out).trans HTW.out;have q9:=cell_of_row _ _ 1 _ _ _ t9;have f9:w9.frozen? ⟨tb,1,none⟩=false:=(by simp [World.frozen?,t9]);have HT9:=hid t9;clear o9 g9 h9 t9)
      obtain ⟨W,hW⟩:∃ W,W=w9.setCell ⟨tb,1,none⟩ (.slice A9 (j+1) k9):=⟨_,rfl⟩
      have hWt:W.heap[tb]?=some (.cells #[.slice A3 sl k3,.slice A9 (j+1) k9] 43 (0,0)):=by rw [hW];simp [World.setCell,Array.getElem?_modify,HT9.out]
      have hWo:Own W w4.heap.size 39 A9 k9 (((List.range (j+1)).map fun t=>Zbq ws (K+t)).map U):=by
       have h:=O9.out
       rw [←HVL.out] at h
       rw [List.range_succ,List.map_append,hW]
       exact ZgW h (fun k hk=>by have:=(O9.out.lt k hk).1;have:=HTL.out;omega)
      have hWb:Below w3.heap.size w3 W:=by
       rw [hW]
       exact Zaf (HBX.out.trans (B9.out.mono (by have:=HB4.out.size;omega))) (by rw [←HTE.out];exact Nat.le_refl _) _
      have hWs:w4.heap.size≤W.heap.size:=by
       rw [hW]
       have:=HSX.out
       have:=B9.out.size
       simp [World.setCell]
       omega
      try rw [←hW]
      exact ⟨⟨j+1,A9,k9,by omega,(by have:=HKJ.out;exact congrArg (Value.int .i64) (by omega)),(by have:=HNJ.out;exact congrArg (Value.int .i64) (by omega)),hWt,hWo,hWb,hWs⟩,by simp [intOf];omega⟩
     ·have x1:¬ (kj:Int)<(m:Int):=by omega
      have HVL:=hid (show Zbq ws (K+j)=subW (mulW (UInt64.ofNat kj) 11400714819323198485) 3 from by rw [←hkj];exact Zh5 (by rw [←HM.out];exact hin))
      clear hkj hdj
      go_wp2_with (at_builtin;(refine app64 rfl (.tmp 45) (.tmp 47) rfl w4.heap.size Bw cb ((List.range j).map fun t=>Zbq ws (K+t)) j (by simp) rfl (HOW.out.next ((Below.refl _ _).alloc (Nat.le_refl _) _)) (some ⟨wr.heap.size,0,none⟩) 1 1 (wr.heap.size+1) [subW (mulW (UInt64.ofNat kj) 11400714819323198485) 3] rfl rfl (ZbC _ _) (fun e=>by cases e) (by omega) (by have:=HSX.out;simp;omega) ?_);intro A9 k9 w9 o9 g9 h9;have O9:=hid o9;have B9:=hid (Zal ((Below.refl w4.heap.size wr).alloc HSX.out _) g9 (by have:=HSX.out;simp;omega) (fun k hk=>(HOW.out.lt k hk).1));have t9:=(B9.out.block tb HTL.out).trans HTW.out;have q9:=cell_of_row _ _ 1 _ _ _ t9;have f9:w9.frozen? ⟨tb,1,none⟩=false:=(by simp [World.frozen?,t9]);have HT9:=hid t9;clear o9 g9 h9 t9)
      obtain ⟨W,hW⟩:∃ W,W=w9.setCell ⟨tb,1,none⟩ (.slice A9 (j+1) k9):=⟨_,rfl⟩
      have hWt:W.heap[tb]?=some (.cells #[.slice A3 sl k3,.slice A9 (j+1) k9] 43 (0,0)):=by rw [hW];simp [World.setCell,Array.getElem?_modify,HT9.out]
      have hWo:Own W w4.heap.size 39 A9 k9 (((List.range (j+1)).map fun t=>Zbq ws (K+t)).map U):=by
       have h:=O9.out
       rw [←HVL.out] at h
       rw [List.range_succ,List.map_append,hW]
       exact ZgW h (fun k hk=>by have:=(O9.out.lt k hk).1;have:=HTL.out;omega)
      have hWb:Below w3.heap.size w3 W:=by
       rw [hW]
       exact Zaf (HBX.out.trans (B9.out.mono (by have:=HB4.out.size;omega))) (by rw [←HTE.out];exact Nat.le_refl _) _
      have hWs:w4.heap.size≤W.heap.size:=by
       rw [hW]
       have:=HSX.out
       have:=B9.out.size
       simp [World.setCell]
       omega
      try rw [←hW]
      exact ⟨⟨j+1,A9,k9,by omega,(by have:=HKJ.out;exact congrArg (Value.int .i64) (by omega)),(by have:=HNJ.out;exact congrArg (Value.int .i64) (by omega)),hWt,hWo,hWb,hWs⟩,by simp [intOf];omega⟩
    ·obtain rfl:j=eq:=by omega
     rw [Nat.sub_self]
     have HNW:=hid (show fillP (shs.take (i+1)) ws 0=fillP (shs.take i) ws 0++[⟨s,(List.range j).map fun t=>Zbq ws (K+t)⟩]∧fillK (shs.take (i+1)) 0=K+j from HFT.out)
     have HV0:=hid (show Below v0.heap.size v0 wr from B3.out.trans (HBX.out.mono B3.out.size))
     have HO3:=hid (O3.out.below HBX.out (fun k hk=>(O3.out.lt k hk).2))
     go_wp2_with (at_builtin;(refine Zno rfl (.tmp 52) (.tmp 54) rfl w.heap.size A' c' i (fillP (shs.take i) ws 0) rfl v0 wr HO.out HB.out.size HV0.out A3 Bw k3 cb sl j ⟨s,(List.range j).map fun t=>Zbq ws (K+t)⟩ HSL.out (by simp) (by have:=HSL.out;show s.length≤_;omega) HO3.out (HOW.out.more (by have:=B4.out.size;omega)) (ZgY (fun k hk=>(O3.out.lt k hk).2) (fun k hk=>by have:=(HOW.out.lt k hk).1;have:=HB4.out.size;omega)) rfl rfl (by omega) ?_);intro A8 c8 w8 o8 g8 h8;have O8:=hid o8;have B8:=hid (Zal ((bnext HB.out HV0.out).alloc (bnext HB.out HV0.out).size _) g8 (Nat.le_trans (bnext HB.out HV0.out).size (by simp)) (fun k hk=>(HO.out.lt k hk).1));clear o8 g8 h8)
     exact ⟨⟨i+1,A8,c8,by omega,rfl,by rw [HNW.out.2];exact congrArg (Value.int .i64) (by omega),rfl,by rw [HNW.out.1];exact O8.out,B8.out⟩,by simp [intOf];omega⟩
  ·obtain rfl:i=n:=by omega
   go_wp2
   go_ret
   refine ⟨HB.out,A',c',rfl,?_⟩
   have h9:=HO.out
   rwa [HN.out,List.take_length,←HN.out] at h9
end Go.Proofs.YtghlnncfigkkaaaGreatDoor
namespace Go.Proofs.YtghlnncfigkkaaaGreatDoor
set_option linter.unusedVariables false
set_option linter.unusedSimpArgs false
open Go.RowKit
theorem OutT.rd {w:World} {base n c:Nat} {A:Option Addr} {l:List TN} (h:OutT w base A n c l):RdTN w w.heap.size A l:=by
 by_cases hl:l=[]
 ·exact .inl hl
 ·have h0:l[0]?=some (l[0]'(List.length_pos_iff.2 hl)):=List.getElem?_eq_getElem _
  obtain ⟨g,_,_,_,_,rfl,hg,_⟩:=h.at_ h0
  refine .inr ⟨g,0,rfl,hg,fun i x hx => ?_⟩
  obtain ⟨g',A1,c1,A2,c2,e,_,k0,k1,o1,o2⟩:=h.at_ hx
  injection e with e
  injection e with e _ _
  subst e
  have u1:=ZfY o1
  have u2:=ZfY o2
  rw [List.length_map] at u1 u2
  exact ⟨⟨A1,c1,by rw [Nat.zero_add];exact k0,o1.rd,by omega,u1.1,u1.2⟩,A2,c2,by rw [Nat.zero_add];exact k1,o2.rd,by omega,u2.1,u2.2⟩
structure TxtOk (s:ByteArray):Prop where
 hs:s.size≤100000
 hl:scanM s=.toks (toksE (scanM s))
 hn:(toksE (scanM s)).length≤160
 he:(Zao 2000 (toksE (scanM s))).err=none
 h1:(ssE s).length≤100000
 h2:(esE s).length≤100000
 h3:(esE s).all (fun e=>decide (e.num≤18446744073709551615))=true
 h4:(ssE s).all (fun s=>decide (s.shape.length≤1000000))=true
 h5:(ssE s).length≤1000
end Go.Proofs.YtghlnncfigkkaaaGreatDoor
