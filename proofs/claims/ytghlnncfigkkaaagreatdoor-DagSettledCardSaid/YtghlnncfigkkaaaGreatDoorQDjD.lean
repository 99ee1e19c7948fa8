/-
 twainref15.Same at equal rows.
-/
import Derived.Test.YtghlnncfigkkaaaGreatDoorQNum
import Derived.Test.YtghlnncfigkkaaaGreatDoorQEvS
import Derived.Test.YtghlnncfigkkaaaGreatDoorQEvB
import Derived.Test.YtghlnncfigkkaaaGreatDoorQEvE
import Derived.Test.YtghlnncfigkkaaaGreatDoorQTreeB
import Derived.Test.YtghlnncfigkkaaaGreatDoorQEvC
import Derived.Test.YtghlnncfigkkaaaGreatDoorQIs
import Derived.Test.YtghlnncfigkkaaaGreatDoorRows
import Derived.BigQuiet
import Derived.Deep.QuietTactic
import Derived.Test.YtghlnncfigkkaaaGreatDoorQDgE
import Derived.Test.YtghlnncfigkkaaaGreatDoorQDjA
set_option maxRecDepth 100000
set_option maxHeartbeats 4000000
set_option linter.unusedVariables false
set_option linter.unusedSimpArgs false
namespace Go.Proofs.YtghlnncfigkkaaaGreatDoor
open Go.RowKit
theorem Zi5 (s:ByteArray) (F:Nat) (l:List Tok) (w:World) (hs:s.size≤100000) (hg:ETyped w) (ht:ErrT w) (hF:12*l.length+20≤F) (hl:scanM s=.toks l) (he:(Zao F l).err=none):
  Calls Tryz.prog 16 #[.string s] w fun e w'=>Below w.heap.size w w'∧∃ SA sc EA ec,e=.returned (.tuple #[.agg #[.slice SA (Zao F l).ss.length sc,.slice EA (Zao F l).es.length ec],.nilIface])∧OwnS w' w.heap.size SA sc (Zao F l).ss∧OwnE w' w.heap.size EA ec (Zao F l).es:=by
 refine (Zhh s F w hs hg ht (fun l' h'=>by rw [hl] at h';injection h' with h';subst h';exact hF)).mono ?_
 rintro e w' ⟨hb,h⟩
 rcases h with ⟨l',e1,e2,r⟩ | ⟨l',c,p,v,e1,e2,r⟩ | ⟨c,p,v,e1,r⟩
 ·rw [hl] at e1;injection e1 with e1;subst e1
  exact ⟨hb,r⟩
 ·rw [hl] at e1;injection e1 with e1;subst e1
  rw [he] at e2;cases e2
 ·rw [hl] at e1;cases e1
theorem Zf2 (w:World) (ts:Array TypeId) (t:TypeId) (a:Nat):(Builtin.min_ ts t #[.int .i64 (a:Int),.int .i64 4200]).run Tryz.prog w=.ok (.int .i64 (minN a 4200:Nat)) w:=Zg3 w ts t a 4200
attribute [local go_sem ↓] Zf2
theorem Zml (s:ByteArray) (hsz:s.size≤maxLen) (w:World):Calls Tryz.prog 17 #[.string s] w fun e w'=>e=.returned (.string (s.extract 0 (minN s.size 4200)))∧w=w':=by
 obtain ⟨m1,m2,m3⟩:=Zjt s.size 4200
 obtain ⟨M,hM⟩:=Ky (minN s.size 4200)
 rw [←hM] at m1 m2 ⊢
 have hm:=hM.symm
 clear m3 hM
 go_enter Tryz.func17,Tryz.ntmps17
 go_wp2
 go_ret
 exact ⟨rfl,rfl⟩
end Go.Proofs.YtghlnncfigkkaaaGreatDoor
namespace Go.Proofs.YtghlnncfigkkaaaGreatDoor
open Go.RowKit
attribute [local go_sem ↓] Zch ZbA
theorem ZgS (l:List UInt64) {k:Nat} (h:k<l.length):nthW l k=l[k]:=by
 rw [Zbo,List.getD_eq_getElem?_getD,Kad h];rfl
theorem Zi6 {l l':List UInt64} {k:Nat} (ht:l.take k=l'.take k) (h:k<l.length) (h':k<l'.length) (he:nthW l k=nthW l' k):l.take (k+1)=l'.take (k+1):=by
 rw [List.take_succ_eq_append_getElem h,List.take_succ_eq_append_getElem h',ht,←ZgS l h,←ZgS l' h',he]
theorem Zgh {l l':List UInt64} (he:l.length=l'.length) (ht:l.take l.length=l'.take l.length):(l==l')=true:=by
 rw [List.take_length,he,List.take_length] at ht
 simpa using ht
theorem Zh3 {l l':List UInt64} {k:Nat} (h:(nthW l k != nthW l' k)=true):(l==l')=false:=by
 rw [Kaj]
 rintro rfl
 simp at h
theorem Zh4 {l l':List UInt64} (h:l.length≠l'.length):(l==l')=false:=by
 rw [Kaj]
 rintro rfl
 exact h rfl
theorem Zi7 (A A':Option Addr) (c c':Nat) (l l':List UInt64) (B:Nat) (w:World) (hl:l.length≤9223372036854775807) (hA:Rd w B A (l.map U)) (hA':Rd w B A' (l'.map U)):
  Calls Tryz.prog 50 #[.slice A l.length c,.slice A' l'.length c'] w fun e w'=>e=.returned (.bool (l==l'))∧∃ n,w'=w.drewN n:=by
 by_cases hne:l.length=l'.length
 ·have hb:((l.length:Int) != (l'.length:Int))=false:=by rw [hne];simp
  have HNE:=Kz hne
  clear hne
  go_enter Tryz.func50,Tryz.ntmps50
  go_wp2
  go_loopw [5,13] (fun _ i wr=>∃ n:Nat,n≤l.length∧i=.int .i64 n∧l.take n=l'.take n∧∃ m,wr=w.drewN m) (fun _ i _=>l.length-(intOf i).toNat)
  case atStart=>exact ⟨0,by omega,rfl,rfl,0,rfl⟩
  case round=>
   obtain ⟨n,hn,rfl,ht,m,rfl⟩:=hrel
   have HT:=Kz ht
   clear ht
   by_cases hlt:n<l.length
   ·have hlt':n<l'.length:=by rw [←HNE.o];exact hlt
    obtain ⟨b,o,rfl,hb1,hc⟩:=hA.word hlt
    obtain ⟨b',o',rfl,hb2,hc'⟩:=hA'.word hlt'
    clear hA hA'
    by_cases heq:nthW l n=nthW l' n
    ·have hbb:(nthW l n != nthW l' n)=false:=by rw [heq];simp
     have HE:=Kz heq
     clear heq
     go_wp2
     go_quiet (fail)
     go_wp2
     exact ⟨⟨n+1,by omega,by go_num,Zi6 HT.o hlt hlt' HE.o,m+nq,rfl⟩,by simp [intOf];omega⟩
    ·have hbb:(nthW l n != nthW l' n)=true:=by simpa using heq
     have HB:=Kz (Zh3 hbb)
     clear heq
     go_wp2
     go_quiet (fail)
     go_wp2
     go_ret
     exact ⟨by rw [HB.o];rfl,m+nq,by rw [World.drewN_drewN]⟩
   ·obtain rfl:n=l.length:=by omega
    have HB:=Kz (Zgh HNE.o HT.o)
    go_wp2
    go_ret
    exact ⟨by rw [HB.o];rfl,m,rfl⟩
 ·have hb:((l.length:Int) != (l'.length:Int))=true:=by simp;omega
  have HB:=Kz (Zh4 hne)
  clear hne
  go_enter Tryz.func50,Tryz.ntmps50
  go_wp2
  go_ret
  exact ⟨by rw [HB.o];rfl,0,rfl⟩
theorem Zi8 (A A':Option Addr) (c c':Nat) (l l':List UInt64) (x y:Nat) (B:Nat) (w:World) (hx:l.length=x) (hy:l'.length=y) (hl:x≤9223372036854775807) (hA:Rd w B A (l.map U)) (hA':Rd w B A' (l'.map U)):
  Calls Tryz.prog 50 #[.slice A x c,.slice A' y c'] w fun e w'=>e=.returned (.bool (l==l'))∧∃ n,w'=w.drewN n:=by
 subst hx hy
 exact Zi7 A A' c c' l l' B w hl hA hA'
theorem Zeu (A A':Option Addr) (c c':Nat) (l:List UInt64) (x y:Nat) (B:Nat) (w:World) (hx:l.length=x) (hy:l.length=y) (hl:x≤9223372036854775807) (hA:Rd w B A (l.map U)) (hA':Rd w B A' (l.map U)):
  Calls Tryz.prog 50 #[.slice A x c,.slice A' y c'] w fun e w'=>e=.returned (.bool true)∧∃ n,w'=w.drewN n:=by
 have h:=Zi8 A A' c c' l l x y B w hx hy hl hA hA'
 rw [show (l==l)=true from by simp] at h
 exact h
end Go.Proofs.YtghlnncfigkkaaaGreatDoor
namespace Go.Proofs.YtghlnncfigkkaaaGreatDoor
open Go.RowKit
def toksE (r:ScanR):List Tok:=match r with | .toks l=>l | _=>[]
def ssE (s:ByteArray):List SI:=(Zao 2000 (toksE (scanM s))).ss.map SI.of
def esE (s:ByteArray):List EI:=(Zao 2000 (toksE (scanM s))).es.map EI.of
def TxtEv (s:ByteArray) (w:World) (e:Ending) (w':World):Prop:=
 Below w.heap.size w w'∧∃ SA sc EA ec ns ne,e=.returned (.tuple #[.agg #[.slice SA ns sc,.slice EA ne ec],.nilIface])∧ns=(ssE s).length∧ne=(esE s).length∧RdSI w' w'.heap.size SA (ssE s)∧RdEI w' w'.heap.size EA (esE s)
theorem Znn (s:ByteArray) (w:World) (hg:ETyped w) (ht:ErrT w) (hs:s.size≤100000) (hl:scanM s=.toks (toksE (scanM s))) (hn:(toksE (scanM s)).length≤160) (he:(Zao 2000 (toksE (scanM s))).err=none):Calls Tryz.prog 16 #[.string s] w (TxtEv s w):=by
 refine (Zi5 s 2000 _ w hs hg ht (by omega) hl he).mono ?_
 rintro e w1 ⟨b1,SA,sc,EA,ec,rfl,oS,oE⟩
 exact ⟨b1,SA,sc,EA,ec,_,_,rfl,by unfold ssE;rw [Kak],by unfold esE;rw [Kak],oS.int,oE.int⟩
attribute [irreducible] ssE esE
theorem ZgU (x:UInt64):IntKind.u64.wrap ((x.toNat:Int)*11400714819323198485)=((mulW x 11400714819323198485).toNat:Int):=Zc4 x 11400714819323198485
theorem Zk5 (x:UInt64):IntKind.u64.wrap ((x.toNat:Int)-3)=((subW x 3).toNat:Int):=Zfc x 3
attribute [local go_sem ↓] ZgU Zk5
theorem ZiC {n:Nat} (h:n≤1000000):IntKind.u64.wrap ((n:Int)*11400714819323198485)=((mulW (UInt64.ofNat n) 11400714819323198485).toNat:Int):=by
 have e:((UInt64.ofNat n).toNat:Int)=(n:Int):=by
  rw [UInt64.toNat_ofNat']
  omega
 rw [←ZgU,e]
def Zbq (ws:List UInt64) (k:Nat):UInt64:=if k<ws.length then nthW ws k else subW (mulW (UInt64.ofNat k) 11400714819323198485) 3
def fillP:List (List Int)→List UInt64→Nat→List TN
 | [],_,_=>[]
 | s::r,ws,k=>⟨s,(List.range (Zad s).toNat).map fun j=>Zbq ws (k+j)⟩::fillP r ws (k+(Zad s).toNat)
def fillK:List (List Int)→Nat→Nat
 | [],k=>k
 | s::r,k=>fillK r (k+(Zad s).toNat)
theorem ZeS (s:List Int):0≤Zad s∧Zad s≤32:=by
 unfold Zad
 have:=ZbQ s 1 (by omega) (by omega)
 split
 ·omega
 ·split <;> omega
theorem Zev (ws:List UInt64):∀ (sh:List (List Int)) (k i:Nat) (s:List Int),sh[i]?=some s →
  fillP (sh.take (i+1)) ws k=fillP (sh.take i) ws k++[⟨s,(List.range (Zad s).toNat).map fun j=>Zbq ws (fillK (sh.take i) k+j)⟩]∧fillK (sh.take (i+1)) k=fillK (sh.take i) k+(Zad s).toNat
 | [],k,i,s,h=>by simp at h
 | x::r,k,0,s,h=>by
  simp at h
  subst h
  exact ⟨rfl,rfl⟩
 | x::r,k,i+1,s,h=>by
  obtain ⟨h1,h2⟩:=Zev ws r (k+(Zad x).toNat) i s (by simpa using h)
  constructor
  ·rw [List.take_succ_cons,List.take_succ_cons]
   show _::fillP (r.take (i+1)) ws _=_::fillP (r.take i) ws _++_
   rw [h1]
   rfl
  ·rw [List.take_succ_cons,List.take_succ_cons]
   exact h2
theorem ZgV:∀ (sh:List (List Int)) (k:Nat),fillK sh k≤k+32*sh.length
 | [],k=>by show k≤_;omega
 | s::r,k=>by
  have h1:=ZgV r (k+(Zad s).toNat)
  have h2:=ZeS s
  show fillK r _≤_
  rw [List.length_cons]
  omega
theorem ZdI (ws:List UInt64):∀ (sh:List (List Int)) (k:Nat),(fillP sh ws k).length=sh.length
 | [],_=>rfl
 | s::r,k=>congrArg (· + 1) (ZdI ws r _)
attribute [irreducible] Zbq
theorem ZiD {ws:List UInt64} {k:Nat} (h:k<ws.length):Zbq ws k=nthW ws k:=by unfold Zbq;rw [if_pos h]
theorem Zh5 {ws:List UInt64} {k:Nat} (h:¬ k<ws.length):Zbq ws k=subW (mulW (UInt64.ofNat k) 11400714819323198485) 3:=by unfold Zbq;rw [if_neg h]
theorem ZgW {w:World} {base c:Nat} {e:TypeId} {A:Option Addr} {xs:List Value} {g k:Nat} {v:Value} (h:Own w base e A c xs) (hA:∀ q,blk A=some q→q≠g):Own (w.setCell ⟨g,k,none⟩ v) base e A c xs:=by
 refine ⟨h.1,?_⟩
 rcases h.2 with hv | ⟨g',cap',cur,hv,hb,hh,r⟩
 ·exact .inl hv
 ·exact .inr ⟨g',cap',cur,hv,hb,(ZaS _ _ _ (hA g' (by injection hv with a;rw [a];rfl))).trans hh,r⟩
theorem ZgX (A:Option Addr) (n c:Nat) (shs:List (List Int)) (Aw:Option Addr) (m cw:Nat) (ws:List UInt64) (w:World) (hn:n=shs.length) (hm:m=ws.length) (hl:n≤1000) (hl2:m≤9223372036854775807) (h:RdSh w A shs) (hw:Rd w w.heap.size Aw (ws.map U)):
  Calls Tryz.prog 25 #[.slice A n c,.slice Aw m cw] w fun e w'=>Below w.heap.size w w'∧∃ A' c',e=.returned (.slice A' n c')∧OutT w' w.heap.size A' n c' (fillP shs ws 0):=by
 have HN:=Kz hn
 have HM:=Kz hm
 have H:=Kz h
 have HW:=Kz hw
 clear hn hm h hw
 go_enter Tryz.func25,Tryz.ntmps25
 go_wp2
 go_loopw [5,6,13] (fun ov kv iv wr=>∃ (i:Nat) (A':Option Addr) (c':Nat),i≤n∧iv=.int .i64 i∧kv=.int .i64 (fillK (shs.take i) 0)∧ov=.slice A' i c'∧OutT wr w.heap.size A' i c' (fillP (shs.take i) ws 0)∧Below w.heap.size w wr) (fun _ _ iv _=>n-(intOf iv).toNat)
 case atStart=>exact ⟨0,none,0,by omega,rfl,rfl,rfl,OutT.nil _ _,Kai _ _⟩
 case round=>
  obtain ⟨v0,rfl⟩:∃ v0:World,v0=wr:=⟨_,rfl⟩
  obtain ⟨i,A',c',hi,rfl,rfl,rfl,hO,hb⟩:=hrel
  have HO:=Kz hO
  have HB:=Kz hb
  clear hO hb
  by_cases hlt:i<n
  ·have ht:shs[i]?=some (shs[i]'(by rw [←HN.o];exact hlt)):=Kad _
   obtain ⟨s,hs⟩:=Ky (shs[i]'(by rw [←HN.o];exact hlt))
   rw [←hs] at ht
   obtain ⟨K,hK⟩:=Ky (fillK (shs.take i) 0)
   have hK2:K≤32000:=by
    have:=ZgV (shs.take i) 0
    rw [List.length_take] at this
    omega
   have hft:=Zev ws shs 0 i s ht
   rw [←hK] at hft ⊢
   obtain ⟨bs,os,A1,k1,rfl,hbs,cs1,cs2,cs3⟩:∃ bs os A1 k1,A=some ⟨bs,os,none⟩∧bs<v0.heap.size∧v0.cell? ⟨bs,os+i,none⟩=some (.slice A1 s.length k1)∧Rd v0 v0.heap.size A1 (s.map VI)∧s.length≤1000000:=by
    rcases H.o.next HB.o with h | ⟨b,o,hA,hlt',hc⟩
    ·rw [h] at ht;simp at ht
    ·obtain ⟨A1,k1,e1,e2,e3⟩:=hc i s ht
     exact ⟨b,o,A1,k1,hA,hlt',e1,e2,e3⟩
   obtain ⟨sl,hsl⟩:=Ky s.length
   rw [←hsl] at cs1 cs3
   have HSL:=Kz hsl
   have HCS:=Kz cs2
   have HFT:=Kz hft
   have i0:(0:Int)≤(i:Int):=by omega
   have i1:(i:Int)<(n:Int):=by omega
   clear ht hs hK hft cs2 hsl
   obtain ⟨eq,heq⟩:∃ eq:Nat,(eq:Int)=Zad s:=⟨(Zad s).toNat,by have:=ZeS s;omega⟩
   have heq2:(Zad s).toNat=eq:=by omega
   have heq3:eq≤32:=by have:=ZeS s;omega
   rw [heq2] at HFT
   have HEL:=Kz (fun W (hW:Below v0.heap.size v0 W)=>ZbE A1 sl k1 s W HSL.o (by omega) (HCS.o.next hW))
   rw [←heq] at HEL
   clear heq heq2
   go_upto_region 7 with (at_builtin;(refine appV rfl (.tmp 16) (.tmp 20) rfl v0.heap.size (some ⟨v0.heap.size,0,none⟩) 0 [] 0 rfl rfl (Own.made v0 3 (Kag _)) A1 sl k1 v0.heap.size s HSL.o.symm rfl (HCS.o.alloc (Kag _) _) (fun e=>by have:=ZaW HCS.o e;rw [HSL.o];exact this) (by omega) (by simp) ?_);intro A3 k3 w3 o3 g3 h3;have O3:=Kz (show Own w3 v0.heap.size 3 A3 k3 (s.map VI) from o3);have B3:=Kz (Zal ((Kai v0.heap.size v0).alloc (Kag _) _) g3 (by simp) (fun k hk=>by cases hk;exact Kag _));clear o3 g3 h3)
   obtain ⟨w4,hw4⟩:=Ky (w3.alloc (.cells #[.slice A3 sl k3,.slice none 0 0] 43))
   have hb4:=Kv hw4
   have htb:=Kw hw4
   rw [←hw4]
   obtain ⟨tb,hte⟩:=Ky w3.heap.size
   rw [←hte] at htb ⊢
   have HTE:=Kz hte
   have HTB:=Kz htb
   have HB4:=Kz hb4
   have B4:=Kz (bnext B3.o hb4)
   have HTL:=Kz (show tb<w4.heap.size from (Kab.1 htb).1)
   have cs4:=(B4.o.cell (p:=⟨bs,os+i,none⟩) hbs).trans cs1
   clear hte htb hb4 hw4 cs1 hbs
   go_upto_region 8 with (go_at_call 58;refine (HEL.o _ B4.o).mono ?_;rintro e w' ⟨rfl,rfl⟩)
   clear cs4
   go_loopw [6,9] (fun kv nv wx=>∃ (j:Nat) (Bw:Option Addr) (cb:Nat),j≤eq∧kv=.int .i64 ((K+j:Nat):Int)∧nv=.int .i64 ((eq-j:Nat):Int)∧wx.heap[tb]?=some (.cells #[.slice A3 sl k3,.slice Bw j cb] 43 (0,0))∧Own wx w4.heap.size 39 Bw cb (((List.range j).map fun t=>Zbq ws (K+t)).map U)∧Below w3.heap.size w3 wx∧w4.heap.size≤wx.heap.size) (fun _ nv _=>(intOf nv).toNat)
   case atStart=>exact ⟨0,none,0,by omega,rfl,rfl,HTB.o,Own.nil _ _ _,HB4.o,Kag _⟩
   case round=>
    obtain ⟨j,Bw,cb,hj,rfl,rfl,hT,hOw,hBx,hSx⟩:=hrel
    have HTW:=Kz hT
    have HOW:=Kz hOw
    have HBX:=Kz hBx
    have HSX:=Kz hSx
    have q0:=Kaa 0 hT
    have q1:=Kaa 1 hT
    clear hT hOw hBx hSx
    have HBW:=Kz (show Below w.heap.size w wr from bnext HB.o (B3.o.trans (HBX.o.mono B3.o.size)))
    by_cases hlt2:j<eq
    ·obtain ⟨kj,hkj⟩:=Ky (K+j)
     obtain ⟨dj,hdj⟩:=Ky (eq-j)
     rw [←hkj,←hdj]
     have hkb:kj≤1000000:=by omega
     have hp1:=ZiC hkb
     have hwd:IntKind.i64.wrap ((dj:Int)-1)=(dj:Int)-1:=ZaE (by omega) (by omega)
     have t0:(0:Int)<(dj:Int):=by omega
     have HNJ:=Kz (show dj=eq-j from hdj)
     have HKJ:=Kz (show kj=K+j from hkj)
     by_cases hin:kj<m
     ·obtain ⟨bw,ow,rfl,hbw,cw⟩:=(HW.o.below HBW.o).word (k:=kj) (by rw [←HM.o];exact hin)
      have HVL:=Kz (show Zbq ws (K+j)=nthW ws kj from by rw [←hkj];exact ZiD (by rw [←HM.o];exact hin))
      have x0:(0:Int)≤(kj:Int):=by omega
      have x1:(kj:Int)<(m:Int):=by omega
      clear hbw hkj hdj
      go_wp2_with (at_builtin;(refine app64 rfl (.tmp 45) (.tmp 47) rfl w4.heap.size Bw cb ((List.range j).map fun t=>Zbq ws (K+t)) j (by simp) rfl (HOW.o.next ((Kai _ _).alloc (Kag _) _)) (some ⟨wr.heap.size,0,none⟩) 1 1 (wr.heap.size+1) [nthW ws kj] rfl rfl (ZbC _ _) (fun e=>by cases e) (by omega) (by have:=HSX.o;simp;omega) ?_);intro A9 k9 w9 o9 g9 h9;have O9:=Kz o9;have B9:=Kz (Zal ((Kai w4.heap.size wr).alloc HSX.o _) g9 (by have:=HSX.o;simp;omega) (fun k hk=>(HOW.o.lt k hk).1));have t9:=(B9.o.block tb HTL.o).trans HTW.o;have q9:=Kaa 1 t9;have f9:w9.frozen? ⟨tb,1,none⟩=false:=(by simp [World.frozen?,t9]);have HT9:=Kz t9;clear o9 g9 h9 t9)
      obtain ⟨W,hW⟩:=Ky (w9.setCell ⟨tb,1,none⟩ (.slice A9 (j+1) k9))
      have hWt:W.heap[tb]?=some (.cells #[.slice A3 sl k3,.slice A9 (j+1) k9] 43 (0,0)):=by rw [hW];simp [World.setCell,Array.getElem?_modify,HT9.o]
      have hWo:Own W w4.heap.size 39 A9 k9 (((List.range (j+1)).map fun t=>Zbq ws (K+t)).map U):=by
       have h:=O9.o
       rw [←HVL.o] at h
       rw [List.range_succ,List.map_append,hW]
       exact ZgW h (fun k hk=>by have:=(O9.o.lt k hk).1;have:=HTL.o;omega)
      have hWb:Below w3.heap.size w3 W:=by
       rw [hW]
       exact Zaf (HBX.o.trans (B9.o.mono (by have:=HB4.o.size;omega))) (by rw [←HTE.o];exact Kag _) _
      have hWs:w4.heap.size≤W.heap.size:=by
       rw [hW]
       have:=HSX.o
       have:=B9.o.size
       simp [World.setCell]
       omega
      try rw [←hW]
      exact ⟨⟨j+1,A9,k9,by omega,(by have:=HKJ.o;exact congrArg (Value.int .i64) (by omega)),(by have:=HNJ.o;exact congrArg (Value.int .i64) (by omega)),hWt,hWo,hWb,hWs⟩,by simp [intOf];omega⟩
     ·have x1:¬ (kj:Int)<(m:Int):=by omega
      have HVL:=Kz (show Zbq ws (K+j)=subW (mulW (UInt64.ofNat kj) 11400714819323198485) 3 from by rw [←hkj];exact Zh5 (by rw [←HM.o];exact hin))
      clear hkj hdj
      go_wp2_with (at_builtin;(refine app64 rfl (.tmp 45) (.tmp 47) rfl w4.heap.size Bw cb ((List.range j).map fun t=>Zbq ws (K+t)) j (by simp) rfl (HOW.o.next ((Kai _ _).alloc (Kag _) _)) (some ⟨wr.heap.size,0,none⟩) 1 1 (wr.heap.size+1) [subW (mulW (UInt64.ofNat kj) 11400714819323198485) 3] rfl rfl (ZbC _ _) (fun e=>by cases e) (by omega) (by have:=HSX.o;simp;omega) ?_);intro A9 k9 w9 o9 g9 h9;have O9:=Kz o9;have B9:=Kz (Zal ((Kai w4.heap.size wr).alloc HSX.o _) g9 (by have:=HSX.o;simp;omega) (fun k hk=>(HOW.o.lt k hk).1));have t9:=(B9.o.block tb HTL.o).trans HTW.o;have q9:=Kaa 1 t9;have f9:w9.frozen? ⟨tb,1,none⟩=false:=(by simp [World.frozen?,t9]);have HT9:=Kz t9;clear o9 g9 h9 t9)
      obtain ⟨W,hW⟩:=Ky (w9.setCell ⟨tb,1,none⟩ (.slice A9 (j+1) k9))
      have hWt:W.heap[tb]?=some (.cells #[.slice A3 sl k3,.slice A9 (j+1) k9] 43 (0,0)):=by rw [hW];simp [World.setCell,Array.getElem?_modify,HT9.o]
      have hWo:Own W w4.heap.size 39 A9 k9 (((List.range (j+1)).map fun t=>Zbq ws (K+t)).map U):=by
       have h:=O9.o
       rw [←HVL.o] at h
       rw [List.range_succ,List.map_append,hW]
       exact ZgW h (fun k hk=>by have:=(O9.o.lt k hk).1;have:=HTL.o;omega)
      have hWb:Below w3.heap.size w3 W:=by
       rw [hW]
       exact Zaf (HBX.o.trans (B9.o.mono (by have:=HB4.o.size;omega))) (by rw [←HTE.o];exact Kag _) _
      have hWs:w4.heap.size≤W.heap.size:=by
       rw [hW]
       have:=HSX.o
       have:=B9.o.size
       simp [World.setCell]
       omega
      try rw [←hW]
      exact ⟨⟨j+1,A9,k9,by omega,(by have:=HKJ.o;exact congrArg (Value.int .i64) (by omega)),(by have:=HNJ.o;exact congrArg (Value.int .i64) (by omega)),hWt,hWo,hWb,hWs⟩,by simp [intOf];omega⟩
    ·obtain rfl:j=eq:=by omega
     rw [Nat.sub_self]
     have HNW:=Kz (show fillP (shs.take (i+1)) ws 0=fillP (shs.take i) ws 0++[⟨s,(List.range j).map fun t=>Zbq ws (K+t)⟩]∧fillK (shs.take (i+1)) 0=K+j from HFT.o)
     have HV0:=Kz (show Below v0.heap.size v0 wr from B3.o.trans (HBX.o.mono B3.o.size))
     have HO3:=Kz (O3.o.below HBX.o (fun k hk=>(O3.o.lt k hk).2))
     go_wp2_with (at_builtin;(refine Zno rfl (.tmp 52) (.tmp 54) rfl w.heap.size A' c' i (fillP (shs.take i) ws 0) rfl v0 wr HO.o HB.o.size HV0.o A3 Bw k3 cb sl j ⟨s,(List.range j).map fun t=>Zbq ws (K+t)⟩ HSL.o (by simp) (by have:=HSL.o;show s.length≤_;omega) HO3.o (HOW.o.more (by have:=B4.o.size;omega)) (ZgY (fun k hk=>(O3.o.lt k hk).2) (fun k hk=>by have:=(HOW.o.lt k hk).1;have:=HB4.o.size;omega)) rfl rfl (by omega) ?_);intro A8 c8 w8 o8 g8 h8;have O8:=Kz o8;have B8:=Kz (Zal ((bnext HB.o HV0.o).alloc (bnext HB.o HV0.o).size _) g8 (Kah (bnext HB.o HV0.o).size (by simp)) (fun k hk=>(HO.o.lt k hk).1));clear o8 g8 h8)
     exact ⟨⟨i+1,A8,c8,by omega,rfl,by rw [HNW.o.2];exact congrArg (Value.int .i64) (by omega),rfl,by rw [HNW.o.1];exact O8.o,B8.o⟩,by simp [intOf];omega⟩
  ·obtain rfl:i=n:=by omega
   go_wp2
   go_ret
   refine ⟨HB.o,A',c',rfl,?_⟩
   have h9:=HO.o
   rwa [HN.o,List.take_length,←HN.o] at h9
end Go.Proofs.YtghlnncfigkkaaaGreatDoor
namespace Go.Proofs.YtghlnncfigkkaaaGreatDoor
open Go.RowKit
theorem OutT.rd {w:World} {base n c:Nat} {A:Option Addr} {l:List TN} (h:OutT w base A n c l):RdTN w w.heap.size A l:=by
 by_cases hl:l=[]
 ·exact .inl hl
 ·have h0:l[0]?=some (l[0]'(List.length_pos_iff.2 hl)):=Kad _
  obtain ⟨g,_,_,_,_,rfl,hg,_⟩:=h.at_ h0
  refine .inr ⟨g,0,rfl,hg,fun i x hx => ?_⟩
  obtain ⟨g',A1,c1,A2,c2,e,_,k0,k1,o1,o2⟩:=h.at_ hx
  injection e with e
  injection e with e _ _
  subst e
  have u1:=ZfY o1
  have u2:=ZfY o2
  rw [Kak] at u1 u2
  exact ⟨⟨A1,c1,by rw [Nat.zero_add];exact k0,o1.rd,by omega,u1.1,u1.2⟩,A2,c2,by rw [Nat.zero_add];exact k1,o2.rd,by omega,u2.1,u2.2⟩
structure TxtOk (s:ByteArray):Prop where
 hs:s.size≤100000
 hl:scanM s=.toks (toksE (scanM s))
 hn:(toksE (scanM s)).length≤160
 he:(Zao 2000 (toksE (scanM s))).err=none
 h1:(ssE s).length≤100000
 h2:(esE s).length≤100000
 h3:(esE s).all (fun e=>decide (e.num≤18446744073709551615))=true
 h4:(ssE s).all (fun s=>decide (s.shape.length≤1000000))=true
 h5:(ssE s).length≤1000
end Go.Proofs.YtghlnncfigkkaaaGreatDoor
set_option maxRecDepth 100000
set_option maxHeartbeats 2000000
namespace Go.Proofs.YtghlnncfigkkaaaGreatDoor
open Go.RowKit
theorem ZlG (A A':Option Addr) (n c c':Nat) (xs:List TN) (w:World) (hn:n=xs.length) (hl:n≤1000000) (h:RdTN w w.heap.size A xs) (h':RdTN w w.heap.size A' xs):
  Calls Tryz.prog 26 #[.slice A n c,.slice A' n c'] w fun e w'=>e=.returned (.bool true)∧Below w.heap.size w w':=by
 have HN:=Kz hn
 have H:=Kz h
 have H':=Kz h'
 clear h h' hn
 have q0':((n:Int) != (n:Int))=false:=by simp
 go_enter Tryz.func26,Tryz.ntmps26
 go_wp2
 go_loopw [13] (fun iv wr=>(∃ i:Nat,i≤n∧iv=.int .i64 i)∧Below w.heap.size w wr) (fun iv _=>n-(intOf iv).toNat)
 case atStart=>exact ⟨⟨0,by omega,rfl⟩,Kai _ _⟩
 case round=>
  obtain ⟨⟨i,hi,rfl⟩,hb⟩:=hrel
  have HB:=Kz hb
  by_cases hlt:i<n
  ·have hx:xs[i]?=some (xs[i]'(by rw [←HN.o];exact hlt)):=Kad _
   obtain ⟨x,hxx⟩:=Ky (xs[i]'(by rw [←HN.o];exact hlt))
   rw [←hxx] at hx
   obtain ⟨b,o,rfl,hbl,⟨A1,c1,d0,d1,d2,_⟩,A2,c2,d3,d4,d5,_⟩:=(H.o.next hb).at_ hx
   obtain ⟨b',o',rfl,hbl',⟨A3,c3,e0,e1,e2,_⟩,A4,c4,e3,e4,e5,_⟩:=(H'.o.next hb).at_ hx
   have i0:(0:Int)≤(i:Int):=by omega
   have i1:(i:Int)<(n:Int):=by omega
   obtain ⟨xl,hxl⟩:=Ky x.sh.length
   obtain ⟨yl,hyl⟩:=Ky x.el.length
   rw [←hxl] at d0 d2 e0 e2
   rw [←hyl] at d3 d5 e3 e5
   have HI:=Kz (fun q=>Zba A1 A3 xl xl c1 c3 x.sh x.sh (wr.drewN q) hxl hxl d2 e2 (d1.drewN q) (e1.drewN q))
   rw [show (x.sh==x.sh)=true from beq_self_eq_true _] at HI
   have HJ:=Kz (fun q=>Zeu A2 A4 c2 c4 x.el yl yl (wr.drewN q).heap.size (wr.drewN q) hyl.symm hyl.symm d5 (d4.drewN q) (e4.drewN q))
   clear hx hxx d1 d2 d4 d5 e1 e2 e4 e5 hbl hbl' hb hxl hyl
   go_wp2_with fail
   go_quiet (first
    | (go_at_call 49;exact Calls.quiet_of (HI.o _))
    | (go_at_call 50;exact Calls.quiet_of (HJ.o _)))
   go_wp2
   exact ⟨⟨⟨i+1,by omega,rfl⟩,Zaa HB.o _⟩,by simp [intOf];omega⟩
  ·obtain rfl:i=n:=by omega
   go_wp2
   go_ret
   exact ⟨rfl,HB.o⟩
theorem fill_fits (ws:List UInt64):∀ (sh:List (List Int)) (k:Nat),fitT sh (fillP sh ws k)=true
 | [],_=>rfl
 | s::r,k=>by
  have h:=fill_fits ws r (k+(Zad s).toNat)
  have h2:=ZeS s
  unfold fillP fitT
  rw [h,Bool.and_true,Bool.and_eq_true,beq_self_eq_true,beq_iff_eq]
  refine ⟨rfl,?_⟩
  dsimp only
  rw [Kak,List.length_range]
  omega
theorem outT_rd {w:World} {base n c:Nat} {A:Option Addr} {l:List TN} (h:OutT w base A n c l):RdTN w w.heap.size A l:=by
 by_cases hl:l=[]
 ·exact .inl hl
 ·have h0:l[0]?=some (l[0]'(List.length_pos_iff.2 hl)):=Kad _
  obtain ⟨g,_,_,_,_,hA,hg,_⟩:=h.at_ h0
  refine .inr ⟨g,0,hA,hg,fun i x hx => ?_⟩
  obtain ⟨g',A1,c1,A2,c2,hA',_,q1,q2,o1,o2⟩:=h.at_ hx
  rw [hA] at hA'
  injection hA' with hA'
  injection hA' with hA' _ _
  subst hA'
  have p1:=own_capsN o1
  have p2:=own_capsN o2
  rw [Kak] at p1 p2
  rw [Nat.zero_add]
  exact ⟨⟨A1,c1,q1,o1.rd,by omega,p1.1,p1.2⟩,A2,c2,q2,o2.rd,by omega,p2.1,p2.2⟩
theorem outT_ne2 {W:World} {B n k q:Nat} {A:Option Addr} {X:List TN} {cs:Array Value} (h:OutT W B A n k X) (hq:W.heap[q]?=some (.cells cs 45 (0,0))):∀ g,blk A=some g→g≠q:=by
 obtain ⟨vs,h1,_⟩:=h
 intro g hg e
 rcases h1.2 with ⟨hv,_⟩ | ⟨g',cap',cur,hv,hb,hh,r⟩
 ·injection hv with a
  rw [a] at hg
  cases hg
 ·injection hv with a
  rw [a] at hg
  injection hg with hg
  have hgg:g'=q:=hg.trans e
  rw [hgg,hq] at hh
  injection hh with hh
  injection hh with _ hh _
  exact absurd hh (by decide)
structure DIn (w5:World) (n0 n1:Nat) (X0 X1:List TN) (q:Nat) (I0 I1:Option Addr) (k0 k1:Nat) (wx:World):Prop where
 bx:wx.heap[q]?=some (.cells #[.slice I0 n0 k0,.slice I1 n1 k1] 45 (0,0))
 bel:Below w5.heap.size w5 wx
 r0:RdTN wx wx.heap.size I0 X0
 r1:RdTN wx wx.heap.size I1 X1
def DCut (w5:World) (n0 n1:Nat) (X0 X1:List TN) (p:Value) (wx:World):Prop:=∃ q I0 I1 k0 k1,p=.pointer (some ⟨q,0,none⟩)∧DIn w5 n0 n1 X0 X1 q I0 I1 k0 k1 wx
theorem din_done {w5 W:World} {q n0 n1 k0 k1 B0 B1:Nat} {I0 I1:Option Addr} {X0 X1:List TN} (hb:Below w5.heap.size w5 W) (hq:W.heap[q]?=some (.cells #[.slice none 0 0,.slice none 0 0] 45 (0,0))) (hq5:w5.heap.size≤q)
  (o0:OutT W B0 I0 n0 k0 X0) (o1:OutT W B1 I1 n1 k1 X1):DIn w5 n0 n1 X0 X1 q I0 I1 k0 k1 ((W.setCell ⟨q,0,none⟩ (.slice I0 n0 k0)).setCell ⟨q,1,none⟩ (.slice I1 n1 k1)):=by
 obtain ⟨Z,hZ⟩:=Ky ((W.setCell ⟨q,0,none⟩ (.slice I0 n0 k0)).setCell ⟨q,1,none⟩ (.slice I1 n1 k1))
 rw [←hZ]
 have hk:∀ k,k≠q→Z.heap[k]?=W.heap[k]?:=fun k hk=>by rw [hZ,ZaS _ _ _ hk,ZaS _ _ _ hk]
 have keep:∀ {B n k:Nat} {A:Option Addr} {X:List TN},OutT W B A n k X→OutT Z B A n k X:=fun {B n k A X} h=>
  h.keepT (fun g hg=>hk g (outT_ne2 h hq g hg)) (fun g cur T hg hT=>hk g (fun e=>by
   rw [e,hq] at hg
   injection hg with hg
   injection hg with _ hg _
   rw [←hg] at hT
   exact absurd hT (by decide)))
 refine ⟨?_,?_,outT_rd (keep o0),outT_rd (keep o1)⟩
 ·rw [hZ]
  simp [World.setCell,Array.getElem?_modify,hq]
 ·rw [hZ]
  exact Zaf (Zaf hb hq5 _) hq5 _
theorem built_in {f s d:Bool} {ss:List SI} {es:List EI} {g:List ND × List Nat} (h:buildD f s d ss es=.inl g):(Zae ss 0).length+(Zae ss 1).length≤8∧(∀ x∈Zae ss 0,Zad x≠0)∧∀ x∈Zae ss 1,Zad x≠0:=by
 obtain ⟨sh,l,outs,hc,_⟩:=buildD_parts h
 exact check_in hc
end Go.Proofs.YtghlnncfigkkaaaGreatDoor
