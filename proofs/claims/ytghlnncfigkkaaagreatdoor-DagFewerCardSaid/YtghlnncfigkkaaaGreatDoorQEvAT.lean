/-
 parse.Text at a text whose tokens and tree are known; the laws' Cut.
-/
import Derived.Test.YtghlnncfigkkaaaGreatDoorQNum
import Derived.Test.YtghlnncfigkkaaaGreatDoorQParN
import Derived.Test.YtghlnncfigkkaaaGreatDoorQLexA
import Derived.Test.YtghlnncfigkkaaaGreatDoorQOpen
import Derived.Test.YtghlnncfigkkaaaGreatDoorQAsE
import Derived.Lib.IfaceEq
import Derived.Test.YtghlnncfigkkaaaGreatDoorQEvS
import Derived.Test.YtghlnncfigkkaaaGreatDoorQEvB
import Derived.Test.YtghlnncfigkkaaaGreatDoorQEvE
import Derived.Test.YtghlnncfigkkaaaGreatDoorQEvC
import Derived.Test.YtghlnncfigkkaaaGreatDoorRows
import Derived.BigQuiet
import Derived.Deep.QuietTactic
set_option maxRecDepth 100000
set_option maxHeartbeats 4000000
open Go.Lib (hid)
set_option linter.unusedVariables false
set_option linter.unusedSimpArgs false
namespace Go.Proofs.YtghlnncfigkkaaaGreatDoor
open Go.RowKit
theorem ZhR (s:ByteArray):∀ (f k:Nat) (l r:List Tok),l.length≤512→ZaN f s k l=.toks r→r.length≤513:=by
 intro f
 induction f with
 | zero=>intro k l r h e;unfold ZaN at e;injection e with e;subst e;omega
 | succ f ih=>
  intro k l r h e
  unfold ZaN at e
  split at e
  ·split at e
   ·cases e
   ·split at e
    ·cases e
    ·rename_i hne
     exact ih _ _ _ (by rw [List.length_append];simp;omega) e
  ·injection e with e
   subst e
   rw [List.length_append]
   simp
   omega
theorem ZdU {s:ByteArray} {r:List Tok} (h:scanM s=.toks r):r.length≤513∧s.size≤4096:=by
 unfold scanM at h
 split at h
 ·cases h
 ·exact ⟨ZhR _ _ _ _ _ (by simp) h,by omega⟩
def ZmD (W:World) (F:Nat) (S:ScanR) (e:Ending) (w':World):Prop:=
 Below W.heap.size W w'∧((∃ l,S=.toks l∧(Zao F l).err=none∧∃ SA sc EA ec,e=.returned (.tuple #[.agg #[.slice SA (Zao F l).ss.length sc,.slice EA (Zao F l).es.length ec],.nilIface])∧OwnS w' W.heap.size SA sc (Zao F l).ss∧OwnE w' W.heap.size EA ec (Zao F l).es) ∨
  (∃ l c p v,S=.toks l∧(Zao F l).err=some (c,p)∧e=.returned (.tuple #[.agg #[.slice none 0 0,.slice none 0 0],v])∧IsErr w' v [(parN,(p:Int))] (c:Int)) ∨
  ∃ c p v,S=.err c p∧e=.returned (.tuple #[.agg #[.slice none 0 0,.slice none 0 0],v])∧IsErr w' v [(lexN,(p:Int))] (c:Int))
def Zli (W:World) (F:Nat) (S:ScanR) (e:Ending) (w':World):Prop:=
 Below W.heap.size W w'∧((∃ l,S=.toks l∧(Zao F l).err=none∧∃ SA sc EA ec,e=.returned (.tuple #[.agg #[.slice SA (Zao F l).ss.length sc,.slice EA (Zao F l).es.length ec],.nilIface])∧OwnS w' W.heap.size SA sc (Zao F l).ss∧OwnE w' W.heap.size EA ec (Zao F l).es∧Sep noX w' W.heap.size SA sc (Zao F l).ss EA ec (Zao F l).es) ∨
  (∃ l c p v,S=.toks l∧(Zao F l).err=some (c,p)∧e=.returned (.tuple #[.agg #[.slice none 0 0,.slice none 0 0],v])∧IsErr w' v [(parN,(p:Int))] (c:Int)) ∨
  ∃ c p v,S=.err c p∧e=.returned (.tuple #[.agg #[.slice none 0 0,.slice none 0 0],v])∧IsErr w' v [(lexN,(p:Int))] (c:Int))
theorem Zjo (s:ByteArray) (F:Nat) (w:World) (hs:s.size≤100000) (hg:ETyped w) (ht:ErrT w) (hF:∀ l,scanM s=.toks l→12*l.length+20≤F):
  Calls Tryz.prog 16 #[.string s] w (Zli w F (scanM s)):=by
 obtain ⟨wa,hwa⟩:∃ wa,wa=w.alloc (.cells #[.slice none 0 0,.slice none 0 0] 26):=⟨_,rfl⟩
 have hba:Below w.heap.size w wa:=by rw [hwa];exact (Kai _ _).alloc (Kag _) _
 have hsa:wa.heap.size=w.heap.size+1:=by rw [hwa];simp
 have htree:wa.heap[w.heap.size]?=some (.cells #[.slice none 0 0,.slice none 0 0] 26 (0,0)):=by rw [hwa];exact Kac w _
 have HWA:=hid hwa
 have HBA:=hid hba
 have HGA:=hid (hg.next hba)
 have HTA:=hid (ht.next hba)
 have HTREE:=hid htree
 have HF:=hid hF
 clear hwa hba htree hg ht hF
 go_enter Tryz.func16,Tryz.ntmps16
 go_wp2_with fail
 rw [←HWA.out]
 refine (ZlB s wa hs HGA.out HTA.out).mono ?_
 rintro e w2 ⟨b2,h⟩
 have HG2:=hid (HGA.out.next b2)
 have HB2:=hid (HBA.out.trans (b2.mono (by omega)))
 have ht2:=(b2.block w.heap.size (by omega)).trans HTREE.out
 have hs2:w.heap.size+1≤w2.heap.size:=by have:=b2.size;omega
 clear b2
 rcases h with ⟨l,A,cap,hR,rfl,o2⟩ | ⟨c,p,v,hR,rfl,he⟩
 ·have hlen:=(ZdU hR).1
  have HR:=hid hR
  have HP:=hid (ZhY l A cap F w2 (by omega) o2.rd HG2.out (HF.out l hR))
  have HT2:=hid ht2
  clear hR o2 ht2
  go_wp2_with fail
  refine HP.out.mono ?_
  rintro e w3 ⟨b3,h3⟩
  have HB3:=hid (HB2.out.trans (b3.mono (by omega)))
  have ht3:=(b3.block w.heap.size (by omega)).trans HT2.out
  have z0:=Kaa w3 _ 0 _ _ _ ht3
  have z1:=Kaa w3 _ 1 _ _ _ ht3
  have y0:=Zan ht3 0
  have y1:=Zan ht3 1
  have HT3:=hid ht3
  clear b3 ht3
  rcases h3 with ⟨hn,SA,sc,EA,ec,rfl,oS,oE,oP⟩ | ⟨c,p,v,hn,rfl,he⟩
  ·have HN:=hid hn
   have HOS:=hid oS
   have HOE:=hid oE
   have HOP:=hid oP
   clear hn oS oE oP
   obtain ⟨ns,hns⟩:∃ ns,ns=(Zao F l).ss.length:=⟨_,rfl⟩
   obtain ⟨ne,hne⟩:∃ ne,ne=(Zao F l).es.length:=⟨_,rfl⟩
   rw [←hns,←hne]
   have HNS:=hid hns
   have HNE:=hid hne
   clear hns hne
   go_wp2
   obtain ⟨wS,hwS⟩:∃ wS,wS=(w3.setCell ⟨w.heap.size,0,none⟩ (.slice SA ns sc)).setCell ⟨w.heap.size,1,none⟩ (.slice EA ne ec):=⟨_,rfl⟩
   rw [←hwS]
   obtain ⟨s1,s2,s3⟩:=ZbN HT3.out hwS
   have hbel:=s3 w.heap.size w HB3.out (Kag _)
   have g0:=Kaa wS _ 0 _ _ _ s1
   have g1:=Kaa wS _ 1 _ _ _ s1
   have hoS:OwnS wS w.heap.size SA sc (Zao F l).ss:=HOS.out.more (by omega) (fun k hk=>s2 k (by omega))
   have hoE:OwnE wS w.heap.size EA ec (Zao F l).es:=HOE.out.more (by omega) (fun k hk=>s2 k (by omega))
   have hoP:Sep noX wS w.heap.size SA sc (Zao F l).ss EA ec (Zao F l).es:=HOP.out.map (fun _ _ a=>a.more (by omega) (fun k hk=>s2 k (by omega))) (fun _ _ a=>a.more (by omega) (fun k hk=>s2 k (by omega)))
   clear s1 s2 s3 hwS
   exact bodyPost_ret (v:=.tuple #[.agg #[.slice SA ns sc,.slice EA ne ec],.nilIface]) (by simp [results,Tryz.results16,go_sem,g0,g1]) rfl ⟨hbel,.inl ⟨l,HR.out,HN.out,SA,sc,EA,ec,by rw [←HNS.out,←HNE.out],hoS,hoE,hoP⟩⟩
  ·obtain ⟨te,xe,rfl⟩:=he.iface
   have HN:=hid hn
   have HE:=hid he
   clear hn he
   go_wp2
   obtain ⟨wS,hwS⟩:∃ wS,wS=(w3.setCell ⟨w.heap.size,0,none⟩ (.slice none 0 0)).setCell ⟨w.heap.size,1,none⟩ (.slice none 0 0):=⟨_,rfl⟩
   rw [←hwS]
   have hie2:IsErr wS (.iface te xe) [(parN,(p:Int))] (c:Int):=by
    rw [hwS]
    exact IsErr.set (t:=⟨w.heap.size,1,none⟩) (heap_setCell_same _ _ _ _ _ _ HT3.out) (by decide) (IsErr.set (t:=⟨w.heap.size,0,none⟩) HT3.out (by decide) HE.out)
   obtain ⟨s1,s2,s3⟩:=ZbN HT3.out hwS
   have hbel:=s3 w.heap.size w HB3.out (Kag _)
   have g0:=Kaa wS _ 0 _ _ _ s1
   have g1:=Kaa wS _ 1 _ _ _ s1
   clear s1 s2 s3 hwS
   exact bodyPost_ret (v:=.tuple #[.agg #[.slice none 0 0,.slice none 0 0],.iface te xe]) (by simp [results,Tryz.results16,go_sem,g0,g1]) rfl ⟨hbel,.inr (.inl ⟨l,c,p,_,HR.out,HN.out,rfl,hie2⟩)⟩
 ·obtain ⟨te,xe,rfl⟩:=he.iface
  have HR:=hid hR
  have HE:=hid he
  have z0:=Kaa w2 _ 0 _ _ _ ht2
  have z1:=Kaa w2 _ 1 _ _ _ ht2
  have y0:=Zan ht2 0
  have y1:=Zan ht2 1
  have HT2:=hid ht2
  clear hR he ht2
  go_wp2
  obtain ⟨wS,hwS⟩:∃ wS,wS=(w2.setCell ⟨w.heap.size,0,none⟩ (.slice none 0 0)).setCell ⟨w.heap.size,1,none⟩ (.slice none 0 0):=⟨_,rfl⟩
  rw [←hwS]
  have hie2:IsErr wS (.iface te xe) [(lexN,(p:Int))] (c:Int):=by
   rw [hwS]
   exact IsErr.set (t:=⟨w.heap.size,1,none⟩) (heap_setCell_same _ _ _ _ _ _ HT2.out) (by decide) (IsErr.set (t:=⟨w.heap.size,0,none⟩) HT2.out (by decide) HE.out)
  obtain ⟨s1,s2,s3⟩:=ZbN HT2.out hwS
  have hbel:=s3 w.heap.size w HB2.out (Kag _)
  have g0:=Kaa wS _ 0 _ _ _ s1
  have g1:=Kaa wS _ 1 _ _ _ s1
  clear s1 s2 s3 hwS
  exact bodyPost_ret (v:=.tuple #[.agg #[.slice none 0 0,.slice none 0 0],.iface te xe]) (by simp [results,Tryz.results16,go_sem,g0,g1]) rfl ⟨hbel,.inr (.inr ⟨c,p,_,HR.out,rfl,hie2⟩)⟩
theorem Zhh (s:ByteArray) (F:Nat) (w:World) (hs:s.size≤100000) (hg:ETyped w) (ht:ErrT w) (hF:∀ l,scanM s=.toks l→12*l.length+20≤F):
  Calls Tryz.prog 16 #[.string s] w (ZmD w F (scanM s)):=
 (Zjo s F w hs hg ht hF).mono fun e w' ⟨h1,h2⟩=>⟨h1,h2.imp_left fun ⟨l,a,b,SA,sc,EA,ec,e1,f,g,_⟩=>⟨l,a,b,SA,sc,EA,ec,e1,f,g⟩⟩
theorem ZjR (L:List Tok) (n f:Nat) (s:PS) (h:s.err≠none):Zak L n f s=s:=by
 cases n with
 | zero=>rfl
 | succ n=>
  rw [Zak]
  have:s.err.isNone=false:=by cases he:s.err with | none=>exact absurd he h | some _=>rfl
  rw [this]
  rfl
theorem Zna (L:List Tok) (f:Nat):∀ (n:Nat) (s:PS),s.ss.length≤64→(Zak L n f s).err=none→(Zak L n f s).ss.length≤64:=by
 intro n
 induction n with
 | zero=>intro s h _;exact h
 | succ n ih=>
  intro s h he
  rw [Zak] at he ⊢
  split
  ·rename_i hc
   rw [if_pos hc] at he
   have h1:(stmtP L f s).err=none:=Classical.byContradiction fun h1=>by
    rw [ZjR L n f _ h1] at he
    exact h1 he
   have h2:s.ss.length≠64:=fun h2=>ZfR f s h2 h1
   have h3:=(ZlN (L:=L) f s).2.2.2
   exact ih _ (by omega) he
  ·exact h
theorem Zih {F:Nat} {L:List Tok} (h:(Zao F L).err=none):(Zao F L).ss.length≤64:=Zna L F F Zd0 (Nat.zero_le _) h
theorem Znb (L:List Tok) (f:Nat) (s:PS) (h:s.es.length≤s.i) (hl:s.i≤L.length):(stmtP L f s).es.length≤(stmtP L f s).i∧(stmtP L f s).i≤L.length:=by
 have g:=Zdz (L:=L) f s
 have g2:=G.want (L:=L) (bodyP L f s).1 tSemi
 have e:stmtP L f s=putS (wantP L (bodyP L f s).1 tSemi) (bodyP L f s).2:=rfl
 rw [e]
 refine ⟨?_,g2.hl (g.hl hl)⟩
 show (wantP L (bodyP L f s).1 tSemi).es.length≤(wantP L (bodyP L f s).1 tSemi).i
 have h1:=g.he
 have h2:=g2.he
 omega
theorem Znc (L:List Tok) (f:Nat):∀ (n:Nat) (s:PS),s.es.length≤s.i→s.i≤L.length→(Zak L n f s).es.length≤L.length:=by
 intro n
 induction n with
 | zero=>intro s h hl;exact Kah h hl
 | succ n ih=>
  intro s h hl
  rw [Zak]
  split
  ·have:=Znb L f s h hl
   exact ih _ this.1 this.2
  ·exact Kah h hl
theorem ZlE (F:Nat) (L:List Tok):(Zao F L).es.length≤L.length:=Znc L F F Zd0 (Nat.zero_le _) (Nat.zero_le _)
end Go.Proofs.YtghlnncfigkkaaaGreatDoor
set_option maxRecDepth 100000
set_option maxHeartbeats 4000000
open Go.Lib (hid)
namespace Go.Proofs.YtghlnncfigkkaaaGreatDoor
open Go.RowKit Go.Extern.Stop Go.Stop Go.Extern
end Go.Proofs.YtghlnncfigkkaaaGreatDoor
set_option maxRecDepth 100000
set_option maxHeartbeats 4000000
open Go.Lib (hid)
namespace Go.Proofs.YtghlnncfigkkaaaGreatDoor
open Go.RowKit
theorem Zi5 (s:ByteArray) (F:Nat) (l:List Tok) (w:World) (hs:s.size≤100000) (hg:ETyped w) (ht:ErrT w) (hF:12*l.length+20≤F) (hl:scanM s=.toks l) (he:(Zao F l).err=none):
  Calls Tryz.prog 16 #[.string s] w fun e w'=>Below w.heap.size w w'∧∃ SA sc EA ec,e=.returned (.tuple #[.agg #[.slice SA (Zao F l).ss.length sc,.slice EA (Zao F l).es.length ec],.nilIface])∧OwnS w' w.heap.size SA sc (Zao F l).ss∧OwnE w' w.heap.size EA ec (Zao F l).es:=by
 refine (Zhh s F w hs hg ht (fun l' h'=>by rw [hl] at h';injection h' with h';subst h';exact hF)).mono ?_
 rintro e w' ⟨hb,h⟩
 rcases h with ⟨l',e1,e2,r⟩ | ⟨l',c,p,v,e1,e2,r⟩ | ⟨c,p,v,e1,r⟩
 ·rw [hl] at e1;injection e1 with e1;subst e1
  exact ⟨hb,r⟩
 ·rw [hl] at e1;injection e1 with e1;subst e1
  rw [he] at e2;cases e2
 ·rw [hl] at e1;cases e1
theorem Zf2 (w:World) (ts:Array TypeId) (t:TypeId) (a:Nat):(Builtin.min_ ts t #[.int .i64 (a:Int),.int .i64 4200]).run Tryz.prog w=.ok (.int .i64 (minN a 4200:Nat)) w:=Zg3 w ts t a 4200
attribute [local go_sem ↓] Zf2
theorem Zml (s:ByteArray) (hsz:s.size≤maxLen) (w:World):Calls Tryz.prog 17 #[.string s] w fun e w'=>e=.returned (.string (s.extract 0 (minN s.size 4200)))∧w=w':=by
 obtain ⟨m1,m2,m3⟩:=Zjt s.size 4200
 obtain ⟨M,hM⟩:∃ M,M=minN s.size 4200:=⟨_,rfl⟩
 rw [←hM] at m1 m2 ⊢
 have hm:=hM.symm
 clear m3 hM
 go_enter Tryz.func17,Tryz.ntmps17
 go_wp2
 go_ret
 exact ⟨rfl,rfl⟩
end Go.Proofs.YtghlnncfigkkaaaGreatDoor
namespace Go.Proofs.YtghlnncfigkkaaaGreatDoor
open Go.RowKit
attribute [local go_sem ↓] Zch ZbA
end Go.Proofs.YtghlnncfigkkaaaGreatDoor
namespace Go.Proofs.YtghlnncfigkkaaaGreatDoor
open Go.RowKit
def toksE (r:ScanR):List Tok:=match r with | .toks l=>l | _=>[]
def ssE (s:ByteArray):List SI:=(Zao 2000 (toksE (scanM s))).ss.map SI.of
def esE (s:ByteArray):List EI:=(Zao 2000 (toksE (scanM s))).es.map EI.of
def TxtEv (s:ByteArray) (w:World) (e:Ending) (w':World):Prop:=
 Below w.heap.size w w'∧∃ SA sc EA ec ns ne,e=.returned (.tuple #[.agg #[.slice SA ns sc,.slice EA ne ec],.nilIface])∧ns=(ssE s).length∧ne=(esE s).length∧RdSI w' w'.heap.size SA (ssE s)∧RdEI w' w'.heap.size EA (esE s)
theorem Znn (s:ByteArray) (w:World) (hg:ETyped w) (ht:ErrT w) (hs:s.size≤100000) (hl:scanM s=.toks (toksE (scanM s))) (hn:(toksE (scanM s)).length≤160) (he:(Zao 2000 (toksE (scanM s))).err=none):Calls Tryz.prog 16 #[.string s] w (TxtEv s w):=by
 refine (Zi5 s 2000 _ w hs hg ht (by omega) hl he).mono ?_
 rintro e w1 ⟨b1,SA,sc,EA,ec,rfl,oS,oE⟩
 exact ⟨b1,SA,sc,EA,ec,_,_,rfl,by unfold ssE;rw [Kak],by unfold esE;rw [Kak],oS.int,oE.int⟩
attribute [irreducible] ssE esE
theorem ZgU (x:UInt64):IntKind.u64.wrap ((x.toNat:Int)*11400714819323198485)=((mulW x 11400714819323198485).toNat:Int):=Zc4 x 11400714819323198485
theorem Zk5 (x:UInt64):IntKind.u64.wrap ((x.toNat:Int)-3)=((subW x 3).toNat:Int):=Zfc x 3
attribute [local go_sem ↓] ZgU Zk5
def Zbq (ws:List UInt64) (k:Nat):UInt64:=if k<ws.length then nthW ws k else subW (mulW (UInt64.ofNat k) 11400714819323198485) 3
attribute [irreducible] Zbq
end Go.Proofs.YtghlnncfigkkaaaGreatDoor
namespace Go.Proofs.YtghlnncfigkkaaaGreatDoor
open Go.RowKit
theorem OutT.rd {w:World} {base n c:Nat} {A:Option Addr} {l:List TN} (h:OutT w base A n c l):RdTN w w.heap.size A l:=by
 by_cases hl:l=[]
 ·exact .inl hl
 ·have h0:l[0]?=some (l[0]'(List.length_pos_iff.2 hl)):=Kad _
  obtain ⟨g,_,_,_,_,rfl,hg,_⟩:=h.at_ h0
  refine .inr ⟨g,0,rfl,hg,fun i x hx => ?_⟩
  obtain ⟨g',A1,c1,A2,c2,e,_,k0,k1,o1,o2⟩:=h.at_ hx
  injection e with e
  injection e with e _ _
  subst e
  have u1:=ZfY o1
  have u2:=ZfY o2
  rw [Kak] at u1 u2
  exact ⟨⟨A1,c1,by rw [Nat.zero_add];exact k0,o1.rd,by omega,u1.1,u1.2⟩,A2,c2,by rw [Nat.zero_add];exact k1,o2.rd,by omega,u2.1,u2.2⟩
structure TxtOk (s:ByteArray):Prop where
 hs:s.size≤100000
 hl:scanM s=.toks (toksE (scanM s))
 hn:(toksE (scanM s)).length≤160
 he:(Zao 2000 (toksE (scanM s))).err=none
 h1:(ssE s).length≤100000
 h2:(esE s).length≤100000
 h3:(esE s).all (fun e=>decide (e.num≤18446744073709551615))=true
 h4:(ssE s).all (fun s=>decide (s.shape.length≤1000000))=true
 h5:(ssE s).length≤1000
end Go.Proofs.YtghlnncfigkkaaaGreatDoor
