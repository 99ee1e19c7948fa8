/-
  min as the builtin says it; a text cut to a length; how many tokens a scan tells. The walk of parse.Text.
-/
import Derived.Test.YtghlnncfigkkaaaGreatDoorQNum
import Derived.Test.YtghlnncfigkkaaaGreatDoorQParN
import Derived.Test.YtghlnncfigkkaaaGreatDoorQScanL
import Derived.Test.YtghlnncfigkkaaaGreatDoorQScan
set_option maxRecDepth 100000
set_option maxHeartbeats 4000000
open Go.Lib (hid)
namespace Go.Proofs.YtghlnncfigkkaaaGreatDoor
set_option linter.unusedVariables false
set_option linter.unusedSimpArgs false
open Go.RowKit
theorem ZhR (s:ByteArray):∀ (f k:Nat) (l r:List Tok),l.length≤512→ZaN f s k l=.toks r→r.length≤513:=by
 intro f
 induction f with
 | zero=>intro k l r h e;unfold ZaN at e;injection e with e;subst e;omega
 | succ f ih=>
  intro k l r h e
  unfold ZaN at e
  split at e
  ·split at e
   ·cases e
   ·split at e
    ·cases e
    ·rename_i hne
     exact ih _ _ _ (by rw [List.length_append];simp;omega) e
  ·injection e with e
   subst e
   rw [List.length_append]
   simp
   omega
theorem ZdU {s:ByteArray} {r:List Tok} (h:scanM s=.toks r):r.length≤513∧s.size≤4096:=by
 unfold scanM at h
 split at h
 ·cases h
 ·exact ⟨ZhR _ _ _ _ _ (by simp) h,by omega⟩
def ZmD (W:World) (F:Nat) (S:ScanR) (e:Ending) (w':World):Prop:=
 Below W.heap.size W w'∧((∃ l,S=.toks l∧(Zao F l).err=none∧∃ SA sc EA ec,e=.returned (.tuple #[.agg #[.slice SA (Zao F l).ss.length sc,.slice EA (Zao F l).es.length ec],.nilIface])∧OwnS w' W.heap.size SA sc (Zao F l).ss∧OwnE w' W.heap.size EA ec (Zao F l).es) ∨
  (∃ l c p v,S=.toks l∧(Zao F l).err=some (c,p)∧e=.returned (.tuple #[.agg #[.slice none 0 0,.slice none 0 0],v])∧IsErr w' v [(parN,(p:Int))] (c:Int)) ∨
  ∃ c p v,S=.err c p∧e=.returned (.tuple #[.agg #[.slice none 0 0,.slice none 0 0],v])∧IsErr w' v [(lexN,(p:Int))] (c:Int))
def Zli (W:World) (F:Nat) (S:ScanR) (e:Ending) (w':World):Prop:=
 Below W.heap.size W w'∧((∃ l,S=.toks l∧(Zao F l).err=none∧∃ SA sc EA ec,e=.returned (.tuple #[.agg #[.slice SA (Zao F l).ss.length sc,.slice EA (Zao F l).es.length ec],.nilIface])∧OwnS w' W.heap.size SA sc (Zao F l).ss∧OwnE w' W.heap.size EA ec (Zao F l).es∧Sep noX w' W.heap.size SA sc (Zao F l).ss EA ec (Zao F l).es) ∨
  (∃ l c p v,S=.toks l∧(Zao F l).err=some (c,p)∧e=.returned (.tuple #[.agg #[.slice none 0 0,.slice none 0 0],v])∧IsErr w' v [(parN,(p:Int))] (c:Int)) ∨
  ∃ c p v,S=.err c p∧e=.returned (.tuple #[.agg #[.slice none 0 0,.slice none 0 0],v])∧IsErr w' v [(lexN,(p:Int))] (c:Int))
theorem Zjo (s:ByteArray) (F:Nat) (w:World) (hs:s.size≤100000) (hg:ETyped w) (ht:ErrT w) (hF:∀ l,scanM s=.toks l→12*l.length+20≤F):
  Calls Tryz.prog 16 #[.string s] w (Zli w F (scanM s)):=by
 obtain ⟨wa,hwa⟩:∃ wa,wa=w.alloc (.cells #[.slice none 0 0,.slice none 0 0] 26):=⟨_,rfl⟩
 have hba:Below w.heap.size w wa:=by rw [hwa];exact (Below.refl _ _).alloc (Nat.le_refl _) _
 have hsa:wa.heap.size=w.heap.size+1:=by rw [hwa];simp
 have htree:wa.heap[w.heap.size]?=some (.cells #[.slice none 0 0,.slice none 0 0] 26 (0,0)):=by rw [hwa];exact heap_alloc_new w _
 have HWA:=hid hwa
 have HBA:=hid hba
 have HGA:=hid (hg.next hba)
 have HTA:=hid (ht.next hba)
 have HTREE:=hid htree
 have HF:=hid hF
 clear hwa hba htree hg ht hF
 go_enter Tryz.func16,Tryz.ntmps16
 go_wp2_with fail
 rw [←HWA.out]
 refine (ZlB s wa hs HGA.out HTA.out).mono ?_
 rintro e w2 ⟨b2,h⟩
 have HG2:=hid (HGA.out.next b2)
 have HB2:=hid (HBA.out.trans (b2.mono (by omega)))
 have ht2:=(b2.block w.heap.size (by omega)).trans HTREE.out
 have hs2:w.heap.size+1≤w2.heap.size:=by have:=b2.size;omega
 clear b2
 rcases h with ⟨l,A,cap,hR,rfl,o2⟩ | ⟨c,p,v,hR,rfl,he⟩
 ·have hlen:=(ZdU hR).1
  have HR:=hid hR
  have HP:=hid (ZhY l A cap F w2 (by omega) o2.rd HG2.out (HF.out l hR))
  have HT2:=hid ht2
  clear hR o2 ht2
  go_wp2_with fail
  refine HP.out.mono ?_
  rintro e w3 ⟨b3,h3⟩
  have HB3:=hid (HB2.out.trans (b3.mono (by omega)))
  have ht3:=(b3.block w.heap.size (by omega)).trans HT2.out
  have z0:=cell_of_row w3 _ 0 _ _ _ ht3
  have z1:=cell_of_row w3 _ 1 _ _ _ ht3
  have y0:=Zan ht3 0
  have y1:=Zan ht3 1
  have HT3:=hid ht3
  clear b3 ht3
  rcases h3 with ⟨hn,SA,sc,EA,ec,rfl,oS,oE,oP⟩ | ⟨c,p,v,hn,rfl,he⟩
  ·have HN:=hid hn
   have HOS:=hid oS
   have HOE:=hid oE
   have HOP:=hid oP
   clear hn oS oE oP
   obtain ⟨ns,hns⟩:∃ ns,ns=(Zao F l).ss.length:=⟨_,rfl⟩
   obtain ⟨ne,hne⟩:∃ ne,ne=(Zao F l).es.length:=⟨_,rfl⟩
   rw [←hns,←hne]
   have HNS:=hid hns
   have HNE:=hid hne
   clear hns hne
   go_wp2
   obtain ⟨wS,hwS⟩:∃ wS,wS=(w3.setCell ⟨w.heap.size,0,none⟩ (.slice SA ns sc)).setCell ⟨w.heap.size,1,none⟩ (.slice EA ne ec):=⟨_,rfl⟩
   rw [←hwS]
   obtain ⟨s1,s2,s3⟩:=ZbN HT3.out hwS
   have hbel:=s3 w.heap.size w HB3.out (Nat.le_refl _)
   have g0:=cell_of_row wS _ 0 _ _ _ s1
   have g1:=cell_of_row wS _ 1 _ _ _ s1
   have hoS:OwnS wS w.heap.size SA sc (Zao F l).ss:=HOS.out.more (by omega) (fun k hk=>s2 k (by omega))
   have hoE:OwnE wS w.heap.size EA ec (Zao F l).es:=HOE.out.more (by omega) (fun k hk=>s2 k (by omega))
   have hoP:Sep noX wS w.heap.size SA sc (Zao F l).ss EA ec (Zao F l).es:=HOP.out.map (fun _ _ a=>a.more (by omega) (fun k hk=>s2 k (by omega))) (fun _ _ a=>a.more (by omega) (fun k hk=>s2 k (by omega)))
   clear s1 s2 s3 hwS
   exact bodyPost_ret (v:=.tuple #[.agg #[.slice SA ns sc,.slice EA ne ec],.nilIface]) (by simp [results,Tryz.results16,go_sem,g0,g1]) rfl ⟨hbel,.inl ⟨l,HR.out,HN.out,SA,sc,EA,ec,by rw [←HNS.out,←HNE.out],hoS,hoE,hoP⟩⟩
  ·obtain ⟨te,xe,rfl⟩:=he.iface
   have HN:=hid hn
   have HE:=hid he
   clear hn he
   go_wp2
   obtain ⟨wS,hwS⟩:∃ wS,wS=(w3.setCell ⟨w.heap.size,0,none⟩ (.slice none 0 0)).setCell ⟨w.heap.size,1,none⟩ (.slice none 0 0):=⟨_,rfl⟩
   rw [←hwS]
   have hie2:IsErr wS (.iface te xe) [(parN,(p:Int))] (c:Int):=by
    rw [hwS]
    exact IsErr.set (t:=⟨w.heap.size,1,none⟩) (heap_setCell_same _ _ _ _ _ _ HT3.out) (by decide) (IsErr.set (t:=⟨w.heap.size,0,none⟩) HT3.out (by decide) HE.out)
   obtain ⟨s1,s2,s3⟩:=ZbN HT3.out hwS
   have hbel:=s3 w.heap.size w HB3.out (Nat.le_refl _)
   have g0:=cell_of_row wS _ 0 _ _ _ s1
   have g1:=cell_of_row wS _ 1 _ _ _ s1
   clear s1 s2 s3 hwS
   exact bodyPost_ret (v:=.tuple #[.agg #[.slice none 0 0,.slice none 0 0],.iface te xe]) (by simp [results,Tryz.results16,go_sem,g0,g1]) rfl ⟨hbel,.inr (.inl ⟨l,c,p,_,HR.out,HN.out,rfl,hie2⟩)⟩
 ·obtain ⟨te,xe,rfl⟩:=he.iface
  have HR:=hid hR
  have HE:=hid he
  have z0:=cell_of_row w2 _ 0 _ _ _ ht2
  have z1:=cell_of_row w2 _ 1 _ _ _ ht2
  have y0:=Zan ht2 0
  have y1:=Zan ht2 1
  have HT2:=hid ht2
  clear hR he ht2
  go_wp2
  obtain ⟨wS,hwS⟩:∃ wS,wS=(w2.setCell ⟨w.heap.size,0,none⟩ (.slice none 0 0)).setCell ⟨w.heap.size,1,none⟩ (.slice none 0 0):=⟨_,rfl⟩
  rw [←hwS]
  have hie2:IsErr wS (.iface te xe) [(lexN,(p:Int))] (c:Int):=by
   rw [hwS]
   exact IsErr.set (t:=⟨w.heap.size,1,none⟩) (heap_setCell_same _ _ _ _ _ _ HT2.out) (by decide) (IsErr.set (t:=⟨w.heap.size,0,none⟩) HT2.out (by decide) HE.out)
  obtain ⟨s1,s2,s3⟩:=ZbN HT2.out hwS
  have hbel:=s3 w.heap.size w HB2.out (Nat.le_refl _)
  have g0:=cell_of_row wS _ 0 _ _ _ s1
  have g1:=cell_of_row wS _ 1 _ _ _ s1
  clear s1 s2 s3 hwS
  exact bodyPost_ret (v:=.tuple #[.agg #[.slice none 0 0,.slice none 0 0],.iface te xe]) (by simp [results,Tryz.results16,go_sem,g0,g1]) rfl ⟨hbel,.inr (.inr ⟨c,p,_,HR.out,rfl,hie2⟩)⟩
theorem Zhh (s:ByteArray) (F:Nat) (w:World) (hs:s.size≤100000) (hg:ETyped w) (ht:ErrT w) (hF:∀ l,scanM s=.toks l→12*l.length+20≤F):
  Calls Tryz.prog 16 #[.string s] w (ZmD w F (scanM s)):=
 (Zjo s F w hs hg ht hF).mono fun e w' ⟨h1,h2⟩=>⟨h1,h2.imp_left fun ⟨l,a,b,SA,sc,EA,ec,e1,f,g,_⟩=>⟨l,a,b,SA,sc,EA,ec,e1,f,g⟩⟩
end Go.Proofs.YtghlnncfigkkaaaGreatDoor
