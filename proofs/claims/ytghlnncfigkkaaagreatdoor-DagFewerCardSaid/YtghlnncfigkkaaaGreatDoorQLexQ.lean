/-
 Walks of the words, and of lex.one at names and signs.
-/
import Derived.Test.YtghlnncfigkkaaaGreatDoorQParA
import Derived.Test.YtghlnncfigkkaaaGreatDoorQLexO
import Derived.Lib.IndexAny
import Derived.RegionTactic
set_option maxRecDepth 100000
set_option maxHeartbeats 4000000
open Go.Lib (hid)
namespace Go.Proofs.YtghlnncfigkkaaaGreatDoor
set_option linter.unusedVariables false
set_option linter.unusedSimpArgs false
open Go.RowKit
theorem Zlf (s:ByteArray) (w:World):Calls Tryz.prog 125 #[.string s] w fun e w'=>e=.returned (.bool (wordB s.data.toList))∧w=w':=by
 go_enter Tryz.func125,Tryz.ntmps125
 go_wp2
 all_goals
  go_ret
  exact ⟨by rw [←ByteArray.toList_eq];unfold wordB;first | (simp [*];done) | (exfalso;simp_all;done),rfl⟩
theorem Zjm (s:ByteArray) (l:List UInt8) (b:Bool) (hl:s.data.toList=l) (h:wordB l=b) (w:World):Calls Tryz.prog 125 #[.string s] w fun e w'=>e=.returned (.bool b)∧w=w':=by
 have:=Zlf s w
 rwa [hl,h] at this
theorem Zfb (c:UInt8) (b:Bool) (h:digB c=b) (w:World):Calls Tryz.prog 120 #[V8 c] w fun e w'=>e=.returned (.bool b)∧w=w':=by
 have:=Zcd c w
 rwa [h] at this
theorem ZmB {c:UInt8} (h:lowB c=true):letB c=true∧((c.toNat:Int) != 95)=true:=by
 unfold lowB at h
 unfold letB
 simp at h ⊢
 omega
theorem nolow {c:UInt8} (h:lowB c=false):(letB c=false)∨(letB c=true∧((c.toNat:Int) != 95)=false):=by
 unfold lowB at h
 unfold letB
 simp at h ⊢
 omega
theorem Zlg (s:ByteArray) (k:Nat) (w:World) (hs:s.size≤100000) (hk:k<s.size) (hd:digB s[k]=false) (hl:lowB s[k]=true):
  Calls Tryz.prog 82 #[.string s,.int .i64 k] w (Ze9 w s k):=by
 obtain ⟨n,hn⟩:∃ n,n=Zax namB s k:=⟨_,rfl⟩
 have hnk:=Zce namB s (Nat.le_of_lt hk)
 rw [←hn] at hnk
 obtain ⟨h1,h2⟩:=ZmB hl
 have HD:=hid (fun W=>Zfb s[k] _ hd W)
 have HL:=hid (fun W=>Zb1 s[k] _ h1 W)
 have HR:=hid (fun W=>Zm9 s k W hs (Nat.le_of_lt hk))
 have HN:=hid hn
 have hone:oneM s k=if n≤16 then some (if wordB (Zam s k n) then 4 else 1,n,0) else none:=by
  unfold oneM
  rw [dif_pos hk,if_neg (by rw [hd];simp),if_pos hl,←hn]
 have HB:=hid hone
 clear hd hl h1 hone hn
 cases hw:wordB (Zam s k n) with
 | true=>
  have HW:=hid (fun W=>Zjm (s.extract k (k+n)) _ _ (ZaF s k n) hw W)
  have HWB:=hid hw
  clear hw
  go_enter Tryz.func82,Tryz.ntmps82
  go_wp2_with fail
  refine (HD.out _).mono ?_
  rintro e w1 ⟨rfl,rfl⟩
  go_wp2_with fail
  refine (HL.out _).mono ?_
  rintro e w1 ⟨rfl,rfl⟩
  go_wp2_with fail
  refine (HR.out _).mono ?_
  rintro e w1 ⟨rfl,rfl⟩
  rw [←HN.out]
  go_wp2_with fail
  refine (HW.out _).mono ?_
  rintro e w1 ⟨rfl,rfl⟩
  go_wp2_with fail
  obtain ⟨w4,hw4⟩:∃ w4,w4=(w.alloc tokZ).alloc (.cells #[.int .i64 4,.string (s.extract k (k+n)),.int .u64 0,.int .i64 k] 155):=⟨_,rfl⟩
  rw [←hw4]
  have k4:w4.heap[w.heap.size+1]?=some (.cells #[.int .i64 4,.string (s.extract k (k+n)),.int .u64 0,.int .i64 k] 155 (0,0)):=by rw [hw4];exact (Zb9 w _).2
  have k40:w4.heap[w.heap.size]?=some tokZ:=by rw [hw4];exact (Zb9 w _).1
  have HB4:=hid (show Below w.heap.size w w4 from by rw [hw4];exact ZbK w _)
  clear hw4
  have hS:=hid (And.intro (Kaa w4.drew _ 0 _ _ _ k4) (And.intro (Kaa w4.drew _ 1 _ _ _ k4) (And.intro (Kaa w4.drew _ 2 _ _ _ k4) (Kaa w4.drew _ 3 _ _ _ k4))))
  have z0:=Kaa w4 _ 0 _ _ _ k40
  have y0:=Zar k40 0
  have z1:=Kaa w4 _ 1 _ _ _ k40
  have y1:=Zar k40 1
  have z2:=Kaa w4 _ 2 _ _ _ k40
  have y2:=Zar k40 2
  have z3:=Kaa w4 _ 3 _ _ _ k40
  have y3:=Zar k40 3
  have K4:=hid k4
  have K40:=hid k40
  clear k4 k40
  by_cases h16:n≤16
  ·have q:=hid h16
   have h16':(n:Int)≤16:=by omega
   clear h16
   refine wp_region_held_drew (S:=(fun w'=>w'.cell? ⟨w.heap.size+1,0,none⟩=some (.int .i64 4)∧w'.cell? ⟨w.heap.size+1,1,none⟩=some (.string (s.extract k (k+n)))∧w'.cell? ⟨w.heap.size+1,2,none⟩=some (.int .u64 0)∧w'.cell? ⟨w.heap.size+1,3,none⟩=some (.int .i64 k))) (by kernel_rfl) hS.out (fun hHeld => ?_)
   refine tk 0 ?_
   simp only [tkS]
   refine tk 1 ?_
   simp only [tkS]
   refine tk 2 ?_
   simp only [tkS]
   refine tk 3 ?_
   simp only [tkS]
   refine tk 4 ?_
   simp only [tkS]
   refine wpAnyH_ready (rs:=[5]) (by kernel_rfl) (by simp) ?_
   refine AllReadyH.cons (o:=_) rfl (fun K hK => ?_) AllReadyH.nil
   go_simp
   obtain ⟨wS,hwS⟩:∃ wS,wS=((((w4.setCell ⟨w.heap.size,0,none⟩ (.int .i64 4)).setCell ⟨w.heap.size,1,none⟩ (.string (s.extract k (k+n)))).setCell ⟨w.heap.size,2,none⟩ (.int .u64 0)).setCell ⟨w.heap.size,3,none⟩ (.int .i64 k)).drew:=⟨_,rfl⟩
   obtain ⟨s1,s2,s3⟩:=Za5 K40.out hwS
   rw [←hwS]
   clear hwS
   have s2':=s2.trans K4.out
   refine hK.out _ _ ⟨Kaa _ _ 0 _ _ _ s2',Kaa _ _ 1 _ _ _ s2',Kaa _ _ 2 _ _ _ s2',Kaa _ _ 3 _ _ _ s2'⟩ (fun hHeld => ?_)
   clear hK K
   try simp only [tkS]
   refine tk 6 (oi:=⟨some 5,_,_,_,_,_⟩) ?_
   simp only [tkS]
   refine wpAnyH_done (by kernel_rfl) ?_ _
   have d0:=Kaa _ _ 0 _ _ _ s1
   have d1:=Kaa _ _ 1 _ _ _ s1
   have d2:=Kaa _ _ 2 _ _ _ s1
   have d3:=Kaa _ _ 3 _ _ _ s1
   have HBS:=hid (s3 w.heap.size w HB4.out (Kag _))
   clear s1 s2 s2' s3 hHeld
   go_wp2
   exact bodyPost_ret (v:=.tuple #[.agg #[.int .i64 4,.string (s.extract k (k+n)),.int .u64 0,.int .i64 k],.bool true]) (by simp [results,Tryz.results82,go_sem,d0,d1,d2,d3]) rfl ⟨HBS.out,_,_,_,_,_,rfl,Or.inr ⟨_,_,_,by rw [HB.out,if_pos q.out,HWB.out];rfl,rfl,rfl,rfl,rfl,rfl⟩⟩
  ·have q:=hid h16
   have h16':(16:Int)<(n:Int):=by omega
   clear h16
   refine wp_region_held_drew (S:=(fun w'=>w'.cell? ⟨w.heap.size+1,0,none⟩=some (.int .i64 4)∧w'.cell? ⟨w.heap.size+1,1,none⟩=some (.string (s.extract k (k+n)))∧w'.cell? ⟨w.heap.size+1,2,none⟩=some (.int .u64 0)∧w'.cell? ⟨w.heap.size+1,3,none⟩=some (.int .i64 k))) (by kernel_rfl) hS.out (fun hHeld => ?_)
   refine tk 0 ?_
   simp only [tkS]
   refine tk 1 ?_
   simp only [tkS]
   refine tk 2 ?_
   simp only [tkS]
   refine tk 3 ?_
   simp only [tkS]
   refine tk 4 ?_
   simp only [tkS]
   refine wpAnyH_ready (rs:=[5]) (by kernel_rfl) (by simp) ?_
   refine AllReadyH.cons (o:=_) rfl (fun K hK => ?_) AllReadyH.nil
   go_simp
   obtain ⟨wS,hwS⟩:∃ wS,wS=((((w4.setCell ⟨w.heap.size,0,none⟩ (.int .i64 4)).setCell ⟨w.heap.size,1,none⟩ (.string (s.extract k (k+n)))).setCell ⟨w.heap.size,2,none⟩ (.int .u64 0)).setCell ⟨w.heap.size,3,none⟩ (.int .i64 k)).drew:=⟨_,rfl⟩
   obtain ⟨s1,s2,s3⟩:=Za5 K40.out hwS
   rw [←hwS]
   clear hwS
   have s2':=s2.trans K4.out
   refine hK.out _ _ ⟨Kaa _ _ 0 _ _ _ s2',Kaa _ _ 1 _ _ _ s2',Kaa _ _ 2 _ _ _ s2',Kaa _ _ 3 _ _ _ s2'⟩ (fun hHeld => ?_)
   clear hK K
   try simp only [tkS]
   refine tk 6 (oi:=⟨some 5,_,_,_,_,_⟩) ?_
   simp only [tkS]
   refine wpAnyH_done (by kernel_rfl) ?_ _
   have d0:=Kaa _ _ 0 _ _ _ s1
   have d1:=Kaa _ _ 1 _ _ _ s1
   have d2:=Kaa _ _ 2 _ _ _ s1
   have d3:=Kaa _ _ 3 _ _ _ s1
   have HBS:=hid (s3 w.heap.size w HB4.out (Kag _))
   clear s1 s2 s2' s3 hHeld
   go_wp2
   exact bodyPost_ret (v:=.tuple #[.agg #[.int .i64 4,.string (s.extract k (k+n)),.int .u64 0,.int .i64 k],.bool false]) (by simp [results,Tryz.results82,go_sem,d0,d1,d2,d3,h16']) rfl ⟨HBS.out,_,_,_,_,_,rfl,Or.inl ⟨by rw [HB.out,if_neg q.out],rfl⟩⟩
 | false=>
  have HW:=hid (fun W=>Zjm (s.extract k (k+n)) _ _ (ZaF s k n) hw W)
  have HWB:=hid hw
  clear hw
  go_enter Tryz.func82,Tryz.ntmps82
  go_wp2_with fail
  refine (HD.out _).mono ?_
  rintro e w1 ⟨rfl,rfl⟩
  go_wp2_with fail
  refine (HL.out _).mono ?_
  rintro e w1 ⟨rfl,rfl⟩
  go_wp2_with fail
  refine (HR.out _).mono ?_
  rintro e w1 ⟨rfl,rfl⟩
  rw [←HN.out]
  go_wp2_with fail
  refine (HW.out _).mono ?_
  rintro e w1 ⟨rfl,rfl⟩
  go_wp2_with fail
  obtain ⟨w4,hw4⟩:∃ w4,w4=(w.alloc tokZ).alloc (.cells #[.int .i64 1,.string (s.extract k (k+n)),.int .u64 0,.int .i64 k] 155):=⟨_,rfl⟩
  rw [←hw4]
  have k4:w4.heap[w.heap.size+1]?=some (.cells #[.int .i64 1,.string (s.extract k (k+n)),.int .u64 0,.int .i64 k] 155 (0,0)):=by rw [hw4];exact (Zb9 w _).2
  have k40:w4.heap[w.heap.size]?=some tokZ:=by rw [hw4];exact (Zb9 w _).1
  have HB4:=hid (show Below w.heap.size w w4 from by rw [hw4];exact ZbK w _)
  clear hw4
  have hS:=hid (And.intro (Kaa w4.drew _ 0 _ _ _ k4) (And.intro (Kaa w4.drew _ 1 _ _ _ k4) (And.intro (Kaa w4.drew _ 2 _ _ _ k4) (Kaa w4.drew _ 3 _ _ _ k4))))
  have z0:=Kaa w4 _ 0 _ _ _ k40
  have y0:=Zar k40 0
  have z1:=Kaa w4 _ 1 _ _ _ k40
  have y1:=Zar k40 1
  have z2:=Kaa w4 _ 2 _ _ _ k40
  have y2:=Zar k40 2
  have z3:=Kaa w4 _ 3 _ _ _ k40
  have y3:=Zar k40 3
  have K4:=hid k4
  have K40:=hid k40
  clear k4 k40
  by_cases h16:n≤16
  ·have q:=hid h16
   have h16':(n:Int)≤16:=by omega
   clear h16
   refine wp_region_held_drew (S:=(fun w'=>w'.cell? ⟨w.heap.size+1,0,none⟩=some (.int .i64 1)∧w'.cell? ⟨w.heap.size+1,1,none⟩=some (.string (s.extract k (k+n)))∧w'.cell? ⟨w.heap.size+1,2,none⟩=some (.int .u64 0)∧w'.cell? ⟨w.heap.size+1,3,none⟩=some (.int .i64 k))) (by kernel_rfl) hS.out (fun hHeld => ?_)
   refine tk 0 ?_
   simp only [tkS]
   refine tk 1 ?_
   simp only [tkS]
   refine tk 2 ?_
   simp only [tkS]
   refine tk 3 ?_
   simp only [tkS]
   refine tk 4 ?_
   simp only [tkS]
   refine wpAnyH_ready (rs:=[5]) (by kernel_rfl) (by simp) ?_
   refine AllReadyH.cons (o:=_) rfl (fun K hK => ?_) AllReadyH.nil
   go_simp
   obtain ⟨wS,hwS⟩:∃ wS,wS=((((w4.setCell ⟨w.heap.size,0,none⟩ (.int .i64 1)).setCell ⟨w.heap.size,1,none⟩ (.string (s.extract k (k+n)))).setCell ⟨w.heap.size,2,none⟩ (.int .u64 0)).setCell ⟨w.heap.size,3,none⟩ (.int .i64 k)).drew:=⟨_,rfl⟩
   obtain ⟨s1,s2,s3⟩:=Za5 K40.out hwS
   rw [←hwS]
   clear hwS
   have s2':=s2.trans K4.out
   refine hK.out _ _ ⟨Kaa _ _ 0 _ _ _ s2',Kaa _ _ 1 _ _ _ s2',Kaa _ _ 2 _ _ _ s2',Kaa _ _ 3 _ _ _ s2'⟩ (fun hHeld => ?_)
   clear hK K
   try simp only [tkS]
   refine tk 6 (oi:=⟨some 5,_,_,_,_,_⟩) ?_
   simp only [tkS]
   refine wpAnyH_done (by kernel_rfl) ?_ _
   have d0:=Kaa _ _ 0 _ _ _ s1
   have d1:=Kaa _ _ 1 _ _ _ s1
   have d2:=Kaa _ _ 2 _ _ _ s1
   have d3:=Kaa _ _ 3 _ _ _ s1
   have HBS:=hid (s3 w.heap.size w HB4.out (Kag _))
   clear s1 s2 s2' s3 hHeld
   go_wp2
   exact bodyPost_ret (v:=.tuple #[.agg #[.int .i64 1,.string (s.extract k (k+n)),.int .u64 0,.int .i64 k],.bool true]) (by simp [results,Tryz.results82,go_sem,d0,d1,d2,d3]) rfl ⟨HBS.out,_,_,_,_,_,rfl,Or.inr ⟨_,_,_,by rw [HB.out,if_pos q.out,HWB.out];rfl,rfl,rfl,rfl,rfl,rfl⟩⟩
  ·have q:=hid h16
   have h16':(16:Int)<(n:Int):=by omega
   clear h16
   refine wp_region_held_drew (S:=(fun w'=>w'.cell? ⟨w.heap.size+1,0,none⟩=some (.int .i64 1)∧w'.cell? ⟨w.heap.size+1,1,none⟩=some (.string (s.extract k (k+n)))∧w'.cell? ⟨w.heap.size+1,2,none⟩=some (.int .u64 0)∧w'.cell? ⟨w.heap.size+1,3,none⟩=some (.int .i64 k))) (by kernel_rfl) hS.out (fun hHeld => ?_)
   refine tk 0 ?_
   simp only [tkS]
   refine tk 1 ?_
   simp only [tkS]
   refine tk 2 ?_
   simp only [tkS]
   refine tk 3 ?_
   simp only [tkS]
   refine tk 4 ?_
   simp only [tkS]
   refine wpAnyH_ready (rs:=[5]) (by kernel_rfl) (by simp) ?_
   refine AllReadyH.cons (o:=_) rfl (fun K hK => ?_) AllReadyH.nil
   go_simp
   obtain ⟨wS,hwS⟩:∃ wS,wS=((((w4.setCell ⟨w.heap.size,0,none⟩ (.int .i64 1)).setCell ⟨w.heap.size,1,none⟩ (.string (s.extract k (k+n)))).setCell ⟨w.heap.size,2,none⟩ (.int .u64 0)).setCell ⟨w.heap.size,3,none⟩ (.int .i64 k)).drew:=⟨_,rfl⟩
   obtain ⟨s1,s2,s3⟩:=Za5 K40.out hwS
   rw [←hwS]
   clear hwS
   have s2':=s2.trans K4.out
   refine hK.out _ _ ⟨Kaa _ _ 0 _ _ _ s2',Kaa _ _ 1 _ _ _ s2',Kaa _ _ 2 _ _ _ s2',Kaa _ _ 3 _ _ _ s2'⟩ (fun hHeld => ?_)
   clear hK K
   try simp only [tkS]
   refine tk 6 (oi:=⟨some 5,_,_,_,_,_⟩) ?_
   simp only [tkS]
   refine wpAnyH_done (by kernel_rfl) ?_ _
   have d0:=Kaa _ _ 0 _ _ _ s1
   have d1:=Kaa _ _ 1 _ _ _ s1
   have d2:=Kaa _ _ 2 _ _ _ s1
   have d3:=Kaa _ _ 3 _ _ _ s1
   have HBS:=hid (s3 w.heap.size w HB4.out (Kag _))
   clear s1 s2 s2' s3 hHeld
   go_wp2
   exact bodyPost_ret (v:=.tuple #[.agg #[.int .i64 1,.string (s.extract k (k+n)),.int .u64 0,.int .i64 k],.bool false]) (by simp [results,Tryz.results82,go_sem,d0,d1,d2,d3,h16']) rfl ⟨HBS.out,_,_,_,_,_,rfl,Or.inl ⟨by rw [HB.out,if_neg q.out],rfl⟩⟩
theorem ZhP (w:World) (o o':Obj):Below w.heap.size w ((w.alloc o).alloc o'):=((Kai _ _).alloc (Kag _) _).alloc (by simp) _
theorem ZmC (s:ByteArray) {k:Nat} (hk:k<s.size):(s.extract k (k+1))=⟨#[s[k]]⟩:=by
 apply ByteArray.ext
 apply Array.ext'
 rw [ZaF]
 unfold Zam
 rw [Zc3 s hk]
 rfl
theorem Zhg (c:UInt8):decide (0≤Lib.indexByte signL c)=signB c:=by
 unfold signB
 rw [Lib.contains_iff_indexByte]
theorem ZhQ (s:ByteArray) {k:Nat} (hk:k≤s.size) (h:Lib.hasPrefix (s.data.toList.drop k) [62,62]=true):k+2≤s.size∧s.extract k (k+2)=⟨#[62,62]⟩:=by
 unfold Lib.hasPrefix at h
 rw [List.isPrefixOf_iff_prefix] at h
 obtain ⟨r,hr⟩:=h
 have hl:=congrArg List.length hr
 rw [List.length_drop,Zbe] at hl
 simp at hl
 refine ⟨by omega,?_⟩
 apply ByteArray.ext
 apply Array.ext'
 rw [ZaF]
 unfold Zam
 rw [←hr]
 rfl
theorem Zjn (s:ByteArray) (k:Nat) (w:World) (hs:s.size≤100000) (hk:k<s.size) (hd:digB s[k]=false) (hl:lowB s[k]=false) (hp:Lib.hasPrefix (s.data.toList.drop k) [62,62]=true):
  Calls Tryz.prog 82 #[.string s,.int .i64 k] w (Ze9 w s k):=by
 obtain ⟨hk2,htx⟩:=ZhQ s (Nat.le_of_lt hk) hp
 have HT:=hid htx
 have HD:=hid (fun W=>Zfb s[k] _ hd W)
 have HP:=hid (fun W => Tryz.strings_HasPrefix (s.extract k s.size) ⟨#[62,62]⟩ W)
 have HPV:=hid hp
 have hone:oneM s k=some (3,2,0):=by
  unfold oneM
  rw [dif_pos hk,if_neg (by rw [hd];simp),if_neg (by rw [hl];simp),if_pos hp]
 have HB:=hid hone
 have hcase:=nolow hl
 clear hd hl hone hp htx
 rcases hcase with h1 | ⟨h1,h2⟩
 all_goals
  have HL:=hid (fun W=>Zb1 s[k] _ h1 W)
  clear h1
  go_enter Tryz.func82,Tryz.ntmps82
  go_wp2_with fail
  refine (HD.out _).mono ?_
  rintro e w1 ⟨rfl,rfl⟩
  go_wp2_with fail
  refine (HL.out _).mono ?_
  rintro e w1 ⟨rfl,rfl⟩
  go_wp2_with fail
  refine (HP.out _).mono ?_
  rintro e w1 ⟨rfl,rfl⟩
  rw [ZdA,HPV.out]
  go_wp2
  exact bodyPost_ret (v:=.tuple #[.agg #[.int .i64 3,.string ⟨#[62,62]⟩,.int .u64 0,.int .i64 k],.bool true]) (by simp [results,Tryz.results82,go_sem]) rfl ⟨ZhP w _ _,_,_,_,_,_,rfl,Or.inr ⟨_,_,_,HB.out,rfl,rfl,by rw [HT.out],rfl,rfl⟩⟩
theorem Zlh (s:ByteArray) (k:Nat) (w:World) (hs:s.size≤100000) (hk:k<s.size) (hd:digB s[k]=false) (hl:lowB s[k]=false) (hp:Lib.hasPrefix (s.data.toList.drop k) [62,62]=false):
  Calls Tryz.prog 82 #[.string s,.int .i64 k] w (Ze9 w s k):=by
 have HT:=hid (ZmC s hk)
 have HD:=hid (fun W=>Zfb s[k] _ hd W)
 have HP:=hid (fun W => Tryz.strings_HasPrefix (s.extract k s.size) ⟨#[62,62]⟩ W)
 have HC:=hid (fun W => Tryz.strings_Contains_one ⟨#[43,45,42,64,60,61,40,41,91,93,44,59]⟩ s[k] W)
 have HPV:=hid hp
 have hone:oneM s k=if signB s[k] then some (3,1,0) else none:=by
  unfold oneM
  rw [dif_pos hk,if_neg (by rw [hd];simp),if_neg (by rw [hl];simp),if_neg (by rw [hp];simp)]
 have HB:=hid hone
 have hcase:=nolow hl
 have k1:(0:Int)≤(k:Int):=by omega
 have k2:(k:Int)+1≤(s.size:Int):=by omega
 have k3:((k:Int)+1).toNat=k+1:=by omega
 have k4:IntKind.i64.wrap ((k:Int)+1)=(k:Int)+1:=IntWalk.i64_in _ (by omega)
 clear hd hl hone hp
 rcases hcase with h1 | ⟨h1,h2⟩
 all_goals
  have HL:=hid (fun W=>Zb1 s[k] _ h1 W)
  clear h1
  go_enter Tryz.func82,Tryz.ntmps82
  go_wp2_with fail
  refine (HD.out _).mono ?_
  rintro e w1 ⟨rfl,rfl⟩
  go_wp2_with fail
  refine (HL.out _).mono ?_
  rintro e w1 ⟨rfl,rfl⟩
  go_wp2_with fail
  refine (HP.out _).mono ?_
  rintro e w1 ⟨rfl,rfl⟩
  rw [ZdA,HPV.out]
  go_wp2_with fail
  go_region
  go_wp2_with fail
  rw [HT.out]
  obtain ⟨w4,hw4⟩:∃ w4,w4=((w.alloc tokZ).alloc (.cells #[.int .i64 3,.string ⟨#[s[k]]⟩,.int .u64 0,.int .i64 k] 155)).drew:=⟨_,rfl⟩
  rw [←hw4]
  have j4:w4.heap[w.heap.size+1]?=some (.cells #[.int .i64 3,.string ⟨#[s[k]]⟩,.int .u64 0,.int .i64 k] 155 (0,0)):=by rw [hw4];exact (Zb9 w _).2
  have j40:w4.heap[w.heap.size]?=some tokZ:=by rw [hw4];exact (Zb9 w _).1
  have HB4:=hid (show Below w.heap.size w w4 from by rw [hw4];exact (ZbK w _).drew)
  clear hw4
  have hS:=hid (And.intro (Kaa w4.drew _ 0 _ _ _ j4) (And.intro (Kaa w4.drew _ 1 _ _ _ j4) (And.intro (Kaa w4.drew _ 2 _ _ _ j4) (Kaa w4.drew _ 3 _ _ _ j4))))
  have z0:=Kaa w4 _ 0 _ _ _ j40
  have z1:=Kaa w4 _ 1 _ _ _ j40
  have z2:=Kaa w4 _ 2 _ _ _ j40
  have z3:=Kaa w4 _ 3 _ _ _ j40
  have y0:=Zar j40 0
  have y1:=Zar j40 1
  have y2:=Zar j40 2
  have y3:=Zar j40 3
  have K4:=hid j4
  have K40:=hid j40
  clear j4 j40
  cases hsb:signB s[k] with
  | true=>
   have hci:=Zhg s[k]
   rw [hsb] at hci
   have HCI:=hid hci
   have HSB:=hid hsb
   clear hci hsb
   refine wp_region_held_drew (S:=(fun w'=>w'.cell? ⟨w.heap.size+1,0,none⟩=some (.int .i64 3)∧w'.cell? ⟨w.heap.size+1,1,none⟩=some (.string ⟨#[s[k]]⟩)∧w'.cell? ⟨w.heap.size+1,2,none⟩=some (.int .u64 0)∧w'.cell? ⟨w.heap.size+1,3,none⟩=some (.int .i64 k))) (by kernel_rfl) hS.out (fun hHeld => ?_)
   refine wpAnyH_take (i:=0) (oi:=_) (v := ?_) rfl (by kernel_rfl) (by kernel_rfl) (by kernel_rfl) (fun _ _ _ h=>h) (Or.inl ⟨by kernel_rfl,?_⟩) (by assumption) ?_
   rotate_left
   ·intro w hSw
    try dsimp only at hSw
    go_simp
    try with_reducible rfl
   simp only [tkS]
   refine wpAnyH_take (i:=1) (oi:=_) (v := ?_) rfl (by kernel_rfl) (by kernel_rfl) (by kernel_rfl) (fun _ _ _ h=>h) (Or.inl ⟨by kernel_rfl,?_⟩) (by assumption) ?_
   rotate_left
   ·intro w hSw
    try dsimp only at hSw
    go_simp
    try with_reducible rfl
   simp only [tkS]
   refine wpAnyH_take (i:=2) (oi:=_) (v := ?_) rfl (by kernel_rfl) (by kernel_rfl) (by kernel_rfl) (fun _ _ _ h=>h) (Or.inl ⟨by kernel_rfl,?_⟩) (by assumption) ?_
   rotate_left
   ·intro w hSw
    try dsimp only at hSw
    go_simp
    try with_reducible rfl
   simp only [tkS]
   refine wpAnyH_ready (rs:=[3]) (by kernel_rfl) (by simp) ?_
   refine AllReadyH.cons (o:=_) rfl (fun K hK => ?_) AllReadyH.nil
   go_simp
   go_at_call 127
   refine (HC.out _).mono ?_
   rintro e w' ⟨rfl,rfl⟩
   rw [show decide (0≤Lib.indexByte [43,45,42,64,60,61,40,41,91,93,44,59] s[k])=true from HCI.out]
   refine hK.out _ _ (by assumption) (fun hHeld => ?_)
   clear hK K
   try simp only [tkS]
   refine wpAnyH_ready (rs:=[4]) (by kernel_rfl) (by simp) ?_
   refine AllReadyH.cons (o:=_) rfl (fun K hK => ?_) AllReadyH.nil
   go_simp
   obtain ⟨wS,hwS⟩:∃ wS,wS=((((w4.setCell ⟨w.heap.size,0,none⟩ (.int .i64 3)).setCell ⟨w.heap.size,1,none⟩ (.string ⟨#[s[k]]⟩)).setCell ⟨w.heap.size,2,none⟩ (.int .u64 0)).setCell ⟨w.heap.size,3,none⟩ (.int .i64 k)).drew:=⟨_,rfl⟩
   obtain ⟨s1,s2,s3⟩:=Za5 K40.out hwS
   rw [←hwS]
   clear hwS
   have s2':=s2.trans K4.out
   refine hK.out _ _ ⟨Kaa _ _ 0 _ _ _ s2',Kaa _ _ 1 _ _ _ s2',Kaa _ _ 2 _ _ _ s2',Kaa _ _ 3 _ _ _ s2'⟩ (fun hHeld => ?_)
   clear hK K
   try simp only [tkS]
   refine wpAnyH_take (i:=5) (oi:=⟨some 5,_,_,_,_,_⟩) (v := ?_) rfl (by kernel_rfl) (by kernel_rfl) (by kernel_rfl) (fun _ _ _ h=>h) (Or.inl ⟨by kernel_rfl,?_⟩) (by assumption) ?_
   rotate_left
   ·intro w hSw
    try dsimp only at hSw
    go_simp
    try with_reducible rfl
   simp only [tkS]
   refine wpAnyH_done (by kernel_rfl) ?_ _
   have d0:=Kaa _ _ 0 _ _ _ s1
   have d1:=Kaa _ _ 1 _ _ _ s1
   have d2:=Kaa _ _ 2 _ _ _ s1
   have d3:=Kaa _ _ 3 _ _ _ s1
   have HBS:=hid (s3 w.heap.size w HB4.out (Kag _))
   clear s1 s2 s2' s3 hHeld
   go_wp2
   exact bodyPost_ret (v:=.tuple #[.agg #[.int .i64 3,.string ⟨#[s[k]]⟩,.int .u64 0,.int .i64 k],.bool true]) (by simp [results,Tryz.results82,go_sem,d0,d1,d2,d3]) rfl ⟨HBS.out,_,_,_,_,_,rfl,Or.inr ⟨_,_,_,by rw [HB.out,if_pos HSB.out],rfl,rfl,by rw [HT.out],rfl,rfl⟩⟩
  | false=>
   have hci:=Zhg s[k]
   rw [hsb] at hci
   have HCI:=hid hci
   have HSB:=hid hsb
   clear hci hsb
   refine wp_region_held_drew (S:=(fun w'=>w'.cell? ⟨w.heap.size+1,0,none⟩=some (.int .i64 3)∧w'.cell? ⟨w.heap.size+1,1,none⟩=some (.string ⟨#[s[k]]⟩)∧w'.cell? ⟨w.heap.size+1,2,none⟩=some (.int .u64 0)∧w'.cell? ⟨w.heap.size+1,3,none⟩=some (.int .i64 k))) (by kernel_rfl) hS.out (fun hHeld => ?_)
   refine wpAnyH_take (i:=0) (oi:=_) (v := ?_) rfl (by kernel_rfl) (by kernel_rfl) (by kernel_rfl) (fun _ _ _ h=>h) (Or.inl ⟨by kernel_rfl,?_⟩) (by assumption) ?_
   rotate_left
   ·intro w hSw
    try dsimp only at hSw
    go_simp
    try with_reducible rfl
   simp only [tkS]
   refine wpAnyH_take (i:=1) (oi:=_) (v := ?_) rfl (by kernel_rfl) (by kernel_rfl) (by kernel_rfl) (fun _ _ _ h=>h) (Or.inl ⟨by kernel_rfl,?_⟩) (by assumption) ?_
   rotate_left
   ·intro w hSw
    try dsimp only at hSw
    go_simp
    try with_reducible rfl
   simp only [tkS]
   refine wpAnyH_take (i:=2) (oi:=_) (v := ?_) rfl (by kernel_rfl) (by kernel_rfl) (by kernel_rfl) (fun _ _ _ h=>h) (Or.inl ⟨by kernel_rfl,?_⟩) (by assumption) ?_
   rotate_left
   ·intro w hSw
    try dsimp only at hSw
    go_simp
    try with_reducible rfl
   simp only [tkS]
   refine wpAnyH_ready (rs:=[3]) (by kernel_rfl) (by simp) ?_
   refine AllReadyH.cons (o:=_) rfl (fun K hK => ?_) AllReadyH.nil
   go_simp
   go_at_call 127
   refine (HC.out _).mono ?_
   rintro e w' ⟨rfl,rfl⟩
   rw [show decide (0≤Lib.indexByte [43,45,42,64,60,61,40,41,91,93,44,59] s[k])=false from HCI.out]
   refine hK.out _ _ (by assumption) (fun hHeld => ?_)
   clear hK K
   try simp only [tkS]
   refine wpAnyH_ready (rs:=[4]) (by kernel_rfl) (by simp) ?_
   refine AllReadyH.cons (o:=_) rfl (fun K hK => ?_) AllReadyH.nil
   go_simp
   obtain ⟨wS,hwS⟩:∃ wS,wS=((((w4.setCell ⟨w.heap.size,0,none⟩ (.int .i64 3)).setCell ⟨w.heap.size,1,none⟩ (.string ⟨#[s[k]]⟩)).setCell ⟨w.heap.size,2,none⟩ (.int .u64 0)).setCell ⟨w.heap.size,3,none⟩ (.int .i64 k)).drew:=⟨_,rfl⟩
   obtain ⟨s1,s2,s3⟩:=Za5 K40.out hwS
   rw [←hwS]
   clear hwS
   have s2':=s2.trans K4.out
   refine hK.out _ _ ⟨Kaa _ _ 0 _ _ _ s2',Kaa _ _ 1 _ _ _ s2',Kaa _ _ 2 _ _ _ s2',Kaa _ _ 3 _ _ _ s2'⟩ (fun hHeld => ?_)
   clear hK K
   try simp only [tkS]
   refine wpAnyH_take (i:=5) (oi:=⟨some 5,_,_,_,_,_⟩) (v := ?_) rfl (by kernel_rfl) (by kernel_rfl) (by kernel_rfl) (fun _ _ _ h=>h) (Or.inl ⟨by kernel_rfl,?_⟩) (by assumption) ?_
   rotate_left
   ·intro w hSw
    try dsimp only at hSw
    go_simp
    try with_reducible rfl
   simp only [tkS]
   refine wpAnyH_done (by kernel_rfl) ?_ _
   have d0:=Kaa _ _ 0 _ _ _ s1
   have d1:=Kaa _ _ 1 _ _ _ s1
   have d2:=Kaa _ _ 2 _ _ _ s1
   have d3:=Kaa _ _ 3 _ _ _ s1
   have HBS:=hid (s3 w.heap.size w HB4.out (Kag _))
   clear s1 s2 s2' s3 hHeld
   go_wp2
   exact bodyPost_ret (v:=.tuple #[.agg #[.int .i64 3,.string ⟨#[s[k]]⟩,.int .u64 0,.int .i64 k],.bool false]) (by simp [results,Tryz.results82,go_sem,d0,d1,d2,d3]) rfl ⟨HBS.out,_,_,_,_,_,rfl,Or.inl ⟨by rw [HB.out,if_neg (by rw [HSB.out];simp)],rfl⟩⟩
end Go.Proofs.YtghlnncfigkkaaaGreatDoor
