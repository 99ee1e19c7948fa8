/-
 Walks of the words, and of lex.one at names and signs.
-/
import Derived.Test.YtghlnncfigkkaaaGreatDoorQParA
import Derived.Test.YtghlnncfigkkaaaGreatDoorQLexO
import Derived.Lib.IndexAny
import Derived.RegionTactic
set_option maxRecDepth 100000
set_option maxHeartbeats 4000000
set_option linter.unusedVariables false
set_option linter.unusedSimpArgs false
namespace Go.Proofs.YtghlnncfigkkaaaGreatDoor
open Go.RowKit
theorem Zlf (s:ByteArray) (w:World):Calls Tryz.prog 125 #[.string s] w fun e w'=>e=.returned (.bool (wordB s.data.toList))∧w=w':=by
 go_enter Tryz.func125,Tryz.ntmps125
 go_wp2
 all_goals
  go_ret;exact ⟨by rw [←ByteArray.toList_eq];unfold wordB;first | (simp [*];done) | (exfalso;simp_all;done),rfl⟩
theorem Zjm (s:ByteArray) (l:List UInt8) (b:Bool) (a:s.data.toList=l) (h:wordB l=b) (w:World):Calls Tryz.prog 125 #[.string s] w fun e w'=>e=.returned (.bool b)∧w=w':=by
 have:=Zlf s w;rwa [a,h] at this
theorem Zfb (c:UInt8) (b:Bool) (h:digB c=b) (w:World):Calls Tryz.prog 120 #[V8 c] w fun e w'=>e=.returned (.bool b)∧w=w':=by
 have:=Zcd c w;rwa [h] at this
theorem ZmB {c:UInt8} (h:lowB c=true):letB c=true∧((c.toNat:Int) != 95)=true:=by
 unfold lowB at h;unfold letB;simp at h ⊢;omega
theorem nolow {c:UInt8} (h:lowB c=false):(letB c=false)∨(letB c=true∧((c.toNat:Int) != 95)=false):=by
 unfold lowB at h;unfold letB;simp at h ⊢;omega
theorem Zlg (s:ByteArray) (k:Nat) (w:World) (a0:s.size≤100000) (L:k<s.size) (M:digB s[k]=false) (N:lowB s[k]=true):
  Calls Tryz.prog 82 #[.string s,.int .i64 k] w (Ze9 w s k):=by
 obtain ⟨n,I⟩:=Ky (Zax namB s k);have a1:=Zce namB s (Nat.le_of_lt L);rw [←I] at a1;obtain ⟨R,h2⟩:=ZmB N;have T:=Kz (fun W=>Zfb s[k] _ M W)
 have V:=Kz (fun W=>Zb1 s[k] _ R W)
 have X:=Kz (fun W=>Zm9 s k W a0 (Nat.le_of_lt L))
 have Y:=Kz I;have Z:oneM s k=if n≤16 then some (if wordB (Zam s k n) then 4 else 1,n,0) else none:=by
  unfold oneM;rw [dif_pos L,if_neg (by rw [M];simp),if_pos N,←I]
 have J:=Kz Z;clear M N R Z I
 cases hw:wordB (Zam s k n) with
 | true=>
  have O:=Kz (fun W=>Zjm (s.extract k (k+n)) _ _ (ZaF s k n) hw W)
  have P:=Kz hw;clear hw
  go_enter Tryz.func82,Tryz.ntmps82
  go_wp2_with fail
  refine (T.o _).mono ?_
  rintro e w1 ⟨rfl,rfl⟩
  go_wp2_with fail
  refine (V.o _).mono ?_
  rintro e w1 ⟨rfl,rfl⟩
  go_wp2_with fail
  refine (X.o _).mono ?_
  rintro e w1 ⟨rfl,rfl⟩
  rw [←Y.o]
  go_wp2_with fail
  refine (O.o _).mono ?_
  rintro e w1 ⟨rfl,rfl⟩
  go_wp2_with fail
  obtain ⟨w4,i⟩:=Ky ((w.alloc tokZ).alloc (.cells #[.int .i64 4,.string (s.extract k (k+n)),.int .u64 0,.int .i64 k] 155));rw [←i];have h:w4.heap[w.heap.size+1]?=some (.cells #[.int .i64 4,.string (s.extract k (k+n)),.int .u64 0,.int .i64 k] 155 (0,0)):=by rw [i];exact (Zb9 w _).2
  have c:w4.heap[w.heap.size]?=some tokZ:=by rw [i];exact (Zb9 w _).1
  have C:=Kz (show Below w.heap.size w w4 from by rw [i];exact ZbK w _)
  clear i;have D:=Kz (And.intro (cell_of_row w4.drew _ 0 _ _ _ h) (And.intro (cell_of_row w4.drew _ 1 _ _ _ h) (And.intro (cell_of_row w4.drew _ 2 _ _ _ h) (cell_of_row w4.drew _ 3 _ _ _ h))));have z0:=cell_of_row w4 _ 0 _ _ _ c;have y0:=Zar c 0;have z1:=cell_of_row w4 _ 1 _ _ _ c;have y1:=Zar c 1;have z2:=cell_of_row w4 _ 2 _ _ _ c;have y2:=Zar c 2;have z3:=cell_of_row w4 _ 3 _ _ _ c;have y3:=Zar c 3;have E:=Kz h;have F:=Kz c;clear h c
  by_cases p:n≤16
  ·have q:=Kz p;have H:(n:Int)≤16:=by omega
   clear p;refine wp_region_held_drew (S:=(fun d=>d.cell? ⟨w.heap.size+1,0,none⟩=some (.int .i64 4)∧d.cell? ⟨w.heap.size+1,1,none⟩=some (.string (s.extract k (k+n)))∧d.cell? ⟨w.heap.size+1,2,none⟩=some (.int .u64 0)∧d.cell? ⟨w.heap.size+1,3,none⟩=some (.int .i64 k))) (by kernel_rfl) D.o (fun j => ?_)
   refine tk 0 ?_;simp only [tkS];refine tk 1 ?_;simp only [tkS];refine tk 2 ?_;simp only [tkS];refine tk 3 ?_;simp only [tkS];refine tk 4 ?_;simp only [tkS];refine Kr 5 fun K hK=>?_
   go_simp;obtain ⟨Q,g⟩:=Ky (((((w4.setCell ⟨w.heap.size,0,none⟩ (.int .i64 4)).setCell ⟨w.heap.size,1,none⟩ (.string (s.extract k (k+n)))).setCell ⟨w.heap.size,2,none⟩ (.int .u64 0)).setCell ⟨w.heap.size,3,none⟩ (.int .i64 k)).drew);obtain ⟨a,l,m⟩:=Za5 F.o g;rw [←g];clear g;have b:=l.trans E.o;refine hK.out _ _ ⟨Kaa 0 b,Kaa 1 b,Kaa 2 b,Kaa 3 b⟩ (fun j => ?_)
   clear hK K
   try simp only [tkS]
   refine tk 6 (oi:=⟨some 5,_,_,_,_,_⟩) ?_;simp only [tkS];refine Kq ?_;have r:=Kaa 0 a;have x:=Kaa 1 a;have y:=Kaa 2 a;have z:=Kaa 3 a;have B:=Kz (m w.heap.size w C.o (Kag _));clear a l b m j
   go_wp2
   exact bodyPost_ret (v:=.tuple #[.agg #[.int .i64 4,.string (s.extract k (k+n)),.int .u64 0,.int .i64 k],.bool true]) (by simp [results,Tryz.results82,go_sem,r,x,y,z]) rfl ⟨B.o,_,_,_,_,_,rfl,Or.inr ⟨_,_,_,by rw [J.o,if_pos q.o,P.o];rfl,rfl,rfl,rfl,rfl,rfl⟩⟩
  ·have q:=Kz p;have H:(16:Int)<(n:Int):=by omega
   clear p;refine wp_region_held_drew (S:=(fun d=>d.cell? ⟨w.heap.size+1,0,none⟩=some (.int .i64 4)∧d.cell? ⟨w.heap.size+1,1,none⟩=some (.string (s.extract k (k+n)))∧d.cell? ⟨w.heap.size+1,2,none⟩=some (.int .u64 0)∧d.cell? ⟨w.heap.size+1,3,none⟩=some (.int .i64 k))) (by kernel_rfl) D.o (fun j => ?_)
   refine tk 0 ?_;simp only [tkS];refine tk 1 ?_;simp only [tkS];refine tk 2 ?_;simp only [tkS];refine tk 3 ?_;simp only [tkS];refine tk 4 ?_;simp only [tkS];refine Kr 5 fun K hK=>?_
   go_simp;obtain ⟨Q,g⟩:=Ky (((((w4.setCell ⟨w.heap.size,0,none⟩ (.int .i64 4)).setCell ⟨w.heap.size,1,none⟩ (.string (s.extract k (k+n)))).setCell ⟨w.heap.size,2,none⟩ (.int .u64 0)).setCell ⟨w.heap.size,3,none⟩ (.int .i64 k)).drew);obtain ⟨a,l,m⟩:=Za5 F.o g;rw [←g];clear g;have b:=l.trans E.o;refine hK.out _ _ ⟨Kaa 0 b,Kaa 1 b,Kaa 2 b,Kaa 3 b⟩ (fun j => ?_)
   clear hK K
   try simp only [tkS]
   refine tk 6 (oi:=⟨some 5,_,_,_,_,_⟩) ?_;simp only [tkS];refine Kq ?_;have r:=Kaa 0 a;have x:=Kaa 1 a;have y:=Kaa 2 a;have z:=Kaa 3 a;have B:=Kz (m w.heap.size w C.o (Kag _));clear a l b m j
   go_wp2
   exact bodyPost_ret (v:=.tuple #[.agg #[.int .i64 4,.string (s.extract k (k+n)),.int .u64 0,.int .i64 k],.bool false]) (by simp [results,Tryz.results82,go_sem,r,x,y,z,H]) rfl ⟨B.o,_,_,_,_,_,rfl,Or.inl ⟨by rw [J.o,if_neg q.o],rfl⟩⟩
 | false=>
  have O:=Kz (fun W=>Zjm (s.extract k (k+n)) _ _ (ZaF s k n) hw W)
  have P:=Kz hw;clear hw
  go_enter Tryz.func82,Tryz.ntmps82
  go_wp2_with fail
  refine (T.o _).mono ?_
  rintro e w1 ⟨rfl,rfl⟩
  go_wp2_with fail
  refine (V.o _).mono ?_
  rintro e w1 ⟨rfl,rfl⟩
  go_wp2_with fail
  refine (X.o _).mono ?_
  rintro e w1 ⟨rfl,rfl⟩
  rw [←Y.o]
  go_wp2_with fail
  refine (O.o _).mono ?_
  rintro e w1 ⟨rfl,rfl⟩
  go_wp2_with fail
  obtain ⟨w4,i⟩:=Ky ((w.alloc tokZ).alloc (.cells #[.int .i64 1,.string (s.extract k (k+n)),.int .u64 0,.int .i64 k] 155));rw [←i];have h:w4.heap[w.heap.size+1]?=some (.cells #[.int .i64 1,.string (s.extract k (k+n)),.int .u64 0,.int .i64 k] 155 (0,0)):=by rw [i];exact (Zb9 w _).2
  have c:w4.heap[w.heap.size]?=some tokZ:=by rw [i];exact (Zb9 w _).1
  have C:=Kz (show Below w.heap.size w w4 from by rw [i];exact ZbK w _)
  clear i;have D:=Kz (And.intro (cell_of_row w4.drew _ 0 _ _ _ h) (And.intro (cell_of_row w4.drew _ 1 _ _ _ h) (And.intro (cell_of_row w4.drew _ 2 _ _ _ h) (cell_of_row w4.drew _ 3 _ _ _ h))));have z0:=cell_of_row w4 _ 0 _ _ _ c;have y0:=Zar c 0;have z1:=cell_of_row w4 _ 1 _ _ _ c;have y1:=Zar c 1;have z2:=cell_of_row w4 _ 2 _ _ _ c;have y2:=Zar c 2;have z3:=cell_of_row w4 _ 3 _ _ _ c;have y3:=Zar c 3;have E:=Kz h;have F:=Kz c;clear h c
  by_cases p:n≤16
  ·have q:=Kz p;have H:(n:Int)≤16:=by omega
   clear p;refine wp_region_held_drew (S:=(fun d=>d.cell? ⟨w.heap.size+1,0,none⟩=some (.int .i64 1)∧d.cell? ⟨w.heap.size+1,1,none⟩=some (.string (s.extract k (k+n)))∧d.cell? ⟨w.heap.size+1,2,none⟩=some (.int .u64 0)∧d.cell? ⟨w.heap.size+1,3,none⟩=some (.int .i64 k))) (by kernel_rfl) D.o (fun j => ?_)
   refine tk 0 ?_;simp only [tkS];refine tk 1 ?_;simp only [tkS];refine tk 2 ?_;simp only [tkS];refine tk 3 ?_;simp only [tkS];refine tk 4 ?_;simp only [tkS];refine Kr 5 fun K hK=>?_
   go_simp;obtain ⟨Q,g⟩:=Ky (((((w4.setCell ⟨w.heap.size,0,none⟩ (.int .i64 1)).setCell ⟨w.heap.size,1,none⟩ (.string (s.extract k (k+n)))).setCell ⟨w.heap.size,2,none⟩ (.int .u64 0)).setCell ⟨w.heap.size,3,none⟩ (.int .i64 k)).drew);obtain ⟨a,l,m⟩:=Za5 F.o g;rw [←g];clear g;have b:=l.trans E.o;refine hK.out _ _ ⟨Kaa 0 b,Kaa 1 b,Kaa 2 b,Kaa 3 b⟩ (fun j => ?_)
   clear hK K
   try simp only [tkS]
   refine tk 6 (oi:=⟨some 5,_,_,_,_,_⟩) ?_;simp only [tkS];refine Kq ?_;have r:=Kaa 0 a;have x:=Kaa 1 a;have y:=Kaa 2 a;have z:=Kaa 3 a;have B:=Kz (m w.heap.size w C.o (Kag _));clear a l b m j
   go_wp2
   exact bodyPost_ret (v:=.tuple #[.agg #[.int .i64 1,.string (s.extract k (k+n)),.int .u64 0,.int .i64 k],.bool true]) (by simp [results,Tryz.results82,go_sem,r,x,y,z]) rfl ⟨B.o,_,_,_,_,_,rfl,Or.inr ⟨_,_,_,by rw [J.o,if_pos q.o,P.o];rfl,rfl,rfl,rfl,rfl,rfl⟩⟩
  ·have q:=Kz p;have H:(16:Int)<(n:Int):=by omega
   clear p;refine wp_region_held_drew (S:=(fun d=>d.cell? ⟨w.heap.size+1,0,none⟩=some (.int .i64 1)∧d.cell? ⟨w.heap.size+1,1,none⟩=some (.string (s.extract k (k+n)))∧d.cell? ⟨w.heap.size+1,2,none⟩=some (.int .u64 0)∧d.cell? ⟨w.heap.size+1,3,none⟩=some (.int .i64 k))) (by kernel_rfl) D.o (fun j => ?_)
   refine tk 0 ?_;simp only [tkS];refine tk 1 ?_;simp only [tkS];refine tk 2 ?_;simp only [tkS];refine tk 3 ?_;simp only [tkS];refine tk 4 ?_;simp only [tkS];refine Kr 5 fun K hK=>?_
   go_simp;obtain ⟨Q,g⟩:=Ky (((((w4.setCell ⟨w.heap.size,0,none⟩ (.int .i64 1)).setCell ⟨w.heap.size,1,none⟩ (.string (s.extract k (k+n)))).setCell ⟨w.heap.size,2,none⟩ (.int .u64 0)).setCell ⟨w.heap.size,3,none⟩ (.int .i64 k)).drew);obtain ⟨a,l,m⟩:=Za5 F.o g;rw [←g];clear g;have b:=l.trans E.o;refine hK.out _ _ ⟨Kaa 0 b,Kaa 1 b,Kaa 2 b,Kaa 3 b⟩ (fun j => ?_)
   clear hK K
   try simp only [tkS]
   refine tk 6 (oi:=⟨some 5,_,_,_,_,_⟩) ?_;simp only [tkS];refine Kq ?_;have r:=Kaa 0 a;have x:=Kaa 1 a;have y:=Kaa 2 a;have z:=Kaa 3 a;have B:=Kz (m w.heap.size w C.o (Kag _));clear a l b m j
   go_wp2
   exact bodyPost_ret (v:=.tuple #[.agg #[.int .i64 1,.string (s.extract k (k+n)),.int .u64 0,.int .i64 k],.bool false]) (by simp [results,Tryz.results82,go_sem,r,x,y,z,H]) rfl ⟨B.o,_,_,_,_,_,rfl,Or.inl ⟨by rw [J.o,if_neg q.o],rfl⟩⟩
theorem ZhP (w:World) (o a:Obj):Below w.heap.size w ((w.alloc o).alloc a):=((Kai _ _).alloc (Kag _) _).alloc (by simp) _
theorem ZmC (s:ByteArray) {k:Nat} (a:k<s.size):(s.extract k (k+1))=⟨#[s[k]]⟩:=by
 apply ByteArray.ext;apply Array.ext';rw [ZaF];unfold Zam;rw [Zc3 s a];rfl
theorem Zhg (c:UInt8):decide (0≤Lib.indexByte signL c)=signB c:=by
 unfold signB;rw [Lib.contains_iff_indexByte]
theorem ZhQ (s:ByteArray) {k:Nat} (c:k≤s.size) (h:Lib.hasPrefix (s.data.toList.drop k) [62,62]=true):k+2≤s.size∧s.extract k (k+2)=⟨#[62,62]⟩:=by
 unfold Lib.hasPrefix at h;rw [List.isPrefixOf_iff_prefix] at h;obtain ⟨r,a⟩:=h;have b:=congrArg List.length a;rw [List.length_drop,Zbe] at b;simp at b;refine ⟨by omega,?_⟩
 apply ByteArray.ext;apply Array.ext';rw [ZaF];unfold Zam;rw [←a];rfl
theorem Zjn (s:ByteArray) (k:Nat) (w:World) (t:s.size≤100000) (g:k<s.size) (b:digB s[k]=false) (c:lowB s[k]=false) (a:Lib.hasPrefix (s.data.toList.drop k) [62,62]=true):
  Calls Tryz.prog 82 #[.string s,.int .i64 k] w (Ze9 w s k):=by
 obtain ⟨x,h⟩:=ZhQ s (Nat.le_of_lt g) a;have j:=Kz h;have l:=Kz (fun W=>Zfb s[k] _ b W)
 have m:=Kz (fun W => Tryz.strings_HasPrefix (s.extract k s.size) ⟨#[62,62]⟩ W)
 have n:=Kz a;have i:oneM s k=some (3,2,0):=by
  unfold oneM;rw [dif_pos g,if_neg (by rw [b];simp),if_neg (by rw [c];simp),if_pos a]
 have p:=Kz i;have q:=nolow c;clear b c i a h;rcases q with d | ⟨d,y⟩
 all_goals
  have r:=Kz (fun W=>Zb1 s[k] _ d W)
  clear d
  go_enter Tryz.func82,Tryz.ntmps82
  go_wp2_with fail
  refine (l.o _).mono ?_
  rintro e w1 ⟨rfl,rfl⟩
  go_wp2_with fail
  refine (r.o _).mono ?_
  rintro e w1 ⟨rfl,rfl⟩
  go_wp2_with fail
  refine (m.o _).mono ?_
  rintro e w1 ⟨rfl,rfl⟩
  rw [ZdA,n.o]
  go_wp2
  exact bodyPost_ret (v:=.tuple #[.agg #[.int .i64 3,.string ⟨#[62,62]⟩,.int .u64 0,.int .i64 k],.bool true]) (by simp [results,Tryz.results82,go_sem]) rfl ⟨ZhP w _ _,_,_,_,_,_,rfl,Or.inr ⟨_,_,_,p.o,rfl,rfl,by rw [j.o],rfl,rfl⟩⟩
theorem Zlh (s:ByteArray) (k:Nat) (w:World) (a3:s.size≤100000) (L:k<s.size) (x:digB s[k]=false) (y:lowB s[k]=false) (z:Lib.hasPrefix (s.data.toList.drop k) [62,62]=false):
  Calls Tryz.prog 82 #[.string s,.int .i64 k] w (Ze9 w s k):=by
 have M:=Kz (ZmC s L);have X:=Kz (fun W=>Zfb s[k] _ x W)
 have Y:=Kz (fun W => Tryz.strings_HasPrefix (s.extract k s.size) ⟨#[62,62]⟩ W)
 have N:=Kz (fun W => Tryz.strings_Contains_one ⟨#[43,45,42,64,60,61,40,41,91,93,44,59]⟩ s[k] W)
 have Z:=Kz z;have O:oneM s k=if signB s[k] then some (3,1,0) else none:=by
  unfold oneM;rw [dif_pos L,if_neg (by rw [x];simp),if_neg (by rw [y];simp),if_neg (by rw [z];simp)]
 have P:=Kz O;have a0:=nolow y;have k1:(0:Int)≤(k:Int):=by omega
 have k2:(k:Int)+1≤(s.size:Int):=by omega
 have k3:((k:Int)+1).toNat=k+1:=by omega
 have k4:IntKind.i64.wrap ((k:Int)+1)=(k:Int)+1:=IntWalk.i64_in _ (by omega)
 clear x y O z;rcases a0 with B | ⟨B,h2⟩
 all_goals
  have a1:=Kz (fun W=>Zb1 s[k] _ B W)
  clear B
  go_enter Tryz.func82,Tryz.ntmps82
  go_wp2_with fail
  refine (X.o _).mono ?_
  rintro e w1 ⟨rfl,rfl⟩
  go_wp2_with fail
  refine (a1.o _).mono ?_
  rintro e w1 ⟨rfl,rfl⟩
  go_wp2_with fail
  refine (Y.o _).mono ?_
  rintro e w1 ⟨rfl,rfl⟩
  rw [ZdA,Z.o]
  go_wp2_with fail
  go_region
  go_wp2_with fail
  rw [M.o];obtain ⟨w4,p⟩:=Ky (((w.alloc tokZ).alloc (.cells #[.int .i64 3,.string ⟨#[s[k]]⟩,.int .u64 0,.int .i64 k] 155)).drew);rw [←p];have n:w4.heap[w.heap.size+1]?=some (.cells #[.int .i64 3,.string ⟨#[s[k]]⟩,.int .u64 0,.int .i64 k] 155 (0,0)):=by rw [p];exact (Zb9 w _).2
  have g:w4.heap[w.heap.size]?=some tokZ:=by rw [p];exact (Zb9 w _).1
  have Q:=Kz (show Below w.heap.size w w4 from by rw [p];exact (ZbK w _).drew)
  clear p;have R:=Kz (And.intro (cell_of_row w4.drew _ 0 _ _ _ n) (And.intro (cell_of_row w4.drew _ 1 _ _ _ n) (And.intro (cell_of_row w4.drew _ 2 _ _ _ n) (cell_of_row w4.drew _ 3 _ _ _ n))));have z0:=cell_of_row w4 _ 0 _ _ _ g;have z1:=cell_of_row w4 _ 1 _ _ _ g;have z2:=cell_of_row w4 _ 2 _ _ _ g;have z3:=cell_of_row w4 _ 3 _ _ _ g;have y0:=Zar g 0;have y1:=Zar g 1;have y2:=Zar g 2;have y3:=Zar g 3;have T:=Kz n;have V:=Kz g;clear n g
  cases hsb:signB s[k] with
  | true=>
   have j:=Zhg s[k];rw [hsb] at j;have C:=Kz j;have D:=Kz hsb;clear j hsb;refine wp_region_held_drew (S:=(fun b=>b.cell? ⟨w.heap.size+1,0,none⟩=some (.int .i64 3)∧b.cell? ⟨w.heap.size+1,1,none⟩=some (.string ⟨#[s[k]]⟩)∧b.cell? ⟨w.heap.size+1,2,none⟩=some (.int .u64 0)∧b.cell? ⟨w.heap.size+1,3,none⟩=some (.int .i64 k))) (by kernel_rfl) R.o (fun l => ?_)
   refine wpAnyH_take (i:=0) (oi:=_) (v := ?_) rfl (by kernel_rfl) (by kernel_rfl) (by kernel_rfl) (fun _ _ _ h=>h) (Or.inl ⟨by kernel_rfl,?_⟩) (by assumption) ?_
   rotate_left
   ·intro w a
    try dsimp only at a
    go_simp
    try with_reducible rfl
   simp only [tkS];refine wpAnyH_take (i:=1) (oi:=_) (v := ?_) rfl (by kernel_rfl) (by kernel_rfl) (by kernel_rfl) (fun _ _ _ h=>h) (Or.inl ⟨by kernel_rfl,?_⟩) (by assumption) ?_
   rotate_left
   ·intro w a
    try dsimp only at a
    go_simp
    try with_reducible rfl
   simp only [tkS];refine wpAnyH_take (i:=2) (oi:=_) (v := ?_) rfl (by kernel_rfl) (by kernel_rfl) (by kernel_rfl) (fun _ _ _ h=>h) (Or.inl ⟨by kernel_rfl,?_⟩) (by assumption) ?_
   rotate_left
   ·intro w a
    try dsimp only at a
    go_simp
    try with_reducible rfl
   simp only [tkS];refine Kr 3 fun K hK=>?_
   go_simp
   go_at_call 127
   refine (N.o _).mono ?_
   rintro e b ⟨rfl,rfl⟩
   rw [show decide (0≤Lib.indexByte [43,45,42,64,60,61,40,41,91,93,44,59] s[k])=true from C.o]
   refine hK.out _ _ (by assumption) (fun l => ?_)
   clear hK K
   try simp only [tkS]
   refine Kr 4 fun K hK=>?_
   go_simp;obtain ⟨a2,m⟩:=Ky (((((w4.setCell ⟨w.heap.size,0,none⟩ (.int .i64 3)).setCell ⟨w.heap.size,1,none⟩ (.string ⟨#[s[k]]⟩)).setCell ⟨w.heap.size,2,none⟩ (.int .u64 0)).setCell ⟨w.heap.size,3,none⟩ (.int .i64 k)).drew);obtain ⟨c,q,r⟩:=Za5 V.o m;rw [←m];clear m;have d:=q.trans T.o;refine hK.out _ _ ⟨Kaa 0 d,Kaa 1 d,Kaa 2 d,Kaa 3 d⟩ (fun l => ?_)
   clear hK K
   try simp only [tkS]
   refine wpAnyH_take (i:=5) (oi:=⟨some 5,_,_,_,_,_⟩) (v := ?_) rfl (by kernel_rfl) (by kernel_rfl) (by kernel_rfl) (fun _ _ _ h=>h) (Or.inl ⟨by kernel_rfl,?_⟩) (by assumption) ?_
   rotate_left
   ·intro w a
    try dsimp only at a
    go_simp
    try with_reducible rfl
   simp only [tkS];refine Kq ?_;have E:=Kaa 0 c;have F:=Kaa 1 c;have H:=Kaa 2 c;have I:=Kaa 3 c;have J:=Kz (r w.heap.size w Q.o (Kag _));clear c q d r l
   go_wp2
   exact bodyPost_ret (v:=.tuple #[.agg #[.int .i64 3,.string ⟨#[s[k]]⟩,.int .u64 0,.int .i64 k],.bool true]) (by simp [results,Tryz.results82,go_sem,E,F,H,I]) rfl ⟨J.o,_,_,_,_,_,rfl,Or.inr ⟨_,_,_,by rw [P.o,if_pos D.o],rfl,rfl,by rw [M.o],rfl,rfl⟩⟩
  | false=>
   have j:=Zhg s[k];rw [hsb] at j;have C:=Kz j;have D:=Kz hsb;clear j hsb;refine wp_region_held_drew (S:=(fun b=>b.cell? ⟨w.heap.size+1,0,none⟩=some (.int .i64 3)∧b.cell? ⟨w.heap.size+1,1,none⟩=some (.string ⟨#[s[k]]⟩)∧b.cell? ⟨w.heap.size+1,2,none⟩=some (.int .u64 0)∧b.cell? ⟨w.heap.size+1,3,none⟩=some (.int .i64 k))) (by kernel_rfl) R.o (fun l => ?_)
   refine wpAnyH_take (i:=0) (oi:=_) (v := ?_) rfl (by kernel_rfl) (by kernel_rfl) (by kernel_rfl) (fun _ _ _ h=>h) (Or.inl ⟨by kernel_rfl,?_⟩) (by assumption) ?_
   rotate_left
   ·intro w a
    try dsimp only at a
    go_simp
    try with_reducible rfl
   simp only [tkS];refine wpAnyH_take (i:=1) (oi:=_) (v := ?_) rfl (by kernel_rfl) (by kernel_rfl) (by kernel_rfl) (fun _ _ _ h=>h) (Or.inl ⟨by kernel_rfl,?_⟩) (by assumption) ?_
   rotate_left
   ·intro w a
    try dsimp only at a
    go_simp
    try with_reducible rfl
   simp only [tkS];refine wpAnyH_take (i:=2) (oi:=_) (v := ?_) rfl (by kernel_rfl) (by kernel_rfl) (by kernel_rfl) (fun _ _ _ h=>h) (Or.inl ⟨by kernel_rfl,?_⟩) (by assumption) ?_
   rotate_left
   ·intro w a
    try dsimp only at a
    go_simp
    try with_reducible rfl
   simp only [tkS];refine Kr 3 fun K hK=>?_
   go_simp
   go_at_call 127
   refine (N.o _).mono ?_
   rintro e b ⟨rfl,rfl⟩
   rw [show decide (0≤Lib.indexByte [43,45,42,64,60,61,40,41,91,93,44,59] s[k])=false from C.o]
   refine hK.out _ _ (by assumption) (fun l => ?_)
   clear hK K
   try simp only [tkS]
   refine Kr 4 fun K hK=>?_
   go_simp;obtain ⟨a2,m⟩:=Ky (((((w4.setCell ⟨w.heap.size,0,none⟩ (.int .i64 3)).setCell ⟨w.heap.size,1,none⟩ (.string ⟨#[s[k]]⟩)).setCell ⟨w.heap.size,2,none⟩ (.int .u64 0)).setCell ⟨w.heap.size,3,none⟩ (.int .i64 k)).drew);obtain ⟨c,q,r⟩:=Za5 V.o m;rw [←m];clear m;have d:=q.trans T.o;refine hK.out _ _ ⟨Kaa 0 d,Kaa 1 d,Kaa 2 d,Kaa 3 d⟩ (fun l => ?_)
   clear hK K
   try simp only [tkS]
   refine wpAnyH_take (i:=5) (oi:=⟨some 5,_,_,_,_,_⟩) (v := ?_) rfl (by kernel_rfl) (by kernel_rfl) (by kernel_rfl) (fun _ _ _ h=>h) (Or.inl ⟨by kernel_rfl,?_⟩) (by assumption) ?_
   rotate_left
   ·intro w a
    try dsimp only at a
    go_simp
    try with_reducible rfl
   simp only [tkS];refine Kq ?_;have E:=Kaa 0 c;have F:=Kaa 1 c;have H:=Kaa 2 c;have I:=Kaa 3 c;have J:=Kz (r w.heap.size w Q.o (Kag _));clear c q d r l
   go_wp2
   exact bodyPost_ret (v:=.tuple #[.agg #[.int .i64 3,.string ⟨#[s[k]]⟩,.int .u64 0,.int .i64 k],.bool false]) (by simp [results,Tryz.results82,go_sem,E,F,H,I]) rfl ⟨J.o,_,_,_,_,_,rfl,Or.inl ⟨by rw [P.o,if_neg (by rw [D.o];simp)],rfl⟩⟩
end Go.Proofs.YtghlnncfigkkaaaGreatDoor
