/-
 dag.look walked at a good node.
-/
import Derived.Test.YtghlnncfigkkaaaGreatDoorQDjA
import Derived.Test.YtghlnncfigkkaaaGreatDoorQDgE
import Derived.Test.YtghlnncfigkkaaaGreatDoorQDgD
import Derived.Deep.RegionHeld3
import Derived.Deep.RegionLaw
import Derived.Test.YtghlnncfigkkaaaGreatDoorQDgA
import Derived.Test.YtghlnncfigkkaaaGreatDoorQChkI
import Derived.BigQuiet
import Derived.Deep.CutBlock
set_option maxRecDepth 100000
set_option maxHeartbeats 8000000
set_option linter.unusedVariables false
set_option linter.unusedSimpArgs false
namespace Go.Proofs.YtghlnncfigkkaaaGreatDoor
open Go.RowKit
theorem wp_appR {w:World} {o:Oper} {a:Act} {K:Act→World→Prop} {Q:Exit→Act→World→Prop} (s x:Operand) (t e:TypeId) (z:Value) (size bytes:Nat) (hinf:(Tryz.prog.info? e).map (fun i=>(i.zero,i.size,i.bytes))=some (some z,size,bytes)) (ht : Tryz.prog.underlying t=some (.slice e)) (h0:0<size) (hz:z.cells.size=size) (hbs:bytes≤1000)
  (ho:o.op=.call { callee:=.builtin .append,args:=#[s,x],argTypes:=#[t,t] }) (B:Nat) (A:Option Addr) (cap n:Nat) (xs:List Value) (hs:a.eval s=.slice A n cap) (hown:w.ownsRow B e size (.slice A n cap) n xs)
  (g2 m:Nat) (hm0:0<m) (news:List Value) (hx:a.eval x=.slice (some ⟨g2,0,none⟩) m m) (hm:news.length=m*size) (hb:w.heap[g2]?=some (.cells news.toArray e (0,0))) (h1:∀ u∈news,u.oneCell'=true) (hn:n+m≤1000) (hbase:B≤w.heap.size)
  (h:∀ A' cap' w',w'.ownsRow B e size (.slice A' (n+m) cap') (n+m) (xs++news)→w.grownBy w' (blk A)→K (a.put o.dst (.slice A' (n+m) cap')) w'):
  Oper.wp Tryz.prog o a w K Q:=by
 obtain ⟨i0,hi0,hz0,hz1,hz2⟩:=info_parts hinf
 obtain ⟨A',cap',w',hrun,r1,r2,r3⟩:=run_appM (P := Tryz.prog) w B t o.type e i0 z size bytes ht hi0 hz0 hz1 h0 hz2 hz A cap n xs hown g2 m hm0 news hm
  (fun j u hu=>by rw [cell_of_row w g2 j _ _ (0,0) hb];simpa using hu) h1 (by simp only [maxLen];omega) (by
   have:((n+m)+(n+m) / 4+192)*bytes≤2000*1000:=Nat.mul_le_mul (by omega) hbs
   omega) hbase
 unfold Oper.wp execOp
 simp only [ho,resolve,invoke,builtin,Sem.run_bind,Sem.run_pure,Result.andThen_ok,List.map_toArray,List.map_cons,List.map_nil,hs,hx,hrun]
 exact h A' cap' w' r1 r2
theorem InRow.at_ {w:World} {B n c:Nat} {A:Option Addr} {l:List (List Int)} (h:InRow w B A n c l) {j:Nat} {x:List Int} (hj:l[j]?=some x):j<n∧∃ b o A' c',A=some ⟨b,o,none⟩∧b<w.heap.size∧w.cell? ⟨b,o+j,none⟩=some (.slice A' x.length c')∧Rd w w.heap.size A' (x.map VI):=by
 obtain ⟨vs,h1,h2,h3,h4⟩:=h
 have hjl:=(Kaf.1 hj).1
 have hjv:j<vs.length:=by omega
 obtain ⟨A',c',e,ho⟩:=h4 j _ x (Kad hjv) hj
 obtain ⟨b,o,hA,hb,hc⟩:=h2.rd.at_ (Kad hjv)
 exact ⟨by omega,b,o,A',c',hA,hb,by rw [hc,e],ho.rd⟩
theorem lookA_any (in0 in1:List (List Int)) (B nc:Nat) (NA:Option Addr) (ms:List (ND × NV)) (OV:Value) (A0 A1:Option Addr) (n0 c0 n1 c1 i:Nat) (w:World) (hOV:OV.oneCell'=true) (hr:NdRow w B NA nc ms) (h0:InRow w B A0 n0 c0 in0) (h1:InRow w B A1 n1 c1 in1) (hw:WfD in0 in1 (ms.map Prod.fst)) (hi:i<ms.length) (hl:ms.length≤1000) (hg:ETyped w) (hk:∀ m,ms[i]?=some m→m.1.kind≤2):
  Calls Tryz.prog 74 #[.agg #[.slice NA ms.length nc,OV,.slice A0 n0 c0,.slice A1 n1 c1],.int .i64 i] w fun e w'=>e=.returned (.bool true)∧Below w.heap.size w w':=by
 obtain ⟨⟨⟨kd,sh,ar,pa,ip,kk,el⟩,⟨sv,av,ev⟩⟩,hmi⟩:∃ x,ms[i]?=some x:=⟨ms[i]'hi,Kad hi⟩
 have hkd:=hk _ hmi
 obtain ⟨q,hNA,hql,hc,hv⟩:=hr.at_ hmi
 have hr0:=hr
 subst hNA
 obtain ⟨hls,hla,hle,⟨X1,x1,e1,o1⟩,⟨X2,x2,e2,o2⟩,X3,x3,e3,o3⟩:=hv
 change sv=.slice X1 sh.length x1 at e1
 change av=.slice X2 ar.length x2 at e2
 change ev=.slice X3 el.length x3 at e3
 subst e1 e2 e3
 change sh.length≤1000000 at hls
 change ar.length≤1000000 at hla
 change el.length≤1000000 at hle
 have hok:=hw i _ (show (ms.map Prod.fst)[i]?=some _ by rw [Kal,hmi];rfl)
 obtain ⟨w2,hw2⟩:=Ky (((w.alloc (.cells #[.slice (some ⟨q,0,none⟩) ms.length nc,OV,.slice A0 n0 c0,.slice A1 n1 c1] 68)).alloc (.cells #[.int .i64 i] 3)).alloc (.cells #[.int .i64 kd,.slice X1 sh.length x1,.slice X2 ar.length x2,.int .i64 pa,.int .i64 ip,.int .i64 kk,.slice X3 el.length x3] 77))
 have hb2:Below w.heap.size w w2:=by rw [hw2];exact ((alloc_below _ _).alloc (by simp) _).alloc (by simp;omega) _
 obtain ⟨gb,hgb⟩:=Ky w.heap.size
 obtain ⟨ib,hib⟩:=Ky (w.heap.size+1)
 obtain ⟨nb,hnb⟩:=Ky (w.heap.size+1+1)
 have hG:w2.heap[gb]?=some (.cells #[.slice (some ⟨q,0,none⟩) ms.length nc,OV,.slice A0 n0 c0,.slice A1 n1 c1] 68 (0,0)):=by
  rw [hw2,hgb,Below.heap_alloc _ _ _ (by simp;omega),Below.heap_alloc _ _ _ (by simp)];exact Kac w _
 have hI:w2.heap[ib]?=some (.cells #[.int .i64 i] 3 (0,0)):=by
  rw [hw2,hib,Below.heap_alloc _ _ _ (by simp)]
  have:=Kac (w.alloc (.cells #[.slice (some ⟨q,0,none⟩) ms.length nc,OV,.slice A0 n0 c0,.slice A1 n1 c1] 68)) (.cells #[.int .i64 i] 3)
  rwa [World.size_alloc] at this
 have hN:w2.heap[nb]?=some (.cells #[.int .i64 kd,.slice X1 sh.length x1,.slice X2 ar.length x2,.int .i64 pa,.int .i64 ip,.int .i64 kk,.slice X3 el.length x3] 77 (0,0)):=by
  rw [hw2,hnb]
  have:=Kac ((w.alloc (.cells #[.slice (some ⟨q,0,none⟩) ms.length nc,OV,.slice A0 n0 c0,.slice A1 n1 c1] 68)).alloc (.cells #[.int .i64 i] 3)) (.cells #[.int .i64 kd,.slice X1 sh.length x1,.slice X2 ar.length x2,.int .i64 pa,.int .i64 ip,.int .i64 kk,.slice X3 el.length x3] 77)
  rwa [World.size_alloc,World.size_alloc] at this
 have HNODE:=Kz (show ∀ W,Below w.heap.size w W→(W.cell? ⟨q,i*7,none⟩=some (.int .i64 kd)∧W.cell? ⟨q,i*7+1,none⟩=some (.slice X1 sh.length x1)∧W.cell? ⟨q,i*7+2,none⟩=some (.slice X2 ar.length x2)∧W.cell? ⟨q,i*7+3,none⟩=some (.int .i64 pa)∧W.cell? ⟨q,i*7+4,none⟩=some (.int .i64 ip)∧W.cell? ⟨q,i*7+5,none⟩=some (.int .i64 kk)∧W.cell? ⟨q,i*7+6,none⟩=some (.slice X3 el.length x3)) from fun W hW=>
  have hk:∀ j v,(ndC (((⟨kd,sh,ar,pa,ip,kk,el⟩:ND),(⟨.slice X1 sh.length x1,.slice X2 ar.length x2,.slice X3 el.length x3⟩:NV))))[j]?=some v→j<7→W.cell? ⟨q,i*7+j,none⟩=some v:=fun j v h1 h2=>(hW.cell (p:=⟨q,i*7+j,none⟩) hql).trans (hc j v h1 h2)
  ⟨hk 0 _ rfl (by omega),hk 1 _ rfl (by omega),hk 2 _ rfl (by omega),hk 3 _ rfl (by omega),hk 4 _ rfl (by omega),hk 5 _ rfl (by omega),hk 6 _ rfl (by omega)⟩)
 have HW2:=Kz hw2
 have HB2:=Kz hb2
 have HGB:=Kz hgb
 have HIB:=Kz hib
 have HNB:=Kz hnb
 have HGW:=Kz (fun W (hW:Below w2.heap.size w2 W)=>(hW.block _ (Kab.1 hG).1).trans hG)
 have HIW:=Kz (fun W (hW:Below w2.heap.size w2 W)=>(hW.block _ (Kab.1 hI).1).trans hI)
 have HNW:=Kz (fun W (hW:Below w2.heap.size w2 W)=>(hW.block _ (Kab.1 hN).1).trans hN)
 obtain ⟨el0,hel0⟩:=Ky (Zad sh)
 obtain ⟨sl,hsl⟩:=Ky sh.length
 obtain ⟨al,hal⟩:=Ky ar.length
 obtain ⟨ll,hll⟩:=Ky el.length
 have HEL:=Kz (fun W (hW:Below w2.heap.size w2 W)=>ZcE X1 sl x1 sh W hsl (by omega) ((o1.rd.next hb2).next hW))
 have HCL:=Kz (conL_any ib i X2 al x2 ar w2 (Kaa 0 hI) hok.ahead hal (by omega) (o2.rd.next hb2))
 rw [←hsl,←hal,←hll] at HNODE HNW
 rw [←hsl,←hal,←hll] at HW2
 have HSL:=Kz hsl
 have HAL:=Kz hal
 have HLL:=Kz hll
 have q0:(el0==0)=false:=by rw [Kaj,hel0];exact hok.shape
 have q1:decide ((kk:Int)<0)=false:=by simp
 rw [←hel0] at HEL
 have HEL0:=Kz hel0
 have HR:=Kz hr0
 have H0:=Kz h0
 have H1:=Kz h1
 have HWF:=Kz hw
 have HG:=Kz hg
 have HOK:=Kz hok
 have HO1:=Kz o1
 have HO2:=Kz o2
 have i0:(0:Int)≤(i:Int):=by omega
 have i1:(i:Int)<(ms.length:Int):=by omega
 rw [←hsl] at hls
 rw [←hal] at hla
 rw [←hll] at hle
 dsimp only at hkd
 have HKD:=Kz hkd
 clear hk hkd
 clear hmi hql hc hr hr0 h0 h1 hw hok hw2 hb2 hgb hib hnb hG hI hN hel0 hsl hal hll hg o1 o2 o3 hi
 go_enter Tryz.func74,Tryz.ntmps74
 obtain ⟨c0',c1',c2',c3',c4',c5',c6'⟩:=HNODE.o _ ((alloc_below w (.cells #[.slice (some ⟨q,0,none⟩) ms.length nc,OV,.slice A0 n0 c0,.slice A1 n1 c1] 68)).alloc (by simp) (.cells #[.int .i64 i] 3))
 go_upto_region 2 with fail
 rw [←HW2.o,←HNB.o,←HIB.o,←HGB.o]
 clear c0' c1' c2' c3' c4' c5' c6'
 have d0:=Kaa 0 (HNW.o _ (Kai _ _))
 have d1:=Kaa 1 (HNW.o _ (Kai _ _))
 have d2:=Kaa 2 (HNW.o _ (Kai _ _))
 have d3:=Kaa 3 (HNW.o _ (Kai _ _))
 have d4:=Kaa 4 (HNW.o _ (Kai _ _))
 have d5:=Kaa 5 (HNW.o _ (Kai _ _))
 have d6:=Kaa 6 (HNW.o _ (Kai _ _))
 go_upto_region 4 with (first
  | (go_at_call 73;refine (HEL.o _ (Kai _ _)).mono ?_;rintro e w' ⟨rfl,rfl⟩)
  | (go_at_call 75;refine HCL.o.mono ?_;rintro e w' ⟨rfl,rfl⟩))
 have qw0:IntKind.i64.wrap (0:Int)=0:=by decide
 rcases HOK.o.kinds with ⟨k1,k2,k3,k4,k5⟩ | ⟨k1,k2,k3,k4,k5,k6⟩ | ⟨k1,k2,k3,k4,k5,k6,k7,k8⟩
 ·dsimp only at k1 k2 k3 k4 k5
  have ha0:al=0:=by rw [HAL.o,k2];rfl
  have hl0:ll=0:=by rw [HLL.o,k3];rfl
  subst ha0 hl0 k1 k4
  rcases k5 with ⟨rfl,hin⟩ | ⟨rfl,hin⟩
  ·obtain ⟨hj,b,o,A',c',hA,hb,hcc,hrd⟩:=(H0.o.next HB2.o).at_ hin
   subst hA
   have g2:=Kaa 2 (HGW.o _ (Kai _ _))
   obtain ⟨sl',hsl'⟩:=Ky sh.length
   rw [←hsl'] at hcc
   have HEQ:=Kz (show ∀ W,Below w2.heap.size w2 W→Calls Tryz.prog 79 #[.slice A' sl' c',.slice X1 sl x1] W fun e w'=>e=.returned (.bool true)∧∃ q,w'=W.drewN q from fun W hW=>by
    have h:=ZcA A' X1 sl' sl c' x1 sh sh W hsl' HSL.o (by have:=HSL.o;omega) (by omega) (hrd.next hW) ((HO1.o.rd.next HB2.o).next hW)
    rw [beq_self_eq_true] at h
    exact h)
   have qa:decide ((ip:Int) ≥ 0)=true:=by simp
   have qb:decide ((ip:Int)<(n0:Int))=true:=by simp;omega
   have qc:decide (ip<n0)=true:=by simp;omega
   have p0:(0:Int)≤(ip:Int):=by omega
   have p1:(ip:Int)<(n0:Int):=by omega
   clear hin k2 k3 hrd hb hsl' hj
   go_wp2_with fail
   go_quiet ((go_at_call 79;exact Calls.quiet_of (HEQ.o _ (Zaa (Kai _ _) _))))
   go_wp2_with fail
   go_ret
   exact ⟨rfl,Zaa HB2.o _⟩
  ·obtain ⟨hj,b,o,A',c',hA,hb,hcc,hrd⟩:=(H1.o.next HB2.o).at_ hin
   subst hA
   have g2:=Kaa 3 (HGW.o _ (Kai _ _))
   obtain ⟨sl',hsl'⟩:=Ky sh.length
   rw [←hsl'] at hcc
   have HEQ:=Kz (show ∀ W,Below w2.heap.size w2 W→Calls Tryz.prog 79 #[.slice A' sl' c',.slice X1 sl x1] W fun e w'=>e=.returned (.bool true)∧∃ q,w'=W.drewN q from fun W hW=>by
    have h:=ZcA A' X1 sl' sl c' x1 sh sh W hsl' HSL.o (by have:=HSL.o;omega) (by omega) (hrd.next hW) ((HO1.o.rd.next HB2.o).next hW)
    rw [beq_self_eq_true] at h
    exact h)
   have qa:decide ((ip:Int) ≥ 0)=true:=by simp
   have qb:decide ((ip:Int)<(n1:Int))=true:=by simp;omega
   have qc:decide (ip<n1)=true:=by simp;omega
   have p0:(0:Int)≤(ip:Int):=by omega
   have p1:(ip:Int)<(n1:Int):=by omega
   clear hin k2 k3 hrd hb hsl' hj
   go_wp2_with fail
   go_quiet ((go_at_call 79;exact Calls.quiet_of (HEQ.o _ (Zaa (Kai _ _) _))))
   go_wp2_with fail
   go_ret
   exact ⟨rfl,Zaa HB2.o _⟩
 ·dsimp only at k1 k2 k3 k4 k5 k6
  have ha0:al=0:=by rw [HAL.o,k2];rfl
  subst ha0 k1 k3 k4 k5
  have qe:((ll:Int)==el0)=true:=by rw [beq_iff_eq,HLL.o,HEL0.o];exact k6
  clear k2 k6
  go_wp2_with fail
  go_quiet ((go_at_call 73;exact Calls.quiet_of ((HEL.o _ (Zaa (Kai _ _) _)).mono (fun e w' h=>⟨h.1,0,h.2 ▸ rfl⟩))))
  go_wp2_with fail
  go_ret
  exact ⟨rfl,Zaa HB2.o _⟩
 ·exfalso
  have:=HKD.o
  dsimp only at k1 k2
  omega
theorem lookB_any (in0 in1:List (List Int)) (B nc:Nat) (NA:Option Addr) (ms:List (ND × NV)) (OV:Value) (A0 A1:Option Addr) (n0 c0 n1 c1 i:Nat) (w:World) (hOV:OV.oneCell'=true) (hr:NdRow w B NA nc ms) (h0:InRow w B A0 n0 c0 in0) (h1:InRow w B A1 n1 c1 in1) (hw:WfD in0 in1 (ms.map Prod.fst)) (hi:i<ms.length) (hl:ms.length≤1000) (hg:ETyped w) (hk:∀ m,ms[i]?=some m→3≤m.1.kind):
  Calls Tryz.prog 74 #[.agg #[.slice NA ms.length nc,OV,.slice A0 n0 c0,.slice A1 n1 c1],.int .i64 i] w fun e w'=>e=.returned (.bool true)∧Below w.heap.size w w':=by
 obtain ⟨⟨⟨kd,sh,ar,pa,ip,kk,el⟩,⟨sv,av,ev⟩⟩,hmi⟩:∃ x,ms[i]?=some x:=⟨ms[i]'hi,Kad hi⟩
 have hkd:=hk _ hmi
 obtain ⟨q,hNA,hql,hc,hv⟩:=hr.at_ hmi
 have hr0:=hr
 subst hNA
 obtain ⟨hls,hla,hle,⟨X1,x1,e1,o1⟩,⟨X2,x2,e2,o2⟩,X3,x3,e3,o3⟩:=hv
 change sv=.slice X1 sh.length x1 at e1
 change av=.slice X2 ar.length x2 at e2
 change ev=.slice X3 el.length x3 at e3
 subst e1 e2 e3
 change sh.length≤1000000 at hls
 change ar.length≤1000000 at hla
 change el.length≤1000000 at hle
 have hok:=hw i _ (show (ms.map Prod.fst)[i]?=some _ by rw [Kal,hmi];rfl)
 obtain ⟨w2,hw2⟩:=Ky (((w.alloc (.cells #[.slice (some ⟨q,0,none⟩) ms.length nc,OV,.slice A0 n0 c0,.slice A1 n1 c1] 68)).alloc (.cells #[.int .i64 i] 3)).alloc (.cells #[.int .i64 kd,.slice X1 sh.length x1,.slice X2 ar.length x2,.int .i64 pa,.int .i64 ip,.int .i64 kk,.slice X3 el.length x3] 77))
 have hb2:Below w.heap.size w w2:=by rw [hw2];exact ((alloc_below _ _).alloc (by simp) _).alloc (by simp;omega) _
 obtain ⟨gb,hgb⟩:=Ky w.heap.size
 obtain ⟨ib,hib⟩:=Ky (w.heap.size+1)
 obtain ⟨nb,hnb⟩:=Ky (w.heap.size+1+1)
 have hG:w2.heap[gb]?=some (.cells #[.slice (some ⟨q,0,none⟩) ms.length nc,OV,.slice A0 n0 c0,.slice A1 n1 c1] 68 (0,0)):=by
  rw [hw2,hgb,Below.heap_alloc _ _ _ (by simp;omega),Below.heap_alloc _ _ _ (by simp)];exact Kac w _
 have hI:w2.heap[ib]?=some (.cells #[.int .i64 i] 3 (0,0)):=by
  rw [hw2,hib,Below.heap_alloc _ _ _ (by simp)]
  have:=Kac (w.alloc (.cells #[.slice (some ⟨q,0,none⟩) ms.length nc,OV,.slice A0 n0 c0,.slice A1 n1 c1] 68)) (.cells #[.int .i64 i] 3)
  rwa [World.size_alloc] at this
 have hN:w2.heap[nb]?=some (.cells #[.int .i64 kd,.slice X1 sh.length x1,.slice X2 ar.length x2,.int .i64 pa,.int .i64 ip,.int .i64 kk,.slice X3 el.length x3] 77 (0,0)):=by
  rw [hw2,hnb]
  have:=Kac ((w.alloc (.cells #[.slice (some ⟨q,0,none⟩) ms.length nc,OV,.slice A0 n0 c0,.slice A1 n1 c1] 68)).alloc (.cells #[.int .i64 i] 3)) (.cells #[.int .i64 kd,.slice X1 sh.length x1,.slice X2 ar.length x2,.int .i64 pa,.int .i64 ip,.int .i64 kk,.slice X3 el.length x3] 77)
  rwa [World.size_alloc,World.size_alloc] at this
 have HNODE:=Kz (show ∀ W,Below w.heap.size w W→(W.cell? ⟨q,i*7,none⟩=some (.int .i64 kd)∧W.cell? ⟨q,i*7+1,none⟩=some (.slice X1 sh.length x1)∧W.cell? ⟨q,i*7+2,none⟩=some (.slice X2 ar.length x2)∧W.cell? ⟨q,i*7+3,none⟩=some (.int .i64 pa)∧W.cell? ⟨q,i*7+4,none⟩=some (.int .i64 ip)∧W.cell? ⟨q,i*7+5,none⟩=some (.int .i64 kk)∧W.cell? ⟨q,i*7+6,none⟩=some (.slice X3 el.length x3)) from fun W hW=>
  have hk:∀ j v,(ndC (((⟨kd,sh,ar,pa,ip,kk,el⟩:ND),(⟨.slice X1 sh.length x1,.slice X2 ar.length x2,.slice X3 el.length x3⟩:NV))))[j]?=some v→j<7→W.cell? ⟨q,i*7+j,none⟩=some v:=fun j v h1 h2=>(hW.cell (p:=⟨q,i*7+j,none⟩) hql).trans (hc j v h1 h2)
  ⟨hk 0 _ rfl (by omega),hk 1 _ rfl (by omega),hk 2 _ rfl (by omega),hk 3 _ rfl (by omega),hk 4 _ rfl (by omega),hk 5 _ rfl (by omega),hk 6 _ rfl (by omega)⟩)
 have HW2:=Kz hw2
 have HB2:=Kz hb2
 have HGB:=Kz hgb
 have HIB:=Kz hib
 have HNB:=Kz hnb
 have HGW:=Kz (fun W (hW:Below w2.heap.size w2 W)=>(hW.block _ (Kab.1 hG).1).trans hG)
 have HIW:=Kz (fun W (hW:Below w2.heap.size w2 W)=>(hW.block _ (Kab.1 hI).1).trans hI)
 have HNW:=Kz (fun W (hW:Below w2.heap.size w2 W)=>(hW.block _ (Kab.1 hN).1).trans hN)
 obtain ⟨el0,hel0⟩:=Ky (Zad sh)
 obtain ⟨sl,hsl⟩:=Ky sh.length
 obtain ⟨al,hal⟩:=Ky ar.length
 obtain ⟨ll,hll⟩:=Ky el.length
 have HEL:=Kz (fun W (hW:Below w2.heap.size w2 W)=>ZcE X1 sl x1 sh W hsl (by omega) ((o1.rd.next hb2).next hW))
 have HCL:=Kz (conL_any ib i X2 al x2 ar w2 (Kaa 0 hI) hok.ahead hal (by omega) (o2.rd.next hb2))
 rw [←hsl,←hal,←hll] at HNODE HNW
 rw [←hsl,←hal,←hll] at HW2
 have HSL:=Kz hsl
 have HAL:=Kz hal
 have HLL:=Kz hll
 have q0:(el0==0)=false:=by rw [Kaj,hel0];exact hok.shape
 have q1:decide ((kk:Int)<0)=false:=by simp
 rw [←hel0] at HEL
 have HEL0:=Kz hel0
 have HR:=Kz hr0
 have H0:=Kz h0
 have H1:=Kz h1
 have HWF:=Kz hw
 have HG:=Kz hg
 have HOK:=Kz hok
 have HO1:=Kz o1
 have HO2:=Kz o2
 have i0:(0:Int)≤(i:Int):=by omega
 have i1:(i:Int)<(ms.length:Int):=by omega
 rw [←hsl] at hls
 rw [←hal] at hla
 rw [←hll] at hle
 dsimp only at hkd
 have HKD:=Kz hkd
 clear hk hkd
 clear hmi hql hc hr hr0 h0 h1 hw hok hw2 hb2 hgb hib hnb hG hI hN hel0 hsl hal hll hg o1 o2 o3 hi
 go_enter Tryz.func74,Tryz.ntmps74
 obtain ⟨c0',c1',c2',c3',c4',c5',c6'⟩:=HNODE.o _ ((alloc_below w (.cells #[.slice (some ⟨q,0,none⟩) ms.length nc,OV,.slice A0 n0 c0,.slice A1 n1 c1] 68)).alloc (by simp) (.cells #[.int .i64 i] 3))
 go_upto_region 2 with fail
 rw [←HW2.o,←HNB.o,←HIB.o,←HGB.o]
 clear c0' c1' c2' c3' c4' c5' c6'
 have d0:=Kaa 0 (HNW.o _ (Kai _ _))
 have d1:=Kaa 1 (HNW.o _ (Kai _ _))
 have d2:=Kaa 2 (HNW.o _ (Kai _ _))
 have d3:=Kaa 3 (HNW.o _ (Kai _ _))
 have d4:=Kaa 4 (HNW.o _ (Kai _ _))
 have d5:=Kaa 5 (HNW.o _ (Kai _ _))
 have d6:=Kaa 6 (HNW.o _ (Kai _ _))
 go_upto_region 4 with (first
  | (go_at_call 73;refine (HEL.o _ (Kai _ _)).mono ?_;rintro e w' ⟨rfl,rfl⟩)
  | (go_at_call 75;refine HCL.o.mono ?_;rintro e w' ⟨rfl,rfl⟩))
 have qw0:IntKind.i64.wrap (0:Int)=0:=by decide
 rcases HOK.o.kinds with ⟨k1,k2,k3,k4,k5⟩ | ⟨k1,k2,k3,k4,k5,k6⟩ | ⟨k1,k2,k3,k4,k5,k6,k7,k8⟩
 ·exfalso
  have:=HKD.o
  dsimp only at k1
  omega
 ·exfalso
  have:=HKD.o
  dsimp only at k1
  omega
 ·dsimp only at k1 k2 k3 k4 k5 k6 k7 k8
  have hl0:ll=0:=by rw [HLL.o,k3];rfl
  subst hl0 k4 k5
  have e1:((kd:Int)==1)=false:=by rw [Kaj];omega
  have e2:((kd:Int)==2)=false:=by rw [Kaj];omega
  obtain ⟨xs,hxs⟩:=Ky (ar.map fun a=>(atD (ms.map Prod.fst) a).shape)
  rw [←hxs] at k8
  have hxl:xs.length=al:=by rw [hxs,Kak,HAL.o]
  have hal3:al≤3:=by
   have h:=made_le3 kd
   rw [←k7,←HAL.o] at h
   omega
  have HAH:=Kz HOK.o.ahead
  have HMX:=Kz (show ∀ a∈ar,∃ m:ND × NV,ms[a]?=some m∧atD (ms.map Prod.fst) a=m.1∧Zad m.1.shape≠0∧∃ A1 c1,m.2.sv=.slice A1 m.1.shape.length c1∧Rd w2 w2.heap.size A1 (m.1.shape.map VI)∧m.1.shape.length≤c1∧c1≤9223372036854775807 from fun a ha=>by
   have hlt:a<ms.length:=by have:=HAH.o a ha;omega
   have hm:ms[a]?=some ms[a]:=Kad hlt
   have hf:(ms.map Prod.fst)[a]?=some (ms[a]).1:=by rw [Kal,hm];rfl
   obtain ⟨A1,c1,e,o⟩:=(HR.o.2 _ (Kam hm)).sv
   have hcap:=own_capsN o
   rw [Kak] at hcap
   exact ⟨_,hm,atD_some hf,(HWF.o a _ hf).shape,A1,c1,e,o.rd.next HB2.o,hcap.1,hcap.2⟩)
  have HCK:=Kz (look_check (k:=kd) (num:=kk) (xs:=xs) ⟨k1,k2⟩ (by rw [hxl,HAL.o];exact k7) (fun x hx=>by
   rw [hxs] at hx
   obtain ⟨a,ha,rfl⟩:=List.mem_map.1 hx
   obtain ⟨m,_,h2,h3,_⟩:=HMX.o a ha
   rw [h2]
   exact h3) HOK.o.shape k8)
  rw [hxl] at HCK
  obtain ⟨V,hV⟩:∃ V:Nat→Value,V=fun j=>((ms[ar.getD j 0]?).map fun m=>m.2.sv).getD (.bool false):=⟨_,rfl⟩
  have HVA:=Kz (show ∀ (j a:Nat),ar[j]?=some a→∀ m:ND × NV,ms[a]?=some m→V j=m.2.sv from fun j a hj m hm=>by
   rw [hV]
   show ((ms[ar.getD j 0]?).map fun m=>m.2.sv).getD (.bool false)=_
   rw [List.getD_eq_getElem?_getD,hj]
   show ((ms[a]?).map fun m=>m.2.sv).getD (.bool false)=_
   rw [hm]
   rfl)
  have HXA:=Kz (show ∀ (j a:Nat),ar[j]?=some a→∀ m:ND × NV,ms[a]?=some m→xs[j]?=some m.1.shape from fun j a hj m hm=>by
   rw [hxs,Kal,hj]
   show some (atD (ms.map Prod.fst) a).shape=_
   rw [atD_some (show (ms.map Prod.fst)[a]?=some m.1 by rw [Kal,hm];rfl)])
  have HVV:=Kz (show ∀ j x,xs[j]?=some x→∃ A1 c1,V j=.slice A1 x.length c1∧Rd w2 w2.heap.size A1 (x.map VI)∧x.length≤c1∧c1≤9223372036854775807 from fun j x hj=>by
   rw [hxs,Kal,Option.map_eq_some_iff] at hj
   obtain ⟨a,ha,rfl⟩:=hj
   obtain ⟨m,h1,h2,h3,A1,c1,h4,h5,h6,h7⟩:=HMX.o a (Kam ha)
   rw [h2]
   exact ⟨A1,c1,by rw [HVA.o j a ha m h1,h4],h5,h6,h7⟩)
  have HC:=Kz (show ∀ W,Below w2.heap.size w2 W→W.cell? ⟨nb,0,none⟩=some (.int .i64 kd)∧W.cell? ⟨nb,5,none⟩=some (.int .i64 kk) from fun W hW=>⟨Kaa 0 (HNW.o W hW),Kaa 5 (HNW.o W hW)⟩)
  have HEX:=Kz (fun W=>exprOf_any kd ⟨k1,k2⟩ W)
  have hk63:kk≤63:=HOK.o.k63
  have hkw:IntKind.u64.wrap (kk:Int)=kk:=by simp [IntKind.wrap,IntKind.bits,IntKind.signed];omega
  have HXL:=Kz hxl
  have HTB:=Kz (show nb<w2.heap.size from (Kab.1 (HNW.o w2 (Kai _ _))).1)
  obtain ⟨b9,q9⟩:∃ b,((kd:Int)==9)=b:=⟨_,rfl⟩
  have HQK:=Kz (show b9=false→((kk:Int) != 0)=false from fun h=>by
   rw [k6 (fun e=>by rw [e,h] at q9;exact absurd q9 (by decide))]
   rfl)
  have HK12:=Kz (And.intro k1 k2)
  clear k3 k6 k7 k8 hxs hxl hV k1 k2
  go_upto_block 0 with fail
  go_cut [] (fun wx=>wx=w2)
  case first=>
   cases b9 with
   | true=>go_wp2_with fail;go_meet;rfl
   | false=>
    have qk:=HQK.o rfl
    go_wp2_with fail
    go_meet
    rfl
  case rest=>
  rw [show wc=w2 from hcut]
  clear hcut
  go_upto_region 12 with fail
  clear e1 e2 q9 d0 d1 d2 d3 d4 d5 d6 q0 q1 i0 i1
  go_cut [6] (fun p wx=>∃ eb,p=.pointer (some ⟨eb,0,none⟩)∧w2.heap.size≤eb∧wx.heap[eb]?=some (.cells #[.int .i64 kd,.string ⟨#[]⟩,.int .u64 kk,.slice none 0 0,.int .i64 0] 90 (0,0))∧Below w2.heap.size w2 wx)
  case first=>
   refine wp_region_held_drew (S:=(fun w'=>w'.cell? ⟨nb,0,none⟩=some (.int .i64 kd)∧w'.cell? ⟨nb,5,none⟩=some (.int .i64 kk))) (by kernel_rfl) (HC.o _ (Kai _ _).drew) (fun hHeld => ?_)
   obtain ⟨wd,hwd⟩:=Ky w2.drew
   rw [←hwd] at hHeld ⊢
   have BD:=Kz (show Below w2.heap.size w2 wd from by rw [hwd];exact (Kai _ _).drew)
   clear hwd
   refine tk 0 ?_
   simp only [tkS]
   refine tk 1 ?_
   simp only [tkS]
   refine tk 3 ?_
   simp only [tkS]
   refine tk 4 ?_
   simp only [tkS]
   refine tk 5 ?_
   simp only [tkS]
   refine wpAnyH_ready (rs:=[2,7]) (by kernel_rfl) (by simp) ?_
   refine AllReadyH.cons (o:=_) rfl (fun K hK => ?_) (AllReadyH.cons (o:=_) rfl (fun K hK => ?_) (AllReadyH.nil))
   ·go_simp
    go_at_call 117
    refine (HEX.o wd).mono ?_
    rintro e w' ⟨rfl,rfl⟩
    refine hK.out _ _ hHeld (fun hHeld => ?_)
    clear hK K
    try simp only [tkS]
    refine tk 6 ?_
    simp only [tkS]
    refine Kr 7 fun K hK=>?_
    go_simp
    obtain ⟨wa,hwa⟩:=Ky (wd.alloc (.cells #[.int .i64 0,.string ⟨#[]⟩,.int .u64 0,.slice none 0 0,.int .i64 0] 90))
    obtain ⟨eb,heb⟩:=Ky wd.heap.size
    rw [←hwa,←heb]
    have BA:=Kz (show Below w2.heap.size w2 wa from by rw [hwa];exact BD.o.alloc BD.o.size _)
    have HE:=Kz (Kx hwa heb)
    have HL:=Kz (show w2.heap.size≤eb from by rw [heb];exact BD.o.size)
    clear hwa heb
    refine hK.out _ _ (HC.o _ BA.o) (fun hHeld => ?_)
    clear hK K
    try simp only [tkS]
    refine Kr 8 fun K hK=>?_
    have d0:=Kaa 0 HE.o
    have d1:=Kaa 1 HE.o
    have d2:=Kaa 2 HE.o
    have d3:=Kaa 3 HE.o
    have d4:=Kaa 4 HE.o
    have fz:∀ k,wa.frozen? ⟨eb,k,none⟩=false:=fun k=>by simp [World.frozen?,HE.o]
    go_simp
    obtain ⟨wb,hwb⟩:=Ky (((((wa.setCell ⟨eb,0,none⟩ (.int .i64 kd)).setCell ⟨eb,1,none⟩ (.string ⟨#[]⟩)).setCell ⟨eb,2,none⟩ (.int .u64 kk)).setCell ⟨eb,3,none⟩ (.slice none 0 0)).setCell ⟨eb,4,none⟩ (.int .i64 0))
    rw [←hwb]
    have HBB:=Kz (show Below w2.heap.size w2 wb from by rw [hwb];exact Zaf (Zaf (Zaf (Zaf (Zaf BA.o HL.o _) HL.o _) HL.o _) HL.o _) HL.o _)
    have HEB:=Kz (show wb.heap[eb]?=some (.cells #[.int .i64 kd,.string ⟨#[]⟩,.int .u64 kk,.slice none 0 0,.int .i64 0] 90 (0,0)) from by rw [hwb];exact heap_setCell_same _ _ _ _ _ _ (heap_setCell_same _ _ _ _ _ _ (heap_setCell_same _ _ _ _ _ _ (heap_setCell_same _ _ _ _ _ _ (heap_setCell_same _ _ _ _ _ _ HE.o)))))
    clear hwb d0 d1 d2 d3 d4 fz
    refine hK.out _ _ (HC.o _ HBB.o) (fun hHeld => ?_)
    clear hK K
    try simp only [tkS]
    refine Kq ?_
    go_wp2_with fail
    go_meet
    exact ⟨eb,rfl,HL.o,HEB.o,HBB.o⟩
   ·go_simp
    obtain ⟨wa,hwa⟩:=Ky (wd.alloc (.cells #[.int .i64 0,.string ⟨#[]⟩,.int .u64 0,.slice none 0 0,.int .i64 0] 90))
    obtain ⟨eb,heb⟩:=Ky wd.heap.size
    rw [←hwa,←heb]
    have BA:=Kz (show Below w2.heap.size w2 wa from by rw [hwa];exact BD.o.alloc BD.o.size _)
    have HE:=Kz (Kx hwa heb)
    have HL:=Kz (show w2.heap.size≤eb from by rw [heb];exact BD.o.size)
    clear hwa heb
    refine hK.out _ _ (HC.o _ BA.o) (fun hHeld => ?_)
    clear hK K
    try simp only [tkS]
    refine Kr 2 fun K hK=>?_
    go_simp
    go_at_call 117
    refine (HEX.o wa).mono ?_
    rintro e w' ⟨rfl,rfl⟩
    refine hK.out _ _ hHeld (fun hHeld => ?_)
    clear hK K
    try simp only [tkS]
    refine tk 6 ?_
    simp only [tkS]
    refine Kr 8 fun K hK=>?_
    have d0:=Kaa 0 HE.o
    have d1:=Kaa 1 HE.o
    have d2:=Kaa 2 HE.o
    have d3:=Kaa 3 HE.o
    have d4:=Kaa 4 HE.o
    have fz:∀ k,wa.frozen? ⟨eb,k,none⟩=false:=fun k=>by simp [World.frozen?,HE.o]
    go_simp
    obtain ⟨wb,hwb⟩:=Ky (((((wa.setCell ⟨eb,0,none⟩ (.int .i64 kd)).setCell ⟨eb,1,none⟩ (.string ⟨#[]⟩)).setCell ⟨eb,2,none⟩ (.int .u64 kk)).setCell ⟨eb,3,none⟩ (.slice none 0 0)).setCell ⟨eb,4,none⟩ (.int .i64 0))
    rw [←hwb]
    have HBB:=Kz (show Below w2.heap.size w2 wb from by rw [hwb];exact Zaf (Zaf (Zaf (Zaf (Zaf BA.o HL.o _) HL.o _) HL.o _) HL.o _) HL.o _)
    have HEB:=Kz (show wb.heap[eb]?=some (.cells #[.int .i64 kd,.string ⟨#[]⟩,.int .u64 kk,.slice none 0 0,.int .i64 0] 90 (0,0)) from by rw [hwb];exact heap_setCell_same _ _ _ _ _ _ (heap_setCell_same _ _ _ _ _ _ (heap_setCell_same _ _ _ _ _ _ (heap_setCell_same _ _ _ _ _ _ (heap_setCell_same _ _ _ _ _ _ HE.o)))))
    clear hwb d0 d1 d2 d3 d4 fz
    refine hK.out _ _ (HC.o _ HBB.o) (fun hHeld => ?_)
    clear hK K
    try simp only [tkS]
    refine Kq ?_
    go_wp2_with fail
    go_meet
    exact ⟨eb,rfl,HL.o,HEB.o,HBB.o⟩
  case rest=>
  obtain ⟨eb,rfl,he1,he2,he3⟩:=hcut
  obtain ⟨w4,hw4⟩:=Ky wc
  rw [←hw4] at he2 he3 ⊢
  obtain ⟨w5,hw5⟩:=Ky (w4.alloc (.cells #[.slice none 0 0,.slice none 0 0] 26))
  obtain ⟨tb,htb⟩:=Ky w4.heap.size
  obtain ⟨BR,hBR⟩:=Ky w5.heap.size
  have b5:=Kv hw5
  have hebl:=(Kab.1 he2).1
  have HS5:=Kz (show lyS w2 w5 BR tb eb kd kk xs V 0 from ⟨none,0,none,0,none,0,bnext he3 b5,Nat.le_of_eq hBR,⟨by rw [htb];exact he3.size,by rw [hBR,hw5,htb];simp⟩,⟨he1,by rw [hBR];exact Kae hebl b5.size⟩,by omega,by rw [hw5,htb];exact Kac w4 _,(b5.block eb hebl).trans he2,World.ownsRow_nil _ _ _ 6,World.ownsRow_nil _ _ _ 5,World.ownsRow_nil _ _ _ 1⟩)
  have HB5:=Kz (bnext he3 b5)
  have HW5:=Kz hw5
  have HTBE:=Kz htb
  clear hw4 he1 he2 he3 hBR hw5 htb b5 hebl
  go_upto_region 14 with fail
  rw [←HW5.o,←HTBE.o]
  have d2:=Kaa 2 (HNW.o _ HB5.o)
  go_wp2_with fail
  clear d2
  go_loopw [130] (fun kv wr=>∃ k:Nat,k≤al∧kv=.int .i64 k∧lyS w2 wr BR tb eb kd kk xs V k) (fun kv _=>al-(intOf kv).toNat)
  case atStart=>exact ⟨0,by omega,rfl,HS5.o⟩
  case round=>
  obtain ⟨k,hk,rfl,SA,sc,EA,ec,AA,ac,hS⟩:=hrel
  have HS:=Kz hS
  clear hS
  by_cases hlt:k<al
  ·have ht:ar[k]?=some (ar[k]'(by rw [←HAL.o];exact hlt)):=Kad _
   obtain ⟨a,haa⟩:=Ky (ar[k]'(by rw [←HAL.o];exact hlt))
   rw [←haa] at ht
   obtain ⟨m,hma,_,_,A1,c1,hsv,_,_,_⟩:=HMX.o a (Kam ht)
   obtain ⟨q',hq',hqa,hca',hva⟩:=HR.o.at_ hma
   have hqq:q'=q:=by injection hq' with h;injection h with h _;exact h.symm
   subst hqq
   have hca:w2.cell? ⟨q',a*7+1,none⟩=some (V k):=by
    rw [HVA.o k a ht m hma]
    exact (HB2.o.cell (p:=⟨q',a*7+1,none⟩) hqa).trans (hca' 1 _ rfl (by omega))
   have hqa:q'<w2.heap.size:=Kae hqa HB2.o.size
   obtain ⟨b2,o2,hX2,hbl2,dd1⟩:=((HO2.o.rd.next HB2.o).next HS.o.bel).at_ (show (ar.map VNt)[k]?=some (VNt a) by rw [Kal,ht];rfl)
   subst hX2
   have dd0:wr.cell? ⟨b2,o2+k,none⟩=some (.int .i64 (a:Int)):=dd1
   obtain ⟨s1,hs1⟩:=Ky m.1.shape.length
   rw [←hs1] at hsv
   have hVS:V k=.slice A1 s1 c1:=(HVA.o k a ht m hma).trans hsv
   rw [hVS] at hca
   have HVS:=Kz hVS
   have hae:a<ms.length:=(Kaf.1 hma).1
   have j0:(0:Int)≤(k:Int):=by omega
   have j1:(k:Int)<(al:Int):=by omega
   have a0:(0:Int)≤(a:Int):=by omega
   have a1:(a:Int)<(ms.length:Int):=by omega
   have hm26:(k:Int) % 26=(k:Int):=by omega
   have hw97:IntKind.i64.wrap (97+(k:Int))=97+k:=by simp [IntKind.wrap,IntKind.bits,IntKind.signed];omega
   have hw32:IntKind.i32.wrap (97+(k:Int))=97+k:=by simp [IntKind.wrap,IntKind.bits,IntKind.signed];omega
   have hue:Utf8.encode (97+(k:Int))=nmT k:=by
    rcases (by omega:k=0∨k=1∨k=2) with rfl | rfl | rfl <;> rfl
   clear ht haa hma hq' hca' hva hsv dd1 hbl2 hVS hae hs1
   obtain ⟨w6,hw6⟩:=Ky wr
   rw [←hw6] at dd0
   have H6:=Kz (show LyS w2 w6 BR tb eb kd kk SA sc k (sL xs V k) EA ec k (eX k) AA ac k (aX k) from by rw [hw6];exact HS.o)
   rw [←hw6]
   clear hw6
   go_upto_region 18 with fail
   clear dd0 hue hw97 hw32 hm26
   go_cut [] (fun wx=>∃ A7' c7',LyS w2 wx BR tb eb kd kk A7' c7' (k+1) (sL xs V k++[.int .i64 1,.int .i64 0,.string (nmT k),.slice A1 s1 c1,.int .i64 0,.int .i64 0]) EA ec k (eX k) AA ac k (aX k))
   case first=>
    have HSC:=Kz (show ∀ W,Below w2.heap.size w2 W→W.cell? ⟨gb,0,none⟩=some (.slice (some ⟨q',0,none⟩) ms.length nc)∧W.cell? ⟨q',a*7+1,none⟩=some (.slice A1 s1 c1) from fun W hW=>⟨Kaa 0 (HGW.o W hW),(hW.cell (p:=⟨q',a*7+1,none⟩) hqa).trans hca⟩)
    clear hqa hca
    refine wp_region_held_drew (S:=(fun w'=>w'.cell? ⟨gb,0,none⟩=some (.slice (some ⟨q',0,none⟩) ms.length nc)∧w'.cell? ⟨q',a*7+1,none⟩=some (.slice A1 s1 c1))) (by kernel_rfl) (HSC.o _ H6.o.bel.drew) (fun hHeld => ?_)
    obtain ⟨wd,hwd⟩:=Ky w6.drew
    rw [←hwd] at hHeld ⊢
    have HD:=Kz (show LyS w2 wd BR tb eb kd kk SA sc k (sL xs V k) EA ec k (eX k) AA ac k (aX k) from by rw [hwd];exact H6.o.next (Kai _ _).drew)
    clear hwd
    refine tk 0 ?_
    simp only [tkS]
    refine tk 2 ?_
    simp only [tkS]
    refine tk 3 ?_
    simp only [tkS]
    refine tk 4 ?_
    simp only [tkS]
    refine tk 5 ?_
    simp only [tkS]
    refine tk 6 ?_
    simp only [tkS]
    refine tk 7 ?_
    simp only [tkS]
    refine tk 8 ?_
    simp only [tkS]
    refine tk 9 ?_
    simp only [tkS]
    refine wpAnyH_ready (rs:=[1,10]) (by kernel_rfl) (by simp) ?_
    refine AllReadyH.cons (o:=_) rfl (fun K hK => ?_) (AllReadyH.cons (o:=_) rfl (fun K hK => ?_) (AllReadyH.nil))
    ·have z0:=HD.o.cells.1
     go_simp
     clear z0
     refine hK.out _ _ (HSC.o _ HD.o.bel) (fun hHeld => ?_)
     clear hK K
     try simp only [tkS]
     refine Kr 10 fun K hK=>?_
     go_simp
     obtain ⟨wa,hwa⟩:=Ky (wd.alloc (.cells ([.int .i64 1,.int .i64 0,.string (nmT k),.slice A1 s1 c1,.int .i64 0,.int .i64 0]:List Value).toArray 93))
     obtain ⟨ga,hga⟩:=Ky wd.heap.size
     try rw [show (#[.int .i64 1,.int .i64 0,.string (nmT k),.slice A1 s1 c1,.int .i64 0,.int .i64 0]:Array Value)=([.int .i64 1,.int .i64 0,.string (nmT k),.slice A1 s1 c1,.int .i64 0,.int .i64 0]:List Value).toArray from rfl]
     rw [←hwa,←hga]
     have HAa:=Kz (show LyS w2 wa BR tb eb kd kk SA sc k (sL xs V k) EA ec k (eX k) AA ac k (aX k) from by rw [hwa];exact HD.o.next (alloc_below _ _))
     have HGA:=Kz (Kx hwa hga)
     clear hwa hga
     refine hK.out _ _ (HSC.o _ HAa.o.bel) (fun hHeld => ?_)
     clear hK K
     try simp only [tkS]
     refine Kr 11 fun K hK=>?_
     refine wp_appR (.tmp 141) (.tmp 150) 23 93 (.agg #[.int .i64 0,.int .i64 0,.string ⟨#[]⟩,.slice none 0 0,.int .i64 0,.int .i64 0]) 6 72 siI_info Tryz.underlying23 (by decide) rfl (by decide) rfl BR SA sc k (sL xs V k) rfl HAa.o.rs ga 1 (by decide) [.int .i64 1,.int .i64 0,.string (nmT k),.slice A1 s1 c1,.int .i64 0,.int .i64 0] rfl rfl HGA.o (by simp [Value.oneCell']) (by omega) HAa.o.br ?_
     intro A7' c7' w7' r7 g7
     have hh:=((HAa.o.grow HAa.o.rs g7).2.2.1).trans HAa.o.ht
     have HH:=Kz hh
     have Kp:=Kz (HAa.o.pushS g7 r7)
     have HB7:=Kz (HAa.o.grow HAa.o.rs g7).1
     clear hh r7 g7
     refine hK.out _ _ (HSC.o _ HB7.o) (fun hHeld => ?_)
     clear hK K
     try simp only [tkS]
     refine tk 12 ?_
     simp only [tkS]
     have dk:=Kaa 0 HH.o
     have fk:∀ k,w7'.frozen? ⟨tb,k,none⟩=false:=fun k=>by simp [World.frozen?,HH.o]
     refine Kr 13 fun K hK=>?_
     go_simp
     obtain ⟨w7,hw7⟩:=Ky (w7'.setCell ⟨tb,0,none⟩ (.slice A7' (k+1) c7'))
     rw [←hw7]
     have H7:=Kz (show LyS w2 w7 BR tb eb kd kk A7' c7' (k+1) (sL xs V k++[.int .i64 1,.int .i64 0,.string (nmT k),.slice A1 s1 c1,.int .i64 0,.int .i64 0]) EA ec k (eX k) AA ac k (aX k) from by rw [hw7];exact Kp.o)
     clear hw7 dk fk
     refine hK.out _ _ (HSC.o _ H7.o.bel) (fun hHeld => ?_)
     clear hK K
     try simp only [tkS]
     refine Kq ?_
     go_wp2_with fail
     go_meet
     exact ⟨A7',c7',H7.o⟩
    ·go_simp
     obtain ⟨wa,hwa⟩:=Ky (wd.alloc (.cells ([.int .i64 1,.int .i64 0,.string (nmT k),.slice A1 s1 c1,.int .i64 0,.int .i64 0]:List Value).toArray 93))
     obtain ⟨ga,hga⟩:=Ky wd.heap.size
     try rw [show (#[.int .i64 1,.int .i64 0,.string (nmT k),.slice A1 s1 c1,.int .i64 0,.int .i64 0]:Array Value)=([.int .i64 1,.int .i64 0,.string (nmT k),.slice A1 s1 c1,.int .i64 0,.int .i64 0]:List Value).toArray from rfl]
     rw [←hwa,←hga]
     have HAa:=Kz (show LyS w2 wa BR tb eb kd kk SA sc k (sL xs V k) EA ec k (eX k) AA ac k (aX k) from by rw [hwa];exact HD.o.next (alloc_below _ _))
     have HGA:=Kz (Kx hwa hga)
     clear hwa hga
     refine hK.out _ _ (HSC.o _ HAa.o.bel) (fun hHeld => ?_)
     clear hK K
     try simp only [tkS]
     refine Kr 1 fun K hK=>?_
     have z0:=HAa.o.cells.1
     go_simp
     clear z0
     refine hK.out _ _ (HSC.o _ HAa.o.bel) (fun hHeld => ?_)
     clear hK K
     try simp only [tkS]
     refine Kr 11 fun K hK=>?_
     refine wp_appR (.tmp 141) (.tmp 150) 23 93 (.agg #[.int .i64 0,.int .i64 0,.string ⟨#[]⟩,.slice none 0 0,.int .i64 0,.int .i64 0]) 6 72 siI_info Tryz.underlying23 (by decide) rfl (by decide) rfl BR SA sc k (sL xs V k) rfl HAa.o.rs ga 1 (by decide) [.int .i64 1,.int .i64 0,.string (nmT k),.slice A1 s1 c1,.int .i64 0,.int .i64 0] rfl rfl HGA.o (by simp [Value.oneCell']) (by omega) HAa.o.br ?_
     intro A7' c7' w7' r7 g7
     have hh:=((HAa.o.grow HAa.o.rs g7).2.2.1).trans HAa.o.ht
     have HH:=Kz hh
     have Kp:=Kz (HAa.o.pushS g7 r7)
     have HB7:=Kz (HAa.o.grow HAa.o.rs g7).1
     clear hh r7 g7
     refine hK.out _ _ (HSC.o _ HB7.o) (fun hHeld => ?_)
     clear hK K
     try simp only [tkS]
     refine tk 12 ?_
     simp only [tkS]
     have dk:=Kaa 0 HH.o
     have fk:∀ k,w7'.frozen? ⟨tb,k,none⟩=false:=fun k=>by simp [World.frozen?,HH.o]
     refine Kr 13 fun K hK=>?_
     go_simp
     obtain ⟨w7,hw7⟩:=Ky (w7'.setCell ⟨tb,0,none⟩ (.slice A7' (k+1) c7'))
     rw [←hw7]
     have H7:=Kz (show LyS w2 w7 BR tb eb kd kk A7' c7' (k+1) (sL xs V k++[.int .i64 1,.int .i64 0,.string (nmT k),.slice A1 s1 c1,.int .i64 0,.int .i64 0]) EA ec k (eX k) AA ac k (aX k) from by rw [hw7];exact Kp.o)
     clear hw7 dk fk
     refine hK.out _ _ (HSC.o _ H7.o.bel) (fun hHeld => ?_)
     clear hK K
     try simp only [tkS]
     refine Kq ?_
     go_wp2_with fail
     go_meet
     exact ⟨A7',c7',H7.o⟩
   case rest=>
   obtain ⟨A7',c7',h7⟩:=hcut
   obtain ⟨w7,hw7⟩:=Ky wc
   rw [←hw7] at h7 ⊢
   have H7:=Kz h7
   clear hw7 h7
   have Ka:=Kz (H7.o.next (alloc_below w7 (.cells ([.int .i64 2,.string (nmT k),.int .u64 0,.slice none 0 0,.int .i64 0]:List Value).toArray 90)))
   obtain ⟨z0,z1,z4,z5,z6,z7,z8⟩:=H7.o.cells
   go_upto_region 20 with (at_builtin;(refine appR rfl (.tmp 154) (.tmp 157) 24 90 (.agg #[.int .i64 0,.string ⟨#[]⟩,.int .u64 0,.slice none 0 0,.int .i64 0]) 5 64 eiI_info Tryz.underlying24 (by decide) rfl (by decide) rfl BR EA ec k (eX k) rfl Ka.o.re w7.heap.size 1 (by decide) [.int .i64 2,.string (nmT k),.int .u64 0,.slice none 0 0,.int .i64 0] rfl rfl (Kac w7 _) (by simp [Value.oneCell']) (by omega) Ka.o.br ?_);intro A8' c8' w8' r8 g8;have hh:=((Ka.o.grow Ka.o.re g8).2.2.1).trans Ka.o.ht;have dk:=Kaa 1 hh;have fk:∀ k,w8'.frozen? ⟨tb,k,none⟩=false:=(fun k=>by simp [World.frozen?,hh]);have Kp:=Kz (Ka.o.pushE g8 r8);clear hh r8 g8)
   obtain ⟨w8,hw8⟩:=Ky (w8'.setCell ⟨tb,1,none⟩ (.slice A8' (k+1) c8'))
   rw [←hw8]
   have H8:=Kz (show LyS w2 w8 BR tb eb kd kk A7' c7' (k+1) (sL xs V k++[.int .i64 1,.int .i64 0,.string (nmT k),.slice A1 s1 c1,.int .i64 0,.int .i64 0]) A8' c8' (k+1) (eX k++[.int .i64 2,.string (nmT k),.int .u64 0,.slice none 0 0,.int .i64 0]) AA ac k (aX k) from by rw [hw8];exact Kp.o)
   clear hw8 dk fk Ka Kp z0 z1 z4 z5 z6 z7 z8
   have Ka:=Kz (H8.o.next (alloc_below w8 (.cells ([.int .i64 (k:Int)]:List Value).toArray 3)))
   obtain ⟨z0,z1,z4,z5,z6,z7,z8⟩:=H8.o.cells
   go_upto_region 21 with (at_builtin;(refine appR rfl (.tmp 161) (.tmp 163) 41 3 (.int .i64 0) 1 8 ZcB Tryz.underlying41 (by decide) rfl (by decide) rfl BR AA ac k (aX k) rfl Ka.o.ra w8.heap.size 1 (by decide) [.int .i64 (k:Int)] rfl rfl (Kac w8 _) (by simp [Value.oneCell']) (by omega) Ka.o.br ?_);intro A9' c9' w9' r9 g9;have hh:=((Ka.o.grow Ka.o.ra g9).2.2.2).trans Ka.o.he;have dk:=Kaa 3 hh;have fk:∀ k,w9'.frozen? ⟨eb,k,none⟩=false:=(fun k=>by simp [World.frozen?,hh]);have Kp:=Kz (Ka.o.pushA g9 r9);clear hh r9 g9)
   obtain ⟨w9,hw9⟩:=Ky (w9'.setCell ⟨eb,3,none⟩ (.slice A9' (k+1) c9'))
   rw [←hw9]
   have H9:=Kz (show LyS w2 w9 BR tb eb kd kk A7' c7' (k+1) (sL xs V k++[.int .i64 1,.int .i64 0,.string (nmT k),.slice A1 s1 c1,.int .i64 0,.int .i64 0]) A8' c8' (k+1) (eX k++[.int .i64 2,.string (nmT k),.int .u64 0,.slice none 0 0,.int .i64 0]) A9' c9' (k+1) (aX k++[.int .i64 (k:Int)]) from by rw [hw9];exact Kp.o)
   clear hw9 dk fk Ka Kp z0 z1 z4 z5 z6 z7 z8
   have HSF:=Kz (show lyS w2 w9 BR tb eb kd kk xs V (k+1) from ⟨A7',c7',A8',c8',A9',c9',by
    have h:=H9.o
    have e1:sL xs V (k+1)=sL xs V k++[.int .i64 1,.int .i64 0,.string (nmT k),.slice A1 s1 c1,.int .i64 0,.int .i64 0]:=by
     rw [sL_succ]
     unfold siC stL
     rw [show V k=.slice A1 s1 c1 from HVS.o]
    have e2:eX (k+1)=eX k++[.int .i64 2,.string (nmT k),.int .u64 0,.slice none 0 0,.int .i64 0]:=eX_succ k
    have e4:aX (k+1)=aX k++[.int .i64 (k:Int)]:=aX_succ k
    rw [e1,e2,e4]
    exact h⟩)
   go_wp2_with fail
   exact ⟨⟨k+1,by omega,rfl,HSF.o⟩,by simp [intOf];omega⟩
  obtain rfl:al=k:=by omega
  obtain ⟨w10,hw10⟩:=Ky wr
  have H10:=Kz (show LyS w2 w10 BR tb eb kd kk SA sc al (sL xs V al) EA ec al (eX al) AA ac al (aX al) from by rw [hw10];exact HS.o)
  rw [←hw10]
  clear hw10 hkw hk hlt
  have Ka:=Kz (H10.o.next (alloc_below w10 (.cells ([.int .i64 kd,.string ⟨#[]⟩,.int .u64 kk,.slice AA al ac,.int .i64 0]:List Value).toArray 90)))
  obtain ⟨z0,z1,z4,z5,z6,z7,z8⟩:=H10.o.cells
  go_upto_region 23 with (at_builtin;(refine appR rfl (.tmp 168) (.tmp 170) 24 90 (.agg #[.int .i64 0,.string ⟨#[]⟩,.int .u64 0,.slice none 0 0,.int .i64 0]) 5 64 eiI_info Tryz.underlying24 (by decide) rfl (by decide) rfl BR EA ec al (eX al) rfl Ka.o.re w10.heap.size 1 (by decide) [.int .i64 kd,.string ⟨#[]⟩,.int .u64 kk,.slice AA al ac,.int .i64 0] rfl rfl (Kac w10 _) (by simp [Value.oneCell']) (by omega) Ka.o.br ?_);intro A11' c11' w11' r11 g11;have hh:=((Ka.o.grow Ka.o.re g11).2.2.1).trans Ka.o.ht;have dk:=Kaa 1 hh;have fk:∀ k,w11'.frozen? ⟨tb,k,none⟩=false:=(fun k=>by simp [World.frozen?,hh]);have Kp:=Kz (Ka.o.pushE g11 r11);clear hh r11 g11)
  obtain ⟨w11,hw11⟩:=Ky (w11'.setCell ⟨tb,1,none⟩ (.slice A11' (al+1) c11'))
  rw [←hw11]
  have H11:=Kz (show LyS w2 w11 BR tb eb kd kk SA sc al (sL xs V al) A11' c11' (al+1) (eX al++[.int .i64 kd,.string ⟨#[]⟩,.int .u64 kk,.slice AA al ac,.int .i64 0]) AA ac al (aX al) from by rw [hw11];exact Kp.o)
  clear hw11 dk fk Ka Kp z0 z1 z4 z5 z6 z7 z8
  have d2:=Kaa 2 (HNW.o _ H11.o.bel)
  have Ka:=Kz (H11.o.next (alloc_below w11 (.cells ([.int .i64 2,.int .i64 0,.string zNm,.slice none 0 0,.int .i64 (al:Int),.int .i64 0]:List Value).toArray 93)))
  obtain ⟨z0,z1,z4,z5,z6,z7,z8⟩:=H11.o.cells
  go_upto_region 24 with (at_builtin;(refine appR rfl (.tmp 174) (.tmp 179) 23 93 (.agg #[.int .i64 0,.int .i64 0,.string ⟨#[]⟩,.slice none 0 0,.int .i64 0,.int .i64 0]) 6 72 siI_info Tryz.underlying23 (by decide) rfl (by decide) rfl BR SA sc al (sL xs V al) rfl Ka.o.rs w11.heap.size 1 (by decide) [.int .i64 2,.int .i64 0,.string zNm,.slice none 0 0,.int .i64 (al:Int),.int .i64 0] rfl rfl (Kac w11 _) (by simp [Value.oneCell']) (by omega) Ka.o.br ?_);intro A12' c12' w12' r12 g12;have hh:=((Ka.o.grow Ka.o.rs g12).2.2.1).trans Ka.o.ht;have dk:=Kaa 0 hh;have fk:∀ k,w12'.frozen? ⟨tb,k,none⟩=false:=(fun k=>by simp [World.frozen?,hh]);have Kp:=Kz (Ka.o.pushS g12 r12);clear hh r12 g12)
  obtain ⟨w12,hw12⟩:=Ky (w12'.setCell ⟨tb,0,none⟩ (.slice A12' (al+1) c12'))
  rw [←hw12]
  have H12:=Kz (show LyS w2 w12 BR tb eb kd kk A12' c12' (al+1) (sL xs V al++[.int .i64 2,.int .i64 0,.string zNm,.slice none 0 0,.int .i64 (al:Int),.int .i64 0]) A11' c11' (al+1) (eX al++[.int .i64 kd,.string ⟨#[]⟩,.int .u64 kk,.slice AA al ac,.int .i64 0]) AA ac al (aX al) from by rw [hw12];exact Kp.o)
  clear hw12 dk fk Ka Kp z0 z1 z4 z5 z6 z7 z8
  clear d2
  obtain ⟨rS,rE⟩:=LyS.done HXL.o.symm hal3 HVV.o H12.o
  obtain ⟨shs,hc1,hc2⟩:=HCK.o
  have HCHK:=Zi3 A12' A11' (al+1) (al+1) c12' c11' (lookS xs) (tinyE kd kk al) w12 (by rw [lookS_len,HXL.o]) (by rw [tinyE_len]) (by omega) (by omega) rS rE (HG.o.next (bnext HB2.o H12.o.bel))
  rw [hc1] at HCHK
  have HCHK:=Kz HCHK
  have HSH:=Kz hc2
  obtain ⟨z0,z1,z4,z5,z6,z7,z8⟩:=H12.o.cells
  clear rS rE hc1 hc2
  go_upto_region 25 with (go_at_call 51;refine HCHK.o.mono ?_;rintro e w13 ⟨hb13,q9,rfl,hq9⟩)
  clear z0 z1 z4 z5 z6 z7 z8
  obtain ⟨q8,hqq,hql8,hrow⟩:=outsh_shb hq9
  have hq98:q9=q8:=by injection hqq with h;injection h
  subst hq98
  obtain ⟨A',c',k8',r8,_⟩:=hrow al sh HSH.o
  obtain ⟨s9,hs9⟩:=Ky sh.length
  rw [←hs9] at k8'
  have HB13:=Kz (bnext H12.o.bel hb13)
  have d2:=Kaa 2 (HNW.o _ HB13.o)
  have d1:=Kaa 1 (HNW.o _ HB13.o)
  have d3:=Kaa 3 (HNW.o _ HB13.o)
  have d4:=Kaa 4 (HNW.o _ HB13.o)
  have d6:=Kaa 6 (HNW.o _ HB13.o)
  have z4:=Kaa 0 ((hb13.block eb (Kab.1 H12.o.he).1).trans H12.o.he)
  have HEQ:=Kz (show ∀ W,Below w13.heap.size w13 W→Calls Tryz.prog 79 #[.slice A' s9 c',.slice X1 sl x1] W fun e w'=>e=.returned (.bool true)∧∃ q,w'=W.drewN q from fun W hW=>by
   have h:=ZcA A' X1 s9 sl c' x1 sh sh W hs9 HSL.o (by have:=HSL.o;omega) (by omega) (r8.next hW) (((HO1.o.rd.next HB2.o).next HB13.o).next hW)
   rw [beq_self_eq_true] at h
   exact h)
  have u1:((kd:Int) != 0)=true:=by rw [bne_iff_ne];have:=HK12.o;omega
  have u2:decide ((al:Int)≤3)=true:=by simp;omega
  have u3:decide (al≤3)=true:=by simp;omega
  have u4:(0:Int)≤(al:Int):=by omega
  have u5:(al:Int)<((al+1:Nat):Int):=by omega
  have u6:(al:Int)<(al:Int)+1:=by omega
  clear hb13 hq9 hqq hql8 hrow r8 hs9
  go_wp2_with fail
  go_quiet ((go_at_call 79;exact Calls.quiet_of (HEQ.o _ (Zaa (Kai _ _) _))))
  go_wp2_with fail
  go_ret
  exact ⟨rfl,Zaa (bnext HB2.o HB13.o) _⟩
theorem look_any (in0 in1:List (List Int)) (B nc:Nat) (NA:Option Addr) (ms:List (ND × NV)) (OV:Value) (A0 A1:Option Addr) (n0 c0 n1 c1 i:Nat) (w:World) (hOV:OV.oneCell'=true) (hr:NdRow w B NA nc ms) (h0:InRow w B A0 n0 c0 in0) (h1:InRow w B A1 n1 c1 in1) (hw:WfD in0 in1 (ms.map Prod.fst)) (hi:i<ms.length) (hl:ms.length≤1000) (hg:ETyped w):
  Calls Tryz.prog 74 #[.agg #[.slice NA ms.length nc,OV,.slice A0 n0 c0,.slice A1 n1 c1],.int .i64 i] w fun e w'=>e=.returned (.bool true)∧Below w.heap.size w w':=by
 have hm:ms[i]?=some ms[i]:=Kad hi
 by_cases h2:(ms[i]).1.kind≤2
 ·exact lookA_any in0 in1 B nc NA ms OV A0 A1 n0 c0 n1 c1 i w hOV hr h0 h1 hw hi hl hg (fun m h=>by rw [hm] at h;injection h with h;rw [←h];exact h2)
 ·exact lookB_any in0 in1 B nc NA ms OV A0 A1 n0 c0 n1 c1 i w hOV hr h0 h1 hw hi hl hg (fun m h=>by rw [hm] at h;injection h with h;rw [←h];omega)
end Go.Proofs.YtghlnncfigkkaaaGreatDoor
