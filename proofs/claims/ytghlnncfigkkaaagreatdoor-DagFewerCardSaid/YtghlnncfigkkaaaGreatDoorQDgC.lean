/-
 dag.words walked.
-/
import Derived.Test.YtghlnncfigkkaaaGreatDoorQDgB
import Derived.Test.YtghlnncfigkkaaaGreatDoorQEvC
import Derived.Test.YtghlnncfigkkaaaGreatDoorQParA
import Derived.Deep.RegionHeld3
import Derived.Deep.RegionLaw
import Derived.Test.YtghlnncfigkkaaaGreatDoorQDgA
set_option maxRecDepth 100000
set_option maxHeartbeats 8000000
open Go.Lib (hid)
set_option linter.unusedVariables false
set_option linter.unusedSimpArgs false
namespace Go.Proofs.YtghlnncfigkkaaaGreatDoor
open Go.RowKit
def TvAt (w:World) (B:Nat) (A:Option Addr) (j:Nat) (x:TN) (p:Value × Value):Prop:=
 ∃ b o A1 c1 A2 c2,A=some ⟨b,o,none⟩∧b<B∧p=(.slice A1 x.sh.length c1,.slice A2 x.el.length c2)∧w.cell? ⟨b,o+j*2,none⟩=some (.slice A1 x.sh.length c1)∧w.cell? ⟨b,o+j*2+1,none⟩=some (.slice A2 x.el.length c2) ∧
  Rd w B A1 (x.sh.map VI)∧x.sh.length≤c1∧c1≤9223372036854775807∧Rd w B A2 (x.el.map U)∧x.el.length≤c2∧c2≤9223372036854775807
theorem RdTN.vals {w:World} {B:Nat} {A:Option Addr} {l:List TN} (h:RdTN w B A l):∃ V:Nat→Value × Value,∀ j x,l[j]?=some x→TvAt w B A j x (V j):=by
 have:∀ j,∃ p:Value × Value,∀ x,l[j]?=some x→TvAt w B A j x p:=by
  intro j
  cases hx:l[j]? with
  | none=>exact ⟨(.bool false,.bool false),fun x h=>by cases h⟩
  | some x=>
   obtain ⟨b,o,hA,hb,⟨A1,c1,e1,r1,_,k1,k2⟩,A2,c2,e2,r2,_,k3,k4⟩:=h.at_ hx
   exact ⟨(.slice A1 x.sh.length c1,.slice A2 x.el.length c2),fun y hy=>by injection hy with hy;subst hy;exact ⟨b,o,A1,c1,A2,c2,hA,hb,rfl,e1,e2,r1,k1,k2,r2,k3,k4⟩⟩
 exact ⟨fun j=>(this j).choose,fun j x hx=>(this j).choose_spec x hx⟩
def stJ (xs:List TN) (V:Nat→Value × Value) (j:Nat):SI × Value:=(⟨1,0,nmT j,(xs.getD j zTN).sh,0,0⟩,(V j).1)
def exJ (j:Nat):EI × Value:=(⟨2,nmT j,0,[],0⟩,.slice none 0 0)
def sX (xs:List TN) (V:Nat→Value × Value) (i:Nat):List Value:=(List.range i).flatMap fun j=>siC (stJ xs V j)
def eX (i:Nat):List Value:=(List.range i).flatMap fun j=>eiC (exJ j)
def iX (V:Nat→Value × Value) (i:Nat):List Value:=(List.range i).flatMap fun j=>[(V j).1,(V j).2]
def aX (i:Nat):List Value:=(List.range i).map VNt
theorem sX_succ (xs:List TN) (V:Nat→Value × Value) (i:Nat):sX xs V (i+1)=sX xs V i++siC (stJ xs V i):=by unfold sX;rw [List.range_succ,List.flatMap_append];simp
theorem eX_succ (i:Nat):eX (i+1)=eX i++eiC (exJ i):=by unfold eX;rw [List.range_succ,List.flatMap_append];simp
theorem iX_succ (V:Nat→Value × Value) (i:Nat):iX V (i+1)=iX V i++[(V i).1,(V i).2]:=by unfold iX;rw [List.range_succ,List.flatMap_append];simp
theorem aX_succ (i:Nat):aX (i+1)=aX i++[VNt i]:=by unfold aX;rw [List.range_succ,List.map_append];simp
def tyS (W0 w:World) (BR tb ib eb kd num:Nat) (xs:List TN) (V:Nat→Value × Value) (i:Nat):Prop:=∃ SA sc EA ec IA ic AA ac,TyS W0 w BR tb ib eb kd num SA sc i (sX xs V i) EA ec i (eX i) IA ic i (iX V i) AA ac i (aX i)
theorem rdSI_row {w:World} {B n c:Nat} {A:Option Addr} {ms:List (SI × Value)} (h:w.ownsRow B 93 6 (.slice A n c) n (ms.flatMap siC)) (hn:n=ms.length)
  (ha:∀ m∈ms,∃ A' c',m.2=.slice A' m.1.shape.length c'∧Rd w w.heap.size A' (m.1.shape.map VI)∧m.1.shape.length≤9223372036854775807∧m.1.shape.length≤c'∧c'≤9223372036854775807):RdSI w w.heap.size A (ms.map Prod.fst):=by
 subst hn
 by_cases hl:ms=[]
 ·subst hl
  exact .inl rfl
 ·obtain ⟨g,hA,hg,_,hc⟩:=Zbm h (List.length_pos_iff.2 hl)
  refine .inr ⟨g,0,hA,hg,fun i x hx => ?_⟩
  rw [Kal,Option.map_eq_some_iff] at hx
  obtain ⟨m,hm,rfl⟩:=hx
  have key:∀ j v,(siC m)[j]?=some v→j<6→w.cell? ⟨g,0+i*6+j,none⟩=some v:=fun j v hv hj=>by
   rw [Nat.zero_add]
   exact hc _ v ((Zaq siC 6 (fun _=>rfl) ms i j m hm hj).trans hv)
  obtain ⟨A',c',e1,e2⟩:=ha m (Kam hm)
  exact ⟨key 0 _ rfl (by omega),key 1 _ rfl (by omega),key 2 _ rfl (by omega),⟨A',c',by rw [←e1];exact key 3 _ rfl (by omega),e2⟩,key 4 _ rfl (by omega),key 5 _ rfl (by omega)⟩
theorem rdEI_row {w:World} {B n c:Nat} {A:Option Addr} {ms:List (EI × Value)} (h:w.ownsRow B 90 5 (.slice A n c) n (ms.flatMap eiC)) (hn:n=ms.length)
  (ha:∀ m∈ms,∃ A' c',m.2=.slice A' m.1.args.length c'∧Rd w w.heap.size A' (m.1.args.map VI)∧m.1.args.length≤9223372036854775807∧m.1.args.length≤c'∧c'≤9223372036854775807):RdEI w w.heap.size A (ms.map Prod.fst):=by
 subst hn
 by_cases hl:ms=[]
 ·subst hl
  exact .inl rfl
 ·obtain ⟨g,hA,hg,_,hc⟩:=Zbm h (List.length_pos_iff.2 hl)
  refine .inr ⟨g,0,hA,hg,fun i x hx => ?_⟩
  rw [Kal,Option.map_eq_some_iff] at hx
  obtain ⟨m,hm,rfl⟩:=hx
  have key:∀ j v,(eiC m)[j]?=some v→j<5→w.cell? ⟨g,0+i*5+j,none⟩=some v:=fun j v hv hj=>by
   rw [Nat.zero_add]
   exact hc _ v ((Zaq eiC 5 (fun _=>rfl) ms i j m hm hj).trans hv)
  obtain ⟨A',c',e1,e2⟩:=ha m (Kam hm)
  exact ⟨key 0 _ rfl (by omega),key 1 _ rfl (by omega),key 2 _ rfl (by omega),⟨A',c',by rw [←e1];exact key 3 _ rfl (by omega),e2⟩,key 4 _ rfl (by omega)⟩
theorem rdTN_row {w:World} {B n c:Nat} {A:Option Addr} {V:Nat→Value × Value} {xs:List TN} (h:w.ownsRow B 43 2 (.slice A n c) n (iX V n)) (hn:n=xs.length) (ha:∀ j x,xs[j]?=some x→∃ A1 c1 A2 c2,V j=(.slice A1 x.sh.length c1,.slice A2 x.el.length c2) ∧
  Rd w w.heap.size A1 (x.sh.map VI)∧x.sh.length≤c1∧c1≤9223372036854775807∧Rd w w.heap.size A2 (x.el.map U)∧x.el.length≤c2∧c2≤9223372036854775807):RdTN w w.heap.size A xs:=by
 by_cases hl:xs=[]
 ·exact .inl hl
 ·obtain ⟨g,hA,hg,_,hc⟩:=Zbm h (by rw [hn];exact List.length_pos_iff.2 hl)
  refine .inr ⟨g,0,hA,hg,fun i x hx => ?_⟩
  have hlt:i<n:=by rw [hn];exact (Kaf.1 hx).1
  obtain ⟨A1,c1,A2,c2,hv,r1,r2,r3,r4,r5,r6⟩:=ha i x hx
  have key:∀ j v,([(V i).1,(V i).2]:List Value)[j]?=some v→j<2→w.cell? ⟨g,i*2+j,none⟩=some v:=fun j v hv hj=>by
   refine hc _ v ?_
   unfold iX
   exact (Zaq (fun j=>[(V j).1,(V j).2]) 2 (fun _=>rfl) (List.range n) i j i (by rw [List.getElem?_range hlt]) hj).trans hv
  have k0:=key 0 _ rfl (by omega)
  have k1:=key 1 _ rfl (by omega)
  rw [hv] at k0 k1
  refine ⟨⟨A1,c1,by rw [Nat.zero_add];exact k0,r1,by omega,r2,r3⟩,A2,c2,by rw [Nat.zero_add];exact k1,r4,by omega,r5,r6⟩
theorem tinyI_range:∀ (xs:List TN) (i:Nat),tinyI i xs=(List.range xs.length).map fun j=>(⟨1,0,nmT (i+j),(xs.getD j zTN).sh,0,0⟩:SI)
 | [],i=>rfl
 | x::r,i=>by
  unfold tinyI
  rw [tinyI_range r (i+1),List.length_cons,List.range_succ_eq_map,List.map_cons,List.map_map]
  refine List.cons_eq_cons.2 ⟨rfl,List.map_congr_left fun j _ => ?_⟩
  show _=(⟨1,0,nmT (i+(j+1)),(((x::r).getD (j+1) zTN)).sh,0,0⟩:SI)
  rw [show i+(j+1)=i+1+j by omega]
  rfl
def letC (n:Nat):SI × Value:=(⟨2,0,zNm,[],n,0⟩,.slice none 0 0)
def outC:SI × Value:=(⟨3,0,zNm,[],0,0⟩,.slice none 0 0)
theorem tinyS_len (xs:List TN):(tinyS xs).length=xs.length+2:=by
 unfold tinyS
 rw [tinyI_range]
 simp
theorem tinyE_len (k num m:Nat):(tinyE k num m).length=m+1:=by simp [tinyE,tinyN]
theorem sh_small {s:List Int} (h:Zad s≠0):s.length≤2:=by
 by_cases hl:2<s.length
 ·exfalso
  apply h
  unfold Zad
  split <;> first | rfl | rw [if_pos hl]
 ·omega
theorem tinyS_small {xs:List TN} (ho:∀ t∈xs,TnOk t):∀ s∈tinyS xs,s.shape.length≤1000000:=by
 intro s hs
 unfold tinyS at hs
 rw [tinyI_range] at hs
 rcases List.mem_append.1 hs with hs | hs
 ·obtain ⟨j,hj,rfl⟩:=List.mem_map.1 hs
  have hj':j<xs.length:=List.mem_range.1 hj
  have hg:xs.getD j zTN=xs[j]:=by simp [List.getD_eq_getElem?_getD,hj']
  show (xs.getD j zTN).sh.length≤_
  rw [hg]
  have:=sh_small (ho _ (List.getElem_mem hj')).1
  omega
 ·simp at hs
  rcases hs with rfl | rfl <;> simp
theorem tinyE_num {k num m b:Nat} (h:num≤b):∀ e∈tinyE k num m,e.num≤b:=by
 intro e he
 unfold tinyE tinyN at he
 rcases List.mem_append.1 he with he | he
 ·obtain ⟨j,_,rfl⟩:=List.mem_map.1 he
  exact Nat.zero_le _
 ·rw [List.mem_singleton.1 he]
  exact h
theorem TyS.done {w W:World} {BR tb ib eb kd kk nx:Nat} {xs:List TN} {V:Nat→Value × Value} {AX:Option Addr} {SA:Option Addr} {sc:Nat} {EA:Option Addr} {ec:Nat} {IA:Option Addr} {ic:Nat} {AA:Option Addr} {ac:Nat}
  (hx:nx=xs.length) (hn3:nx≤3) (hV:∀ j x,xs[j]?=some x→TvAt w w.heap.size AX j x (V j))
  (h:TyS w W BR tb ib eb kd kk SA sc (nx+2) (sX xs V nx++(siC (letC nx)++siC outC)) EA ec (nx+1) (eX nx++[.int .i64 kd,.string ⟨#[]⟩,.int .u64 kk,.slice AA nx ac,.int .i64 0]) IA ic nx (iX V nx) AA ac nx (aX nx)):
  RdSI W W.heap.size SA (tinyS xs)∧RdEI W W.heap.size EA (tinyE kd kk nx)∧RdTN W W.heap.size IA xs:=by
 have hb:=h.bel
 refine ⟨?_,?_,?_⟩
 ·have e:tinyS xs=((List.range nx).map (stJ xs V)++[letC nx,outC]).map Prod.fst:=by
   unfold tinyS
   rw [tinyI_range,List.map_append,List.map_map,hx]
   rw [List.map_congr_left (g:=Prod.fst ∘ stJ xs V) (fun j _=>by
    show (⟨1,0,nmT (0+j),(xs.getD j zTN).sh,0,0⟩:SI)=⟨1,0,nmT j,(xs.getD j zTN).sh,0,0⟩
    rw [Nat.zero_add])]
   rfl
  rw [e]
  have e2:((List.range nx).map (stJ xs V)++[letC nx,outC]).flatMap siC=sX xs V nx++(siC (letC nx)++siC outC):=by
   unfold sX
   rw [List.flatMap_append,List.flatMap_map]
   simp
  refine rdSI_row (B:=BR) (n:=nx+2) (c:=sc) (by rw [e2];exact h.rs) (by simp) fun m hm => ?_
  rcases List.mem_append.1 hm with hm | hm
  ·obtain ⟨j,hj,rfl⟩:=List.mem_map.1 hm
   have hj':j<xs.length:=by rw [←hx];exact List.mem_range.1 hj
   obtain ⟨b,o,A1,c1,A2,c2,_,_,hp,_,_,r1,r2,r3,_⟩:=hV j _ (Kad hj')
   have hg:xs.getD j zTN=xs[j]:=by simp [List.getD_eq_getElem?_getD,hj']
   refine ⟨A1,c1,?_,?_,?_,?_,r3⟩
   ·show (V j).1=_
    rw [hp]
    show _=Value.slice A1 (xs.getD j zTN).sh.length c1
    rw [hg]
   ·show Rd W W.heap.size A1 ((xs.getD j zTN).sh.map VI)
    rw [hg]
    exact r1.next hb
   ·show (xs.getD j zTN).sh.length≤_
    rw [hg]
    omega
   ·show (xs.getD j zTN).sh.length≤_
    rw [hg]
    exact r2
  ·have:m=letC nx∨m=outC:=by simpa using hm
   rcases this with rfl | rfl
   ·exact ⟨none,0,rfl,Rd.nil _ _ _,by simp [letC],by simp [letC],by omega⟩
   ·exact ⟨none,0,rfl,Rd.nil _ _ _,by simp [outC],by simp [outC],by omega⟩
 ·have e:tinyE kd kk nx=((List.range nx).map exJ++[((⟨kd,⟨#[]⟩,kk,(List.range nx).map Int.ofNat,0⟩:EI),Value.slice AA nx ac)]).map Prod.fst:=by
   unfold tinyE tinyN
   rw [List.map_append,List.map_map]
   rfl
  rw [e]
  have e2:((List.range nx).map exJ++[((⟨kd,⟨#[]⟩,kk,(List.range nx).map Int.ofNat,0⟩:EI),Value.slice AA nx ac)]).flatMap eiC=eX nx++[.int .i64 kd,.string ⟨#[]⟩,.int .u64 kk,.slice AA nx ac,.int .i64 0]:=by
   unfold eX
   rw [List.flatMap_append,List.flatMap_map]
   simp [eiC]
  refine rdEI_row (B:=BR) (n:=nx+1) (c:=ec) (by rw [e2];exact h.re) (by simp) fun m hm => ?_
  rcases List.mem_append.1 hm with hm | hm
  ·obtain ⟨j,hj,rfl⟩:=List.mem_map.1 hm
   exact ⟨none,0,rfl,Rd.nil _ _ _,by simp [exJ],by simp [exJ],by omega⟩
  ·rw [List.mem_singleton.1 hm]
   have ho:Own W BR 3 AA ac (aX nx):=by
    have hl:(aX nx).length=nx:=by simp [aX]
    unfold Own
    rw [hl]
    exact h.ra
   have hk:=own_capsN ho
   have hl:(aX nx).length=nx:=by simp [aX]
   rw [hl] at hk
   refine ⟨AA,ac,by simp,?_,by simp;omega,by simpa using hk.1,hk.2⟩
   have hr:=ho.rd
   unfold aX at hr
   rw [vnt_map] at hr
   exact hr
 ·refine rdTN_row (B:=BR) (n:=nx) (c:=ic) h.ri hx fun j x hj => ?_
  obtain ⟨b,o,A1,c1,A2,c2,_,_,hp,_,_,r1,r2,r3,r4,r5,r6⟩:=hV j x hj
  exact ⟨A1,c1,A2,c2,hp,r1.next hb,r2,r3,r4.next hb,r5,r6⟩
theorem alloc_below (w:World) (o:Obj):Below w.heap.size w (w.alloc o):=(Kai _ _).alloc (Kag _) _
theorem words_any (m:ND × NV) (xs:List TN) (AX:Option Addr) (nx cx:Nat) (w:World) (hx:nx=xs.length) (hr:RdTN w w.heap.size AX xs) (hg:ETyped w) (hk:3≤m.1.kind∧m.1.kind≤14) (hk63:m.1.k≤63)
  (hl:(xs.length:Int)=madeP m.1.kind) (ho:∀ t∈xs,TnOk t) (hs:Zad m.1.shape≠0) (hsh:Zab m.1.kind m.1.k (xs.map TN.sh)=(m.1.shape,true)):
  Calls Tryz.prog 80 #[ndA m,.slice AX nx cx] w fun e w'=>∃ A n c,e=.returned (.slice A n c)∧n=(Zbc m.1.kind m.1.k (Zad m.1.shape).toNat xs).length∧Own w' w.heap.size 39 A c ((Zbc m.1.kind m.1.k (Zad m.1.shape).toNat xs).map U)∧Below w.heap.size w w':=by
 obtain ⟨V,hV⟩:=hr.vals
 have HEV:=hid (tiny_eval hk hl ho hs hsh)
 obtain ⟨WS,hWS⟩:∃ l,l=Zbc m.1.kind m.1.k (Zad m.1.shape).toNat xs:=⟨_,rfl⟩
 rw [←hWS] at HEV ⊢
 have hnx:nx≤3:=by
  rw [hx]
  unfold madeP at hl
  split at hl
  ·omega
  ·split at hl
   ·omega
   ·split at hl
    ·omega
    ·split at hl
     ·omega
     ·omega
 obtain ⟨⟨kd,sh,ar,pa,ip,kk,el⟩,⟨sv,av,ev⟩⟩:=m
 dsimp only at hk hk63 hl hs hsh HEV
 have HX:=hid hx
 have HV:=hid hV
 have HG:=hid hg
 have HEX:=hid (fun W=>exprOf_any kd hk W)
 have HSM:=hid (show ∀ s∈tinyS xs,s.shape.length≤1000000 from tinyS_small ho)
 have HNUM:=hid (show ∀ e∈tinyE kd kk nx,e.num≤18446744073709551615 from tinyE_num (by omega))
 rw [←hx] at HEV
 unfold ndA
 dsimp only
 clear hx hV hg hr hWS hl ho hs hsh
 go_enter Tryz.func80,Tryz.ntmps80
 obtain ⟨w3,hw3⟩:∃ w3,w3=((w.alloc (.cells #[.int .i64 kd,sv,av,.int .i64 pa,.int .i64 ip,.int .i64 kk,ev] 77)).alloc (.cells #[.slice none 0 0,.slice none 0 0] 26)).alloc (.cells #[.slice none 0 0,.slice none 0 0] 45):=⟨_,rfl⟩
 go_upto_region 3 with fail
 rw [←hw3]
 have hb3:Below w.heap.size w w3:=by rw [hw3];exact (((Kai _ _).alloc (Kag _) _).alloc (by simp) _).alloc (by simp;omega) _
 have hz3:w3.heap.size=w.heap.size+3:=by rw [hw3];simp
 have hN:w3.heap[w.heap.size]?=some (.cells #[.int .i64 kd,sv,av,.int .i64 pa,.int .i64 ip,.int .i64 kk,ev] 77 (0,0)):=by
  rw [hw3,Below.heap_alloc _ _ _ (by simp;omega),Below.heap_alloc _ _ _ (by simp)];exact Kac w _
 have hT:w3.heap[w.heap.size+1]?=some (.cells #[.slice none 0 0,.slice none 0 0] 26 (0,0)):=by
  rw [hw3,Below.heap_alloc _ _ _ (by simp)]
  have:=Kac (w.alloc (.cells #[.int .i64 kd,sv,av,.int .i64 pa,.int .i64 ip,.int .i64 kk,ev] 77)) (.cells #[.slice none 0 0,.slice none 0 0] 26)
  rwa [World.size_alloc] at this
 have hI:w3.heap[w.heap.size+1+1]?=some (.cells #[.slice none 0 0,.slice none 0 0] 45 (0,0)):=by
  rw [hw3]
  have:=Kac ((w.alloc (.cells #[.int .i64 kd,sv,av,.int .i64 pa,.int .i64 ip,.int .i64 kk,ev] 77)).alloc (.cells #[.slice none 0 0,.slice none 0 0] 26)) (.cells #[.slice none 0 0,.slice none 0 0] 45)
  rwa [World.size_alloc,World.size_alloc] at this
 obtain ⟨nb,hnb⟩:∃ b,b=w.heap.size:=⟨_,rfl⟩
 rw [←hnb] at hN hT hI ⊢
 obtain ⟨tb,htb⟩:∃ t,t=nb+1:=⟨_,rfl⟩
 rw [←htb] at hT hI ⊢
 obtain ⟨ib,hib⟩:∃ t,t=tb+1:=⟨_,rfl⟩
 rw [←hib] at hI ⊢
 have HC:=hid (show ∀ W,Below w3.heap.size w3 W→W.cell? ⟨nb,0,none⟩=some (.int .i64 kd)∧W.cell? ⟨nb,5,none⟩=some (.int .i64 kk) from fun W hW=>by
  have h:=(hW.block _ (Kab.1 hN).1).trans hN
  exact ⟨Kaa _ _ 0 _ _ _ h,Kaa _ _ 5 _ _ _ h⟩)
 have HNB:=hid hnb
 have HB3:=hid hb3
 have HT:=hid hT
 have HI:=hid hI
 have HTB:=hid (show w.heap.size≤tb∧tb<w3.heap.size from by rw [hz3];omega)
 have HIB:=hid (show w.heap.size≤ib∧ib<w3.heap.size∧tb≠ib from by rw [hz3];omega)
 have hkw:IntKind.u64.wrap (kk:Int)=kk:=by simp [IntKind.wrap,IntKind.bits,IntKind.signed];omega
 clear hw3 hb3 hz3 hN hT hI hnb htb hib
 go_cut [7] (fun p wx=>∃ eb,p=.pointer (some ⟨eb,0,none⟩)∧w3.heap.size≤eb∧wx.heap[eb]?=some (.cells #[.int .i64 kd,.string ⟨#[]⟩,.int .u64 kk,.slice none 0 0,.int .i64 0] 90 (0,0))∧Below w3.heap.size w3 wx)
 case first=>
  refine wp_region_held_drew (S:=(fun w'=>w'.cell? ⟨nb,0,none⟩=some (.int .i64 kd)∧w'.cell? ⟨nb,5,none⟩=some (.int .i64 kk))) (by kernel_rfl) (HC.out _ (Kai _ _).drew) (fun hHeld => ?_)
  obtain ⟨wd,hwd⟩:∃ wd,wd=w3.drew:=⟨_,rfl⟩
  rw [←hwd] at hHeld ⊢
  have BD:=hid (show Below w3.heap.size w3 wd from by rw [hwd];exact (Kai _ _).drew)
  clear hwd
  refine tk 0 ?_
  simp only [tkS]
  refine tk 1 ?_
  simp only [tkS]
  refine tk 3 ?_
  simp only [tkS]
  refine tk 4 ?_
  simp only [tkS]
  refine tk 5 ?_
  simp only [tkS]
  refine wpAnyH_ready (rs:=[2,7]) (by kernel_rfl) (by simp) ?_
  refine AllReadyH.cons (o:=_) rfl (fun K hK => ?_) (AllReadyH.cons (o:=_) rfl (fun K hK => ?_) (AllReadyH.nil))
  ·go_simp
   go_at_call 117
   refine (HEX.out wd).mono ?_
   rintro e w' ⟨rfl,rfl⟩
   refine hK.out _ _ hHeld (fun hHeld => ?_)
   clear hK K
   try simp only [tkS]
   refine tk 6 ?_
   simp only [tkS]
   refine wpAnyH_ready (rs:=[7]) (by kernel_rfl) (by simp) ?_
   refine AllReadyH.cons (o:=_) rfl (fun K hK => ?_) (AllReadyH.nil)
   go_simp
   obtain ⟨wa,hwa⟩:∃ wa,wa=wd.alloc (.cells #[.int .i64 0,.string ⟨#[]⟩,.int .u64 0,.slice none 0 0,.int .i64 0] 90):=⟨_,rfl⟩
   obtain ⟨eb,heb⟩:∃ eb,eb=wd.heap.size:=⟨_,rfl⟩
   rw [←hwa,←heb]
   have BA:=hid (show Below w3.heap.size w3 wa from by rw [hwa];exact BD.out.alloc BD.out.size _)
   have HE:=hid (show wa.heap[eb]?=some (.cells #[.int .i64 0,.string ⟨#[]⟩,.int .u64 0,.slice none 0 0,.int .i64 0] 90 (0,0)) from by rw [hwa,heb];exact Kac wd _)
   have HL:=hid (show w3.heap.size≤eb from by rw [heb];exact BD.out.size)
   clear hwa heb
   refine hK.out _ _ (HC.out _ BA.out) (fun hHeld => ?_)
   clear hK K
   try simp only [tkS]
   refine wpAnyH_ready (rs:=[8]) (by kernel_rfl) (by simp) ?_
   refine AllReadyH.cons (o:=_) rfl (fun K hK => ?_) (AllReadyH.nil)
   have d0:=Kaa _ _ 0 _ _ _ HE.out
   have d1:=Kaa _ _ 1 _ _ _ HE.out
   have d2:=Kaa _ _ 2 _ _ _ HE.out
   have d3:=Kaa _ _ 3 _ _ _ HE.out
   have d4:=Kaa _ _ 4 _ _ _ HE.out
   have fz:∀ k,wa.frozen? ⟨eb,k,none⟩=false:=fun k=>by simp [World.frozen?,HE.out]
   go_simp
   obtain ⟨wb,hwb⟩:∃ wb,wb=((((wa.setCell ⟨eb,0,none⟩ (.int .i64 kd)).setCell ⟨eb,1,none⟩ (.string ⟨#[]⟩)).setCell ⟨eb,2,none⟩ (.int .u64 kk)).setCell ⟨eb,3,none⟩ (.slice none 0 0)).setCell ⟨eb,4,none⟩ (.int .i64 0):=⟨_,rfl⟩
   rw [←hwb]
   have HBB:=hid (show Below w3.heap.size w3 wb from by rw [hwb];exact Zaf (Zaf (Zaf (Zaf (Zaf BA.out HL.out _) HL.out _) HL.out _) HL.out _) HL.out _)
   have HEB:=hid (show wb.heap[eb]?=some (.cells #[.int .i64 kd,.string ⟨#[]⟩,.int .u64 kk,.slice none 0 0,.int .i64 0] 90 (0,0)) from by rw [hwb];exact heap_setCell_same _ _ _ _ _ _ (heap_setCell_same _ _ _ _ _ _ (heap_setCell_same _ _ _ _ _ _ (heap_setCell_same _ _ _ _ _ _ (heap_setCell_same _ _ _ _ _ _ HE.out)))))
   clear hwb d0 d1 d2 d3 d4 fz
   refine hK.out _ _ (HC.out _ HBB.out) (fun hHeld => ?_)
   clear hK K
   try simp only [tkS]
   refine wpAnyH_done (by kernel_rfl) ?_ _
   go_wp2_with fail
   go_meet
   exact ⟨eb,rfl,HL.out,HEB.out,HBB.out⟩
  ·go_simp
   obtain ⟨wa,hwa⟩:∃ wa,wa=wd.alloc (.cells #[.int .i64 0,.string ⟨#[]⟩,.int .u64 0,.slice none 0 0,.int .i64 0] 90):=⟨_,rfl⟩
   obtain ⟨eb,heb⟩:∃ eb,eb=wd.heap.size:=⟨_,rfl⟩
   rw [←hwa,←heb]
   have BA:=hid (show Below w3.heap.size w3 wa from by rw [hwa];exact BD.out.alloc BD.out.size _)
   have HE:=hid (show wa.heap[eb]?=some (.cells #[.int .i64 0,.string ⟨#[]⟩,.int .u64 0,.slice none 0 0,.int .i64 0] 90 (0,0)) from by rw [hwa,heb];exact Kac wd _)
   have HL:=hid (show w3.heap.size≤eb from by rw [heb];exact BD.out.size)
   clear hwa heb
   refine hK.out _ _ (HC.out _ BA.out) (fun hHeld => ?_)
   clear hK K
   try simp only [tkS]
   refine wpAnyH_ready (rs:=[2]) (by kernel_rfl) (by simp) ?_
   refine AllReadyH.cons (o:=_) rfl (fun K hK => ?_) (AllReadyH.nil)
   go_simp
   go_at_call 117
   refine (HEX.out wa).mono ?_
   rintro e w' ⟨rfl,rfl⟩
   refine hK.out _ _ hHeld (fun hHeld => ?_)
   clear hK K
   try simp only [tkS]
   refine tk 6 ?_
   simp only [tkS]
   refine wpAnyH_ready (rs:=[8]) (by kernel_rfl) (by simp) ?_
   refine AllReadyH.cons (o:=_) rfl (fun K hK => ?_) (AllReadyH.nil)
   have d0:=Kaa _ _ 0 _ _ _ HE.out
   have d1:=Kaa _ _ 1 _ _ _ HE.out
   have d2:=Kaa _ _ 2 _ _ _ HE.out
   have d3:=Kaa _ _ 3 _ _ _ HE.out
   have d4:=Kaa _ _ 4 _ _ _ HE.out
   have fz:∀ k,wa.frozen? ⟨eb,k,none⟩=false:=fun k=>by simp [World.frozen?,HE.out]
   go_simp
   obtain ⟨wb,hwb⟩:∃ wb,wb=((((wa.setCell ⟨eb,0,none⟩ (.int .i64 kd)).setCell ⟨eb,1,none⟩ (.string ⟨#[]⟩)).setCell ⟨eb,2,none⟩ (.int .u64 kk)).setCell ⟨eb,3,none⟩ (.slice none 0 0)).setCell ⟨eb,4,none⟩ (.int .i64 0):=⟨_,rfl⟩
   rw [←hwb]
   have HBB:=hid (show Below w3.heap.size w3 wb from by rw [hwb];exact Zaf (Zaf (Zaf (Zaf (Zaf BA.out HL.out _) HL.out _) HL.out _) HL.out _) HL.out _)
   have HEB:=hid (show wb.heap[eb]?=some (.cells #[.int .i64 kd,.string ⟨#[]⟩,.int .u64 kk,.slice none 0 0,.int .i64 0] 90 (0,0)) from by rw [hwb];exact heap_setCell_same _ _ _ _ _ _ (heap_setCell_same _ _ _ _ _ _ (heap_setCell_same _ _ _ _ _ _ (heap_setCell_same _ _ _ _ _ _ (heap_setCell_same _ _ _ _ _ _ HE.out)))))
   clear hwb d0 d1 d2 d3 d4 fz
   refine hK.out _ _ (HC.out _ HBB.out) (fun hHeld => ?_)
   clear hK K
   try simp only [tkS]
   refine wpAnyH_done (by kernel_rfl) ?_ _
   go_wp2_with fail
   go_meet
   exact ⟨eb,rfl,HL.out,HEB.out,HBB.out⟩
 case rest=>
  obtain ⟨eb,rfl,he1,he2,he3⟩:=hcut
  obtain ⟨w4,hw4⟩:∃ w4,w4=wc:=⟨_,rfl⟩
  rw [←hw4] at he2 he3 ⊢
  obtain ⟨BR,hBR⟩:∃ b,b=w4.heap.size:=⟨_,rfl⟩
  have HS4:=hid (show tyS w w4 BR tb ib eb kd kk xs V 0 from ⟨none,0,none,0,none,0,none,0,bnext HB3.out he3,Nat.le_of_eq hBR,⟨HTB.out.1,by rw [hBR];exact Kae HTB.out.2 he3.size⟩,⟨HIB.out.1,by rw [hBR];exact Kae HIB.out.2.1 he3.size⟩,⟨Kah HB3.out.size he1,by rw [hBR];exact (Kab.1 he2).1⟩,HIB.out.2.2,by have:=HTB.out.2;omega,by have:=HIB.out.2.1;omega,(he3.block _ HTB.out.2).trans HT.out,(he3.block _ HIB.out.2.1).trans HI.out,he2,World.ownsRow_nil _ _ _ 6,World.ownsRow_nil _ _ _ 5,World.ownsRow_nil _ _ _ 2,World.ownsRow_nil _ _ _ 1⟩)
  clear hw4 he1 he2 he3 hBR
  go_wp2_with fail
  go_loopw [22] (fun iv wr=>∃ i:Nat,i≤nx∧iv=.int .i64 i∧tyS w wr BR tb ib eb kd kk xs V i) (fun iv _=>nx-(intOf iv).toNat)
  case atStart=>exact ⟨0,by omega,rfl,HS4.out⟩
  case round=>
  obtain ⟨i,hi,rfl,SA,sc,EA,ec,IA,ic,AA,ac,hS⟩:=hrel
  have HS:=hid hS
  clear hS
  by_cases hlt:i<nx
  ·have ht:xs[i]?=some (xs[i]'(by rw [←HX.out];exact hlt)):=Kad _
   obtain ⟨x,hxx⟩:∃ x,x=xs[i]'(by rw [←HX.out];exact hlt):=⟨_,rfl⟩
   rw [←hxx] at ht
   obtain ⟨b,o,A1,c1,A2,c2,rfl,hbl,hVi,k0,k1,_⟩:=HV.out i x ht
   obtain ⟨n1,hn1⟩:∃ n,n=x.sh.length:=⟨_,rfl⟩
   obtain ⟨n2,hn2⟩:∃ n,n=x.el.length:=⟨_,rfl⟩
   rw [←hn1,←hn2] at hVi
   rw [←hn1] at k0
   rw [←hn2] at k1
   have HVi:=hid hVi
   have e0:=(HS.out.bel.cell (p:=⟨b,o+i*2,none⟩) hbl).trans k0
   have e1:=(HS.out.bel.cell (p:=⟨b,o+i*2+1,none⟩) hbl).trans k1
   have i0:(0:Int)≤(i:Int):=by omega
   have i1:(i:Int)<(nx:Int):=by omega
   obtain ⟨w6,hw6⟩:∃ w6,w6=wr.alloc (.cells #[.slice A1 n1 c1,.slice A2 n2 c2] 43):=⟨_,rfl⟩
   obtain ⟨ab,hab⟩:∃ ab,ab=wr.heap.size:=⟨_,rfl⟩
   have H6:=hid (show TyS w w6 BR tb ib eb kd kk SA sc i (sX xs V i) EA ec i (eX i) IA ic i (iX V i) AA ac i (aX i) from by rw [hw6];exact HS.out.next (alloc_below _ _))
   have HAB6:=hid (show w6.heap[ab]?=some (.cells #[.slice A1 n1 c1,.slice A2 n2 c2] 43 (0,0)) from by rw [hw6,hab];exact Kac wr _)
   have HABL6:=hid (show ab<w6.heap.size from by rw [hw6,hab];simp)
   have HABG:=hid (show wr.heap.size≤ab from Nat.le_of_eq hab.symm)
   have HABN:=hid (show ab≠tb∧ab≠ib∧ab≠eb from by have h1:=HS.out.b1;have h2:=HS.out.b2;have h3:=HS.out.b3;have h4:=HS.out.br;omega)
   have HNS:=hid (show ∀ q,wr.heap.size≤q→some q≠blk SA from fun q hq e=>by have:=(Zdg HS.out.rs q e.symm).2;omega)
   have HNE:=hid (show ∀ q,wr.heap.size≤q→some q≠blk EA from fun q hq e=>by have:=(Zdg HS.out.re q e.symm).2;omega)
   have HNI:=hid (show ∀ q,wr.heap.size≤q→some q≠blk IA from fun q hq e=>by have:=(Zdg HS.out.ri q e.symm).2;omega)
   have HNA:=hid (show ∀ q,wr.heap.size≤q→some q≠blk AA from fun q hq e=>by have:=(Zdg HS.out.ra q e.symm).2;omega)
   have hw97:IntKind.i64.wrap (97+(i:Int))=97+i:=by simp [IntKind.wrap,IntKind.bits,IntKind.signed];omega
   have hw32:IntKind.i32.wrap (97+(i:Int))=97+i:=by simp [IntKind.wrap,IntKind.bits,IntKind.signed];omega
   have hue:Utf8.encode (97+(i:Int))=nmT i:=by
    rcases (by omega:i=0∨i=1∨i=2) with rfl | rfl | rfl <;> rfl
   have HW6:=hid hw6
   have HABQ:=hid hab
   clear hVi k0 k1 ht hxx hbl hn1 hn2 hw6 hab
   go_upto_region 8 with fail
   rw [←HW6.out,←HABQ.out]
   clear hue hw97 hw32 hkw e0 e1 i0 i1
   have Ka:=hid (H6.out.next (alloc_below w6 (.cells ([.int .i64 1,.int .i64 0,.string (nmT i),.slice A1 n1 c1,.int .i64 0,.int .i64 0]:List Value).toArray 93)))
   obtain ⟨z0,z1,z2,z3,z4,z5,z6,z7,z8⟩:=H6.out.cells
   have za:=Kaa _ _ 0 _ _ _ HAB6.out
   have zb:=Kaa _ _ 1 _ _ _ HAB6.out
   go_upto_region 9 with (at_builtin;(refine appR rfl (.tmp 32) (.tmp 37) 23 93 (.agg #[.int .i64 0,.int .i64 0,.string ⟨#[]⟩,.slice none 0 0,.int .i64 0,.int .i64 0]) 6 72 siI_info Tryz.underlying23 (by decide) rfl (by decide) rfl BR SA sc i (sX xs V i) rfl Ka.out.rs w6.heap.size 1 (by decide) [.int .i64 1,.int .i64 0,.string (nmT i),.slice A1 n1 c1,.int .i64 0,.int .i64 0] rfl rfl (Kac w6 _) (by simp [Value.oneCell']) (by omega) Ka.out.br ?_);intro A7' c7' w7' r7 g7;have hh:=((Ka.out.grow Ka.out.rs g7).2.2.1).trans Ka.out.ht;have dk:=Kaa _ _ 0 _ _ _ hh;have fk:∀ k,w7'.frozen? ⟨tb,k,none⟩=false:=(fun k=>by simp [World.frozen?,hh]);have Kp:=hid (Ka.out.pushS g7 r7);have HAB7:=hid ((g7.block ab (by have:=HABL6.out;simp;omega) (HNS.out ab HABG.out)).trans ((Below.heap_alloc _ _ _ HABL6.out).trans HAB6.out));have HABL7:=hid (Kae HABL6.out (Kah (by simp) g7.size));clear hh r7 g7)
   obtain ⟨w7,hw7⟩:∃ w7,w7=w7'.setCell ⟨tb,0,none⟩ (.slice A7' (i+1) c7'):=⟨_,rfl⟩
   rw [←hw7]
   have H7:=hid (show _ from by have h:=Kp.out;rw [←hw7] at h;exact h)
   have HAB7:=hid (show w7.heap[ab]?=some (.cells #[.slice A1 n1 c1,.slice A2 n2 c2] 43 (0,0)) from by rw [hw7,ZaS _ _ _ (by have:=HABN.out;show ab≠tb;omega)];exact HAB7.out)
   have HABL7:=hid (show ab<w7.heap.size from by rw [hw7];simpa [World.setCell] using HABL7.out)
   clear hw7 dk fk Ka Kp z0 z1 z2 z3 z4 z5 z6 z7 z8 za zb
   have Ka:=hid (H7.out.next (alloc_below w7 (.cells ([.int .i64 2,.string (nmT i),.int .u64 0,.slice none 0 0,.int .i64 0]:List Value).toArray 90)))
   obtain ⟨z0,z1,z2,z3,z4,z5,z6,z7,z8⟩:=H7.out.cells
   have za:=Kaa _ _ 0 _ _ _ HAB7.out
   have zb:=Kaa _ _ 1 _ _ _ HAB7.out
   go_upto_region 10 with (at_builtin;(refine appR rfl (.tmp 41) (.tmp 44) 24 90 (.agg #[.int .i64 0,.string ⟨#[]⟩,.int .u64 0,.slice none 0 0,.int .i64 0]) 5 64 eiI_info Tryz.underlying24 (by decide) rfl (by decide) rfl BR EA ec i (eX i) rfl Ka.out.re w7.heap.size 1 (by decide) [.int .i64 2,.string (nmT i),.int .u64 0,.slice none 0 0,.int .i64 0] rfl rfl (Kac w7 _) (by simp [Value.oneCell']) (by omega) Ka.out.br ?_);intro A8' c8' w8' r8 g8;have hh:=((Ka.out.grow Ka.out.re g8).2.2.1).trans Ka.out.ht;have dk:=Kaa _ _ 1 _ _ _ hh;have fk:∀ k,w8'.frozen? ⟨tb,k,none⟩=false:=(fun k=>by simp [World.frozen?,hh]);have Kp:=hid (Ka.out.pushE g8 r8);have HAB8:=hid ((g8.block ab (by have:=HABL7.out;simp;omega) (HNE.out ab HABG.out)).trans ((Below.heap_alloc _ _ _ HABL7.out).trans HAB7.out));have HABL8:=hid (Kae HABL7.out (Kah (by simp) g8.size));clear hh r8 g8)
   obtain ⟨w8,hw8⟩:∃ w8,w8=w8'.setCell ⟨tb,1,none⟩ (.slice A8' (i+1) c8'):=⟨_,rfl⟩
   rw [←hw8]
   have H8:=hid (show _ from by have h:=Kp.out;rw [←hw8] at h;exact h)
   have HAB8:=hid (show w8.heap[ab]?=some (.cells #[.slice A1 n1 c1,.slice A2 n2 c2] 43 (0,0)) from by rw [hw8,ZaS _ _ _ (by have:=HABN.out;show ab≠tb;omega)];exact HAB8.out)
   have HABL8:=hid (show ab<w8.heap.size from by rw [hw8];simpa [World.setCell] using HABL8.out)
   clear hw8 dk fk Ka Kp z0 z1 z2 z3 z4 z5 z6 z7 z8 za zb
   have Ka:=hid (H8.out.next (alloc_below w8 (.cells ([.slice A1 n1 c1,.slice A2 n2 c2]:List Value).toArray 43)))
   obtain ⟨z0,z1,z2,z3,z4,z5,z6,z7,z8⟩:=H8.out.cells
   have za:=Kaa _ _ 0 _ _ _ HAB8.out
   have zb:=Kaa _ _ 1 _ _ _ HAB8.out
   go_upto_region 11 with (at_builtin;(refine appR rfl (.tmp 48) (.tmp 50) 44 43 (.agg #[.slice none 0 0,.slice none 0 0]) 2 48 ZeW Tryz.underlying44 (by decide) rfl (by decide) rfl BR IA ic i (iX V i) rfl Ka.out.ri w8.heap.size 1 (by decide) [.slice A1 n1 c1,.slice A2 n2 c2] rfl rfl (Kac w8 _) (by simp [Value.oneCell']) (by omega) Ka.out.br ?_);intro A9' c9' w9' r9 g9;have hh:=((Ka.out.grow Ka.out.ri g9).2.2.2.1).trans Ka.out.hi;have dk:=Kaa _ _ 0 _ _ _ hh;have fk:∀ k,w9'.frozen? ⟨ib,k,none⟩=false:=(fun k=>by simp [World.frozen?,hh]);have Kp:=hid (Ka.out.pushI g9 r9);have HAB9:=hid ((g9.block ab (by have:=HABL8.out;simp;omega) (HNI.out ab HABG.out)).trans ((Below.heap_alloc _ _ _ HABL8.out).trans HAB8.out));have HABL9:=hid (Kae HABL8.out (Kah (by simp) g9.size));clear hh r9 g9)
   obtain ⟨w9,hw9⟩:∃ w9,w9=w9'.setCell ⟨ib,0,none⟩ (.slice A9' (i+1) c9'):=⟨_,rfl⟩
   rw [←hw9]
   have H9:=hid (show _ from by have h:=Kp.out;rw [←hw9] at h;exact h)
   have HAB9:=hid (show w9.heap[ab]?=some (.cells #[.slice A1 n1 c1,.slice A2 n2 c2] 43 (0,0)) from by rw [hw9,ZaS _ _ _ (by have:=HABN.out;show ab≠ib;omega)];exact HAB9.out)
   have HABL9:=hid (show ab<w9.heap.size from by rw [hw9];simpa [World.setCell] using HABL9.out)
   clear hw9 dk fk Ka Kp z0 z1 z2 z3 z4 z5 z6 z7 z8 za zb
   have Ka:=hid (H9.out.next (alloc_below w9 (.cells ([.int .i64 (i:Int)]:List Value).toArray 3)))
   obtain ⟨z0,z1,z2,z3,z4,z5,z6,z7,z8⟩:=H9.out.cells
   have za:=Kaa _ _ 0 _ _ _ HAB9.out
   have zb:=Kaa _ _ 1 _ _ _ HAB9.out
   go_upto_region 12 with (at_builtin;(refine appR rfl (.tmp 54) (.tmp 56) 41 3 (.int .i64 0) 1 8 ZcB Tryz.underlying41 (by decide) rfl (by decide) rfl BR AA ac i (aX i) rfl Ka.out.ra w9.heap.size 1 (by decide) [.int .i64 (i:Int)] rfl rfl (Kac w9 _) (by simp [Value.oneCell']) (by omega) Ka.out.br ?_);intro A10' c10' w10' r10 g10;have hh:=((Ka.out.grow Ka.out.ra g10).2.2.2.2).trans Ka.out.he;have dk:=Kaa _ _ 3 _ _ _ hh;have fk:∀ k,w10'.frozen? ⟨eb,k,none⟩=false:=(fun k=>by simp [World.frozen?,hh]);have Kp:=hid (Ka.out.pushA g10 r10);have HAB10:=hid ((g10.block ab (by have:=HABL9.out;simp;omega) (HNA.out ab HABG.out)).trans ((Below.heap_alloc _ _ _ HABL9.out).trans HAB9.out));have HABL10:=hid (Kae HABL9.out (Kah (by simp) g10.size));clear hh r10 g10)
   obtain ⟨w10,hw10⟩:∃ w10,w10=w10'.setCell ⟨eb,3,none⟩ (.slice A10' (i+1) c10'):=⟨_,rfl⟩
   rw [←hw10]
   have H10:=hid (show _ from by have h:=Kp.out;rw [←hw10] at h;exact h)
   have HAB10:=hid (show w10.heap[ab]?=some (.cells #[.slice A1 n1 c1,.slice A2 n2 c2] 43 (0,0)) from by rw [hw10,ZaS _ _ _ (by have:=HABN.out;show ab≠eb;omega)];exact HAB10.out)
   have HABL10:=hid (show ab<w10.heap.size from by rw [hw10];simpa [World.setCell] using HABL10.out)
   clear hw10 dk fk Ka Kp z0 z1 z2 z3 z4 z5 z6 z7 z8 za zb
   have HSF:=hid (show tyS w w10 BR tb ib eb kd kk xs V (i+1) from ⟨A7',c7',A8',c8',A9',c9',A10',c10',by
    have h:=H10.out
    have e1:sX xs V (i+1)=sX xs V i++[.int .i64 1,.int .i64 0,.string (nmT i),.slice A1 n1 c1,.int .i64 0,.int .i64 0]:=by
     rw [sX_succ]
     unfold siC stJ
     rw [HVi.out]
    have e2:eX (i+1)=eX i++[.int .i64 2,.string (nmT i),.int .u64 0,.slice none 0 0,.int .i64 0]:=eX_succ i
    have e3:iX V (i+1)=iX V i++[.slice A1 n1 c1,.slice A2 n2 c2]:=by
     rw [iX_succ,HVi.out]
    have e4:aX (i+1)=aX i++[.int .i64 (i:Int)]:=aX_succ i
    rw [e1,e2,e3,e4]
    exact h⟩)
   go_wp2_with fail
   exact ⟨⟨i+1,by omega,rfl,HSF.out⟩,by simp [intOf];omega⟩
  ·obtain rfl:nx=i:=by omega
   have Ka:=hid (HS.out.next (alloc_below wr (.cells ([.int .i64 kd,.string ⟨#[]⟩,.int .u64 kk,.slice AA nx ac,.int .i64 0]:List Value).toArray 90)))
   obtain ⟨z0,z1,z2,z3,z4,z5,z6,z7,z8⟩:=HS.out.cells
   clear hkw
   go_upto_region 14 with (at_builtin;(refine appR rfl (.tmp 61) (.tmp 63) 24 90 (.agg #[.int .i64 0,.string ⟨#[]⟩,.int .u64 0,.slice none 0 0,.int .i64 0]) 5 64 eiI_info Tryz.underlying24 (by decide) rfl (by decide) rfl BR EA ec nx (eX nx) rfl Ka.out.re wr.heap.size 1 (by decide) [.int .i64 kd,.string ⟨#[]⟩,.int .u64 kk,.slice AA nx ac,.int .i64 0] rfl rfl (Kac wr _) (by simp [Value.oneCell']) (by omega) Ka.out.br ?_);intro A11' c11' w11' r11 g11;have hh:=((Ka.out.grow Ka.out.re g11).2.2.1).trans Ka.out.ht;have dk:=Kaa _ _ 1 _ _ _ hh;have fk:∀ k,w11'.frozen? ⟨tb,k,none⟩=false:=(fun k=>by simp [World.frozen?,hh]);have Kp:=hid (Ka.out.pushE g11 r11);clear hh r11 g11)
   obtain ⟨w11,hw11⟩:∃ w11,w11=w11'.setCell ⟨tb,1,none⟩ (.slice A11' (nx+1) c11'):=⟨_,rfl⟩
   rw [←hw11]
   have H11:=hid (show _ from by have h:=Kp.out;rw [←hw11] at h;exact h)
   clear hw11 dk fk Ka Kp z0 z1 z2 z3 z4 z5 z6 z7 z8
   have Ka:=hid (H11.out.next (alloc_below w11 (.cells ([.int .i64 2,.int .i64 0,.string zNm,.slice none 0 0,.int .i64 (nx:Int),.int .i64 0,.int .i64 3,.int .i64 0,.string zNm,.slice none 0 0,.int .i64 0,.int .i64 0]:List Value).toArray 93)))
   obtain ⟨z0,z1,z2,z3,z4,z5,z6,z7,z8⟩:=H11.out.cells
   go_upto_region 15 with (at_builtin;(refine appR rfl (.tmp 67) (.tmp 72) 23 93 (.agg #[.int .i64 0,.int .i64 0,.string ⟨#[]⟩,.slice none 0 0,.int .i64 0,.int .i64 0]) 6 72 siI_info Tryz.underlying23 (by decide) rfl (by decide) rfl BR SA sc nx (sX xs V nx) rfl Ka.out.rs w11.heap.size 2 (by decide) [.int .i64 2,.int .i64 0,.string zNm,.slice none 0 0,.int .i64 (nx:Int),.int .i64 0,.int .i64 3,.int .i64 0,.string zNm,.slice none 0 0,.int .i64 0,.int .i64 0] rfl rfl (Kac w11 _) (by simp [Value.oneCell']) (by omega) Ka.out.br ?_);intro A12' c12' w12' r12 g12;have hh:=((Ka.out.grow Ka.out.rs g12).2.2.1).trans Ka.out.ht;have dk:=Kaa _ _ 0 _ _ _ hh;have fk:∀ k,w12'.frozen? ⟨tb,k,none⟩=false:=(fun k=>by simp [World.frozen?,hh]);have Kp:=hid (Ka.out.pushS g12 r12);clear hh r12 g12)
   obtain ⟨w12,hw12⟩:∃ w12,w12=w12'.setCell ⟨tb,0,none⟩ (.slice A12' (nx+2) c12'):=⟨_,rfl⟩
   rw [←hw12]
   have H12:=hid (show _ from by have h:=Kp.out;rw [←hw12] at h;exact h)
   clear hw12 dk fk Ka Kp z0 z1 z2 z3 z4 z5 z6 z7 z8
   obtain ⟨z0,z1,z2,z3,z4,z5,z6,z7,z8⟩:=H12.out.cells
   obtain ⟨rS,rE,rT⟩:=TyS.done HX.out hnx HV.out H12.out
   have HEVAL:=Zf6 A12' A11' (nx+2) (nx+1) c12' c11' (tinyS xs) (tinyE kd kk nx) IA none nx 0 ic 0 xs [] w12 (by rw [tinyS_len,←HX.out]) (by rw [tinyE_len]) (by omega) (by omega) rS rE (HG.out.next H12.out.bel) HNUM.out HSM.out HX.out rfl (by omega) (by omega) rT (.inl rfl)
   rw [HEV.out] at HEVAL
   have HEVAL:=hid HEVAL
   clear rS rE rT
   go_wp2_with fail
   refine HEVAL.out.mono ?_
   rintro e w13 ⟨b13,A13,c13,rfl,o13⟩
   obtain ⟨g,A1,c1,A2,c2,hA,hg,k0,k1,p1,p2⟩:=o13.at_ (j:=0) (x:=⟨sh,WS⟩) rfl
   obtain ⟨nW,hnW⟩:∃ n,n=WS.length:=⟨_,rfl⟩
   have k1':w13.cell? ⟨g,1,none⟩=some (.slice A2 nW c2):=by rw [hnW];simpa using k1
   have HP2:=hid p2
   have HB13:=hid (bnext H12.out.bel b13)
   have HWL:=hid hnW
   have HBS:=hid H12.out.bel.size
   subst hA
   clear o13 hg k0 k1 p1 p2 b13 hnW z0 z1 z2 z3 z4 z5 z6 z7 z8
   go_wp2_with fail
   go_ret
   exact ⟨A2,nW,c2,rfl,HWL.out,HP2.out.more HBS.out,HB13.out⟩
theorem wp_appTn {X:Nat→Prop} {W0 w:World} {o:Oper} {a:Act} {K:Act→World→Prop} {Q:Exit→Act→World→Prop} (s x:Operand)
  (ho:o.op=.call { callee:=.builtin .append,args:=#[s,x],argTypes:=#[44,44] }) (B:Nat)
  (A:Option Addr) (cap n:Nat) (l:List TN) (hs:a.eval s=.slice A n cap) (hown:OwnTn X W0 w B A n cap l)
  (g2:Nat) (hx:a.eval x=.slice (some ⟨g2,0,none⟩) 1 1) (p:Value × Value) (t:TN) (hb:w.heap[g2]?=some (.cells #[p.1,p.2] 43 (0,0))) (ht:TnV X W0 p.1 p.2 t)
  (hbytes:n≤1000000) (hbase:B≤w.heap.size)
  (h:∀ A' cap' w',OwnTn X W0 w' B A' (n+1) cap' (l++[t])→Below B w w'→K (a.put o.dst (.slice A' (n+1) cap')) w'):
  Oper.wp Tryz.prog o a w K Q:=by
 obtain ⟨i0,hi0,hz0,hz1,hz2⟩:=info_parts ZeW
 have hlt:=hown.lt
 obtain ⟨vs,h1,h2,h3,h4⟩:=hown
 obtain ⟨A',cap',w',hrun,r1,r2,r3⟩:=ZeH (P := Tryz.prog) w B 44 o.type 43 i0 _ 2 48 Tryz.underlying44 hi0 hz0 hz1 (by decide) hz2 rfl A cap n (vs.flatMap tnC) h1 g2 (tnC p) rfl
  (fun j u hu=>by rw [Kaa w g2 j _ _ (0,0) hb];simpa [tnC] using hu)
  (fun u hu=>by
   simp [tnC] at hu
   rcases hu with rfl | rfl
   ·exact ht.1.one
   ·exact ht.2.one) (by simp only [maxLen];omega) (by omega) hbase
 unfold Oper.wp execOp
 simp only [ho,resolve,invoke,builtin,Sem.run_bind,Sem.run_pure,Result.andThen_ok,List.map_toArray,List.map_cons,List.map_nil,hs,hx,hrun]
 refine h A' cap' w' ⟨vs++[p],?_,by rw [List.length_append,h2];rfl,by rw [List.length_append,h3];rfl,fun j q y hq hy => ?_⟩ (Zal (Kai _ _) r2 hbase (fun k hk=>(hlt k hk).1))
 ·rw [List.flatMap_append]
  have:(List.flatMap tnC [p])=tnC p:=by simp
  rw [this]
  exact r1
 ·by_cases hj:j<n
  ·rw [List.getElem?_append_left (by omega)] at hq hy
   exact h4 j q y hq hy
  ·rw [List.getElem?_append_right (by omega)] at hq hy
   have h0:j-vs.length=0:=by
    have:=(Kaf.1 hq).1
    simp at this
    omega
   rw [h0] at hq
   rw [show j-l.length=0 by omega] at hy
   simp at hq hy
   rw [←hq,←hy]
   exact ht
theorem OwnTn.rdTN {X:Nat→Prop} {W0 w:World} {B n c:Nat} {A:Option Addr} {xs:List TN} (h:OwnTn X W0 w B A n c xs) (hb:Below W0.heap.size W0 w) (hs:∀ t∈xs,t.sh.length≤2∧t.el.length≤1000000):RdTN w w.heap.size A xs:=by
 by_cases hl:xs=[]
 ·exact .inl hl
 ·have hlt:=h.lt
  obtain ⟨x0,hx0⟩:∃ x,xs[0]?=some x:=⟨xs[0]'(List.length_pos_iff.2 hl),Kad _⟩
  obtain ⟨g,A1,c1,A2,c2,hA,k0,k1,ht⟩:=h.at_ hx0
  refine .inr ⟨g,0,hA,(hlt g (by rw [hA];rfl)).2,fun i x hx => ?_⟩
  obtain ⟨g',A1,c1,A2,c2,hA',k0,k1,⟨A1',c1',e1,u1,u2,u3,r1⟩,A2',c2',e2,v1,v2,r2⟩:=h.at_ hx
  rw [hA] at hA'
  injection hA' with hA'
  injection hA' with hA' _ _
  subst hA'
  injection e1 with e1 _ e1c
  injection e2 with e2 _ e2c
  subst e1 e1c e2 e2c
  have h5:=hs x (Kam hx)
  exact ⟨⟨A1,c1,by rw [Nat.zero_add];exact k0,r1.rd.next hb,by omega,u1,u2⟩,A2,c2,by rw [Nat.zero_add];exact k1,r2.rd.next hb,by omega,v1,v2⟩
theorem rdX_of {w:World} {A:Option Addr} {xs:List Value} (h:Rd w w.heap.size A xs):RdX (fun _=>False) w A xs:=by
 rcases h with h | ⟨b,o,hA,hb,hc⟩
 ·exact .inl h
 ·exact .inr ⟨b,o,hA,hb,fun e=>e,hc⟩
theorem elems_small (s:List Int):Zad s≤32:=by
 have h:=(ZbQ s 1 (by omega) (by omega)).2
 unfold Zad
 split
 ·omega
 ·split <;> omega
theorem take_map_snoc {α β:Type} {l:List α} {k:Nat} {a:α} {f:α→β} (h:l[k]?=some a):(l.take (k+1)).map f=(l.take k).map f++[f a]:=by
 rw [List.take_add_one,h,List.map_append]
 rfl
theorem value_any (cb B nc N:Nat) (NA:Option Addr) (ms:List (ND × NV)) (m:ND × NV) (w:World) (hcb:w.cell? ⟨cb,3,none⟩=some (.slice NA N nc)) (hcl:cb<w.heap.size) (hN:N=ms.length) (hr:NdRow w B NA nc ms) (hm:NdR w m) (hg:ETyped w)
  (ha:∀ a∈m.1.args,a<ms.length) (hk:3≤m.1.kind∧m.1.kind≤14) (hk63:m.1.k≤63) (hl:(m.1.args.length:Int)=madeP m.1.kind) (ho:∀ a∈m.1.args,TnOk (tnD (atD (ms.map Prod.fst) a))) (hs:Zad m.1.shape≠0)
  (hsh:Zab m.1.kind m.1.k (m.1.args.map fun a=>(atD (ms.map Prod.fst) a).shape)=(m.1.shape,true)):
  Calls Tryz.prog 108 #[.pointer (some ⟨cb,0,none⟩),ndA m] w fun e w'=>∃ A n c,e=.returned (.slice A n c)∧n=(valD (ms.map Prod.fst) m.1).length∧Own w' w.heap.size 39 A c ((valD (ms.map Prod.fst) m.1).map U)∧Below w.heap.size w w':=by
 have HWORDS:=hid (fun (AX:Option Addr) (nx cx:Nat) W (hx:nx=(m.1.args.map fun a=>tnD (atD (ms.map Prod.fst) a)).length) (h:RdTN W W.heap.size AX (m.1.args.map fun a=>tnD (atD (ms.map Prod.fst) a))) (hgW:ETyped W)=>words_any m (m.1.args.map fun a=>tnD (atD (ms.map Prod.fst) a)) AX nx cx W hx h hgW hk hk63 (by rw [Kak];exact hl) (fun t ht=>by
  obtain ⟨a,ha,rfl⟩:=List.mem_map.1 ht
  exact ho a ha) hs (by rw [List.map_map];exact hsh))
 have HV:=hid (show valD (ms.map Prod.fst) m.1=Zbc m.1.kind m.1.k (Zad m.1.shape).toNat (m.1.args.map fun a=>tnD (atD (ms.map Prod.fst) a)) from rfl)
 obtain ⟨WS,hWS⟩:∃ l,l=valD (ms.map Prod.fst) m.1:=⟨_,rfl⟩
 rw [←hWS] at HV ⊢
 rw [←HV.out] at HWORDS
 obtain ⟨w2,hw2⟩:∃ w2,w2=w.alloc (.cells (ndC m).toArray 77):=⟨_,rfl⟩
 have hb2:Below w.heap.size w w2:=by rw [hw2];exact alloc_below _ _
 have hA:w2.heap[w.heap.size]?=some (.cells (ndC m).toArray 77 (0,0)):=by rw [hw2];exact Kac w _
 have HCN:=hid (fun W (hW:Below w2.heap.size w2 W)=>(hW.block _ (Kab.1 hA).1).trans hA)
 have HCB:=hid (fun W (hW:Below w2.heap.size w2 W)=>(show W.cell? ⟨cb,3,none⟩=some (.slice NA N nc) from ((bnext hb2 hW).cell (p:=⟨cb,3,none⟩) hcl).trans hcb))
 have HR:=hid (hr.next hb2)
 have HNN:=hid hN
 have HG:=hid (hg.next hb2)
 have HB2:=hid hb2
 have HAL:=hid ha
 have HO:=hid ho
 obtain ⟨args,hargs⟩:∃ l,l=m.1.args:=⟨_,rfl⟩
 obtain ⟨l1,l2,l3,⟨A0,c0,e1,r1,_⟩,⟨AA,ca,e2,r2,_⟩,A9,c9,e3,r3,_⟩:=hm
 rw [←hargs] at HAL HO HWORDS l2 e2 r2
 obtain ⟨na,hna⟩:∃ n,n=args.length:=⟨_,rfl⟩
 rw [←hna] at l2 e2
 have HNA:=hid hna
 have HRA:=hid (fun W (hW:Below w2.heap.size w2 W)=>(show Rd W W.heap.size AA (args.map VNt) from (r2.next hb2).next hW))
 have HW2:=hid hw2
 have b2:=cells_node hA 2 _ rfl
 rw [e2] at b2
 have HE2:=hid e2
 clear hcb hcl hN hr hg ha hk hk63 hl ho hs hsh hWS hw2 hb2 hA e1 r1 e2 r2 e3 r3 hna hargs HV
 unfold ndA
 go_enter Tryz.func108,Tryz.ntmps108
 go_upto_region 2 with fail
 have hE:w.alloc (.cells #[.int .i64 m.1.kind,m.2.sv,m.2.av,.int .i64 m.1.party,.int .i64 m.1.input,.int .i64 m.1.k,m.2.ev] 77)=w2:=HW2.out.symm
 rw [hE]
 clear hE
 go_wp2_with fail
 go_loopw [5,11] (fun xv iv wr=>∃ (k:Nat) (A:Option Addr) (c:Nat),k≤na∧iv=.int .i64 k∧xv=.slice A k c∧OwnTn (fun _=>False) w2 wr w2.heap.size A k c ((args.take k).map fun a=>tnD (atD (ms.map Prod.fst) a))∧Below w2.heap.size w2 wr) (fun _ iv _=>na-(intOf iv).toNat)
 case atStart=>exact ⟨0,none,0,by omega,rfl,rfl,OwnTn.nil _ _ _ _,Kai _ _⟩
 case round=>
  obtain ⟨k,A,c,hk,rfl,rfl,hO,hB⟩:=hrel
  have HOR:=hid hO
  have HB:=hid hB
  by_cases hlt:k<na
  ·have ht:args[k]?=some (args[k]'(by rw [←HNA.out];exact hlt)):=Kad _
   obtain ⟨a,haa⟩:∃ a,a=args[k]'(by rw [←HNA.out];exact hlt):=⟨_,rfl⟩
   rw [←haa] at ht
   obtain ⟨b,o,rfl,hbl,k0⟩:=(HRA.out wr hB).at_ (show (args.map VNt)[k]?=some (VNt a) by rw [Kal,ht];rfl)
   have k0':wr.cell? ⟨b,o+k,none⟩=some (.int .i64 (a:Int)):=k0
   have hal:=HAL.out a (Kam ht)
   obtain ⟨mm,hmm⟩:∃ x,ms[a]?=some x:=⟨ms[a]'hal,Kad hal⟩
   obtain ⟨g,rfl,hgl,hc,hv⟩:=HR.out.at_ hmm
   have hat:atD (ms.map Prod.fst) a=mm.1:=atD_some (by rw [Kal,hmm];rfl)
   have htn:=HO.out a (Kam ht)
   obtain ⟨v1,v2,v3,⟨A1,c1,q1,p1⟩,_,A3,c3,q3,p3⟩:=hv
   have d1:=hc 1 _ rfl (by omega)
   have d6:=hc 6 _ rfl (by omega)
   rw [q1] at d1
   rw [q3] at d6
   have pc1:=own_capsN p1
   have pc3:=own_capsN p3
   rw [Kak] at pc1 pc3
   have HTV:=hid (show TnV (fun _=>False) w2 (.slice A1 mm.1.shape.length c1) (.slice A3 mm.1.elems.length c3) (tnD (atD (ms.map Prod.fst) a)) from by
    rw [hat]
    exact ⟨⟨A1,c1,rfl,pc1.1,pc1.2,sh_small (by rw [hat] at htn;exact htn.1),rdX_of p1.rd⟩,A3,c3,rfl,pc3.1,pc3.2,rdX_of p3.rd⟩)
   obtain ⟨n1,hn1⟩:∃ n,n=mm.1.shape.length:=⟨_,rfl⟩
   obtain ⟨n3,hn3⟩:∃ n,n=mm.1.elems.length:=⟨_,rfl⟩
   rw [←hn1] at d1 HTV
   rw [←hn3] at d6 HTV
   have hlN:(a:Int)<(N:Int):=by rw [HNN.out];omega
   have i0:(0:Int)≤(a:Int):=by omega
   have i1:(0:Int)≤(k:Int):=by omega
   have i2:(k:Int)<(na:Int):=by omega
   have HAT:=hid ht
   have HSC:=hid (show ∀ W,Below w2.heap.size w2 W→W.cell? ⟨cb,3,none⟩=some (.slice (some ⟨g,0,none⟩) N nc)∧W.cell? ⟨g,a*7+1,none⟩=some (.slice A1 n1 c1)∧W.cell? ⟨g,a*7+6,none⟩=some (.slice A3 n3 c3) from fun W hW=>⟨HCB.out W hW,(hW.cell (p:=⟨g,a*7+1,none⟩) hgl).trans d1,(hW.cell (p:=⟨g,a*7+6,none⟩) hgl).trans d6⟩)
   clear ht haa hbl k0 hal hmm hgl hc hat htn v1 v2 v3 q1 p1 q3 p3 d1 d6 pc1 pc3 hn1 hn3 hO hB b2
   go_upto_region 5 with fail
   refine wp_region_held_drew (S:=(fun w'=>w'.cell? ⟨cb,3,none⟩=some (.slice (some ⟨g,0,none⟩) N nc)∧w'.cell? ⟨g,a*7+1,none⟩=some (.slice A1 n1 c1)∧w'.cell? ⟨g,a*7+6,none⟩=some (.slice A3 n3 c3))) (by kernel_rfl) (HSC.out _ HB.out.drew) (fun hHeld => ?_)
   obtain ⟨wd,hwd⟩:∃ wd,wd=wr.drew:=⟨_,rfl⟩
   rw [←hwd] at hHeld ⊢
   have BD:=hid (show Below w2.heap.size w2 wd from by rw [hwd];exact HB.out.drew)
   have HOD:=hid (show OwnTn (fun _=>False) w2 wd w2.heap.size A k c ((args.take k).map fun a=>tnD (atD (ms.map Prod.fst) a)) from by rw [hwd];exact HOR.out.next (Kai _ _).drew)
   clear hwd k0'
   refine tk 0 ?_
   simp only [tkS]
   refine tk 1 ?_
   simp only [tkS]
   refine tk 2 ?_
   simp only [tkS]
   refine tk 3 ?_
   simp only [tkS]
   refine tk 4 ?_
   simp only [tkS]
   refine tk 5 ?_
   simp only [tkS]
   refine tk 6 ?_
   simp only [tkS]
   refine tk 7 ?_
   simp only [tkS]
   refine tk 8 ?_
   simp only [tkS]
   refine tk 9 ?_
   simp only [tkS]
   refine tk 10 ?_
   simp only [tkS]
   refine tk 11 ?_
   simp only [tkS]
   refine tk 12 ?_
   simp only [tkS]
   refine tk 13 ?_
   simp only [tkS]
   refine tk 14 ?_
   simp only [tkS]
   refine tk 15 ?_
   simp only [tkS]
   refine tk 16 ?_
   simp only [tkS]
   refine tk 17 ?_
   simp only [tkS]
   refine tk 18 ?_
   simp only [tkS]
   refine tk 19 ?_
   simp only [tkS]
   refine wpAnyH_ready (rs:=[20]) (by kernel_rfl) (by simp) ?_
   refine AllReadyH.cons (o:=_) rfl (fun K hK => ?_) (AllReadyH.nil)
   go_simp
   obtain ⟨wa,hwa⟩:∃ wa,wa=wd.alloc (.cells #[.slice A1 n1 c1,.slice A3 n3 c3] 43):=⟨_,rfl⟩
   obtain ⟨ga,hga⟩:∃ g,g=wd.heap.size:=⟨_,rfl⟩
   rw [←hwa,←hga]
   have hbA:Below wd.heap.size wd wa:=by rw [hwa];exact alloc_below _ _
   have BA:=hid (bnext BD.out hbA)
   have HOA:=hid (HOD.out.next hbA)
   have HGA:=hid (show wa.heap[ga]?=some (.cells #[.slice A1 n1 c1,.slice A3 n3 c3] 43 (0,0)) from by rw [hwa,hga];exact Kac wd _)
   clear hwa hga hbA
   refine hK.out _ _ (HSC.out _ BA.out) (fun hHeld => ?_)
   clear hK K
   try simp only [tkS]
   refine wpAnyH_ready (rs:=[21]) (by kernel_rfl) (by simp) ?_
   refine AllReadyH.cons (o:=_) rfl (fun K hK => ?_) (AllReadyH.nil)
   refine wp_appTn (.tmp 15) (.tmp 35) rfl w2.heap.size A c k ((args.take k).map (fun a=>tnD (atD (ms.map Prod.fst) a))) rfl HOA.out ga rfl (.slice A1 n1 c1,.slice A3 n3 c3) (tnD (atD (ms.map Prod.fst) a)) HGA.out HTV.out (by omega) BA.out.size ?_
   intro A8 c8 w8 o8 b8
   have B8:=hid (BA.out.trans b8)
   have O8:=hid o8
   clear o8 b8
   refine hK.out _ _ (HSC.out _ B8.out) (fun hHeld => ?_)
   clear hK K
   try simp only [tkS]
   refine tk 22 ?_
   simp only [tkS]
   refine wpAnyH_done (by kernel_rfl) ?_ _
   go_wp2_with fail
   exact ⟨⟨k+1,A8,c8,by omega,rfl,rfl,by rw [take_map_snoc HAT.out];exact O8.out,B8.out⟩,by simp [intOf];omega⟩
  ·obtain rfl:na=k:=by omega
   have HF:=hid (show (args.take na)=args from by rw [HNA.out];exact List.take_length)
   have a':=fun k v hv=>cells_node (HCN.out wr hB) k v hv
   have a0:=a' 0 _ rfl
   have a1:=a' 1 _ rfl
   have a2:=a' 2 _ rfl
   have a3:=a' 3 _ rfl
   have a4:=a' 4 _ rfl
   have a5:=a' 5 _ rfl
   have a6:=a' 6 _ rfl
   have HCALL:=hid (HWORDS.out A na c wr (by rw [Kak];exact HNA.out) (by
    have h:=hO.rdTN hB (by
     intro t ht
     rw [HF.out] at ht
     obtain ⟨a,ha,rfl⟩:=List.mem_map.1 ht
     have h1:=HO.out a ha
     have h2:=sh_small h1.1
     have h3:=h1.2
     have h4:=elems_small (tnD (atD (ms.map Prod.fst) a)).sh
     omega)
    rw [HF.out] at h
    exact h) (HG.out.next hB))
   clear a' hO hB b2
   go_wp2_with fail
   refine HCALL.out.mono ?_
   rintro e w3 ⟨A3,n3,c3,rfl,hn3,o3,b3⟩
   have O3:=hid (o3.more (Kah HB2.out.size HB.out.size))
   have HN3:=hid hn3
   have B3:=hid (bnext HB2.out (bnext HB.out b3))
   clear o3 b3 hn3 a0 a1 a2 a3 a4 a5 a6
   go_wp2
   go_ret
   exact ⟨A3,n3,c3,rfl,HN3.out,O3.out,B3.out⟩
def quietO:Obj→Prop
 | .cells _ T _=>T≠77∧T≠131
 | _=>True
def KD (w w':World):Prop:=w.heap.size≤w'.heap.size∧∀ (k:Nat) (o:Obj),w.heap[k]?=some o→quietO o→w'.heap[k]?=some o
theorem KD.of {w w':World} (h:Below w.heap.size w w'):KD w w':=⟨h.size,fun k o hk _=>(h.block k (Kab.1 hk).1).trans hk⟩
theorem KD.refl (w:World):KD w w:=⟨Kag _,fun _ _ h _=>h⟩
theorem KD.trans {a b c:World} (h:KD a b) (h':KD b c):KD a c:=⟨Kah h.1 h'.1,fun k o hk hq=>h'.2 k o (h.2 k o hk hq) hq⟩
theorem KD.kiw {w w':World} (h:KD w w'):KIW w w':=fun g cur T hg hT=>by
 rw [h.2 g _ hg (by rcases hT with rfl | rfl <;> exact ⟨by decide,by decide⟩),hg]
theorem KD.grown {w w':World} {A:Option Addr} (hg:w.grownBy w' (blk A)) (hA:∀ g,blk A=some g→∃ cur,w.heap[g]?=some (.cells cur 77 (0,0))):KD w w':=
 ⟨hg.size,fun k o hk hq=>by
  rw [hg.block k (Kab.1 hk).1 (fun e=>by
   obtain ⟨cur,hc⟩:=hA k e.symm
   rw [hk] at hc
   injection hc with hc
   subst hc
   exact hq.1 rfl),hk]⟩
theorem KD.set {w:World} {b k:Nat} {cs:Array Value} {T:TypeId} {fr:Nat × Nat} (hp:w.heap[b]?=some (.cells cs T fr)) (hT:T=77∨T=131) (v:Value):KD w (w.setCell ⟨b,k,none⟩ v):=
 ⟨by simp [World.setCell],fun g o hg hq=>by
  rw [ZaS _ _ _ (fun e=>by
   have e':g=b:=e
   subst e'
   rw [hp] at hg
   injection hg with hg
   subst hg
   rcases hT with rfl | rfl
   ·exact hq.1 rfl
   ·exact hq.2 rfl),hg]⟩
structure DgSt (w:World) (B cb g:Nat) (f s d:Bool) (NA:Option Addr) (nc:Nat) (ms:List (ND × NV)) (OA:Option Addr) (oc:Nat) (outs:List Nat) (I0 I1:Option Addr) (m0 k0 m1 k1:Nat) (names:PlacesD):Prop where
 b1:B≤cb
 b2:B≤g
 hc:w.heap[cb]?=some (.cells #[.bool f,.bool s,.bool d,.slice NA ms.length nc,.slice OA outs.length oc,.slice I0 m0 k0,.slice I1 m1 k1,.map (some g)] 131 (0,0))
 hn:NamM w g (namV names)
 hr:NdRow w B NA nc ms
 ho:Own w B 3 OA oc (outs.map VNt)
 hp:(blk OA::ms.flatMap ndB).Pairwise apart
section
variable {w w':World} {B cb g:Nat} {f s d:Bool} {NA:Option Addr} {nc:Nat} {ms:List (ND × NV)} {OA:Option Addr} {oc:Nat} {outs:List Nat} {I0 I1:Option Addr} {m0 k0 m1 k1:Nat} {names:PlacesD}
theorem DgSt.keep (h:DgSt w B cb g f s d NA nc ms OA oc outs I0 I1 m0 k0 m1 k1 names) (hk:KD w w') (hc:w'.heap[cb]?=w.heap[cb]?) (hA:∀ q,blk NA=some q→w'.heap[q]?=w.heap[q]?):DgSt w' B cb g f s d NA nc ms OA oc outs I0 I1 m0 k0 m1 k1 names:=by
 refine ⟨h.b1,h.b2,hc.trans h.hc,?_,h.hr.keep hk.kiw hA,own_kiw h.ho (.inl rfl) hk.kiw,h.hp⟩
 obtain ⟨es,c,h1,h2⟩:=h.hn
 exact ⟨es,c,hk.2 g _ h1 trivial,h2⟩
theorem DgSt.next (h:DgSt w B cb g f s d NA nc ms OA oc outs I0 I1 m0 k0 m1 k1 names) (hb:Below w.heap.size w w'):DgSt w' B cb g f s d NA nc ms OA oc outs I0 I1 m0 k0 m1 k1 names:=
 h.keep (KD.of hb) (hb.block _ (Kab.1 h.hc).1) fun q hq=>hb.block q (h.hr.lt q hq).2
theorem DgSt.lt (h:DgSt w B cb g f s d NA nc ms OA oc outs I0 I1 m0 k0 m1 k1 names):cb<w.heap.size:=(Kab.1 h.hc).1
theorem DgSt.cells (h:DgSt w B cb g f s d NA nc ms OA oc outs I0 I1 m0 k0 m1 k1 names):w.cell? ⟨cb,0,none⟩=some (.bool f)∧w.cell? ⟨cb,1,none⟩=some (.bool s)∧w.cell? ⟨cb,2,none⟩=some (.bool d)∧w.cell? ⟨cb,3,none⟩=some (.slice NA ms.length nc)∧w.cell? ⟨cb,4,none⟩=some (.slice OA outs.length oc) ∧
  w.cell? ⟨cb,5,none⟩=some (.slice I0 m0 k0)∧w.cell? ⟨cb,6,none⟩=some (.slice I1 m1 k1)∧w.cell? ⟨cb,7,none⟩=some (.map (some g))∧∀ k,w.frozen? ⟨cb,k,none⟩=false:=
 ⟨Kaa _ _ 0 _ _ _ h.hc,Kaa _ _ 1 _ _ _ h.hc,Kaa _ _ 2 _ _ _ h.hc,Kaa _ _ 3 _ _ _ h.hc,Kaa _ _ 4 _ _ _ h.hc,Kaa _ _ 5 _ _ _ h.hc,Kaa _ _ 6 _ _ _ h.hc,Kaa _ _ 7 _ _ _ h.hc,fun k=>by simp [World.frozen?,h.hc]⟩
theorem DgSt.push {w8:World} {NA':Option Addr} {nc':Nat} {m:ND × NV} (h:DgSt w B cb g f s d NA nc ms OA oc outs I0 I1 m0 k0 m1 k1 names) (hg:w.grownBy w8 (blk NA)) (hr:NdRow w8 B NA' nc' (ms++[m])) (hp:(blk OA::(ms++[m]).flatMap ndB).Pairwise apart):
  DgSt (w8.setCell ⟨cb,3,none⟩ (.slice NA' (ms.length+1) nc')) B cb g f s d NA' nc' (ms++[m]) OA oc outs I0 I1 m0 k0 m1 k1 names∧KD w (w8.setCell ⟨cb,3,none⟩ (.slice NA' (ms.length+1) nc'))∧w8.heap[cb]?=w.heap[cb]?:=by
 have hk1:KD w w8:=KD.grown hg h.hr.form
 have hcb:w8.heap[cb]?=w.heap[cb]?:=hg.block cb h.lt fun e=>by
  obtain ⟨cur,hc⟩:=h.hr.form cb e.symm
  rw [h.hc] at hc
  injection hc with hc
  injection hc with _ hc _
  exact absurd hc (by decide)
 have hc8:=hcb.trans h.hc
 have hk2:KD w8 (w8.setCell ⟨cb,3,none⟩ (.slice NA' (ms.length+1) nc')):=KD.set hc8 (.inr rfl) _
 have hk:=hk1.trans hk2
 refine ⟨⟨h.b1,h.b2,?_,?_,?_,own_kiw h.ho (.inl rfl) hk.kiw,hp⟩,hk,hcb⟩
 ·rw [List.length_append]
  exact heap_setCell_same _ _ _ _ _ _ hc8
 ·obtain ⟨es,c,h1,h2⟩:=h.hn
  exact ⟨es,c,hk.2 g _ h1 trivial,h2⟩
 ·refine hr.keep hk2.kiw fun q hq=>ZaS _ _ _ fun e => ?_
  have e':q=cb:=e
  subst e'
  obtain ⟨cur,hc⟩:=hr.form q hq
  rw [hc8] at hc
  injection hc with hc
  injection hc with _ hc _
  exact absurd hc (by decide)
end
theorem wp_appNd {w:World} {o:Oper} {a:Act} {K:Act→World→Prop} {Q:Exit→Act→World→Prop} (s x:Operand)
  (ho:o.op=.call { callee:=.builtin .append,args:=#[s,x],argTypes:=#[66,66] }) (B:Nat)
  (A:Option Addr) (cap n:Nat) (ms:List (ND × NV)) (hn:n=ms.length) (hs:a.eval s=.slice A n cap) (hown:NdRow w B A cap ms)
  (g2:Nat) (hx:a.eval x=.slice (some ⟨g2,0,none⟩) 1 1) (m:ND × NV) (hb:w.heap[g2]?=some (.cells (ndC m).toArray 77 (0,0))) (hm:NdV w B m)
  (hbytes:n≤100000) (hbase:B≤w.heap.size)
  (h:∀ A' cap' w',NdRow w' B A' cap' (ms++[m])→w.grownBy w' (blk A)→K (a.put o.dst (.slice A' (n+1) cap')) w'):
  Oper.wp Tryz.prog o a w K Q:=by
 obtain ⟨A',cap',w',hrun,r1,r2,_⟩:=run_appNd o.type B A cap n ms hn hown g2 m hb hm hbytes hbase
 unfold Oper.wp execOp
 simp only [ho,resolve,invoke,builtin,Sem.run_bind,Sem.run_pure,Result.andThen_ok,List.map_toArray,List.map_cons,List.map_nil,hs,hx,hrun]
 exact h A' cap' w' r1 r2
def foldB (f:Bool) (l:List ND) (n:ND):Bool:=f&&(!(n.args.length==0))&&n.args.all (constD l)
theorem foldD_b (f:Bool) (l:List ND) (n:ND):foldD f l n=if foldB f l n=true then ⟨2,n.shape,[],0,0,0,valD l n⟩ else n:=by
 unfold foldD foldB
 have h:(f=true∧n.args≠[]∧n.args.all (constD l)=true)↔(f&&(!(n.args.length==0))&&n.args.all (constD l))=true:=by
  rw [Bool.and_eq_true,Bool.and_eq_true]
  constructor
  ·rintro ⟨h1,h2,h3⟩
   refine ⟨⟨h1,?_⟩,h3⟩
   cases hq:n.args with
   | nil=>exact absurd hq h2
   | cons a r=>rfl
  ·rintro ⟨⟨h1,h2⟩,h3⟩
   refine ⟨h1,fun e => ?_,h3⟩
   rw [e] at h2
   cases h2
 by_cases hc:(f&&(!(n.args.length==0))&&n.args.all (constD l))=true
 ·rw [if_pos hc,if_pos (h.2 hc)]
 ·rw [if_neg hc,if_neg (fun e=>hc (h.1 e))]
theorem fold_facts {in0 in1:List (List Int)} {f:Bool} {l:List ND} {n:ND} (hw:WfD in0 in1 l) (hn:NodeOk in0 in1 l l.length n) (h:foldB f l n=true):
  (3≤n.kind∧n.kind≤14)∧n.k≤63∧(n.args.length:Int)=madeP n.kind∧(∀ a∈n.args,TnOk (tnD (atD l a)))∧Zad n.shape≠0∧Zab n.kind n.k (n.args.map fun a=>(atD l a).shape)=(n.shape,true)∧(valD l n).length≤32:=by
 have h0:=h
 unfold foldB at h
 rw [Bool.and_eq_true,Bool.and_eq_true] at h
 obtain ⟨⟨h1,h2⟩,h3⟩:=h
 have hne:n.args≠[]:=fun e=>by rw [e] at h2;cases h2
 have hfo:=foldD_ok f hw hn
 rw [foldD_b,if_pos h0] at hfo
 have hlen:((valD l n).length:Int)=Zad n.shape:=by
  rcases hfo.kinds with ⟨hk,_⟩ | ⟨_,_,_,_,_,h6⟩ | ⟨hk,_⟩
  ·exact absurd hk (by show ¬ (2:Nat)=1;omega)
  ·exact h6
  ·exact absurd hk (by show ¬ (3:Nat)≤2;omega)
 have hsm:=elems_small n.shape
 rcases hn.kinds with ⟨_,he,_⟩ | ⟨_,he,_⟩ | ⟨hk1,hk2,_,_,_,_,hl,hs⟩
 ·exact absurd he hne
 ·exact absurd he hne
 ·refine ⟨⟨hk1,hk2⟩,hn.k63,hl,fun a ha => ?_,hn.shape,hs,by omega⟩
  have hc:=List.all_eq_true.1 h3 a ha
  have hlt:=hn.ahead a ha
  have hok:=hw a _ (atD_lt hlt)
  have hk2:(atD l a).kind=2:=by
   unfold constD at hc
   exact beq_iff_eq.1 hc
  rcases hok.kinds with ⟨hk,_⟩ | ⟨_,_,_,_,_,h6⟩ | ⟨hk,_⟩
  ·omega
  ·exact ⟨hok.shape,h6⟩
  ·omega
end Go.Proofs.YtghlnncfigkkaaaGreatDoor
