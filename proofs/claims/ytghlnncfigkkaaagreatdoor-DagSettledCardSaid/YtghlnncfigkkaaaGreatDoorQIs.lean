/-
 errors.Is and fault.Is over chains of places, the target a number; fault.Places at an error with one place.
-/
import Derived.Test.YtghlnncfigkkaaaGreatDoorQNum
import Derived.Test.YtghlnncfigkkaaaGreatDoorQAsF
import Derived.Lib.IfaceEq
set_option maxRecDepth 100000
set_option maxHeartbeats 4000000
set_option linter.unusedVariables false
set_option linter.unusedSimpArgs false
namespace Go.Proofs.YtghlnncfigkkaaaGreatDoor
open Go.RowKit Go.Extern.Stop Go.Stop Go.Extern
def Wrote (w w':World) (t:Addr) (v:Value):Prop:=∃ w1,Below w.heap.size w w1∧w'=w1.setCell t v
theorem Wrote.below {w w':World} {t:Addr} {v:Value} {B:Nat} (h:Wrote w w' t v) (a:B≤t.block) (b:B≤w.heap.size):Below B w w':=by
 obtain ⟨w1,c,rfl⟩:=h;exact (c.mono b).setCell a v
theorem Zda (w:World) (t:Addr) (v old:Value) (h:w.cell? t=some old):(w.setCell t v).cell? t=some v:=by
 unfold World.cell? at h ⊢;unfold World.setCell;simp only [Array.getElem?_modify,if_true]
 cases hb:w.heap[t.block]? with
 | none=>rw [hb] at h;cases h
 | some o=>
  rw [hb] at h
  cases o with
  | cells c e f=>
   simp only [Option.map_some] at h ⊢
   cases hs:t.spot.isSome with
   | true=>simp [hs] at h
   | false=>
    simp only [hs,Bool.false_eq_true,if_false] at h ⊢;obtain ⟨a,_⟩:=Kab.1 h;simp [a]
  | _=>simp at h
theorem Wrote.cell {w w':World} {t:Addr} {v old:Value} (h:Wrote w w' t v) (a:w.cell? t=some old):w'.cell? t=some v:=by
 obtain ⟨w1,b,rfl⟩:=h;exact Zda w1 t v old ((b.cell (World.block_lt_of_cell? w t a)).trans a)
theorem as_E (n:Int) (t a:Addr) (old:Value) (w:World) (b:w.cell? a=some (.pointer (some t))) (c:w.cell? t=some old) (g:w.frozen? t=false):
  Calls Tryz.prog 92 #[.iface 35 (.int .i64 n),.iface 104 (.pointer (some t)),.agg #[hand 104,.pointer (some a),.int .u64 150],.iface 237 (.agg #[hand 35])] w fun e w'=>
   e=.returned (.bool true)∧w'=((w.alloc (.cells #[hand 104,.pointer (some a),.int .u64 150] 171)).alloc (.cells #[.int .i64 n] 35)).setCell t (.int .i64 n):=by
 have h:a.block<w.heap.size:=World.block_lt_of_cell? w a b;have d:t.block<w.heap.size:=World.block_lt_of_cell? w t c;have i:=Zcm;have j:=Zb7;have k:=Zfr;have l:=Zik;have m:=ZbP;have p:=Zd3;have q:=ZaZ;have r:=Zdr;have s:=Zfp;have el:=Zij a t (w.alloc (.cells #[hand 104,.pointer (some a),.int .u64 150] 171)) (by rw [World.cell?_alloc_lt _ _ a h];exact b)
 have v:=E_set t ⟨w.heap.size+1,0,none⟩ n old ((w.alloc (.cells #[hand 104,.pointer (some a),.int .u64 150] 171)).alloc (.cells #[.int .i64 n] 35))
  (by rw [World.cell?_alloc_at _ _ _ _ (by simp)];rfl)
  (by rw [World.cell?_alloc_lt _ _ t (by simp;omega),World.cell?_alloc_lt _ _ t d];exact c)
  (by rw [World.frozen?_alloc_old _ _ t (by simp;omega),World.frozen?_alloc_old _ _ t (Nat.ne_of_lt d)];exact g)
 go_enter Tryz.func92,Tryz.ntmps92
 go_wp2
 refine wp_loop_rounds 1 ?_;rw [rounds_succ]
 go_wp2
 go_ret;exact ⟨rfl,rfl⟩
theorem Zhx (t:Addr) (w:World):(ReflectliteValue.unpack (.iface 190 (.pointer (some t)))).run Tryz.prog w
  = .ok (.agg #[hand 190,.pointer (some ⟨w.heap.size,0,none⟩),.int .u64 150]) (w.alloc (.cells #[.pointer (some t)] 190)):=by kernel_rfl
theorem ZlR (a:Addr) (w:World):(ReflectliteValue.methodAny (ReflectliteValue.valueError "reflectlite.Value.Type" 0) (fun t _ _ _=>ReflectliteType.toType t) #[.agg #[hand 190,.pointer (some a),.int .u64 150]]).run Tryz.prog w
  = .ok (.iface 237 (.agg #[hand 190])) w:=by kernel_rfl
theorem ZlS (w:World):((ReflectliteType.abiMethod fun t=>(fun a:Nat=>Value.int IntKind.u8 (a:Int)) <$> Rtype.kind t) #[hand 190]).run Tryz.prog w=.ok (.int .u8 22) w:=by kernel_rfl
theorem Znd (w:World):((ReflectliteType.abiMethod fun t=>(fun a:Nat=>Value.int IntKind.u8 (a:Int)) <$> Rtype.kind t) #[hand 189]).run Tryz.prog w=.ok (.int .u8 22) w:=by kernel_rfl
theorem ZjT (a:Addr) (w:World):(ReflectliteValue.parts (.agg #[hand 190,.pointer (some a),.int .u64 150])).run Tryz.prog w=.ok (some (190,a,150)) w:=by kernel_rfl
theorem ZjU (a p:Addr) (W:World) (b:W.cell? a=some (.pointer (some p))):
  (ReflectliteValue.method (ReflectliteValue.valueError "reflectlite.Value.IsNil" 0) ReflectliteValue.isNil #[.agg #[hand 190,.pointer (some a),.int .u64 150]]).run Tryz.prog W=.ok (.bool false) W:=by
 rw [rlm];simp only [Sem.run_bind,ZjT,Result.andThen];simp [ReflectliteValue.isNil,loadVar,isAgg,underlying,Tryz.underlying190,b,Result.andThen]
theorem Zne (w:World):(ReflectliteType.method ReflectliteType.elem #[.agg #[hand 190]]).run Tryz.prog w=.ok (.iface 237 (.agg #[hand 189])) w:=by kernel_rfl
theorem Zfm (w:World):(ReflectliteType.relation "Implements" ReflectliteType.implements_ #[.agg #[hand 189],.iface 237 (.agg #[hand 28])]).run Tryz.prog w=.ok (.bool true) w:=by kernel_rfl
theorem ZjV (v:Value) (w:World):(ReflectliteType.typeOf #[.iface 189 v]).run Tryz.prog w=.ok (.iface 237 (.agg #[hand 189])) w:=by kernel_rfl
theorem ZeI (w:World):(ReflectliteType.relation "AssignableTo" ReflectliteType.assignableTo #[.agg #[hand 35],.iface 237 (.agg #[hand 189])]).run Tryz.prog w=.ok (.bool false) w:=by kernel_rfl
theorem ZeJ (w:World):(ReflectliteType.relation "AssignableTo" ReflectliteType.assignableTo #[.agg #[hand 189],.iface 237 (.agg #[hand 35])]).run Tryz.prog w=.ok (.bool false) w:=by kernel_rfl
theorem Znf (v:Value) (a:TypeId) (w:World):(Instr.typeAssert (.iface 189 v) a 241 true).run Tryz.prog w=.ok (.tuple #[.nilIface,.bool false]) w:=
 run_typeAssert_lacksB Tryz.underlying241 (by kernel_rfl) (by kernel_rfl) v a w
theorem Zng (v:Value) (a:TypeId) (w:World):(Instr.typeAssert (.iface 35 v) a 241 true).run Tryz.prog w=.ok (.tuple #[.nilIface,.bool false]) w:=
 run_typeAssert_lacksB Tryz.underlying241 (by kernel_rfl) (by kernel_rfl) v a w
theorem Zfn (v:Value) (a:TypeId) (w:World):(Instr.typeAssert (.iface 189 v) a 244 true).run Tryz.prog w=.ok (.tuple #[.iface 189 v,.bool true]) w:=
 run_typeAssert_hasB Tryz.underlying244 (by kernel_rfl) v a w
theorem Zek (v:Value) (a:TypeId) (w:World):(Instr.typeAssert (.iface 35 v) a 244 true).run Tryz.prog w=.ok (.tuple #[.nilIface,.bool false]) w:=
 run_typeAssert_lacksB Tryz.underlying244 (by kernel_rfl) (by kernel_rfl) v a w
theorem ZdD (v:Value) (a:TypeId) (w:World):(Instr.typeAssert (.iface 35 v) a 246 true).run Tryz.prog w=.ok (.tuple #[.nilIface,.bool false]) w:=
 run_typeAssert_lacksB Tryz.underlying246 (by kernel_rfl) (by kernel_rfl) v a w
theorem Zel (a:Addr) (w:World):(nilAhead 437 189 (.pointer (some a)) "Unwrap").run Tryz.prog w=.ok (some false) w:=by kernel_rfl
theorem Zct (a:Addr) (w:World):(Go.method 437 189 (.pointer (some a)) "Unwrap").run Tryz.prog w=.ok (253,.pointer (some a)) w:=by kernel_rfl
def IsErr (w:World):Value→List (ByteArray × Int)→Int→Prop
 | v,[],code=>v=.iface 35 (.int .i64 code)
 | v,(name,at_)::r,code=>∃ (a:Nat) (inner:Value),v=.iface 189 (.pointer (some ⟨a,0,none⟩)) ∧
   w.heap[a]?=some (.cells #[.string name,.int .i64 at_,.int .i64 ((r.length:Int)+1),inner] 192 (0,0))∧IsErr w inner r code
theorem IsErr.keep {w w':World}:∀ {v:Value} {l:List (ByteArray × Int)} {b:Int},IsErr w v l b→(∀ (k:Nat) (o:Obj),w.heap[k]?=some o→w'.heap[k]?=some o)→IsErr w' v l b
 | v,[],b,h,_=>h
 | v,(name,at_)::r,b,h,hk=>by
  obtain ⟨a,c,d,e,f⟩:=h;exact ⟨a,c,d,hk _ _ e,f.keep hk⟩
theorem IsErr.next {w w':World} {v:Value} {l:List (ByteArray × Int)} {a:Int} (h:IsErr w v l a) (c:Below w.heap.size w w'):IsErr w' v l a:=
 h.keep fun k o b=>by rw [c.block k (Kab.1 b).1];exact b
theorem IsErr.iface {w:World} {v:Value} {l:List (ByteArray × Int)} {b:Int} (h:IsErr w v l b):∃ t x,v=.iface t x:=by
 cases l with
 | nil=>exact ⟨_,_,h⟩
 | cons p r=>obtain ⟨a,d,c,_⟩:=h;exact ⟨_,_,c⟩
theorem Zem (a:Nat) (name:ByteArray) (at_ d:Int) (b:Value) (w:World) (c:w.heap[a]?=some (.cells #[.string name,.int .i64 at_,.int .i64 d,b] 192 (0,0))):
  Calls Tryz.prog 253 #[.pointer (some ⟨a,0,none⟩)] w fun e w'=>e=.returned b∧w=w':=by
 have g:w.cell? ⟨a,3,none⟩=some b:=cell_of_row w a 3 _ _ (0,0) c;clear c
 go_enter Tryz.func253,Tryz.ntmps253
 go_wp2
 go_ret;exact ⟨rfl,rfl⟩
def Zc9 (w:World) (v:Value):Nat:=
 match v with
 | .iface _ (.pointer (some a))=>match w.cell? ⟨a.block,2,none⟩ with
  | some (.int _ d)=>d.toNat
  | _=>0
 | _=>0
theorem ZbO {w:World} {v:Value} {l:List (ByteArray × Int)} {b:Int} (h:IsErr w v l b):Zc9 w v=l.length:=by
 cases l with
 | nil=>
  have c:v=.iface 35 (.int .i64 b):=h;subst c;rfl
 | cons p r=>
  obtain ⟨a,f,rfl,d,_⟩:=h;have e:w.cell? ⟨a,2,none⟩=some (.int .i64 ((r.length:Int)+1)):=cell_of_row w a 2 _ _ (0,0) d;unfold Zc9;simp only;rw [e];simp
def AsRel (w:World) (code:Int) (v:Value):Prop:=∃ r:List (ByteArray × Int),IsErr w v r code
attribute [irreducible] Zc9
theorem as_EC (l:List (ByteArray × Int)) (d:Int) (v:Value) (t a:Addr) (old:Value) (w:World) (n:IsErr w v l d) (j:w.cell? a=some (.pointer (some t))) (k:w.cell? t=some old) (q:w.frozen? t=false):
  Calls Tryz.prog 92 #[v,.iface 104 (.pointer (some t)),.agg #[hand 104,.pointer (some a),.int .u64 150],.iface 237 (.agg #[hand 35])] w fun e w'=>
   e=.returned (.bool true)∧Wrote w w' t (.int .i64 d):=by
 have z:a.block<w.heap.size:=World.block_lt_of_cell? w a j;have s:t.block<w.heap.size:=World.block_lt_of_cell? w t k;have I:=Zcm;have J:=Zb7;have L:=Zfr;have M:=Zik;have N:=ZbP;have O:=Zd3;have P:=ZjV;have Q:=ZaZ;have R:=Zdr;have S:=ZeJ;have T:=Zfp;have V:=Znf;have W:=Zfn;have X:=Zel;have Y:=Zct;obtain ⟨b,c⟩:=Ky (w.alloc (.cells #[hand 104,.pointer (some a),.int .u64 150] 171));have x:AsRel b d v:=⟨l,by rw [c];exact n.next ((Kai _ _).alloc (Kag _) _)⟩
 have el:=Zij a t b (by rw [c,World.cell?_alloc_lt _ _ a z];exact j)
 have Z:=E_set t ⟨w.heap.size+1,0,none⟩ d old (b.alloc (.cells #[.int .i64 d] 35))
  (by rw [c,World.cell?_alloc_at _ _ _ _ (by simp)];rfl)
  (by rw [c,World.cell?_alloc_lt _ _ t (by simp;omega),World.cell?_alloc_lt _ _ t s];exact k)
  (by rw [c,World.frozen?_alloc_old _ _ t (by simp;omega),World.frozen?_alloc_old _ _ t (Nat.ne_of_lt s)];exact q)
 have B:b.cell? ⟨w.heap.size,0,none⟩=some (hand 104)∧b.cell? ⟨w.heap.size,1,none⟩=some (.pointer (some a))∧b.cell? ⟨w.heap.size,2,none⟩=some (.int .u64 150):=by
  have m:=Kw c;exact ⟨cell_of_row _ _ 0 _ _ (0,0) m,cell_of_row _ _ 1 _ _ (0,0) m,cell_of_row _ _ 2 _ _ (0,0) m⟩
 have a0:b.heap.size=w.heap.size+1:=by rw [c];simp
 obtain ⟨a1,a2,a3⟩:=B;have C:=Kz c
 go_enter Tryz.func92,Tryz.ntmps92
 go_wp2
 rw [←c];clear c n j k q
 go_loop [0] (fun v=>AsRel b d v) (fun v=>Zc9 b v)
 case atStart=>exact x
 case round=>
  clear x;obtain ⟨r,h⟩:=hrel
  cases r with
  | nil=>
   obtain rfl:=(show _=_ from h)
   clear h
   go_wp2
   go_ret;exact ⟨rfl,b.alloc (.cells #[.int .i64 d] 35),by rw [C.o];exact ((Kai _ _).alloc (Kag _) _).alloc (by simp) _,rfl⟩
  | cons p r=>
   have D:=Kz (ZbO h);obtain ⟨g,a4,rfl,y,i⟩:=h;have E:=Kz (ZbO i);have F:=Kz i;have H:=Kz y;obtain ⟨a5,a6,rfl⟩:=i.iface;clear i y
   go_wp2_with (go_at_call 253;refine (Zem g _ _ _ _ _ H.o).mono ?_;rintro e w' ⟨rfl,rfl⟩)
   exact ⟨⟨r,F.o⟩,by rw [D.o,E.o];simp⟩
theorem as_PE (n:Int) (t a:Addr) (w:World) (b:w.cell? a=some (.pointer (some t))):
  Calls Tryz.prog 92 #[.iface 35 (.int .i64 n),.iface 190 (.pointer (some t)),.agg #[hand 190,.pointer (some a),.int .u64 150],.iface 237 (.agg #[hand 189])] w fun e w'=>
   e=.returned (.bool false)∧Below w.heap.size w w':=by
 have c:=Zcm;have d:=Zb7;have g:=Zd3;have h:=ZaZ;have i:=ZeI;have j:=Zng;have k:=Zek;have l:=ZdD
 go_enter Tryz.func92,Tryz.ntmps92
 go_wp2
 refine wp_loop_rounds 1 ?_;rw [rounds_succ]
 go_wp2
 go_ret;exact ⟨rfl,(Kai _ _).alloc (Kag _) _⟩
theorem ZfZ {w:World} {b c:Obj} {a:Addr} {v:Value} (h:w.cell? a=some v):((w.alloc b).alloc c).cell? a=some v:=by
 have d:=World.block_lt_of_cell? w a h;rw [World.cell?_alloc_lt _ _ a (by simp;omega),World.cell?_alloc_lt _ _ a d]
 exact h
theorem ZlT {w:World} {b c:Obj} {a:Addr} {v:Value} (h:w.cell? a=some v) (d:w.frozen? a=false):((w.alloc b).alloc c).frozen? a=false:=by
 have e:=World.block_lt_of_cell? w a h;rw [World.frozen?_alloc_old _ _ a (by simp;omega),World.frozen?_alloc_old _ _ a (Nat.ne_of_lt e)]
 exact d
theorem Zii (w:World) (a b:Obj):Below w.heap.size w ((w.alloc a).alloc b):=((Kai _ _).alloc (Kag _) _).alloc (by simp) _
theorem As_EC (l:List (ByteArray × Int)) (a:Int) (v:Value) (t:Addr) (old:Value) (w:World) (c:w.cell? ⟨0,0,none⟩=some ETy) (b:IsErr w v l a) (d:w.cell? t=some old) (h:w.frozen? t=false):
  Calls Tryz.prog 48 #[v,.iface 104 (.pointer (some t))] w fun e w'=>e=.returned (.bool true)∧Wrote w w' t (.int .i64 a):=by
 unfold ETy at c;obtain ⟨q,xv,rfl⟩:=b.iface;have r:=ZbP;have s:=ZgJ;have x:=Zfq;have y:=ZgK;have z:=ZgL;have B:=Zcu;have C:=Zhy;have D:=ZlU;have E:=Zdp;have F:=Zdq;have H:=Zb4;have I:=ZlV;have J:=Znh;have L:=Zni;have M:=Zfo;have N:=ZjX ⟨w.heap.size,0,none⟩ t ((w.alloc (.cells #[.pointer (some t)] 104)).alloc (.cells #[hand 104,.pointer (some ⟨w.heap.size,0,none⟩),.int .u64 150] 171)) (by simp)
 have O:((w.alloc (.cells #[.pointer (some t)] 104)).alloc (.cells #[hand 104,.pointer (some ⟨w.heap.size,0,none⟩),.int .u64 150] 171)).cell? ⟨0,0,none⟩=some (.iface 237 (.agg #[hand 28])):=ZfZ c;have k:=Kz b;have i:=Kz d;have m:=Kz h;clear b d h
 go_enter Tryz.func48,Tryz.ntmps48
 go_wp2_with fail
 refine (as_EC l a _ t ⟨w.heap.size,0,none⟩ old _ (k.o.next (Zii _ _ _)) (by rw [World.cell?_alloc_lt _ _ ⟨w.heap.size,0,none⟩ (by simp)];simp) (ZfZ i.o) (ZlT i.o m.o)).mono ?_
 rintro e w' ⟨rfl,j⟩
 have n:=Kz j;clear j
 go_wp2
 go_ret;refine ⟨rfl,?_⟩;obtain ⟨w1,p,rfl⟩:=n.o;exact ⟨w1,(Zii w _ _).trans (p.mono (by simp;omega)),rfl⟩
theorem As_PE (n:Int) (t:Addr) (w:World) (a:w.cell? ⟨0,0,none⟩=some ETy):
  Calls Tryz.prog 48 #[.iface 35 (.int .i64 n),.iface 190 (.pointer (some t))] w fun e w'=>e=.returned (.bool false)∧Below w.heap.size w w':=by
 unfold ETy at a;have d:=ZbP;have h:=ZgJ;have i:=Zfq;have j:=ZgK;have k:=ZgL;have l:=Zcu;have m:=Zhx;have p:=ZlR;have q:=Zdp;have r:=Zdq;have s:=Zb4;have v:=ZlS;have x:=Znd;have y:=Zne;have z:=Zfm;have B:=ZjU ⟨w.heap.size,0,none⟩ t ((w.alloc (.cells #[.pointer (some t)] 190)).alloc (.cells #[hand 190,.pointer (some ⟨w.heap.size,0,none⟩),.int .u64 150] 171)) (by simp)
 have C:((w.alloc (.cells #[.pointer (some t)] 190)).alloc (.cells #[hand 190,.pointer (some ⟨w.heap.size,0,none⟩),.int .u64 150] 171)).cell? ⟨0,0,none⟩=some (.iface 237 (.agg #[hand 28])):=ZfZ a
 go_enter Tryz.func48,Tryz.ntmps48
 go_wp2_with fail
 refine (as_PE n t ⟨w.heap.size,0,none⟩ _ (by rw [World.cell?_alloc_lt _ _ ⟨w.heap.size,0,none⟩ (by simp)];simp)).mono ?_
 rintro e w' ⟨rfl,b⟩
 have c:=Kz b;clear b
 go_wp2
 go_ret;exact ⟨rfl,(Zii w _ _).trans (c.o.mono (by simp;omega))⟩
def ETyped (w:World):Prop:=w.cell? ⟨0,0,none⟩=some ETy
theorem ETyped.lt {w:World} (h:ETyped w):0<w.heap.size:=World.block_lt_of_cell? w _ h
theorem ETyped.next {w w':World} (h:ETyped w) (a:Below w.heap.size w w'):ETyped w':=(a.cell (p:=⟨0,0,none⟩) h.lt).trans h
theorem ETyped.drewN {w:World} (h:ETyped w) (n:Nat):ETyped (w.drewN n):=h
def OutE (W:World) (l:List (ByteArray × Int)) (code:Int) (e:Ending) (w':World):Prop:=∃ v,e=.returned v∧IsErr w' v l code∧Below W.heap.size W w'
theorem ZjW (l:List (ByteArray × Int)) (a:Int) (v:Value) (w:World) (b:ETyped w) (c:IsErr w v l a):
  Calls Tryz.prog 20 #[v] w fun e w'=>e=.returned (.int .i64 a)∧Below w.heap.size w w':=by
 have k:=b.lt;obtain ⟨m,xv,rfl⟩:=c.iface;have h:=Kz b;have i:=Kz c;clear b c
 go_enter Tryz.func20,Tryz.ntmps20
 go_wp2_with fail
 refine (As_EC l a _ ⟨w.heap.size,0,none⟩ (.int .i64 0) _ (h.o.next ((Kai _ _).alloc (Kag _) _)) (i.o.next ((Kai _ _).alloc (Kag _) _)) (by simp) (by simp)).mono ?_
 rintro e w' ⟨rfl,d⟩
 have g:Below w.heap.size w w':=((Kai _ _).alloc (Kag _) _).trans (d.below (by simp) (by simp))
 have n:=d.cell (old:=.int .i64 0) (by simp)
 have j:=Kz g;clear g d
 go_wp2
 go_ret;exact ⟨rfl,j.o⟩
theorem ZdE (a:Int) (name:ByteArray) (at_:Int) (w:World) (c:ETyped w):
  Calls Tryz.prog 53 #[.iface 35 (.int .i64 a),.string name,.int .i64 at_] w (OutE w [(name,at_)] a):=by
 have i:=Kz c;clear c
 go_enter Tryz.func53,Tryz.ntmps53
 go_wp2_with fail
 refine (As_PE a ⟨w.heap.size,0,none⟩ _ (i.o.next ((Kai _ _).alloc (Kag _) _))).mono ?_
 rintro e b ⟨rfl,d⟩
 have g:Below w.heap.size w b:=((Kai _ _).alloc (Kag _) _).trans (d.mono (by simp))
 have h:=Kz g;clear g d
 go_wp2
 go_ret;exact ⟨_,rfl,⟨b.heap.size,_,rfl,Kac b _,rfl⟩,h.o.alloc h.o.size _⟩
end Go.Proofs.YtghlnncfigkkaaaGreatDoor
set_option maxRecDepth 100000
set_option maxHeartbeats 4000000
namespace Go.Proofs.YtghlnncfigkkaaaGreatDoor
open Go.RowKit Go.Extern.Stop Go.Stop Go.Extern
end Go.Proofs.YtghlnncfigkkaaaGreatDoor
