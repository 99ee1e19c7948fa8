/-
 Numbers of the kind u64 as Lean's own words: plain lemmas, no program.
-/
import Derived.WalkKit
import Derived.WalkSpells
import Derived.WalkLawsBesides
import Derived.OpenShut
import Derived.Lib.Hide
import Derived.Deep.Draws
import Derived.Laws.OwnMore
import Derived.Test.YtghlnncfigkkaaaGreatDoorRows
set_option linter.unusedVariables false
set_option linter.unusedSimpArgs false
namespace Go.Proofs.YtghlnncfigkkaaaGreatDoor
open Go.RowKit
abbrev U (x:UInt64):Value:=.int .u64 (x.toNat:Int)
def addW (x y:UInt64):UInt64:=x+y
def subW (x y:UInt64):UInt64:=x-y
def mulW (x y:UInt64):UInt64:=x*y
def negW (x:UInt64):UInt64 := -x
def xorW (x y:UInt64):UInt64:=x ^^^ y
def andW (x y:UInt64):UInt64:=x &&& y
def orW (x y:UInt64):UInt64:=x ||| y
def shlW (x n:UInt64):UInt64:=x <<< n
def shrW (x n:UInt64):UInt64:=x >>> n
def ltW (x y:UInt64):Bool:=decide (x<y)
def up63 (x:UInt64):UInt64:=x+9223372036854775808
theorem wrapN (n:Int):IntKind.u64.wrap n=n % 18446744073709551616:=by
 simp [IntKind.wrap,IntKind.bits,IntKind.signed]
theorem Zcg (x y:UInt64):IntKind.u64.wrap ((x.toNat:Int)+(y.toNat:Int))=((addW x y).toNat:Int):=by
 unfold addW;rw [wrapN,UInt64.toNat_add];omega
theorem Zc4 (x y:UInt64):IntKind.u64.wrap ((x.toNat:Int)*(y.toNat:Int))=((mulW x y).toNat:Int):=by
 unfold mulW;rw [wrapN,UInt64.toNat_mul,←Int.natCast_mul];omega
theorem Zfc (x y:UInt64):IntKind.u64.wrap ((x.toNat:Int)-(y.toNat:Int))=((subW x y).toNat:Int):=by
 have:=x.toNat_lt;have:=y.toNat_lt;unfold subW;rw [wrapN,UInt64.toNat_sub];omega
theorem Zgz (x:UInt64):IntKind.u64.wrap (-(x.toNat:Int))=((negW x).toNat:Int):=by
 have:=x.toNat_lt;unfold negW;rw [wrapN,UInt64.toNat_neg];simp only [UInt64.size];omega
theorem ZbA (x y:UInt64):(((x.toNat:Int))==((y.toNat:Int)))=(x==y):=by
 rw [Bool.eq_iff_iff,beq_iff_eq,beq_iff_eq,←UInt64.toNat_inj];omega
theorem Zch (x y:UInt64):(((x.toNat:Int)) != ((y.toNat:Int)))=(x != y):=by
 unfold bne;rw [ZbA]
theorem ZlI (x y:UInt64):decide (((x.toNat:Int))<((y.toNat:Int)))=ltW x y:=by
 unfold ltW;rw [decide_eq_decide,UInt64.lt_iff_toNat_lt];omega
theorem ZaL (x:UInt64):BitVec.ofInt 64 (x.toNat:Int)=x.toBitVec:=by
 rw [BitVec.ofInt_natCast];apply BitVec.eq_of_toNat_eq;simp
theorem Zg0 (x y:UInt64):bits .xor .u64 (x.toNat:Int) (y.toNat:Int)=((xorW x y).toNat:Int):=by
 show IntKind.u64.wrap ((BitVec.ofInt 64 (x.toNat:Int) ^^^ BitVec.ofInt 64 (y.toNat:Int)).toNat:Int)=_
 rw [ZaL,ZaL,wrapN];have:(xorW x y).toNat=(x.toBitVec ^^^ y.toBitVec).toNat:=rfl;rw [this];have:=(x.toBitVec ^^^ y.toBitVec).isLt;omega
theorem Zg1 (x y:UInt64):bits .and .u64 (x.toNat:Int) (y.toNat:Int)=((andW x y).toNat:Int):=by
 show IntKind.u64.wrap ((BitVec.ofInt 64 (x.toNat:Int) &&& BitVec.ofInt 64 (y.toNat:Int)).toNat:Int)=_
 rw [ZaL,ZaL,wrapN];have:(andW x y).toNat=(x.toBitVec &&& y.toBitVec).toNat:=rfl;rw [this];have:=(x.toBitVec &&& y.toBitVec).isLt;omega
theorem ZlJ (x y:UInt64):bits .or .u64 (x.toNat:Int) (y.toNat:Int)=((orW x y).toNat:Int):=by
 show IntKind.u64.wrap ((BitVec.ofInt 64 (x.toNat:Int) ||| BitVec.ofInt 64 (y.toNat:Int)).toNat:Int)=_
 rw [ZaL,ZaL,wrapN];have:(orW x y).toNat=(x.toBitVec ||| y.toBitVec).toNat:=rfl;rw [this];have:=(x.toBitVec ||| y.toBitVec).isLt;omega
theorem Zn7 {n:Int} (h:(Lit.int .u64 n).wf=true):∃ x:UInt64,n=(x.toNat:Int):=by
 have a:0≤n∧n≤18446744073709551615:=Go.bounds_u64 h;refine ⟨UInt64.ofNat n.toNat,?_⟩;rw [UInt64.toNat_ofNat_of_lt' (by simp only [UInt64.size];omega)];omega
theorem Zhi (x:UInt64):IntKind.u64.wrap ((x.toNat:Int)+9223372036854775808)=((up63 x).toNat:Int):=Zcg x 9223372036854775808
theorem Zjp (x:UInt64):IntKind.u64.wrap ((x.toNat:Int)*2)=((shlW x 1).toNat:Int):=by
 unfold shlW;rw [wrapN,UInt64.toNat_shiftLeft];simp [Nat.shiftLeft_eq]
theorem ZbL (x:UInt64):((x.toNat:Int) / 9223372036854775808)=((shrW x 63).toNat:Int):=by
 unfold shrW;rw [UInt64.toNat_shiftRight];simp [Nat.shiftRight_eq_div_pow]
theorem ZdB (x:UInt64):((x.toNat:Int) / 2)=((shrW x 1).toNat:Int):=by
 unfold shrW;rw [UInt64.toNat_shiftRight];simp [Nat.shiftRight_eq_div_pow]
theorem ZeA (x:UInt64):((x.toNat:Int).tdiv 9223372036854775808)=((shrW x 63).toNat:Int):=by
 rw [←ZbL,Int.tdiv_eq_ediv_of_nonneg (by omega)]
theorem ZfM (x:UInt64):((x.toNat:Int).tdiv 2)=((shrW x 1).toNat:Int):=by
 rw [←ZdB,Int.tdiv_eq_ediv_of_nonneg (by omega)]
theorem Zhj (x:UInt64):IntKind.u64.wrap (x.toNat:Int)=(x.toNat:Int):=by
 have:=x.toNat_lt;rw [wrapN];omega
theorem Zhk (x:UInt64):bits .and .u64 (x.toNat:Int) 1=((andW x 1).toNat:Int):=Zg1 x 1
theorem ZcT (x:UInt64):((x.toNat:Int) % 2)=((andW x 1).toNat:Int):=by
 have h:(andW x 1).toNat=x.toNat &&& 1:=UInt64.toNat_and x 1;rw [h,Nat.and_one_is_mod];omega
theorem ZdV (x:UInt64):((x.toNat:Int).tmod 2)=((andW x 1).toNat:Int):=by
 rw [←ZcT,Int.tmod_eq_emod_of_nonneg (by omega)]
theorem ZeB (x:UInt64):bits .xor .u64 (x.toNat:Int) 135=((xorW x 135).toNat:Int):=Zg0 x 135
theorem ZcU (x:UInt64):((x.toNat:Int)==1)=(x==1):=ZbA x 1
theorem Zhl (x:UInt64):decide ((9223372036854775808:Int)≤(x.toNat:Int))=(shrW x 63==1):=by
 rw [Bool.eq_iff_iff,decide_eq_true_iff,←ZcU,beq_iff_eq,←ZbL];have:=x.toNat_lt;omega
def sI (x:UInt64):Int:=x.toBitVec.toInt
def sarW (x:UInt64) (k:Nat):UInt64:=⟨x.toBitVec.sshiftRight k⟩
def sltW (x y:UInt64):Bool:=decide (sI x<sI y)
theorem sI_eq (x:UInt64):sI x=if x.toNat<9223372036854775808 then (x.toNat:Int) else (x.toNat:Int)-18446744073709551616:=by
 unfold sI;rw [BitVec.toInt_eq_toNat_cond];have:x.toBitVec.toNat=x.toNat:=rfl;rw [this];split <;> split <;> omega
theorem Zjq (x:UInt64):IntKind.i64.wrap (x.toNat:Int)=sI x:=by
 rw [IntKind.wrap_i64,sI_eq];have:=x.toNat_lt;split <;> omega
theorem ZbT (x:UInt64) (k:Nat):IntKind.u64.wrap (sI x / 2 ^ k)=((sarW x k).toNat:Int):=by
 rw [wrapN];have h:(sarW x k).toNat=(x.toBitVec.sshiftRight k).toNat:=rfl;have a:=BitVec.toInt_sshiftRight (x:=x.toBitVec) (n:=k);rw [Int.shiftRight_eq_div_pow] at a;unfold sI;rw [show ((2:Int) ^ k)=((2 ^ k:Nat):Int) from by simp,←a,h]
 rw [BitVec.toInt_eq_toNat_cond];have:=(x.toBitVec.sshiftRight k).isLt;split <;> omega
theorem ZcV (x:UInt64):IntKind.u64.wrap (sI x / 9223372036854775808)=((sarW x 63).toNat:Int):=ZbT x 63
theorem Zg2 (x:UInt64):IntKind.u64.wrap (sI x)=(x.toNat:Int):=by
 rw [wrapN,sI_eq];have:=x.toNat_lt;split <;> omega
theorem ZlK (x y:UInt64):decide (sI x<sI y)=sltW x y:=rfl
def mul63 (x:UInt64):UInt64:=x*9223372036854775808
theorem ZdW (x:UInt64):IntKind.u64.wrap ((x.toNat:Int)*9223372036854775808)=((mul63 x).toNat:Int):=Zc4 x 9223372036854775808
theorem ZhS (x:UInt64):IntKind.u64.wrap (9223372036854775808*(x.toNat:Int))=((mul63 x).toNat:Int):=by rw [Int.mul_comm,ZdW]
attribute [irreducible] mul63
attribute [irreducible] sI sarW sltW
attribute [irreducible] addW subW mulW negW xorW andW orW shlW shrW ltW up63
def Rd (w:World) (B:Nat) (A:Option Addr) (xs:List Value):Prop:=
 xs=[]∨∃ b o,A=some ⟨b,o,none⟩∧b<B∧∀ (j:Nat) (v:Value),xs[j]?=some v→w.cell? ⟨b,o+j,none⟩=some v
section
variable {w w':World} {B B':Nat} {A:Option Addr} {xs:List Value}
theorem Rd.nil (w:World) (B:Nat) (A:Option Addr):Rd w B A []:=.inl rfl
theorem Rd.keep (h:Rd w B A xs) (c:∀ p:Addr,p.block<B→w'.cell? p=w.cell? p):Rd w' B A xs:=by
 rcases h with h | ⟨b,o,d,a,e⟩
 ·exact .inl h
 ·exact .inr ⟨b,o,d,a,fun j v f=>(c ⟨b,o+j,none⟩ a).trans (e j v f)⟩
theorem Rd.more (h:Rd w B A xs) (a:B≤B'):Rd w B' A xs:=by
 rcases h with h | ⟨b,o,c,d,e⟩
 ·exact .inl h
 ·exact .inr ⟨b,o,c,Nat.lt_of_lt_of_le d a,e⟩
theorem Rd.below (h:Rd w B A xs) (a:Below B w w'):Rd w' B A xs:=h.keep fun _ b=>a.cell b
theorem Rd.drewN (h:Rd w B A xs) (k:Nat):Rd (w.drewN k) B A xs:=h
theorem Rd.alloc (h:Rd w B A xs) (a:B≤w.heap.size) (o:Obj):Rd (w.alloc o) B A xs:=h.keep fun p b=>World.cell?_alloc_lt w o p (Nat.lt_of_lt_of_le b a)
theorem Rd.at_ (h:Rd w B A xs) {k:Nat} {v:Value} (a:xs[k]?=some v):∃ b o,A=some ⟨b,o,none⟩∧b<B∧w.cell? ⟨b,o+k,none⟩=some v:=by
 rcases h with rfl | ⟨b,o,c,d,e⟩
 ·simp at a
 ·exact ⟨b,o,c,d,e k v a⟩
theorem Rd.of_block {g:Nat} {a:Array Value} {t:TypeId} (h:w.heap[g]?=some (.cells a t (0,0))) (c:g<B) {l:List Value} (d:l <+: a.toList):Rd w B (some ⟨g,0,none⟩) l:=by
 refine .inr ⟨g,0,rfl,c,fun j v b => ?_⟩
 rw [Nat.zero_add,cell_of_row w g j a t (0,0) h];obtain ⟨r,e⟩:=d;have:a.toList[j]?=some v:=by rw [←e,List.getElem?_append_left (List.getElem?_eq_some_iff.1 b).1];exact b
 simpa using this
theorem Rd.take (h:Rd w B A xs) (n:Nat):Rd w B A (xs.take n):=by
 rcases h with rfl | ⟨b,o,c,d,e⟩
 ·exact .inl (by simp)
 ·refine .inr ⟨b,o,c,d,fun j v a=>e j v ?_⟩
  rw [List.getElem?_take] at a;split at a
  ·exact a
  ·cases a
end
def nthW (l:List UInt64) (k:Nat):UInt64:=l.getD k 0
theorem Zhm (l:List UInt64) {k:Nat} (h:k<l.length):(l.map U)[k]?=some (U (nthW l k)):=by
 rw [List.getElem?_map,List.getElem?_eq_getElem h];simp [nthW,List.getD_eq_getElem?_getD,List.getElem?_eq_getElem h]
theorem Rd.word {w:World} {B:Nat} {A:Option Addr} {l:List UInt64} (h:Rd w B A (l.map U)) {k:Nat} (a:k<l.length):
  ∃ b o,A=some ⟨b,o,none⟩∧b<B∧w.cell? ⟨b,o+k,none⟩=some (U (nthW l k)):=h.at_ (Zhm l a)
def BlkW (w:World) (t:TypeId) (g:Nat) (l:List UInt64):Prop:=w.heap[g]?=some (.cells (l.map U).toArray t (0,0))
section
variable {w w':World} {t:TypeId} {g:Nat} {l:List UInt64}
theorem BlkW.lt (h:BlkW w t g l):g<w.heap.size:=(Array.getElem?_eq_some_iff.1 h).1
theorem BlkW.cell (h:BlkW w t g l) {k:Nat} (a:k<l.length):w.cell? ⟨g,k,none⟩=some (U (nthW l k)):=by
 rw [cell_of_row w g k _ t (0,0) h,List.getElem?_toArray,Zhm l a]
theorem BlkW.free (h:BlkW w t g l) (k:Nat):w.frozen? ⟨g,k,none⟩=false:=by
 unfold BlkW at h;simp [World.frozen?,h]
theorem BlkW.set (h:BlkW w t g l) (k:Nat) (x:UInt64):BlkW (w.setCell ⟨g,k,none⟩ (U x)) t g (l.set k x):=by
 unfold BlkW at h ⊢;simp [World.setCell,Array.getElem?_modify,h]
theorem BlkW.drew (h:BlkW w t g l):BlkW w.drew t g l:=h
theorem BlkW.drewN (h:BlkW w t g l) (n:Nat):BlkW (w.drewN n) t g l:=h
end
attribute [irreducible] nthW
theorem Zbo (l:List UInt64) (k:Nat):nthW l k=l.getD k 0:=by unfold nthW;rfl
theorem Rd.next {w w':World} {A:Option Addr} {xs:List Value} (h:Rd w w.heap.size A xs) (a:Below w.heap.size w w'):Rd w' w'.heap.size A xs:=(h.below a).more a.size
theorem bnext {W w w':World} (h:Below W.heap.size W w) (a:Below w.heap.size w w'):Below W.heap.size W w':=h.trans (a.mono h.size)
theorem Zaa {B:Nat} {a w:World} (h:Below B a w) (n:Nat):Below B a (w.drewN n):=⟨h.os,h.tape,h.output,h.size,h.block⟩
abbrev V8 (x:UInt8):Value:=.int .u8 (x.toNat:Int)
def byteN (n:Nat):UInt8:=UInt8.ofNat n
def numB (n:Nat):List UInt8:=if h:n<128 then [byteN n] else byteN (n % 128+128)::numB (n / 128)
termination_by n
decreasing_by omega
def valB:List UInt8→Nat
 | []=>0
 | c::r=>c.toNat % 128+128*valB r
attribute [irreducible] byteN
def cutA (A:Option Addr) (l size m:Nat):Option Addr:=if m=l then A else A.map (·.add (l*size))
theorem ZfO {P:Program} {t e:TypeId} {size:Nat} (a:P.underlying t=some (.slice e)) (b:∀ W,(sizeOf e).run P W=.ok size W) (A:Option Addr) {n c k:Nat} (f:k≤n) (W:World):
  (Instr.slice t (.slice A n c) (some (.int .i64 k)) none none).run P W=.ok (.slice (cutA A k size c) (n-k) (c-k)) W:=by
 have d:(Instr.sliceBounds true n c (some (.int .i64 k)) none none).run P W=.ok (k,n,c) W:=by
  unfold Instr.sliceBounds;have:=run_sliceBound (P:=P) (w:=W) .i64 (k:Int) n .sliceB (by omega) (by omega)
  simp [go_sem,this]
 simp only [Instr.slice,Sem.run_bind,run_underlying a,Result.andThen_ok,d,b,Sem.run_pure];rfl
theorem Za2 {P:Program} {t e:TypeId} {size:Nat} (a:P.underlying t=some (.slice e)) (b:∀ W,(sizeOf e).run P W=.ok size W) (A:Option Addr) {n c k:Nat} (d:k≤n) (W:World):
  (Instr.sliceAt t (.slice A n c) (some (.int .i64 k)) none none).run P W=.ok (.slice (cutA A k size c) (n-k) (c-k)) W:=by
 unfold Instr.sliceAt;simp only [Sem.run_bind,run_underlying a,Result.andThen_ok,ZfO a b A d]
theorem ZaB {P:Program} {t e:TypeId} {size:Nat} (a:P.underlying t=some (.slice e)) (b:∀ W,(sizeOf e).run P W=.ok size W) (A:Option Addr) {n c h:Nat} (i:h≤c) (W:World):
  (Instr.sliceAt t (.slice A n c) none (some (.int .i64 h)) none).run P W=.ok (.slice (cutA A 0 size c) h c) W:=by
 have d:(Instr.sliceBounds true n c none (some (.int .i64 h)) none).run P W=.ok (0,h,c) W:=by
  unfold Instr.sliceBounds;have f:=run_sliceBound (P:=P) (w:=W) .i64 (h:Int) c .sliceAcap (by omega) (by omega)
  simp [go_sem,f]
 unfold Instr.sliceAt;simp only [Sem.run_bind,run_underlying a,Result.andThen_ok];simp only [Instr.slice,Sem.run_bind,run_underlying a,Result.andThen_ok,d,b,Sem.run_pure];rfl
theorem Zbl (A:Option Addr) (size c:Nat) (h:A=none∨∃ b o,A=some ⟨b,o,none⟩):cutA A 0 size c=A:=by
 unfold cutA;split
 ·rfl
 ·rcases h with rfl | ⟨b,o,rfl⟩
  ·rfl
  ·simp [Addr.add]
theorem Rd.cut {w:World} {B:Nat} {A:Option Addr} {xs:List Value} (h:Rd w B A xs) {k c:Nat} (i:xs.length≤c):Rd w B (cutA A k 1 c) (xs.drop k):=by
 unfold cutA;split
 ·rename_i e
  rw [List.drop_eq_nil_of_le (by omega)]
  exact Rd.nil _ _ _
 ·rcases h with rfl | ⟨b,o,rfl,d,f⟩
  ·rw [List.drop_nil];exact Rd.nil _ _ _
  ·refine .inr ⟨b,o+k,?_,d,fun j v a => ?_⟩
   ·simp [Addr.add]
   ·rw [List.getElem?_drop] at a;rw [Nat.add_assoc];exact f _ _ a
def minN (a b:Nat):Nat:=min a b
theorem Zjt (a b:Nat):minN a b≤a∧minN a b≤b∧(minN a b=a∨minN a b=b):=by unfold minN;omega
theorem Zg3 {P:Program} (w:World) (ts:Array TypeId) (t:TypeId) (a b:Nat):(Builtin.min_ ts t #[.int .i64 (a:Int),.int .i64 (b:Int)]).run P w=.ok (.int .i64 (minN a b:Nat)) w:=by
 rw [run_min_int2]
 congr 2
 unfold minN;split <;> omega
attribute [irreducible] minN
attribute [irreducible] cutA
theorem Kaa {w : World} {g : Nat} {a : Array Value} {t : TypeId} {b : Nat × Nat} (j : Nat) (c : w.heap[g]? = some (.cells a t b)) : w.cell? ⟨g, j, none⟩ = a[j]? := cell_of_row w g j a t b c
def Hd (p : Prop) : Prop := p
theorem Kz {p : Prop} (h : p) : Hd p := h
theorem Hd.o {p : Prop} (h : Hd p) : p := h
theorem Ky.{u} {b : Sort u} (a : b) : ∃ x, x = a := ⟨a, rfl⟩
theorem Kx {w W : World} {o : Obj} {g : Nat} (h : W = w.alloc o) (a : g = w.heap.size) : W.heap[g]? = some o := by rw [h, a]; exact heap_alloc_new w o
theorem Kw {w W : World} {o : Obj} (h : W = w.alloc o) : W.heap[w.heap.size]? = some o := by rw [h]; exact heap_alloc_new w o
theorem Kv {w W : World} {o : Obj} (h : W = w.alloc o) : Below w.heap.size w W := by rw [h]; exact (Below.refl _ _).alloc (Nat.le_refl _) _
theorem Kab {a : Type} {xs : Array a} {i : Nat} {b : a} : xs[i]? = some b ↔ ∃ h : i < xs.size, xs[i] = b := Array.getElem?_eq_some_iff
theorem Kac (w : World) (o : Obj) : (w.alloc o).heap[w.heap.size]? = some o := heap_alloc_new w o
theorem Kad {a : Type} {l : List a} {i : Nat} (h : i < l.length) : l[i]? = some l[i] := List.getElem?_eq_getElem h
theorem Kae {n m k : Nat} (h : n < m) (a : m ≤ k) : n < k := Nat.lt_of_lt_of_le h a
theorem Kaf {a : Type} {xs : List a} {i : Nat} {b : a} : xs[i]? = some b ↔ ∃ h : i < xs.length, xs[i] = b := List.getElem?_eq_some_iff
theorem Kag (n : Nat) : n ≤ n := Nat.le_refl n
theorem Kai (B : Nat) (w : World) : Below B w w := Below.refl B w
theorem Kaj {c : Type} [BEq c] [LawfulBEq c] {a b : c} : (a == b) = false ↔ a ≠ b := beq_eq_false_iff_ne
theorem Kak {a b : Type} {l : List a} (f : a → b) : (l.map f).length = l.length := List.length_map f
theorem Kal {a b : Type} {f : a → b} {l : List a} {i : Nat} : (l.map f)[i]? = Option.map f l[i]? := List.getElem?_map
theorem Kam {b : Type} {l : List b} {i : Nat} {a : b} (h : l[i]? = some a) : a ∈ l := List.mem_of_getElem? h
theorem Kah {n m k : Nat} (h : n ≤ m) (a : m ≤ k) : n ≤ k := Nat.le_trans h a
end Go.Proofs.YtghlnncfigkkaaaGreatDoor
