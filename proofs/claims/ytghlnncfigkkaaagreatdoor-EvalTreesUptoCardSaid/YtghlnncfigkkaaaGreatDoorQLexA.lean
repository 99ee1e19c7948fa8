/-
  Walks of lex's small functions. Walks of the document's between, of lex's run at its two kinds, of the words.
-/
import Derived.Test.YtghlnncfigkkaaaGreatDoorQLexL
import Derived.Test.YtghlnncfigkkaaaGreatDoorQTakeL
import Derived.Test.YtghlnncfigkkaaaGreatDoorRows
import Derived.Test.YtghlnncfigkkaaaGreatDoorShelf
import Derived.Outline
import Derived.Lib.Strings
set_option maxRecDepth 100000
set_option maxHeartbeats 1000000
open Go.Lib (hid)
namespace Go.Proofs.YtghlnncfigkkaaaGreatDoor
set_option linter.unusedVariables false
set_option linter.unusedSimpArgs false
open Go.RowKit
theorem Zdl (c:UInt8) (w:World):Calls Tryz.prog 123 #[V8 c] w fun e w'=>e=.returned (.bool (letB c))∧w=w':=by
 have hb:=c.toNat_lt
 go_enter Tryz.func123,Tryz.ntmps123
 go_wp2
 all_goals
  go_ret
  exact ⟨by first | (unfold letB;simp [*];done) | (unfold letB;simp [*];omega),rfl⟩
theorem Zcd (c:UInt8) (w:World):Calls Tryz.prog 120 #[V8 c] w fun e w'=>e=.returned (.bool (digB c))∧w=w':=by
 have hb:=c.toNat_lt
 go_enter Tryz.func120,Tryz.ntmps120
 go_wp2
 all_goals
  go_ret
  exact ⟨by first | (unfold digB;simp [*];done) | (unfold digB;simp [*];omega),rfl⟩
theorem ZdA (s:ByteArray) (k:Nat):(s.extract k s.size).data.toList=s.data.toList.drop k:=by
 rw [Lib.extract_data]
 rw [List.take_of_length_le (by rw [List.length_drop,Zbe];exact Nat.le_refl _)]
theorem Zhe (s:ByteArray) (at_:Nat) (w:World) (hs:s.size≤100000) (ha:at_≤s.size):
  Calls Tryz.prog 81 #[.string s,.int .i64 at_] w fun e w'=>e=.returned (.int .i64 (Za1 s false at_:Nat))∧w=w':=by
 obtain ⟨R,hR⟩:∃ R,R=Za1 s false at_:=⟨_,rfl⟩
 rw [←hR]
 have HR:=hid hR
 clear hR
 go_enter Tryz.func81,Tryz.ntmps81
 go_wp2
 go_loop [1] (fun iv=>∃ k:Nat,k≤s.size∧iv=.int .i64 k∧R=Za1 s false k) (fun iv=>s.size-(intOf iv).toNat)
 case atStart=>exact ⟨at_,ha,rfl,HR.out⟩
 case round=>
  obtain ⟨k,hk,rfl,hrk⟩:=hrel
  have HK:=hid hrk
  clear hrk
  by_cases hlt:k<s.size
  ·by_cases h35:(s[k].toNat:Int)=35
   ·have q1:((s[k].toNat:Int)==35)=true:=by rw [beq_iff_eq];exact h35
    have hh:=Zgv s hlt h35
    have hge:=Lib.indexByte_ge (s.data.toList.drop k) 10
    obtain ⟨d,hd⟩:∃ d,d=Lib.indexByte (s.data.toList.drop k) 10:=⟨_,rfl⟩
    have HD:=hid hd
    rw [←hd] at hge
    have HH:=hid hh
    by_cases hneg:d<0
    ·have hend:Za1 s true k=s.size:=by
      have h:=Ze5 (s.data.toList.drop k) (by rw [←hd];omega)
      rw [List.length_drop,Zbe] at h
      rw [ZdT,h];omega
     have HE:=hid hend
     clear hd hh h35 hend
     go_wp2_with (go_at_call 119;refine (Tryz.strings_IndexByte _ _ _).mono ?_;rintro e w' ⟨rfl,rfl⟩;rw [ZdA,show ((10:Int).toNat.toUInt8)=(10:UInt8) from rfl,←HD.out])
     go_ret
     exact ⟨by rw [HK.out,←HH.out.2,HE.out];rfl,rfl⟩
    ·obtain ⟨j,rfl⟩:∃ j:Nat,d=(j:Int):=⟨d.toNat,by omega⟩
     have hsh:=Ze6 (s.data.toList.drop k) j hd.symm
     have hsome:=(Lib.indexByte_some hd.symm).1
     rw [List.getElem?_drop] at hsome
     have hj:k+j<s.size:=by
      have:=(List.getElem?_eq_some_iff.1 hsome).1
      rw [Zbe] at this
      exact this
     have hten:(s[k+j].toNat:Int)=10:=by
      have:=(List.getElem?_eq_some_iff.1 hsome).2
      have e:s[k+j]=10:=this
      rw [e];rfl
     have hfin:Za1 s false k=Za1 s false (k+j+1):=by
      rw [←hh.2,←Zdy s hj (.inr (.inl hten)),←Zgw s hj hten]
      rw [ZdT,ZdT,hsh,List.drop_drop];omega
     have HF:=hid hfin
     clear hd hh h35 hsh hsome hten hfin
     go_wp2_with (go_at_call 119;refine (Tryz.strings_IndexByte _ _ _).mono ?_;rintro e w' ⟨rfl,rfl⟩;rw [ZdA,show ((10:Int).toNat.toUInt8)=(10:UInt8) from rfl,←HD.out])
     exact ⟨⟨k+j+1,by omega,by go_num,by rw [HK.out,HF.out]⟩,by simp [intOf];omega⟩
   ·have q1:((s[k].toNat:Int)==35)=false:=by rw [beq_eq_false_iff_ne];exact h35
    by_cases hb:(s[k].toNat:Int)=32∨(s[k].toNat:Int)=10∨(s[k].toNat:Int)=9∨(s[k].toNat:Int)=13
    ·have HF:=hid (Zdy s hlt hb)
     have HBB:=hid hb
     clear h35 hb
     go_wp2
     all_goals first
      | exact ⟨⟨k+1,by omega,by go_num,by rw [HK.out,HF.out]⟩,by simp [intOf];omega⟩
      | (exfalso;have:=HBB.out;simp_all;done)
    ·have HF:=hid (Zgu s hlt h35 hb)
     have q2:((s[k].toNat:Int)==32)=false:=by rw [beq_eq_false_iff_ne];omega
     have q3:((s[k].toNat:Int)==10)=false:=by rw [beq_eq_false_iff_ne];omega
     have q4:((s[k].toNat:Int)==9)=false:=by rw [beq_eq_false_iff_ne];omega
     have q5:((s[k].toNat:Int)==13)=false:=by rw [beq_eq_false_iff_ne];omega
     clear h35 hb
     go_wp2
     go_ret
     exact ⟨by rw [HK.out,HF.out];rfl,rfl⟩
  ·obtain rfl:k=s.size:=by omega
   have HE:=hid (ZhO s false)
   go_wp2
   go_ret
   exact ⟨by rw [HK.out,HE.out];rfl,rfl⟩
theorem Zm8 (c:UInt8) (w:World):Calls Tryz.prog 124 #[V8 c] w fun e w'=>e=.returned (.bool (namB c))∧w=w':=by
 cases hl:letB c with
 | true=>
  have h:=Zdl c w
  rw [hl] at h
  have H:=hid h
  have HL:=hid hl
  clear hl h
  go_enter Tryz.func124,Tryz.ntmps124
  go_wp2_with (go_at_call 123;refine H.out.mono ?_;rintro e w' ⟨rfl,rfl⟩)
  go_ret
  exact ⟨by unfold namB;rw [HL.out];rfl,rfl⟩
 | false=>
  have h:=Zdl c w
  rw [hl] at h
  have H:=hid h
  have HL:=hid hl
  clear hl h
  go_enter Tryz.func124,Tryz.ntmps124
  go_wp2_with (first | (go_at_call 123;refine H.out.mono ?_;rintro e w' ⟨rfl,rfl⟩) | (go_at_call 120;refine (Zcd c w).mono ?_;rintro e w' ⟨rfl,rfl⟩))
  go_ret
  exact ⟨by unfold namB;rw [HL.out];rfl,rfl⟩
theorem ZfH (s:ByteArray) (at_:Nat) (w:World) (hs:s.size≤100000) (ha:at_≤s.size):
  Calls Tryz.prog 121 #[.string s,.int .i64 at_,.func (.func 120) #[] #[]] w fun e w'=>e=.returned (.int .i64 (Zax digB s at_:Nat))∧w=w':=by
 obtain ⟨R,hR⟩:∃ R,R=Zax digB s at_:=⟨_,rfl⟩
 rw [←hR]
 have HR:=hid hR
 clear hR
 go_enter Tryz.func121,Tryz.ntmps121
 go_wp2
 go_loop [7] (fun iv=>∃ k:Nat,at_+k≤s.size∧iv=.int .i64 k∧R=k+Zax digB s (at_+k)) (fun iv=>s.size-(intOf iv).toNat)
 case atStart=>exact ⟨0,ha,rfl,by rw [HR.out];simp⟩
 case round=>
  obtain ⟨k,hk,rfl,hrk⟩:=hrel
  have HK:=hid hrk
  clear hrk
  by_cases hlt:at_+k<s.size
  ·have hc:=fun w=>Zcd s[at_+k] w
   cases hpc:digB s[at_+k] with
   | true=>
    have HF:=hid (Zbw digB s hlt hpc)
    rw [hpc] at hc
    have HC:=hid hc
    clear hc hpc
    go_wp2_with fail
    refine (HC.out _).mono ?_
    rintro e w' ⟨rfl,rfl⟩
    go_wp2
    exact ⟨⟨k+1,by omega,by go_num,by rw [HK.out,HF.out,Nat.add_assoc at_ k 1];omega⟩,by simp [intOf];omega⟩
   | false=>
    have HF:=hid (ZfK digB s hlt hpc)
    rw [hpc] at hc
    have HC:=hid hc
    clear hc hpc
    go_wp2_with fail
    refine (HC.out _).mono ?_
    rintro e w' ⟨rfl,rfl⟩
    go_wp2
    go_ret
    exact ⟨by rw [HK.out,HF.out];rfl,rfl⟩
  ·have hk':at_+k=s.size:=by omega
   have HE:Hid (Zax digB s (at_+k)=0):=by rw [hk'];exact Ze7 digB s
   clear hk'
   have q1:decide (((at_:Int)+(k:Int))<(s.size:Int))=false:=by simp;omega
   go_wp2
   go_ret
   exact ⟨by rw [HK.out,HE.out];rfl,rfl⟩
theorem Zm9 (s:ByteArray) (at_:Nat) (w:World) (hs:s.size≤100000) (ha:at_≤s.size):
  Calls Tryz.prog 121 #[.string s,.int .i64 at_,.func (.func 124) #[] #[]] w fun e w'=>e=.returned (.int .i64 (Zax namB s at_:Nat))∧w=w':=by
 obtain ⟨R,hR⟩:∃ R,R=Zax namB s at_:=⟨_,rfl⟩
 rw [←hR]
 have HR:=hid hR
 clear hR
 go_enter Tryz.func121,Tryz.ntmps121
 go_wp2
 go_loop [7] (fun iv=>∃ k:Nat,at_+k≤s.size∧iv=.int .i64 k∧R=k+Zax namB s (at_+k)) (fun iv=>s.size-(intOf iv).toNat)
 case atStart=>exact ⟨0,ha,rfl,by rw [HR.out];simp⟩
 case round=>
  obtain ⟨k,hk,rfl,hrk⟩:=hrel
  have HK:=hid hrk
  clear hrk
  by_cases hlt:at_+k<s.size
  ·have hc:=fun w=>Zm8 s[at_+k] w
   cases hpc:namB s[at_+k] with
   | true=>
    have HF:=hid (Zbw namB s hlt hpc)
    rw [hpc] at hc
    have HC:=hid hc
    clear hc hpc
    go_wp2_with fail
    refine (HC.out _).mono ?_
    rintro e w' ⟨rfl,rfl⟩
    go_wp2
    exact ⟨⟨k+1,by omega,by go_num,by rw [HK.out,HF.out,Nat.add_assoc at_ k 1];omega⟩,by simp [intOf];omega⟩
   | false=>
    have HF:=hid (ZfK namB s hlt hpc)
    rw [hpc] at hc
    have HC:=hid hc
    clear hc hpc
    go_wp2_with fail
    refine (HC.out _).mono ?_
    rintro e w' ⟨rfl,rfl⟩
    go_wp2
    go_ret
    exact ⟨by rw [HK.out,HF.out];rfl,rfl⟩
  ·have hk':at_+k=s.size:=by omega
   have HE:Hid (Zax namB s (at_+k)=0):=by rw [hk'];exact Ze7 namB s
   clear hk'
   have q1:decide (((at_:Int)+(k:Int))<(s.size:Int))=false:=by simp;omega
   go_wp2
   go_ret
   exact ⟨by rw [HK.out,HE.out];rfl,rfl⟩
end Go.Proofs.YtghlnncfigkkaaaGreatDoor
