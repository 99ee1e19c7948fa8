/-
  min as the builtin says it; a text cut to a length; how many tokens a scan tells. The walk of parse.Text.
-/
import Derived.Test.YtghlnncfigkkaaaGreatDoorQNum
import Derived.Test.YtghlnncfigkkaaaGreatDoorQParN
import Derived.Test.YtghlnncfigkkaaaGreatDoorQScanL
import Derived.Test.YtghlnncfigkkaaaGreatDoorQScan
namespace Go.Proofs.YtghlnncfigkkaaaGreatDoor
set_option linter.unusedVariables false
set_option linter.unusedSimpArgs false
open Go.RowKit
theorem scanGo_len (s : ByteArray) : ∀ (f k : Nat) (l r : List Tok), l.length ≤ 512 → scanGo f s k l = .toks r → r.length ≤ 513 := by
  intro f
  induction f with
  | zero => intro k l r h e; unfold scanGo at e; injection e with e; subst e; omega
  | succ f ih =>
    intro k l r h e
    unfold scanGo at e
    split at e
    · split at e
      · cases e
      · split at e
        · cases e
        · rename_i hne
          exact ih _ _ _ (by rw [List.length_append]; simp; omega) e
    · injection e with e
      subst e
      rw [List.length_append]
      simp
      omega
theorem scanM_len {s : ByteArray} {r : List Tok} (h : scanM s = .toks r) : r.length ≤ 513 ∧ s.size ≤ 4096 := by
  unfold scanM at h
  split at h
  · cases h
  · exact ⟨scanGo_len _ _ _ _ _ (by simp) h, by omega⟩
theorem scanGo_code (s : ByteArray) : ∀ (f k : Nat) (l : List Tok) (c p : Nat), scanGo f s k l = .err c p → c = 120 ∨ c = 5 := by
  intro f
  induction f with
  | zero => intro k l c p e; unfold scanGo at e; cases e
  | succ f ih =>
    intro k l c p e
    unfold scanGo at e
    split at e
    · split at e
      · injection e with e1 e2; omega
      · split at e
        · injection e with e1 e2; omega
        · exact ih _ _ _ _ e
    · cases e
theorem scanM_code {s : ByteArray} {c p : Nat} (h : scanM s = .err c p) : 1 ≤ c := by
  unfold scanM at h
  split at h
  · injection h with h1 h2; omega
  · rcases scanGo_code _ _ _ _ _ _ h with rfl | rfl <;> omega
end Go.Proofs.YtghlnncfigkkaaaGreatDoor
namespace Go.Proofs.YtghlnncfigkkaaaGreatDoor
set_option linter.unusedVariables false
set_option linter.unusedSimpArgs false
open Go.RowKit
/-- What Text answers. -/
def TextOut (W : World) (F : Nat) (S : ScanR) (e : Ending) (w' : World) : Prop :=
  Below W.heap.size W w' ∧ ((∃ l, S = .toks l ∧ (parseP F l).err = none ∧ ∃ SA sc EA ec, e = .returned (.tuple #[.agg #[.slice SA (parseP F l).ss.length sc, .slice EA (parseP F l).es.length ec], .nilIface]) ∧ OwnS w' W.heap.size SA sc (parseP F l).ss ∧ OwnE w' W.heap.size EA ec (parseP F l).es) ∨
    (∃ l c p v, S = .toks l ∧ (parseP F l).err = some (c, p) ∧ e = .returned (.tuple #[.agg #[.slice none 0 0, .slice none 0 0], v]) ∧ IsErr w' v [(parN, (p : Int))] (c : Int)) ∨
    ∃ c p v, S = .err c p ∧ e = .returned (.tuple #[.agg #[.slice none 0 0, .slice none 0 0], v]) ∧ IsErr w' v [(lexN, (p : Int))] (c : Int))
/-- The same, and that the rows of args and of shapes lie in different blocks. -/
def TextOut2 (W : World) (F : Nat) (S : ScanR) (e : Ending) (w' : World) : Prop :=
  Below W.heap.size W w' ∧ ((∃ l, S = .toks l ∧ (parseP F l).err = none ∧ ∃ SA sc EA ec, e = .returned (.tuple #[.agg #[.slice SA (parseP F l).ss.length sc, .slice EA (parseP F l).es.length ec], .nilIface]) ∧ OwnS w' W.heap.size SA sc (parseP F l).ss ∧ OwnE w' W.heap.size EA ec (parseP F l).es ∧ Sep noX w' W.heap.size SA sc (parseP F l).ss EA ec (parseP F l).es) ∨
    (∃ l c p v, S = .toks l ∧ (parseP F l).err = some (c, p) ∧ e = .returned (.tuple #[.agg #[.slice none 0 0, .slice none 0 0], v]) ∧ IsErr w' v [(parN, (p : Int))] (c : Int)) ∨
    ∃ c p v, S = .err c p ∧ e = .returned (.tuple #[.agg #[.slice none 0 0, .slice none 0 0], v]) ∧ IsErr w' v [(lexN, (p : Int))] (c : Int))
set_option maxRecDepth 100000 in
set_option maxHeartbeats 4000000 in
theorem text_any2 (s : ByteArray) (F : Nat) (w : World) (hs : s.size ≤ 100000) (hg : ETyped w) (ht : ErrT w) (hF : ∀ l, scanM s = .toks l → 12 * l.length + 20 ≤ F) :
    Calls Tryz.prog 16 #[.string s] w (TextOut2 w F (scanM s)) := by
  obtain ⟨wa, hwa⟩ : ∃ wa, wa = w.alloc (.cells #[.slice none 0 0, .slice none 0 0] 26) := ⟨_, rfl⟩
  have hba : Below w.heap.size w wa := by rw [hwa]; exact (Below.refl _ _).alloc (Nat.le_refl _) _
  have hsa : wa.heap.size = w.heap.size + 1 := by rw [hwa]; simp
  have htree : wa.heap[w.heap.size]? = some (.cells #[.slice none 0 0, .slice none 0 0] 26 (0, 0)) := by rw [hwa]; exact heap_alloc_new w _
  have HWA := Lib.hid hwa
  have HBA := Lib.hid hba
  have HGA := Lib.hid (hg.next hba)
  have HTA := Lib.hid (ht.next hba)
  have HTREE := Lib.hid htree
  have HF := Lib.hid hF
  clear hwa hba htree hg ht hF
  go_enter Tryz.func16, Tryz.ntmps16
  go_wp2_with fail
  rw [← HWA.out]
  refine (scan_any s wa hs HGA.out HTA.out).mono ?_
  rintro e w2 ⟨b2, h⟩
  have HG2 := Lib.hid (HGA.out.next b2)
  have HB2 := Lib.hid (HBA.out.trans (b2.mono (by omega)))
  have ht2 := (b2.block w.heap.size (by omega)).trans HTREE.out
  have hs2 : w.heap.size + 1 ≤ w2.heap.size := by have := b2.size; omega
  clear b2
  rcases h with ⟨l, A, cap, hR, rfl, o2⟩ | ⟨c, p, v, hR, rfl, he⟩
  · have hlen := (scanM_len hR).1
    have HR := Lib.hid hR
    have HP := Lib.hid (parse_any2 l A cap F w2 (by omega) o2.rd HG2.out (HF.out l hR))
    have HT2 := Lib.hid ht2
    clear hR o2 ht2
    go_wp2_with fail
    refine HP.out.mono ?_
    rintro e w3 ⟨b3, h3⟩
    have HB3 := Lib.hid (HB2.out.trans (b3.mono (by omega)))
    have ht3 := (b3.block w.heap.size (by omega)).trans HT2.out
    have z0 := cell_of_row w3 _ 0 _ _ _ ht3
    have z1 := cell_of_row w3 _ 1 _ _ _ ht3
    have y0 := pfree_row ht3 0
    have y1 := pfree_row ht3 1
    have HT3 := Lib.hid ht3
    clear b3 ht3
    rcases h3 with ⟨hn, SA, sc, EA, ec, rfl, oS, oE, oP⟩ | ⟨c, p, v, hn, rfl, he⟩
    · have HN := Lib.hid hn
      have HOS := Lib.hid oS
      have HOE := Lib.hid oE
      have HOP := Lib.hid oP
      clear hn oS oE oP
      obtain ⟨ns, hns⟩ : ∃ ns, ns = (parseP F l).ss.length := ⟨_, rfl⟩
      obtain ⟨ne, hne⟩ : ∃ ne, ne = (parseP F l).es.length := ⟨_, rfl⟩
      rw [← hns, ← hne]
      have HNS := Lib.hid hns
      have HNE := Lib.hid hne
      clear hns hne
      go_wp2
      obtain ⟨wS, hwS⟩ : ∃ wS, wS = (w3.setCell ⟨w.heap.size, 0, none⟩ (.slice SA ns sc)).setCell ⟨w.heap.size, 1, none⟩ (.slice EA ne ec) := ⟨_, rfl⟩
      rw [← hwS]
      obtain ⟨s1, s2, s3⟩ := tree_store HT3.out hwS
      have hbel := s3 w.heap.size w HB3.out (Nat.le_refl _)
      have g0 := cell_of_row wS _ 0 _ _ _ s1
      have g1 := cell_of_row wS _ 1 _ _ _ s1
      have hoS : OwnS wS w.heap.size SA sc (parseP F l).ss := HOS.out.more (by omega) (fun k hk => s2 k (by omega))
      have hoE : OwnE wS w.heap.size EA ec (parseP F l).es := HOE.out.more (by omega) (fun k hk => s2 k (by omega))
      have hoP : Sep noX wS w.heap.size SA sc (parseP F l).ss EA ec (parseP F l).es := HOP.out.map (fun _ _ a => a.more (by omega) (fun k hk => s2 k (by omega))) (fun _ _ a => a.more (by omega) (fun k hk => s2 k (by omega)))
      clear s1 s2 s3 hwS
      exact bodyPost_ret (v := .tuple #[.agg #[.slice SA ns sc, .slice EA ne ec], .nilIface]) (by simp [results, Tryz.results16, go_sem, g0, g1]) rfl ⟨hbel, .inl ⟨l, HR.out, HN.out, SA, sc, EA, ec, by rw [← HNS.out, ← HNE.out], hoS, hoE, hoP⟩⟩
    · obtain ⟨te, xe, rfl⟩ := he.iface
      have HN := Lib.hid hn
      have HE := Lib.hid he
      clear hn he
      go_wp2
      obtain ⟨wS, hwS⟩ : ∃ wS, wS = (w3.setCell ⟨w.heap.size, 0, none⟩ (.slice none 0 0)).setCell ⟨w.heap.size, 1, none⟩ (.slice none 0 0) := ⟨_, rfl⟩
      rw [← hwS]
      have hie2 : IsErr wS (.iface te xe) [(parN, (p : Int))] (c : Int) := by
        rw [hwS]
        exact IsErr.set (t := ⟨w.heap.size, 1, none⟩) (heap_setCell_same _ _ _ _ _ _ HT3.out) (by decide) (IsErr.set (t := ⟨w.heap.size, 0, none⟩) HT3.out (by decide) HE.out)
      obtain ⟨s1, s2, s3⟩ := tree_store HT3.out hwS
      have hbel := s3 w.heap.size w HB3.out (Nat.le_refl _)
      have g0 := cell_of_row wS _ 0 _ _ _ s1
      have g1 := cell_of_row wS _ 1 _ _ _ s1
      clear s1 s2 s3 hwS
      exact bodyPost_ret (v := .tuple #[.agg #[.slice none 0 0, .slice none 0 0], .iface te xe]) (by simp [results, Tryz.results16, go_sem, g0, g1]) rfl ⟨hbel, .inr (.inl ⟨l, c, p, _, HR.out, HN.out, rfl, hie2⟩)⟩
  · obtain ⟨te, xe, rfl⟩ := he.iface
    have HR := Lib.hid hR
    have HE := Lib.hid he
    have z0 := cell_of_row w2 _ 0 _ _ _ ht2
    have z1 := cell_of_row w2 _ 1 _ _ _ ht2
    have y0 := pfree_row ht2 0
    have y1 := pfree_row ht2 1
    have HT2 := Lib.hid ht2
    clear hR he ht2
    go_wp2
    obtain ⟨wS, hwS⟩ : ∃ wS, wS = (w2.setCell ⟨w.heap.size, 0, none⟩ (.slice none 0 0)).setCell ⟨w.heap.size, 1, none⟩ (.slice none 0 0) := ⟨_, rfl⟩
    rw [← hwS]
    have hie2 : IsErr wS (.iface te xe) [(lexN, (p : Int))] (c : Int) := by
      rw [hwS]
      exact IsErr.set (t := ⟨w.heap.size, 1, none⟩) (heap_setCell_same _ _ _ _ _ _ HT2.out) (by decide) (IsErr.set (t := ⟨w.heap.size, 0, none⟩) HT2.out (by decide) HE.out)
    obtain ⟨s1, s2, s3⟩ := tree_store HT2.out hwS
    have hbel := s3 w.heap.size w HB2.out (Nat.le_refl _)
    have g0 := cell_of_row wS _ 0 _ _ _ s1
    have g1 := cell_of_row wS _ 1 _ _ _ s1
    clear s1 s2 s3 hwS
    exact bodyPost_ret (v := .tuple #[.agg #[.slice none 0 0, .slice none 0 0], .iface te xe]) (by simp [results, Tryz.results16, go_sem, g0, g1]) rfl ⟨hbel, .inr (.inr ⟨c, p, _, HR.out, rfl, hie2⟩)⟩
theorem text_any (s : ByteArray) (F : Nat) (w : World) (hs : s.size ≤ 100000) (hg : ETyped w) (ht : ErrT w) (hF : ∀ l, scanM s = .toks l → 12 * l.length + 20 ≤ F) :
    Calls Tryz.prog 16 #[.string s] w (TextOut w F (scanM s)) :=
  (text_any2 s F w hs hg ht hF).mono fun e w' ⟨h1, h2⟩ => ⟨h1, h2.imp_left fun ⟨l, a, b, SA, sc, EA, ec, e1, f, g, _⟩ => ⟨l, a, b, SA, sc, EA, ec, e1, f, g⟩⟩
end Go.Proofs.YtghlnncfigkkaaaGreatDoor
