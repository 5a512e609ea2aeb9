/-
  What Parse calls, as contracts: ParseInt, Atoi, Split, the closure, IndexFunc.
-/
import Derived.Test.YtommmfncaadbeaaDoorN2
import Derived.Lib.AtoiErrMem
import Derived.Deep.QuietTactic
import Derived.BigQuiet
import Derived.Deep.LoopGhost
namespace Go.Proofs.YtommmfncaadbeaaDoor
open Go.RowKit

theorem ret_bool {a b : Bool} (h : a = b) : Ending.returned (.bool a) = .returned (.bool b) := by rw [h]
theorem ret_int {k : IntKind} {a b : Int} (h : a = b) : Ending.returned (.int k a) = .returned (.int k b) := by rw [h]
theorem size_mk (l : List UInt8) : (⟨l.toArray⟩ : ByteArray).size = l.length := by
  show l.toArray.size = l.length
  simp
theorem Atoi_any (s : ByteArray) (w : World) (hs : s.size < 4294967281) (ht : HT w) :
    Calls Tryd.prog 22 #[.string s] w fun e w' => ∃ err, e = .returned (.tuple #[.int .i64 (semV s.data.toList), err]) ∧ Below w.heap.size w w' := by
  obtain ⟨t1, p1, h1⟩ := ht.bad
  obtain ⟨t2, p2, h2⟩ := ht.far
  cases h : Lib.atoiAll s.data.toList with
  | ok v =>
    rw [show semV s.data.toList = v by simp [semV, h]]
    refine (Tryd.strconv_Atoi_ok s (by omega) v h w).mono fun e w' ⟨he, hw⟩ => ⟨_, he, ?_⟩
    rcases hw with rfl | ⟨t, rfl⟩
    · exact Below.refl _ _
    · exact Lib.bytesWorld_below _ _ _
  | range =>
    rw [show semV s.data.toList = Lib.atoiSat s.data.toList by simp [semV, h]]
    exact (Tryd.strconv_Atoi_range s (by omega) h _ w h2 (.inr ⟨_, _, rfl⟩)).mono fun e w' ⟨N, he, _, _, hb⟩ => ⟨_, he, hb⟩
  | _ =>
    rw [show semV s.data.toList = 0 by simp [semV, h]]
    exact (Any.strconv_Atoi_syntax Tryd.laysC172 s (by omega) h _ w h1 (.inr ⟨_, _, rfl⟩)).mono fun e w' ⟨N, he, _, _, hb⟩ => ⟨_, he, hb⟩
theorem ParseInt_any (s : ByteArray) (w : World) (hs : s.size < 4294967281) (ht : HT w) :
    Calls Tryd.prog 21 #[.string s, .int .i64 10, .int .i64 64] w fun e w' => ∃ err, e = .returned (.tuple #[.int .i64 (semP s.data.toList), err]) ∧ Below w.heap.size w w' := by
  obtain ⟨t1, p1, h1⟩ := ht.bad
  obtain ⟨t2, p2, h2⟩ := ht.far
  cases h : Lib.parseIntB 64 s.data.toList with
  | ok v =>
    rw [show semP s.data.toList = v by simp [semP, h]]
    refine (Tryd.strconv_ParseInt_10_at64_ok s (by omega) v h w).mono fun e w' ⟨he, hw⟩ => ⟨_, he, ?_⟩
    rcases hw with rfl | ⟨t, rfl⟩
    · exact Below.refl _ _
    · exact Lib.bytesWorld_below _ _ _
  | range =>
    rw [show semP s.data.toList = Lib.intSat 64 s.data.toList by simp [semP, h]]
    exact (Tryd.strconv_ParseInt_10_at64_range s (by omega) h _ w h2 (.inr ⟨_, _, rfl⟩)).mono fun e w' ⟨N, he, _, _, hb⟩ => ⟨_, he, hb⟩
  | _ =>
    rw [show semP s.data.toList = 0 by simp [semP, h]]
    exact (Any.strconv_ParseInt_10_at64_syntax Tryd.laysC174 s (by omega) h _ w h1 (.inr ⟨_, _, rfl⟩)).mono fun e w' ⟨N, he, _, _, hb⟩ => ⟨_, he, hb⟩
theorem semV_wf (l : List UInt8) : (Lit.int .i64 (semV l)).wf = true := by
  refine WalkArith.wf_i64 ?_
  unfold semV
  split
  · rename_i v h
    unfold Lib.atoiAll at h
    split at h
    · cases h
    · dsimp only at h
      split at h
      · cases h
      · cases h
      · split at h
        · cases h
        · split at h
          · cases h
          · injection h with h
            split at h <;> omega
  · unfold Lib.atoiSat
    split <;> omega
  · omega
theorem semP_wf (l : List UInt8) : (Lit.int .i64 (semP l)).wf = true := by
  refine WalkArith.wf_i64 ?_
  unfold semP
  split
  · rename_i v h
    unfold Lib.parseIntB at h
    split at h
    · cases h
    · dsimp only at h
      split at h
      · cases h
      · cases h
      · split at h
        · cases h
        · split at h
          · cases h
          · injection h with h
            split at h <;> omega
  · unfold Lib.intSat
    split <;> omega
  · omega
/-- the pieces of a text -/
def piecesB (s : ByteArray) : List ByteArray := Lib.splitB ⟨#[32]⟩ 0 (Lib.countB s ⟨#[32]⟩) s
theorem piecesB_data (s : ByteArray) : (piecesB s).map (·.data.toList) = splitS s.data.toList := by
  unfold piecesB splitS
  rw [Lib.splitB_data]
  rfl
theorem piecesB_len (s : ByteArray) : (piecesB s).length = Lib.countB s ⟨#[32]⟩ + 1 := Lib.splitB_all _ (by decide) 0 _ s rfl
theorem splitK_le (sep : List UInt8) : ∀ (k : Nat) (s : List UInt8), ∀ y ∈ Lib.splitK sep 0 k s, y.length ≤ s.length
  | 0, s, y, h => by
    simp only [Lib.splitK, List.mem_singleton] at h
    rw [h]; omega
  | k + 1, s, y, h => by
    rw [Lib.splitK] at h
    split at h
    · rw [List.mem_singleton] at h
      rw [h]; omega
    · rw [List.mem_cons] at h
      rcases h with rfl | h
      · simp; omega
      · have := splitK_le sep k _ y h
        simp at this
        omega
theorem piecesB_le (s t : ByteArray) (i : Nat) (h : (piecesB s)[i]? = some t) : t.size ≤ s.size := by
  have h1 : t.data.toList ∈ splitS s.data.toList := by
    rw [← piecesB_data]
    exact List.mem_map.2 ⟨t, List.mem_of_getElem? h, rfl⟩
  have h2 := splitK_le [32] _ _ _ h1
  rw [Lib.size_eq, Lib.size_eq]
  exact h2
theorem Split_any (s : ByteArray) (w : World) (hs : s.size < 4294967281) (ht : HT w) :
    Calls Tryd.prog 20 #[.string s, .string ⟨#[32]⟩] w fun e w' => e = .returned (.slice (some ⟨w.heap.size, 0, none⟩) (piecesB s).length (piecesB s).length) ∧ w.alloc (.cells ((piecesB s).map Value.string).toArray 9) = w' := by
  obtain ⟨m, hm⟩ := ht.most
  refine (Tryd.strings_Split s ⟨#[32]⟩ m w hs hm (by decide)).mono fun e w' ⟨h1, h2⟩ => ⟨?_, h2.symm⟩
  rw [h1, piecesB_len]
/-- does the closure say yes? -/
def isWord (w1 x : List UInt8) : Bool := !x.isEmpty && bare x == w1
theorem closure_any (x w1 : List UInt8) (bw gb n c : Nat) (w : World) (hx : x.length ≤ 1000) (hn : 2 ≤ n) (hnm : n ≤ 9223372036854775807) (h0 : w.cell? ⟨bw, 0, none⟩ = some (.slice (some ⟨gb, 0, none⟩) n c)) (h1 : w.cell? ⟨gb, 1, none⟩ = some (.string ⟨w1.toArray⟩)) :
    Calls Tryd.prog 24 #[.string ⟨x.toArray⟩, .pointer (some ⟨bw, 0, none⟩)] w fun e w' => e = .returned (.bool (isWord w1 x)) ∧ Below w.heap.size w w' := by
  have htrim : ∀ W, Calls Tryd.prog 25 #[.string ⟨x.toArray⟩, .string ⟨#[32]⟩] W fun e w' => e = .returned (.string ⟨(bare x).toArray⟩) ∧ w' = W := fun W =>
    (Tryd.strings_TrimSuffix ⟨x.toArray⟩ ⟨#[32]⟩ W (by rw [size_mk]; omega)).mono fun e w' h => h
  have Htrim := Lib.hid htrim
  clear htrim
  have i1 : (1 : Int) < (n : Int) := by omega
  have i0 : (0 : Int) ≤ (1 : Int) := by omega
  by_cases hxe : x = []
  · subst hxe
    clear Htrim
    go_enter Tryd.func24, Tryd.ntmps24
    go_wp2_with fail
    go_quiet (fail)
    go_wp2
    go_ret
    exact ⟨rfl, below_drewN (Below.refl _ _) _⟩
  · have e1 : x.isEmpty = false := by cases x <;> simp at hxe ⊢
    have e2 : (!x.isEmpty) = true := by rw [e1]; rfl
    have Hxe := Lib.hid e1
    go_enter Tryd.func24, Tryd.ntmps24
    go_wp2_with fail
    go_quiet ((go_at_call 25; exact Calls.quiet_of_same (Htrim.out _)))
    go_wp2
    go_ret
    exact ⟨ret_bool (by simp [isWord, Hxe.out]), below_drewN (Below.refl _ _) _⟩
def IdxRel (w1 : List UInt8) (w : World) (k : Nat) (s8 : Value) (wr : World) : Prop :=
  ∃ i : Nat, k = 11 - i ∧ i ≤ 11 ∧ s8 = .int .i64 i ∧ (∀ j, j < i → isWord w1 (wordsB.getD j []) = false) ∧ Below w.heap.size w wr
theorem kind_hit (w1 : List UInt8) (i : Nat) (hi : i < 11) (hno : ∀ j, j < i → isWord w1 (wordsB.getD j []) = false) (h : isWord w1 (wordsB.getD i []) = true) : kindOf w1 = i := by
  have h1 : wordsB.findIdx? (isWord w1) = some i := by
    rw [List.findIdx?_eq_some_iff_getElem]
    refine ⟨hi, ?_, fun j hj => ?_⟩
    · rw [List.getD_eq_getElem?_getD, List.getElem?_eq_getElem hi] at h
      exact h
    · have := hno j hj
      rw [List.getD_eq_getElem?_getD, List.getElem?_eq_getElem (by show j < 11; omega)] at this
      simpa using this
  have h2 : kindOf w1 = match wordsB.findIdx? (isWord w1) with | some i => (i : Int) | none => -1 := rfl
  rw [h2, h1]
theorem kind_miss (w1 : List UInt8) (hno : ∀ j, j < 11 → isWord w1 (wordsB.getD j []) = false) : kindOf w1 = -1 := by
  have h1 : wordsB.findIdx? (isWord w1) = none := by
    rw [List.findIdx?_eq_none_iff]
    intro x hx
    obtain ⟨j, hj, rfl⟩ := List.getElem_of_mem hx
    have := hno j hj
    rw [List.getD_eq_getElem?_getD, List.getElem?_eq_getElem hj] at this
    exact this
  have h2 : kindOf w1 = match wordsB.findIdx? (isWord w1) with | some i => (i : Int) | none => -1 := rfl
  rw [h2, h1]
set_option maxHeartbeats 1000000 in
theorem Index_any (w1 : List UInt8) (b bw gb n c : Nat) (w : World) (hn : 2 ≤ n) (hnm : n ≤ 9223372036854775807) (hb : Blk w b 9 wordsC) (h0 : w.cell? ⟨bw, 0, none⟩ = some (.slice (some ⟨gb, 0, none⟩) n c)) (h1 : w.cell? ⟨gb, 1, none⟩ = some (.string ⟨w1.toArray⟩)) :
    Calls Tryd.prog 23 #[.slice (some ⟨b, 0, none⟩) 11 11, .func (.func 24) #[] #[.pointer (some ⟨bw, 0, none⟩)]] w fun e w' => e = .returned (.int .i64 (kindOf w1)) ∧ Below w.heap.size w w' := by
  have H0 := Lib.hid h0
  have H1 := Lib.hid h1
  have l0 := cell_lt h0
  have l1 := cell_lt h1
  clear h0 h1
  go_enter Tryd.func23, Tryd.ntmps23
  go_wp2
  go_loopg [8] 11 (fun k s8 wr => IdxRel w1 w k s8 wr)
  case atStart => exact ⟨0, rfl, Nat.zero_le _, rfl, fun j hj => by omega, Below.refl _ _⟩
  case round =>
    obtain ⟨i, hk, hil, rfl, hno, hbel⟩ := hrel
    have Hk := Lib.hid hk
    have Hno := Lib.hid hno
    clear hk hno
    by_cases hlt : i < 11
    · have hc := (hb.below hbel hb.lt).cell i
      rw [wordsC_get i (by omega)] at hc
      have hxl := (word_len i (by omega)).1
      obtain ⟨v, hv⟩ : ∃ v, isWord w1 (wordsB.getD i []) = v := ⟨_, rfl⟩
      have Hcl := Lib.hid (closure_any (wordsB.getD i []) w1 bw gb n c wr (by omega) hn hnm (below_cell hbel l0 H0.out) (below_cell hbel l1 H1.out))
      rw [hv] at Hcl
      have Hv := Lib.hid hv
      clear hv
      generalize hx : wordsB.getD i [] = x at *
      have Hx := Lib.hid hx
      clear hx
      cases v with
      | true =>
        go_wp2_with (go_at_call 24; refine Hcl.out.mono ?_; rintro e w2 ⟨rfl, hb2⟩)
        go_ret
        exact ⟨ret_int (kind_hit w1 i hlt Hno.out (by rw [Hx.out]; exact Hv.out)).symm, hbel.trans (hb2.mono hbel.size)⟩
      | false =>
        go_wp2_with (go_at_call 24; refine Hcl.out.mono ?_; rintro e w2 ⟨rfl, hb2⟩)
        go_roundg (11 - (i + 1))
        case measure => rw [Hk.out]; omega
        case rel =>
          refine ⟨i + 1, rfl, by omega, by go_num, fun j hj => ?_, hbel.trans (hb2.mono hbel.size)⟩
          rcases Nat.lt_or_ge j i with h | h
          · exact Hno.out j h
          · obtain rfl : j = i := by omega
            rw [Hx.out]
            exact Hv.out
    · have hile : i = 11 := by omega
      go_wp2
      go_ret
      exact ⟨ret_int (kind_miss w1 (fun j hj => Hno.out j (by omega))).symm, hbel⟩
end Go.Proofs.YtommmfncaadbeaaDoor
