/-
  awake; NoteApart, walked.
-/
import Derived.Test.YtommmfncaadbeaaDoorN5
import Derived.Laws.StructEq

namespace Go.Proofs.YtommmfncaadbeaaDoor
open Go.RowKit

def evA : Ev := ⟨6, 2, 1, 1⟩
theorem evA_text : textE evA = [54, 32, 100, 111, 110, 101, 32, 49, 32, 49] := by decide +kernel
theorem evA_parse : parseE [54, 32, 100, 111, 110, 101, 32, 49, 32, 49] = some evA := by decide +kernel
theorem reads_new (w : World) (l : List Ev) : Reads (w.alloc (.cells (flatE l).toArray 23)) (w.heap.size + 1) 4 (some ⟨w.heap.size, 0, none⟩) l.length (flatE l) := by
  refine ⟨flatE_length l, fun _ => ⟨_, rfl, by simp, fun j u hu => ?_⟩⟩
  have h := (Blk.new w 23 (flatE l).toArray).cell j
  have e : (⟨w.heap.size, 0, none⟩ : Addr).add j = ⟨w.heap.size, j, none⟩ := by
    unfold Addr.add
    split
    · rename_i e; rw [e]
    · simp
  rw [e, h]
  simpa using hu
theorem nt_new (w : World) (r : Int) : NtAt (w.alloc (.cells #[.int .i64 r, .slice none 0 0, .int .i64 0] 56)) w.heap.size r 0 (.slice none 0 0) [] :=
  ⟨Blk.new w 56 _, World.ownsRow_nil _ _ _ _, by simp [Value.ownBlock]⟩
theorem NtAt.below {w w' : World} {gn : Nat} {room lost : Int} {v : Value} {l : List Ev} (h : NtAt w gn room lost v l) (hb : Below w.heap.size w w') : NtAt w' gn room lost v l :=
  ⟨h.blk.below hb h.blk.lt, own_below h.row hb, h.ne⟩
set_option maxRecDepth 100000 in
theorem awake_any (w : World) (ht : HT w) : Calls Tryd.prog 5 #[] w fun e w' => e = .returned (.bool true) ∧ Below w.heap.size w w' := by
  have Ht := Lib.hid ht
  clear ht
  go_enter Tryd.func5, Tryd.ntmps5
  go_wp2_with fail
  have hb0 : Below w.heap.size w (w.alloc (.cells #[.int .i64 6, .int .i64 2, .int .i64 1, .int .i64 1] 23)) := (Below.refl _ _).alloc (Nat.le_refl _) _
  have hE := Blk.new w 23 #[.int .i64 6, .int .i64 2, .int .i64 1, .int .i64 1]
  refine (Parse_any ⟨#[54, 32, 100, 111, 110, 101, 32, 49, 32, 49]⟩ _ (by decide) (Ht.out.below hb0)).mono ?_
  rintro r w1 ⟨hb1, hr⟩
  have e1 : (⟨#[54, 32, 100, 111, 110, 101, 32, 49, 32, 49]⟩ : ByteArray).data.toList = [54, 32, 100, 111, 110, 101, 32, 49, 32, 49] := rfl
  rw [e1, evA_parse] at hr
  obtain rfl : r = .returned (.tuple #[.agg #[.int .i64 6, .int .i64 2, .int .i64 1, .int .i64 1], .bool true]) := hr
  have hE1 := hE.below hb1 hE.lt
  have hb1' := hb0.trans (hb1.mono hb0.size)
  have Hb1 := Lib.hid hb1'
  clear hb1 hb1' hE hb0 e1
  go_wp2_with fail
  refine (New_any 3 3 _ (by omega)).mono ?_
  rintro r w2 ⟨rfl, rfl⟩
  have hX := (Blk.new w1 23 #[.int .i64 6, .int .i64 2, .int .i64 1, .int .i64 1]).alloc (.cells #[.int .i64 3, .slice none 0 0, .int .i64 0] 56)
  have hE2 := (hE1.alloc (.cells #[.int .i64 6, .int .i64 2, .int .i64 1, .int .i64 1] 23)).alloc (.cells #[.int .i64 3, .slice none 0 0, .int .i64 0] 56)
  have hN := nt_new (w1.alloc (.cells #[.int .i64 6, .int .i64 2, .int .i64 1, .int .i64 1] 23)) 3
  simp only [World.size_alloc] at hN
  have hb2 : Below w.heap.size w ((w1.alloc (.cells #[.int .i64 6, .int .i64 2, .int .i64 1, .int .i64 1] 23)).alloc (.cells #[.int .i64 3, .slice none 0 0, .int .i64 0] 56)) := by
    have h1 := Hb1.out.alloc Hb1.out.size (.cells #[.int .i64 6, .int .i64 2, .int .i64 1, .int .i64 1] 23)
    exact h1.alloc h1.size _
  obtain ⟨W, hW⟩ : ∃ W, (w1.alloc (.cells #[.int .i64 6, .int .i64 2, .int .i64 1, .int .i64 1] 23)).alloc (.cells #[.int .i64 3, .slice none 0 0, .int .i64 0] 56) = W := ⟨_, rfl⟩
  have HW := Lib.hid hW
  rw [hW] at hX hE2 hN hb2
  have n0 := hE2.cell 0
  have n1 := hE2.cell 1
  have n2 := hE2.cell 2
  have n3 := hE2.cell 3
  simp only [List.getElem?_toArray, List.getElem?_cons_zero, List.getElem?_cons_succ] at n0 n1 n2 n3
  have HX := Lib.hid hX
  have HE2 := Lib.hid hE2
  have HN := Lib.hid hN
  have Hb2 := Lib.hid hb2
  clear hX hE2 hN hb2 hW hE1
  rw [HW.out]
  go_wp2_with fail
  have hba : Below W.heap.size W (W.alloc (.cells (flatE [evA]).toArray 23)) := (Below.refl _ _).alloc (Nat.le_refl _) _
  refine (Put_room _ _ 3 0 _ [] [evA] ⟨W.heap.size, 0, none⟩ 1 (HN.out.below hba) ((reads_new W [evA]).more (by simp)) (by decide) (by decide) (by omega)).mono ?_
  rintro r w4 ⟨rfl, v', hN4, _, ht4⟩
  have s1 := Hb1.out.size
  have hX4 := (ht4.block _ (HX.out.below hba HX.out.lt).lt (by simp [Value.ownBlock])).trans (HX.out.below hba HX.out.lt)
  have hE4 := (ht4.block _ (HE2.out.below hba HE2.out.lt).lt (by simp [Value.ownBlock]; omega)).trans (HE2.out.below hba HE2.out.lt)
  have hb4 : Below w.heap.size w w4 := (((Turn.refl (fun j => j = w1.heap.size + 1) w).below (Hb2.out.trans (hba.mono Hb2.out.size))).trans ht4 fun j _ h => by simpa [Value.ownBlock] using h).toBelow (Nat.le_refl _) (fun i hi => by omega)
  have HX4 : Hid (Blk w4 _ _ _) := hX4
  have HE4 : Hid (Blk w4 _ _ _) := hE4
  have HN4 := Lib.hid hN4
  have Hb4 := Lib.hid hb4
  clear hX4 hE4 hN4 ht4 hb4 hba HX HE2 HN Hb2 n0 n1 n2 n3
  have n0 := HE4.out.cell 0
  have n1 := HE4.out.cell 1
  have n2 := HE4.out.cell 2
  have n3 := HE4.out.cell 3
  simp only [List.getElem?_toArray, List.getElem?_cons_zero, List.getElem?_cons_succ] at n0 n1 n2 n3
  go_wp2_with fail
  refine (Text_any evA ⟨by decide, by decide, by decide, by decide⟩ _ (Ht.out.below Hb4.out)).mono ?_
  rintro r w5 ⟨rfl, hb5⟩
  have hX5 := HX4.out.below hb5 HX4.out.lt
  have hE5 := HE4.out.below hb5 HE4.out.lt
  have hN5 := HN4.out.below hb5
  have hb5' := Hb4.out.trans (hb5.mono Hb4.out.size)
  clear n0 n1 n2 n3
  have n0 := hE5.cell 0
  have n1 := hE5.cell 1
  have n2 := hE5.cell 2
  have n3 := hE5.cell 3
  have m0 := hX5.cell 0
  have m1 := hX5.cell 1
  have m2 := hX5.cell 2
  have m3 := hX5.cell 3
  simp only [List.getElem?_toArray, List.getElem?_cons_zero, List.getElem?_cons_succ] at n0 n1 n2 n3 m0 m1 m2 m3
  have HN5 := Lib.hid hN5
  have Hb5 := Lib.hid hb5'
  clear hX5 hE5 hN5 hb5 hb5'
  rw [evA_text]
  go_wp2_with fail
  refine (Len_any _ _ _ _ _ _ HN5.out).mono ?_
  rintro r w6 ⟨rfl, rfl⟩
  go_wp2
  go_ret
  exact ⟨rfl, Hb5.out⟩
end Go.Proofs.YtommmfncaadbeaaDoor
