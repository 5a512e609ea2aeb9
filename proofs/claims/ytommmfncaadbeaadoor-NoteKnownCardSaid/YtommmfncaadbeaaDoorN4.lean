/-
  note's Parse, as a contract.
-/
import Derived.Test.YtommmfncaadbeaaDoorN3
import Derived.Laws.ResultCell
namespace Go.Proofs.YtommmfncaadbeaaDoor
open Go.RowKit

def evV (e : Ev) : Value := .agg #[.int .i64 e.at_, .int .i64 e.kind, .int .i64 e.who, .int .i64 e.n]
def ParsePost (s : List UInt8) (w : World) (r : Ending) (w' : World) : Prop :=
  Below w.heap.size w w' ∧ match parseE s with
    | none => r = .returned (.tuple #[.agg #[.int .i64 0, .int .i64 0, .int .i64 0, .int .i64 0], .bool false])
    | some e => r = .returned (.tuple #[.agg #[.int .i64 e.at_, .int .i64 e.kind, .int .i64 e.who, .int .i64 e.n], .bool true])
theorem ParsePost.no {s : List UInt8} {w w' : World} (h : parseE s = none) (hb : Below w.heap.size w w') : ParsePost s w (.returned (.tuple #[.agg #[.int .i64 0, .int .i64 0, .int .i64 0, .int .i64 0], .bool false])) w' := by
  refine ⟨hb, ?_⟩
  rw [h]
theorem ParsePost.yes {s : List UInt8} {e : Ev} {w w' : World} (h : parseE s = some e) (hb : Below w.heap.size w w') : ParsePost s w (.returned (.tuple #[.agg #[.int .i64 e.at_, .int .i64 e.kind, .int .i64 e.who, .int .i64 e.n], .bool true])) w' := by
  refine ⟨hb, ?_⟩
  rw [h]
abbrev Z4 : Array Value := #[.int .i64 0, .int .i64 0, .int .i64 0, .int .i64 0]
theorem parse_short {s : ByteArray} (h : (piecesB s).length < 3) : parseE s.data.toList = none := by
  have h1 := piecesB_data s
  unfold parseE
  rw [← h1]
  match hp : piecesB s with
  | [] => rfl
  | [_] => rfl
  | [_, _] => rfl
  | _ :: _ :: _ :: _ => rw [hp] at h; simp at h; omega
/-- Parse's own memory: the result, the pieces, the variable that holds them, the Event -/
structure PSt (w w' : World) (ps : List ByteArray) (a k c n : Int) : Prop where
  res : Blk w' w.heap.size 23 Z4
  pcs : Blk w' (w.heap.size + 1) 9 (ps.map Value.string).toArray
  box : Blk w' (w.heap.size + 1 + 1) 29 #[.slice (some ⟨w.heap.size + 1, 0, none⟩) ps.length ps.length]
  ev : Blk w' (w.heap.size + 1 + 1 + 1) 23 #[.int .i64 a, .int .i64 k, .int .i64 c, .int .i64 n]
  bel : Below w.heap.size w w'
section
variable {w w' w'' : World} {ps : List ByteArray} {a k c n : Int}
theorem PSt.below (h : PSt w w' ps a k c n) (hb : Below w'.heap.size w' w'') : PSt w w'' ps a k c n :=
  ⟨h.res.below hb h.res.lt, h.pcs.below hb h.pcs.lt, h.box.below hb h.box.lt, h.ev.below hb h.ev.lt, h.bel.trans (hb.mono h.bel.size)⟩
theorem PSt.start (w : World) (ps : List ByteArray) : PSt w ((((w.alloc (.cells Z4 23)).alloc (.cells (ps.map Value.string).toArray 9)).alloc (.cells #[.slice (some ⟨w.heap.size + 1, 0, none⟩) ps.length ps.length] 29)).alloc (.cells Z4 23)) ps 0 0 0 0 := by
  have h1 := Blk.new w 23 Z4
  have h2 := Blk.new (w.alloc (.cells Z4 23)) 9 (ps.map Value.string).toArray
  have h3 := Blk.new ((w.alloc (.cells Z4 23)).alloc (.cells (ps.map Value.string).toArray 9)) 29 #[.slice (some ⟨w.heap.size + 1, 0, none⟩) ps.length ps.length]
  have h4 := Blk.new (((w.alloc (.cells Z4 23)).alloc (.cells (ps.map Value.string).toArray 9)).alloc (.cells #[.slice (some ⟨w.heap.size + 1, 0, none⟩) ps.length ps.length] 29)) 23 Z4
  simp only [World.size_alloc] at h2 h3 h4
  exact ⟨((h1.alloc _).alloc _).alloc _, (h2.alloc _).alloc _, h3.alloc _, h4, ((((Below.refl _ _).alloc (Nat.le_refl _) _).alloc (by simp) _).alloc (by simp; omega) _).alloc (by simp; omega) _⟩
theorem PSt.set {a' k' c' n' : Int} (h : PSt w w' ps a k c n) (i : Nat) (u : Value) (he : (#[.int .i64 a, .int .i64 k, .int .i64 c, .int .i64 n] : Array Value).setIfInBounds i u = #[.int .i64 a', .int .i64 k', .int .i64 c', .int .i64 n']) :
    PSt w (w'.setCell ⟨w.heap.size + 1 + 1 + 1, i, none⟩ u) ps a' k' c' n' :=
  ⟨h.res.far (by simp; omega) u, h.pcs.far (by simp) u, h.box.far (by simp) u, he ▸ h.ev.set_ i u, h.bel.setCell (by simp; omega) u⟩
theorem PSt.piece (h : PSt w w' ps a k c n) {i : Nat} {p : ByteArray} (hp : ps[i]? = some p) : w'.cell? ⟨w.heap.size + 1, i, none⟩ = some (.string p) := by
  have h1 := h.pcs.cell i
  rw [List.getElem?_toArray, List.getElem?_map, hp] at h1
  exact h1
theorem PSt.slot (h : PSt w w' ps a k c n) : w'.cell? ⟨w.heap.size + 1 + 1, 0, none⟩ = some (.slice (some ⟨w.heap.size + 1, 0, none⟩) ps.length ps.length) := h.box.cell 0
theorem PSt.evc (h : PSt w w' ps a k c n) : w'.cell? ⟨w.heap.size + 1 + 1 + 1, 0, none⟩ = some (.int .i64 a) ∧ w'.cell? ⟨w.heap.size + 1 + 1 + 1, 1, none⟩ = some (.int .i64 k) ∧ w'.cell? ⟨w.heap.size + 1 + 1 + 1, 2, none⟩ = some (.int .i64 c) ∧ w'.cell? ⟨w.heap.size + 1 + 1 + 1, 3, none⟩ = some (.int .i64 n) :=
  ⟨h.ev.cell 0, h.ev.cell 1, h.ev.cell 2, h.ev.cell 3⟩
theorem PSt.rc (h : PSt w w' ps a k c n) : w'.cell? ⟨w.heap.size, 0, none⟩ = some (.int .i64 0) ∧ w'.cell? ⟨w.heap.size, 1, none⟩ = some (.int .i64 0) ∧ w'.cell? ⟨w.heap.size, 2, none⟩ = some (.int .i64 0) ∧ w'.cell? ⟨w.heap.size, 3, none⟩ = some (.int .i64 0) :=
  ⟨h.res.cell 0, h.res.cell 1, h.res.cell 2, h.res.cell 3⟩
theorem PSt.fr (h : PSt w w' ps a k c n) (i : Nat) : w'.frozen? ⟨w.heap.size + 1 + 1 + 1, i, none⟩ = false ∧ w'.frozen? ⟨w.heap.size, i, none⟩ = false := ⟨h.ev.frozen i, h.res.frozen i⟩
end
theorem Parse_short (s : ByteArray) (w : World) (hs : s.size < 4294967281) (ht : HT w) (h : (piecesB s).length < 3) : Calls Tryd.prog 7 #[.string s] w (ParsePost s.data.toList w) := by
  have Hp := Lib.hid (parse_short h)
  have hb : Below w.heap.size w (w.alloc (.cells Z4 23)) := (Below.refl _ _).alloc (Nat.le_refl _) _
  have d1 : decide ((piecesB s).length < 3) = true := by simp; omega
  have d2 : decide (((piecesB s).length : Int) < 3) = true := by simp; omega
  go_enter Tryd.func7, Tryd.ntmps7
  go_wp2_with fail
  refine (Split_any s _ hs (ht.below hb)).mono ?_
  rintro r w1 ⟨rfl, rfl⟩
  go_wp2_with fail
  have hR := ((Blk.new w 23 Z4).alloc (.cells ((piecesB s).map Value.string).toArray 9)).alloc (.cells #[.slice (some ⟨w.heap.size + 1, 0, none⟩) (piecesB s).length (piecesB s).length] 29)
  have c0 := hR.cell 0
  have c1 := hR.cell 1
  have c2 := hR.cell 2
  have c3 := hR.cell 3
  simp only [List.getElem?_toArray, List.getElem?_cons_zero, List.getElem?_cons_succ] at c0 c1 c2 c3
  exact bodyPost_ret (v := .tuple #[.agg #[.int .i64 0, .int .i64 0, .int .i64 0, .int .i64 0], .bool false]) (by simp [results, Tryd.results7, go_sem, c0, c1, c2, c3]) rfl (ParsePost.no Hp.out ((hb.alloc (by simp) _).alloc (by simp; omega) _))
theorem kindOf_bd (l : List UInt8) : -1 ≤ kindOf l ∧ kindOf l ≤ 10 := by
  unfold kindOf
  split
  · rename_i i h
    have h1 := (List.findIdx?_eq_some_iff_getElem.1 h).1
    have h2 : wordsB.length = 11 := rfl
    omega
  · omega
set_option maxRecDepth 100000 in
set_option maxHeartbeats 1000000 in
theorem Parse_three (s : ByteArray) (p0 p1 p2 : ByteArray) (w : World) (hs : s.size < 4294967281) (ht : HT w) (h : piecesB s = [p0, p1, p2]) : Calls Tryd.prog 7 #[.string s] w (ParsePost s.data.toList w) := by
  have hb : Below w.heap.size w (w.alloc (.cells Z4 23)) := (Below.refl _ _).alloc (Nat.le_refl _) _
  have hsplit := Split_any s _ hs (ht.below hb)
  rw [h] at hsplit
  have hl0 := piecesB_le s p0 0 (by rw [h]; rfl)
  have hl1 := piecesB_le s p1 1 (by rw [h]; rfl)
  have hl2 := piecesB_le s p2 2 (by rw [h]; rfl)
  have hev : evOf (splitS s.data.toList) = some ⟨semP p0.data.toList, kindOf p1.data.toList, semV p2.data.toList, 0⟩ := by
    rw [← piecesB_data, h]
    rfl
  have hkw := kindOf_bd p1.data.toList
  have Hev := Lib.hid hev
  have Hsp := Lib.hid hsplit
  have Ht := Lib.hid ht
  have h0 := PSt.start w ([p0, p1, p2])
  clear hev hsplit h ht hb
  go_enter Tryd.func7, Tryd.ntmps7
  go_wp2_with fail
  refine Hsp.out.mono ?_
  rintro r w1 ⟨rfl, rfl⟩
  go_wp2_with fail
  refine (ParseInt_any p0 _ (by omega) (Ht.out.below h0.bel)).mono ?_
  rintro r w2 ⟨err, rfl, hb2⟩
  have h2 := h0.below hb2
  have hf2 := (h2.fr 0).1
  have hc2 := h2.slot
  have hp2 := h2.piece (i := 2) rfl
  have hv2 := h2.evc.1
  have h3 := h2.set 0 (.int .i64 (semP p0.data.toList)) (by rfl)
  have H2 := Lib.hid h2
  have H3 := Lib.hid h3
  have hc3 := h3.slot
  have hp3 := h3.piece (i := 2) rfl
  clear h0 h2 h3 hb2
  go_wp2_with fail
  refine (Atoi_any p2 _ (by omega) (Ht.out.below H3.out.bel)).mono ?_
  rintro r w4 ⟨err4, rfl, hb4⟩
  have h4 := H3.out.below hb4
  have h5 := h4.set 2 (.int .i64 (semV p2.data.toList)) (by rfl)
  have hf4 := (h4.fr 2).1
  have hv4 := h4.evc.2.2.1
  have H5 := Lib.hid h5
  clear h4 h5 hb4 hf2 hc2 hp2 hv2 hc3 hp3
  go_wp2_with fail
  refine (words_any _).mono ?_
  rintro r w6 ⟨rfl, rfl⟩
  have hbw := (Below.refl (w4.setCell ⟨w.heap.size + 1 + 1 + 1, 2, none⟩ (.int .i64 (semV p2.data.toList))).heap.size (w4.setCell ⟨w.heap.size + 1 + 1 + 1, 2, none⟩ (.int .i64 (semV p2.data.toList)))).alloc (Nat.le_refl _) (.cells wordsC 9)
  have h6 := H5.out.below hbw
  go_wp2_with fail
  have hbk := Blk.new (w4.setCell ⟨w.heap.size + 1 + 1 + 1, 2, none⟩ (.int .i64 (semV p2.data.toList))) 9 wordsC
  rw [show (w4.setCell ⟨w.heap.size + 1 + 1 + 1, 2, none⟩ (.int .i64 (semV p2.data.toList))).heap.size = w4.heap.size by simp [World.setCell]] at hbk
  refine (Index_any p1.data.toList _ _ _ _ _ _ (by simp) (by simp) hbk h6.slot (by rw [h6.piece (i := 1) rfl])).mono ?_
  rintro r w7 ⟨rfl, hb7⟩
  have h7 := h6.below hb7
  have h8 := h7.set 1 (.int .i64 (kindOf p1.data.toList)) (by rfl)
  have hf7 := (h7.fr 1).1
  have hv7 := h7.evc.2.1
  have hc8 := h8.slot
  have hp8 := h8.piece (i := 2) rfl
  obtain ⟨x0, x1, x2, x3⟩ := h8.evc
  have H8 := Lib.hid h8
  clear h6 h7 h8 hb7 hbw hbk hf4 hv4
  go_wp2_with fail
  refine (Text_any ⟨semP p0.data.toList, kindOf p1.data.toList, semV p2.data.toList, 0⟩ ⟨semP_wf _, WalkArith.wf_i64 (by dsimp only; omega), semV_wf _, rfl⟩ _ (Ht.out.below H8.out.bel)).mono ?_
  rintro r w9 ⟨rfl, hb9⟩
  have h9 := H8.out.below hb9
  obtain ⟨y0, y1, y2, y3⟩ := h9.evc
  obtain ⟨z0, z1, z2, z3⟩ := h9.rc
  have g0 := (h9.fr 0).2
  have g1 := (h9.fr 1).2
  have g2 := (h9.fr 2).2
  have g3 := (h9.fr 3).2
  have H9 := Lib.hid h9
  clear h9 hb9 x0 x1 x2 x3 hc8 hp8 hf7 hv7
  by_cases htx : textE ⟨semP p0.data.toList, kindOf p1.data.toList, semV p2.data.toList, 0⟩ = s.data.toList
  · have q1 : (textE ⟨semP p0.data.toList, kindOf p1.data.toList, semV p2.data.toList, 0⟩ == s.toList) = true := by rw [htx, ByteArray.toList_eq]; simp
    have hps : parseE s.data.toList = some ⟨semP p0.data.toList, kindOf p1.data.toList, semV p2.data.toList, 0⟩ := by
      unfold parseE
      rw [Hev.out]
      simp only
      rw [if_pos htx]
    have Hps := Lib.hid hps
    clear hps htx
    go_wp2_with fail
    exact bodyPost_ret (v := .tuple #[.agg #[.int .i64 (semP p0.data.toList), .int .i64 (kindOf p1.data.toList), .int .i64 (semV p2.data.toList), .int .i64 0], .bool true]) (by simp [results, Tryd.results7, go_sem, z0, z1, z2, z3]) rfl (ParsePost.yes Hps.out ((((H9.out.bel.setCell (Nat.le_refl _) _).setCell (Nat.le_refl _) _).setCell (Nat.le_refl _) _).setCell (Nat.le_refl _) _))
  · have q1 : (textE ⟨semP p0.data.toList, kindOf p1.data.toList, semV p2.data.toList, 0⟩ == s.toList) = false := by
      rw [beq_eq_false_iff_ne]
      intro h
      rw [ByteArray.toList_eq] at h
      exact htx h
    have q2 : (!(textE ⟨semP p0.data.toList, kindOf p1.data.toList, semV p2.data.toList, 0⟩ == s.toList)) = true := by rw [q1]; rfl
    have hps : parseE s.data.toList = none := by
      unfold parseE
      rw [Hev.out]
      simp only
      rw [if_neg htx]
    have Hps := Lib.hid hps
    clear hps htx
    go_wp2_with fail
    exact bodyPost_ret (v := .tuple #[.agg #[.int .i64 0, .int .i64 0, .int .i64 0, .int .i64 0], .bool false]) (by simp [results, Tryd.results7, go_sem, z0, z1, z2, z3]) rfl (ParsePost.no Hps.out ((((H9.out.bel.setCell (Nat.le_refl _) _).setCell (Nat.le_refl _) _).setCell (Nat.le_refl _) _).setCell (Nat.le_refl _) _))
set_option maxRecDepth 100000 in
set_option maxHeartbeats 1000000 in
theorem Parse_four (s : ByteArray) (p0 p1 p2 p3 : ByteArray) (rest : List ByteArray) (w : World) (hs : s.size < 4294967281) (ht : HT w) (h : piecesB s = (p0 :: p1 :: p2 :: p3 :: rest)) : Calls Tryd.prog 7 #[.string s] w (ParsePost s.data.toList w) := by
  have hb : Below w.heap.size w (w.alloc (.cells Z4 23)) := (Below.refl _ _).alloc (Nat.le_refl _) _
  have hsplit := Split_any s _ hs (ht.below hb)
  rw [h] at hsplit
  have hl0 := piecesB_le s p0 0 (by rw [h]; rfl)
  have hl1 := piecesB_le s p1 1 (by rw [h]; rfl)
  have hl2 := piecesB_le s p2 2 (by rw [h]; rfl)
  have hl3 := piecesB_le s p3 3 (by rw [h]; rfl)
  have hrl : (rest.length : Int) ≤ 4294967281 := by
    have h1 := Lib.countB_le ⟨#[32]⟩ (by decide) s.size s (Nat.le_refl _)
    have h2 := piecesB_len s
    rw [h] at h2
    simp at h2
    omega
  have hev : evOf (splitS s.data.toList) = some ⟨semP p0.data.toList, kindOf p1.data.toList, semV p2.data.toList, semP p3.data.toList⟩ := by
    rw [← piecesB_data, h]
    rfl
  have hkw := kindOf_bd p1.data.toList
  have Hev := Lib.hid hev
  have Hsp := Lib.hid hsplit
  have Ht := Lib.hid ht
  have h0 := PSt.start w ((p0 :: p1 :: p2 :: p3 :: rest))
  clear hev hsplit h ht hb
  go_enter Tryd.func7, Tryd.ntmps7
  go_wp2_with fail
  refine Hsp.out.mono ?_
  rintro r w1 ⟨rfl, rfl⟩
  go_wp2_with fail
  refine (ParseInt_any p0 _ (by omega) (Ht.out.below h0.bel)).mono ?_
  rintro r w2 ⟨err, rfl, hb2⟩
  have h2 := h0.below hb2
  have hf2 := (h2.fr 0).1
  have hc2 := h2.slot
  have hp2 := h2.piece (i := 2) rfl
  have hv2 := h2.evc.1
  have h3 := h2.set 0 (.int .i64 (semP p0.data.toList)) (by rfl)
  have H2 := Lib.hid h2
  have H3 := Lib.hid h3
  have hc3 := h3.slot
  have hp3 := h3.piece (i := 2) rfl
  clear h0 h2 h3 hb2
  go_wp2_with fail
  refine (Atoi_any p2 _ (by omega) (Ht.out.below H3.out.bel)).mono ?_
  rintro r w4 ⟨err4, rfl, hb4⟩
  have h4 := H3.out.below hb4
  have h5 := h4.set 2 (.int .i64 (semV p2.data.toList)) (by rfl)
  have hf4 := (h4.fr 2).1
  have hv4 := h4.evc.2.2.1
  have H5 := Lib.hid h5
  clear h4 h5 hb4 hf2 hc2 hp2 hv2 hc3 hp3
  go_wp2_with fail
  refine (words_any _).mono ?_
  rintro r w6 ⟨rfl, rfl⟩
  have hbw := (Below.refl (w4.setCell ⟨w.heap.size + 1 + 1 + 1, 2, none⟩ (.int .i64 (semV p2.data.toList))).heap.size (w4.setCell ⟨w.heap.size + 1 + 1 + 1, 2, none⟩ (.int .i64 (semV p2.data.toList)))).alloc (Nat.le_refl _) (.cells wordsC 9)
  have h6 := H5.out.below hbw
  go_wp2_with fail
  have hbk := Blk.new (w4.setCell ⟨w.heap.size + 1 + 1 + 1, 2, none⟩ (.int .i64 (semV p2.data.toList))) 9 wordsC
  rw [show (w4.setCell ⟨w.heap.size + 1 + 1 + 1, 2, none⟩ (.int .i64 (semV p2.data.toList))).heap.size = w4.heap.size by simp [World.setCell]] at hbk
  refine (Index_any p1.data.toList _ _ _ _ _ _ (by simp) (by simp; omega) hbk h6.slot (by rw [h6.piece (i := 1) rfl])).mono ?_
  rintro r w7 ⟨rfl, hb7⟩
  have h7 := h6.below hb7
  have h8 := h7.set 1 (.int .i64 (kindOf p1.data.toList)) (by rfl)
  have hf7 := (h7.fr 1).1
  have hv7 := h7.evc.2.1
  have hc8 := h8.slot
  have hp8 := h8.piece (i := 3) rfl
  obtain ⟨x0, x1, x2, x3⟩ := h8.evc
  have H8 := Lib.hid h8
  clear h6 h7 h8 hb7 hbw hbk hf4 hv4
  go_wp2_with fail
  refine (ParseInt_any p3 _ (by omega) (Ht.out.below H8.out.bel)).mono ?_
  rintro r wa ⟨erra, rfl, hba⟩
  have ha := H8.out.below hba
  have hfa := (ha.fr 3).1
  have hva := ha.evc.2.2.2
  have hb' := ha.set 3 (.int .i64 (semP p3.data.toList)) (by rfl)
  obtain ⟨u0, u1, u2, u3⟩ := hb'.evc
  have HA := Lib.hid hb'
  clear ha hb' hba x0 x1 x2 x3 hc8 hp8 hf7 hv7
  go_wp2_with fail
  refine (Text_any ⟨semP p0.data.toList, kindOf p1.data.toList, semV p2.data.toList, semP p3.data.toList⟩ ⟨semP_wf _, WalkArith.wf_i64 (by dsimp only; omega), semV_wf _, semP_wf _⟩ _ (Ht.out.below HA.out.bel)).mono ?_
  rintro r w9 ⟨rfl, hb9⟩
  have h9 := HA.out.below hb9
  obtain ⟨y0, y1, y2, y3⟩ := h9.evc
  obtain ⟨z0, z1, z2, z3⟩ := h9.rc
  have g0 := (h9.fr 0).2
  have g1 := (h9.fr 1).2
  have g2 := (h9.fr 2).2
  have g3 := (h9.fr 3).2
  have H9 := Lib.hid h9
  clear h9 hb9 u0 u1 u2 u3 hfa hva
  by_cases htx : textE ⟨semP p0.data.toList, kindOf p1.data.toList, semV p2.data.toList, semP p3.data.toList⟩ = s.data.toList
  · have q1 : (textE ⟨semP p0.data.toList, kindOf p1.data.toList, semV p2.data.toList, semP p3.data.toList⟩ == s.toList) = true := by rw [htx, ByteArray.toList_eq]; simp
    have hps : parseE s.data.toList = some ⟨semP p0.data.toList, kindOf p1.data.toList, semV p2.data.toList, semP p3.data.toList⟩ := by
      unfold parseE
      rw [Hev.out]
      simp only
      rw [if_pos htx]
    have Hps := Lib.hid hps
    clear hps htx
    go_wp2_with fail
    exact bodyPost_ret (v := .tuple #[.agg #[.int .i64 (semP p0.data.toList), .int .i64 (kindOf p1.data.toList), .int .i64 (semV p2.data.toList), .int .i64 (semP p3.data.toList)], .bool true]) (by simp [results, Tryd.results7, go_sem, z0, z1, z2, z3]) rfl (ParsePost.yes Hps.out ((((H9.out.bel.setCell (Nat.le_refl _) _).setCell (Nat.le_refl _) _).setCell (Nat.le_refl _) _).setCell (Nat.le_refl _) _))
  · have q1 : (textE ⟨semP p0.data.toList, kindOf p1.data.toList, semV p2.data.toList, semP p3.data.toList⟩ == s.toList) = false := by
      rw [beq_eq_false_iff_ne]
      intro h
      rw [ByteArray.toList_eq] at h
      exact htx h
    have q2 : (!(textE ⟨semP p0.data.toList, kindOf p1.data.toList, semV p2.data.toList, semP p3.data.toList⟩ == s.toList)) = true := by rw [q1]; rfl
    have hps : parseE s.data.toList = none := by
      unfold parseE
      rw [Hev.out]
      simp only
      rw [if_neg htx]
    have Hps := Lib.hid hps
    clear hps htx
    go_wp2_with fail
    exact bodyPost_ret (v := .tuple #[.agg #[.int .i64 0, .int .i64 0, .int .i64 0, .int .i64 0], .bool false]) (by simp [results, Tryd.results7, go_sem, z0, z1, z2, z3]) rfl (ParsePost.no Hps.out ((((H9.out.bel.setCell (Nat.le_refl _) _).setCell (Nat.le_refl _) _).setCell (Nat.le_refl _) _).setCell (Nat.le_refl _) _))
theorem Parse_any (s : ByteArray) (w : World) (hs : s.size < 4294967281) (ht : HT w) : Calls Tryd.prog 7 #[.string s] w (ParsePost s.data.toList w) := by
  match h : piecesB s with
  | [] => exact Parse_short s w hs ht (by rw [h]; simp)
  | [_] => exact Parse_short s w hs ht (by rw [h]; simp)
  | [_, _] => exact Parse_short s w hs ht (by rw [h]; simp)
  | [p0, p1, p2] => exact Parse_three s p0 p1 p2 w hs ht h
  | p0 :: p1 :: p2 :: p3 :: rest => exact Parse_four s p0 p1 p2 p3 rest w hs ht h
end Go.Proofs.YtommmfncaadbeaaDoor
