/-
  Clone of Events; Put whatever the room.
-/
import Derived.Test.YtommmfncaadbeaaDoorN6
import Derived.Laws.Slices
import Derived.Lib.SliceRun
namespace Go.Proofs.YtommmfncaadbeaaDoor
open Go.RowKit

set_option maxRecDepth 100000 in
theorem Clone_any (w : World) (ad : Addr) (l : List Ev) (c : Nat) (h0 : 0 < l.length) (hl : l.length ≤ 100000) (hr : Reads w w.heap.size 4 (some ad) l.length (flatE l)) :
    Calls Tryd.prog 26 #[.slice (some ad) l.length c] w fun e w' => ∃ v, e = .returned v ∧ w'.ownsRow w.heap.size 23 4 v l.length (flatE l) ∧ Below w.heap.size w w' := by
  obtain ⟨i0, hi, hz0, hz1, hz2⟩ := info_parts Tryd.info23
  obtain ⟨ad', e', _, hcells⟩ := hr.2 h0
  cases e'
  have hnil := fun W => Lib.run_eql_slice_nil (P := Tryd.prog) W 33 23 (some ad) l.length c 0 0 Tryd.underlying33
  go_enter Tryd.func26, Tryd.ntmps26
  have hown0 : (w.alloc (.cells #[] 23)).ownsRow w.heap.size 23 4 (.slice (some ⟨w.heap.size, 0, none⟩) 0 0) 0 [] :=
    ⟨rfl, .inr ⟨w.heap.size, 0, #[], rfl, Nat.le_refl _, heap_alloc_new w _, Nat.le_refl _, by unfold maxLen; omega, rfl, rfl⟩⟩
  have hc1 : ∀ j u, (flatE l)[j]? = some u → (w.alloc (.cells #[] 23)).cell? (ad.add j) = some u := fun j u hu => by
    have h := hcells j u hu
    rw [World.cell?_alloc_lt w _ _ (World.block_lt_of_cell? w _ h)]
    exact h
  have Hown0 := Lib.hid hown0
  have Hc1 := Lib.hid hc1
  clear hown0 hc1 hcells
  go_wp2_with (at_builtin; refine wpList_append_own _ rfl _ _ 33 rfl w.heap.size 23 i0 (.agg #[.int .i64 0, .int .i64 0, .int .i64 0, .int .i64 0]) 4 32 Tryd.underlying33 hi hz0 hz1 hz2 rfl (by decide) _ _ _ rfl Hown0.out ad l.length c (flatE l) rfl (flatE_length l) Hc1.out (flatE_one l) ?c3 ?c4 ?c5 ?_)
  case c3 => unfold maxLen; omega
  case c4 => omega
  case c5 => simp
  intro v' w1 hown hgrow _
  have Hown := Lib.hid hown
  have Hgrow := Lib.hid hgrow
  clear hown hgrow
  go_wp2_with fail
  go_ret
  have h1 : w1.ownsRow w.heap.size 23 4 v' l.length (flatE l) := by
    have h2 := Hown.out
    try simp only [Nat.zero_add, List.nil_append] at h2
    exact h2
  exact ⟨_, rfl, h1, ((Below.refl _ w).alloc (Nat.le_refl _) _).grown Hgrow.out (by simp) (fun k hk => by simp [Value.ownBlock] at hk; omega)⟩
theorem drop_reads {w : World} {B : Nat} {A : Option Addr} {l : List Ev} (h : Reads w B 4 A l.length (flatE l)) (k cap : Nat) (hk : k ≤ l.length) (hc : l.length ≤ cap) : Reads w B 4 (if cap = k then A else A.map (·.add (k * 4))) (l.drop k).length (flatE (l.drop k)) := by
  have h1 := Reads.cut h hk hc
  rw [flatE_drop, List.length_drop]
  exact h1
theorem slice_from (A : Option Addr) (n c k : Nat) (hk : k ≤ n) (w : World) : (Instr.slice 33 (.slice A n c) (some (.int .i64 k)) none none).run Tryd.prog w = .ok (.slice (if c = k then A else A.map (·.add (k * 4))) (n - k) (c - k)) w := by
  rw [run_slice_l (P := Tryd.prog) w 33 A n c (by kernel_rfl) .i64 k (by omega) (by omega)]
  have h : (sizeOf (Tryd.prog.elem 33)).run Tryd.prog w = .ok 4 w := by kernel_rfl
  rw [h]
  rfl
theorem Clone_len (w : World) (ad : Addr) (l : List Ev) (n c : Nat) (hn : l.length = n) (h0 : 0 < n) (hl : n ≤ 100000) (hr : Reads w w.heap.size 4 (some ad) n (flatE l)) :
    Calls Tryd.prog 26 #[.slice (some ad) n c] w fun e w' => ∃ v, e = .returned v ∧ w'.ownsRow w.heap.size 23 4 v n (flatE l) ∧ Below w.heap.size w w' := by
  subst hn
  exact Clone_any w ad l c h0 hl hr
theorem Lt2 {S : Nat → Prop} {w w' : World} (h : Turn S w w') : w.heap.size ≤ w'.heap.size := h.size
set_option maxRecDepth 100000 in
set_option maxHeartbeats 1000000 in
/-- Put, where there is no room: the first ones go -/
theorem Put_over (w : World) (gn : Nat) (room lost : Int) (v : Value) (l ns : List Ev) (ad : Addr) (c k : Nat) (h : NtAt w gn room lost v l) (hr : Reads w w.heap.size 4 (some ad) ns.length (flatE ns)) (h0 : 0 < ns.length)
    (hroom : (l.length : Int) + ns.length = room + k) (hk : 0 < k) (h1 : 1 ≤ room) (hmax : room + k ≤ 100000) (hlo : 0 ≤ lost) (hlo2 : lost ≤ 100000) :
    Calls Tryd.prog 9 #[.pointer (some ⟨gn, 0, none⟩), .slice (some ad) ns.length c] w fun e w' => e = .returned (.tuple #[]) ∧
      ∃ v', NtAt w' gn room (lost + k) v' ((l ++ ns).drop k) ∧ (∃ j, v'.ownBlock = some j ∧ w.heap.size ≤ j) ∧ Turn (fun j => j = gn ∨ v.ownBlock = some j) w w' := by
  obtain ⟨i0, hi, hz0, hz1, hz2⟩ := info_parts Tryd.info23
  have hc1 : w.cell? ⟨gn, 1, none⟩ = some v := h.blk.cell 1
  obtain ⟨ad', e', _, hcells⟩ := hr.2 h0
  cases e'
  go_enter Tryd.func9, Tryd.ntmps9
  go_wp2_with (at_builtin; refine wpList_append_own_at _ rfl _ _ 33 rfl 0 23 i0 (.agg #[.int .i64 0, .int .i64 0, .int .i64 0, .int .i64 0]) 4 32 Tryd.underlying33 hi hz0 hz1 hz2 rfl (by decide) _ _ _ rfl h.row ad ns.length c (flatE ns) rfl (flatE_length ns) hcells (flatE_one ns) ?c3 ?c4 ?c5 ?_)
  case c3 => unfold maxLen; omega
  case c4 => omega
  case c5 => omega
  intro v' w1 hown hgrow _ hloc
  have hb1 : Blk w1 gn 56 #[.int .i64 room, v, .int .i64 lost] := h.blk.grown hgrow (fun e => h.ne e.symm)
  have c10 := hb1.cell 0
  have c11 := hb1.cell 1
  have f11 := hb1.frozen 1
  simp only [List.getElem?_toArray, List.getElem?_cons_zero, List.getElem?_cons_succ] at c10 c11
  have hb2 : Blk (w1.setCell ⟨gn, 1, none⟩ v') gn 56 #[.int .i64 room, v', .int .i64 lost] := hb1.set_ 1 v'
  have hne : v'.ownBlock ≠ some gn := by
    rcases hloc with e | e
    · rw [e]; exact h.ne
    · rw [e]; intro e2; have := Option.some.inj e2; have := h.blk.lt; omega
  have hrow2 : (w1.setCell ⟨gn, 1, none⟩ v').ownsRow 0 23 4 v' (l ++ ns).length (flatE (l ++ ns)) := by
    rw [flatE_append, List.length_append]
    exact ownsRow_setCell_other hown (a := ⟨gn, 1, none⟩) hne v'
  have ht2 : Turn (fun j => j = gn ∨ v.ownBlock = some j) w (w1.setCell ⟨gn, 1, none⟩ v') := ((Turn.refl _ w).grown hgrow fun k hk => .inl (.inr hk)).setCell (.inl (.inl rfl)) v'
  obtain ⟨W2, hW2⟩ : ∃ W2, w1.setCell ⟨gn, 1, none⟩ v' = W2 := ⟨_, rfl⟩
  rw [hW2] at hb2 hrow2 ht2
  obtain ⟨m, hm⟩ : ∃ m : List Ev, l ++ ns = m := ⟨_, rfl⟩
  have hml : m.length = l.length + ns.length := by rw [← hm, List.length_append]
  rw [hm] at hrow2
  obtain ⟨g2, cap, hv', hg0, hgl, hcap, _⟩ := own_full hrow2 (by omega)
  have hrd := hrow2
  rw [hv'] at hrd
  have hrd2 := drop_reads (Reads.of_own hrd) k cap (by omega) hcap
  have d0 := hb2.cell 0
  have d1 := hb2.cell 1
  simp only [List.getElem?_toArray, List.getElem?_cons_zero, List.getElem?_cons_succ] at d0 d1
  obtain ⟨ad2, had2⟩ : ∃ ad2 : Addr, (⟨g2, 0, none⟩ : Addr).add (k * 4) = ad2 := ⟨_, rfl⟩
  have hsl : ∀ W, (Instr.slice 33 (.slice (some ⟨g2, 0, none⟩) m.length cap) (some (.int .i64 k)) none none).run Tryd.prog W = .ok (.slice (some ad2) (m.length - k) (cap - k)) W := fun W => by
    rw [slice_from (some ⟨g2, 0, none⟩) m.length cap k (by omega) W, if_neg (by omega), ← had2]
    rfl
  rw [if_neg (by omega)] at hrd2
  simp only [Option.map_some, had2] at hrd2
  rw [List.length_drop] at hrd2
  have z1 : IntKind.i64.wrap ((m.length : Int) - room) = (k : Int) := by rw [show (m.length : Int) - room = k by omega]; exact IntWalk.i64_in _ (by omega)
  have g1 : decide ((0 : Int) < (k : Int)) = true := by simp; omega
  have g2' : decide (0 < k) = true := by simp; omega
  have Hkm := Lib.hid (show 0 < m.length - k ∧ m.length - k ≤ 100000 by omega)
  clear had2
  subst hv'
  have HW2 := Lib.hid hW2
  have Hrd2 := Lib.hid hrd2
  have Hb2 := Lib.hid hb2
  have Ht2 := Lib.hid ht2
  have Hml := Lib.hid hml
  have Hm := Lib.hid hm
  clear hown hgrow hloc hb1 hb2 hne hW2 hrow2 hrd hrd2 ht2 hml hm
  go_wp2_with fail
  rw [HW2.out]
  go_quiet (fail)
  have Hrd3 := Lib.hid (Reads.drewN Hrd2.out nq)
  have hb3 := Hb2.out.drewN nq
  have hc3 : (W2.drewN nq).cell? ⟨gn, 1, none⟩ = some (.slice (some ⟨g2, 0, none⟩) m.length cap) := hb3.cell 1
  clear z1
  go_wp2_with fail
  refine (Clone_len _ ad2 (m.drop k) (m.length - k) (cap - k) (by simp) Hkm.out.1 Hkm.out.2 Hrd3.out).mono ?_
  rintro r w3 ⟨v3, rfl, hown3, hb3'⟩
  obtain ⟨g3, cap3, hv3, hg3, hgl3, _⟩ := own_full hown3 Hkm.out.1
  subst hv3
  have hb4 := hb3.below hb3' hb3.lt
  have f31 := hb4.frozen 1
  have c31 := hb4.cell 1
  have hb5 : Blk (w3.setCell ⟨gn, 1, none⟩ (.slice (some ⟨g3, 0, none⟩) (m.length - k) cap3)) gn 56 #[.int .i64 room, .slice (some ⟨g3, 0, none⟩) (m.length - k) cap3, .int .i64 lost] := hb4.set_ 1 (.slice (some ⟨g3, 0, none⟩) (m.length - k) cap3)
  have c32 := hb5.cell 2
  have f32 := hb5.frozen 2
  simp only [List.getElem?_toArray, List.getElem?_cons_zero, List.getElem?_cons_succ] at c31 c32
  have hb6 : Blk ((w3.setCell ⟨gn, 1, none⟩ (.slice (some ⟨g3, 0, none⟩) (m.length - k) cap3)).setCell ⟨gn, 2, none⟩ (.int .i64 (lost + k))) gn 56 #[.int .i64 room, .slice (some ⟨g3, 0, none⟩) (m.length - k) cap3, .int .i64 (lost + k)] := hb5.set_ 2 (.int .i64 (lost + k))
  have hgw : gn < w.heap.size := h.blk.lt
  have hne3 : (Value.slice (some ⟨g3, 0, none⟩) (m.length - k) cap3).ownBlock ≠ some gn := by
    simp only [Value.ownBlock, ne_eq, Option.some.injEq]
    have := (Lt2 Ht2.out)
    simp at hg3
    omega
  have Hfin : Hid (∃ v', NtAt ((w3.setCell ⟨gn, 1, none⟩ (.slice (some ⟨g3, 0, none⟩) (m.length - k) cap3)).setCell ⟨gn, 2, none⟩ (.int .i64 (lost + k))) gn room (lost + k) v' ((l ++ ns).drop k) ∧ (∃ j, v'.ownBlock = some j ∧ w.heap.size ≤ j) ∧ Turn (fun j => j = gn ∨ v.ownBlock = some j) w ((w3.setCell ⟨gn, 1, none⟩ (.slice (some ⟨g3, 0, none⟩) (m.length - k) cap3)).setCell ⟨gn, 2, none⟩ (.int .i64 (lost + k)))) := by
    refine Lib.hid ⟨_, ⟨hb6, ?_, hne3⟩, ⟨g3, rfl, ?_⟩, ?_⟩
    · rw [Hm.out, List.length_drop]
      exact own_mono (ownsRow_setCell_other (ownsRow_setCell_other hown3 (a := ⟨gn, 1, none⟩) hne3 _) (a := ⟨gn, 2, none⟩) hne3 _) (Nat.zero_le _)
    · have := Lt2 Ht2.out
      simp at hg3
      omega
    · exact ((((Ht2.out.drewN nq).below hb3').setCell (.inl (.inl rfl)) _).setCell (.inl (.inl rfl)) _)
  clear hown3 hb3' hb3 hc3 hb4 hb5 hb6 hg3 hgl3 hne3
  go_wp2_with fail
  go_end0
  exact ⟨rfl, Hfin.out⟩
end Go.Proofs.YtommmfncaadbeaaDoor
