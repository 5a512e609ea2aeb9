/-
  prog's Parse, as a contract: the valid program whose text the string is, or none.
-/
import Derived.Test.YtnlmpkcninhnfaaDoorP2
import Derived.Lib.AtoiErrMem
import Derived.WalkSpells
namespace Go.Proofs.YtnlmpkcninhnfaaDoor
open Go.RowKit

theorem Cut_any (s : ByteArray) (a b : List UInt8) (f : Bool) (hc : Lib.cut s.data.toList [64] = (a, b, f)) (w : World) (hs : s.size < 4294967281) (ht : HT w) :
    Calls Tryd.prog 25 #[.string s, .string ⟨#[64]⟩] w fun e w' => e = .returned (.tuple #[.string ⟨a.toArray⟩, .string ⟨b.toArray⟩, .bool f]) ∧ Below w.heap.size w w' := by
  obtain ⟨m, hm⟩ := ht.most
  have h0 := Tryd.strings_Cut s ⟨#[64]⟩ m w hs hm
  have e1 : (⟨#[64]⟩ : ByteArray).data.toList = [64] := rfl
  rw [e1, hc] at h0
  exact h0.mono fun _ _ ⟨h, n, hw⟩ => ⟨h, by subst hw; exact below_drewN (Below.refl _ _) n⟩
theorem cut_le (l a b : List UInt8) (f : Bool) (hc : Lib.cut l [64] = (a, b, f)) : a.length ≤ l.length ∧ b.length ≤ l.length := by
  unfold Lib.cut at hc
  split at hc
  · injection hc with h1 h2
    injection h2 with h2 h3
    subst h1; subst h2
    simp
    omega
  · injection hc with h1 h2
    injection h2 with h2 h3
    subst h1; subst h2
    simp
theorem splitK_le (sep : List UInt8) : ∀ (k : Nat) (s : List UInt8), ∀ y ∈ Lib.splitK sep 0 k s, y.length ≤ s.length
  | 0, s, y, h => by
    simp only [Lib.splitK, List.mem_singleton] at h
    rw [h]; omega
  | k + 1, s, y, h => by
    rw [Lib.splitK] at h
    split at h
    · rw [List.mem_singleton] at h
      rw [h]; omega
    · rw [List.mem_cons] at h
      rcases h with rfl | h
      · simp; omega
      · have := splitK_le sep k _ y h
        simp at this
        omega
theorem size_eq (s : ByteArray) : s.size = s.data.toList.length := by
  show s.data.size = _
  simp
theorem size_mk (l : List UInt8) : (⟨l.toArray⟩ : ByteArray).size = l.length := by
  show l.toArray.size = l.length
  simp
theorem Atoi_any (s : ByteArray) (w : World) (hs : s.size < 4294967281) (ht : HT w) :
    Calls Tryd.prog 27 #[.string s] w fun e w' => ∃ err, e = .returned (.tuple #[.int .i64 (semV s.data.toList), err]) ∧ Below w.heap.size w w' := by
  obtain ⟨t1, p1, h1⟩ := ht.bad
  obtain ⟨t2, p2, h2⟩ := ht.far
  cases h : Lib.atoiAll s.data.toList with
  | ok v =>
    rw [show semV s.data.toList = v by simp [semV, h]]
    refine (Tryd.strconv_Atoi_ok s (by omega) v h w).mono fun e w' ⟨he, hw⟩ => ⟨_, he, ?_⟩
    rcases hw with rfl | ⟨t, rfl⟩
    · exact Below.refl _ _
    · exact Lib.bytesWorld_below _ _ _
  | range =>
    rw [show semV s.data.toList = Lib.atoiSat s.data.toList by simp [semV, h]]
    exact (Tryd.strconv_Atoi_range s (by omega) h _ w h2 (.inr ⟨_, _, rfl⟩)).mono fun e w' ⟨N, he, _, _, hb⟩ => ⟨_, he, hb⟩
  | _ =>
    rw [show semV s.data.toList = 0 by simp [semV, h]]
    exact (Any.strconv_Atoi_syntax Tryd.laysC172 s (by omega) h _ w h1 (.inr ⟨_, _, rfl⟩)).mono fun e w' ⟨N, he, _, _, hb⟩ => ⟨_, he, hb⟩
theorem Atoi_list (b : List UInt8) (w : World) (hs : (⟨b.toArray⟩ : ByteArray).size < 4294967281) (ht : HT w) :
    Calls Tryd.prog 27 #[.string ⟨b.toArray⟩] w fun e w' => ∃ err, e = .returned (.tuple #[.int .i64 (semV b), err]) ∧ Below w.heap.size w w' := by
  have h := Atoi_any ⟨b.toArray⟩ w hs ht
  rwa [show (⟨b.toArray⟩ : ByteArray).data.toList = b by simp] at h
theorem ParseInt_ok (s : ByteArray) (v : Int) (w : World) (hs : s.size < 4294967281) (h : Lib.parseIntB 64 s.data.toList = .ok v) :
    Calls Tryd.prog 26 #[.string s, .int .i64 10, .int .i64 64] w fun e w' => e = .returned (.tuple #[.int .i64 v, .nilIface]) ∧ Below w.heap.size w w' := by
  refine (Tryd.strconv_ParseInt_10_at64_ok s (by omega) v h w).mono fun e w' ⟨he, hw⟩ => ⟨he, ?_⟩
  rcases hw with rfl | ⟨t, rfl⟩
  · exact Below.refl _ _
  · exact Lib.bytesWorld_below _ _ _
theorem ParseInt_no (s : ByteArray) (w : World) (hs : s.size < 4294967281) (ht : HT w) (h : ∀ v, Lib.parseIntB 64 s.data.toList ≠ .ok v) :
    Calls Tryd.prog 26 #[.string s, .int .i64 10, .int .i64 64] w fun e w' => ∃ n t p, e = .returned (.tuple #[.int .i64 n, .iface t p]) ∧ Below w.heap.size w w' := by
  obtain ⟨t1, p1, h1⟩ := ht.bad
  obtain ⟨t2, p2, h2⟩ := ht.far
  cases hr : Lib.parseIntB 64 s.data.toList with
  | ok v => exact absurd hr (h v)
  | range => exact (Tryd.strconv_ParseInt_10_at64_range s (by omega) hr _ w h2 (.inr ⟨_, _, rfl⟩)).mono fun e w' ⟨N, he, _, _, hb⟩ => ⟨_, _, _, he, hb⟩
  | _ => exact (Any.strconv_ParseInt_10_at64_syntax Tryd.laysC174 s (by omega) hr _ w h1 (.inr ⟨_, _, rfl⟩)).mono fun e w' ⟨N, he, _, _, hb⟩ => ⟨_, _, _, he, hb⟩

def piecesB (s : ByteArray) : List ByteArray := Lib.splitB ⟨#[43]⟩ 0 (min 9 (s.size + 1) - 1) s
theorem piecesB_data (s : ByteArray) : (piecesB s).map (·.data.toList) = pieces s.data.toList := by
  unfold piecesB pieces
  rw [Lib.splitB_data]
  rfl
theorem piecesB_le (s t : ByteArray) (i : Nat) (h : (piecesB s)[i]? = some t) : t.size ≤ s.size := by
  have h1 : t.data.toList ∈ pieces s.data.toList := by
    rw [← piecesB_data]
    exact List.mem_map.2 ⟨t, List.mem_of_getElem? h, rfl⟩
  have h2 := splitK_le [43] _ _ _ h1
  rw [size_eq, size_eq]
  exact h2
theorem Split_any (s : ByteArray) (w : World) (hs : s.size < 4294967281) (ht : HT w) :
    Calls Tryd.prog 24 #[.string s, .string ⟨#[43]⟩, .int .i64 9] w fun e w' => ∃ g cap, e = .returned (.slice (some ⟨g, 0, none⟩) (piecesB s).length cap) ∧ Below w.heap.size w w' ∧ g < w'.heap.size ∧
      (piecesB s).length ≤ 9 ∧ ∀ j x, (piecesB s)[j]? = some x → w'.cell? ⟨g, j, none⟩ = some (.string x) := by
  obtain ⟨m, hm⟩ := ht.most
  refine (Tryd.strings_SplitN s ⟨#[43]⟩ 9 m w hs hm (by decide) (by omega) (by omega)).mono fun e w' ⟨h, hw⟩ => ⟨_, _, h, by rw [hw]; exact (Below.refl _ _).alloc (Nat.le_refl _) _, by rw [hw]; simp, ?_, ?_⟩
  · have := Lib.splitB_length_le ⟨#[43]⟩ 0 (min 9 (s.size + 1) - 1) s
    unfold piecesB
    omega
  · intro j x hx
    rw [hw, (Blk.new w 9 _).cell j]
    unfold Lib.cellsOf
    rw [List.getElem?_toArray, List.getElem?_append_left (by
      have := (List.getElem?_eq_some_iff.1 hx).1
      simpa [piecesB] using this), List.getElem?_map]
    have hx' := hx
    unfold piecesB at hx'
    rw [hx']
    rfl

theorem Tryd.info48 : (Tryd.prog.info? 48).map (fun i => (i.zero, i.size, i.bytes)) = some (some (.agg #[.int .i64 0, .int .i64 0]), 2, 16) := by kernel_rfl
theorem flat_snoc (d : List (Int × Int)) (s t : Int) : flat d ++ [.int .i64 s, .int .i64 t] = flat (d ++ [(s, t)]) := by simp [flat]

def ParsePost (s : List UInt8) (w : World) (e : Ending) (w' : World) : Prop :=
  Below w.heap.size w w' ∧ match parseG s with
    | none => e = .returned (.tuple #[.slice none 0 0, .bool false])
    | some p => ∃ A c, e = .returned (.tuple #[.slice A p.length c, .bool true]) ∧ Pg w' w'.heap.size A p ∧ p.length ≤ 9
theorem ParsePost.no {s : List UInt8} {w w' : World} (h : parseG s = none) (hb : Below w.heap.size w w') : ParsePost s w (.returned (.tuple #[.slice none 0 0, .bool false])) w' := by
  refine ⟨hb, ?_⟩
  rw [h]
theorem ParsePost.yes {s : List UInt8} {p : List (Int × Int)} {w w' : World} {A : Option Addr} {c : Nat} (h : parseG s = some p) (hb : Below w.heap.size w w') (hp : Pg w' w'.heap.size A p) (hl : p.length ≤ 9) :
    ParsePost s w (.returned (.tuple #[.slice A p.length c, .bool true])) w' := by
  refine ⟨hb, ?_⟩
  rw [h]
  exact ⟨A, c, rfl, hp, hl⟩
def PrsRel (P : List ByteArray) (w : World) (k : Nat) (s4 s16 : Value) (wr : World) : Prop :=
  ∃ (i : Nat) (d : List (Int × Int)), k = P.length - i ∧ i ≤ P.length ∧ s16 = .int .i64 i ∧ collect ((P.map (·.data.toList)).take i) = some d ∧ d.length = i ∧ wr.ownsRow w.heap.size 48 2 s4 i (flat d) ∧ Below w.heap.size w wr

set_option maxRecDepth 100000 in
set_option maxHeartbeats 4000000 in
theorem Parse_any (s : ByteArray) (w : World) (hs : s.size < 4294967281) (ht : HT w) : Calls Tryd.prog 9 #[.string s] w (ParsePost s.data.toList w) := by
  obtain ⟨i0, hi, hz0, hz1, hz2⟩ := info_parts Tryd.info48
  have Ht := Lib.hid ht
  clear ht
  go_enter Tryd.func9, Tryd.ntmps9
  go_wp2_with fail
  refine (Split_any s w hs Ht.out).mono ?_
  rintro e w1 ⟨g, cap, rfl, hb1, hg, hn9, hcells⟩
  have Hcells := Lib.hid hcells
  have Ht1 := Lib.hid (Ht.out.below hb1)
  clear hcells
  go_wp2_with fail
  go_loopg [4, 16] (piecesB s).length (fun k s4 s16 wr => PrsRel (piecesB s) w1 k s4 s16 wr)
  case atStart => exact ⟨0, [], rfl, Nat.zero_le _, rfl, rfl, rfl, World.ownsRow_nil _ _ _ _, Below.refl _ _⟩
  case round =>
    obtain ⟨i, d, hk, hil, rfl, hcol, hdl, hown, hbel⟩ := hrel
    have Hk := Lib.hid hk
    have Hcol := Lib.hid hcol
    have Hdl := Lib.hid hdl
    have Hown := Lib.hid hown
    clear hk hcol hdl hown
    by_cases hlt : i < (piecesB s).length
    · obtain ⟨t, ht⟩ : ∃ t, (piecesB s)[i]? = some t := ⟨_, List.getElem?_eq_getElem hlt⟩
      have hcr := below_cell hbel hg (Hcells.out i t ht)
      have hts : t.size < 4294967281 := by have := piecesB_le s t i ht; omega
      have HT' := Lib.hid ht
      clear ht
      obtain ⟨a, b, f, hcut⟩ : ∃ a b f, Lib.cut t.data.toList [64] = (a, b, f) := ⟨_, _, _, rfl⟩
      have hcl := cut_le _ _ _ _ hcut
      have hasz : (⟨a.toArray⟩ : ByteArray).size < 4294967281 := by rw [size_mk]; rw [size_eq] at hts; omega
      have hbsz : (⟨b.toArray⟩ : ByteArray).size < 4294967281 := by rw [size_mk]; rw [size_eq] at hts; omega
      have Hcut := Lib.hid hcut
      clear hcut hcl
      by_cases hpi : ∃ v, Lib.parseIntB 64 a = .ok v
      · obtain ⟨v, hpi⟩ := hpi
        have Hpi := Lib.hid hpi
        clear hpi
        cases f with
        | false =>
          have hpf : Hid (pieceF t.data.toList = some (0, v)) := Lib.hid (by simp [pieceF, Hcut.out, Hpi.out])
          go_wp2_with fail
          refine (Cut_any t a b false Hcut.out _ hts (Ht1.out.below hbel)).mono ?_
          rintro e w2 ⟨rfl, hb2⟩
          have hb2w := hbel.trans (hb2.mono hbel.size)
          go_wp2_with fail
          refine (ParseInt_ok ⟨a.toArray⟩ v _ hasz Hpi.out).mono ?_
          rintro e w3 ⟨rfl, hb3⟩
          have hb3w := hb2w.trans (hb3.mono hb2w.size)
          have Hown3 := Lib.hid ((own_below (own_below Hown.out hb2) hb3).alloc (.cells #[.int .i64 0, .int .i64 v] 48))
          have hnew : ((w3.alloc (.cells #[.int .i64 0, .int .i64 v] 48)).alloc (.cells #[.int .i64 0, .int .i64 v] 48)).heap[w3.heap.size + 1]? = some (.cells #[.int .i64 0, .int .i64 v] 48 (0, 0)) := by
            have h := Blk.new (w3.alloc (.cells #[.int .i64 0, .int .i64 v] 48)) 48 #[.int .i64 0, .int .i64 v]
            simpa [Blk] using h
          have hb3wA : Below w1.heap.size w1 (w3.alloc (.cells #[.int .i64 0, .int .i64 v] 48)) := hb3w.alloc hb3w.size _
          go_wp2_with (at_builtin; refine wpList_append_own _ rfl _ _ 24 rfl w1.heap.size 48 i0 (.agg #[.int .i64 0, .int .i64 0]) 2 16 Tryd.underlying24 hi hz0 hz1 hz2 rfl (by decide) _ _ _ rfl (Hown3.out.alloc _) ⟨w3.heap.size + 1, 0, none⟩ 1 1 [.int .i64 0, .int .i64 v] rfl rfl ?c1 ?c2 ?c3 ?c4 ?c5 ?_)
          try (case c1 => exact World.news_of_block (cs := #[.int .i64 0, .int .i64 v]) (t := 48) (fr := (0, 0)) hnew)
          case c2 => simp [Value.oneCell']
          case c3 => unfold maxLen; omega
          case c4 => omega
          case c5 => (try simp); have := hb3w.size; omega
          intro v' w9 hown9 hgr9 _
          have hb9 : Below w1.heap.size w1 w9 := (hb3wA.alloc hb3wA.size _).grown hgr9 (by (try simp); have := hb3w.size; omega) (fun k hk => (Hown3.out.lt k hk).1)
          have Hown9 := Lib.hid hown9
          clear hown9
          go_wp2
          go_roundg ((piecesB s).length - (i + 1))
          case measure => rw [Hk.out]; omega
          case rel =>
            refine ⟨i + 1, d ++ [(0, v)], rfl, hlt, by go_num, collect_take Hcol.out (by rw [List.getElem?_map, HT'.out]; rfl) hpf.out, by simp [Hdl.out], ?_, hb9⟩
            have := Hown9.out
            rw [flat_snoc d] at this
            exact this
        | true =>
          have hpf : Hid (pieceF t.data.toList = some (semV b, v)) := Lib.hid (by simp [pieceF, Hcut.out, Hpi.out])
          go_wp2_with fail
          refine (Cut_any t a b true Hcut.out _ hts (Ht1.out.below hbel)).mono ?_
          rintro e w2 ⟨rfl, hb2⟩
          have hb2w := hbel.trans (hb2.mono hbel.size)
          go_wp2_with fail
          refine (ParseInt_ok ⟨a.toArray⟩ v _ hasz Hpi.out).mono ?_
          rintro e w3 ⟨rfl, hb3⟩
          have hb3w := hb2w.trans (hb3.mono hb2w.size)
          have Hown3 := Lib.hid ((own_below (own_below Hown.out hb2) hb3).alloc (.cells #[.int .i64 0, .int .i64 v] 48))
          have hb3wA : Below w1.heap.size w1 (w3.alloc (.cells #[.int .i64 0, .int .i64 v] 48)) := hb3w.alloc hb3w.size _
          have hk3 := Blk.new w3 48 #[.int .i64 0, .int .i64 v]
          go_wp2_with fail
          refine (Atoi_list b _ hbsz (Ht1.out.below hb3wA)).mono ?_
          rintro e w4 ⟨err, rfl, hb4⟩
          have hk4 := hk3.below hb4 hk3.lt
          have hc40 := hk4.cell 0
          have hc41 := hk4.cell 1
          have hf4 := hk4.frozen 0
          simp only [List.getElem?_toArray, List.getElem?_cons_zero, List.getElem?_cons_succ] at hc40 hc41
          have hb4w := hb3wA.trans (hb4.mono hb3wA.size)
          have hk5 : Blk (w4.setCell ⟨w3.heap.size, 0, none⟩ (.int .i64 (semV b))) w3.heap.size 48 #[.int .i64 (semV b), .int .i64 v] := by
            have h := hk4.set_ 0 (.int .i64 (semV b))
            simpa using h
          have hc51 := hk5.cell 1
          simp only [List.getElem?_toArray, List.getElem?_cons_zero, List.getElem?_cons_succ] at hc51
          have hb5w : Below w1.heap.size w1 (w4.setCell ⟨w3.heap.size, 0, none⟩ (.int .i64 (semV b))) := hb4w.setCell hb3w.size _
          have Hown5 : Hid ((w4.setCell ⟨w3.heap.size, 0, none⟩ (.int .i64 (semV b))).ownsRow w1.heap.size 48 2 u4 i (flat d)) := Lib.hid (ownsRow_setCell_other (own_below Hown3.out hb4) (fun e => by have h1 := ((own_below (own_below Hown.out hb2) hb3).lt _ e).2; simp at h1) _)
          have hnew : ((w4.setCell ⟨w3.heap.size, 0, none⟩ (.int .i64 (semV b))).alloc (.cells #[.int .i64 (semV b), .int .i64 v] 48)).heap[w4.heap.size]? = some (.cells #[.int .i64 (semV b), .int .i64 v] 48 (0, 0)) := by
            have h := Blk.new (w4.setCell ⟨w3.heap.size, 0, none⟩ (.int .i64 (semV b))) 48 #[.int .i64 (semV b), .int .i64 v]
            simpa [Blk, World.setCell] using h
          have hsz4 := hb4.size
          have Hnew := Lib.hid hnew
          clear hnew hk3 hk4 hk5
          go_wp2_with (at_builtin; refine wpList_append_own _ rfl _ _ 24 rfl w1.heap.size 48 i0 (.agg #[.int .i64 0, .int .i64 0]) 2 16 Tryd.underlying24 hi hz0 hz1 hz2 rfl (by decide) _ _ _ rfl (Hown5.out.alloc _) ⟨w4.heap.size, 0, none⟩ 1 1 [.int .i64 (semV b), .int .i64 v] rfl rfl ?c1 ?c2 ?c3 ?c4 ?c5 ?_)
          try (case c1 => exact World.news_of_block (cs := #[.int .i64 (semV b), .int .i64 v]) (t := 48) (fr := (0, 0)) Hnew.out)
          case c2 => simp [Value.oneCell']
          case c3 => unfold maxLen; omega
          case c4 => omega
          case c5 => (try simp); have := hb4w.size; omega
          intro v' w9 hown9 hgr9 _
          have hb9 : Below w1.heap.size w1 w9 := (hb5w.alloc hb5w.size _).grown hgr9 (by (try simp); have := hb4w.size; omega) (fun k hk => (Hown5.out.lt k hk).1)
          have Hown9 := Lib.hid hown9
          clear hown9
          go_wp2
          go_roundg ((piecesB s).length - (i + 1))
          case measure => rw [Hk.out]; omega
          case rel =>
            refine ⟨i + 1, d ++ [((semV b), v)], rfl, hlt, by go_num, collect_take Hcol.out (by rw [List.getElem?_map, HT'.out]; rfl) hpf.out, by simp [Hdl.out], ?_, hb9⟩
            have := Hown9.out
            rw [flat_snoc d] at this
            exact this
      · have hno : ∀ v, Lib.parseIntB 64 (⟨a.toArray⟩ : ByteArray).data.toList ≠ .ok v := by
          intro v hv
          exact hpi ⟨v, by simpa using hv⟩
        have hpf : pieceF t.data.toList = none := by
          unfold pieceF
          rw [Hcut.out]
          cases hv : Lib.parseIntB 64 a with
          | ok v => exact absurd ⟨v, hv⟩ hpi
          | _ => rfl
        have hpn : parseG s.data.toList = none := by
          unfold parseG
          rw [← piecesB_data, collect_none _ i t.data.toList (by rw [List.getElem?_map, HT'.out]; rfl) hpf]
        have Hno := Lib.hid hno
        have Hpn := Lib.hid hpn
        clear hno hpf hpn hpi
        cases f with
        | false =>
          go_wp2_with fail
          refine (Cut_any t a b false Hcut.out _ hts (Ht1.out.below hbel)).mono ?_
          rintro e w2 ⟨rfl, hb2⟩
          have hb2w := hbel.trans (hb2.mono hbel.size)
          go_wp2_with fail
          refine (ParseInt_no ⟨a.toArray⟩ _ hasz (Ht1.out.below hb2w) Hno.out).mono ?_
          rintro e w3 ⟨n3, t3, p3, rfl, hb3⟩
          have hb3w := hb2w.trans (hb3.mono hb2w.size)
          go_wp2
          go_ret2
          exact ParsePost.no Hpn.out (hb1.trans ((hb3w.alloc hb3w.size _).mono hb1.size))
        | true =>
          go_wp2_with fail
          refine (Cut_any t a b true Hcut.out _ hts (Ht1.out.below hbel)).mono ?_
          rintro e w2 ⟨rfl, hb2⟩
          have hb2w := hbel.trans (hb2.mono hbel.size)
          go_wp2_with fail
          refine (ParseInt_no ⟨a.toArray⟩ _ hasz (Ht1.out.below hb2w) Hno.out).mono ?_
          rintro e w3 ⟨n3, t3, p3, rfl, hb3⟩
          have hb3w := hb2w.trans (hb3.mono hb2w.size)
          have hb3wA : Below w1.heap.size w1 (w3.alloc (.cells #[.int .i64 0, .int .i64 n3] 48)) := hb3w.alloc hb3w.size _
          have hk3 := Blk.new w3 48 #[.int .i64 0, .int .i64 n3]
          go_wp2_with fail
          refine (Atoi_list b _ hbsz (Ht1.out.below hb3wA)).mono ?_
          rintro e w4 ⟨err, rfl, hb4⟩
          have hk4 := hk3.below hb4 hk3.lt
          have hc40 := hk4.cell 0
          have hf4 := hk4.frozen 0
          simp only [List.getElem?_toArray, List.getElem?_cons_zero] at hc40
          have hb4w := hb3wA.trans (hb4.mono hb3wA.size)
          clear hk3 hk4
          go_wp2
          go_ret2
          exact ParsePost.no Hpn.out (hb1.trans ((hb4w.setCell hb3w.size _).mono hb1.size))
    · have hile : i = (piecesB s).length := by omega
      have hcp : collect (pieces s.data.toList) = some d := by
        have h := Hcol.out
        rw [hile, List.take_of_length_le (by simp), piecesB_data] at h
        exact h
      obtain ⟨A4, c4, hu4⟩ := own_val Hown.out
      subst hu4
      have hpg : Pg wr wr.heap.size A4 d := by
        have h := Reads.of_own Hown.out
        rw [← Hdl.out] at h
        exact h
      have Hpg := Lib.hid hpg
      have Hcp := Lib.hid hcp
      clear hpg hcp hile
      obtain rfl := Hdl.out
      have hd9 : d.length ≤ 9 := by omega
      by_cases hemp : s.data.toList = []
      · have h1 : s.toList.isEmpty = true := by rw [ByteArray.toList_eq, hemp]; rfl
        have hpn : parseG s.data.toList = none := by
          unfold parseG
          rw [Hcp.out]
          simp [hemp]
        have Hpn := Lib.hid hpn
        clear hpn hemp
        go_wp2
        go_ret2
        exact ParsePost.no Hpn.out (hb1.trans (hbel.mono hb1.size))
      · have h1 : s.toList.isEmpty = false := by
          rw [ByteArray.toList_eq]
          cases h : s.data.toList with
          | nil => exact absurd h hemp
          | cons x l => rfl
        have Hemp := Lib.hid hemp
        clear hemp
        by_cases htx : textG d = s.data.toList
        · have h2 : (textG d == s.toList) = true := by rw [htx]; simp [ByteArray.toList_eq]
          have hps : parseG s.data.toList = some d := by
            unfold parseG
            rw [Hcp.out]
            simp only
            rw [if_neg]
            rintro (h | h)
            · exact Hemp.out h
            · exact h htx
          have Hps := Lib.hid hps
          clear hps htx
          go_wp2_with fail
          refine (Text_any A4 d c4 wr.heap.size _ (by omega) (Nat.le_refl _) Hpg.out (Ht1.out.below hbel)).mono ?_
          rintro e w5 ⟨rfl, hb5⟩
          go_wp2
          go_ret2
          exact ParsePost.yes Hps.out (hb1.trans ((hbel.trans (hb5.mono hbel.size)).mono hb1.size)) (Reads.more (Reads.below Hpg.out hb5) hb5.size) hd9
        · have h2 : (textG d == s.toList) = false := by
            rw [beq_eq_false_iff_ne]
            intro h
            rw [ByteArray.toList_eq] at h
            exact htx h
          have h3 : (!textG d == s.toList) = true := by rw [h2]; rfl
          have hpn : parseG s.data.toList = none := by
            unfold parseG
            rw [Hcp.out]
            simp [htx]
          have Hpn := Lib.hid hpn
          clear hpn htx
          go_wp2_with fail
          refine (Text_any A4 d c4 wr.heap.size _ (by omega) (Nat.le_refl _) Hpg.out (Ht1.out.below hbel)).mono ?_
          rintro e w5 ⟨rfl, hb5⟩
          go_wp2
          go_ret2
          exact ParsePost.no Hpn.out (hb1.trans ((hbel.trans (hb5.mono hbel.size)).mono hb1.size))
end Go.Proofs.YtnlmpkcninhnfaaDoor
