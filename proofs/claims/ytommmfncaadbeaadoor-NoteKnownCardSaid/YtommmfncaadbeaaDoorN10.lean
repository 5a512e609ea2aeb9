/-
  NoteKnown, walked.
-/
import Derived.Test.YtommmfncaadbeaaDoorN9
namespace Go.Proofs.YtommmfncaadbeaaDoor
open Go.RowKit

def badB : List (List UInt8) := [[], [54, 32, 100, 111, 110, 101, 32, 49], [54, 32, 100, 111, 110, 101, 32, 49, 32, 49, 32, 49], [48, 54, 32, 100, 111, 110, 101, 32, 49, 32, 49], [54, 32, 119, 104, 97, 116, 32, 49], [54, 32, 119, 97, 107, 101, 32, 49, 32, 48], [54, 32, 32, 100, 111, 110, 101, 32, 49, 32, 49], [45, 49, 32, 119, 97, 107, 101, 32, 49], [54, 32, 119, 97, 107, 101, 32, 45, 49], [54, 32, 119, 97, 107, 101], [57, 57, 57, 57, 57, 57, 57, 57, 57, 57, 57, 57, 57, 57, 57, 57, 57, 57, 57, 57, 32, 119, 97, 107, 101, 32, 49], [32, 54, 32, 119, 97, 107, 101, 32, 49]]
def badC : Array Value := #[.string ⟨#[]⟩, .string ⟨#[54, 32, 100, 111, 110, 101, 32, 49]⟩, .string ⟨#[54, 32, 100, 111, 110, 101, 32, 49, 32, 49, 32, 49]⟩, .string ⟨#[48, 54, 32, 100, 111, 110, 101, 32, 49, 32, 49]⟩, .string ⟨#[54, 32, 119, 104, 97, 116, 32, 49]⟩, .string ⟨#[54, 32, 119, 97, 107, 101, 32, 49, 32, 48]⟩, .string ⟨#[54, 32, 32, 100, 111, 110, 101, 32, 49, 32, 49]⟩, .string ⟨#[45, 49, 32, 119, 97, 107, 101, 32, 49]⟩, .string ⟨#[54, 32, 119, 97, 107, 101, 32, 45, 49]⟩, .string ⟨#[54, 32, 119, 97, 107, 101]⟩, .string ⟨#[57, 57, 57, 57, 57, 57, 57, 57, 57, 57, 57, 57, 57, 57, 57, 57, 57, 57, 57, 57, 32, 119, 97, 107, 101, 32, 49]⟩, .string ⟨#[32, 54, 32, 119, 97, 107, 101, 32, 49]⟩]
theorem badC_get (k : Nat) (hk : k ≤ 11) : badC[k]? = some (.string ⟨(badB.getD k []).toArray⟩) := by
  have : k = 0 ∨ k = 1 ∨ k = 2 ∨ k = 3 ∨ k = 4 ∨ k = 5 ∨ k = 6 ∨ k = 7 ∨ k = 8 ∨ k = 9 ∨ k = 10 ∨ k = 11 := by omega
  rcases this with rfl | rfl | rfl | rfl | rfl | rfl | rfl | rfl | rfl | rfl | rfl | rfl <;> rfl
theorem bad_none (k : Nat) (hk : k ≤ 11) : parseE (badB.getD k []) = none := by
  have : k = 0 ∨ k = 1 ∨ k = 2 ∨ k = 3 ∨ k = 4 ∨ k = 5 ∨ k = 6 ∨ k = 7 ∨ k = 8 ∨ k = 9 ∨ k = 10 ∨ k = 11 := by omega
  rcases this with rfl | rfl | rfl | rfl | rfl | rfl | rfl | rfl | rfl | rfl | rfl | rfl <;> decide +kernel
theorem bad_len (k : Nat) (hk : k ≤ 11) : (badB.getD k []).length ≤ 100 := by
  have : k = 0 ∨ k = 1 ∨ k = 2 ∨ k = 3 ∨ k = 4 ∨ k = 5 ∨ k = 6 ∨ k = 7 ∨ k = 8 ∨ k = 9 ∨ k = 10 ∨ k = 11 := by omega
  rcases this with rfl | rfl | rfl | rfl | rfl | rfl | rfl | rfl | rfl | rfl | rfl | rfl <;> decide
theorem Parse_bad (k : Nat) (hk : k ≤ 11) (w : World) (ht : HT w) :
    Calls Tryd.prog 7 #[.string ⟨(badB.getD k []).toArray⟩] w fun r w' => r = .returned (.tuple #[.agg #[.int .i64 0, .int .i64 0, .int .i64 0, .int .i64 0], .bool false]) ∧ Below w.heap.size w w' := by
  refine (Parse_any ⟨(badB.getD k []).toArray⟩ w (by rw [size_mk]; have := bad_len k hk; omega) ht).mono fun r w' h => ?_
  obtain ⟨h1, h2⟩ := h
  rw [show (⟨(badB.getD k []).toArray⟩ : ByteArray).data.toList = badB.getD k [] by simp, bad_none k hk] at h2
  exact ⟨h2, h1⟩
/-- the i-th Event of the great row -/
def evN (j : Nat) : Ev := ⟨j, 5, 1 + ((j : Int) % 2), 0⟩
def evsN (i : Nat) : List Ev := ((List.range i).map evN).drop (i - 4096)
theorem evsN_len (i : Nat) (hi : i ≤ 4096) : (evsN i).length = i := by
  simp [evsN]; omega
theorem evsN_snoc (i : Nat) (hi : i < 4096) : evsN i ++ [evN i] = evsN (i + 1) := by
  unfold evsN
  rw [show i - 4096 = 0 by omega, show i + 1 - 4096 = 0 by omega, List.drop_zero, List.drop_zero, List.range_succ, List.map_append]
  rfl
theorem range_snoc (n : Nat) : (List.range n).map evN ++ [evN n] = (List.range (n + 1)).map evN := by
  rw [List.range_succ, List.map_append]
  rfl
theorem evsN_last : (evsN 4096 ++ [evN 4096]).drop 1 = evsN 4097 := by
  have h := congrArg (List.drop 1) (range_snoc 4096)
  unfold evsN
  rw [show 4096 - 4096 = 0 by omega, show 4097 - 4096 = 1 by omega, List.drop_zero]
  exact h
theorem evsN_since : (evsN 4097).filter (isSince 4095) = [⟨4095, 5, 2, 0⟩, ⟨4096, 5, 1, 0⟩] := by decide +kernel
theorem evsN_len' : (evsN 4097).length = 4096 := by decide +kernel
theorem Text_as (e : Ev) (a : Array UInt8) (he : e.Ok) (hs : (textE e).toArray = a) (w : World) (ht : HT w) :
    Calls Tryd.prog 6 #[.agg #[.int .i64 e.at_, .int .i64 e.kind, .int .i64 e.who, .int .i64 e.n]] w fun r w' => r = .returned (.string ⟨a⟩) ∧ Below w.heap.size w w' := by
  subst hs
  exact Text_any e he w ht
theorem Len_len (w : World) (gn : Nat) (room lost : Int) (v : Value) (l : List Ev) (n : Int) (hn : (l.length : Int) = n) (h : NtAt w gn room lost v l) : Calls Tryd.prog 11 #[.pointer (some ⟨gn, 0, none⟩)] w fun e w' => e = .returned (.int .i64 n) ∧ w = w' := by
  subst hn
  exact Len_any w gn room lost v l h
theorem big_at {wr : World} {g : Nat} {v : Value} (h : NtAt wr g 4096 ((4097 - 4096 : Nat) : Int) v (evsN 4097)) : ∃ L : List Ev, (L.length : Int) = 4096 ∧ L.filter (isSince 4095) = [⟨4095, 5, 2, 0⟩, ⟨4096, 5, 1, 0⟩] ∧ NtAt wr g 4096 1 v L :=
  ⟨evsN 4097, by rw [evsN_len']; rfl, evsN_since, h⟩
def BadRel (w : World) (g : Nat) (k : Nat) (s2 : Value) (wr : World) : Prop := ∃ i : Nat, k = 12 - i ∧ i ≤ 12 ∧ s2 = .int .i64 i ∧ Blk wr g 9 badC ∧ Below w.heap.size w wr
def BigRel (wN : World) (k : Nat) (s7 : Value) (wr : World) : Prop :=
  ∃ (i : Nat) (v : Value), k = 4097 - i ∧ i ≤ 4097 ∧ s7 = .int .i64 i ∧ NtAt wr wN.heap.size 4096 ((i - 4096 : Nat) : Int) v (evsN i) ∧ (∀ j, v.ownBlock = some j → wN.heap.size ≤ j) ∧ Below wN.heap.size wN wr
set_option maxRecDepth 100000 in
set_option maxHeartbeats 40000000 in
theorem known_walk (w : World) (ht : HT w) : Calls Tryd.prog 4 #[] w fun e w' => e = .returned (.bool true) ∧ Below w.heap.size w w' := by
  have Ht := Lib.hid ht
  have Hlast := Lib.hid evsN_last
  clear ht
  go_enter Tryd.func4, Tryd.ntmps4
  go_wp2_with fail
  refine (awake_any w Ht.out).mono ?_
  rintro e w1 ⟨rfl, hb1⟩
  have hs1 := hb1.size
  have hbS := hb1.alloc hs1 (.cells badC 9)
  have hS := Blk.new w1 9 badC
  go_wp2_with fail
  go_loopg [2] 12 (fun k s2 wr => BadRel w w1.heap.size k s2 wr)
  case atStart => exact ⟨0, rfl, by omega, rfl, hS, hbS⟩
  case round =>
    obtain ⟨i, hk, hil, rfl, hblk, hbel⟩ := hrel
    have Hk := Lib.hid hk
    clear hk hS hbS
    by_cases hlt : i < 12
    · have hc := hblk.cell i
      rw [badC_get i (by omega)] at hc
      have Hp := Lib.hid (fun W h => Parse_bad i (by omega) W h)
      generalize badB.getD i [] = x at *
      go_wp2_with fail
      refine (Hp.out wr (Ht.out.below hbel)).mono ?_
      rintro e w2 ⟨rfl, hb2⟩
      go_wp2_with fail
      go_roundg (12 - (i + 1))
      case measure => rw [Hk.out]; omega
      case rel =>
        have h := hbel.trans (hb2.mono hbel.size)
        exact ⟨i + 1, rfl, by omega, by go_num, (hblk.below hb2 hblk.lt).alloc _, h.alloc h.size _⟩
    · obtain rfl : i = 12 := by omega
      obtain ⟨wo, hwo⟩ : ∃ wo, wo = wr := ⟨_, rfl⟩
      subst hwo
      have Hbel := Lib.hid hbel
      clear hbel hblk
      go_wp2_with fail
      refine (New_any 0 1 _ (by omega)).mono ?_
      rintro e w2 ⟨rfl, rfl⟩
      go_wp2_with fail
      have hnt := (nt_new wo 1).below ((Below.refl (wo.alloc (.cells #[.int .i64 1, .slice none 0 0, .int .i64 0] 56)).heap.size _).alloc (Nat.le_refl _) (.cells (flatE [⟨1, 9, 1, 0⟩, ⟨2, 9, 2, 0⟩]).toArray 23))
      have hrd := reads_new (wo.alloc (.cells #[.int .i64 1, .slice none 0 0, .int .i64 0] 56)) [⟨1, 9, 1, 0⟩, ⟨2, 9, 2, 0⟩]
      simp only [World.size_alloc] at hrd
      refine (Put_over _ wo.heap.size 1 0 (.slice none 0 0) [] [⟨1, 9, 1, 0⟩, ⟨2, 9, 2, 0⟩] ⟨wo.heap.size + 1, 0, none⟩ 2 1 hnt (hrd.more (by simp)) (by decide) (by decide) (by omega) (by omega) (by omega) (by omega) (by omega)).mono ?_
      rintro e w3 ⟨rfl, vN, hN, ⟨jN, hvN, hjN⟩, htN⟩
      have hb3 : Below w.heap.size w w3 := by
        have h1 := Hbel.out.size
        have h2 := Hbel.out.alloc h1 (.cells #[.int .i64 1, .slice none 0 0, .int .i64 0] 56)
        have h3 := h2.alloc h2.size (.cells (flatE [⟨1, 9, 1, 0⟩, ⟨2, 9, 2, 0⟩]).toArray 23)
        exact (((Turn.refl (fun j => w.heap.size ≤ j) w).below h3).trans htN fun j _ h => by
          rcases h with h | h
          · omega
          · simp [Value.ownBlock] at h).toBelow (Nat.le_refl _) (fun i hi => by omega)
      have HN := Lib.hid hN
      have Hb3 := Lib.hid hb3
      clear hnt hrd hN hvN hjN htN hb3
      go_wp2_with fail
      refine (New_any 1073741824 4096 _ (by omega)).mono ?_
      rintro e w4 ⟨rfl, rfl⟩
      go_wp2_with fail
      have hbig := nt_new w3 4096
      have hbb : Below w3.heap.size w3 (w3.alloc (.cells #[.int .i64 4096, .slice none 0 0, .int .i64 0] 56)) := (Below.refl _ _).alloc (Nat.le_refl _) _
      go_loopg [7] 4097 (fun k s7 wr => BigRel w3 k s7 wr)
      case atStart => exact ⟨0, .slice none 0 0, rfl, by omega, rfl, hbig, by simp [Value.ownBlock], hbb⟩
      case round =>
        obtain ⟨i, v, hk, hil, rfl, hnt, hown, hbw⟩ := hrel
        have Hk := Lib.hid hk
        have Hnt := Lib.hid hnt
        have Hown := Lib.hid hown
        have Hbw := Lib.hid hbw
        clear hk hnt hown hbw hbig hbb
        by_cases hlt : i < 4097
        · have hm0 : 0 ≤ (i : Int) % 2 := by omega
          have hm1 : (i : Int) % 2 ≤ 1 := by omega
          go_wp2_with fail
          have hbA : Below wr.heap.size wr (wr.alloc (.cells (flatE [evN i]).toArray 23)) := (Below.refl _ _).alloc (Nat.le_refl _) _
          have hnt1 := Hnt.out.below hbA
          have hrd := reads_new wr [evN i]
          by_cases h4 : i < 4096
          · refine (Put_room _ w3.heap.size 4096 _ v (evsN i) [evN i] ⟨wr.heap.size, 0, none⟩ 1 hnt1 (hrd.more (by simp)) (Nat.lt_succ_self 0) (by rw [evsN_len i (by omega)]; simp; omega) (by omega)).mono ?_
            rintro e w5 ⟨rfl, v5, hnt5, hloc5, ht5⟩
            have Hall := Lib.hid (And.intro hnt5 (And.intro hloc5 ht5))
            clear hnt5 hloc5 ht5 hnt1 hrd hbA
            go_wp2_with fail
            go_roundg (4097 - (i + 1))
            case measure => rw [Hk.out]; omega
            case rel =>
              obtain ⟨hnt5, hloc5, ht5⟩ := Hall.out
              have hz := Hbw.out.size
              refine ⟨i + 1, v5, rfl, by omega, by go_num, ?_, fun j hj => ?_, ?_⟩
              · rw [evsN_snoc i h4] at hnt5
                rw [show i + 1 - 4096 = i - 4096 by omega]
                exact hnt5
              · rcases hloc5 with e | ⟨q, e, hq⟩
                · exact Hown.out j (by rw [← e]; exact hj)
                · rw [e] at hj
                  cases hj
                  simp at hq
                  omega
              · exact (((Turn.refl (fun j => w3.heap.size ≤ j) w3).below (Hbw.out.alloc hz _)).trans ht5 fun j _ h => by
                  rcases h with h | h
                  · omega
                  · exact Hown.out j h).toBelow (Nat.le_refl _) (fun i hi => by omega)
          · obtain rfl : i = 4096 := by omega
            refine (Put_over _ w3.heap.size 4096 _ v (evsN 4096) [evN 4096] ⟨wr.heap.size, 0, none⟩ 1 1 hnt1 (hrd.more (by simp)) (Nat.lt_succ_self 0) (by rw [evsN_len 4096 (by omega)]; rfl) (by omega) (by omega) (by omega) (by omega) (by omega)).mono ?_
            rintro e w5 ⟨rfl, v5, hnt5, ⟨q5, hv5, hq5⟩, ht5⟩
            have Hall := Lib.hid (And.intro hnt5 (And.intro hv5 (And.intro hq5 ht5)))
            clear hnt5 hv5 hq5 ht5 hnt1 hrd hbA
            go_wp2_with fail
            go_roundg (4097 - (4096 + 1))
            case measure => rw [Hk.out]; omega
            case rel =>
              obtain ⟨hnt5, hv5, hq5, ht5⟩ := Hall.out
              have hz := Hbw.out.size
              refine ⟨4096 + 1, v5, rfl, by omega, by go_num, ?_, fun j hj => ?_, ?_⟩
              · rw [Hlast.out] at hnt5
                exact hnt5
              · rw [hv5] at hj
                cases hj
                simp at hq5
                omega
              · exact (((Turn.refl (fun j => w3.heap.size ≤ j) w3).below (Hbw.out.alloc hz _)).trans ht5 fun j _ h => by
                  rcases h with h | h
                  · omega
                  · exact Hown.out j h).toBelow (Nat.le_refl _) (fun i hi => by omega)
        · obtain rfl : i = 4097 := by omega
          go_wp2_with fail
          obtain ⟨L, hL, hLs, hnt⟩ := big_at Hnt.out
          have HL := Lib.hid hL
          have hS := Since_any wr w3.heap.size 4096 1 4095 v L hnt (by omega)
          rw [hLs] at hS
          clear Hnt hL hLs
          have Hnt := Lib.hid hnt
          clear hnt
          refine hS.mono ?_
          rintro e w5 ⟨vS, rfl, hownS, hb5⟩
          obtain ⟨bS, cS, rfl, -⟩ := own_full hownS (by decide)
          have HownS := Lib.hid hownS
          have Hc5 := Lib.hid hb5
          clear hS hownS hb5
          go_wp2_with fail
          have hnN := HN.out.below (Hbw.out.trans (Hc5.out.mono Hbw.out.size))
          refine (Len_any _ _ _ _ _ _ hnN).mono ?_
          rintro e w6 ⟨rfl, rfl⟩
          go_wp2_with fail
          refine (Lost_any _ _ _ _ _ _ hnN).mono ?_
          rintro e w7 ⟨rfl, rfl⟩
          go_wp2_with fail
          refine (All_any _ _ _ _ _ _ hnN (by decide) (by decide)).mono ?_
          rintro e w8 ⟨vA, rfl, hownA, hb8⟩
          obtain ⟨bA, cA, rfl, -⟩ := own_full hownA (by decide)
          have HA := Lib.hid (Reads.of_own hownA)
          have Hc8 := Lib.hid (Hc5.out.trans (hb8.mono Hc5.out.size))
          have HS8 := Lib.hid (((Reads.of_own HownS.out).below hb8).more hb8.size)
          clear hownA hb8 hnN
          go_wp2_with fail
          have hr1 := reads_new w8 [⟨2, 9, 2, 0⟩]
          have hw1 : Below w8.heap.size w8 (w8.alloc (.cells (flatE [⟨2, 9, 2, 0⟩]).toArray 23)) := (Below.refl _ _).alloc (Nat.le_refl _) _
          refine (same_any (w8.alloc (.cells (flatE [⟨2, 9, 2, 0⟩]).toArray 23)) (some ⟨bA, 0, none⟩) (some ⟨w8.heap.size, 0, none⟩) 1 cA 1 [⟨2, 9, 2, 0⟩] rfl ((HA.out.below hw1).more (by simp)) (hr1.more (by simp)) (by omega)).mono ?_
          rintro e w9 ⟨rfl, hb9⟩
          have hb89 := hw1.trans (hb9.mono hw1.size)
          have Hc9 := Lib.hid (Hc8.out.trans (hb89.mono Hc8.out.size))
          have HS9 := Lib.hid ((HS8.out.below hb89).more hb89.size)
          clear hb89 hb9 hw1 hr1
          go_wp2_with fail
          have hnN := HN.out.below (Hbw.out.trans (Hc9.out.mono Hbw.out.size))
          refine (Of_any _ _ _ _ _ _ _ hnN (by decide)).mono ?_
          rintro e w10 ⟨vO, rfl, hownO, hb10⟩
          obtain ⟨AO, cO, rfl⟩ := own_val hownO
          have Hc10 := Lib.hid (Hc9.out.trans (hb10.mono Hc9.out.size))
          have HS10 := Lib.hid ((HS9.out.below hb10).more hb10.size)
          clear hownO hb10 hnN
          go_wp2_with fail
          have hnN := HN.out.below (Hbw.out.trans (Hc10.out.mono Hbw.out.size))
          refine (Of_any _ _ _ _ _ _ _ hnN (by decide)).mono ?_
          rintro e w11 ⟨vO, rfl, hownO, hb11⟩
          obtain ⟨AO2, cO2, rfl⟩ := own_val hownO
          have Hc11 := Lib.hid (Hc10.out.trans (hb11.mono Hc10.out.size))
          have HS11 := Lib.hid ((HS10.out.below hb11).more hb11.size)
          clear hownO hb11 hnN
          go_wp2_with fail
          have hnB := Hnt.out.below Hc11.out
          refine (Len_len _ _ _ _ _ _ 4096 HL.out hnB).mono ?_
          rintro e w12 ⟨rfl, rfl⟩
          go_wp2_with fail
          refine (Lost_any _ _ _ _ _ _ hnB).mono ?_
          rintro e w13 ⟨rfl, rfl⟩
          clear hnB
          go_wp2_with fail
          have hr1 := reads_new w11 [⟨4095, 5, 2, 0⟩, ⟨4096, 5, 1, 0⟩]
          have hw1 : Below w11.heap.size w11 (w11.alloc (.cells (flatE [⟨4095, 5, 2, 0⟩, ⟨4096, 5, 1, 0⟩]).toArray 23)) := (Below.refl _ _).alloc (Nat.le_refl _) _
          refine (same_any (w11.alloc (.cells (flatE [⟨4095, 5, 2, 0⟩, ⟨4096, 5, 1, 0⟩]).toArray 23)) (some ⟨bS, 0, none⟩) (some ⟨w11.heap.size, 0, none⟩) 2 cS 2 [⟨4095, 5, 2, 0⟩, ⟨4096, 5, 1, 0⟩] rfl ((HS11.out.below hw1).more (by simp)) (hr1.more (by simp)) (by omega)).mono ?_
          rintro e w14 ⟨rfl, hb14⟩
          have hb89 := hw1.trans (hb14.mono hw1.size)
          have Hc14 := Lib.hid (Hc11.out.trans (hb89.mono Hc11.out.size))
          clear hb89 hb14 hw1 hr1
          have Hw14 := Lib.hid (Hb3.out.trans ((Hbw.out.trans (Hc14.out.mono Hbw.out.size)).mono Hb3.out.size))
          go_wp2_with fail
          refine (Text_as ⟨5, 9, 3, 0⟩ #[53, 32, 119, 97, 107, 101, 32, 51] ⟨by decide, by decide, by decide, by decide⟩ (by decide +kernel) _ (Ht.out.below Hw14.out)).mono ?_
          rintro e w15 ⟨rfl, hb15⟩
          have Hw15 := Lib.hid (Hw14.out.trans (hb15.mono Hw14.out.size))
          clear hb15
          go_wp2_with fail
          refine (Text_as ⟨5, 8, 3, 2⟩ #[53, 32, 103, 97, 116, 101, 32, 51, 32, 50] ⟨by decide, by decide, by decide, by decide⟩ (by decide +kernel) _ (Ht.out.below Hw15.out)).mono ?_
          rintro e w16 ⟨rfl, hb16⟩
          have Hw16 := Lib.hid (Hw15.out.trans (hb16.mono Hw15.out.size))
          clear hb16
          go_wp2_with fail
          refine (Text_as ⟨0, 11, 0, 0⟩ #[] ⟨by decide, by decide, by decide, by decide⟩ (by decide +kernel) _ (Ht.out.below Hw16.out)).mono ?_
          rintro e w17 ⟨rfl, hb17⟩
          have Hw17 := Lib.hid (Hw16.out.trans (hb17.mono Hw16.out.size))
          clear hb17
          go_wp2_with fail
          refine (Text_as ⟨0, 0, 0, 0⟩ #[] ⟨by decide, by decide, by decide, by decide⟩ (by decide +kernel) _ (Ht.out.below Hw17.out)).mono ?_
          rintro e w18 ⟨rfl, hb18⟩
          have Hw18 := Lib.hid (Hw17.out.trans (hb18.mono Hw17.out.size))
          clear hb18
          go_wp2_with fail
          refine (Text_as ⟨-1, 2, 0, 0⟩ #[] ⟨by decide, by decide, by decide, by decide⟩ (by decide +kernel) _ (Ht.out.below Hw18.out)).mono ?_
          rintro e w19 ⟨rfl, hb19⟩
          have Hw19 := Lib.hid (Hw18.out.trans (hb19.mono Hw18.out.size))
          clear hb19
          go_wp2_with fail
          go_ret
          exact ⟨rfl, Hw19.out⟩
end Go.Proofs.YtommmfncaadbeaaDoor
