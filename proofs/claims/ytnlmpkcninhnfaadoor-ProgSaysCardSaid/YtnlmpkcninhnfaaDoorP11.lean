/-
  The document's ProgParse, walked.
-/
import Derived.Test.YtnlmpkcninhnfaaDoorM2
import Derived.Test.YtnlmpkcninhnfaaDoorP10
import Derived.Lib.BufferMore
namespace Go.Proofs.YtnlmpkcninhnfaaDoor
open Go.RowKit

theorem own_set {w : World} {base : Nat} {e : TypeId} {size n g cap i : Nat} {xs : List Value} (h : w.ownsRow base e size (.slice (some ⟨g, 0, none⟩) n cap) n xs) (hi : i < n * size) (u : Value) :
    (w.setCell ⟨g, i, none⟩ u).ownsRow base e size (.slice (some ⟨g, 0, none⟩) n cap) n (xs.set i u) := by
  refine ⟨by rw [List.length_set]; exact h.1, ?_⟩
  rcases h.2 with ⟨h0, _⟩ | ⟨g', cap', cur, hv, hb, hg, hc, hm, hs, ht⟩
  · simp at h0
  · injection hv with h1 h2 h3
    injection h1 with h1
    injection h1 with h1
    subst h1; subst h3
    refine .inr ⟨g, cap, _, rfl, hb, Lib.heap_setCell_same hg u, hc, hm, by simpa using hs, ?_⟩
    rw [← ht, Array.setIfInBounds]
    have hlt : i < cur.size := by rw [hs]; exact Nat.lt_of_lt_of_le hi (Nat.mul_le_mul_right _ hc)
    rw [dif_pos hlt]
    simp [List.take_set]
theorem flat_set_s (d : List (Int × Int)) (s n s' : Int) : (flat (d ++ [(s, n)])).set (d.length * 2) (.int .i64 s') = flat (d ++ [(s', n)]) := by
  have e : (flat d).length = d.length * 2 := flat_length d
  simp only [flat, List.flatMap_append] at e ⊢
  rw [List.set_append_right _ _ (by omega)]
  simp [← e]
theorem flat_set_n (d : List (Int × Int)) (s n n' : Int) : (flat (d ++ [(s, n)])).set (d.length * 2 + 1) (.int .i64 n') = flat (d ++ [(s, n')]) := by
  have e : (flat d).length = d.length * 2 := flat_length d
  simp only [flat, List.flatMap_append] at e ⊢
  rw [List.set_append_right _ _ (by omega)]
  simp [← e]
theorem add_off (g j : Nat) : (⟨g, 0, none⟩ : Addr).add j = ⟨g, j, none⟩ := by unfold Addr.add; split <;> simp_all
theorem flat_app_pair (l : List (Int × Int)) (a b : Int) : flat l ++ [.int .i64 a, .int .i64 b] = flat (l ++ [(a, b)]) := by simp [flat]
def St.Inv (st : St) : Prop := 0 ≤ st.n ∧ st.n ≤ 10995116277770 ∧ 0 ≤ st.s ∧ st.s ≤ 10010 ∧ st.d.length ≤ 9
def RPsRel (bs : List UInt8) (w : World) (k : Nat) (s4 s5 s6 : Value) (wr : World) : Prop :=
  ∃ (i : Nat) (st : St), k = bs.length - i ∧ i ≤ bs.length ∧ s6 = .int .i64 i ∧ s5 = .bool st.at_ ∧ runS bs st0 = runS (bs.drop i) st ∧ st.Inv ∧ wr.ownsRow w.heap.size 64 2 s4 (st.d.length + 1) (flat st.all) ∧ Below w.heap.size w wr
def RParsePost (bs : List UInt8) (w : World) (e : Ending) (w' : World) : Prop :=
  Below w.heap.size w w' ∧ match refParse bs with
  | some p => ∃ A c, e = .returned (.tuple #[.slice A p.length c, .bool true]) ∧ Pg w' w'.heap.size A p ∧ p.length ≤ 9
  | none => e = .returned (.tuple #[.slice none 0 0, .bool false])
theorem GoodProg_n {n : Nat} (A : Option Addr) (l : List (Int × Int)) (hn : n = l.length) (c B : Nat) (b : Bool) (hb : good l = b) (w : World) (hl : l.length ≤ 100000) (hB : B ≤ w.heap.size) (hp : Pg w B A l) :
    Calls Tryd.prog 16 #[.slice A n c] w fun e w' => e = .returned (.bool b) ∧ Below w.heap.size w w' := by
  subst hn
  exact GoodProg_any A l c B b hb w hl hB hp
theorem RText_n {n : Nat} (A : Option Addr) (l : List (Int × Int)) (hn : n = l.length) (c B : Nat) (w : World) (hg : good l = true) (hB : B ≤ w.heap.size) (hp : Pg w B A l) :
    Calls Tryd.prog 19 #[.slice A n c] w fun e w' => e = .returned (.string ⟨(textL l).toArray⟩) ∧ Below w.heap.size w w' := by
  subst hn
  exact RText_good A l c B w hg hB hp
theorem RParsePost.no {bs : List UInt8} {w w' : World} (h : refParse bs = none) (hb : Below w.heap.size w w') : RParsePost bs w (.returned (.tuple #[.slice none 0 0, .bool false])) w' := by
  refine ⟨hb, ?_⟩
  rw [h]
theorem RParsePost.yes {bs : List UInt8} {p : List (Int × Int)} {w w' : World} {A : Option Addr} {n c : Nat} (h : refParse bs = some p) (hn : n = p.length) (hb : Below w.heap.size w w') (hp : Pg w' w'.heap.size A p) (hl : p.length ≤ 9) :
    RParsePost bs w (.returned (.tuple #[.slice A n c, .bool true])) w' := by
  subst hn
  refine ⟨hb, ?_⟩
  rw [h]
  exact ⟨A, c, rfl, hp, hl⟩
theorem refParse_of {bs : List UInt8} {st : St} (h : runS bs st0 = some st) : refParse bs = if good st.all = true ∧ textL st.all = bs then some st.all else none := by
  unfold refParse
  rw [h]
set_option maxRecDepth 100000 in
set_option maxHeartbeats 4000000 in
theorem RParse_any (s : ByteArray) (w : World) (hs : s.size ≤ 1000) : Calls Tryd.prog 15 #[.string s] w (RParsePost s.data.toList w) := by
  obtain ⟨i0, hi, hz0, hz1, hz2⟩ := info_parts Tryd.info64
  have hbb : Below w.heap.size w (w.alloc (.cells #[.int .i64 0, .int .i64 0] 64)) := (Below.refl _ _).alloc (Nat.le_refl _) _
  have hbk := Blk.new w 64 #[.int .i64 0, .int .i64 0]
  go_enter Tryd.func15, Tryd.ntmps15
  go_wp2_with fail
  go_loopg [4, 5, 6] s.data.toList.length (fun k s4 s5 s6 wr => RPsRel s.data.toList w k s4 s5 s6 wr)
  case atStart =>
    refine ⟨0, st0, rfl, Nat.zero_le _, rfl, rfl, rfl, by simp [St.Inv, st0], ?_, hbb⟩
    exact ⟨rfl, .inr ⟨w.heap.size, 1, _, rfl, Nat.le_refl _, hbk, Nat.le_refl _, by unfold maxLen; omega, rfl, rfl⟩⟩
  case round =>
    clear hbb hbk
    obtain ⟨i, ⟨d, sm, n, at_⟩, hk, hil, rfl, rfl, hrun, ⟨hn0, hn1, hs0, hs1, hd9⟩, hown, hbel⟩ := hrel
    simp only [St.all] at *
    have hbs : s.data.toList.length = s.size := by rw [Array.length_toList]; rfl
    have Hk := Lib.hid hk
    have Hrun := Lib.hid hrun
    obtain ⟨m, hm⟩ : ∃ m, d.length = m := ⟨_, rfl⟩
    rw [hm] at hown hd9
    obtain ⟨g, cap, hv, hgb, hglt, hcn, hcm⟩ := own_full hown (by omega)
    subst hv
    have Hown := Lib.hid hown
    have hpw : Pg wr wr.heap.size (some ⟨g, 0, none⟩) (d ++ [(sm, n)]) := Pg_own hown (by simp [hm])
    have Hpw := Lib.hid hpw
    have Hm := Lib.hid hm
    clear hk hrun hown hpw hm
    rw [hbs] at hil
    by_cases hgo : i < s.size ∧ m + 1 ≤ 9
    · obtain ⟨hlt, hm9⟩ := hgo
      have d1 : decide ((i : Int) < (s.size : Int)) = true := by simp; omega
      have d2 : decide ((m : Int) + 1 ≤ 9) = true := by simp; omega
      have hdrop : s.data.toList.drop i = s[i]'hlt :: s.data.toList.drop (i + 1) := by
        rw [List.drop_eq_getElem_cons (by omega)]
        congr 1
      have hrun : runS s.data.toList st0 = (stp (s[i]'hlt) ⟨d, sm, n, at_⟩).bind (runS (s.data.toList.drop (i + 1))) := by
        have hm := Hm.out
        rw [Hrun.out, hdrop, runS, if_pos (by simp only; omega)]
      have Hrun2 := Lib.hid hrun
      clear hrun hdrop
      have hc := Hpw.out.cells (i := m) (s := sm) (t := n) (by have hm := Hm.out; simp [← hm])
      rw [add_off] at hc
      obtain ⟨hc1, hc2⟩ := hc
      by_cases b43 : (s[i]'hlt).toNat = 43
      · have Hstp := Lib.hid (show stp (s[i]'hlt) ⟨d, sm, n, at_⟩ = some ⟨d ++ [(sm, n)], 0, 0, false⟩ by simp [stp, b43, St.all])
        have e43 : (((s[i]'hlt).toNat : Int) == 43) = true := by simp; omega
        clear b43
        go_wp2_with (at_builtin; refine wpList_append_own _ rfl _ _ 31 rfl w.heap.size 64 i0 (.agg #[.int .i64 0, .int .i64 0]) 2 16 Tryd.underlying31 hi hz0 hz1 hz2 rfl (by decide) _ _ _ rfl (Hown.out.alloc _) ⟨wr.heap.size, 0, none⟩ 1 1 [.int .i64 0, .int .i64 0] rfl rfl ?c1 ?c2 ?c3 ?c4 ?c5 ?_)
        try (case c1 => exact World.news_of_block (cs := #[.int .i64 0, .int .i64 0]) (t := 64) (fr := (0, 0)) (heap_alloc_new wr _))
        case c2 => simp [Value.oneCell']
        case c3 => unfold maxLen; omega
        case c4 => omega
        case c5 => (try simp); have := hbel.size; omega
        intro v' w9 hown9 hgr9 _
        have hb9 : Below w.heap.size w w9 := (hbel.alloc hbel.size _).grown hgr9 (by (try simp); have := hbel.size; omega) (fun k hk => (Hown.out.lt k hk).1)
        have Hown9 := Lib.hid hown9
        clear hown9
        go_wp2
        go_roundg (s.data.toList.length - (i + 1))
        case measure => rw [Hk.out, hbs]; omega
        case rel =>
          refine ⟨i + 1, ⟨d ++ [(sm, n)], 0, 0, false⟩, rfl, by rw [hbs]; omega, by go_num, rfl, by rw [Hrun2.out, Hstp.out]; rfl, ⟨by simp, by simp, by simp, by simp, by have hm := Hm.out; simp; omega⟩, ?_, hb9⟩
          have := Hown9.out
          rw [flat_app_pair] at this
          have hm := Hm.out
          simpa [St.all, hm] using this
      by_cases b64 : (s[i]'hlt).toNat = 64
      · have Hstp := Lib.hid (show stp (s[i]'hlt) ⟨d, sm, n, at_⟩ = some ⟨d, sm, n, true⟩ by simp [stp, b64])
        have e43 : (((s[i]'hlt).toNat : Int) == 43) = false := by simp; omega
        have e64 : (((s[i]'hlt).toNat : Int) == 64) = true := by simp; omega
        clear b43 b64
        go_wp2
        go_roundg (s.data.toList.length - (i + 1))
        case measure => rw [Hk.out, hbs]; omega
        case rel =>
          refine ⟨i + 1, ⟨d, sm, n, true⟩, rfl, by rw [hbs]; omega, by go_num, rfl, by rw [Hrun2.out, Hstp.out]; rfl, ⟨hn0, hn1, hs0, hs1, by have hm := Hm.out; simp only; omega⟩, ?_, hbel⟩
          simp only [St.all, Hm.out]
          exact Hown.out
      have e43 : (((s[i]'hlt).toNat : Int) == 43) = false := by simp; omega
      have e64 : (((s[i]'hlt).toNat : Int) == 64) = false := by simp; omega
      by_cases hbad : (s[i]'hlt).toNat < 48 ∨ 57 < (s[i]'hlt).toNat ∨ 1099511627776 < n ∨ 1000 < sm
      · have Hno := Lib.hid (show refParse s.data.toList = none by
          have h1 : runS s.data.toList st0 = none := by
            rw [Hrun2.out]
            simp only [stp, if_neg b43, if_neg b64, if_pos hbad]
            rfl
          simp [refParse, h1])
        by_cases b48 : (s[i]'hlt).toNat < 48
        · have f1 : decide (((s[i]'hlt).toNat : Int) < 48) = true := by simp; omega
          clear b43 b64 hbad b48
          go_wp2
          go_ret2
          exact RParsePost.no Hno.out hbel
        have f1 : decide (((s[i]'hlt).toNat : Int) < 48) = false := by simp; omega
        by_cases b57 : 57 < (s[i]'hlt).toNat
        · have f2 : decide (57 < ((s[i]'hlt).toNat : Int)) = true := by simp; omega
          clear b43 b64 hbad b48 b57
          go_wp2
          go_ret2
          exact RParsePost.no Hno.out hbel
        have f2 : decide (57 < ((s[i]'hlt).toNat : Int)) = false := by simp; omega
        by_cases bn : 1099511627776 < n
        · have f3 : decide (1099511627776 < n) = true := by simp; omega
          clear b43 b64 hbad b48 b57 bn
          go_wp2
          go_ret2
          exact RParsePost.no Hno.out hbel
        have f3 : decide (1099511627776 < n) = false := by simp; omega
        have f4 : decide (1000 < sm) = true := by simp; omega
        clear b43 b64 hbad b48 b57 bn
        go_wp2
        go_ret2
        exact RParsePost.no Hno.out hbel
      have f1 : decide (((s[i]'hlt).toNat : Int) < 48) = false := by simp; omega
      have f2 : decide (57 < ((s[i]'hlt).toNat : Int)) = false := by simp; omega
      have f3 : decide (1099511627776 < n) = false := by simp; omega
      have f4 : decide (1000 < sm) = false := by simp; omega
      have hwf : wr.frozen? ⟨g, m * 2, none⟩ = false ∧ wr.frozen? ⟨g, m * 2 + 1, none⟩ = false := by
        rcases Hown.out.2 with ⟨h0, _⟩ | ⟨g', cap', cur, hv, _, hg', _⟩
        · simp at h0
        · injection hv with h1 h2 h3
          injection h1 with h1
          injection h1 with h1
          subst h1
          constructor <;> simp [World.frozen?, hg']
      obtain ⟨hf1, hf2⟩ := hwf
      obtain ⟨z, hz⟩ : ∃ z : Nat, (s[i]'hlt).toNat = z := ⟨_, rfl⟩
      cases at_ with
      | true =>
        have Hstp := Lib.hid (show stp (s[i]'hlt) ⟨d, sm, n, true⟩ = some ⟨d, 10 * sm + (((s[i]'hlt).toNat : Int) - 48), n, true⟩ by
          simp only [stp, if_neg b43, if_neg b64, if_neg hbad, if_true])
        have hz0' : 48 ≤ z := by omega
        have hz1' : z ≤ 57 := by omega
        rw [hz] at e43 e64 f1 f2
        clear b43 b64 hbad
        go_wp2
        go_region
        go_wp2
        go_roundg (s.data.toList.length - (i + 1))
        case measure => rw [Hk.out, hbs]; omega
        case rel =>
          have u1 : sm ≤ 1000 := by have := of_decide_eq_false f4; omega
          refine ⟨i + 1, ⟨d, 10 * sm + ((z : Int) - 48), n, true⟩, rfl, by rw [hbs]; omega, by go_num, rfl, by rw [Hrun2.out, Hstp.out]; simp only [hz, Option.bind_some], ⟨by simp only; omega, by simp only; omega, by simp only; omega, by simp only; omega, by have hm := Hm.out; simp only; omega⟩, ?_, (hbel.setCell (by simp only; omega) _).drew⟩
          have hset := own_set Hown.out (i := m * 2) (by omega) (.int .i64 (10 * sm + ((z : Int) - 48)))
          have hm := Hm.out
          rw [← hm, flat_set_s, hm] at hset
          simp only [St.all, hm]
          exact hset.drew
      | false =>
        have Hstp := Lib.hid (show stp (s[i]'hlt) ⟨d, sm, n, false⟩ = some ⟨d, sm, 10 * n + (((s[i]'hlt).toNat : Int) - 48), false⟩ by
          simp only [stp, if_neg b43, if_neg b64, if_neg hbad]
          rfl)
        have hz0' : 48 ≤ z := by omega
        have hz1' : z ≤ 57 := by omega
        rw [hz] at e43 e64 f1 f2
        clear b43 b64 hbad
        go_wp2
        go_region
        go_wp2
        go_roundg (s.data.toList.length - (i + 1))
        case measure => rw [Hk.out, hbs]; omega
        case rel =>
          have u1 : n ≤ 1099511627776 := by have := of_decide_eq_false f3; omega
          refine ⟨i + 1, ⟨d, sm, 10 * n + ((z : Int) - 48), false⟩, rfl, by rw [hbs]; omega, by go_num, rfl, by rw [Hrun2.out, Hstp.out]; simp only [hz, Option.bind_some], ⟨by simp only; omega, by simp only; omega, by simp only; omega, by simp only; omega, by have hm := Hm.out; simp only; omega⟩, ?_, (hbel.setCell (by simp only; omega) _).drew⟩
          have hset := own_set Hown.out (i := m * 2 + 1) (by omega) (.int .i64 (10 * n + ((z : Int) - 48)))
          have hm := Hm.out
          rw [← hm, flat_set_n, hm] at hset
          simp only [St.all, hm]
          exact hset.drew
    · have Hst := Lib.hid (show runS s.data.toList st0 = some ⟨d, sm, n, at_⟩ by
        rw [Hrun.out]
        cases hr : s.data.toList.drop i with
        | nil => rfl
        | cons b r =>
          have : i < s.size := by have := congrArg List.length hr; rw [List.length_drop, hbs, List.length_cons] at this; omega
          have hm := Hm.out
          rw [runS, if_neg (by simp only; omega)])
      have hex : s.size ≤ i ∨ i < s.size ∧ 9 < m + 1 := by omega
      have Hl1 := Lib.hid (show m + 1 = (d ++ [(sm, n)]).length by have := Hm.out; simp; omega)
      have Hl9 := Lib.hid (show (d ++ [(sm, n)]).length ≤ 100000 by have := Hm.out; simp; omega)
      clear hgo
      cases hg : good (d ++ [(sm, n)])
      · have Hg := Lib.hid hg
        clear hg
        rcases hex with x1 | ⟨x1, x2⟩
        · go_wp2_with fail
          refine (GoodProg_n _ (d ++ [(sm, n)]) Hl1.out _ _ _ Hg.out _ Hl9.out (Nat.le_refl _) Hpw.out).mono ?_
          rintro e w1 ⟨rfl, hb1⟩
          go_wp2
          go_ret2
          exact RParsePost.no (by rw [refParse_of Hst.out, if_neg (by simp [St.all, Hg.out])]) (hbel.trans (hb1.mono hbel.size))
        · go_wp2_with fail
          refine (GoodProg_n _ (d ++ [(sm, n)]) Hl1.out _ _ _ Hg.out _ Hl9.out (Nat.le_refl _) Hpw.out).mono ?_
          rintro e w1 ⟨rfl, hb1⟩
          go_wp2
          go_ret2
          exact RParsePost.no (by rw [refParse_of Hst.out, if_neg (by simp [St.all, Hg.out])]) (hbel.trans (hb1.mono hbel.size))
      · have Hg := Lib.hid hg
        clear hg
        by_cases ht : textL (d ++ [(sm, n)]) = s.data.toList
        · have Ht := Lib.hid ht
          clear ht
          have hin : (⟨(textL (d ++ [(sm, n)])).toArray⟩ : ByteArray) = s := by
            apply ByteArray.ext
            simp [Ht.out]
          rcases hex with x1 | ⟨x1, x2⟩
          · go_wp2_with fail
            refine (GoodProg_n _ (d ++ [(sm, n)]) Hl1.out _ _ _ Hg.out _ Hl9.out (Nat.le_refl _) Hpw.out).mono ?_
            rintro e w1 ⟨rfl, hb1⟩
            go_wp2_with fail
            refine (RText_n _ (d ++ [(sm, n)]) Hl1.out _ _ _ Hg.out hb1.size (Hpw.out.below hb1)).mono ?_
            rintro e w2 ⟨rfl, hb2⟩
            rw [hin]
            go_wp2
            go_ret2
            have hb12 : Below wr.heap.size wr w2 := hb1.trans (hb2.mono hb1.size)
            have h9 := (good_parts Hg.out).2.1
            exact RParsePost.yes (p := d ++ [(sm, n)]) (by rw [refParse_of Hst.out, if_pos ⟨Hg.out, Ht.out⟩]; rfl) Hl1.out (hbel.trans (hb12.mono hbel.size))
              (Reads.more (Reads.below Hpw.out hb12) hb12.size) (by omega)
          · exfalso
            have := good_parts Hg.out
            have hm := Hm.out
            simp only [List.length_append, List.length_cons, List.length_nil] at this
            omega
        · have Hx := Lib.hid (show refParse s.data.toList = none by rw [refParse_of Hst.out, if_neg (by simp [St.all, ht])])
          have hne := str_ne (a := (⟨(textL (d ++ [(sm, n)])).toArray⟩ : ByteArray)) (b := s) (fun e => ht (by rw [← e]))
          rw [ByteArray.toList_eq] at hne
          simp only at hne
          clear ht
          rcases hex with x1 | ⟨x1, x2⟩
          · go_wp2_with fail
            refine (GoodProg_n _ (d ++ [(sm, n)]) Hl1.out _ _ _ Hg.out _ Hl9.out (Nat.le_refl _) Hpw.out).mono ?_
            rintro e w1 ⟨rfl, hb1⟩
            go_wp2_with fail
            refine (RText_n _ (d ++ [(sm, n)]) Hl1.out _ _ _ Hg.out hb1.size (Hpw.out.below hb1)).mono ?_
            rintro e w2 ⟨rfl, hb2⟩
            go_wp2
            go_ret2
            exact RParsePost.no Hx.out (hbel.trans ((hb1.trans (hb2.mono hb1.size)).mono hbel.size))
          · exfalso
            have := good_parts Hg.out
            have hm := Hm.out
            simp only [List.length_append, List.length_cons, List.length_nil] at this
            omega
end Go.Proofs.YtnlmpkcninhnfaaDoor
