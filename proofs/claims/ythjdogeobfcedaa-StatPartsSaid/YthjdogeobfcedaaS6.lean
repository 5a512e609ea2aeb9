/-
  Put.
-/
import Derived.Test.YthjdogeobfcedaaS5
import Derived.Deep.LoopGhost
import Derived.WalkSpells
namespace Go.Proofs.Ythjdogeobfcedaa
open Go.RowKit Go.Maps

def flatE (l : List Ev) : List Value := l.flatMap Ev.cells
theorem flatE_length (l : List Ev) : (flatE l).length = l.length * 4 := by
  induction l with
  | nil => rfl
  | cons x l ih => simp only [flatE, Ev.cells, List.flatMap_cons, List.length_append, List.length_cons, List.length_nil] at ih ⊢; omega
theorem flatE_get : ∀ (l : List Ev) (k : Nat) (e : Ev), l[k]? = some e → (flatE l)[k * 4]? = some (.int .i64 e.at_) ∧ (flatE l)[k * 4 + 1]? = some (.int .i64 e.kind) ∧ (flatE l)[k * 4 + 2]? = some (.int .i64 e.who) ∧ (flatE l)[k * 4 + 3]? = some (.int .i64 e.n)
  | [], k, e, h => by simp at h
  | x :: l, 0, e, h => by
    obtain rfl : x = e := by simpa using h
    simp [flatE, Ev.cells]
  | x :: l, k + 1, e, h => by
    have := flatE_get l k e (by simpa using h)
    have e1 : (k + 1) * 4 = k * 4 + 4 := by omega
    rw [e1]
    simpa [flatE, Ev.cells] using this
/-- Events in memory: the slice '.slice A n c' reads as l -/
def Evs (w : World) (B : Nat) (A : Option Addr) (l : List Ev) : Prop := Reads w B 4 A l.length (flatE l)
theorem Evs.below {w w' : World} {B : Nat} {A : Option Addr} {l : List Ev} (h : Evs w B A l) (hb : Below B w w') : Evs w' B A l := Reads.below h hb
theorem add_pos (a : Addr) (n : Nat) : a.add (n + 1) = ⟨a.block, a.off + (n + 1), none⟩ := by simp [Addr.add]
theorem Evs.at_ {w : World} {B : Nat} {A : Option Addr} {l : List Ev} {k : Nat} (h : Evs w B A l) (hk : k < l.length) :
    ∃ ad e, A = some ad ∧ ad.block < B ∧ l[k]? = some e ∧ w.cell? (ad.add (k * 4)) = some (.int .i64 e.at_) ∧ w.cell? ⟨(ad.add (k * 4)).block, (ad.add (k * 4)).off + 1, none⟩ = some (.int .i64 e.kind) ∧
      w.cell? ⟨(ad.add (k * 4)).block, (ad.add (k * 4)).off + 2, none⟩ = some (.int .i64 e.who) ∧ w.cell? ⟨(ad.add (k * 4)).block, (ad.add (k * 4)).off + 3, none⟩ = some (.int .i64 e.n) := by
  obtain ⟨ad, e, hb, hc⟩ := h.2 (by omega)
  have hl : l[k]? = some l[k] := List.getElem?_eq_getElem hk
  obtain ⟨h0, h1, h2, h3⟩ := flatE_get l k _ hl
  exact ⟨ad, _, e, hb, hl, hc _ _ h0, by rw [← add_pos _ 0, add_of_add]; exact hc _ _ h1, by rw [← add_pos _ 1, add_of_add]; exact hc _ _ h2, by rw [← add_pos _ 2, add_of_add]; exact hc _ _ h3⟩
theorem Evs.turn {w w' : World} {A : Option Addr} {l : List Ev} {S : Nat → Prop} (h : Evs w w.heap.size A l) (ht : Turn S w w') (hS : 0 < l.length → ∀ ad, A = some ad → ¬ S ad.block) : Evs w' w.heap.size A l :=
  ⟨h.1, fun hn => by
    obtain ⟨ad, e, hb, hc⟩ := h.2 hn
    exact ⟨ad, e, hb, fun j u hu => (World.cell?_of_block (by rw [block_of_add]; exact ht.block ad.block hb (hS hn ad e))).trans (hc j u hu)⟩⟩
theorem zero40 (w : World) : (zeroValue 40).run Try.prog w = .ok (.pointer none) w := by kernel_rfl

theorem Own.Fine.put' {m : Nat} {x : Own} (h : x.Fine m) (at_ k num : Int) (ha : 0 ≤ at_) : (x.put at_ k num).Fine ((m : Int) + 1) := Own.fine_put h at_ k num (by omega) ha
def PutRel (l : List Ev) (w : World) (gs bm m : Nat) (own : Nat → Option Int) (s : Known) (k : Nat) (s9 : Value) (wr : World) : Prop :=
  ∃ i : Nat, k = l.length - i ∧ i ≤ l.length ∧ s9 = .int .i64 i ∧ ∃ own' nm D, StatsAt wr gs bm nm D own' (m + 2 * i) (s.all (l.take i)) ∧ (∀ j, j < w.heap.size → own' j = own j) ∧ Turn (fun j => own j ≠ none) w wr
theorem all_snoc (s : Known) (l : List Ev) (i : Nat) {e : Ev} (h : l[i]? = some e) : s.all (l.take (i + 1)) = (s.all (l.take i)).step e := by
  rw [List.take_add_one, h]
  simp [Known.all, List.foldl_append]
set_option maxRecDepth 100000 in
set_option maxHeartbeats 1000000 in
theorem Put_any (w : World) (gs bm nm m : Nat) (D : DataW Unit) (own : Nat → Option Int) (s : Known) (A : Option Addr) (l : List Ev) (c : Nat) (h : StatsAt w gs bm nm D own m s) (hr : Evs w w.heap.size A l) (hno : 0 < l.length → ∀ ad, A = some ad → own ad.block = none)
    (hl : m + 2 * l.length ≤ 900000) (hok : ∀ e ∈ l, e.Ok) :
    Calls Try.prog 7 #[.pointer (some ⟨gs, 0, none⟩), .slice A l.length c] w fun e w' => e = .returned (.tuple #[]) ∧
      ∃ own' nm' D', StatsAt w' gs bm nm' D' own' (m + 2 * l.length) (s.all l) ∧ (∀ j, j < w.heap.size → own' j = own j) ∧ Turn (fun j => own j ≠ none) w w' := by
  have Hno := Lib.hid hno
  have Hok := Lib.hid hok
  clear hno hok
  have hmm := @run_makeMap Try.prog
  go_enter Try.func7, Try.ntmps7
  go_wp2
  go_loopg [9] l.length (fun k s9 wr => PutRel l w gs bm m own s k s9 wr)
  case atStart => exact ⟨0, rfl, Nat.zero_le _, rfl, own, nm, D, h, fun _ _ => rfl, Turn.refl _ w⟩
  case round =>
    obtain ⟨i, hk, hil, rfl, own', nm', D', hs, hown, hturn⟩ := hrel
    have Hk := Lib.hid hk
    have Hown := Lib.hid hown
    have Hturn := Lib.hid hturn
    have Hs := Lib.hid hs
    have hbel := hr.turn hturn fun h0 ad e h => h (Hno.out h0 ad e)
    have hBr : w.heap.size ≤ wr.heap.size := hturn.size
    clear hk hown hturn hs
    by_cases hlt : i < l.length
    · obtain ⟨ad, e, rfl, hadb, hx, hc0, hc1, hc2, hc3⟩ := hbel.at_ hlt
      have hoke := Hok.out e (List.mem_of_getElem? hx)
      have Hstep := Lib.hid (all_snoc s l i hx)
      have Hx := Lib.hid hx
      clear hx hbel
      by_cases hw0 : e.who < 0
      · go_wp2
        go_roundg (l.length - (i + 1))
        case measure => rw [Hk.out]; omega
        case rel =>
          refine ⟨i + 1, rfl, hlt, by go_num, own', nm', D', ?_, Hown.out, Hturn.out.alloc _⟩
          rw [Hstep.out, Known.step, if_pos hw0]
          exact (Hs.out.below ((Below.refl _ _).alloc (Nat.le_refl _) _)).more (by omega)
      by_cases ha0 : e.at_ < 0
      · go_wp2
        go_roundg (l.length - (i + 1))
        case measure => rw [Hk.out]; omega
        case rel =>
          refine ⟨i + 1, rfl, hlt, by go_num, own', nm', D', ?_, Hown.out, Hturn.out.alloc _⟩
          rw [Hstep.out, Known.step, if_neg (by omega), if_pos ha0]
          exact (Hs.out.below ((Below.refl _ _).alloc (Nat.le_refl _) _)).more (by omega)
      · have hw1 : 0 ≤ e.who := by omega
        have ha1 : 0 ≤ e.at_ := by omega
        have d1 : decide (e.who < 0) = false := by simp; omega
        have d2 : decide (e.at_ < 0) = false := by simp; omega
        clear hw0 ha0
        have hb1 : Below wr.heap.size wr (wr.alloc (.cells #[.int .i64 e.at_, .int .i64 e.kind, .int .i64 e.who, .int .i64 e.n] 35)).drew := ((Below.refl _ _).alloc (Nat.le_refl _) _).drew
        have hs1 := Hs.out.below hb1
        have hxg : (wr.alloc (.cells #[.int .i64 e.at_, .int .i64 e.kind, .int .i64 e.who, .int .i64 e.n] 35)).cell? ⟨gs, 0, none⟩ = some (.map (some bm)) := (Hs.out.below ((Below.refl _ _).alloc (Nat.le_refl _) _)).blk.cell 0
        obtain ⟨v, ps, hrun, hv⟩ := hs1.map.lookup law3 Try.underlying37 (zero40 _) (show ptrElem (.pointer none) = some (.nil, []) from rfl) (keyOf_int_mk Try.underlying3 hoke.who)
        cases hsk : (s.all (l.take i)) e.who with
        | some x =>
          obtain ⟨g, bs, tv, n, a1, a2, a3, a4, a5, a6, a7⟩ := hs1.one _ _ hsk
          rw [a2] at hv
          obtain rfl := ptrElem_int hv
          have Hsk := Lib.hid hsk
          have Ha := Lib.hid (And.intro a1 (And.intro a2 (And.intro a4 (And.intro a5 (And.intro a6 a7)))))
          have A3 := Lib.hid a3
          have Hs1 := Lib.hid hs1
          have Hb1 := Lib.hid hb1
          have Hoke := Lib.hid hoke
          clear hsk a1 a2 a3 a4 a5 a6 a7 hs1 hv hb1 hoke
          go_wp2_with fail
          go_region
          go_wp2_with fail
          refine (put_any _ g bs tv n x e.at_ e.kind e.who e.n (m + 2 * i : Nat) A3.out (Hs1.out.fine _ _ Hsk.out).2.2 (by omega) (by have := Ha.out.2.2.1; omega) Hoke.out.n Hoke.out.at_ (by omega)).mono ?_
          rintro e' w2 ⟨rfl, tv', n', hn', ho', hloc, ht'⟩
          have Ho' := Lib.hid (And.intro hn' (And.intro ho' (And.intro hloc ht')))
          clear hn' ho' hloc ht'
          go_wp2_with fail
          go_roundg (l.length - (i + 1))
          case measure => rw [Hk.out]; omega
          case rel =>
            obtain ⟨hn', ho', hloc, ht'⟩ := Ho'.out
            obtain ⟨a1, a2, a4, a5, a6, a7⟩ := Ha.out
            obtain ⟨own2, h2, h3⟩ := Hs1.out.turned Hsk.out a2 a5 a6 a7 ho' (by omega) ((Hs1.out.fine _ _ Hsk.out).2.2.put' e.at_ e.kind e.n ha1) hloc ht'
            refine ⟨i + 1, rfl, hlt, by go_num, own2, nm', D', ?_, fun j hj => ?_, ?_⟩
            · rw [Hstep.out, Known.step, if_neg (by omega), if_neg (by omega), Hsk.out]
              exact h2.more (by omega)
            · exact (h3 j (Nat.lt_of_lt_of_le hj (Nat.le_trans Hturn.out.size Hb1.out.size))).trans (Hown.out j hj)
            · refine (Hturn.out.below Hb1.out).trans ht' fun j hj hj2 => ?_
              rw [← Hown.out j hj]
              rcases hj2 with rfl | rfl | hj2
              · rw [a5]; simp
              · rw [a6]; simp
              · rw [a7 j hj2]; simp
        | none =>
          have hno := hs1.no _ hsk
          rw [atKey_of_not_has hno] at hv
          obtain rfl := ptrElem_nil hv
          have Hsk := Lib.hid hsk
          have Hs1 := Lib.hid hs1
          have Hb1 := Lib.hid hb1
          have Hoke := Lib.hid hoke
          clear hsk hs1 hv hb1 hoke hno
          go_wp2_with fail
          go_region
          go_wp2_with fail
          have hb2 : Below wr.heap.size wr (((wr.alloc (.cells #[.int .i64 e.at_, .int .i64 e.kind, .int .i64 e.who, .int .i64 e.n] 35)).alloc (.map #[] 0)).alloc (.cells (Own.zero.cells (wr.heap.size + 1) (.slice none 0 0)) 44)).drew :=
            ((((Below.refl _ _).alloc (Nat.le_refl _) _).alloc (by simp) _).alloc (by simp; omega) _).drew
          have hE0 := (((Blk.new wr 35 #[.int .i64 e.at_, .int .i64 e.kind, .int .i64 e.who, .int .i64 e.n]).alloc (.map #[] 0)).alloc (.cells (Own.zero.cells (wr.heap.size + 1) (.slice none 0 0)) 44)).drew
          have hG0 := (Blk.new ((wr.alloc (.cells #[.int .i64 e.at_, .int .i64 e.kind, .int .i64 e.who, .int .i64 e.n] 35)).alloc (.map #[] 0)) 44 (Own.zero.cells (wr.heap.size + 1) (.slice none 0 0))).drew
          have hM0 := ((World.ownsMap_made (wr.alloc (.cells #[.int .i64 e.at_, .int .i64 e.kind, .int .i64 e.who, .int .i64 e.n] 35)) Try.prog 2 (plainElem (H := Unit) Try.prog 2)).alloc (.cells (Own.zero.cells (wr.heap.size + 1) (.slice none 0 0)) 44)).drew
          simp only [World.size_alloc] at hG0 hM0
          have hs2 := Hs.out.below hb2
          obtain ⟨W1, hW1⟩ : ∃ W1, (((wr.alloc (.cells #[.int .i64 e.at_, .int .i64 e.kind, .int .i64 e.who, .int .i64 e.n] 35)).alloc (.map #[] 0)).alloc (.cells (Own.zero.cells (wr.heap.size + 1) (.slice none 0 0)) 44)).drew = W1 := ⟨_, rfl⟩
          rw [hW1] at hb2 hE0 hG0 hM0 hs2
          change Code.wp _ _ _ _ (((wr.alloc (.cells #[.int .i64 e.at_, .int .i64 e.kind, .int .i64 e.who, .int .i64 e.n] 35)).alloc (.map #[] 0)).alloc (.cells (Own.zero.cells (wr.heap.size + 1) (.slice none 0 0)) 44)).drew
          rw [hW1]
          clear hrun hxg hW1
          have c1 : W1.cell? ⟨gs, 0, none⟩ = some (.map (some bm)) := hs2.blk.cell 0
          have c2 : W1.cell? ⟨wr.heap.size, 2, none⟩ = some (.int .i64 e.who) := hE0.cell 2
          obtain ⟨w2, hu, hm2, hg2⟩ := (hs2.below (Below.refl _ _).drew).map.update law3 Try.underlying37 (by unfold maxLen; have := hs2.few; omega) (keyOf_int_mk Try.underlying3 Hoke.out.who) (show ptrElem (.pointer (some ⟨wr.heap.size + 1 + 1, 0, none⟩)) = some (.lit (.int .i64 ((wr.heap.size + 1 + 1 : Nat) : Int)), []) from rfl)
          have Hm2 := Lib.hid hm2
          have Hg2 := Lib.hid hg2
          have Hs2 := Lib.hid hs2
          have Hb2 := Lib.hid hb2
          have HG0 := Lib.hid hG0
          have HM0 := Lib.hid hM0
          have hbml : bm < wr.heap.size := Hs.out.map.lt
          have hE2 : Blk w2 wr.heap.size 35 _ := (hg2.block wr.heap.size hE0.lt (by intro e; injection e; omega)).trans hE0
          have HE0 := Lib.hid hE0
          clear hm2 hg2 hs2 hb2 hG0 hM0 hE0
          have k0 : w2.cell? ⟨wr.heap.size, 0, none⟩ = some (.int .i64 e.at_) := hE2.cell 0
          have k1 : w2.cell? ⟨wr.heap.size, 1, none⟩ = some (.int .i64 e.kind) := hE2.cell 1
          have k2 : w2.cell? ⟨wr.heap.size, 2, none⟩ = some (.int .i64 e.who) := hE2.cell 2
          have k3 : w2.cell? ⟨wr.heap.size, 3, none⟩ = some (.int .i64 e.n) := hE2.cell 3
          clear hE2
          go_region
          go_wp2_with fail
          have hne1 : ¬ wr.heap.size + 1 = bm := by omega
          have hne2 : ¬ wr.heap.size + 1 + 1 = bm := by omega
          have hg3 := Hg2.out
          have ho2 : OwnAt w2 (wr.heap.size + 1 + 1) (wr.heap.size + 1) (.slice none 0 0) 0 Own.zero :=
            ⟨(hg3.block _ HG0.out.lt (by intro e; injection e; omega)).trans HG0.out, map_same HM0.out (hg3.block _ HM0.out.lt (by intro e; injection e; omega)), World.ownsRow_nil _ _ _ _, by omega, by simp [Value.ownBlock]⟩
          have ht2 : Turn (fun j => j = bm) wr w2 := ((Turn.refl (fun j => j = bm) wr).below Hb2.out).drew.grown hg3 fun k hk => .inl (Option.some.inj hk).symm
          have hgl : wr.heap.size + 1 + 1 < w2.heap.size := Nat.lt_of_lt_of_le HG0.out.lt hg3.size
          have hs3 := Hs.out.add Hsk.out Hoke.out.who hw1 Hm2.out ho2 (by omega) (by omega) ht2 hgl
          have Hs3 := Lib.hid hs3
          have Ht2 := Lib.hid ht2
          clear hs3 ht2 hg3 hne1 hne2
          refine (put_any _ _ _ _ 0 Own.zero e.at_ e.kind e.who e.n (m + 2 * i : Nat) ho2 (Own.zero_fine _ (by omega)) (by omega) (by omega) Hoke.out.n Hoke.out.at_ (by omega)).mono ?_
          rintro e' w3 ⟨rfl, tv', n', hn', ho', hloc, ht'⟩
          have Ho' := Lib.hid (And.intro hn' (And.intro ho' (And.intro hloc ht')))
          clear hn' ho' hloc ht' ho2
          go_wp2_with fail
          go_roundg (l.length - (i + 1))
          case measure => rw [Hk.out]; omega
          case rel =>
            obtain ⟨hn', ho', hloc, ht'⟩ := Ho'.out
            have hset : ((s.all (l.take i)).set e.who Own.zero) e.who = some Own.zero := by simp [Known.set]
            obtain ⟨own2, h2, h3⟩ := Hs3.out.turned (tv := .slice none 0 0) hset (atKey_put_same Hs.out.map.isMap (by trivial) _ _) (by simp) (by simp) (by simp [Value.ownBlock]) ho' (by omega) (Own.fine_put (Own.zero_fine _ (by omega)) e.at_ e.kind e.n (by omega) ha1) hloc ht'
            refine ⟨i + 1, rfl, hlt, by go_num, own2, nm' + 1, D'.put (.int .i64 e.who) (.lit (.int .i64 ((wr.heap.size + 1 + 1 : Nat) : Int))), ?_, fun j hj => ?_, ?_⟩
            · rw [Hstep.out, Known.step, if_neg (by omega), if_neg (by omega), Hsk.out]
              have h4 := h2.more (m' := m + 2 * (i + 1)) (by omega)
              have e5 : ((s.all (l.take i)).set e.who Own.zero).set e.who (Own.zero.put e.at_ e.kind e.n) = (s.all (l.take i)).set e.who (Own.zero.put e.at_ e.kind e.n) := by
                funext q
                unfold Known.set
                split <;> rfl
              rw [e5] at h4
              exact h4
            · have hz := Hturn.out.size
              rw [h3 j (Nat.lt_of_lt_of_le hj (Nat.le_trans hz Ht2.out.size)), if_neg (by omega)]
              exact Hown.out j hj
            · have hz := Hturn.out.size
              have hmb : own' bm = some (-1) := Hs.out.mine.2
              refine (Hturn.out.trans Ht2.out fun j hj hj2 => ?_).trans ht' fun j hj hj2 => ?_
              · subst hj2
                rw [← Hown.out _ hj, hmb]
                simp
              · rcases hj2 with rfl | rfl | hj2
                · omega
                · omega
                · simp [Value.ownBlock] at hj2
    · have hile : i = l.length := by omega
      go_wp2
      go_end0
      refine ⟨rfl, own', nm', D', ?_, Hown.out, Hturn.out⟩
      have := Hs.out
      rw [hile, List.take_of_length_le (Nat.le_refl _)] at this
      exact this
end Go.Proofs.Ythjdogeobfcedaa
