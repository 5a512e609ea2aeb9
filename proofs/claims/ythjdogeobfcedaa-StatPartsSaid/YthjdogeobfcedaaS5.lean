/-
  All that is known, in memory: whose each block is.
-/
import Derived.Test.YthjdogeobfcedaaS4
import Derived.Maps.OwnSet
namespace Go.Proofs.Ythjdogeobfcedaa
open Go.RowKit Go.Maps

structure Ev where
  at_ : Int
  kind : Int
  who : Int
  n : Int
structure Ev.Ok (e : Ev) : Prop where
  at_ : (Lit.int .i64 e.at_).wf = true
  kind : (Lit.int .i64 e.kind).wf = true
  who : (Lit.int .i64 e.who).wf = true
  n : (Lit.int .i64 e.n).wf = true
def Ev.cells (e : Ev) : List Value := [.int .i64 e.at_, .int .i64 e.kind, .int .i64 e.who, .int .i64 e.n]
def Own.zero : Own := { r := 0, d := 0, a := 0, wa := 0, t := 0, gr := 0, de := 0, ga := 0, wk := 0, op := 0, wo := 0, su := 0, since := .map [], times := [] }
/-- what is known of all -/
abbrev Known := Int → Option Own
def Known.set (s : Known) (k : Int) (x : Own) : Known := fun j => if j = k then some x else s j
def Known.step (s : Known) (e : Ev) : Known :=
  if e.who < 0 then s else if e.at_ < 0 then s else s.set e.who (((s e.who).getD Own.zero).put e.at_ e.kind e.n)
def Known.all (s : Known) (l : List Ev) : Known := l.foldl Known.step s

def ptrElem : Value → Option (DataW Unit × List MemPlace)
  | .pointer none => some (.nil, [])
  | .pointer (some ⟨g, 0, none⟩) => some (.lit (.int .i64 g), [])
  | _ => none
theorem ptrElem_int {v : Value} {g : Nat} {ps : List MemPlace} (h : ptrElem v = some (.lit (.int .i64 g), ps)) : v = .pointer (some ⟨g, 0, none⟩) := by
  unfold ptrElem at h
  split at h
  · simp at h
  · rename_i g'
    simp only [Option.some.injEq, Prod.mk.injEq, DataW.lit.injEq, Lit.int.injEq, true_and] at h
    have : g' = g := by omega
    rw [this]
  · cases h
theorem ptrElem_nil {v : Value} {ps : List MemPlace} (h : ptrElem v = some (.nil, ps)) : v = .pointer none := by
  unfold ptrElem at h
  split at h
  · rfl
  · simp at h
  · cases h

theorem row_same {w w' : World} {base : Nat} {e : TypeId} {size : Nat} {v : Value} {n : Nat} {xs : List Value} (h : w.ownsRow base e size v n xs) (hs : ∀ j, v.ownBlock = some j → w'.heap[j]? = w.heap[j]?) : w'.ownsRow base e size v n xs := by
  refine ⟨h.1, ?_⟩
  rcases h.2 with h | ⟨g, cap, cur, h1, h2, h3, h4⟩
  · exact .inl h
  · exact .inr ⟨g, cap, cur, h1, h2, (hs g (by rw [h1]; rfl)).trans h3, h4⟩
theorem map_same {w w' : World} {b n : Nat} {k : TypeId} {R : Value → Option (DataW Unit × List MemPlace)} {D : DataW Unit} (h : w.ownsMap Try.prog k R b n D) (hs : w'.heap[b]? = w.heap[b]?) : w'.ownsMap Try.prog k R b n D := by
  obtain ⟨es, clock, hk, F, hz, hD⟩ := h
  exact ⟨es, clock, hs.trans hk, F, hz, hD⟩
theorem OwnAt.same {w w' : World} {g bs : Nat} {tv : Value} {n : Nat} {x : Own} (h : OwnAt w g bs tv n x) (hs : ∀ j, (j = g ∨ j = bs ∨ tv.ownBlock = some j) → w'.heap[j]? = w.heap[j]?) : OwnAt w' g bs tv n x :=
  ⟨(hs g (.inl rfl)).trans h.blk, map_same h.map (hs bs (.inr (.inl rfl))), row_same h.row fun j hj => hs j (.inr (.inr hj)), h.ne⟩

def OneAt (w : World) (D : DataW Unit) (own : Nat → Option Int) (m : Nat) (k : Int) (x : Own) : Prop :=
  ∃ (g bs : Nat) (tv : Value) (n : Nat), Maps.has D (.int .i64 k) = true ∧ D.atKey (.int .i64 k) .nil = .lit (.int .i64 g) ∧ OwnAt w g bs tv n x ∧ n ≤ m ∧ own g = some k ∧ own bs = some k ∧ ∀ j, tv.ownBlock = some j → own j = some k
structure StatsAt (w : World) (gs bm nm : Nat) (D : DataW Unit) (own : Nat → Option Int) (m : Nat) (s : Known) : Prop where
  blk : Blk w gs 39 #[.map (some bm)]
  map : w.ownsMap Try.prog 3 ptrElem bm nm D
  few : nm ≤ m
  no : ∀ k, s k = none → Maps.has D (.int .i64 k) = false
  one : ∀ k x, s k = some x → OneAt w D own m k x
  fine : ∀ k x, s k = some x → (Lit.int .i64 k).wf = true ∧ 0 ≤ k ∧ x.Fine m
  mine : own gs = some (-1) ∧ own bm = some (-1)
  old : ∀ j k, own j = some k → j < w.heap.size
section
variable {w w' : World} {gs bm nm m : Nat} {D : DataW Unit} {own : Nat → Option Int} {s : Known}
theorem StatsAt.same (h : StatsAt w gs bm nm D own m s) (hs : ∀ j, own j ≠ none → w'.heap[j]? = w.heap[j]?) (hz : w.heap.size ≤ w'.heap.size) : StatsAt w' gs bm nm D own m s := by
  have hb : bm < w.heap.size := h.map.lt
  refine ⟨(hs gs (by rw [h.mine.1]; simp)).trans h.blk, map_same h.map (hs bm (by rw [h.mine.2]; simp)), h.few, h.no, fun k x hk => ?_, h.fine, h.mine, fun j k hj => Nat.lt_of_lt_of_le (h.old j k hj) hz⟩
  obtain ⟨g, bs, tv, n, h1, h2, h3, h4, h5, h6, h7⟩ := h.one k x hk
  refine ⟨g, bs, tv, n, h1, h2, h3.same fun j hj => hs j ?_, h4, h5, h6, h7⟩
  rcases hj with rfl | rfl | hj
  · rw [h5]; simp
  · rw [h6]; simp
  · rw [h7 j hj]; simp
theorem StatsAt.turn (h : StatsAt w gs bm nm D own m s) {S : Nat → Prop} (ht : Turn S w w') (hS : ∀ j, S j → own j = none) : StatsAt w' gs bm nm D own m s := by
  refine h.same (fun j hj => ?_) ht.size
  obtain ⟨k, hk⟩ := Option.ne_none_iff_exists'.1 hj
  exact ht.block j (h.old j k hk) fun hs => hj (hS j hs)
theorem StatsAt.below (h : StatsAt w gs bm nm D own m s) (hb : Below w.heap.size w w') : StatsAt w' gs bm nm D own m s :=
  h.turn ((Turn.refl (fun _ => False) w).below hb) fun _ => False.elim
theorem Own.Fine.more {m m' : Int} {x : Own} (h : x.Fine m) (hm : m ≤ m') : x.Fine m' := by
  obtain ⟨h1, h2, h3, h4, h5, h6, h7, h8, h9, h10, h11, h12, h13, h14, h15⟩ := h
  exact ⟨by omega, by omega, by omega, by omega, by omega, by omega, by omega, by omega, by omega, by omega, h11, h12, by omega, h14, h15⟩
theorem StatsAt.more (h : StatsAt w gs bm nm D own m s) {m' : Nat} (hm : m ≤ m') : StatsAt w gs bm nm D own m' s := by
  refine ⟨h.blk, h.map, by have := h.few; omega, h.no, fun k x hk => ?_, fun k x hk => ⟨(h.fine k x hk).1, (h.fine k x hk).2.1, (h.fine k x hk).2.2.more (by omega)⟩, h.mine, h.old⟩
  obtain ⟨g, bs, tv, n, h1, h2, h3, h4, h5⟩ := h.one k x hk
  exact ⟨g, bs, tv, n, h1, h2, h3, by omega, h5⟩
/-- one is put in -/
theorem StatsAt.turned (h : StatsAt w gs bm nm D own m s) {k : Int} {x x' : Own} {g bs n' : Nat} {tv tv' : Value} (hk : s k = some x)
    (hg : D.atKey (.int .i64 k) .nil = .lit (.int .i64 g)) (h5 : own g = some k) (h6 : own bs = some k) (h7 : ∀ j, tv.ownBlock = some j → own j = some k)
    (ho : OwnAt w' g bs tv' n' x') (hn : n' ≤ m + 1) (hf : x'.Fine (m + 1)) (hloc : tv'.ownBlock = tv.ownBlock ∨ ∃ j, tv'.ownBlock = some j ∧ w.heap.size ≤ j)
    (ht : Turn (fun j => j = g ∨ j = bs ∨ tv.ownBlock = some j) w w') :
    ∃ own', StatsAt w' gs bm nm D own' (m + 1) (s.set k x') ∧ ∀ j, j < w.heap.size → own' j = own j := by
  have hk0 := (h.fine k x hk).2.1
  have old : ∀ j, j < w.heap.size → (if tv'.ownBlock = some j then some k else own j) = own j := by
    intro j hj
    split
    · rename_i e
      rcases hloc with e2 | ⟨i, e2, hi⟩
      · exact (h7 j (by rw [← e2]; exact e)).symm
      · rw [e] at e2; cases e2; omega
    · rfl
  have free : ∀ j q, own j = some q → q ≠ k → w'.heap[j]? = w.heap[j]? := by
    intro j q hj hq
    refine ht.block j (h.old j q hj) ?_
    rintro (rfl | rfl | e)
    · rw [h5] at hj; cases hj; exact hq rfl
    · rw [h6] at hj; cases hj; exact hq rfl
    · rw [h7 j e] at hj; cases hj; exact hq rfl
  have keep : ∀ j q, own j = some q → (if tv'.ownBlock = some j then some k else own j) = some q := fun j q hj => (old j (h.old j q hj)).trans hj
  refine ⟨fun j => if tv'.ownBlock = some j then some k else own j, ⟨(free gs (-1) h.mine.1 (by omega)).trans h.blk, map_same h.map (free bm (-1) h.mine.2 (by omega)), by have := h.few; omega, ?_, ?_, ?_, ⟨keep gs _ h.mine.1, keep bm _ h.mine.2⟩, ?_⟩, old⟩
  · intro q hq
    unfold Known.set at hq
    split at hq
    · cases hq
    · exact h.no q hq
  · intro q y hq
    unfold Known.set at hq
    split at hq
    · rename_i e
      subst e
      cases hq
      obtain ⟨_, _, _, _, h1, _⟩ := h.one q x hk
      exact ⟨g, bs, tv', n', h1, hg, ho, hn, keep g _ h5, keep bs _ h6, fun j hj => by simp [hj]⟩
    · rename_i e
      obtain ⟨g1, bs1, tv1, n1, a1, a2, a3, a4, a5, a6, a7⟩ := h.one q y hq
      refine ⟨g1, bs1, tv1, n1, a1, a2, a3.same fun j hj => ?_, by omega, keep g1 _ a5, keep bs1 _ a6, fun j hj => keep j _ (a7 j hj)⟩
      rcases hj with rfl | rfl | hj
      · exact free _ q a5 e
      · exact free _ q a6 e
      · exact free _ q (a7 j hj) e
  · intro q y hq
    unfold Known.set at hq
    split at hq
    · rename_i e
      subst e
      cases hq
      exact ⟨(h.fine q x hk).1, (h.fine q x hk).2.1, by simpa using hf⟩
    · obtain ⟨b1, b2, b3⟩ := h.fine q y hq
      exact ⟨b1, b2, b3.more (by omega)⟩
  · intro j q hj
    split at hj
    · rename_i e
      rcases ho.row.2 with ⟨rfl, _⟩ | ⟨b, cap, cur, rfl, _, hb, _⟩
      · simp [Value.ownBlock] at e
      · simp [Value.ownBlock] at e
        subst e
        exact Blk.lt (t := 2) (cs := cur) hb
    · exact Nat.lt_of_lt_of_le (h.old j q hj) ht.size
theorem Own.zero_fine (m : Int) (hm : 0 ≤ m) : Own.zero.Fine m := by
  refine ⟨?_, ?_, ?_, ?_, ?_, ?_, ?_, ?_, ?_, ?_, ?_, ?_, ?_, ?_, ⟨[], rfl⟩⟩ <;> simp [Own.zero, hm, Own.at_]
  intro n c h
  cases h
/-- one more is known -/
theorem StatsAt.add (h : StatsAt w gs bm nm D own m s) {k : Int} {g bs : Nat} (hk : s k = none) (hw : (Lit.int .i64 k).wf = true) (hk0 : 0 ≤ k)
    (hm : w'.ownsMap Try.prog 3 ptrElem bm (nm + 1) (D.put (.int .i64 k) (.lit (.int .i64 g)))) (ho : OwnAt w' g bs (.slice none 0 0) 0 Own.zero) (hg : w.heap.size ≤ g) (hbs : w.heap.size ≤ bs) (ht : Turn (fun j => j = bm) w w') (hgl : g < w'.heap.size) :
    StatsAt w' gs bm (nm + 1) (D.put (.int .i64 k) (.lit (.int .i64 g))) (fun j => if j = g ∨ j = bs then some k else own j) (m + 1) (s.set k Own.zero) := by
  have hism := h.map.isMap
  have keep : ∀ j q, own j = some q → (if j = g ∨ j = bs then some k else own j) = some q := by
    intro j q hj
    have := h.old j q hj
    rw [if_neg (by omega)]
    exact hj
  have free : ∀ j q, own j = some q → j ≠ bm → w'.heap[j]? = w.heap[j]? := fun j q hj hn => ht.block j (h.old j q hj) hn
  have hgb : gs ≠ bm := by
    intro e
    have h1 := h.blk
    obtain ⟨es, clock, h2, _⟩ := h.map
    unfold Blk at h1
    rw [e, h2] at h1
    cases h1
  refine ⟨(free gs _ h.mine.1 hgb).trans h.blk, hm, by have := h.few; omega, ?_, ?_, ?_, ⟨keep gs _ h.mine.1, keep bm _ h.mine.2⟩, ?_⟩
  · intro q hq
    unfold Known.set at hq
    split at hq
    · cases hq
    · rename_i e
      rw [has_put_other (by intro e2; injection e2 with _ e2; exact e e2)]
      exact h.no q hq
  · intro q y hq
    unfold Known.set at hq
    split at hq
    · rename_i e
      subst e
      cases hq
      exact ⟨g, bs, _, 0, has_put_same hism (by trivial) _, atKey_put_same hism (by trivial) _ _, ho, by omega, by simp, by simp, fun j hj => by simp [Value.ownBlock] at hj⟩
    · rename_i e
      have e3 : Lit.int .i64 q ≠ Lit.int .i64 k := by intro e2; injection e2 with _ e2; exact e e2
      obtain ⟨g1, bs1, tv1, n1, a1, a2, a3, a4, a5, a6, a7⟩ := h.one q y hq
      have hq0 := (h.fine q y hq).2.1
      have nb : ∀ j, own j = some q → j ≠ bm := by
        rintro j hj rfl
        rw [h.mine.2] at hj
        cases hj
        omega
      refine ⟨g1, bs1, tv1, n1, by rw [has_put_other e3]; exact a1, by rw [atKey_put_other e3]; exact a2, a3.same fun j hj => ?_, by omega, keep g1 _ a5, keep bs1 _ a6, fun j hj => keep j _ (a7 j hj)⟩
      rcases hj with rfl | rfl | hj
      · exact free _ q a5 (nb _ a5)
      · exact free _ q a6 (nb _ a6)
      · exact free _ q (a7 j hj) (nb _ (a7 j hj))
  · intro q y hq
    unfold Known.set at hq
    split at hq
    · rename_i e
      subst e
      cases hq
      exact ⟨hw, hk0, Own.zero_fine _ (by omega)⟩
    · obtain ⟨b1, b2, b3⟩ := h.fine q y hq
      exact ⟨b1, b2, b3.more (by omega)⟩
  · intro j q hj
    split at hj
    · rename_i e
      rcases e with rfl | rfl
      · exact hgl
      · exact ho.map.lt
    · exact Nat.lt_of_lt_of_le (h.old j q hj) ht.size
end
end Go.Proofs.Ythjdogeobfcedaa
