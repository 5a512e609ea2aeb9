/-
  Who there is, in order; Put at a length that is told apart.
-/
import Derived.Test.YthjdogeobfcedaaS8
import Derived.Test.YthjdogeobfcedaaKeys
import Derived.Lib.SlKeysI
namespace Go.Proofs.Ythjdogeobfcedaa
open Go.RowKit Go.Maps Go.Sort

theorem keys_of {w : World} {gs bm nm m : Nat} {D : DataW Unit} {own : Nat → Option Int} {s : Known} (h : StatsAt w gs bm nm D own m s) :
    (intKeys D).Nodup ∧ ∀ x, x ∈ intKeys D ↔ ∃ o, s x = some o := by
  obtain ⟨es, hD, hpw, _⟩ := h.map.entries law3
  obtain ⟨es', hD', hko⟩ := h.map.keysOf
  obtain rfl : es = es' := by rw [hD] at hD'; simpa using hD'
  have hk : ∀ p ∈ es, ∃ x, p.1 = .int .i64 x := fun p hp => by obtain ⟨v, hv⟩ := hko p hp; obtain ⟨x, _, hx, _⟩ := Maps.keyOf_i64 Try.underlying3 hv; exact ⟨x, hx⟩
  subst hD
  refine ⟨?_, fun x => ?_⟩
  · show (es.map fun p => _root_.Go.intOf p.1).Nodup
    refine List.pairwise_map.2 (hpw.imp_of_mem fun {p q} hp' hq' hne e => hne ?_)
    obtain ⟨a, ha⟩ := hk p hp'
    obtain ⟨b, hb⟩ := hk q hq'
    rw [ha, hb] at e ⊢
    exact congrArg _ e
  · have h1 : x ∈ intKeys (.map es) ↔ Maps.has (.map es) (.int .i64 x) = true := by
      rw [has_eq, List.any_eq_true]
      show x ∈ es.map (fun p => _root_.Go.intOf p.1) ↔ _
      rw [List.mem_map]
      constructor
      · rintro ⟨p, hp', rfl⟩
        obtain ⟨a, ha⟩ := hk p hp'
        exact ⟨p, hp', by rw [ha]; simp [Lit.sameKey, _root_.Go.intOf]⟩
      · rintro ⟨p, hp', hs⟩
        obtain ⟨a, ha⟩ := hk p hp'
        rw [ha] at hs
        exact ⟨p, hp', by rw [ha]; simpa [Lit.sameKey, _root_.Go.intOf] using hs⟩
    rw [h1]
    cases hs : s x with
    | none => simp [h.no x hs]
    | some o =>
      obtain ⟨_, _, _, _, h2, _⟩ := h.one x o hs
      simp [h2]
/-- who there is, in order -/
def inOrder (D : DataW Unit) : List Int := (intKeys D).mergeSort leI
theorem inOrder_same {w w' : World} {gs bm nm m gs' bm' nm' m' : Nat} {D D' : DataW Unit} {own own' : Nat → Option Int} {s : Known} (h : StatsAt w gs bm nm D own m s) (h' : StatsAt w' gs' bm' nm' D' own' m' s) : inOrder D = inOrder D' :=
  mergeSort_of_perm_i ((List.perm_ext_iff_of_nodup (keys_of h).1 (keys_of h').1).2 fun x => ((keys_of h).2 x).trans ((keys_of h').2 x).symm)
theorem inOrder_mem {w : World} {gs bm nm m : Nat} {D : DataW Unit} {own : Nat → Option Int} {s : Known} (h : StatsAt w gs bm nm D own m s) (x : Int) : x ∈ inOrder D ↔ ∃ o, s x = some o := by
  rw [← (keys_of h).2 x]
  exact List.mem_mergeSort
theorem inOrder_rising {w : World} {gs bm nm m : Nat} {D : DataW Unit} {own : Nat → Option Int} {s : Known} (h : StatsAt w gs bm nm D own m s) (i : Nat) (hi : i + 1 < (inOrder D).length) : (inOrder D)[i] < (inOrder D)[i + 1] := by
  have tr : ∀ a b c : Int, leI a b = true → leI b c = true → leI a c = true := fun a b c h1 h2 => by simp only [leI, decide_eq_true_eq] at *; exact Int.le_trans h1 h2
  have to : ∀ a b : Int, (leI a b || leI b a) = true := fun a b => by simp only [leI, Bool.or_eq_true, decide_eq_true_eq]; exact Int.le_total a b
  have h1 := List.pairwise_iff_getElem.1 (List.pairwise_mergeSort tr to (intKeys D)) i (i + 1) (by unfold inOrder at hi; omega) hi (by omega)
  have hn : (inOrder D).Nodup := (List.mergeSort_perm (intKeys D) leI).nodup_iff.2 (keys_of h).1
  have h2 := List.pairwise_iff_getElem.1 hn i (i + 1) (by omega) hi (by omega)
  simp only [leI, decide_eq_true_eq] at h1
  have h3 : (inOrder D)[i] ≤ (inOrder D)[i + 1] := h1
  omega
theorem rising_list {w : World} {gs bm nm m : Nat} {D : DataW Unit} {own : Nat → Option Int} {s : Known} (h : StatsAt w gs bm nm D own m s) {K : List Int} (hK : inOrder D = K) (i : Nat) (h0 : 0 < i) (hi : i < K.length) : K[i - 1] < K[i] := by
  subst hK
  obtain ⟨j, rfl⟩ : ∃ j, i = j + 1 := ⟨i - 1, by omega⟩
  exact inOrder_rising h j hi
theorem size_few {w : World} {gs bm nm m : Nat} {D : DataW Unit} {own : Nat → Option Int} {s : Known} (h : StatsAt w gs bm nm D own m s) : Maps.size D ≤ m := Nat.le_trans h.map.size_le h.few
theorem inOrder_length {w : World} {gs bm nm m : Nat} {D : DataW Unit} {own : Nat → Option Int} {s : Known} (h : StatsAt w gs bm nm D own m s) : (inOrder D).length ≤ m := by
  obtain ⟨es, hD⟩ := h.map.isMap
  have h1 := size_few h
  rw [hD, size_eq] at h1
  unfold inOrder
  rw [List.length_mergeSort, hD]
  show (es.map fun p => _root_.Go.intOf p.1).length ≤ m
  simpa using h1
theorem All_order (w : World) (gs bm nm m : Nat) (D : DataW Unit) (own : Nat → Option Int) (s : Known) (h : StatsAt w gs bm nm D own m s) (hm : m ≤ 1000000) :
    Calls Try.prog 8 #[.pointer (some ⟨gs, 0, none⟩)] w fun e w' => ∃ A c, e = .returned (.slice A (inOrder D).length c) ∧ w'.ownsRow w.heap.size 3 1 (.slice A (inOrder D).length c) (inOrder D).length ((inOrder D).map (Value.int .i64)) ∧ Below w.heap.size w w' := by
  have h1 := size_few h
  refine (All_any gs bm nm D ptrElem w (h.blk.cell 0) h.map (by unfold maxLen; omega) (by omega)).mono ?_
  rintro e w' ⟨v, ss, rfl, hp, hown, _, hb⟩
  have e1 : ss.mergeSort (fun x y => decide (x ≤ y)) = inOrder D := mergeSort_of_perm_i hp
  have e2 : ss.length = (inOrder D).length := by rw [← e1, List.length_mergeSort]
  rw [e1, e2] at hown
  have e3 : (inOrder D).map encZ = (inOrder D).map (Value.int .i64) := rfl
  rw [e3] at hown
  rcases hown.2 with ⟨rfl, h0⟩ | ⟨b, cap, cur, rfl, _⟩
  · rw [h0] at hown ⊢
    exact ⟨_, _, rfl, hown, hb⟩
  · exact ⟨_, _, rfl, hown, hb⟩
theorem All_list (w : World) (gs bm nm m : Nat) (D : DataW Unit) (own : Nat → Option Int) (s : Known) (K : List Int) (hK : inOrder D = K) (h : StatsAt w gs bm nm D own m s) (hm : m ≤ 1000000) :
    Calls Try.prog 8 #[.pointer (some ⟨gs, 0, none⟩)] w fun e w' => ∃ A c, e = .returned (.slice A K.length c) ∧ w'.ownsRow w.heap.size 3 1 (.slice A K.length c) K.length (K.map (Value.int .i64)) ∧ Below w.heap.size w w' := by
  subst hK
  exact All_order w gs bm nm m D own s h hm
theorem Put_len (w : World) (gs bm nm m : Nat) (D : DataW Unit) (own : Nat → Option Int) (s : Known) (A : Option Addr) (l : List Ev) (n c : Nat) (hn : l.length = n) (h : StatsAt w gs bm nm D own m s) (hr : Evs w w.heap.size A l) (hno : 0 < l.length → ∀ ad, A = some ad → own ad.block = none)
    (hl : m + 2 * l.length ≤ 900000) (hok : ∀ e ∈ l, e.Ok) :
    Calls Try.prog 7 #[.pointer (some ⟨gs, 0, none⟩), .slice A n c] w fun e w' => e = .returned (.tuple #[]) ∧
      ∃ own' nm' D', StatsAt w' gs bm nm' D' own' (m + 2 * l.length) (s.all l) ∧ (∀ j, j < w.heap.size → own' j = own j) ∧ Turn (fun j => own j ≠ none) w w' := by
  subst hn
  exact Put_any w gs bm nm m D own s A l c h hr hno hl hok
theorem flatE_take (l : List Ev) (k : Nat) : flatE (l.take k) = (flatE l).take (k * 4) := by
  induction l generalizing k with
  | nil => simp [flatE]
  | cons x l ih =>
    cases k with
    | zero => simp [flatE]
    | succ k =>
      have := ih k
      rw [List.take_succ_cons, show (k + 1) * 4 = k * 4 + 1 + 1 + 1 + 1 by omega]
      simp only [flatE, List.flatMap_cons, Ev.cells, List.cons_append, List.nil_append, List.take_succ_cons] at this ⊢
      rw [this]
theorem flatE_drop (l : List Ev) (k : Nat) : flatE (l.drop k) = (flatE l).drop (k * 4) := by
  induction l generalizing k with
  | nil => simp [flatE]
  | cons x l ih =>
    cases k with
    | zero => simp [flatE]
    | succ k =>
      have := ih k
      rw [List.drop_succ_cons, show (k + 1) * 4 = k * 4 + 1 + 1 + 1 + 1 by omega]
      simp only [flatE, List.flatMap_cons, Ev.cells, List.cons_append, List.nil_append, List.drop_succ_cons] at this ⊢
      rw [this]
theorem Evs.take {w : World} {B : Nat} {A : Option Addr} {l : List Ev} (h : Evs w B A l) (k : Nat) (hk : k ≤ l.length) : Evs w B A (l.take k) := by
  refine ⟨flatE_length _, fun hn => ?_⟩
  obtain ⟨ad, e, hb, hc⟩ := h.2 (by simp at hn; omega)
  refine ⟨ad, e, hb, fun j u hu => hc j u ?_⟩
  rw [flatE_take, List.getElem?_take] at hu
  split at hu
  · exact hu
  · cases hu
theorem Evs.drop {w : World} {B : Nat} {A : Option Addr} {l : List Ev} (h : Evs w B A l) (k cap : Nat) (hk : k ≤ l.length) (hc : l.length ≤ cap) : Evs w B (if cap = k then A else A.map (·.add (k * 4))) (l.drop k) := by
  have h1 := Reads.cut h hk hc
  unfold Evs
  rw [flatE_drop, List.length_drop]
  exact h1
theorem Evs.lt {w : World} {B : Nat} {A : Option Addr} {l : List Ev} (h : Evs w B A l) (h0 : 0 < l.length) {ad : Addr} (e : A = some ad) : ad.block < B := by
  obtain ⟨ad', e', hb, _⟩ := h.2 h0
  rw [e] at e'
  cases e'
  exact hb
theorem all_parts (s : Known) (l : List Ev) (k : Nat) : (s.all (l.take k)).all (l.drop k) = s.all l := by
  unfold Known.all
  rw [← List.foldl_append, List.take_append_drop]
end Go.Proofs.Ythjdogeobfcedaa
