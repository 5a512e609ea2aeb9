/-
  'Turn S w w'': of the old blocks of w only those of S may have turned.
-/
import Derived.Test.YtommmfncaadbeaaDoorWd
namespace Go.Proofs.YtommmfncaadbeaaDoor
open Go.RowKit

structure Turn (S : Nat → Prop) (w w' : World) : Prop where
  os : w'.os = w.os
  tape : w'.tape = w.tape
  output : w'.output = w.output
  size : w.heap.size ≤ w'.heap.size
  block : ∀ k, k < w.heap.size → ¬ S k → w'.heap[k]? = w.heap[k]?
section
variable {S T : Nat → Prop} {w v u : World}
theorem Turn.refl (S : Nat → Prop) (w : World) : Turn S w w := ⟨rfl, rfl, rfl, Nat.le_refl _, fun _ _ _ => rfl⟩
theorem Turn.drew (h : Turn S w v) : Turn S w v.drew := ⟨h.os, h.tape, h.output, h.size, h.block⟩
theorem Turn.drewN (h : Turn S w v) (n : Nat) : Turn S w (v.drewN n) := ⟨h.os, h.tape, h.output, h.size, h.block⟩
theorem Turn.alloc (h : Turn S w v) (o : Obj) : Turn S w (v.alloc o) :=
  ⟨h.os, h.tape, h.output, Nat.le_trans h.size (by simp), fun i hi hne => (Below.heap_alloc v o i (Nat.lt_of_lt_of_le hi h.size)).trans (h.block i hi hne)⟩
theorem Turn.setCell (h : Turn S w v) {p : Addr} (hp : S p.block ∨ w.heap.size ≤ p.block) (x : Value) : Turn S w (v.setCell p x) :=
  ⟨h.os, h.tape, h.output, by simpa [World.setCell] using h.size, fun i hi hne => (Below.heap_setCell v p x i (by
    rintro rfl
    rcases hp with hp | hp
    · exact hne hp
    · omega)).trans (h.block i hi hne)⟩
theorem Turn.grown (h : Turn S w v) {row : Option Nat} (hg : v.grownBy u row) (hr : ∀ k, row = some k → S k ∨ w.heap.size ≤ k) : Turn S w u :=
  ⟨hg.os.trans h.os, hg.tape.trans h.tape, hg.output.trans h.output, Nat.le_trans h.size hg.size, fun i hi hne => (hg.block i (Nat.lt_of_lt_of_le hi h.size) (fun e => by
    rcases hr i e.symm with k | k
    · exact hne k
    · omega)).trans (h.block i hi hne)⟩
theorem Turn.below (h : Turn S w v) (hb : Below v.heap.size v u) : Turn S w u :=
  ⟨hb.os.trans h.os, hb.tape.trans h.tape, hb.output.trans h.output, Nat.le_trans h.size hb.size, fun i hi hne => (hb.block i (Nat.lt_of_lt_of_le hi h.size)).trans (h.block i hi hne)⟩
theorem Turn.trans (h : Turn S w v) (k : Turn T v u) (hs : ∀ i, i < w.heap.size → T i → S i) : Turn S w u :=
  ⟨k.os.trans h.os, k.tape.trans h.tape, k.output.trans h.output, Nat.le_trans h.size k.size, fun i hi hne => (k.block i (Nat.lt_of_lt_of_le hi h.size) (fun t => hne (hs i hi t))).trans (h.block i hi hne)⟩
theorem Turn.mono (h : Turn T w v) (hs : ∀ i, i < w.heap.size → T i → S i) : Turn S w v := (Turn.refl S w).trans h hs
theorem Turn.toBelow {B : Nat} (h : Turn S w v) (hB : B ≤ w.heap.size) (hs : ∀ i, i < B → ¬ S i) : Below B w v :=
  ⟨h.os, h.tape, h.output, h.size, fun i hi => h.block i (by omega) (hs i hi)⟩
end
end Go.Proofs.YtommmfncaadbeaaDoor
