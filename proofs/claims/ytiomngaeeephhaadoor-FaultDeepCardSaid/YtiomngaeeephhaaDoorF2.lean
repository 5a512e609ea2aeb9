/-
  fault's functions on chains of wrapped errors, errors.Is and errors.Unwrap, as contracts.
-/
import Derived.Test.YtiomngaeeephhaaDoorF1
import Derived.LaidEql
import Derived.OwnWalk
namespace Go.Proofs.YtiomngaeeephhaaDoor
open Go.RowKit Go.Extern.Stop Go.Stop Go.Extern
attribute [local go_sem] Tryd.ext16 Tryd.ext17 Tryd.ext18 Tryd.ext39 Tryd.ext65 Tryd.ext66 Tryd.ext21 Tryd.ext63 Tryd.ext23 Tryd.ext24 Tryd.methodKind Tryd.methodElem Tryd.methodImplements Tryd.methodAssignableTo Tryd.methodComparable Tryd.valueOf30 Tryd.valueOf62 Tryd.type30 Tryd.type62 Tryd.kind30 Tryd.kind62 Tryd.kind28 Tryd.kind26 Tryd.elem30 Tryd.elem62 Tryd.implements28 Tryd.implements26 Tryd.typeOf28 Tryd.typeOf26 Tryd.assignable28to28 Tryd.assignable28to26 Tryd.assignable26to28 Tryd.assignable26to26 Tryd.valueOf28 Tryd.valueOf26 Tryd.comparable26 Tryd.ptrUnwrapAhead Tryd.ptrUnwrap Tryd.ptrErrorAhead Tryd.ptrError Tryd.intError Tryd.no28_70 Tryd.no26_70 Tryd.has28_57 Tryd.no26_57 Tryd.no28_73 Tryd.no26_73 Tryd.no28_76 Tryd.no26_76

theorem run_equalIn_iface_int {P : Program} (w : World) (d : Nat) {ti tn : TypeId} {ms : Array (String × TypeId)} {i : TypeInfo} {k : IntKind} (a b : Int)
    (hi : P.underlying ti = some (.interface ms)) (hn : P.underlying tn = some (.int k)) (hinfo : P.info? tn = some i) (hcomp : i.comparable = true) :
    (Op.equalIn (d + 2) ti (.iface tn (.int k a)) (.iface tn (.int k b))).run P w = .ok (a == b) w := by
  simp [Op.equalIn, run_underlying hi, run_underlying hn, typeInfo, hinfo, hcomp]
theorem run_eql_iface_int {P : Program} (w : World) {ti tn : TypeId} {ms : Array (String × TypeId)} {i : TypeInfo} {k : IntKind} (a b : Int)
    (hi : P.underlying ti = some (.interface ms)) (hn : P.underlying tn = some (.int k)) (hinfo : P.info? tn = some i) (hcomp : i.comparable = true) :
    (binOp .eql ti (.iface tn (.int k a)) (.iface tn (.int k b))).run P w = .ok (.bool (a == b)) w := by
  simp only [binOp]
  simp [Op.equal, Op.maxDepth, run_equalIn_iface_int w 9998 a b hi hn hinfo hcomp]
theorem Tryd.comp26 : (Tryd.prog.info? 26).map (·.comparable) = some true := by kernel_rfl
theorem Tryd.eqE (a b : Int) (w : World) : (binOp .eql 24 (.iface 26 (.int .i64 a)) (.iface 26 (.int .i64 b))).run Tryd.prog w = .ok (.bool (a == b)) w := by
  obtain ⟨i, h1, h2⟩ := Option.map_eq_some_iff.1 Tryd.comp26
  exact run_eql_iface_int w a b Tryd.underlying24 Tryd.underlying26 h1 h2
theorem Tryd.eqFE (a : Value) (b : Value) (w : World) : (binOp .eql 24 (.iface 28 a) (.iface 26 b)).run Tryd.prog w = .ok (.bool false) w :=
  run_eql_iface_types 28 26 a b Tryd.underlying24 (by decide) w
theorem Tryd.info28 : (Tryd.prog.info? 28).map (fun i => (i.zero, i.size, i.bytes)) = some (some (.pointer none), 1, 8) := by kernel_rfl
theorem Tryd.info9 : (Tryd.prog.info? 9).map (fun i => (i.zero, i.size, i.bytes)) = some (some (.string ⟨#[]⟩), 1, 16) := by kernel_rfl
attribute [local go_sem] Tryd.eqE Tryd.eqFE

theorem New_any (op : ByteArray) (id c : Int) (w : World) (hc : (c == 0) = false) :
    Calls Tryd.prog 6 #[.string op, .int .i64 id, .int .i64 c] w fun e w' => e = .returned (.iface 28 (.pointer (some ⟨w.heap.size, 0, none⟩))) ∧
      w' = w.alloc (.cells #[.string op, .int .i64 id, .iface 26 (.int .i64 c)] 33) := by
  go_enter Tryd.func6, Tryd.ntmps6
  go_wp2
  go_ret
  exact ⟨rfl, rfl⟩
theorem Wrap_any (op : ByteArray) (id : Int) (t : TypeId) (u : Value) (w : World) :
    Calls Tryd.prog 7 #[.string op, .int .i64 id, .iface t u] w fun e w' => e = .returned (.iface 28 (.pointer (some ⟨w.heap.size, 0, none⟩))) ∧
      w' = w.alloc (.cells #[.string op, .int .i64 id, .iface t u] 33) := by
  go_enter Tryd.func7, Tryd.ntmps7
  go_wp2
  go_ret
  exact ⟨rfl, rfl⟩
theorem Unwrap9_any (b : Nat) (u : Value) (w : World) (hb : w.cell? ⟨b, 2, none⟩ = some u) :
    Calls Tryd.prog 9 #[.iface 28 (.pointer (some ⟨b, 0, none⟩))] w fun e w' => e = .returned u ∧ w = w' := by
  go_enter Tryd.func9, Tryd.ntmps9
  go_wp2_with (go_at_call 58; refine (Unwrap_any _ _ _ hb).mono ?_; rintro e w' ⟨rfl, rfl⟩)
  go_ret
  exact ⟨rfl, rfl⟩

set_option maxHeartbeats 1000000 in
theorem is_any (l : List (Nat × ByteArray × Int)) (c c' : Int) (v : Value) (w : World) (hc : Ch w l c v) :
    Calls Tryd.prog 22 #[v, .iface 26 (.int .i64 c'), .bool true] w fun e w' => e = .returned (.bool (c == c')) ∧ w = w' := by
  go_enter Tryd.func22, Tryd.ntmps22
  go_wp2
  go_loopg [0] l.length (fun k s0 wr => ∃ l', k = l'.length ∧ Ch w l' c s0 ∧ wr = w)
  case atStart => exact ⟨l, rfl, hc, rfl⟩
  case round =>
    obtain ⟨l', hk, hc', rfl⟩ := hrel
    clear hc
    cases l' with
    | nil =>
      obtain rfl := hc'
      cases hcc : (c == c')
      · go_wp2
        go_ret
        exact ⟨by rw [hcc]; rfl, rfl⟩
      · go_wp2
        go_ret
        exact ⟨by rw [hcc]; rfl, rfl⟩
    | cons x l' =>
      obtain ⟨b, op, id⟩ := x
      obtain ⟨u, rfl, hb, hu⟩ := hc'
      have hb3 : wr.cell? ⟨b, 2, none⟩ = some u := hb.cell 2
      obtain ⟨tu, uu, rfl⟩ := hu.iface
      have H := Lib.hid hu
      clear hu hb
      go_wp2_with (go_at_call 58; refine (Unwrap_any _ _ _ hb3).mono ?_; rintro e w' ⟨rfl, rfl⟩)
      go_roundg l'.length
      case measure => rw [hk]; simp
      case rel => exact ⟨l', rfl, H.out, rfl⟩
def ptrs (l : List (Nat × ByteArray × Int)) : List Value := l.map fun x => .pointer (some ⟨x.1, 0, none⟩)
theorem ptrs_snoc (d : List (Nat × ByteArray × Int)) (x : Nat × ByteArray × Int) : ptrs d ++ [.pointer (some ⟨x.1, 0, none⟩)] = ptrs (d ++ [x]) := by simp [ptrs]
theorem ptrs_length (d : List (Nat × ByteArray × Int)) : (ptrs d).length = d.length := by simp [ptrs]

def AllRel (l : List (Nat × ByteArray × Int)) (c : Int) (w : World) (k : Nat) (s0 s3 : Value) (wr : World) : Prop :=
  ∃ done rest, l = done ++ rest ∧ k = rest.length ∧ Ch w rest c s0 ∧ wr.ownsRow (w.heap.size + 1) 28 1 s3 done.length (ptrs done) ∧ Below w.heap.size w wr ∧ w.heap.size < wr.heap.size ∧ ∃ f, Blk wr w.heap.size 28 #[f]

set_option maxHeartbeats 1000000 in
theorem all_any (l : List (Nat × ByteArray × Int)) (c : Int) (v : Value) (w : World) (hl : l.length ≤ 1000) (hc : Ch w l c v) (hg : HG w) :
    Calls Tryd.prog 20 #[v] w fun e w' => ∃ r, e = .returned r ∧ w'.ownsRow (w.heap.size + 1) 28 1 r l.length (ptrs l) ∧ Below w.heap.size w w' := by
  obtain ⟨i0, hi, hz0, hz1, hz2⟩ := info_parts Tryd.info28
  go_enter Tryd.func20, Tryd.ntmps20
  go_wp2
  go_loopg [0, 3] l.length (fun k s0 s3 wr => AllRel l c w k s0 s3 wr)
  case atStart => exact ⟨[], l, rfl, rfl, hc, World.ownsRow_nil _ _ _ _, (Below.refl _ _).alloc (Nat.le_refl _) _, by simp, _, Blk.new w _ _⟩
  case round =>
    obtain ⟨done, rest, hd, hk, hc', hown, hbel, hlt, f, hf⟩ := hrel
    clear hc
    have hgr := hg.below hbel
    cases rest with
    | nil =>
      obtain rfl := hc'
      have Hd := Lib.hid hd
      have Hk := Lib.hid hk
      clear hd hk
      go_wp2_with (go_at_call 8; refine (As28_miss c w.heap.size f _ hgr hf).mono ?_; rintro e w' ⟨rfl, hA⟩)
      obtain ⟨⟩ := Hd.out
      go_ret
      refine ⟨_, rfl, ?_, ?_⟩
      · rw [List.append_nil]
        exact hown.kept hA.2 (.inr fun e => by have := (hown.lt _ e).1; omega)
      · exact hbel.trans (below_of_only hA.2 hbel.size (Nat.le_refl _))
    | cons x rest =>
      obtain ⟨b, op, id⟩ := x
      obtain ⟨u, rfl, hb, hu⟩ := hc'
      have Hd := Lib.hid hd
      have Hk := Lib.hid hk
      clear hd hk
      have Hu := Lib.hid hu
      have Hb := Lib.hid hb
      clear hu hb
      have hne : u3.ownBlock ≠ some w.heap.size := fun e => by have := (hown.lt _ e).1; omega
      have hdl : done.length + 1 ≤ 1000 := by have := congrArg List.length Hd.out; simp at this; omega
      go_wp2_with (first | (go_at_call 8; refine (As28_hit b w.heap.size f _ hgr hf).mono ?_; rintro e w1 ⟨rfl, hA⟩; have hc1 := hA.1.cell 0; have hown1 := hown.kept hA.2 (.inr hne); have hsz := hA.2.size; simp only [List.getElem?_toArray, List.getElem?_cons_zero] at hc1) | (at_builtin; refine wpList_append_own _ rfl _ _ 60 rfl (w.heap.size + 1) 28 i0 (.pointer none) 1 8 Tryd.underlying60 hi hz0 hz1 hz2 rfl (by decide) _ _ _ rfl (hown1.alloc _) ⟨w1.heap.size, 0, none⟩ 1 1 [.pointer (some ⟨b, 0, none⟩)] rfl rfl ?c1 ?c2 ?c3 ?c4 ?c5 ?_))
      case c1 => exact cell_one_new _ _ _
      case c2 => simp [Value.oneCell']
      case c3 => unfold maxLen; omega
      case c4 => omega
      case c5 => simp; omega
      intro v' w2 hown2 hgr2 _
      have hbel1 : Below w.heap.size w w1 := hbel.trans (below_of_only hA.2 hbel.size (Nat.le_refl _))
      have hbel2 : Below w.heap.size w w2 := (hbel1.alloc hbel1.size _).grown hgr2 (by simp; omega) (fun k hk => by have := (hown1.lt k hk).1; omega)
      have hk1 : Blk w2 w.heap.size 28 #[.pointer (some ⟨b, 0, none⟩)] := (hA.1.alloc _).grown hgr2 (fun e => hne e.symm)
      have hc2 := hk1.cell 0
      have hb2 := (Hb.out.below hbel2 Hb.out.lt).cell 2
      simp only [List.getElem?_toArray, List.getElem?_cons_zero, List.getElem?_cons_succ] at hc2 hb2
      have Hown := Lib.hid hown2
      clear hown2 hc1 hown hown1 hgr hf
      go_wp2
      go_roundg rest.length
      case measure => rw [Hk.out]; simp
      case rel =>
        refine ⟨done ++ [(b, op, id)], rest, by rw [Hd.out]; simp, rfl, Hu.out, ?_, hbel2, hk1.lt, _, hk1⟩
        have := Hown.out
        rw [ptrs_snoc done (b, op, id)] at this
        simpa using this

set_option maxHeartbeats 1000000 in
theorem Is_any (l : List (Nat × ByteArray × Int)) (c c' : Int) (v : Value) (w : World) (hc : Ch w l c v) :
    Calls Tryd.prog 15 #[v, .iface 26 (.int .i64 c')] w fun e w' => e = .returned (.bool (c == c')) ∧ w = w' := by
  obtain ⟨tu, uu, rfl⟩ := hc.iface
  have H := Lib.hid hc
  clear hc
  go_enter Tryd.func15, Tryd.ntmps15
  go_wp2_with (go_at_call 22; refine (is_any l c c' _ _ H.out).mono ?_; rintro e w' ⟨rfl, rfl⟩)
  go_ret
  exact ⟨rfl, rfl⟩

end Go.Proofs.YtiomngaeeephhaaDoor
