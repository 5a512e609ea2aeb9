/-
  The laws FaultOne and FaultDeep walked: they return true; nothing that was there is turned.
-/
import Derived.Test.YtiomngaeeephhaaDoorF4
import Derived.LaidEql
import Derived.Deep.QuietTactic
import Derived.BigQuiet
namespace Go.Proofs.YtiomngaeeephhaaDoor
open Go.RowKit Go.Extern.Stop Go.Stop Go.Extern
attribute [local go_sem] Tryd.ext16 Tryd.ext17 Tryd.ext18 Tryd.ext39 Tryd.ext65 Tryd.ext66 Tryd.ext21 Tryd.ext63 Tryd.ext23 Tryd.ext24 Tryd.methodKind Tryd.methodElem Tryd.methodImplements Tryd.methodAssignableTo Tryd.methodComparable Tryd.valueOf30 Tryd.valueOf62 Tryd.type30 Tryd.type62 Tryd.kind30 Tryd.kind62 Tryd.kind28 Tryd.kind26 Tryd.elem30 Tryd.elem62 Tryd.implements28 Tryd.implements26 Tryd.typeOf28 Tryd.typeOf26 Tryd.assignable28to28 Tryd.assignable28to26 Tryd.assignable26to28 Tryd.assignable26to26 Tryd.valueOf28 Tryd.valueOf26 Tryd.comparable26 Tryd.ptrUnwrapAhead Tryd.ptrUnwrap Tryd.ptrErrorAhead Tryd.ptrError Tryd.intError Tryd.no28_70 Tryd.no26_70 Tryd.has28_57 Tryd.no26_57 Tryd.no28_73 Tryd.no26_73 Tryd.no28_76 Tryd.no26_76
attribute [local go_sem] Tryd.eqE Tryd.eqFE

def Q (w w' : World) : Prop := Below w.heap.size w w'
set_option maxHeartbeats 1000000 in
theorem awake_any (w : World) (hg : HG w) : Calls Tryd.prog 5 #[] w fun e w' => e = .returned (.bool true) ∧ Q w w' := by
  have hb0 : Below w.heap.size w (w.alloc (.cells #[.string ⟨#[108, 111, 99, 107]⟩, .int .i64 3, .iface 26 (.int .i64 5)] 33)) := (Below.refl _ _).alloc (Nat.le_refl _) _
  have hk := Blk.new w 33 #[.string ⟨#[108, 111, 99, 107]⟩, .int .i64 3, .iface 26 (.int .i64 5)]
  have Hk := Lib.hid hk
  have Hg := Lib.hid (hg.below hb0)
  have Hc : ∀ n, Hid (Ch ((w.alloc (.cells #[.string ⟨#[108, 111, 99, 107]⟩, .int .i64 3, .iface 26 (.int .i64 5)] 33)).drewN n) [(w.heap.size, ⟨#[108, 111, 99, 107]⟩, 3)] 5 (.iface 28 (.pointer (some ⟨w.heap.size, 0, none⟩)))) :=
    fun n => Lib.hid ⟨_, rfl, hk, rfl⟩
  clear hk
  go_enter Tryd.func5, Tryd.ntmps5
  go_wp2_with (first | (go_at_call 6; refine (New_any _ _ _ _ (by decide)).mono ?_; rintro e w' ⟨rfl, rfl⟩) | (go_at_call 57; refine (ErrorLock w.heap.size _ Hk.out).mono ?_; rintro e w' ⟨rfl, n, rfl⟩) | (go_at_call 13; refine (Code_any _ 5 _ _ (Hc n).out Hg.out).mono ?_; rintro e w1 ⟨rfl, hb1⟩) | (go_at_call 15; refine (Is_any _ 5 5 _ _ ((Hc n).out.below hb1)).mono ?_; rintro e w' ⟨rfl, rfl⟩))
  go_ret
  exact ⟨rfl, hb0.trans ((below_drewN (Below.refl _ _) n).trans (hb1.mono (by simp)))⟩

theorem Tryd.infoP : ((Tryd.prog.info? 28).map (·.comparable) = some true) ∧ ((Tryd.prog.info? 33).isSome = true) := ⟨by kernel_rfl, by kernel_rfl⟩
theorem Tryd.eqPP (a : Addr) (w : World) : (binOp .eql 24 (.iface 28 (.pointer (some a))) (.iface 28 (.pointer (some a)))).run Tryd.prog w = .ok (.bool true) w := by
  obtain ⟨i, h1, h2⟩ := Option.map_eq_some_iff.1 Tryd.infoP.1
  obtain ⟨j, h3⟩ := Option.isSome_iff_exists.1 Tryd.infoP.2
  exact run_eql_iface_ptr_same w a Tryd.underlying24 Tryd.underlying28 h1 h2 h3

/-- the world behind New, Wrap and 'var p' -/
abbrev W3 (w1 : World) (op : ByteArray) (id code : Int) : World :=
  ((w1.alloc (.cells #[.string op, .int .i64 id, .iface 26 (.int .i64 code)] 33)).alloc (.cells #[.string op, .int .i64 id, .iface 28 (.pointer (some ⟨w1.heap.size, 0, none⟩))] 33)).alloc (.cells #[.pointer none] 28)
theorem w3_below (w1 : World) (op : ByteArray) (id code : Int) : Below w1.heap.size w1 (W3 w1 op id code) := (((Below.refl _ _).alloc (Nat.le_refl _) _).alloc (by simp) _).alloc (by simp; omega) _
theorem w3_a (w1 : World) (op : ByteArray) (id code : Int) : Blk (W3 w1 op id code) w1.heap.size 33 #[.string op, .int .i64 id, .iface 26 (.int .i64 code)] := ((Blk.new _ _ _).alloc _).alloc _
theorem w3_b (w1 : World) (op : ByteArray) (id code : Int) : Blk (W3 w1 op id code) (w1.heap.size + 1) 33 #[.string op, .int .i64 id, .iface 28 (.pointer (some ⟨w1.heap.size, 0, none⟩))] := by
  have h := (Blk.new (w1.alloc (.cells #[.string op, .int .i64 id, .iface 26 (.int .i64 code)] 33)) 33 #[.string op, .int .i64 id, .iface 28 (.pointer (some ⟨w1.heap.size, 0, none⟩))]).alloc (.cells #[.pointer none] 28)
  simpa using h
theorem w3_c (w1 : World) (op : ByteArray) (id code : Int) : Blk (W3 w1 op id code) (w1.heap.size + 1 + 1) 28 #[.pointer none] := by
  have h := Blk.new ((w1.alloc (.cells #[.string op, .int .i64 id, .iface 26 (.int .i64 code)] 33)).alloc (.cells #[.string op, .int .i64 id, .iface 28 (.pointer (some ⟨w1.heap.size, 0, none⟩))] 33)) 28 #[.pointer none]
  simpa using h

set_option maxHeartbeats 2000000 in
theorem one_yes (op : ByteArray) (id code : Int) (w : World) (h1 : 1 ≤ code) (h2 : code ≤ 13) (hs : op.size ≤ 40) (hg : HG w) :
    Calls Tryd.prog 3 #[.string op, .int .i64 id, .int .i64 code] w fun e w' => e = .returned (.bool true) ∧ Q w w' := by
  have h0 : (code == 0) = false := by simp; omega
  have d1 : decide (code < 1) = false := by simp; omega
  have d2 : decide (13 < code) = false := by simp; omega
  have d3 : decide (40 < (op.size : Int)) = false := by simp; omega
  have hpp := Tryd.eqPP
  go_enter Tryd.func3, Tryd.ntmps3
  go_wp2_with (first | (go_at_call 5; refine (awake_any _ hg).mono ?_; rintro e w1 ⟨rfl, hq1⟩; have hb1 : Below w.heap.size w w1 := hq1; clear hq1; have Hg1 := Lib.hid (hg.below hb1)) | (go_at_call 6; refine (New_any _ _ _ _ h0).mono ?_; rintro e w' ⟨rfl, rfl⟩) | (go_at_call 7; refine (Wrap_any _ _ _ _ _).mono ?_; rintro e w' ⟨rfl, rfl⟩))
  refine (As28_hit (w1.heap.size + 1) (w1.heap.size + 1 + 1) _ _ (Hg1.out.below (w3_below w1 op id code)) (w3_c w1 op id code)).mono ?_
  rintro e w2 ⟨rfl, hA⟩
  have hb2 : Below w.heap.size w w2 := (hb1.trans ((w3_below w1 op id code).mono hb1.size)).trans (below_of_only hA.2 (by simp; have := hb1.size; omega) (by have := hb1.size; omega))
  have hka : Blk w2 w1.heap.size 33 #[.string op, .int .i64 id, .iface 26 (.int .i64 code)] := (w3_a w1 op id code).grown hA.2 (by simp; omega)
  have hkb : Blk w2 (w1.heap.size + 1) 33 #[.string op, .int .i64 id, .iface 28 (.pointer (some ⟨w1.heap.size, 0, none⟩))] := (w3_b w1 op id code).grown hA.2 (by simp)
  have hc0 := hA.1.cell 0
  have ha2 := hka.cell 2
  have hbb0 := hkb.cell 0
  have hbb1 := hkb.cell 1
  have hbb2 := hkb.cell 2
  simp only [List.getElem?_toArray, List.getElem?_cons_zero, List.getElem?_cons_succ] at hc0 ha2 hbb0 hbb1 hbb2
  have Hch : Hid (Ch w2 [(w1.heap.size + 1, op, id), (w1.heap.size, op, id)] code (.iface 28 (.pointer (some ⟨w1.heap.size + 1, 0, none⟩)))) := Lib.hid ⟨_, rfl, hkb, _, rfl, hka, rfl⟩
  have Hg2 : Hid (HG w2) := Lib.hid (hg.below hb2)
  clear hka hkb hA
  go_wp2_with (first | (go_at_call 9; (with_reducible refine (Unwrap9_any _ _ _ hbb2).mono ?_); rintro e w' ⟨rfl, rfl⟩) | (go_at_call 9; (with_reducible refine (Unwrap9_any _ _ _ ha2).mono ?_); rintro e w' ⟨rfl, rfl⟩) | (go_at_call 10; refine (Deep_any _ _ _ _ (by simp) Hch.out Hg2.out).mono ?_; rintro e w' ⟨rfl, hb3⟩))
  go_ret
  exact ⟨rfl, hb2.trans (hb3.mono hb2.size)⟩

theorem one_low (op : ByteArray) (id code : Int) (w : World) (h1 : code < 1) (hg : HG w) :
    Calls Tryd.prog 3 #[.string op, .int .i64 id, .int .i64 code] w fun e w' => e = .returned (.bool true) ∧ Q w w' := by
  have d1 : decide (code < 1) = true := by simp; omega
  go_enter Tryd.func3, Tryd.ntmps3
  go_wp2_with (go_at_call 5; refine (awake_any _ hg).mono ?_; rintro e w1 ⟨rfl, hq1⟩)
  go_ret
  exact ⟨rfl, hq1⟩
theorem one_high (op : ByteArray) (id code : Int) (w : World) (h1 : 1 ≤ code) (h2 : 13 < code) (hg : HG w) :
    Calls Tryd.prog 3 #[.string op, .int .i64 id, .int .i64 code] w fun e w' => e = .returned (.bool true) ∧ Q w w' := by
  have d1 : decide (code < 1) = false := by simp; omega
  have d2 : decide (13 < code) = true := by simp; omega
  go_enter Tryd.func3, Tryd.ntmps3
  go_wp2_with (go_at_call 5; refine (awake_any _ hg).mono ?_; rintro e w1 ⟨rfl, hq1⟩)
  go_ret
  exact ⟨rfl, hq1⟩
theorem one_long (op : ByteArray) (id code : Int) (w : World) (h1 : 1 ≤ code) (h2 : code ≤ 13) (hs : 40 < op.size) (hg : HG w) :
    Calls Tryd.prog 3 #[.string op, .int .i64 id, .int .i64 code] w fun e w' => e = .returned (.bool true) ∧ Q w w' := by
  have d1 : decide (code < 1) = false := by simp; omega
  have d2 : decide (13 < code) = false := by simp; omega
  have d3 : decide (40 < (op.size : Int)) = true := by simp; omega
  go_enter Tryd.func3, Tryd.ntmps3
  go_wp2_with (go_at_call 5; refine (awake_any _ hg).mono ?_; rintro e w1 ⟨rfl, hq1⟩)
  go_ret
  exact ⟨rfl, hq1⟩
theorem one_any (op : ByteArray) (id code : Int) (w : World) (hg : HG w) :
    Calls Tryd.prog 3 #[.string op, .int .i64 id, .int .i64 code] w fun e w' => e = .returned (.bool true) ∧ Q w w' := by
  by_cases h1 : code < 1
  · exact one_low op id code w h1 hg
  by_cases h2 : 13 < code
  · exact one_high op id code w (by omega) h2 hg
  by_cases h3 : 40 < op.size
  · exact one_long op id code w (by omega) (by omega) h3 hg
  exact one_yes op id code w (by omega) (by omega) (by omega) hg
end Go.Proofs.YtiomngaeeephhaaDoor
