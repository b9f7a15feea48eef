/- Own text for the seat: W3. -/
import Derived.Test.YtpmghonehgnjlaaGreatW2
set_option linter.unusedVariables false
set_option linter.unusedSimpArgs false
set_option linter.unnecessarySimpa false
set_option linter.deprecated false
set_option maxRecDepth 100000
namespace Go.Gb
open Go.Proofs

/-! gabion/ring.Open -/
def ring_Open.H : Hn := ⟨[43], [], [⟨10, .q 0 (.q 1 (.q 2 (.q 3 (.q 4 (.q 5 (.q 6 (.q 7 (.nil)))))))), [43]⟩, ⟨11, .q 0 (.q 1 (.q 2 (.q 4 (.q 5 (.q 3 (.q 6 (.q 7 (.nil)))))))), []⟩], []⟩
def ring_Open.lc : List Cut := []
def ring_Open.rc : List Cut := []
def ring_Open.wp (d : Option Addr) (p_0 : Int) (p_1 : Int) (p_2 : Int) (p_3 : Int) (h : Heap) (Q : Value → Heap → Prop) : Prop :=
 C Tryz.prog 29 #[.pointer d, .agg #[.int .i64 p_0, .int .i64 p_1, .int .i64 p_2, .int .i64 p_3]] h fun (r : Value) (h' : Heap) =>
 ∃ (x : Int),
 r = .int .i64 x ∧
 xsIf (decide (x ≠ 0)) (Q (.tuple #[.pointer none, .int .i64 x]) h')
 (C Tryz.prog 31 #[.agg #[.int .i64 p_0, .int .i64 p_1, .int .i64 p_2, .int .i64 p_3]] h' fun (r : Value) (h' : Heap) =>
 ∃ (x : Int),
 ∃ (x_1 : Int),
 ∃ (x_2 : Int),
 r = .agg #[.int .i64 x, .int .i64 x_1, .int .i64 x_2] ∧
 C Tryz.prog 32 #[.pointer d, .agg #[.int .i64 x, .int .i64 x_1, .int .i64 x_2]] h' fun (r : Value) (h' : Heap) =>
 ∃ (x : Option Addr),
 ∃ (x_3 : Int),
 r = .tuple #[.pointer x, .int .i64 x_3] ∧
 xsIf (decide (x_3 ≠ 0)) (Q (.tuple #[.pointer none, .int .i64 x_3]) h')
 (C Tryz.prog 34 #[.agg #[.int .i64 p_0, .int .i64 p_1, .int .i64 p_2, .int .i64 p_3]] h' fun (r : Value) (h' : Heap) =>
 ∃ (x_4 : Int),
 r = .int .i64 x_4 ∧
 C Tryz.prog 38 #[.pointer x, .int .i64 x_4] h' fun (r : Value) (h' : Heap) =>
 ∃ (x_5 : ByteArray),
 ∃ (x_6 : Int),
 r = .tuple #[.string x_5, .int .i64 x_6] ∧
 xsIf (decide (x_6 ≠ 0)) (Q (.tuple #[.pointer none, .int .i64 x_6]) h')
 (C Tryz.prog 40 #[.string x_5] h' fun (r : Value) (h' : Heap) =>
 ∃ (x_7 : Int),
 r = .int .u64 x_7 ∧
 C Tryz.prog 39 #[.int .u64 x_7] h' fun (r : Value) (h' : Heap) =>
 ∃ (x_8 : Int),
 ∃ (x_9 : Int),
 ∃ (x_10 : Int),
 r = .agg #[.int .i64 x_8, .int .i64 x_9, .int .u32 x_10] ∧
 ∀ (b : Nat),
 h' b = none →
 atBase (some { block := b, off := 0 }) fun (b_1 o : Nat) =>
 ∃ (x_11 : Int),
 (upd h' b
 (Obj.cells
 #[.int .i64 p_0, .int .i64 p_1, .int .i64 p_2, .int .i64 p_3, .pointer x, .int .i64 x_8,
 .int .i64 x_9, .int .u32 x_10, .int .i64 0]
 98 (0, 0))).cell
 b_1 (o + 5) =
 some (.int .i64 x_11) ∧
 ∃ (x_12 : Int),
 (upd h' b
 (Obj.cells
 #[.int .i64 p_0, .int .i64 p_1, .int .i64 p_2, .int .i64 p_3, .pointer x, .int .i64 x_8,
 .int .i64 x_9, .int .u32 x_10, .int .i64 0]
 98 (0, 0))).cell
 b_1 (o + 5 + 1) =
 some (.int .i64 x_12) ∧
 ∃ (x_13 : Int),
 (upd h' b
 (Obj.cells
 #[.int .i64 p_0, .int .i64 p_1, .int .i64 p_2, .int .i64 p_3, .pointer x,
 .int .i64 x_8, .int .i64 x_9, .int .u32 x_10, .int .i64 0]
 98 (0, 0))).cell
 b_1 (o + 5 + 1 + 1) =
 some (.int .u32 x_13) ∧
 C Tryz.prog 41
 #[.agg #[.int .i64 x_11, .int .i64 x_12, .int .u32 x_13], .int .i64 p_1]
 (upd h' b
 (Obj.cells
 #[.int .i64 p_0, .int .i64 p_1, .int .i64 p_2, .int .i64 p_3, .pointer x, .int .i64 x_8,
 .int .i64 x_9, .int .u32 x_10, .int .i64 0]
 98 (0, 0)))
 fun (r : Value) (h' : Heap) =>
 ∃ (x : Bool),
 r = .bool x ∧
 xsIf (!x) (Q (.tuple #[.pointer none, .int .i64 4]) h')
 (Q (.tuple #[.pointer (some { block := b, off := 0 }), .int .i64 0]) h'))))
theorem ring_Open.ok {d : Option Addr} {p_0 : Int} {p_1 : Int} {p_2 : Int} {p_3 : Int} {h : Heap} {Q : Value → Heap → Prop} (hk : ring_Open.wp d p_0 p_1 p_2 p_3 h Q) : C Tryz.prog 11 #[.pointer d, .agg #[.int .i64 p_0, .int .i64 p_1, .int .i64 p_2, .int .i64 p_3]] h Q :=
 C_of_xs (H := ring_Open.H) (lcuts := ring_Open.lc) (rcuts := ring_Open.rc) (l := [.pointer d, .agg #[.int .i64 p_0, .int .i64 p_1, .int .i64 p_2, .int .i64 p_3]]) 2000 mixed Tryz.func11 rfl (by kernel_rfl) (@cast (ring_Open.wp d p_0 p_1 p_2 p_3 h Q) _ (by kernel_rfl) hk)

/-! gabion/gabionlaw07.pair -/
def gabionlaw07_pair.H : Hn := ⟨[], [], [⟨1, .q 0 (.q 3 (.q 4 (.q 1 (.q 2 (.q 5 (.q 6 (.q 7 (.nil)))))))), []⟩], []⟩
def gabionlaw07_pair.lc : List Cut := []
def gabionlaw07_pair.rc : List Cut := []
def gabionlaw07_pair.wp (p_0 : Int) (p_1 : Int) (p_2 : Int) (p_3 : Int) (h : Heap) (Q : Value → Heap → Prop) : Prop :=
 C Tryz.prog 53 #[.agg #[.int .i64 p_0, .int .i64 p_1, .int .i64 p_2, .int .i64 p_3]] h fun (r : Value) (h' : Heap) =>
 ∃ (x : Int),
 ∃ (x_1 : Int),
 ∃ (x_2 : Int),
 r = .agg #[.int .i64 x, .int .i64 x_1, .int .i64 x_2] ∧
 C Tryz.prog 52 #[.agg #[.int .i64 x, .int .i64 x_1, .int .i64 x_2]] h' fun (r : Value) (h' : Heap) =>
 ∃ (x : Int),
 r = .int .i64 x ∧
 C Tryz.prog 8 #[.int .i64 (IntKind.i64.wrap (IntKind.i64.wrap (x + p_0) + 1))] h' fun (r : Value) (h' : Heap) =>
 ∃ (x_3 : Option Addr),
 ∃ (x_4 : Int),
 r = .tuple #[.pointer x_3, .int .i64 x_4] ∧
 C Tryz.prog 54 #[.int .i64 (IntKind.i64.wrap (IntKind.i64.wrap (x + p_0) + 1))] h' fun (r : Value) (h' : Heap) =>
 ∃ (x : Option Addr),
 r = .pointer x ∧
 C Tryz.prog 9 #[.pointer x_3, .agg #[.int .i64 p_0, .int .i64 p_1, .int .i64 p_2, .int .i64 p_3]] h'
 fun (r : Value) (h' : Heap) =>
 ∃ (x_5 : Int),
 r = .int .i64 x_5 ∧
 C Tryz.prog 55 #[.pointer x, .agg #[.int .i64 p_0, .int .i64 p_1, .int .i64 p_2, .int .i64 p_3]] h'
 fun (r : Value) (h' : Heap) =>
 ∃ (x_6 : Int),
 r = .int .i64 x_6 ∧
 C Tryz.prog 11 #[.pointer x_3, .agg #[.int .i64 p_0, .int .i64 p_1, .int .i64 p_2, .int .i64 p_3]] h'
 fun (r : Value) (h' : Heap) =>
 ∃ (x_7 : Option Addr),
 ∃ (x_8 : Int),
 r = .tuple #[.pointer x_7, .int .i64 x_8] ∧
 xsIf (decide (x_4 = 0))
 (xsIf (decide (x_5 = 0))
 (xsIf (decide (x_8 = 0)) (Q (.tuple #[.pointer x_3, .pointer x_7, .pointer x, .bool !x_7.isNone]) h')
 (Q (.tuple #[.pointer x_3, .pointer x_7, .pointer x, .bool false]) h'))
 (Q (.tuple #[.pointer x_3, .pointer x_7, .pointer x, .bool false]) h'))
 (Q (.tuple #[.pointer x_3, .pointer x_7, .pointer x, .bool false]) h')
theorem gabionlaw07_pair.ok {p_0 : Int} {p_1 : Int} {p_2 : Int} {p_3 : Int} {h : Heap} {Q : Value → Heap → Prop} (hk : gabionlaw07_pair.wp p_0 p_1 p_2 p_3 h Q) : C Tryz.prog 22 #[.agg #[.int .i64 p_0, .int .i64 p_1, .int .i64 p_2, .int .i64 p_3]] h Q :=
 C_of_xs (H := gabionlaw07_pair.H) (lcuts := gabionlaw07_pair.lc) (rcuts := gabionlaw07_pair.rc) (l := [.agg #[.int .i64 p_0, .int .i64 p_1, .int .i64 p_2, .int .i64 p_3]]) 2000 mixed Tryz.func22 rfl (by kernel_rfl) (@cast (gabionlaw07_pair.wp p_0 p_1 p_2 p_3 h Q) _ (by kernel_rfl) hk)

/-! (*gabion/ring.Ring).State -/
def ring_Ring_State.H : Hn := ⟨[], [], [], []⟩
def ring_Ring_State.lc : List Cut := []
def ring_Ring_State.rc : List Cut := []
def ring_Ring_State.wp (r0 : Option Addr) (h : Heap) (Q : Value → Heap → Prop) : Prop :=
 xsIf r0.isNone (Q (.agg #[.int .i64 0, .int .i64 0, .int .u32 0]) h)
 (atBase r0 fun (b o : Nat) =>
 ∃ (x : Int),
 h.cell b (o + 5) = some (.int .i64 x) ∧
 ∃ (x_1 : Int),
 h.cell b (o + 5 + 1) = some (.int .i64 x_1) ∧
 ∃ (x_2 : Int), h.cell b (o + 5 + 1 + 1) = some (.int .u32 x_2) ∧ Q (.agg #[.int .i64 x, .int .i64 x_1, .int .u32 x_2]) h)
theorem ring_Ring_State.ok {r0 : Option Addr} {h : Heap} {Q : Value → Heap → Prop} (hk : ring_Ring_State.wp r0 h Q) : C Tryz.prog 12 #[.pointer r0] h Q :=
 C_of_xs (H := ring_Ring_State.H) (lcuts := ring_Ring_State.lc) (rcuts := ring_Ring_State.rc) (l := [.pointer r0]) 2000 mixed Tryz.func12 rfl (by kernel_rfl) (@cast (ring_Ring_State.wp r0 h Q) _ (by kernel_rfl) hk)

/-! gabion/gabionlaw07.full -/
def gabionlaw07_full.H : Hn := ⟨[], [], [], []⟩
def gabionlaw07_full.lc : List Cut := []
def gabionlaw07_full.rc : List Cut := []
def gabionlaw07_full.wp (s : ByteArray) (h : Heap) (Q : Value → Heap → Prop) : Prop :=
 C Tryz.prog 45 #[.string { data := #[UInt8.ofNat 0] }, .int .i64 64] h fun (r : Value) (h' : Heap) =>
 ∃ (x : ByteArray), r = .string x ∧ (↑(s.size + x.size) : Int) ≤ 9223372036854775807 ∧ ((0 : Int) ≤ 64 ∧ (64 : Int) ≤ (↑(s ++ x).size : Int)) ∧ Q (.string (sext (s ++ x) 0 64)) h'
theorem gabionlaw07_full.ok {s : ByteArray} {h : Heap} {Q : Value → Heap → Prop} (hk : gabionlaw07_full.wp s h Q) : C Tryz.prog 14 #[.string s] h Q :=
 C_of_xs (H := gabionlaw07_full.H) (lcuts := gabionlaw07_full.lc) (rcuts := gabionlaw07_full.rc) (l := [.string s]) 2000 mixed Tryz.func14 rfl (by kernel_rfl) (@cast (gabionlaw07_full.wp s h Q) _ (by kernel_rfl) hk)

/-! (*gabion/spare.Bank).Write -/
def spare_Bank_Write.H : Hn := ⟨[], [], [], []⟩
def spare_Bank_Write.lc : List Cut := []
def spare_Bank_Write.rc : List Cut := []
def spare_Bank_Write.wp (b : Option Addr) (i : Int) (s : ByteArray) (h : Heap) (Q : Value → Heap → Prop) : Prop :=
 C Tryz.prog 81 #[.pointer b, .int .i64 i] h fun (r : Value) (h' : Heap) =>
 ∃ (x : Int),
 ∃ (x_1 : Int),
 r = .tuple #[.int .i64 x, .int .i64 x_1] ∧
 xsIf (decide (x_1 = 1)) (Q (.int .i64 x_1) h')
 (xsIf (decide ((↑s.size : Int) ≠ 64)) (Q (.int .i64 2) h')
 (xsIf (decide (x_1 ≠ 0)) (Q (.int .i64 x_1) h')
 (atBase b fun (b_1 o : Nat) =>
 ∃ (x_2 : Option Addr),
 h'.cell b_1 (o + 0) = some (.pointer x_2) ∧
 C Tryz.prog 78 #[.pointer x_2, .int .i64 x, .string s] h' fun (r : Value) (h' : Heap) =>
 ∃ (x_3 : Int),
 r = .int .i64 x_3 ∧
 xsIf (decide (x_3 ≠ 0)) (Q (.int .i64 x_3) h')
 (atBase b fun (b_2 o : Nat) =>
 ∃ (x_4 : Option Addr),
 h'.cell b_2 (o + 0) = some (.pointer x_4) ∧
 C Tryz.prog 56 #[.pointer x_4, .int .i64 x, .string s] h' fun (r : Value) (h' : Heap) =>
 ∃ (x : Bool),
 r = .bool x ∧
 xsIf x (Q (.int .i64 0) h')
 (C Tryz.prog 85 #[.pointer b, .int .i64 i, .string s] h' fun (r : Value) (h' : Heap) =>
 ∃ (x : Int), r = .int .i64 x ∧ Q (.int .i64 x) h')))))
theorem spare_Bank_Write.ok {b : Option Addr} {i : Int} {s : ByteArray} {h : Heap} {Q : Value → Heap → Prop} (hk : spare_Bank_Write.wp b i s h Q) : C Tryz.prog 44 #[.pointer b, .int .i64 i, .string s] h Q :=
 C_of_xs (H := spare_Bank_Write.H) (lcuts := spare_Bank_Write.lc) (rcuts := spare_Bank_Write.rc) (l := [.pointer b, .int .i64 i, .string s]) 2000 mixed Tryz.func44 rfl (by kernel_rfl) (@cast (spare_Bank_Write.wp b i s h Q) _ (by kernel_rfl) hk)

/-! (*gabion/ring.Ring).Write$1 -/
def ring_Ring_Write_1.H : Hn := ⟨[], [], [⟨1, .q 4 (.ld 0 206 (.q 1 (.q 2 (.ld 3 192 (.q 5 (.q 6 (.q 7 (.nil)))))))), []⟩], []⟩
def ring_Ring_Write_1.lc : List Cut := []
def ring_Ring_Write_1.rc : List Cut := []
def ring_Ring_Write_1.wp (slot : Int) (t1 : Nat) (t2 : Nat) (h : Heap) (Q : Value → Heap → Prop) : Prop :=
 ∃ (x : Option Addr),
 h.cell t1 0 = some (.pointer x) ∧
 atBase x fun (b o : Nat) =>
 ∃ (x : Option Addr),
 h.cell b (o + 4) = some (.pointer x) ∧
 ∃ (x_1 : ByteArray),
 h.cell t2 0 = some (.string x_1) ∧
 C Tryz.prog 44 #[.pointer x, .int .i64 slot, .string x_1] h fun (r : Value) (h' : Heap) => ∃ (x : Int), r = .int .i64 x ∧ Q (.int .i64 x) h'
theorem ring_Ring_Write_1.ok {slot : Int} {t1 : Nat} {t2 : Nat} {h : Heap} {Q : Value → Heap → Prop} (hk : ring_Ring_Write_1.wp slot t1 t2 h Q) : C Tryz.prog 43 #[.int .i64 slot, .pointer (some ⟨t1, 0, none⟩), .pointer (some ⟨t2, 0, none⟩)] h Q :=
 C_of_xs (H := ring_Ring_Write_1.H) (lcuts := ring_Ring_Write_1.lc) (rcuts := ring_Ring_Write_1.rc) (l := [.int .i64 slot, .pointer (some ⟨t1, 0, none⟩), .pointer (some ⟨t2, 0, none⟩)]) 2000 mixed Tryz.func43 rfl (by kernel_rfl) (@cast (ring_Ring_Write_1.wp slot t1 t2 h Q) _ (by kernel_rfl) hk)

/-! (gabion/gap.State).Slot -/
def gap_State_Slot.H : Hn := ⟨[], [], [], []⟩
def gap_State_Slot.lc : List Cut := []
def gap_State_Slot.rc : List Cut := [⟨3, [1, 2, 3], [3]⟩]
def gap_State_Slot.J3 (n : Int) (i : Int) (s_3_0 : Int) (s_3_1 : Int) (s_3_2 : Int) (h : Heap) (Q : Value → Heap → Prop) : Prop :=
 TW Tryz.prog 15 34 [.code (cAt (bodyOf Tryz.f15) [1, 1, 0]), .code (cAt (bodyOf Tryz.f15) [1, 1, 1])] ⟨[(1, .v (.int .i64 n)), (2, .v (.int .i64 i)), (3, .p 3 0)], [(3, [.int .i64 s_3_0, .int .i64 s_3_1, .int .u32 s_3_2])]⟩ h Q
def gap_State_Slot.wp (s_0 : Int) (s_1 : Int) (s_2 : Int) (n : Int) (i : Int) (h : Heap) (Q : Value → Heap → Prop) : Prop :=
 C Tryz.prog 41 #[.agg #[.int .i64 s_0, .int .i64 s_1, .int .u32 s_2], .int .i64 n] h fun (r : Value) (h' : Heap) =>
 ∃ (x : Bool),
 r = .bool x ∧ xsIf (!x) (Q (.int .i64 (-1)) h') (xsIf (decide (i < 0)) (Q (.int .i64 (-1)) h') (xsIf (decide (n ≤ i)) (Q (.int .i64 (-1)) h') (gap_State_Slot.J3 n i s_0 s_1 s_2 h' Q)))
def gap_State_Slot.J3.wp (n : Int) (i : Int) (s_3_0 : Int) (s_3_1 : Int) (s_3_2 : Int) (h : Heap) (Q : Value → Heap → Prop) : Prop :=
 n ≠ 0 ∧ xsIf (decide (s_3_1 ≤ irem (IntKind.i64.wrap (i + s_3_0)) n)) (Q (.int .i64 (IntKind.i64.wrap (irem (IntKind.i64.wrap (i + s_3_0)) n + 1))) h) (Q (.int .i64 (irem (IntKind.i64.wrap (i + s_3_0)) n)) h)
theorem gap_State_Slot.ok {s_0 : Int} {s_1 : Int} {s_2 : Int} {n : Int} {i : Int} {h : Heap} {Q : Value → Heap → Prop} (hk : gap_State_Slot.wp s_0 s_1 s_2 n i h Q) : C Tryz.prog 15 #[.agg #[.int .i64 s_0, .int .i64 s_1, .int .u32 s_2], .int .i64 n, .int .i64 i] h Q :=
 C_of_xs (H := gap_State_Slot.H) (lcuts := gap_State_Slot.lc) (rcuts := gap_State_Slot.rc) (l := [.agg #[.int .i64 s_0, .int .i64 s_1, .int .u32 s_2], .int .i64 n, .int .i64 i]) 2000 mixed Tryz.func15 rfl (by kernel_rfl) (@cast (gap_State_Slot.wp s_0 s_1 s_2 n i h Q) _ (by kernel_rfl) hk)
theorem gap_State_Slot.J3.ok {n : Int} {i : Int} {s_3_0 : Int} {s_3_1 : Int} {s_3_2 : Int} {h : Heap} {Q : Value → Heap → Prop} (hk : gap_State_Slot.J3.wp n i s_3_0 s_3_1 s_3_2 h Q) : gap_State_Slot.J3 n i s_3_0 s_3_1 s_3_2 h Q :=
 xs_ok (H := gap_State_Slot.H) (lcuts := gap_State_Slot.lc) (rcuts := []) (fn := Tryz.f15) mixed Tryz.func15 2000 _ _ _ (@cast (gap_State_Slot.J3.wp n i s_3_0 s_3_1 s_3_2 h Q) _ (by kernel_rfl) hk)

/-! (*gabion/ring.Ring).slot -/
def ring_Ring_slot.H : Hn := ⟨[], [], [⟨5, .q 0 (.q 1 (.q 2 (.q 4 (.q 5 (.q 6 (.q 7 (.q 9 (.ld 3 7168 (.q 8 (.q 10 (.q 11 (.q 12 (.nil))))))))))))), []⟩], []⟩
def ring_Ring_slot.lc : List Cut := []
def ring_Ring_slot.rc : List Cut := []
def ring_Ring_slot.wp (r0 : Option Addr) (i : Int) (h : Heap) (Q : Value → Heap → Prop) : Prop :=
 xsIf r0.isNone (Q (.tuple #[.int .i64 0, .int .i64 1]) h)
 (xsIf (decide (i < 0)) (Q (.tuple #[.int .i64 0, .int .i64 3]) h)
 (atBase r0 fun (b o : Nat) =>
 ∃ (x : Int),
 h.cell b (o + 0 + 1) = some (.int .i64 x) ∧
 xsIf (decide (x ≤ i)) (Q (.tuple #[.int .i64 0, .int .i64 3]) h)
 (atBase r0 fun (b o : Nat) =>
 atBase r0 fun (b_1 o_1 : Nat) =>
 ∃ (x : Int),
 h.cell b (o + 5) = some (.int .i64 x) ∧
 ∃ (x_1 : Int),
 h.cell b (o + 5 + 1) = some (.int .i64 x_1) ∧
 ∃ (x_2 : Int),
 h.cell b (o + 5 + 1 + 1) = some (.int .u32 x_2) ∧
 ∃ (x_3 : Int),
 h.cell b_1 (o_1 + 0 + 1) = some (.int .i64 x_3) ∧
 C Tryz.prog 15 #[.agg #[.int .i64 x, .int .i64 x_1, .int .u32 x_2], .int .i64 x_3, .int .i64 i] h
 fun (r : Value) (h' : Heap) => ∃ (x : Int), r = .int .i64 x ∧ Q (.tuple #[.int .i64 x, .int .i64 0]) h')))
theorem ring_Ring_slot.ok {r0 : Option Addr} {i : Int} {h : Heap} {Q : Value → Heap → Prop} (hk : ring_Ring_slot.wp r0 i h Q) : C Tryz.prog 47 #[.pointer r0, .int .i64 i] h Q :=
 C_of_xs (H := ring_Ring_slot.H) (lcuts := ring_Ring_slot.lc) (rcuts := ring_Ring_slot.rc) (l := [.pointer r0, .int .i64 i]) 2000 mixed Tryz.func47 rfl (by kernel_rfl) (@cast (ring_Ring_slot.wp r0 i h Q) _ (by kernel_rfl) hk)

/-! (gabion/gap.State).Next -/
def gap_State_Next.H : Hn := ⟨[], [], [⟨5, .q 0 (.q 1 (.q 2 (.q 3 (.q 4 (.q 5 (.q 6 (.q 7 (.q 8 (.nil))))))))), [4]⟩], []⟩
def gap_State_Next.lc : List Cut := []
def gap_State_Next.rc : List Cut := []
def gap_State_Next.wp (s_0 : Int) (s_1 : Int) (s_2 : Int) (n : Int) (h : Heap) (Q : Value → Heap → Prop) : Prop :=
 C Tryz.prog 41 #[.agg #[.int .i64 s_0, .int .i64 s_1, .int .u32 s_2], .int .i64 n] h fun (r : Value) (h' : Heap) =>
 ∃ (x : Bool),
 r = .bool x ∧
 xsIf (!x) (Q (.tuple #[.agg #[.int .i64 0, .int .i64 0, .int .u32 0], .int .i64 0, .int .i64 0]) h')
 (xsIf (decide (0 < s_1))
 (Q
 (.tuple
 #[.agg #[.int .i64 s_0, .int .i64 (IntKind.i64.wrap (s_1 - 1)), .int .u32 (IntKind.u32.wrap (s_2 + 1))], .int .i64 (IntKind.i64.wrap (s_1 - 1)),
 .int .i64 s_1])
 h')
 (n ≠ 0 ∧
 Q
 (.tuple
 #[.agg #[.int .i64 (irem (IntKind.i64.wrap (s_0 + 1)) n), .int .i64 n, .int .u32 (IntKind.u32.wrap (s_2 + 1))], .int .i64 n, .int .i64 0])
 h'))
theorem gap_State_Next.ok {s_0 : Int} {s_1 : Int} {s_2 : Int} {n : Int} {h : Heap} {Q : Value → Heap → Prop} (hk : gap_State_Next.wp s_0 s_1 s_2 n h Q) : C Tryz.prog 130 #[.agg #[.int .i64 s_0, .int .i64 s_1, .int .u32 s_2], .int .i64 n] h Q :=
 C_of_xs (H := gap_State_Next.H) (lcuts := gap_State_Next.lc) (rcuts := gap_State_Next.rc) (l := [.agg #[.int .i64 s_0, .int .i64 s_1, .int .u32 s_2], .int .i64 n]) 2000 mixed Tryz.func130 rfl (by kernel_rfl) (@cast (gap_State_Next.wp s_0 s_1 s_2 n h Q) _ (by kernel_rfl) hk)

/-! (*gabion/ring.Ring).move -/
def ring_Ring_move.H : Hn := ⟨[], [], [⟨1, .q 0 (.q 1 (.q 2 (.q 4 (.q 5 (.q 6 (.q 7 (.ld 3 245248 (.ld 8 245248 (.br 9 (.q 10 (.q 11 (.q 12 (.q 13 (.q 14 (.q 15 (.q 16 (.q 17 (.nil))))))))) (.one 14 (.q 9 (.q 10 (.q 11 (.q 12 (.q 13 (.q 15 (.q 16 (.q 17 (.nil))))))))))))))))))), [3]⟩, ⟨8, .q 0 (.q 1 (.q 2 (.q 4 (.q 5 (.q 6 (.q 9 (.ld 7 7424 (.br 3 (.q 8 (.q 10 (.q 11 (.q 12 (.nil))))) (.one 8 (.br 3 (.q 10 (.q 11 (.q 12 (.nil)))) (.one 10 (.q 3 (.q 11 (.q 12 (.nil))))))))))))))), []⟩], []⟩
def ring_Ring_move.lc : List Cut := []
def ring_Ring_move.rc : List Cut := []
def ring_Ring_move.wp (r0 : Option Addr) (h : Heap) (Q : Value → Heap → Prop) : Prop :=
 atBase r0 fun (b o : Nat) =>
 atBase r0 fun (b_1 o_1 : Nat) =>
 ∃ (x : Int),
 h.cell b (o + 5) = some (.int .i64 x) ∧
 ∃ (x_1 : Int),
 h.cell b (o + 5 + 1) = some (.int .i64 x_1) ∧
 ∃ (x_2 : Int),
 h.cell b (o + 5 + 1 + 1) = some (.int .u32 x_2) ∧
 ∃ (x_3 : Int),
 h.cell b_1 (o_1 + 0 + 1) = some (.int .i64 x_3) ∧
 (C Tryz.prog 130 #[.agg #[.int .i64 x, .int .i64 x_1, .int .u32 x_2], .int .i64 x_3] h fun (r : Value) (h' : Heap) =>
 ∃ (x : Int),
 ∃ (x_4 : Int),
 ∃ (x_5 : Int),
 ∃ (x_6 : Int),
 ∃ (x_7 : Int),
 r = .tuple #[.agg #[.int .i64 x, .int .i64 x_4, .int .u32 x_5], .int .i64 x_6, .int .i64 x_7] ∧
 atBase r0 fun (b o : Nat) =>
 ∃ (x_8 : Option Addr),
 h'.cell b (o + 4) = some (.pointer x_8) ∧
 C Tryz.prog 38 #[.pointer x_8, .int .i64 x_6] h' fun (r : Value) (h' : Heap) =>
 ∃ (x_9 : ByteArray),
 ∃ (x_10 : Int),
 r = .tuple #[.string x_9, .int .i64 x_10] ∧
 xsIf (decide (x_10 ≠ 0)) (Q (.int .i64 x_10) h')
 (atBase r0 fun (b o : Nat) =>
 ∃ (x_11 : Option Addr),
 h'.cell b (o + 4) = some (.pointer x_11) ∧
 C Tryz.prog 44 #[.pointer x_11, .int .i64 x_7, .string x_9] h' fun (r : Value) (h' : Heap) =>
 ∃ (x_12 : Int),
 r = .int .i64 x_12 ∧
 xsIf (decide (x_12 ≠ 0)) (Q (.int .i64 x_12) h')
 (atBase r0 fun (b o : Nat) =>
 atBase r0 fun (b_2 o_2 : Nat) =>
 ∃ (x_13 : Int),
 h'.cell b_2 (o_2 + 0) = some (.int .i64 x_13) ∧
 ∃ (x_14 : Int),
 h'.cell b_2 (o_2 + 0 + 1) = some (.int .i64 x_14) ∧
 ∃ (x_15 : Int),
 h'.cell b_2 (o_2 + 0 + 1 + 1) = some (.int .i64 x_15) ∧
 ∃ (x_16 : Int),
 h'.cell b_2 (o_2 + 0 + 1 + 1 + 1) = some (.int .i64 x_16) ∧
 (∃ (x_17 : Option Addr),
 h'.cell b (o + 4) = some (.pointer x_17) ∧
 C Tryz.prog 34
 #[.agg #[.int .i64 x_13, .int .i64 x_14, .int .i64 x_15, .int .i64 x_16]]
 h' fun (r : Value) (h' : Heap) =>
 ∃ (x_18 : Int),
 r = .int .i64 x_18 ∧
 C Tryz.prog 36 #[.agg #[.int .i64 x, .int .i64 x_4, .int .u32 x_5]] h'
 fun (r : Value) (h' : Heap) =>
 ∃ (x_19 : Int),
 r = .int .u64 x_19 ∧
 C Tryz.prog 33 #[.pointer x_17, .int .i64 x_18, .int .i64 0, .int .u64 x_19] h'
 fun (r : Value) (h' : Heap) =>
 ∃ (x_20 : Int),
 r = .int .i64 x_20 ∧
 xsIf (decide (x_20 ≠ 0)) (Q (.int .i64 x_20) h')
 (atBase r0 fun (b o : Nat) =>
 h'.can b (o + 5) 3 ∧
 atBase r0 fun (b_3 o_3 : Nat) =>
 (h'.put b (o + 5) [.int .i64 x, .int .i64 x_4, .int .u32 x_5]).can b_3 (o_3 + 8) 1 ∧
 Q (.int .i64 0)
 ((h'.put b (o + 5) [.int .i64 x, .int .i64 x_4, .int .u32 x_5]).put b_3 (o_3 + 8)
 [.int .i64 0]))) ∧
 C Tryz.prog 34
 #[.agg #[.int .i64 x_13, .int .i64 x_14, .int .i64 x_15, .int .i64 x_16]]
 h' fun (r : Value) (h' : Heap) =>
 ∃ (x_17 : Int),
 r = .int .i64 x_17 ∧
 (∃ (x_18 : Option Addr),
 h'.cell b (o + 4) = some (.pointer x_18) ∧
 C Tryz.prog 36 #[.agg #[.int .i64 x, .int .i64 x_4, .int .u32 x_5]] h'
 fun (r : Value) (h' : Heap) =>
 ∃ (x_19 : Int),
 r = .int .u64 x_19 ∧
 C Tryz.prog 33 #[.pointer x_18, .int .i64 x_17, .int .i64 0, .int .u64 x_19] h'
 fun (r : Value) (h' : Heap) =>
 ∃ (x_20 : Int),
 r = .int .i64 x_20 ∧
 xsIf (decide (x_20 ≠ 0)) (Q (.int .i64 x_20) h')
 (atBase r0 fun (b o : Nat) =>
 h'.can b (o + 5) 3 ∧
 atBase r0 fun (b_3 o_3 : Nat) =>
 (h'.put b (o + 5) [.int .i64 x, .int .i64 x_4, .int .u32 x_5]).can b_3 (o_3 + 8) 1 ∧
 Q (.int .i64 0)
 ((h'.put b (o + 5) [.int .i64 x, .int .i64 x_4, .int .u32 x_5]).put b_3
 (o_3 + 8) [.int .i64 0]))) ∧
 C Tryz.prog 36 #[.agg #[.int .i64 x, .int .i64 x_4, .int .u32 x_5]] h'
 fun (r : Value) (h' : Heap) =>
 ∃ (x_18 : Int),
 r = .int .u64 x_18 ∧
 ∃ (x_19 : Option Addr),
 h'.cell b (o + 4) = some (.pointer x_19) ∧
 C Tryz.prog 33 #[.pointer x_19, .int .i64 x_17, .int .i64 0, .int .u64 x_18] h'
 fun (r : Value) (h' : Heap) =>
 ∃ (x_20 : Int),
 r = .int .i64 x_20 ∧
 xsIf (decide (x_20 ≠ 0)) (Q (.int .i64 x_20) h')
 (atBase r0 fun (b o : Nat) =>
 h'.can b (o + 5) 3 ∧
 atBase r0 fun (b_3 o_3 : Nat) =>
 (h'.put b (o + 5) [.int .i64 x, .int .i64 x_4, .int .u32 x_5]).can b_3 (o_3 + 8) 1 ∧
 Q (.int .i64 0)
 ((h'.put b (o + 5) [.int .i64 x, .int .i64 x_4, .int .u32 x_5]).put b_3
 (o_3 + 8) [.int .i64 0]))))) ∧
 C Tryz.prog 130 #[.agg #[.int .i64 x, .int .i64 x_1, .int .u32 x_2], .int .i64 x_3] h fun (r : Value) (h' : Heap) =>
 ∃ (x : Int),
 ∃ (x_4 : Int),
 ∃ (x_5 : Int),
 ∃ (x_6 : Int),
 ∃ (x_7 : Int),
 r = .tuple #[.agg #[.int .i64 x, .int .i64 x_4, .int .u32 x_5], .int .i64 x_6, .int .i64 x_7] ∧
 atBase r0 fun (b o : Nat) =>
 ∃ (x_8 : Option Addr),
 h'.cell b (o + 4) = some (.pointer x_8) ∧
 C Tryz.prog 38 #[.pointer x_8, .int .i64 x_6] h' fun (r : Value) (h' : Heap) =>
 ∃ (x_9 : ByteArray),
 ∃ (x_10 : Int),
 r = .tuple #[.string x_9, .int .i64 x_10] ∧
 xsIf (decide (x_10 ≠ 0)) (Q (.int .i64 x_10) h')
 (atBase r0 fun (b o : Nat) =>
 ∃ (x_11 : Option Addr),
 h'.cell b (o + 4) = some (.pointer x_11) ∧
 C Tryz.prog 44 #[.pointer x_11, .int .i64 x_7, .string x_9] h' fun (r : Value) (h' : Heap) =>
 ∃ (x_12 : Int),
 r = .int .i64 x_12 ∧
 xsIf (decide (x_12 ≠ 0)) (Q (.int .i64 x_12) h')
 (atBase r0 fun (b o : Nat) =>
 atBase r0 fun (b_2 o_2 : Nat) =>
 ∃ (x_13 : Int),
 h'.cell b_2 (o_2 + 0) = some (.int .i64 x_13) ∧
 ∃ (x_14 : Int),
 h'.cell b_2 (o_2 + 0 + 1) = some (.int .i64 x_14) ∧
 ∃ (x_15 : Int),
 h'.cell b_2 (o_2 + 0 + 1 + 1) = some (.int .i64 x_15) ∧
 ∃ (x_16 : Int),
 h'.cell b_2 (o_2 + 0 + 1 + 1 + 1) = some (.int .i64 x_16) ∧
 (∃ (x_17 : Option Addr),
 h'.cell b (o + 4) = some (.pointer x_17) ∧
 C Tryz.prog 34
 #[.agg #[.int .i64 x_13, .int .i64 x_14, .int .i64 x_15, .int .i64 x_16]]
 h' fun (r : Value) (h' : Heap) =>
 ∃ (x_18 : Int),
 r = .int .i64 x_18 ∧
 C Tryz.prog 36 #[.agg #[.int .i64 x, .int .i64 x_4, .int .u32 x_5]] h'
 fun (r : Value) (h' : Heap) =>
 ∃ (x_19 : Int),
 r = .int .u64 x_19 ∧
 C Tryz.prog 33 #[.pointer x_17, .int .i64 x_18, .int .i64 0, .int .u64 x_19] h'
 fun (r : Value) (h' : Heap) =>
 ∃ (x_20 : Int),
 r = .int .i64 x_20 ∧
 xsIf (decide (x_20 ≠ 0)) (Q (.int .i64 x_20) h')
 (atBase r0 fun (b o : Nat) =>
 h'.can b (o + 5) 3 ∧
 atBase r0 fun (b_3 o_3 : Nat) =>
 (h'.put b (o + 5) [.int .i64 x, .int .i64 x_4, .int .u32 x_5]).can b_3 (o_3 + 8) 1 ∧
 Q (.int .i64 0)
 ((h'.put b (o + 5) [.int .i64 x, .int .i64 x_4, .int .u32 x_5]).put b_3 (o_3 + 8)
 [.int .i64 0]))) ∧
 C Tryz.prog 34
 #[.agg #[.int .i64 x_13, .int .i64 x_14, .int .i64 x_15, .int .i64 x_16]]
 h' fun (r : Value) (h' : Heap) =>
 ∃ (x_17 : Int),
 r = .int .i64 x_17 ∧
 (∃ (x_18 : Option Addr),
 h'.cell b (o + 4) = some (.pointer x_18) ∧
 C Tryz.prog 36 #[.agg #[.int .i64 x, .int .i64 x_4, .int .u32 x_5]] h'
 fun (r : Value) (h' : Heap) =>
 ∃ (x_19 : Int),
 r = .int .u64 x_19 ∧
 C Tryz.prog 33 #[.pointer x_18, .int .i64 x_17, .int .i64 0, .int .u64 x_19] h'
 fun (r : Value) (h' : Heap) =>
 ∃ (x_20 : Int),
 r = .int .i64 x_20 ∧
 xsIf (decide (x_20 ≠ 0)) (Q (.int .i64 x_20) h')
 (atBase r0 fun (b o : Nat) =>
 h'.can b (o + 5) 3 ∧
 atBase r0 fun (b_3 o_3 : Nat) =>
 (h'.put b (o + 5) [.int .i64 x, .int .i64 x_4, .int .u32 x_5]).can b_3 (o_3 + 8) 1 ∧
 Q (.int .i64 0)
 ((h'.put b (o + 5) [.int .i64 x, .int .i64 x_4, .int .u32 x_5]).put b_3
 (o_3 + 8) [.int .i64 0]))) ∧
 C Tryz.prog 36 #[.agg #[.int .i64 x, .int .i64 x_4, .int .u32 x_5]] h'
 fun (r : Value) (h' : Heap) =>
 ∃ (x_18 : Int),
 r = .int .u64 x_18 ∧
 ∃ (x_19 : Option Addr),
 h'.cell b (o + 4) = some (.pointer x_19) ∧
 C Tryz.prog 33 #[.pointer x_19, .int .i64 x_17, .int .i64 0, .int .u64 x_18] h'
 fun (r : Value) (h' : Heap) =>
 ∃ (x_20 : Int),
 r = .int .i64 x_20 ∧
 xsIf (decide (x_20 ≠ 0)) (Q (.int .i64 x_20) h')
 (atBase r0 fun (b o : Nat) =>
 h'.can b (o + 5) 3 ∧
 atBase r0 fun (b_3 o_3 : Nat) =>
 (h'.put b (o + 5) [.int .i64 x, .int .i64 x_4, .int .u32 x_5]).can b_3 (o_3 + 8) 1 ∧
 Q (.int .i64 0)
 ((h'.put b (o + 5) [.int .i64 x, .int .i64 x_4, .int .u32 x_5]).put b_3
 (o_3 + 8) [.int .i64 0]))))
theorem ring_Ring_move.ok {r0 : Option Addr} {h : Heap} {Q : Value → Heap → Prop} (hk : ring_Ring_move.wp r0 h Q) : C Tryz.prog 89 #[.pointer r0] h Q :=
 C_of_xs (H := ring_Ring_move.H) (lcuts := ring_Ring_move.lc) (rcuts := ring_Ring_move.rc) (l := [.pointer r0]) 2000 mixed Tryz.func89 rfl (by kernel_rfl) (@cast (ring_Ring_move.wp r0 h Q) _ (by kernel_rfl) hk)

/-! (*gabion/ring.Ring).write -/
def ring_Ring_write.H : Hn := ⟨[], [], [⟨4, .q 0 (.q 1 (.q 2 (.q 4 (.q 5 (.q 6 (.q 7 (.ld 3 512 (.q 8 (.q 9 (.nil)))))))))), []⟩], []⟩
def ring_Ring_write.lc : List Cut := []
def ring_Ring_write.rc : List Cut := [⟨8, [0, 1, 2], []⟩]
def ring_Ring_write.J8 (r0 : Option Addr) (i : Int) (f : Nat) (f_a : Array Value) (f_c : Array Value) (h : Heap) (Q : Value → Heap → Prop) : Prop :=
 TW Tryz.prog 42 56 [.code (cAt (bodyOf Tryz.f42) [1, 1, 1, 0]), .code (cAt (bodyOf Tryz.f42) [1, 1, 1, 1])] ⟨[(0, .v (.pointer r0)), (1, .v (.int .i64 i)), (2, .v (.func (.func f) f_a f_c))], []⟩ h Q
def ring_Ring_write.wp (r0 : Option Addr) (i : Int) (f : Nat) (f_a : Array Value) (f_c : Array Value) (h : Heap) (Q : Value → Heap → Prop) : Prop :=
 C Tryz.prog 47 #[.pointer r0, .int .i64 i] h fun (r : Value) (h' : Heap) =>
 ∃ (x : Int),
 ∃ (x_1 : Int),
 r = .tuple #[.int .i64 x, .int .i64 x_1] ∧
 xsIf (decide (x_1 ≠ 0)) (Q (.int .i64 x_1) h')
 (atBase r0 fun (b o : Nat) =>
 atBase r0 fun (b_1 o_1 : Nat) =>
 ∃ (x : Int),
 h'.cell b (o + 8) = some (.int .i64 x) ∧
 ∃ (x_2 : Int),
 h'.cell b_1 (o_1 + 0 + 3) = some (.int .i64 x_2) ∧
 xsIf (decide (x_2 ≤ x))
 (C Tryz.prog 89 #[.pointer r0] h' fun (r : Value) (h' : Heap) =>
 ∃ (x : Int), r = .int .i64 x ∧ xsIf (decide (x ≠ 0)) (Q (.int .i64 x) h') (ring_Ring_write.J8 r0 i f f_a f_c h' Q))
 (ring_Ring_write.J8 r0 i f f_a f_c h' Q))
def ring_Ring_write.J8.wp (r0 : Option Addr) (i : Int) (f : Nat) (f_a : Array Value) (f_c : Array Value) (h : Heap) (Q : Value → Heap → Prop) : Prop :=
 C Tryz.prog 47 #[.pointer r0, .int .i64 i] h fun (r : Value) (h' : Heap) =>
 ∃ (x : Int),
 ∃ (x_1 : Int),
 r = .tuple #[.int .i64 x, .int .i64 x_1] ∧
 xsIf (goOk Tryz.prog f)
 (C Tryz.prog f (List.toArray (f_a.toList ++ [.int .i64 x] ++ f_c.toList)) h' fun (r : Value) (h' : Heap) =>
 ∃ (x : Int),
 r = .int .i64 x ∧
 xsIf (decide (x = 0))
 (atBase r0 fun (b o : Nat) =>
 ∃ (x_2 : Int), h'.cell b (o + 8) = some (.int .i64 x_2) ∧ atBase r0 fun (b o : Nat) => h'.can b (o + 8) 1 ∧ Q (.int .i64 x) (h'.put b (o + 8) [.int .i64 (IntKind.i64.wrap (x_2 + 1))]))
 (Q (.int .i64 x) h'))
 False
theorem ring_Ring_write.ok {r0 : Option Addr} {i : Int} {f : Nat} {f_a : Array Value} {f_c : Array Value} {h : Heap} {Q : Value → Heap → Prop} (hk : ring_Ring_write.wp r0 i f f_a f_c h Q) : C Tryz.prog 42 #[.pointer r0, .int .i64 i, .func (.func f) f_a f_c] h Q :=
 C_of_xs (H := ring_Ring_write.H) (lcuts := ring_Ring_write.lc) (rcuts := ring_Ring_write.rc) (l := [.pointer r0, .int .i64 i, .func (.func f) f_a f_c]) 2000 mixed Tryz.func42 rfl (by kernel_rfl) (@cast (ring_Ring_write.wp r0 i f f_a f_c h Q) _ (by kernel_rfl) hk)
theorem ring_Ring_write.J8.ok {r0 : Option Addr} {i : Int} {f : Nat} {f_a : Array Value} {f_c : Array Value} {h : Heap} {Q : Value → Heap → Prop} (hk : ring_Ring_write.J8.wp r0 i f f_a f_c h Q) : ring_Ring_write.J8 r0 i f f_a f_c h Q :=
 xs_ok (H := ring_Ring_write.H) (lcuts := ring_Ring_write.lc) (rcuts := []) (fn := Tryz.f42) mixed Tryz.func42 2000 _ _ _ (@cast (ring_Ring_write.J8.wp r0 i f f_a f_c h Q) _ (by kernel_rfl) hk)

/-! (*gabion/ring.Ring).Write -/
def ring_Ring_Write.H : Hn := ⟨[3, 5], [], [], []⟩
def ring_Ring_Write.lc : List Cut := []
def ring_Ring_Write.rc : List Cut := []
def ring_Ring_Write.wp (r0 : Option Addr) (i : Int) (s : ByteArray) (h : Heap) (Q : Value → Heap → Prop) : Prop :=
 ∀ (b : Nat),
 h b = none →
 ∀ (b_1 : Nat),
 upd h b (Obj.cells #[.pointer r0] 34 (0, 0)) b_1 = none →
 ∃ (x : Option Addr),
 (upd (upd h b (Obj.cells #[.pointer r0] 34 (0, 0))) b_1 (Obj.cells #[.string s] 9 (0, 0))).cell b 0 = some (.pointer x) ∧
 xsIf (!x.isNone)
 (∃ (x : ByteArray),
 (upd (upd h b (Obj.cells #[.pointer r0] 34 (0, 0))) b_1 (Obj.cells #[.string s] 9 (0, 0))).cell b_1 0 = some (.string x) ∧
 xsIf (decide ((↑x.size : Int) ≠ 64)) (Q (.int .i64 2) (upd (upd h b (Obj.cells #[.pointer r0] 34 (0, 0))) b_1 (Obj.cells #[.string s] 9 (0, 0))))
 (∃ (x : Option Addr),
 (upd (upd h b (Obj.cells #[.pointer r0] 34 (0, 0))) b_1 (Obj.cells #[.string s] 9 (0, 0))).cell b 0 = some (.pointer x) ∧
 C Tryz.prog 42
 #[.pointer x, .int .i64 i, .func (Fn.func 43) #[] #[.pointer (some { block := b, off := 0 }), .pointer (some { block := b_1, off := 0 })]]
 (upd (upd h b (Obj.cells #[.pointer r0] 34 (0, 0))) b_1 (Obj.cells #[.string s] 9 (0, 0))) fun (r : Value) (h' : Heap) =>
 ∃ (x : Int), r = .int .i64 x ∧ Q (.int .i64 x) h'))
 (∃ (x : Option Addr),
 (upd (upd h b (Obj.cells #[.pointer r0] 34 (0, 0))) b_1 (Obj.cells #[.string s] 9 (0, 0))).cell b 0 = some (.pointer x) ∧
 C Tryz.prog 42
 #[.pointer x, .int .i64 i, .func (Fn.func 43) #[] #[.pointer (some { block := b, off := 0 }), .pointer (some { block := b_1, off := 0 })]]
 (upd (upd h b (Obj.cells #[.pointer r0] 34 (0, 0))) b_1 (Obj.cells #[.string s] 9 (0, 0))) fun (r : Value) (h' : Heap) =>
 ∃ (x : Int), r = .int .i64 x ∧ Q (.int .i64 x) h')
theorem ring_Ring_Write.ok {r0 : Option Addr} {i : Int} {s : ByteArray} {h : Heap} {Q : Value → Heap → Prop} (hk : ring_Ring_Write.wp r0 i s h Q) : C Tryz.prog 13 #[.pointer r0, .int .i64 i, .string s] h Q :=
 C_of_xs (H := ring_Ring_Write.H) (lcuts := ring_Ring_Write.lc) (rcuts := ring_Ring_Write.rc) (l := [.pointer r0, .int .i64 i, .string s]) 2000 mixed Tryz.func13 rfl (by kernel_rfl) (@cast (ring_Ring_Write.wp r0 i s h Q) _ (by kernel_rfl) hk)

/-! (*gabion/ring.Ring).WriteWord$1 -/
def ring_Ring_WriteWord_1.H : Hn := ⟨[], [], [⟨1, .q 4 (.ld 0 398 (.q 1 (.q 2 (.ld 3 384 (.ld 5 384 (.q 6 (.q 7 (.q 8 (.nil))))))))), []⟩], []⟩
def ring_Ring_WriteWord_1.lc : List Cut := []
def ring_Ring_WriteWord_1.rc : List Cut := []
def ring_Ring_WriteWord_1.wp (slot : Int) (t1 : Nat) (t2 : Nat) (t3 : Nat) (h : Heap) (Q : Value → Heap → Prop) : Prop :=
 ∃ (x : Option Addr),
 h.cell t1 0 = some (.pointer x) ∧
 atBase x fun (b o : Nat) =>
 ∃ (x : Option Addr),
 h.cell b (o + 4) = some (.pointer x) ∧
 ∃ (x_1 : Int),
 h.cell t2 0 = some (.int .i64 x_1) ∧
 ∃ (x_2 : Int),
 h.cell t3 0 = some (.int .u64 x_2) ∧
 C Tryz.prog 33 #[.pointer x, .int .i64 slot, .int .i64 x_1, .int .u64 x_2] h fun (r : Value) (h' : Heap) =>
 ∃ (x : Int), r = .int .i64 x ∧ Q (.int .i64 x) h'
theorem ring_Ring_WriteWord_1.ok {slot : Int} {t1 : Nat} {t2 : Nat} {t3 : Nat} {h : Heap} {Q : Value → Heap → Prop} (hk : ring_Ring_WriteWord_1.wp slot t1 t2 t3 h Q) : C Tryz.prog 46 #[.int .i64 slot, .pointer (some ⟨t1, 0, none⟩), .pointer (some ⟨t2, 0, none⟩), .pointer (some ⟨t3, 0, none⟩)] h Q :=
 C_of_xs (H := ring_Ring_WriteWord_1.H) (lcuts := ring_Ring_WriteWord_1.lc) (rcuts := ring_Ring_WriteWord_1.rc) (l := [.int .i64 slot, .pointer (some ⟨t1, 0, none⟩), .pointer (some ⟨t2, 0, none⟩), .pointer (some ⟨t3, 0, none⟩)]) 2000 mixed Tryz.func46 rfl (by kernel_rfl) (@cast (ring_Ring_WriteWord_1.wp slot t1 t2 t3 h Q) _ (by kernel_rfl) hk)

/-! (*gabion/ring.Ring).WriteWord -/
def ring_Ring_WriteWord.H : Hn := ⟨[4, 6, 7], [], [], []⟩
def ring_Ring_WriteWord.lc : List Cut := []
def ring_Ring_WriteWord.rc : List Cut := []
def ring_Ring_WriteWord.wp (r0 : Option Addr) (i : Int) (k0 : Int) (v : Int) (h : Heap) (Q : Value → Heap → Prop) : Prop :=
 ∀ (b : Nat),
 h b = none →
 ∀ (b_1 : Nat),
 upd h b (Obj.cells #[.pointer r0] 34 (0, 0)) b_1 = none →
 ∀ (b_2 : Nat),
 upd (upd h b (Obj.cells #[.pointer r0] 34 (0, 0))) b_1 (Obj.cells #[.int .i64 k0] 3 (0, 0)) b_2 = none →
 ∃ (x : Option Addr),
 (upd (upd (upd h b (Obj.cells #[.pointer r0] 34 (0, 0))) b_1 (Obj.cells #[.int .i64 k0] 3 (0, 0))) b_2 (Obj.cells #[.int .u64 v] 49 (0, 0))).cell b 0 =
 some (.pointer x) ∧
 xsIf (!x.isNone)
 (∃ (x : Int),
 (upd (upd (upd h b (Obj.cells #[.pointer r0] 34 (0, 0))) b_1 (Obj.cells #[.int .i64 k0] 3 (0, 0))) b_2 (Obj.cells #[.int .u64 v] 49 (0, 0))).cell b_1
 0 =
 some (.int .i64 x) ∧
 xsIf (decide (x < 0))
 (Q (.int .i64 2)
 (upd (upd (upd h b (Obj.cells #[.pointer r0] 34 (0, 0))) b_1 (Obj.cells #[.int .i64 k0] 3 (0, 0))) b_2 (Obj.cells #[.int .u64 v] 49 (0, 0))))
 (∃ (x : Int),
 (upd (upd (upd h b (Obj.cells #[.pointer r0] 34 (0, 0))) b_1 (Obj.cells #[.int .i64 k0] 3 (0, 0))) b_2 (Obj.cells #[.int .u64 v] 49 (0, 0))).cell
 b_1 0 =
 some (.int .i64 x) ∧
 xsIf (decide (8 ≤ x))
 (Q (.int .i64 2)
 (upd (upd (upd h b (Obj.cells #[.pointer r0] 34 (0, 0))) b_1 (Obj.cells #[.int .i64 k0] 3 (0, 0))) b_2
 (Obj.cells #[.int .u64 v] 49 (0, 0))))
 (∃ (x : Option Addr),
 (upd (upd (upd h b (Obj.cells #[.pointer r0] 34 (0, 0))) b_1 (Obj.cells #[.int .i64 k0] 3 (0, 0))) b_2
 (Obj.cells #[.int .u64 v] 49 (0, 0))).cell
 b 0 =
 some (.pointer x) ∧
 C Tryz.prog 42
 #[.pointer x, .int .i64 i,
 .func (Fn.func 46) #[]
 #[.pointer (some { block := b, off := 0 }), .pointer (some { block := b_1, off := 0 }), .pointer (some { block := b_2, off := 0 })]]
 (upd (upd (upd h b (Obj.cells #[.pointer r0] 34 (0, 0))) b_1 (Obj.cells #[.int .i64 k0] 3 (0, 0))) b_2
 (Obj.cells #[.int .u64 v] 49 (0, 0)))
 fun (r : Value) (h' : Heap) => ∃ (x : Int), r = .int .i64 x ∧ Q (.int .i64 x) h')))
 (∃ (x : Option Addr),
 (upd (upd (upd h b (Obj.cells #[.pointer r0] 34 (0, 0))) b_1 (Obj.cells #[.int .i64 k0] 3 (0, 0))) b_2 (Obj.cells #[.int .u64 v] 49 (0, 0))).cell b 0 =
 some (.pointer x) ∧
 C Tryz.prog 42
 #[.pointer x, .int .i64 i,
 .func (Fn.func 46) #[] #[.pointer (some { block := b, off := 0 }), .pointer (some { block := b_1, off := 0 }), .pointer (some { block := b_2, off := 0 })]]
 (upd (upd (upd h b (Obj.cells #[.pointer r0] 34 (0, 0))) b_1 (Obj.cells #[.int .i64 k0] 3 (0, 0))) b_2 (Obj.cells #[.int .u64 v] 49 (0, 0)))
 fun (r : Value) (h' : Heap) => ∃ (x : Int), r = .int .i64 x ∧ Q (.int .i64 x) h')
theorem ring_Ring_WriteWord.ok {r0 : Option Addr} {i : Int} {k0 : Int} {v : Int} {h : Heap} {Q : Value → Heap → Prop} (hk : ring_Ring_WriteWord.wp r0 i k0 v h Q) : C Tryz.prog 16 #[.pointer r0, .int .i64 i, .int .i64 k0, .int .u64 v] h Q :=
 C_of_xs (H := ring_Ring_WriteWord.H) (lcuts := ring_Ring_WriteWord.lc) (rcuts := ring_Ring_WriteWord.rc) (l := [.pointer r0, .int .i64 i, .int .i64 k0, .int .u64 v]) 2000 mixed Tryz.func16 rfl (by kernel_rfl) (@cast (ring_Ring_WriteWord.wp r0 i k0 v h Q) _ (by kernel_rfl) hk)

/-! (*gabion/ring.Ring).Read -/
def ring_Ring_Read.H : Hn := ⟨[], [], [], []⟩
def ring_Ring_Read.lc : List Cut := []
def ring_Ring_Read.rc : List Cut := []
def ring_Ring_Read.wp (r0 : Option Addr) (i : Int) (h : Heap) (Q : Value → Heap → Prop) : Prop :=
 C Tryz.prog 47 #[.pointer r0, .int .i64 i] h fun (r : Value) (h' : Heap) =>
 ∃ (x : Int),
 ∃ (x_1 : Int),
 r = .tuple #[.int .i64 x, .int .i64 x_1] ∧
 xsIf (decide (x_1 ≠ 0)) (Q (.tuple #[.string { data := #[] }, .int .i64 x_1]) h')
 (atBase r0 fun (b o : Nat) =>
 ∃ (x_2 : Option Addr),
 h'.cell b (o + 4) = some (.pointer x_2) ∧
 C Tryz.prog 38 #[.pointer x_2, .int .i64 x] h' fun (r : Value) (h' : Heap) =>
 ∃ (x : ByteArray), ∃ (x_3 : Int), r = .tuple #[.string x, .int .i64 x_3] ∧ Q (.tuple #[.string x, .int .i64 x_3]) h')
theorem ring_Ring_Read.ok {r0 : Option Addr} {i : Int} {h : Heap} {Q : Value → Heap → Prop} (hk : ring_Ring_Read.wp r0 i h Q) : C Tryz.prog 17 #[.pointer r0, .int .i64 i] h Q :=
 C_of_xs (H := ring_Ring_Read.H) (lcuts := ring_Ring_Read.lc) (rcuts := ring_Ring_Read.rc) (l := [.pointer r0, .int .i64 i]) 2000 mixed Tryz.func17 rfl (by kernel_rfl) (@cast (ring_Ring_Read.wp r0 i h Q) _ (by kernel_rfl) hk)

/-! (*gabion/ring.Ring).Since -/
def ring_Ring_Since.H : Hn := ⟨[], [], [], []⟩
def ring_Ring_Since.lc : List Cut := []
def ring_Ring_Since.rc : List Cut := []
def ring_Ring_Since.wp (r0 : Option Addr) (h : Heap) (Q : Value → Heap → Prop) : Prop :=
 xsIf r0.isNone (Q (.int .i64 0) h) (atBase r0 fun (b o : Nat) => ∃ (x : Int), h.cell b (o + 8) = some (.int .i64 x) ∧ Q (.int .i64 x) h)
theorem ring_Ring_Since.ok {r0 : Option Addr} {h : Heap} {Q : Value → Heap → Prop} (hk : ring_Ring_Since.wp r0 h Q) : C Tryz.prog 37 #[.pointer r0] h Q :=
 C_of_xs (H := ring_Ring_Since.H) (lcuts := ring_Ring_Since.lc) (rcuts := ring_Ring_Since.rc) (l := [.pointer r0]) 2000 mixed Tryz.func37 rfl (by kernel_rfl) (@cast (ring_Ring_Since.wp r0 h Q) _ (by kernel_rfl) hk)

/-! gabion/gabionlaw07.wakes -/
def gabionlaw07_wakes.H : Hn := ⟨[], [], [], []⟩
def gabionlaw07_wakes.lc : List Cut := []
def gabionlaw07_wakes.rc : List Cut := [⟨7, [5], []⟩]
def gabionlaw07_wakes.J7 (r0 : Option Addr) (h : Heap) (Q : Value → Heap → Prop) : Prop :=
 TW Tryz.prog 10 83 [.code (cAt (bodyOf Tryz.f10) [1, 1, 1, 1, 1, 1, 0]), .code (cAt (bodyOf Tryz.f10) [1, 1, 1, 1, 1, 1, 1])] ⟨[(5, .v (.pointer r0))], []⟩ h Q
def gabionlaw07_wakes.wp  (h : Heap) (Q : Value → Heap → Prop) : Prop :=
 C Tryz.prog 8 #[.int .i64 6] h fun (r : Value) (h' : Heap) =>
 ∃ (x : Option Addr),
 ∃ (x_1 : Int),
 r = .tuple #[.pointer x, .int .i64 x_1] ∧
 C Tryz.prog 9 #[.pointer x, .agg #[.int .i64 0, .int .i64 4, .int .i64 0, .int .i64 2]] h' fun (r : Value) (h' : Heap) =>
 ∃ (x_2 : Int),
 r = .int .i64 x_2 ∧
 C Tryz.prog 11 #[.pointer x, .agg #[.int .i64 0, .int .i64 4, .int .i64 0, .int .i64 2]] h' fun (r : Value) (h' : Heap) =>
 ∃ (x : Option Addr),
 ∃ (x_3 : Int),
 r = .tuple #[.pointer x, .int .i64 x_3] ∧
 xsIf (decide (x_1 ≠ 0)) (Q (.bool false) h')
 (xsIf (decide (x_2 ≠ 0)) (Q (.bool false) h')
 (xsIf (decide (x_3 ≠ 0)) (Q (.bool false) h')
 (C Tryz.prog 12 #[.pointer x] h' fun (r : Value) (h' : Heap) =>
 ∃ (x_4 : Int),
 ∃ (x_5 : Int),
 ∃ (x_6 : Int),
 r = .agg #[.int .i64 x_4, .int .i64 x_5, .int .u32 x_6] ∧
 C Tryz.prog 35 #[.int .i64 4] h' fun (r : Value) (h' : Heap) =>
 ∃ (x_7 : Int),
 ∃ (x_8 : Int),
 ∃ (x_9 : Int),
 r = .agg #[.int .i64 x_7, .int .i64 x_8, .int .u32 x_9] ∧
 xsIf (!(decide (x_4 = x_7) && (decide (x_5 = x_8) && (decide (x_6 = x_9) && true)))) (Q (.bool false) h') (gabionlaw07_wakes.J7 x h' Q))))
def gabionlaw07_wakes.J7.wp (r0 : Option Addr) (h : Heap) (Q : Value → Heap → Prop) : Prop :=
 C Tryz.prog 14 #[.string { data := #[UInt8.ofNat 97] }] h fun (r : Value) (h' : Heap) =>
 ∃ (x : ByteArray),
 r = .string x ∧
 C Tryz.prog 13 #[.pointer r0, .int .i64 0, .string x] h' fun (r : Value) (h' : Heap) =>
 ∃ (x : Int),
 r = .int .i64 x ∧
 C Tryz.prog 14 #[.string { data := #[UInt8.ofNat 98] }] h' fun (r : Value) (h' : Heap) =>
 ∃ (x : ByteArray),
 r = .string x ∧
 C Tryz.prog 13 #[.pointer r0, .int .i64 3, .string x] h' fun (r : Value) (h' : Heap) =>
 ∃ (x : Int),
 r = .int .i64 x ∧
 C Tryz.prog 12 #[.pointer r0] h' fun (r : Value) (h' : Heap) =>
 ∃ (x : Int),
 ∃ (x_1 : Int),
 ∃ (x_2 : Int),
 r = .agg #[.int .i64 x, .int .i64 x_1, .int .u32 x_2] ∧
 C Tryz.prog 16 #[.pointer r0, .int .i64 1, .int .i64 0, .int .u64 5] h' fun (r : Value) (h' : Heap) =>
 ∃ (x : Int),
 r = .int .i64 x ∧
 C Tryz.prog 17 #[.pointer r0, .int .i64 3] h' fun (r : Value) (h' : Heap) =>
 ∃ (x_3 : ByteArray),
 ∃ (x_4 : Int),
 r = .tuple #[.string x_3, .int .i64 x_4] ∧
 xsIf (decide (x_2 = 0))
 (xsIf (decide (x = 0))
 (xsIf (decide (x_4 = 0))
 (C Tryz.prog 14 #[.string { data := #[UInt8.ofNat 98] }] h' fun (r : Value) (h' : Heap) =>
 ∃ (x : ByteArray),
 r = .string x ∧
 xsIf (decide (x_3 = x))
 (C Tryz.prog 12 #[.pointer r0] h' fun (r : Value) (h' : Heap) =>
 ∃ (x : Int),
 ∃ (x_5 : Int),
 ∃ (x_6 : Int),
 r = .agg #[.int .i64 x, .int .i64 x_5, .int .u32 x_6] ∧
 xsIf (decide (x_6 = 1))
 (C Tryz.prog 37 #[.pointer r0] h' fun (r : Value) (h' : Heap) => ∃ (x : Int), r = .int .i64 x ∧ Q (.bool (decide (x = 1))) h')
 (Q (.bool false) h'))
 (Q (.bool false) h'))
 (Q (.bool false) h'))
 (Q (.bool false) h'))
 (Q (.bool false) h')
theorem gabionlaw07_wakes.ok {h : Heap} {Q : Value → Heap → Prop} (hk : gabionlaw07_wakes.wp h Q) : C Tryz.prog 10 #[] h Q :=
 C_of_xs (H := gabionlaw07_wakes.H) (lcuts := gabionlaw07_wakes.lc) (rcuts := gabionlaw07_wakes.rc) (l := []) 2000 mixed Tryz.func10 rfl (by kernel_rfl) (@cast (gabionlaw07_wakes.wp h Q) _ (by kernel_rfl) hk)
theorem gabionlaw07_wakes.J7.ok {r0 : Option Addr} {h : Heap} {Q : Value → Heap → Prop} (hk : gabionlaw07_wakes.J7.wp r0 h Q) : gabionlaw07_wakes.J7 r0 h Q :=
 xs_ok (H := gabionlaw07_wakes.H) (lcuts := gabionlaw07_wakes.lc) (rcuts := []) (fn := Tryz.f10) mixed Tryz.func10 2000 _ _ _ (@cast (gabionlaw07_wakes.J7.wp r0 h Q) _ (by kernel_rfl) hk)

/-! (*gabion/pm.Device).is -/
def pm_Device_is.H : Hn := ⟨[], [], [], []⟩
def pm_Device_is.lc : List Cut := []
def pm_Device_is.rc : List Cut := []
def pm_Device_is.wp (d : Option Addr) (line : Int) (h : Heap) (Q : Value → Heap → Prop) : Prop :=
 xsIf (decide (0 ≤ line)) (C Tryz.prog 75 #[.pointer d] h fun (r : Value) (h' : Heap) => ∃ (x : Int), r = .int .i64 x ∧ Q (.bool (decide (line < x))) h') (Q (.bool false) h)
theorem pm_Device_is.ok {d : Option Addr} {line : Int} {h : Heap} {Q : Value → Heap → Prop} (hk : pm_Device_is.wp d line h Q) : C Tryz.prog 48 #[.pointer d, .int .i64 line] h Q :=
 C_of_xs (H := pm_Device_is.H) (lcuts := pm_Device_is.lc) (rcuts := pm_Device_is.rc) (l := [.pointer d, .int .i64 line]) 2000 mixed Tryz.func48 rfl (by kernel_rfl) (@cast (pm_Device_is.wp d line h Q) _ (by kernel_rfl) hk)

/-! (*gabion/pm.Device).Wear -/
def pm_Device_Wear.H : Hn := ⟨[], [], [], []⟩
def pm_Device_Wear.lc : List Cut := []
def pm_Device_Wear.rc : List Cut := []
def pm_Device_Wear.wp (d : Option Addr) (line : Int) (h : Heap) (Q : Value → Heap → Prop) : Prop :=
 C Tryz.prog 48 #[.pointer d, .int .i64 line] h fun (r : Value) (h' : Heap) =>
 ∃ (x : Bool),
 r = .bool x ∧
 xsIf (!x) (Q (.int .i64 0) h')
 (atBase d fun (b o : Nat) =>
 ∃ (x : Option Addr),
 ∃ (n : Nat),
 ∃ (m : Nat),
 h'.cell b (o + 2) = some (.slice x n m) ∧ (0 ≤ line ∧ line < (↑n : Int)) ∧ atBase x fun (b o : Nat) => ∃ (x : Int), h'.cell b (o + line.toNat * 1) = some (.int .i64 x) ∧ Q (.int .i64 x) h')
theorem pm_Device_Wear.ok {d : Option Addr} {line : Int} {h : Heap} {Q : Value → Heap → Prop} (hk : pm_Device_Wear.wp d line h Q) : C Tryz.prog 58 #[.pointer d, .int .i64 line] h Q :=
 C_of_xs (H := pm_Device_Wear.H) (lcuts := pm_Device_Wear.lc) (rcuts := pm_Device_Wear.rc) (l := [.pointer d, .int .i64 line]) 2000 mixed Tryz.func58 rfl (by kernel_rfl) (@cast (pm_Device_Wear.wp d line h Q) _ (by kernel_rfl) hk)

/-! (*gabion/pm.Device).Count -/
def pm_Device_Count.H : Hn := ⟨[], [], [], []⟩
def pm_Device_Count.lc : List Cut := []
def pm_Device_Count.rc : List Cut := []
def pm_Device_Count.wp (d : Option Addr) (h : Heap) (Q : Value → Heap → Prop) : Prop :=
 xsIf d.isNone (Q (.int .i64 0) h) (atBase d fun (b o : Nat) => ∃ (x : Int), h.cell b (o + 6) = some (.int .i64 x) ∧ Q (.int .i64 x) h)
theorem pm_Device_Count.ok {d : Option Addr} {h : Heap} {Q : Value → Heap → Prop} (hk : pm_Device_Count.wp d h Q) : C Tryz.prog 59 #[.pointer d] h Q :=
 C_of_xs (H := pm_Device_Count.H) (lcuts := pm_Device_Count.lc) (rcuts := pm_Device_Count.rc) (l := [.pointer d]) 2000 mixed Tryz.func59 rfl (by kernel_rfl) (@cast (pm_Device_Count.wp d h Q) _ (by kernel_rfl) hk)

/-! gabion/gabionlaw07.media -/
def gabionlaw07_media.H : Hn := ⟨[], [], [⟨4, .q 0 (.q 1 (.q 2 (.q 3 (.q 4 (.q 5 (.q 6 (.q 7 (.q 8 (.q 9 (.q 11 (.q 12 (.q 13 (.q 15 (.br 10 (.q 14 (.q 16 (.q 17 (.q 18 (.q 19 (.nil)))))) (.one 14 (.q 16 (.br 10 (.q 17 (.q 18 (.q 19 (.nil)))) (.one 17 (.q 10 (.q 18 (.q 19 (.nil)))))))))))))))))))))), []⟩, ⟨7, .q 0 (.q 2 (.q 3 (.q 4 (.br 1 (.q 5 (.q 6 (.q 7 (.q 8 (.q 10 (.q 11 (.q 12 (.br 9 (.q 13 (.q 14 (.q 15 (.q 16 (.nil))))) (.one 13 (.q 9 (.q 14 (.q 15 (.q 16 (.nil)))))))))))))) (.one 5 (.q 1 (.q 6 (.q 7 (.q 8 (.q 10 (.q 11 (.q 12 (.br 9 (.q 13 (.q 14 (.q 15 (.q 16 (.nil))))) (.one 13 (.q 9 (.q 14 (.q 15 (.q 16 (.nil))))))))))))))))))), []⟩], []⟩
def gabionlaw07_media.lc : List Cut := [⟨2, [0, 1, 10, 11], []⟩]
def gabionlaw07_media.rc : List Cut := []
def gabionlaw07_media.L2 (d : Option Addr) (m : Option Addr) (t10 : Int) (t11 : Int) (h : Heap) (Q : Value → Heap → Prop) : Prop :=
 TW Tryz.prog 23 51 [.code (cAt (bodyOf Tryz.f23) [1, 0, 1, 0, 0]), .inLoop (cAt (bodyOf Tryz.f23) [1, 0, 1, 0, 0]), .inBlock 0, .code (cAt (bodyOf Tryz.f23) [1, 1])] ⟨[(0, .v (.pointer d)), (1, .v (.pointer m)), (10, .v (.int .i64 t10)), (11, .v (.int .i64 t11))], []⟩ h Q
def gabionlaw07_media.wp (d : Option Addr) (m : Option Addr) (h : Heap) (Q : Value → Heap → Prop) : Prop :=
 atBase m fun (b o : Nat) => ∃ (x : Option Addr), ∃ (n : Nat), ∃ (m_1 : Nat), h.cell b (o + 1) = some (.slice x n m_1) ∧ gabionlaw07_media.L2 d m (↑n : Int) 0 h Q
def gabionlaw07_media.L2.wp (d : Option Addr) (m : Option Addr) (t10 : Int) (t11 : Int) (h : Heap) (Q : Value → Heap → Prop) : Prop :=
 xsIf (decide (t11 < t10))
 (C Tryz.prog 57 #[.pointer m, .int .i64 t11] h fun (r : Value) (h' : Heap) =>
 ∃ (x : ByteArray),
 r = .string x ∧
 C Tryz.prog 56 #[.pointer d, .int .i64 t11, .string x] h' fun (r : Value) (h' : Heap) =>
 ∃ (x : Bool),
 r = .bool x ∧
 xsIf (!x) (Q (.bool false) h' ∧ Q (.bool false) h' ∧ Q (.bool false) h')
 (atBase m fun (b o : Nat) =>
 (C Tryz.prog 58 #[.pointer d, .int .i64 t11] h' fun (r : Value) (h' : Heap) =>
 ∃ (x : Int),
 r = .int .i64 x ∧
 ∃ (x_1 : Option Addr),
 ∃ (n : Nat),
 ∃ (m_1 : Nat),
 h'.cell b (o + 1) = some (.slice x_1 n m_1) ∧
 (0 ≤ t11 ∧ t11 < (↑n : Int)) ∧
 atBase x_1 fun (b o : Nat) =>
 ∃ (x_2 : Int), h'.cell b (o + t11.toNat * 1) = some (.int .i64 x_2) ∧ xsIf (decide (x ≠ x_2)) (Q (.bool false) h') (gabionlaw07_media.L2 d m t10 (IntKind.i64.wrap (t11 + 1)) h' Q)) ∧
 ∃ (x : Option Addr),
 ∃ (n : Nat),
 ∃ (m_1 : Nat),
 h'.cell b (o + 1) = some (.slice x n m_1) ∧
 (0 ≤ t11 ∧ t11 < (↑n : Int)) ∧
 atBase x fun (b o : Nat) =>
 (C Tryz.prog 58 #[.pointer d, .int .i64 t11] h' fun (r : Value) (h' : Heap) =>
 ∃ (x : Int),
 r = .int .i64 x ∧
 ∃ (x_1 : Int), h'.cell b (o + t11.toNat * 1) = some (.int .i64 x_1) ∧ xsIf (decide (x ≠ x_1)) (Q (.bool false) h') (gabionlaw07_media.L2 d m t10 (IntKind.i64.wrap (t11 + 1)) h' Q)) ∧
 ∃ (x : Int),
 h'.cell b (o + t11.toNat * 1) = some (.int .i64 x) ∧
 C Tryz.prog 58 #[.pointer d, .int .i64 t11] h' fun (r : Value) (h' : Heap) =>
 ∃ (x_1 : Int), r = .int .i64 x_1 ∧ xsIf (decide (x_1 ≠ x)) (Q (.bool false) h') (gabionlaw07_media.L2 d m t10 (IntKind.i64.wrap (t11 + 1)) h' Q)))
 (atBase m fun (b o : Nat) =>
 (C Tryz.prog 59 #[.pointer d] h fun (r : Value) (h' : Heap) =>
 ∃ (x : Int),
 r = .int .i64 x ∧
 ∃ (x_1 : Int),
 h'.cell b (o + 5) = some (.int .i64 x_1) ∧
 xsIf (decide (x = x_1))
 (atBase m fun (b o : Nat) =>
 (C Tryz.prog 60 #[.pointer d] h' fun (r : Value) (h' : Heap) => ∃ (x : Bool), r = .bool x ∧ ∃ (x_2 : Bool), h'.cell b (o + 4) = some (.bool x_2) ∧ Q (.bool (x == x_2)) h') ∧
 ∃ (x : Bool), h'.cell b (o + 4) = some (.bool x) ∧ C Tryz.prog 60 #[.pointer d] h' fun (r : Value) (h' : Heap) => ∃ (x_2 : Bool), r = .bool x_2 ∧ Q (.bool (x_2 == x)) h')
 (Q (.bool false) h' ∧ Q (.bool false) h')) ∧
 ∃ (x : Int),
 h.cell b (o + 5) = some (.int .i64 x) ∧
 C Tryz.prog 59 #[.pointer d] h fun (r : Value) (h' : Heap) =>
 ∃ (x_1 : Int),
 r = .int .i64 x_1 ∧
 xsIf (decide (x_1 = x))
 (atBase m fun (b o : Nat) =>
 (C Tryz.prog 60 #[.pointer d] h' fun (r : Value) (h' : Heap) => ∃ (x : Bool), r = .bool x ∧ ∃ (x_2 : Bool), h'.cell b (o + 4) = some (.bool x_2) ∧ Q (.bool (x == x_2)) h') ∧
 ∃ (x : Bool), h'.cell b (o + 4) = some (.bool x) ∧ C Tryz.prog 60 #[.pointer d] h' fun (r : Value) (h' : Heap) => ∃ (x_2 : Bool), r = .bool x_2 ∧ Q (.bool (x_2 == x)) h')
 (Q (.bool false) h' ∧ Q (.bool false) h'))
theorem gabionlaw07_media.ok {d : Option Addr} {m : Option Addr} {h : Heap} {Q : Value → Heap → Prop} (hk : gabionlaw07_media.wp d m h Q) : C Tryz.prog 23 #[.pointer d, .pointer m] h Q :=
 C_of_xs (H := gabionlaw07_media.H) (lcuts := gabionlaw07_media.lc) (rcuts := gabionlaw07_media.rc) (l := [.pointer d, .pointer m]) 2000 mixed Tryz.func23 rfl (by kernel_rfl) (@cast (gabionlaw07_media.wp d m h Q) _ (by kernel_rfl) hk)
theorem gabionlaw07_media.L2.ok {d : Option Addr} {m : Option Addr} {t10 : Int} {t11 : Int} {h : Heap} {Q : Value → Heap → Prop} (hk : gabionlaw07_media.L2.wp d m t10 t11 h Q) : gabionlaw07_media.L2 d m t10 t11 h Q :=
 xs_ok (H := gabionlaw07_media.H) (lcuts := gabionlaw07_media.lc) (rcuts := gabionlaw07_media.rc) (fn := Tryz.f23) mixed Tryz.func23 2000 _ _ _ (@cast (gabionlaw07_media.L2.wp d m t10 t11 h Q) _ (by kernel_rfl) hk)

/-! gabion/gabionref07.line -/
def gabionref07_line.H : Hn := ⟨[], [], [], []⟩
def gabionref07_line.lc : List Cut := []
def gabionref07_line.rc : List Cut := []
def gabionref07_line.wp (d : Option Addr) (b_0 : Int) (b_1 : Int) (b_2 : Int) (i : Int) (h : Heap) (Q : Value → Heap → Prop) : Prop :=
 C Tryz.prog 110 #[.pointer d, .agg #[.int .i64 b_0, .int .i64 b_1, .int .i64 b_2]] h fun (r : Value) (h' : Heap) =>
 ∃ (x : Option Addr),
 ∃ (n : Nat),
 ∃ (m : Nat),
 ∃ (x_1 : Int),
 r = .tuple #[.slice x n m, .int .i64 x_1] ∧
 xsIf (decide (x_1 ≠ 0)) (Q (.tuple #[.string { data := #[] }, .int .i64 x_1]) h')
 (C Tryz.prog 111 #[.agg #[.int .i64 b_0, .int .i64 b_1, .int .i64 b_2], .slice x n m, .int .i64 i] h' fun (r : Value) (h' : Heap) =>
 ∃ (x : Int),
 r = .int .i64 x ∧
 C Tryz.prog 67 #[.pointer d, .int .i64 x] h' fun (r : Value) (h' : Heap) =>
 ∃ (x : ByteArray), ∃ (x_2 : Int), r = .tuple #[.string x, .int .i64 x_2] ∧ Q (.tuple #[.string x, .int .i64 x_2]) h')
theorem gabionref07_line.ok {d : Option Addr} {b_0 : Int} {b_1 : Int} {b_2 : Int} {i : Int} {h : Heap} {Q : Value → Heap → Prop} (hk : gabionref07_line.wp d b_0 b_1 b_2 i h Q) : C Tryz.prog 106 #[.pointer d, .agg #[.int .i64 b_0, .int .i64 b_1, .int .i64 b_2], .int .i64 i] h Q :=
 C_of_xs (H := gabionref07_line.H) (lcuts := gabionref07_line.lc) (rcuts := gabionref07_line.rc) (l := [.pointer d, .agg #[.int .i64 b_0, .int .i64 b_1, .int .i64 b_2], .int .i64 i]) 2000 mixed Tryz.func106 rfl (by kernel_rfl) (@cast (gabionref07_line.wp d b_0 b_1 b_2 i h Q) _ (by kernel_rfl) hk)

/-! gabion/gabionref06.Right -/
def gabionref06_Right.H : Hn := ⟨[], [], [], []⟩
def gabionref06_Right.lc : List Cut := []
def gabionref06_Right.rc : List Cut := []
def gabionref06_Right.wp (start : Int) (gap : Int) (n : Int) (h : Heap) (Q : Value → Heap → Prop) : Prop :=
 xsIf (decide (1 ≤ n))
 (xsIf (decide (n ≤ 1024)) (xsIf (decide (0 ≤ start)) (xsIf (decide (start < n)) (xsIf (decide (0 ≤ gap)) (Q (.bool (decide (gap ≤ n))) h) (Q (.bool false) h)) (Q (.bool false) h)) (Q (.bool false) h))
 (Q (.bool false) h))
 (Q (.bool false) h)
theorem gabionref06_Right.ok {start : Int} {gap : Int} {n : Int} {h : Heap} {Q : Value → Heap → Prop} (hk : gabionref06_Right.wp start gap n h Q) : C Tryz.prog 108 #[.int .i64 start, .int .i64 gap, .int .i64 n] h Q :=
 C_of_xs (H := gabionref06_Right.H) (lcuts := gabionref06_Right.lc) (rcuts := gabionref06_Right.rc) (l := [.int .i64 start, .int .i64 gap, .int .i64 n]) 2000 mixed Tryz.func108 rfl (by kernel_rfl) (@cast (gabionref06_Right.wp start gap n h Q) _ (by kernel_rfl) hk)

/-! gabion/gabionref07.State -/
def gabionref07_State.H : Hn := ⟨[], [], [], []⟩
def gabionref07_State.lc : List Cut := []
def gabionref07_State.rc : List Cut := []
def gabionref07_State.wp (d : Option Addr) (p_0 : Int) (p_1 : Int) (p_2 : Int) (p_3 : Int) (h : Heap) (Q : Value → Heap → Prop) : Prop :=
 C Tryz.prog 53 #[.agg #[.int .i64 p_0, .int .i64 p_1, .int .i64 p_2, .int .i64 p_3]] h fun (r : Value) (h' : Heap) =>
 ∃ (x : Int),
 ∃ (x_1 : Int),
 ∃ (x_2 : Int),
 r = .agg #[.int .i64 x, .int .i64 x_1, .int .i64 x_2] ∧
 C Tryz.prog 106 #[.pointer d, .agg #[.int .i64 x, .int .i64 x_1, .int .i64 x_2], .int .i64 (IntKind.i64.wrap (p_1 + 1))] h'
 fun (r : Value) (h' : Heap) =>
 ∃ (x : ByteArray),
 ∃ (x_3 : Int),
 r = .tuple #[.string x, .int .i64 x_3] ∧
 xsIf (decide (x_3 ≠ 0)) (Q (.tuple #[.int .i64 0, .int .i64 0, .int .u64 0, .int .i64 x_3]) h')
 (((0 : Int) ≤ 8 ∧ (8 : Int) ≤ (↑x.size : Int)) ∧
 C Tryz.prog 107 #[.string (sext x 0 8)] h' fun (r : Value) (h' : Heap) =>
 ∃ (x : Int),
 r = .int .u64 x ∧
 C Tryz.prog 108 #[.int .i64 (IntKind.i64.wrap (irem x 65536)), .int .i64 (IntKind.i64.wrap (irem (iquo .u64 x 65536) 65536)), .int .i64 p_1] h'
 fun (r : Value) (h' : Heap) =>
 ∃ (x_4 : Bool),
 r = .bool x_4 ∧
 xsIf (!x_4) (Q (.tuple #[.int .i64 0, .int .i64 0, .int .u64 0, .int .i64 4]) h')
 (Q
 (.tuple
 #[.int .i64 (IntKind.i64.wrap (irem x 65536)), .int .i64 (IntKind.i64.wrap (irem (iquo .u64 x 65536) 65536)), .int .u64 (iquo .u64 x 4294967296),
 .int .i64 0])
 h'))
theorem gabionref07_State.ok {d : Option Addr} {p_0 : Int} {p_1 : Int} {p_2 : Int} {p_3 : Int} {h : Heap} {Q : Value → Heap → Prop} (hk : gabionref07_State.wp d p_0 p_1 p_2 p_3 h Q) : C Tryz.prog 62 #[.pointer d, .agg #[.int .i64 p_0, .int .i64 p_1, .int .i64 p_2, .int .i64 p_3]] h Q :=
 C_of_xs (H := gabionref07_State.H) (lcuts := gabionref07_State.lc) (rcuts := gabionref07_State.rc) (l := [.pointer d, .agg #[.int .i64 p_0, .int .i64 p_1, .int .i64 p_2, .int .i64 p_3]]) 2000 mixed Tryz.func62 rfl (by kernel_rfl) (@cast (gabionref07_State.wp d p_0 p_1 p_2 p_3 h Q) _ (by kernel_rfl) hk)

/-! gabion/gabionref06.Next -/
def gabionref06_Next.H : Hn := ⟨[], [], [], []⟩
def gabionref06_Next.lc : List Cut := []
def gabionref06_Next.rc : List Cut := []
def gabionref06_Next.wp (start : Int) (gap : Int) (n : Int) (h : Heap) (Q : Value → Heap → Prop) : Prop :=
 xsIf (decide (0 < gap)) (Q (.tuple #[.int .i64 start, .int .i64 (IntKind.i64.wrap (gap - 1)), .int .i64 (IntKind.i64.wrap (gap - 1)), .int .i64 gap]) h)
 (xsIf (decide (IntKind.i64.wrap (start + 1) = n)) (Q (.tuple #[.int .i64 0, .int .i64 n, .int .i64 n, .int .i64 0]) h)
 (Q (.tuple #[.int .i64 (IntKind.i64.wrap (start + 1)), .int .i64 n, .int .i64 n, .int .i64 0]) h))
theorem gabionref06_Next.ok {start : Int} {gap : Int} {n : Int} {h : Heap} {Q : Value → Heap → Prop} (hk : gabionref06_Next.wp start gap n h Q) : C Tryz.prog 105 #[.int .i64 start, .int .i64 gap, .int .i64 n] h Q :=
 C_of_xs (H := gabionref06_Next.H) (lcuts := gabionref06_Next.lc) (rcuts := gabionref06_Next.rc) (l := [.int .i64 start, .int .i64 gap, .int .i64 n]) 2000 mixed Tryz.func105 rfl (by kernel_rfl) (@cast (gabionref06_Next.wp start gap n h Q) _ (by kernel_rfl) hk)

/-! gabion/gabionref05.Write -/
def gabionref05_Write.H : Hn := ⟨[], [], [], []⟩
def gabionref05_Write.lc : List Cut := []
def gabionref05_Write.rc : List Cut := [⟨5, [0, 2, 3, 5], [5]⟩]
def gabionref05_Write.J5 (d : Option Addr) (i : Int) (s : ByteArray) (p_5_0 : Int) (p_5_1 : Int) (p_5_2 : Int) (h : Heap) (Q : Value → Heap → Prop) : Prop :=
 TW Tryz.prog 64 55 [.code (cAt (bodyOf Tryz.f64) [1, 1, 1, 0]), .code (cAt (bodyOf Tryz.f64) [1, 1, 1, 1])] ⟨[(0, .v (.pointer d)), (2, .v (.int .i64 i)), (3, .v (.string s)), (5, .p 5 0)], [(5, [.int .i64 p_5_0, .int .i64 p_5_1, .int .i64 p_5_2])]⟩ h Q
def gabionref05_Write.wp (d : Option Addr) (p_0 : Int) (p_1 : Int) (p_2 : Int) (i : Int) (s : ByteArray) (h : Heap) (Q : Value → Heap → Prop) : Prop :=
 xsIf (decide ((↑s.size : Int) ≠ 64)) (Q (.int .i64 2) h) (xsIf (decide (i < 0)) (Q (.int .i64 3) h) (xsIf (decide (p_1 ≤ i)) (Q (.int .i64 3) h) (gabionref05_Write.J5 d i s p_0 p_1 p_2 h Q)))
def gabionref05_Write.J5.wp (d : Option Addr) (i : Int) (s : ByteArray) (p_5_0 : Int) (p_5_1 : Int) (p_5_2 : Int) (h : Heap) (Q : Value → Heap → Prop) : Prop :=
 C Tryz.prog 110 #[.pointer d, .agg #[.int .i64 p_5_0, .int .i64 p_5_1, .int .i64 p_5_2]] h fun (r : Value) (h' : Heap) =>
 ∃ (x : Option Addr),
 ∃ (n : Nat),
 ∃ (m : Nat),
 ∃ (x_1 : Int),
 r = .tuple #[.slice x n m, .int .i64 x_1] ∧
 xsIf (decide (x_1 ≠ 0)) (Q (.int .i64 x_1) h')
 (C Tryz.prog 111 #[.agg #[.int .i64 p_5_0, .int .i64 p_5_1, .int .i64 p_5_2], .slice x n m, .int .i64 i] h' fun (r : Value) (h' : Heap) =>
 ∃ (x : Int),
 r = .int .i64 x ∧
 C Tryz.prog 112 #[.pointer d, .int .i64 x, .string s] h' fun (r : Value) (h' : Heap) =>
 ∃ (x_2 : Int),
 r = .int .i64 x_2 ∧
 xsIf (decide (x_2 ≠ 0)) (Q (.int .i64 x_2) h')
 (C Tryz.prog 57 #[.pointer d, .int .i64 x] h' fun (r : Value) (h' : Heap) =>
 ∃ (x : ByteArray),
 r = .string x ∧
 xsIf (decide (x = s)) (Q (.int .i64 0) h')
 (C Tryz.prog 113 #[.pointer d, .agg #[.int .i64 p_5_0, .int .i64 p_5_1, .int .i64 p_5_2], .int .i64 i, .string s]
 h' fun (r : Value) (h' : Heap) => ∃ (x : Int), r = .int .i64 x ∧ Q (.int .i64 x) h')))
theorem gabionref05_Write.ok {d : Option Addr} {p_0 : Int} {p_1 : Int} {p_2 : Int} {i : Int} {s : ByteArray} {h : Heap} {Q : Value → Heap → Prop} (hk : gabionref05_Write.wp d p_0 p_1 p_2 i s h Q) : C Tryz.prog 64 #[.pointer d, .agg #[.int .i64 p_0, .int .i64 p_1, .int .i64 p_2], .int .i64 i, .string s] h Q :=
 C_of_xs (H := gabionref05_Write.H) (lcuts := gabionref05_Write.lc) (rcuts := gabionref05_Write.rc) (l := [.pointer d, .agg #[.int .i64 p_0, .int .i64 p_1, .int .i64 p_2], .int .i64 i, .string s]) 2000 mixed Tryz.func64 rfl (by kernel_rfl) (@cast (gabionref05_Write.wp d p_0 p_1 p_2 i s h Q) _ (by kernel_rfl) hk)
theorem gabionref05_Write.J5.ok {d : Option Addr} {i : Int} {s : ByteArray} {p_5_0 : Int} {p_5_1 : Int} {p_5_2 : Int} {h : Heap} {Q : Value → Heap → Prop} (hk : gabionref05_Write.J5.wp d i s p_5_0 p_5_1 p_5_2 h Q) : gabionref05_Write.J5 d i s p_5_0 p_5_1 p_5_2 h Q :=
 xs_ok (H := gabionref05_Write.H) (lcuts := gabionref05_Write.lc) (rcuts := []) (fn := Tryz.f64) mixed Tryz.func64 2000 _ _ _ (@cast (gabionref05_Write.J5.wp d i s p_5_0 p_5_1 p_5_2 h Q) _ (by kernel_rfl) hk)

/-! gabion/gabionref07.move -/
def gabionref07_move.H : Hn := ⟨[], [], [], []⟩
def gabionref07_move.lc : List Cut := []
def gabionref07_move.rc : List Cut := []
def gabionref07_move.wp (d : Option Addr) (r0 : Option Addr) (h : Heap) (Q : Value → Heap → Prop) : Prop :=
 atBase r0 fun (b o : Nat) =>
 ∃ (x : Int),
 h.cell b (o + 0) = some (.int .i64 x) ∧
 ∃ (x_1 : Int),
 h.cell b (o + 0 + 1) = some (.int .i64 x_1) ∧
 ∃ (x_2 : Int),
 h.cell b (o + 0 + 1 + 1) = some (.int .i64 x_2) ∧
 ∃ (x_3 : Int),
 h.cell b (o + 0 + 1 + 1 + 1) = some (.int .i64 x_3) ∧
 C Tryz.prog 53 #[.agg #[.int .i64 x, .int .i64 x_1, .int .i64 x_2, .int .i64 x_3]] h fun (r : Value) (h' : Heap) =>
 ∃ (x_4 : Int),
 ∃ (x_5 : Int),
 ∃ (x_6 : Int),
 r = .agg #[.int .i64 x_4, .int .i64 x_5, .int .i64 x_6] ∧
 C Tryz.prog 62 #[.pointer d, .agg #[.int .i64 x, .int .i64 x_1, .int .i64 x_2, .int .i64 x_3]] h' fun (r : Value) (h' : Heap) =>
 ∃ (x : Int),
 ∃ (x_7 : Int),
 ∃ (x_8 : Int),
 ∃ (x_9 : Int),
 r = .tuple #[.int .i64 x, .int .i64 x_7, .int .u64 x_8, .int .i64 x_9] ∧
 xsIf (decide (x_9 ≠ 0)) (Q (.int .i64 x_9) h')
 (C Tryz.prog 105 #[.int .i64 x, .int .i64 x_7, .int .i64 x_1] h' fun (r : Value) (h' : Heap) =>
 ∃ (x : Int),
 ∃ (x_10 : Int),
 ∃ (x_11 : Int),
 ∃ (x_12 : Int),
 r = .tuple #[.int .i64 x, .int .i64 x_10, .int .i64 x_11, .int .i64 x_12] ∧
 C Tryz.prog 106 #[.pointer d, .agg #[.int .i64 x_4, .int .i64 x_5, .int .i64 x_6], .int .i64 x_11] h'
 fun (r : Value) (h' : Heap) =>
 ∃ (x_13 : ByteArray),
 ∃ (x_14 : Int),
 r = .tuple #[.string x_13, .int .i64 x_14] ∧
 xsIf (decide (x_14 ≠ 0)) (Q (.int .i64 x_14) h')
 (C Tryz.prog 64
 #[.pointer d, .agg #[.int .i64 x_4, .int .i64 x_5, .int .i64 x_6], .int .i64 x_12,
 .string x_13]
 h' fun (r : Value) (h' : Heap) =>
 ∃ (x_15 : Int),
 r = .int .i64 x_15 ∧
 xsIf (decide (x_15 ≠ 0)) (Q (.int .i64 x_15) h')
 (C Tryz.prog 101 #[.int .i64 x, .int .i64 x_10, .int .u64 (irem (IntKind.u64.wrap (x_8 + 1)) 4294967296)] h'
 fun (r : Value) (h' : Heap) =>
 ∃ (x : Int),
 r = .int .u64 x ∧
 C Tryz.prog 65
 #[.pointer d, .agg #[.int .i64 x_4, .int .i64 x_5, .int .i64 x_6],
 .int .i64 (IntKind.i64.wrap (x_1 + 1)), .int .i64 0, .int .u64 x]
 h' fun (r : Value) (h' : Heap) =>
 ∃ (x : Int),
 r = .int .i64 x ∧
 xsIf (decide (x = 0)) (atBase r0 fun (b o : Nat) => h'.can b (o + 4) 1 ∧ Q (.int .i64 x) (h'.put b (o + 4) [.int .i64 0]))
 (Q (.int .i64 x) h'))))
theorem gabionref07_move.ok {d : Option Addr} {r0 : Option Addr} {h : Heap} {Q : Value → Heap → Prop} (hk : gabionref07_move.wp d r0 h Q) : C Tryz.prog 61 #[.pointer d, .pointer r0] h Q :=
 C_of_xs (H := gabionref07_move.H) (lcuts := gabionref07_move.lc) (rcuts := gabionref07_move.rc) (l := [.pointer d, .pointer r0]) 2000 mixed Tryz.func61 rfl (by kernel_rfl) (@cast (gabionref07_move.wp d r0 h Q) _ (by kernel_rfl) hk)

/-! gabion/gabionref06.Slots -/
def gabionref06_Slots.H : Hn := ⟨[], [], [], []⟩
def gabionref06_Slots.lc : List Cut := [⟨4, [0, 1, 2, 7, 8], []⟩]
def gabionref06_Slots.rc : List Cut := []
def gabionref06_Slots.L4 (start : Int) (gap : Int) (n : Int) (out : Option Addr) (out_n : Nat) (out_c : Nat) (i : Int) (h : Heap) (Q : Value → Heap → Prop) : Prop :=
 TW Tryz.prog 109 36 [.code (cAt (bodyOf Tryz.f109) [1, 1, 1, 0, 1, 0, 0]), .inLoop (cAt (bodyOf Tryz.f109) [1, 1, 1, 0, 1, 0, 0]), .inBlock 0, .code (cAt (bodyOf Tryz.f109) [1, 1, 1, 1])] ⟨[(0, .v (.int .i64 start)), (1, .v (.int .i64 gap)), (2, .v (.int .i64 n)), (7, .v (.slice out out_n out_c)), (8, .v (.int .i64 i))], []⟩ h Q
def gabionref06_Slots.wp (start : Int) (gap : Int) (n : Int) (h : Heap) (Q : Value → Heap → Prop) : Prop :=
 xsMk Tryz.prog 3 h (IntKind.i64.wrap (n + 1)) (IntKind.i64.wrap (n + 1)) fun (a : Option Addr) (n' c' : Nat) (h' : Heap) =>
 (0 ≤ gap ∧ gap < (↑n' : Int)) ∧ atBase a fun (b o : Nat) => h'.can b (o + gap.toNat * 1) 1 ∧ gabionref06_Slots.L4 start gap n a n' c' 0 (h'.put b (o + gap.toNat * 1) [.int .i64 (-1)]) Q
def gabionref06_Slots.L4.wp (start : Int) (gap : Int) (n : Int) (out : Option Addr) (out_n : Nat) (out_c : Nat) (i : Int) (h : Heap) (Q : Value → Heap → Prop) : Prop :=
 xsIf (decide (i < n))
 (n ≠ 0 ∧
 xsIf (decide (gap ≤ irem (IntKind.i64.wrap (i + start)) n))
 ((0 ≤ IntKind.i64.wrap (irem (IntKind.i64.wrap (i + start)) n + 1) ∧ IntKind.i64.wrap (irem (IntKind.i64.wrap (i + start)) n + 1) < (↑out_n : Int)) ∧
 atBase out fun (b o : Nat) =>
 h.can b (o + (IntKind.i64.wrap (irem (IntKind.i64.wrap (i + start)) n + 1)).toNat * 1) 1 ∧
 gabionref06_Slots.L4 start gap n out out_n out_c (IntKind.i64.wrap (i + 1)) (h.put b (o + (IntKind.i64.wrap (irem (IntKind.i64.wrap (i + start)) n + 1)).toNat * 1) [.int .i64 i]) Q)
 ((0 ≤ irem (IntKind.i64.wrap (i + start)) n ∧ irem (IntKind.i64.wrap (i + start)) n < (↑out_n : Int)) ∧
 atBase out fun (b o : Nat) =>
 h.can b (o + (irem (IntKind.i64.wrap (i + start)) n).toNat * 1) 1 ∧
 gabionref06_Slots.L4 start gap n out out_n out_c (IntKind.i64.wrap (i + 1)) (h.put b (o + (irem (IntKind.i64.wrap (i + start)) n).toNat * 1) [.int .i64 i]) Q))
 (Q (.slice out out_n out_c) h)
theorem gabionref06_Slots.ok {start : Int} {gap : Int} {n : Int} {h : Heap} {Q : Value → Heap → Prop} (hk : gabionref06_Slots.wp start gap n h Q) : C Tryz.prog 109 #[.int .i64 start, .int .i64 gap, .int .i64 n] h Q :=
 C_of_xs (H := gabionref06_Slots.H) (lcuts := gabionref06_Slots.lc) (rcuts := gabionref06_Slots.rc) (l := [.int .i64 start, .int .i64 gap, .int .i64 n]) 2000 mixed Tryz.func109 rfl (by kernel_rfl) (@cast (gabionref06_Slots.wp start gap n h Q) _ (by kernel_rfl) hk)
theorem gabionref06_Slots.L4.ok {start : Int} {gap : Int} {n : Int} {out : Option Addr} {out_n : Nat} {out_c : Nat} {i : Int} {h : Heap} {Q : Value → Heap → Prop} (hk : gabionref06_Slots.L4.wp start gap n out out_n out_c i h Q) : gabionref06_Slots.L4 start gap n out out_n out_c i h Q :=
 xs_ok (H := gabionref06_Slots.H) (lcuts := gabionref06_Slots.lc) (rcuts := gabionref06_Slots.rc) (fn := Tryz.f109) mixed Tryz.func109 2000 _ _ _ (@cast (gabionref06_Slots.L4.wp start gap n out out_n out_c i h Q) _ (by kernel_rfl) hk)

/-! gabion/gabionref07.slot -/
def gabionref07_slot.H : Hn := ⟨[], [], [], []⟩
def gabionref07_slot.lc : List Cut := [⟨3, [3, 9, 10], []⟩]
def gabionref07_slot.rc : List Cut := []
def gabionref07_slot.L3 (i : Int) (l : Option Addr) (l_n : Nat) (l_c : Nat) (k0 : Int) (h : Heap) (Q : Value → Heap → Prop) : Prop :=
 TW Tryz.prog 63 28 [.code (cAt (bodyOf Tryz.f63) [1, 1, 0, 1, 0, 0]), .inLoop (cAt (bodyOf Tryz.f63) [1, 1, 0, 1, 0, 0]), .inBlock 0, .code (cAt (bodyOf Tryz.f63) [1, 1, 1])] ⟨[(3, .v (.int .i64 i)), (9, .v (.slice l l_n l_c)), (10, .v (.int .i64 k0))], []⟩ h Q
def gabionref07_slot.wp (start : Int) (gap : Int) (n : Int) (i : Int) (h : Heap) (Q : Value → Heap → Prop) : Prop :=
 C Tryz.prog 109 #[.int .i64 start, .int .i64 gap, .int .i64 n] h fun (r : Value) (h' : Heap) =>
 ∃ (x : Option Addr), ∃ (n : Nat), ∃ (m : Nat), r = .slice x n m ∧ gabionref07_slot.L3 i x n m 0 h' Q
def gabionref07_slot.L3.wp (i : Int) (l : Option Addr) (l_n : Nat) (l_c : Nat) (k0 : Int) (h : Heap) (Q : Value → Heap → Prop) : Prop :=
 xsIf (decide (k0 < (↑l_n : Int)))
 ((0 ≤ k0 ∧ k0 < (↑l_n : Int)) ∧
 atBase l fun (b o : Nat) => ∃ (x : Int), h.cell b (o + k0.toNat * 1) = some (.int .i64 x) ∧ xsIf (decide (x = i)) (Q (.int .i64 k0) h) (gabionref07_slot.L3 i l l_n l_c (IntKind.i64.wrap (k0 + 1)) h Q))
 (Q (.int .i64 (-1)) h)
theorem gabionref07_slot.ok {start : Int} {gap : Int} {n : Int} {i : Int} {h : Heap} {Q : Value → Heap → Prop} (hk : gabionref07_slot.wp start gap n i h Q) : C Tryz.prog 63 #[.int .i64 start, .int .i64 gap, .int .i64 n, .int .i64 i] h Q :=
 C_of_xs (H := gabionref07_slot.H) (lcuts := gabionref07_slot.lc) (rcuts := gabionref07_slot.rc) (l := [.int .i64 start, .int .i64 gap, .int .i64 n, .int .i64 i]) 2000 mixed Tryz.func63 rfl (by kernel_rfl) (@cast (gabionref07_slot.wp start gap n i h Q) _ (by kernel_rfl) hk)
theorem gabionref07_slot.L3.ok {i : Int} {l : Option Addr} {l_n : Nat} {l_c : Nat} {k0 : Int} {h : Heap} {Q : Value → Heap → Prop} (hk : gabionref07_slot.L3.wp i l l_n l_c k0 h Q) : gabionref07_slot.L3 i l l_n l_c k0 h Q :=
 xs_ok (H := gabionref07_slot.H) (lcuts := gabionref07_slot.lc) (rcuts := gabionref07_slot.rc) (fn := Tryz.f63) mixed Tryz.func63 2000 _ _ _ (@cast (gabionref07_slot.L3.wp i l l_n l_c k0 h Q) _ (by kernel_rfl) hk)

/-! gabion/gabionref07.Write -/
def gabionref07_Write.H : Hn := ⟨[], [], [⟨6, .q 0 (.q 1 (.q 2 (.q 4 (.q 5 (.q 3 (.q 6 (.nil))))))), []⟩], []⟩
def gabionref07_Write.lc : List Cut := []
def gabionref07_Write.rc : List Cut := [⟨3, [0, 1, 2, 3, 4, 5], []⟩, ⟨6, [0, 1, 2, 3, 4, 5, 13], [13]⟩, ⟨10, [0, 1, 2, 3, 4, 5, 13], [13]⟩]
def gabionref07_Write.J3 (d : Option Addr) (r0 : Option Addr) (i : Int) (s : ByteArray) (k0 : Int) (v : Int) (h : Heap) (Q : Value → Heap → Prop) : Prop :=
 TW Tryz.prog 24 99 [.code (cAt (bodyOf Tryz.f24) [1, 1, 0]), .code (cAt (bodyOf Tryz.f24) [1, 1, 1])] ⟨[(0, .v (.pointer d)), (1, .v (.pointer r0)), (2, .v (.int .i64 i)), (3, .v (.string s)), (4, .v (.int .i64 k0)), (5, .v (.int .u64 v))], []⟩ h Q
def gabionref07_Write.J6 (d : Option Addr) (r0 : Option Addr) (i : Int) (s : ByteArray) (k0 : Int) (v : Int) (p_0 : Int) (p_1 : Int) (p_2 : Int) (p_3 : Int) (h : Heap) (Q : Value → Heap → Prop) : Prop :=
 TW Tryz.prog 24 99 [.code (cAt (bodyOf Tryz.f24) [1, 1, 1, 1, 0, 0]), .code (cAt (bodyOf Tryz.f24) [1, 1, 1, 1, 0, 1]), .code (cAt (bodyOf Tryz.f24) [1, 1, 1, 1, 1])] ⟨[(0, .v (.pointer d)), (1, .v (.pointer r0)), (2, .v (.int .i64 i)), (3, .v (.string s)), (4, .v (.int .i64 k0)), (5, .v (.int .u64 v)), (13, .p 13 0)], [(13, [.int .i64 p_0, .int .i64 p_1, .int .i64 p_2, .int .i64 p_3])]⟩ h Q
def gabionref07_Write.J10 (d : Option Addr) (r0 : Option Addr) (i : Int) (s : ByteArray) (k0 : Int) (v : Int) (p_0 : Int) (p_1 : Int) (p_2 : Int) (p_3 : Int) (h : Heap) (Q : Value → Heap → Prop) : Prop :=
 TW Tryz.prog 24 99 [.code (cAt (bodyOf Tryz.f24) [1, 1, 1, 1, 1, 0]), .code (cAt (bodyOf Tryz.f24) [1, 1, 1, 1, 1, 1])] ⟨[(0, .v (.pointer d)), (1, .v (.pointer r0)), (2, .v (.int .i64 i)), (3, .v (.string s)), (4, .v (.int .i64 k0)), (5, .v (.int .u64 v)), (13, .p 13 0)], [(13, [.int .i64 p_0, .int .i64 p_1, .int .i64 p_2, .int .i64 p_3])]⟩ h Q
def gabionref07_Write.wp (d : Option Addr) (r0 : Option Addr) (i : Int) (s : ByteArray) (k0 : Int) (v : Int) (h : Heap) (Q : Value → Heap → Prop) : Prop :=
 xsIf (decide (k0 < 0)) (xsIf (decide ((↑s.size : Int) ≠ 64)) (Q (.int .i64 2) h) (xsIf (decide (7 < k0)) (Q (.int .i64 2) h) (gabionref07_Write.J3 d r0 i s k0 v h Q)))
 (xsIf (decide (7 < k0)) (Q (.int .i64 2) h) (gabionref07_Write.J3 d r0 i s k0 v h Q))
def gabionref07_Write.J3.wp (d : Option Addr) (r0 : Option Addr) (i : Int) (s : ByteArray) (k0 : Int) (v : Int) (h : Heap) (Q : Value → Heap → Prop) : Prop :=
 atBase r0 fun (b o : Nat) =>
 ∃ (x : Int),
 h.cell b (o + 0) = some (.int .i64 x) ∧
 ∃ (x_1 : Int),
 h.cell b (o + 0 + 1) = some (.int .i64 x_1) ∧
 ∃ (x_2 : Int),
 h.cell b (o + 0 + 1 + 1) = some (.int .i64 x_2) ∧
 ∃ (x_3 : Int),
 h.cell b (o + 0 + 1 + 1 + 1) = some (.int .i64 x_3) ∧
 xsIf (decide (i < 0)) (Q (.int .i64 3) h) (xsIf (decide (x_1 ≤ i)) (Q (.int .i64 3) h) (gabionref07_Write.J6 d r0 i s k0 v x x_1 x_2 x_3 h Q))
def gabionref07_Write.J6.wp (d : Option Addr) (r0 : Option Addr) (i : Int) (s : ByteArray) (k0 : Int) (v : Int) (p_0 : Int) (p_1 : Int) (p_2 : Int) (p_3 : Int) (h : Heap) (Q : Value → Heap → Prop) : Prop :=
 atBase r0 fun (b o : Nat) =>
 ∃ (x : Int),
 h.cell b (o + 4) = some (.int .i64 x) ∧
 xsIf (decide (p_3 ≤ x))
 (C Tryz.prog 61 #[.pointer d, .pointer r0] h fun (r : Value) (h' : Heap) =>
 ∃ (x : Int), r = .int .i64 x ∧ xsIf (decide (x ≠ 0)) (Q (.int .i64 x) h') (gabionref07_Write.J10 d r0 i s k0 v p_0 p_1 p_2 p_3 h' Q))
 (gabionref07_Write.J10 d r0 i s k0 v p_0 p_1 p_2 p_3 h Q)
def gabionref07_Write.J10.wp (d : Option Addr) (r0 : Option Addr) (i : Int) (s : ByteArray) (k0 : Int) (v : Int) (p_0 : Int) (p_1 : Int) (p_2 : Int) (p_3 : Int) (h : Heap) (Q : Value → Heap → Prop) : Prop :=
 C Tryz.prog 53 #[.agg #[.int .i64 p_0, .int .i64 p_1, .int .i64 p_2, .int .i64 p_3]] h fun (r : Value) (h' : Heap) =>
 ∃ (x : Int),
 ∃ (x_1 : Int),
 ∃ (x_2 : Int),
 r = .agg #[.int .i64 x, .int .i64 x_1, .int .i64 x_2] ∧
 C Tryz.prog 62 #[.pointer d, .agg #[.int .i64 p_0, .int .i64 p_1, .int .i64 p_2, .int .i64 p_3]] h' fun (r : Value) (h' : Heap) =>
 ∃ (x_3 : Int),
 ∃ (x_4 : Int),
 ∃ (x_5 : Int),
 ∃ (x_6 : Int),
 r = .tuple #[.int .i64 x_3, .int .i64 x_4, .int .u64 x_5, .int .i64 x_6] ∧
 xsIf (decide (x_6 ≠ 0)) (Q (.int .i64 x_6) h')
 (C Tryz.prog 63 #[.int .i64 x_3, .int .i64 x_4, .int .i64 p_1, .int .i64 i] h' fun (r : Value) (h' : Heap) =>
 ∃ (x_7 : Int),
 r = .int .i64 x_7 ∧
 xsIf (decide (k0 < 0))
 (C Tryz.prog 64 #[.pointer d, .agg #[.int .i64 x, .int .i64 x_1, .int .i64 x_2], .int .i64 x_7, .string s] h'
 fun (r : Value) (h' : Heap) =>
 ∃ (x : Int),
 r = .int .i64 x ∧
 xsIf (decide (x = 0))
 (atBase r0 fun (b o : Nat) =>
 ∃ (x_8 : Int),
 h'.cell b (o + 4) = some (.int .i64 x_8) ∧
 atBase r0 fun (b o : Nat) => h'.can b (o + 4) 1 ∧ Q (.int .i64 x) (h'.put b (o + 4) [.int .i64 (IntKind.i64.wrap (x_8 + 1))]))
 (Q (.int .i64 x) h'))
 (C Tryz.prog 65
 #[.pointer d, .agg #[.int .i64 x, .int .i64 x_1, .int .i64 x_2], .int .i64 x_7, .int .i64 k0, .int .u64 v]
 h' fun (r : Value) (h' : Heap) =>
 ∃ (x : Int),
 r = .int .i64 x ∧
 xsIf (decide (x = 0))
 (atBase r0 fun (b o : Nat) =>
 ∃ (x_8 : Int),
 h'.cell b (o + 4) = some (.int .i64 x_8) ∧
 atBase r0 fun (b o : Nat) => h'.can b (o + 4) 1 ∧ Q (.int .i64 x) (h'.put b (o + 4) [.int .i64 (IntKind.i64.wrap (x_8 + 1))]))
 (Q (.int .i64 x) h')))
theorem gabionref07_Write.ok {d : Option Addr} {r0 : Option Addr} {i : Int} {s : ByteArray} {k0 : Int} {v : Int} {h : Heap} {Q : Value → Heap → Prop} (hk : gabionref07_Write.wp d r0 i s k0 v h Q) : C Tryz.prog 24 #[.pointer d, .pointer r0, .int .i64 i, .string s, .int .i64 k0, .int .u64 v] h Q :=
 C_of_xs (H := gabionref07_Write.H) (lcuts := gabionref07_Write.lc) (rcuts := gabionref07_Write.rc) (l := [.pointer d, .pointer r0, .int .i64 i, .string s, .int .i64 k0, .int .u64 v]) 2000 mixed Tryz.func24 rfl (by kernel_rfl) (@cast (gabionref07_Write.wp d r0 i s k0 v h Q) _ (by kernel_rfl) hk)
theorem gabionref07_Write.J3.ok {d : Option Addr} {r0 : Option Addr} {i : Int} {s : ByteArray} {k0 : Int} {v : Int} {h : Heap} {Q : Value → Heap → Prop} (hk : gabionref07_Write.J3.wp d r0 i s k0 v h Q) : gabionref07_Write.J3 d r0 i s k0 v h Q :=
 xs_ok (H := gabionref07_Write.H) (lcuts := gabionref07_Write.lc) (rcuts := [⟨6, [0, 1, 2, 3, 4, 5, 13], [13]⟩, ⟨10, [0, 1, 2, 3, 4, 5, 13], [13]⟩]) (fn := Tryz.f24) mixed Tryz.func24 2000 _ _ _ (@cast (gabionref07_Write.J3.wp d r0 i s k0 v h Q) _ (by kernel_rfl) hk)
theorem gabionref07_Write.J6.ok {d : Option Addr} {r0 : Option Addr} {i : Int} {s : ByteArray} {k0 : Int} {v : Int} {p_0 : Int} {p_1 : Int} {p_2 : Int} {p_3 : Int} {h : Heap} {Q : Value → Heap → Prop} (hk : gabionref07_Write.J6.wp d r0 i s k0 v p_0 p_1 p_2 p_3 h Q) : gabionref07_Write.J6 d r0 i s k0 v p_0 p_1 p_2 p_3 h Q :=
 xs_ok (H := gabionref07_Write.H) (lcuts := gabionref07_Write.lc) (rcuts := [⟨3, [0, 1, 2, 3, 4, 5], []⟩, ⟨10, [0, 1, 2, 3, 4, 5, 13], [13]⟩]) (fn := Tryz.f24) mixed Tryz.func24 2000 _ _ _ (@cast (gabionref07_Write.J6.wp d r0 i s k0 v p_0 p_1 p_2 p_3 h Q) _ (by kernel_rfl) hk)
theorem gabionref07_Write.J10.ok {d : Option Addr} {r0 : Option Addr} {i : Int} {s : ByteArray} {k0 : Int} {v : Int} {p_0 : Int} {p_1 : Int} {p_2 : Int} {p_3 : Int} {h : Heap} {Q : Value → Heap → Prop} (hk : gabionref07_Write.J10.wp d r0 i s k0 v p_0 p_1 p_2 p_3 h Q) : gabionref07_Write.J10 d r0 i s k0 v p_0 p_1 p_2 p_3 h Q :=
 xs_ok (H := gabionref07_Write.H) (lcuts := gabionref07_Write.lc) (rcuts := [⟨3, [0, 1, 2, 3, 4, 5], []⟩, ⟨6, [0, 1, 2, 3, 4, 5, 13], [13]⟩]) (fn := Tryz.f24) mixed Tryz.func24 2000 _ _ _ (@cast (gabionref07_Write.J10.wp d r0 i s k0 v p_0 p_1 p_2 p_3 h Q) _ (by kernel_rfl) hk)

/-! gabion/gabionref07.Where -/
def gabionref07_Where.H : Hn := ⟨[], [], [], []⟩
def gabionref07_Where.lc : List Cut := []
def gabionref07_Where.rc : List Cut := []
def gabionref07_Where.wp (d : Option Addr) (p_0 : Int) (p_1 : Int) (p_2 : Int) (p_3 : Int) (i : Int) (h : Heap) (Q : Value → Heap → Prop) : Prop :=
 C Tryz.prog 62 #[.pointer d, .agg #[.int .i64 p_0, .int .i64 p_1, .int .i64 p_2, .int .i64 p_3]] h fun (r : Value) (h' : Heap) =>
 ∃ (x : Int),
 ∃ (x_1 : Int),
 ∃ (x_2 : Int),
 ∃ (x_3 : Int),
 r = .tuple #[.int .i64 x, .int .i64 x_1, .int .u64 x_2, .int .i64 x_3] ∧
 xsIf (decide (x_3 ≠ 0)) (Q (.tuple #[.int .i64 0, .int .i64 x_3]) h')
 (C Tryz.prog 53 #[.agg #[.int .i64 p_0, .int .i64 p_1, .int .i64 p_2, .int .i64 p_3]] h' fun (r : Value) (h' : Heap) =>
 ∃ (x_4 : Int),
 ∃ (x_5 : Int),
 ∃ (x_6 : Int),
 r = .agg #[.int .i64 x_4, .int .i64 x_5, .int .i64 x_6] ∧
 C Tryz.prog 110 #[.pointer d, .agg #[.int .i64 x_4, .int .i64 x_5, .int .i64 x_6]] h' fun (r : Value) (h' : Heap) =>
 ∃ (x_7 : Option Addr),
 ∃ (n : Nat),
 ∃ (m : Nat),
 ∃ (x_8 : Int),
 r = .tuple #[.slice x_7 n m, .int .i64 x_8] ∧
 xsIf (decide (x_8 ≠ 0)) (Q (.tuple #[.int .i64 0, .int .i64 x_8]) h')
 (C Tryz.prog 63 #[.int .i64 x, .int .i64 x_1, .int .i64 p_1, .int .i64 i] h' fun (r : Value) (h' : Heap) =>
 ∃ (x : Int),
 r = .int .i64 x ∧
 C Tryz.prog 111 #[.agg #[.int .i64 x_4, .int .i64 x_5, .int .i64 x_6], .slice x_7 n m, .int .i64 x] h'
 fun (r : Value) (h' : Heap) => ∃ (x : Int), r = .int .i64 x ∧ Q (.tuple #[.int .i64 x, .int .i64 0]) h'))
theorem gabionref07_Where.ok {d : Option Addr} {p_0 : Int} {p_1 : Int} {p_2 : Int} {p_3 : Int} {i : Int} {h : Heap} {Q : Value → Heap → Prop} (hk : gabionref07_Where.wp d p_0 p_1 p_2 p_3 i h Q) : C Tryz.prog 66 #[.pointer d, .agg #[.int .i64 p_0, .int .i64 p_1, .int .i64 p_2, .int .i64 p_3], .int .i64 i] h Q :=
 C_of_xs (H := gabionref07_Where.H) (lcuts := gabionref07_Where.lc) (rcuts := gabionref07_Where.rc) (l := [.pointer d, .agg #[.int .i64 p_0, .int .i64 p_1, .int .i64 p_2, .int .i64 p_3], .int .i64 i]) 2000 mixed Tryz.func66 rfl (by kernel_rfl) (@cast (gabionref07_Where.wp d p_0 p_1 p_2 p_3 i h Q) _ (by kernel_rfl) hk)

/-! gabion/gabionref07.Read -/
def gabionref07_Read.H : Hn := ⟨[], [], [], []⟩
def gabionref07_Read.lc : List Cut := []
def gabionref07_Read.rc : List Cut := [⟨3, [0, 2, 4], [4]⟩]
def gabionref07_Read.J3 (d : Option Addr) (i : Int) (p_4_0 : Int) (p_4_1 : Int) (p_4_2 : Int) (p_4_3 : Int) (h : Heap) (Q : Value → Heap → Prop) : Prop :=
 TW Tryz.prog 25 33 [.code (cAt (bodyOf Tryz.f25) [1, 1, 0]), .code (cAt (bodyOf Tryz.f25) [1, 1, 1])] ⟨[(0, .v (.pointer d)), (2, .v (.int .i64 i)), (4, .p 4 0)], [(4, [.int .i64 p_4_0, .int .i64 p_4_1, .int .i64 p_4_2, .int .i64 p_4_3])]⟩ h Q
def gabionref07_Read.wp (d : Option Addr) (p_0 : Int) (p_1 : Int) (p_2 : Int) (p_3 : Int) (i : Int) (h : Heap) (Q : Value → Heap → Prop) : Prop :=
 xsIf (decide (i < 0)) (Q (.tuple #[.string { data := #[] }, .int .i64 3]) h)
 (xsIf (decide (p_1 ≤ i)) (Q (.tuple #[.string { data := #[] }, .int .i64 3]) h) (gabionref07_Read.J3 d i p_0 p_1 p_2 p_3 h Q))
def gabionref07_Read.J3.wp (d : Option Addr) (i : Int) (p_4_0 : Int) (p_4_1 : Int) (p_4_2 : Int) (p_4_3 : Int) (h : Heap) (Q : Value → Heap → Prop) : Prop :=
 C Tryz.prog 66 #[.pointer d, .agg #[.int .i64 p_4_0, .int .i64 p_4_1, .int .i64 p_4_2, .int .i64 p_4_3], .int .i64 i] h
 fun (r : Value) (h' : Heap) =>
 ∃ (x : Int),
 ∃ (x_1 : Int),
 r = .tuple #[.int .i64 x, .int .i64 x_1] ∧
 xsIf (decide (x_1 ≠ 0)) (Q (.tuple #[.string { data := #[] }, .int .i64 x_1]) h')
 (C Tryz.prog 67 #[.pointer d, .int .i64 x] h' fun (r : Value) (h' : Heap) =>
 ∃ (x : ByteArray), ∃ (x_2 : Int), r = .tuple #[.string x, .int .i64 x_2] ∧ Q (.tuple #[.string x, .int .i64 x_2]) h')
theorem gabionref07_Read.ok {d : Option Addr} {p_0 : Int} {p_1 : Int} {p_2 : Int} {p_3 : Int} {i : Int} {h : Heap} {Q : Value → Heap → Prop} (hk : gabionref07_Read.wp d p_0 p_1 p_2 p_3 i h Q) : C Tryz.prog 25 #[.pointer d, .agg #[.int .i64 p_0, .int .i64 p_1, .int .i64 p_2, .int .i64 p_3], .int .i64 i] h Q :=
 C_of_xs (H := gabionref07_Read.H) (lcuts := gabionref07_Read.lc) (rcuts := gabionref07_Read.rc) (l := [.pointer d, .agg #[.int .i64 p_0, .int .i64 p_1, .int .i64 p_2, .int .i64 p_3], .int .i64 i]) 2000 mixed Tryz.func25 rfl (by kernel_rfl) (@cast (gabionref07_Read.wp d p_0 p_1 p_2 p_3 i h Q) _ (by kernel_rfl) hk)
theorem gabionref07_Read.J3.ok {d : Option Addr} {i : Int} {p_4_0 : Int} {p_4_1 : Int} {p_4_2 : Int} {p_4_3 : Int} {h : Heap} {Q : Value → Heap → Prop} (hk : gabionref07_Read.J3.wp d i p_4_0 p_4_1 p_4_2 p_4_3 h Q) : gabionref07_Read.J3 d i p_4_0 p_4_1 p_4_2 p_4_3 h Q :=
 xs_ok (H := gabionref07_Read.H) (lcuts := gabionref07_Read.lc) (rcuts := []) (fn := Tryz.f25) mixed Tryz.func25 2000 _ _ _ (@cast (gabionref07_Read.J3.wp d i p_4_0 p_4_1 p_4_2 p_4_3 h Q) _ (by kernel_rfl) hk)

/-! (*gabion/pm.Device).Break -/
def pm_Device_Break.H : Hn := ⟨[], [], [], []⟩
def pm_Device_Break.lc : List Cut := []
def pm_Device_Break.rc : List Cut := []
def pm_Device_Break.wp (d : Option Addr) (line : Int) (h : Heap) (Q : Value → Heap → Prop) : Prop :=
 C Tryz.prog 48 #[.pointer d, .int .i64 line] h fun (r : Value) (h' : Heap) =>
 ∃ (x : Bool),
 r = .bool x ∧
 xsIf x
 (atBase d fun (b o : Nat) =>
 ∃ (x : Option Addr),
 ∃ (n : Nat),
 ∃ (m : Nat),
 h'.cell b (o + 3) = some (.slice x n m) ∧
 (0 ≤ line ∧ line < (↑n : Int)) ∧ atBase x fun (b o : Nat) => h'.can b (o + line.toNat * 1) 1 ∧ Q (.tuple #[]) (h'.put b (o + line.toNat * 1) [.bool true]))
 (Q (.tuple #[]) h')
theorem pm_Device_Break.ok {d : Option Addr} {line : Int} {h : Heap} {Q : Value → Heap → Prop} (hk : pm_Device_Break.wp d line h Q) : C Tryz.prog 18 #[.pointer d, .int .i64 line] h Q :=
 C_of_xs (H := pm_Device_Break.H) (lcuts := pm_Device_Break.lc) (rcuts := pm_Device_Break.rc) (l := [.pointer d, .int .i64 line]) 2000 mixed Tryz.func18 rfl (by kernel_rfl) (@cast (pm_Device_Break.wp d line h Q) _ (by kernel_rfl) hk)

/-! (*gabion/pm.Device).Fuse -/
def pm_Device_Fuse.H : Hn := ⟨[], [], [], []⟩
def pm_Device_Fuse.lc : List Cut := []
def pm_Device_Fuse.rc : List Cut := []
def pm_Device_Fuse.wp (d : Option Addr) (n : Int) (h : Heap) (Q : Value → Heap → Prop) : Prop :=
 xsIf (!d.isNone) (atBase d fun (b o : Nat) => h.can b (o + 4) 1 ∧ Q (.tuple #[]) (h.put b (o + 4) [.int .i64 (imax n 0)])) (Q (.tuple #[]) h)
theorem pm_Device_Fuse.ok {d : Option Addr} {n : Int} {h : Heap} {Q : Value → Heap → Prop} (hk : pm_Device_Fuse.wp d n h Q) : C Tryz.prog 19 #[.pointer d, .int .i64 n] h Q :=
 C_of_xs (H := pm_Device_Fuse.H) (lcuts := pm_Device_Fuse.lc) (rcuts := pm_Device_Fuse.rc) (l := [.pointer d, .int .i64 n]) 2000 mixed Tryz.func19 rfl (by kernel_rfl) (@cast (pm_Device_Fuse.wp d n h Q) _ (by kernel_rfl) hk)

/-! (*gabion/pm.Device).Boot -/
def pm_Device_Boot.H : Hn := ⟨[], [], [], []⟩
def pm_Device_Boot.lc : List Cut := [⟨3, [0, 1, 4, 10, 11, 12], []⟩]
def pm_Device_Boot.rc : List Cut := [⟨7, [0, 1, 4, 10, 11, 12], []⟩]
def pm_Device_Boot.L3 (d : Option Addr) (keep : Option Addr) (keep_n : Nat) (keep_c : Nat) (kept : Option Addr) (kept_n : Nat) (kept_c : Nat) (t10 : Option Addr) (t10_n : Nat) (t10_c : Nat) (t11 : Int) (t12 : Int) (h : Heap) (Q : Value → Heap → Prop) : Prop :=
 TW Tryz.prog 20 45 [.code (cAt (bodyOf Tryz.f20) [1, 1, 0, 1, 0, 0]), .inLoop (cAt (bodyOf Tryz.f20) [1, 1, 0, 1, 0, 0]), .inBlock 0, .code (cAt (bodyOf Tryz.f20) [1, 1, 1])] ⟨[(0, .v (.pointer d)), (1, .v (.slice keep keep_n keep_c)), (4, .v (.slice kept kept_n kept_c)), (10, .v (.slice t10 t10_n t10_c)), (11, .v (.int .i64 t11)), (12, .v (.int .i64 t12))], []⟩ h Q
def pm_Device_Boot.J7 (d : Option Addr) (keep : Option Addr) (keep_n : Nat) (keep_c : Nat) (kept : Option Addr) (kept_n : Nat) (kept_c : Nat) (t10 : Option Addr) (t10_n : Nat) (t10_c : Nat) (t11 : Int) (t12 : Int) (h : Heap) (Q : Value → Heap → Prop) : Prop :=
 TW Tryz.prog 20 45 [.code (cAt (bodyOf Tryz.f20) [1, 1, 0, 1, 0, 0, 1, 1, 1]), .inLoop (cAt (bodyOf Tryz.f20) [1, 1, 0, 1, 0, 0]), .inBlock 0, .code (cAt (bodyOf Tryz.f20) [1, 1, 1])] ⟨[(0, .v (.pointer d)), (1, .v (.slice keep keep_n keep_c)), (4, .v (.slice kept kept_n kept_c)), (10, .v (.slice t10 t10_n t10_c)), (11, .v (.int .i64 t11)), (12, .v (.int .i64 t12))], []⟩ h Q
def pm_Device_Boot.wp (d : Option Addr) (keep : Option Addr) (keep_n : Nat) (keep_c : Nat) (h : Heap) (Q : Value → Heap → Prop) : Prop :=
 xsIf d.isNone (Q (.tuple #[]) h)
 (C Tryz.prog 49 #[.pointer d] h fun (r : Value) (h' : Heap) => ∃ (x : Option Addr), ∃ (n : Nat), ∃ (m : Nat), r = .slice x n m ∧ pm_Device_Boot.L3 d keep keep_n keep_c none 0 0 x n m (↑n : Int) 0 h' Q)
def pm_Device_Boot.L3.wp (d : Option Addr) (keep : Option Addr) (keep_n : Nat) (keep_c : Nat) (kept : Option Addr) (kept_n : Nat) (kept_c : Nat) (t10 : Option Addr) (t10_n : Nat) (t10_c : Nat) (t11 : Int) (t12 : Int) (h : Heap) (Q : Value → Heap → Prop) : Prop :=
 xsIf (decide (t12 < t11))
 ((0 ≤ t12 ∧ t12 < (↑t10_n : Int)) ∧
 atBase t10 fun (b o : Nat) =>
 ∃ (x : Int),
 h.cell b (o + t12.toNat * 1) = some (.int .i64 x) ∧
 xsIf (decide (t12 < (↑keep_n : Int)))
 ((0 ≤ t12 ∧ t12 < (↑keep_n : Int)) ∧
 atBase keep fun (b o : Nat) =>
 ∃ (x_1 : Bool),
 h.cell b (o + t12.toNat * 1) = some (.bool x_1) ∧
 xsIf x_1
 (∀ (b : Nat),
 h b = none →
 xsApp Tryz.prog 3 (upd h b (Obj.cells #[.int .i64 x] 3 (0, 0))) kept kept_n kept_c (some { block := b, off := 0 }) 1 fun (a' : Option Addr) (n' c' : Nat) (h' : Heap) =>
 pm_Device_Boot.J7 d keep keep_n keep_c a' n' c' t10 t10_n t10_c t11 t12 h' Q)
 (pm_Device_Boot.J7 d keep keep_n keep_c kept kept_n kept_c t10 t10_n t10_c t11 t12 h Q))
 (pm_Device_Boot.J7 d keep keep_n keep_c kept kept_n kept_c t10 t10_n t10_c t11 t12 h Q))
 (C Tryz.prog 50 #[.pointer d, .slice kept kept_n kept_c] h fun (r : Value) (h' : Heap) =>
 atBase d fun (b o : Nat) =>
 ∃ (x : Option Nat),
 h'.cell b (o + 1) = some (Value.map x) ∧
 atMap x fun (r : Nat) =>
 ∃ (l : List (Int × Value × Nat)),
 ∃ (c : Nat),
 h' r = some (mapO (.int .i64) l c) ∧
 atBase d fun (b o : Nat) =>
 (upd h' r (mapO (.int .i64) [] c)).can b (o + 5) 1 ∧
 atBase d fun (b_1 o_1 : Nat) =>
 ((upd h' r (mapO (.int .i64) [] c)).put b (o + 5) [.bool false]).can b_1 (o_1 + 4) 1 ∧
 Q (.tuple #[]) (((upd h' r (mapO (.int .i64) [] c)).put b (o + 5) [.bool false]).put b_1 (o_1 + 4) [.int .i64 0]))
def pm_Device_Boot.J7.wp (d : Option Addr) (keep : Option Addr) (keep_n : Nat) (keep_c : Nat) (kept : Option Addr) (kept_n : Nat) (kept_c : Nat) (t10 : Option Addr) (t10_n : Nat) (t10_c : Nat) (t11 : Int) (t12 : Int) (h : Heap) (Q : Value → Heap → Prop) : Prop :=
 pm_Device_Boot.L3 d keep keep_n keep_c kept kept_n kept_c t10 t10_n t10_c t11 (IntKind.i64.wrap (t12 + 1)) h Q
theorem pm_Device_Boot.ok {d : Option Addr} {keep : Option Addr} {keep_n : Nat} {keep_c : Nat} {h : Heap} {Q : Value → Heap → Prop} (hk : pm_Device_Boot.wp d keep keep_n keep_c h Q) : C Tryz.prog 20 #[.pointer d, .slice keep keep_n keep_c] h Q :=
 C_of_xs (H := pm_Device_Boot.H) (lcuts := pm_Device_Boot.lc) (rcuts := pm_Device_Boot.rc) (l := [.pointer d, .slice keep keep_n keep_c]) 2000 mixed Tryz.func20 rfl (by kernel_rfl) (@cast (pm_Device_Boot.wp d keep keep_n keep_c h Q) _ (by kernel_rfl) hk)
theorem pm_Device_Boot.L3.ok {d : Option Addr} {keep : Option Addr} {keep_n : Nat} {keep_c : Nat} {kept : Option Addr} {kept_n : Nat} {kept_c : Nat} {t10 : Option Addr} {t10_n : Nat} {t10_c : Nat} {t11 : Int} {t12 : Int} {h : Heap} {Q : Value → Heap → Prop} (hk : pm_Device_Boot.L3.wp d keep keep_n keep_c kept kept_n kept_c t10 t10_n t10_c t11 t12 h Q) : pm_Device_Boot.L3 d keep keep_n keep_c kept kept_n kept_c t10 t10_n t10_c t11 t12 h Q :=
 xs_ok (H := pm_Device_Boot.H) (lcuts := pm_Device_Boot.lc) (rcuts := pm_Device_Boot.rc) (fn := Tryz.f20) mixed Tryz.func20 2000 _ _ _ (@cast (pm_Device_Boot.L3.wp d keep keep_n keep_c kept kept_n kept_c t10 t10_n t10_c t11 t12 h Q) _ (by kernel_rfl) hk)
theorem pm_Device_Boot.J7.ok {d : Option Addr} {keep : Option Addr} {keep_n : Nat} {keep_c : Nat} {kept : Option Addr} {kept_n : Nat} {kept_c : Nat} {t10 : Option Addr} {t10_n : Nat} {t10_c : Nat} {t11 : Int} {t12 : Int} {h : Heap} {Q : Value → Heap → Prop} (hk : pm_Device_Boot.J7.wp d keep keep_n keep_c kept kept_n kept_c t10 t10_n t10_c t11 t12 h Q) : pm_Device_Boot.J7 d keep keep_n keep_c kept kept_n kept_c t10 t10_n t10_c t11 t12 h Q :=
 xs_ok (H := pm_Device_Boot.H) (lcuts := pm_Device_Boot.lc) (rcuts := []) (fn := Tryz.f20) mixed Tryz.func20 2000 _ _ _ (@cast (pm_Device_Boot.J7.wp d keep keep_n keep_c kept kept_n kept_c t10 t10_n t10_c t11 t12 h Q) _ (by kernel_rfl) hk)

/-! gabion/gabionref03.Boot -/
def gabionref03_Boot.H : Hn := ⟨[], [], [], []⟩
def gabionref03_Boot.lc : List Cut := [⟨3, [0, 1, 4, 5, 6], []⟩, ⟨10, [0, 7], []⟩]
def gabionref03_Boot.rc : List Cut := [⟨4, [0, 1, 4, 5, 6], []⟩]
def gabionref03_Boot.L3 (d : Option Addr) (keep : Option Addr) (keep_n : Nat) (keep_c : Nat) (chosen : Option Addr) (chosen_n : Nat) (chosen_c : Nat) (k0 : Int) (i_6 : Int) (h : Heap) (Q : Value → Heap → Prop) : Prop :=
 TW Tryz.prog 27 72 [.code (cAt (bodyOf Tryz.f27) [1, 1, 0, 1, 0, 0]), .inLoop (cAt (bodyOf Tryz.f27) [1, 1, 0, 1, 0, 0]), .inBlock 0, .code (cAt (bodyOf Tryz.f27) [1, 1, 1])] ⟨[(0, .v (.pointer d)), (1, .v (.slice keep keep_n keep_c)), (4, .v (.slice chosen chosen_n chosen_c)), (5, .v (.int .i64 k0)), (6, .v (.int .i64 i_6))], []⟩ h Q
def gabionref03_Boot.J4 (d : Option Addr) (keep : Option Addr) (keep_n : Nat) (keep_c : Nat) (chosen : Option Addr) (chosen_n : Nat) (chosen_c : Nat) (k0 : Int) (i_6 : Int) (h : Heap) (Q : Value → Heap → Prop) : Prop :=
 TW Tryz.prog 27 72 [.code (cAt (bodyOf Tryz.f27) [1, 1, 0, 1, 0, 0, 1, 1]), .inLoop (cAt (bodyOf Tryz.f27) [1, 1, 0, 1, 0, 0]), .inBlock 0, .code (cAt (bodyOf Tryz.f27) [1, 1, 1])] ⟨[(0, .v (.pointer d)), (1, .v (.slice keep keep_n keep_c)), (4, .v (.slice chosen chosen_n chosen_c)), (5, .v (.int .i64 k0)), (6, .v (.int .i64 i_6))], []⟩ h Q
def gabionref03_Boot.L10 (d : Option Addr) (i_7 : Int) (h : Heap) (Q : Value → Heap → Prop) : Prop :=
 TW Tryz.prog 27 72 [.code (cAt (bodyOf Tryz.f27) [1, 1, 1, 1, 0, 1, 0, 0]), .inLoop (cAt (bodyOf Tryz.f27) [1, 1, 1, 1, 0, 1, 0, 0]), .inBlock 2, .code (cAt (bodyOf Tryz.f27) [1, 1, 1, 1, 1])] ⟨[(0, .v (.pointer d)), (7, .v (.int .i64 i_7))], []⟩ h Q
def gabionref03_Boot.wp (d : Option Addr) (keep : Option Addr) (keep_n : Nat) (keep_c : Nat) (h : Heap) (Q : Value → Heap → Prop) : Prop :=
 atBase d fun (b o : Nat) =>
 ∃ (x : Option Addr),
 ∃ (n : Nat), ∃ (m : Nat), h.cell b (o + 0) = some (.slice x n m) ∧ xsMk Tryz.prog 4 h (↑n : Int) (↑n : Int) fun (a : Option Addr) (n' c' : Nat) (h' : Heap) => gabionref03_Boot.L3 d keep keep_n keep_c a n' c' 0 0 h' Q
def gabionref03_Boot.L3.wp (d : Option Addr) (keep : Option Addr) (keep_n : Nat) (keep_c : Nat) (chosen : Option Addr) (chosen_n : Nat) (chosen_c : Nat) (k0 : Int) (i_6 : Int) (h : Heap) (Q : Value → Heap → Prop) : Prop :=
 atBase d fun (b o : Nat) =>
 ∃ (x : Option Addr),
 ∃ (n : Nat),
 ∃ (m : Nat),
 h.cell b (o + 0) = some (.slice x n m) ∧
 xsIf (decide (i_6 < (↑n : Int)))
 (atBase d fun (b o : Nat) =>
 ∃ (x : Option Addr),
 ∃ (n : Nat),
 ∃ (m : Nat),
 h.cell b (o + 0) = some (.slice x n m) ∧
 (0 ≤ i_6 ∧ i_6 < (↑n : Int)) ∧
 atBase x fun (b o : Nat) =>
 ∃ (x : Bool),
 h.cell b (o + i_6.toNat * 4 + 1) = some (.bool x) ∧
 xsIf (!x) (gabionref03_Boot.J4 d keep keep_n keep_c chosen chosen_n chosen_c k0 i_6 h Q)
 (xsIf (decide (k0 < (↑keep_n : Int)))
 ((0 ≤ k0 ∧ k0 < (↑keep_n : Int)) ∧
 atBase keep fun (b o : Nat) =>
 ∃ (x : Bool),
 h.cell b (o + k0.toNat * 1) = some (.bool x) ∧
 (0 ≤ i_6 ∧ i_6 < (↑chosen_n : Int)) ∧
 atBase chosen fun (b o : Nat) =>
 h.can b (o + i_6.toNat * 1) 1 ∧ gabionref03_Boot.J4 d keep keep_n keep_c chosen chosen_n chosen_c (IntKind.i64.wrap (k0 + 1)) i_6 (h.put b (o + i_6.toNat * 1) [.bool x]) Q)
 ((0 ≤ i_6 ∧ i_6 < (↑chosen_n : Int)) ∧
 atBase chosen fun (b o : Nat) =>
 h.can b (o + i_6.toNat * 1) 1 ∧ gabionref03_Boot.J4 d keep keep_n keep_c chosen chosen_n chosen_c (IntKind.i64.wrap (k0 + 1)) i_6 (h.put b (o + i_6.toNat * 1) [.bool false]) Q)))
 (C Tryz.prog 72 #[.pointer d, .slice chosen chosen_n chosen_c] h fun (r : Value) (h' : Heap) => gabionref03_Boot.L10 d 0 h' Q)
def gabionref03_Boot.J4.wp (d : Option Addr) (keep : Option Addr) (keep_n : Nat) (keep_c : Nat) (chosen : Option Addr) (chosen_n : Nat) (chosen_c : Nat) (k0 : Int) (i_6 : Int) (h : Heap) (Q : Value → Heap → Prop) : Prop :=
 gabionref03_Boot.L3 d keep keep_n keep_c chosen chosen_n chosen_c k0 (IntKind.i64.wrap (i_6 + 1)) h Q
def gabionref03_Boot.L10.wp (d : Option Addr) (i_7 : Int) (h : Heap) (Q : Value → Heap → Prop) : Prop :=
 atBase d fun (b o : Nat) =>
 ∃ (x : Option Addr),
 ∃ (n : Nat),
 ∃ (m : Nat),
 h.cell b (o + 0) = some (.slice x n m) ∧
 xsIf (decide (i_7 < (↑n : Int)))
 (atBase d fun (b o : Nat) =>
 ∃ (x : Option Addr),
 ∃ (n : Nat),
 ∃ (m : Nat),
 h.cell b (o + 0) = some (.slice x n m) ∧
 (0 ≤ i_7 ∧ i_7 < (↑n : Int)) ∧ atBase x fun (b o : Nat) => h.can b (o + i_7.toNat * 4 + 1) 1 ∧ gabionref03_Boot.L10 d (IntKind.i64.wrap (i_7 + 1)) (h.put b (o + i_7.toNat * 4 + 1) [.bool false]) Q)
 (atBase d fun (b o : Nat) =>
 h.can b (o + 4) 1 ∧
 atBase d fun (b_1 o_1 : Nat) => (h.put b (o + 4) [.bool false]).can b_1 (o_1 + 3) 1 ∧ Q (.tuple #[]) ((h.put b (o + 4) [.bool false]).put b_1 (o_1 + 3) [.int .i64 0]))
theorem gabionref03_Boot.ok {d : Option Addr} {keep : Option Addr} {keep_n : Nat} {keep_c : Nat} {h : Heap} {Q : Value → Heap → Prop} (hk : gabionref03_Boot.wp d keep keep_n keep_c h Q) : C Tryz.prog 27 #[.pointer d, .slice keep keep_n keep_c] h Q :=
 C_of_xs (H := gabionref03_Boot.H) (lcuts := gabionref03_Boot.lc) (rcuts := gabionref03_Boot.rc) (l := [.pointer d, .slice keep keep_n keep_c]) 2000 mixed Tryz.func27 rfl (by kernel_rfl) (@cast (gabionref03_Boot.wp d keep keep_n keep_c h Q) _ (by kernel_rfl) hk)
theorem gabionref03_Boot.L3.ok {d : Option Addr} {keep : Option Addr} {keep_n : Nat} {keep_c : Nat} {chosen : Option Addr} {chosen_n : Nat} {chosen_c : Nat} {k0 : Int} {i_6 : Int} {h : Heap} {Q : Value → Heap → Prop} (hk : gabionref03_Boot.L3.wp d keep keep_n keep_c chosen chosen_n chosen_c k0 i_6 h Q) : gabionref03_Boot.L3 d keep keep_n keep_c chosen chosen_n chosen_c k0 i_6 h Q :=
 xs_ok (H := gabionref03_Boot.H) (lcuts := gabionref03_Boot.lc) (rcuts := gabionref03_Boot.rc) (fn := Tryz.f27) mixed Tryz.func27 2000 _ _ _ (@cast (gabionref03_Boot.L3.wp d keep keep_n keep_c chosen chosen_n chosen_c k0 i_6 h Q) _ (by kernel_rfl) hk)
theorem gabionref03_Boot.J4.ok {d : Option Addr} {keep : Option Addr} {keep_n : Nat} {keep_c : Nat} {chosen : Option Addr} {chosen_n : Nat} {chosen_c : Nat} {k0 : Int} {i_6 : Int} {h : Heap} {Q : Value → Heap → Prop} (hk : gabionref03_Boot.J4.wp d keep keep_n keep_c chosen chosen_n chosen_c k0 i_6 h Q) : gabionref03_Boot.J4 d keep keep_n keep_c chosen chosen_n chosen_c k0 i_6 h Q :=
 xs_ok (H := gabionref03_Boot.H) (lcuts := gabionref03_Boot.lc) (rcuts := []) (fn := Tryz.f27) mixed Tryz.func27 2000 _ _ _ (@cast (gabionref03_Boot.J4.wp d keep keep_n keep_c chosen chosen_n chosen_c k0 i_6 h Q) _ (by kernel_rfl) hk)
theorem gabionref03_Boot.L10.ok {d : Option Addr} {i_7 : Int} {h : Heap} {Q : Value → Heap → Prop} (hk : gabionref03_Boot.L10.wp d i_7 h Q) : gabionref03_Boot.L10 d i_7 h Q :=
 xs_ok (H := gabionref03_Boot.H) (lcuts := gabionref03_Boot.lc) (rcuts := gabionref03_Boot.rc) (fn := Tryz.f27) mixed Tryz.func27 2000 _ _ _ (@cast (gabionref03_Boot.L10.wp d i_7 h Q) _ (by kernel_rfl) hk)

/-! (*gabion/ring.Ring).Where -/
def ring_Ring_Where.H : Hn := ⟨[], [], [], []⟩
def ring_Ring_Where.lc : List Cut := []
def ring_Ring_Where.rc : List Cut := []
def ring_Ring_Where.wp (r0 : Option Addr) (i : Int) (h : Heap) (Q : Value → Heap → Prop) : Prop :=
 C Tryz.prog 47 #[.pointer r0, .int .i64 i] h fun (r : Value) (h' : Heap) =>
 ∃ (x : Int),
 ∃ (x_1 : Int),
 r = .tuple #[.int .i64 x, .int .i64 x_1] ∧
 xsIf (decide (x_1 ≠ 0)) (Q (.tuple #[.int .i64 0, .int .i64 x_1]) h')
 (atBase r0 fun (b o : Nat) =>
 ∃ (x_2 : Option Addr),
 h'.cell b (o + 4) = some (.pointer x_2) ∧
 C Tryz.prog 81 #[.pointer x_2, .int .i64 x] h' fun (r : Value) (h' : Heap) =>
 ∃ (x : Int), ∃ (x_3 : Int), r = .tuple #[.int .i64 x, .int .i64 x_3] ∧ Q (.tuple #[.int .i64 x, .int .i64 x_3]) h')
theorem ring_Ring_Where.ok {r0 : Option Addr} {i : Int} {h : Heap} {Q : Value → Heap → Prop} (hk : ring_Ring_Where.wp r0 i h Q) : C Tryz.prog 73 #[.pointer r0, .int .i64 i] h Q :=
 C_of_xs (H := ring_Ring_Where.H) (lcuts := ring_Ring_Where.lc) (rcuts := ring_Ring_Where.rc) (l := [.pointer r0, .int .i64 i]) 2000 mixed Tryz.func73 rfl (by kernel_rfl) (@cast (ring_Ring_Where.wp r0 i h Q) _ (by kernel_rfl) hk)

/-! gabion/gabionlaw07.reads -/
def gabionlaw07_reads.H : Hn := ⟨[], [], [⟨2, .q 0 (.q 1 (.q 2 (.q 3 (.q 5 (.q 6 (.q 7 (.q 8 (.q 9 (.q 4 (.q 10 (.q 11 (.q 12 (.q 13 (.q 15 (.q 16 (.q 17 (.br 14 (.q 18 (.q 19 (.q 20 (.nil)))) (.one 18 (.q 14 (.q 19 (.q 20 (.nil)))))))))))))))))))))), []⟩], []⟩
def gabionlaw07_reads.lc : List Cut := [⟨5, [0, 1, 2, 56, 57], []⟩]
def gabionlaw07_reads.rc : List Cut := [⟨4, [0, 1, 2], []⟩]
def gabionlaw07_reads.J4 (r0 : Option Addr) (m : Option Addr) (q : Option Addr) (h : Heap) (Q : Value → Heap → Prop) : Prop :=
 TW Tryz.prog 28 110 [.code (cAt (bodyOf Tryz.f28) [1, 1, 1, 0, 0]), .code (cAt (bodyOf Tryz.f28) [1, 1, 1, 0, 1]), .code (cAt (bodyOf Tryz.f28) [1, 1, 1, 1])] ⟨[(0, .v (.pointer r0)), (1, .v (.pointer m)), (2, .v (.pointer q))], []⟩ h Q
def gabionlaw07_reads.L5 (r0 : Option Addr) (m : Option Addr) (q : Option Addr) (t56 : Int) (t57 : Int) (h : Heap) (Q : Value → Heap → Prop) : Prop :=
 TW Tryz.prog 28 110 [.code (cAt (bodyOf Tryz.f28) [1, 1, 1, 0, 1, 0, 0]), .inLoop (cAt (bodyOf Tryz.f28) [1, 1, 1, 0, 1, 0, 0]), .inBlock 0, .code (cAt (bodyOf Tryz.f28) [1, 1, 1, 1])] ⟨[(0, .v (.pointer r0)), (1, .v (.pointer m)), (2, .v (.pointer q)), (56, .v (.int .i64 t56)), (57, .v (.int .i64 t57))], []⟩ h Q
def gabionlaw07_reads.wp (r0 : Option Addr) (m : Option Addr) (q : Option Addr) (h : Heap) (Q : Value → Heap → Prop) : Prop :=
 atBase q fun (b o : Nat) =>
 ∃ (x : Int),
 h.cell b (o + 0) = some (.int .i64 x) ∧
 ∃ (x_1 : Int),
 h.cell b (o + 0 + 1) = some (.int .i64 x_1) ∧
 ∃ (x_2 : Int),
 h.cell b (o + 0 + 1 + 1) = some (.int .i64 x_2) ∧
 ∃ (x_3 : Int),
 h.cell b (o + 0 + 1 + 1 + 1) = some (.int .i64 x_3) ∧
 C Tryz.prog 62 #[.pointer m, .agg #[.int .i64 x, .int .i64 x_1, .int .i64 x_2, .int .i64 x_3]] h fun (r : Value) (h' : Heap) =>
 ∃ (x : Int),
 ∃ (x_4 : Int),
 ∃ (x_5 : Int),
 ∃ (x_6 : Int),
 r = .tuple #[.int .i64 x, .int .i64 x_4, .int .u64 x_5, .int .i64 x_6] ∧
 xsIf (decide (x_6 ≠ 0)) (Q (.bool false) h' ∧ Q (.bool false) h')
 (C Tryz.prog 12 #[.pointer r0] h' fun (r : Value) (h' : Heap) =>
 ∃ (x_7 : Int),
 ∃ (x_8 : Int),
 ∃ (x_9 : Int),
 r = .agg #[.int .i64 x_7, .int .i64 x_8, .int .u32 x_9] ∧
 xsIf (!(decide (x_7 = x) && (decide (x_8 = x_4) && (decide (x_9 = IntKind.u32.wrap x_5) && true)))) (Q (.bool false) h' ∧ Q (.bool false) h')
 (atBase q fun (b o : Nat) =>
 (C Tryz.prog 37 #[.pointer r0] h' fun (r : Value) (h' : Heap) =>
 ∃ (x : Int),
 r = .int .i64 x ∧
 ∃ (x_10 : Int), h'.cell b (o + 4) = some (.int .i64 x_10) ∧ xsIf (decide (x ≠ x_10)) (Q (.bool false) h') (gabionlaw07_reads.J4 r0 m q h' Q)) ∧
 ∃ (x : Int),
 h'.cell b (o + 4) = some (.int .i64 x) ∧
 C Tryz.prog 37 #[.pointer r0] h' fun (r : Value) (h' : Heap) =>
 ∃ (x_10 : Int), r = .int .i64 x_10 ∧ xsIf (decide (x_10 ≠ x)) (Q (.bool false) h') (gabionlaw07_reads.J4 r0 m q h' Q)))
def gabionlaw07_reads.J4.wp (r0 : Option Addr) (m : Option Addr) (q : Option Addr) (h : Heap) (Q : Value → Heap → Prop) : Prop :=
 atBase q fun (b o : Nat) => ∃ (x : Int), h.cell b (o + 0 + 1) = some (.int .i64 x) ∧ gabionlaw07_reads.L5 r0 m q x 0 h Q
def gabionlaw07_reads.L5.wp (r0 : Option Addr) (m : Option Addr) (q : Option Addr) (t56 : Int) (t57 : Int) (h : Heap) (Q : Value → Heap → Prop) : Prop :=
 xsIf (decide (t57 < t56))
 (C Tryz.prog 17 #[.pointer r0, .int .i64 t57] h fun (r : Value) (h' : Heap) =>
 ∃ (x : ByteArray),
 ∃ (x_1 : Int),
 r = .tuple #[.string x, .int .i64 x_1] ∧
 atBase q fun (b o : Nat) =>
 ∃ (x_2 : Int),
 h'.cell b (o + 0) = some (.int .i64 x_2) ∧
 ∃ (x_3 : Int),
 h'.cell b (o + 0 + 1) = some (.int .i64 x_3) ∧
 ∃ (x_4 : Int),
 h'.cell b (o + 0 + 1 + 1) = some (.int .i64 x_4) ∧
 ∃ (x_5 : Int),
 h'.cell b (o + 0 + 1 + 1 + 1) = some (.int .i64 x_5) ∧
 C Tryz.prog 25 #[.pointer m, .agg #[.int .i64 x_2, .int .i64 x_3, .int .i64 x_4, .int .i64 x_5], .int .i64 t57] h'
 fun (r : Value) (h' : Heap) =>
 ∃ (x_6 : ByteArray),
 ∃ (x_7 : Int),
 r = .tuple #[.string x_6, .int .i64 x_7] ∧
 C Tryz.prog 73 #[.pointer r0, .int .i64 t57] h' fun (r : Value) (h' : Heap) =>
 ∃ (x_8 : Int),
 ∃ (x_9 : Int),
 r = .tuple #[.int .i64 x_8, .int .i64 x_9] ∧
 atBase q fun (b o : Nat) =>
 ∃ (x_10 : Int),
 h'.cell b (o + 0) = some (.int .i64 x_10) ∧
 ∃ (x_11 : Int),
 h'.cell b (o + 0 + 1) = some (.int .i64 x_11) ∧
 ∃ (x_12 : Int),
 h'.cell b (o + 0 + 1 + 1) = some (.int .i64 x_12) ∧
 ∃ (x_13 : Int),
 h'.cell b (o + 0 + 1 + 1 + 1) = some (.int .i64 x_13) ∧
 C Tryz.prog 66
 #[.pointer m, .agg #[.int .i64 x_10, .int .i64 x_11, .int .i64 x_12, .int .i64 x_13],
 .int .i64 t57]
 h' fun (r : Value) (h' : Heap) =>
 ∃ (x_14 : Int),
 ∃ (x_15 : Int),
 r = .tuple #[.int .i64 x_14, .int .i64 x_15] ∧
 xsIf (decide (x ≠ x_6)) (Q (.bool false) h')
 (xsIf (decide (x_1 ≠ x_7)) (Q (.bool false) h')
 (xsIf (decide (x_9 ≠ 0)) (Q (.bool false) h')
 (xsIf (decide (x_8 ≠ x_14)) (Q (.bool false) h') (gabionlaw07_reads.L5 r0 m q t56 (IntKind.i64.wrap (t57 + 1)) h' Q)))))
 (Q (.bool true) h)
theorem gabionlaw07_reads.ok {r0 : Option Addr} {m : Option Addr} {q : Option Addr} {h : Heap} {Q : Value → Heap → Prop} (hk : gabionlaw07_reads.wp r0 m q h Q) : C Tryz.prog 28 #[.pointer r0, .pointer m, .pointer q] h Q :=
 C_of_xs (H := gabionlaw07_reads.H) (lcuts := gabionlaw07_reads.lc) (rcuts := gabionlaw07_reads.rc) (l := [.pointer r0, .pointer m, .pointer q]) 2000 mixed Tryz.func28 rfl (by kernel_rfl) (@cast (gabionlaw07_reads.wp r0 m q h Q) _ (by kernel_rfl) hk)
theorem gabionlaw07_reads.J4.ok {r0 : Option Addr} {m : Option Addr} {q : Option Addr} {h : Heap} {Q : Value → Heap → Prop} (hk : gabionlaw07_reads.J4.wp r0 m q h Q) : gabionlaw07_reads.J4 r0 m q h Q :=
 xs_ok (H := gabionlaw07_reads.H) (lcuts := gabionlaw07_reads.lc) (rcuts := []) (fn := Tryz.f28) mixed Tryz.func28 2000 _ _ _ (@cast (gabionlaw07_reads.J4.wp r0 m q h Q) _ (by kernel_rfl) hk)
theorem gabionlaw07_reads.L5.ok {r0 : Option Addr} {m : Option Addr} {q : Option Addr} {t56 : Int} {t57 : Int} {h : Heap} {Q : Value → Heap → Prop} (hk : gabionlaw07_reads.L5.wp r0 m q t56 t57 h Q) : gabionlaw07_reads.L5 r0 m q t56 t57 h Q :=
 xs_ok (H := gabionlaw07_reads.H) (lcuts := gabionlaw07_reads.lc) (rcuts := gabionlaw07_reads.rc) (fn := Tryz.f28) mixed Tryz.func28 2000 _ _ _ (@cast (gabionlaw07_reads.L5.wp r0 m q t56 t57 h Q) _ (by kernel_rfl) hk)

/-! gabion/gabionlaw07.RingPlays -/
def gabionlaw07_RingPlays.H : Hn := ⟨[35, 239], [], [⟨14, .q 0 (.q 1 (.q 2 (.q 3 (.q 6 (.q 7 (.q 8 (.q 9 (.q 10 (.q 4 (.q 5 (.q 11 (.q 12 (.q 13 (.q 14 (.nil))))))))))))))), []⟩, ⟨16, .q 0 (.q 1 (.q 2 (.q 3 (.q 5 (.q 6 (.q 7 (.q 8 (.q 9 (.q 4 (.q 10 (.q 11 (.q 12 (.nil))))))))))))), []⟩, ⟨21, .q 0 (.q 1 (.q 2 (.q 3 (.q 4 (.q 5 (.q 7 (.q 8 (.q 9 (.q 10 (.q 11 (.q 12 (.q 13 (.q 6 (.q 14 (.q 15 (.q 16 (.nil))))))))))))))))), []⟩, ⟨27, .q 0 (.q 1 (.q 2 (.q 3 (.q 4 (.q 5 (.q 6 (.q 7 (.q 8 (.q 9 (.q 10 (.q 11 (.q 12 (.q 13 (.q 14 (.q 15 (.nil)))))))))))))))), []⟩], []⟩
def gabionlaw07_RingPlays.lc : List Cut := [⟨8, [5, 6, 7, 8, 10, 11, 56, 57, 58], [5]⟩]
def gabionlaw07_RingPlays.rc : List Cut := [⟨6, [1, 5, 6, 7, 8, 10], [5]⟩, ⟨21, [5, 6, 7, 8, 10, 11, 13, 16, 56, 57, 58], [5, 13]⟩, ⟨38, [5, 6, 7, 8, 10, 11, 13, 15, 56, 57, 58], [5, 13]⟩, ⟨40, [5, 6, 7, 8, 10, 11, 13, 56, 57, 58], [5, 13]⟩]
def gabionlaw07_RingPlays.J6 (acts : Option Addr) (acts_n : Nat) (acts_c : Nat) (d : Option Addr) (r0 : Option Addr) (m : Option Addr) (q : Option Addr) (p_0 : Int) (p_1 : Int) (p_2 : Int) (p_3 : Int) (h : Heap) (Q : Value → Heap → Prop) : Prop :=
 TW Tryz.prog 6 246 [.code (cAt (bodyOf Tryz.f6) [1, 1, 1, 1, 1, 0]), .code (cAt (bodyOf Tryz.f6) [1, 1, 1, 1, 1, 1])] ⟨[(1, .v (.slice acts acts_n acts_c)), (5, .p 5 0), (6, .v (.pointer d)), (7, .v (.pointer r0)), (8, .v (.pointer m)), (10, .v (.pointer q))], [(5, [.int .i64 p_0, .int .i64 p_1, .int .i64 p_2, .int .i64 p_3])]⟩ h Q
def gabionlaw07_RingPlays.L8 (d : Option Addr) (r0 : Option Addr) (m : Option Addr) (q : Option Addr) (table : Int) (t56 : Option Addr) (t56_n : Nat) (t56_c : Nat) (t57 : Int) (t58 : Int) (p_0 : Int) (p_1 : Int) (p_2 : Int) (p_3 : Int) (h : Heap) (Q : Value → Heap → Prop) : Prop :=
 TW Tryz.prog 6 246 [.code (cAt (bodyOf Tryz.f6) [1, 1, 1, 1, 1, 1, 0, 1, 0, 0]), .inLoop (cAt (bodyOf Tryz.f6) [1, 1, 1, 1, 1, 1, 0, 1, 0, 0]), .inBlock 0, .code (cAt (bodyOf Tryz.f6) [1, 1, 1, 1, 1, 1, 1])] ⟨[(5, .p 5 0), (6, .v (.pointer d)), (7, .v (.pointer r0)), (8, .v (.pointer m)), (10, .v (.pointer q)), (11, .v (.int .i64 table)), (56, .v (.slice t56 t56_n t56_c)), (57, .v (.int .i64 t57)), (58, .v (.int .i64 t58))], [(5, [.int .i64 p_0, .int .i64 p_1, .int .i64 p_2, .int .i64 p_3])]⟩ h Q
def gabionlaw07_RingPlays.J21 (d : Option Addr) (r0 : Option Addr) (m : Option Addr) (q : Option Addr) (table : Int) (k0_16 : Int) (t56 : Option Addr) (t56_n : Nat) (t56_c : Nat) (t57 : Int) (t58 : Int) (p_0 : Int) (p_1 : Int) (p_2 : Int) (p_3 : Int) (a_0 : Int) (a_1 : Int) (a_2 : Int) (a_3 : Int) (a_4 : ByteArray) (a_5 : Option Addr) (a_5_n : Nat) (a_5_c : Nat) (h : Heap) (Q : Value → Heap → Prop) : Prop :=
 TW Tryz.prog 6 246 [.code (cAt (bodyOf Tryz.f6) [1, 1, 1, 1, 1, 1, 0, 1, 0, 0, 1, 1, 0, 0, 1, 1, 1, 0, 1, 0, 1, 1, 1, 1, 1, 0, 1, 1]), .inBlock 2, .code (cAt (bodyOf Tryz.f6) [1, 1, 1, 1, 1, 1, 0, 1, 0, 0, 1, 1, 0, 0, 1, 1, 1, 1]), .inBlock 1, .code (cAt (bodyOf Tryz.f6) [1, 1, 1, 1, 1, 1, 0, 1, 0, 0, 1, 1, 1]), .inLoop (cAt (bodyOf Tryz.f6) [1, 1, 1, 1, 1, 1, 0, 1, 0, 0]), .inBlock 0, .code (cAt (bodyOf Tryz.f6) [1, 1, 1, 1, 1, 1, 1])] ⟨[(5, .p 5 0), (6, .v (.pointer d)), (7, .v (.pointer r0)), (8, .v (.pointer m)), (10, .v (.pointer q)), (11, .v (.int .i64 table)), (13, .p 13 0), (16, .v (.int .i64 k0_16)), (56, .v (.slice t56 t56_n t56_c)), (57, .v (.int .i64 t57)), (58, .v (.int .i64 t58))], [(5, [.int .i64 p_0, .int .i64 p_1, .int .i64 p_2, .int .i64 p_3]), (13, [.int .i64 a_0, .int .i64 a_1, .int .i64 a_2, .int .u64 a_3, .string a_4, .slice a_5 a_5_n a_5_c])]⟩ h Q
def gabionlaw07_RingPlays.J38 (d : Option Addr) (r0 : Option Addr) (m : Option Addr) (q : Option Addr) (table : Int) (same : Bool) (t56 : Option Addr) (t56_n : Nat) (t56_c : Nat) (t57 : Int) (t58 : Int) (p_0 : Int) (p_1 : Int) (p_2 : Int) (p_3 : Int) (a_0 : Int) (a_1 : Int) (a_2 : Int) (a_3 : Int) (a_4 : ByteArray) (a_5 : Option Addr) (a_5_n : Nat) (a_5_c : Nat) (h : Heap) (Q : Value → Heap → Prop) : Prop :=
 TW Tryz.prog 6 246 [.code (cAt (bodyOf Tryz.f6) [1, 1, 1, 1, 1, 1, 0, 1, 0, 0, 1, 1, 0, 0, 1, 1, 1, 1, 0, 0]), .code (cAt (bodyOf Tryz.f6) [1, 1, 1, 1, 1, 1, 0, 1, 0, 0, 1, 1, 0, 0, 1, 1, 1, 1, 0, 1]), .code (cAt (bodyOf Tryz.f6) [1, 1, 1, 1, 1, 1, 0, 1, 0, 0, 1, 1, 0, 0, 1, 1, 1, 1, 1]), .inBlock 1, .code (cAt (bodyOf Tryz.f6) [1, 1, 1, 1, 1, 1, 0, 1, 0, 0, 1, 1, 1]), .inLoop (cAt (bodyOf Tryz.f6) [1, 1, 1, 1, 1, 1, 0, 1, 0, 0]), .inBlock 0, .code (cAt (bodyOf Tryz.f6) [1, 1, 1, 1, 1, 1, 1])] ⟨[(5, .p 5 0), (6, .v (.pointer d)), (7, .v (.pointer r0)), (8, .v (.pointer m)), (10, .v (.pointer q)), (11, .v (.int .i64 table)), (13, .p 13 0), (15, .v (.bool same)), (56, .v (.slice t56 t56_n t56_c)), (57, .v (.int .i64 t57)), (58, .v (.int .i64 t58))], [(5, [.int .i64 p_0, .int .i64 p_1, .int .i64 p_2, .int .i64 p_3]), (13, [.int .i64 a_0, .int .i64 a_1, .int .i64 a_2, .int .u64 a_3, .string a_4, .slice a_5 a_5_n a_5_c])]⟩ h Q
def gabionlaw07_RingPlays.J40 (d : Option Addr) (r0 : Option Addr) (m : Option Addr) (q : Option Addr) (table : Int) (t56 : Option Addr) (t56_n : Nat) (t56_c : Nat) (t57 : Int) (t58 : Int) (p_0 : Int) (p_1 : Int) (p_2 : Int) (p_3 : Int) (a_0 : Int) (a_1 : Int) (a_2 : Int) (a_3 : Int) (a_4 : ByteArray) (a_5 : Option Addr) (a_5_n : Nat) (a_5_c : Nat) (h : Heap) (Q : Value → Heap → Prop) : Prop :=
 TW Tryz.prog 6 246 [.code (cAt (bodyOf Tryz.f6) [1, 1, 1, 1, 1, 1, 0, 1, 0, 0, 1, 1, 0, 0, 1, 1, 1, 1, 1, 0, 0]), .code (cAt (bodyOf Tryz.f6) [1, 1, 1, 1, 1, 1, 0, 1, 0, 0, 1, 1, 0, 0, 1, 1, 1, 1, 1, 0, 1]), .code (cAt (bodyOf Tryz.f6) [1, 1, 1, 1, 1, 1, 0, 1, 0, 0, 1, 1, 0, 0, 1, 1, 1, 1, 1, 1]), .inBlock 1, .code (cAt (bodyOf Tryz.f6) [1, 1, 1, 1, 1, 1, 0, 1, 0, 0, 1, 1, 1]), .inLoop (cAt (bodyOf Tryz.f6) [1, 1, 1, 1, 1, 1, 0, 1, 0, 0]), .inBlock 0, .code (cAt (bodyOf Tryz.f6) [1, 1, 1, 1, 1, 1, 1])] ⟨[(5, .p 5 0), (6, .v (.pointer d)), (7, .v (.pointer r0)), (8, .v (.pointer m)), (10, .v (.pointer q)), (11, .v (.int .i64 table)), (13, .p 13 0), (56, .v (.slice t56 t56_n t56_c)), (57, .v (.int .i64 t57)), (58, .v (.int .i64 t58))], [(5, [.int .i64 p_0, .int .i64 p_1, .int .i64 p_2, .int .i64 p_3]), (13, [.int .i64 a_0, .int .i64 a_1, .int .i64 a_2, .int .u64 a_3, .string a_4, .slice a_5 a_5_n a_5_c])]⟩ h Q
def gabionlaw07_RingPlays.wp (x_0 : Int) (x_1 : Int) (x_2 : Int) (x_3 : Int) (acts : Option Addr) (acts_n : Nat) (acts_c : Nat) (h : Heap) (Q : Value → Heap → Prop) : Prop :=
 C Tryz.prog 7 #[.agg #[.int .i64 x_0, .int .i64 x_1, .int .i64 x_2, .int .i64 x_3]] h fun (r : Value) (h' : Heap) =>
 ∃ (x : Int),
 ∃ (x_4 : Int),
 ∃ (x_5 : Int),
 ∃ (x_6 : Int),
 r = .agg #[.int .i64 x, .int .i64 x_4, .int .i64 x_5, .int .i64 x_6] ∧
 C Tryz.prog 22 #[.agg #[.int .i64 x, .int .i64 x_4, .int .i64 x_5, .int .i64 x_6]] h' fun (r : Value) (h' : Heap) =>
 ∃ (x_7 : Option Addr),
 ∃ (x_8 : Option Addr),
 ∃ (x_9 : Option Addr),
 ∃ (x_10 : Bool),
 r = .tuple #[.pointer x_7, .pointer x_8, .pointer x_9, .bool x_10] ∧
 ∀ (b : Nat),
 h' b = none →
 C Tryz.prog 10 #[] (upd h' b (Obj.cells #[.int .i64 x, .int .i64 x_4, .int .i64 x_5, .int .i64 x_6, .int .i64 0] 69 (0, 0)))
 fun (r : Value) (h' : Heap) =>
 ∃ (x_11 : Bool),
 r = .bool x_11 ∧
 xsIf (!x_11) (Q (.bool false) h')
 (xsIf (!x_10) (Q (.bool false) h')
 (C Tryz.prog 23 #[.pointer x_7, .pointer x_9] h' fun (r : Value) (h' : Heap) =>
 ∃ (x_12 : Bool), r = .bool x_12 ∧ xsIf (!x_12) (Q (.bool false) h') (gabionlaw07_RingPlays.J6 acts acts_n acts_c x_7 x_8 x_9 (some { block := b, off := 0 }) x x_4 x_5 x_6 h' Q)))
def gabionlaw07_RingPlays.J6.wp (acts : Option Addr) (acts_n : Nat) (acts_c : Nat) (d : Option Addr) (r0 : Option Addr) (m : Option Addr) (q : Option Addr) (p_0 : Int) (p_1 : Int) (p_2 : Int) (p_3 : Int) (h : Heap) (Q : Value → Heap → Prop) : Prop :=
 (0 ≤ imin (↑acts_n : Int) 30 ∧ imin (↑acts_n : Int) 30 ≤ (↑acts_c : Int)) ∧
 gabionlaw07_RingPlays.L8 d r0 m q (iquo .i64 (IntKind.i64.wrap (p_2 + 7)) 8) (slBase acts (↑acts_c : Int) 0 6) (imin (↑acts_n : Int) 30 - 0).toNat ((↑acts_c : Int) - 0).toNat (↑(imin (↑acts_n : Int) 30 - 0).toNat : Int) 0 p_0 p_1
 p_2 p_3 h Q
def gabionlaw07_RingPlays.L8.wp (d : Option Addr) (r0 : Option Addr) (m : Option Addr) (q : Option Addr) (table : Int) (t56 : Option Addr) (t56_n : Nat) (t56_c : Nat) (t57 : Int) (t58 : Int) (p_0 : Int) (p_1 : Int) (p_2 : Int) (p_3 : Int) (h : Heap) (Q : Value → Heap → Prop) : Prop :=
 xsIf (decide (t58 < t57))
 ((0 ≤ t58 ∧ t58 < (↑t56_n : Int)) ∧
 atBase t56 fun (b o : Nat) =>
 ∃ (x : Int),
 h.cell b (o + t58.toNat * 6) = some (.int .i64 x) ∧
 ∃ (x_1 : Int),
 h.cell b (o + t58.toNat * 6 + 1) = some (.int .i64 x_1) ∧
 ∃ (x_2 : Int),
 h.cell b (o + t58.toNat * 6 + 1 + 1) = some (.int .i64 x_2) ∧
 ∃ (x_3 : Int),
 h.cell b (o + t58.toNat * 6 + 1 + 1 + 1) = some (.int .u64 x_3) ∧
 ∃ (x_4 : ByteArray),
 h.cell b (o + t58.toNat * 6 + 1 + 1 + 1 + 1) = some (.string x_4) ∧
 ∃ (x_5 : Option Addr),
 ∃ (n : Nat),
 ∃ (m_1 : Nat),
 h.cell b (o + t58.toNat * 6 + 1 + 1 + 1 + 1 + 1) = some (.slice x_5 n m_1) ∧
 (0 ≤ imin (↑x_4.size : Int) 80 ∧ imin (↑x_4.size : Int) 80 ≤ (↑x_4.size : Int)) ∧
 xsIf (decide (irem (imax 0 x) 7 = 0))
 (C Tryz.prog 14 #[.string (sext x_4 0 (imin (↑x_4.size : Int) 80))] h fun (r : Value) (h' : Heap) =>
 ∃ (x_6 : ByteArray),
 r = .string x_6 ∧
 C Tryz.prog 13 #[.pointer r0, .int .i64 x_1, .string x_6] h' fun (r : Value) (h' : Heap) =>
 ∃ (x_7 : Int),
 r = .int .i64 x_7 ∧
 C Tryz.prog 14 #[.string (sext x_4 0 (imin (↑x_4.size : Int) 80))] h' fun (r : Value) (h' : Heap) =>
 ∃ (x_8 : ByteArray),
 r = .string x_8 ∧
 C Tryz.prog 24 #[.pointer m, .pointer q, .int .i64 x_1, .string x_8, .int .i64 (-1), .int .u64 0] h'
 fun (r : Value) (h' : Heap) =>
 ∃ (x_9 : Int), r = .int .i64 x_9 ∧ gabionlaw07_RingPlays.J38 d r0 m q table (decide (x_7 = x_9)) t56 t56_n t56_c t57 t58 p_0 p_1 p_2 p_3 x x_1 x_2 x_3 x_4 x_5 n m_1 h' Q)
 (xsIf (decide (irem (imax 0 x) 7 = 1))
 (C Tryz.prog 13 #[.pointer r0, .int .i64 x_1, .string (sext x_4 0 (imin (↑x_4.size : Int) 80))] h fun (r : Value) (h' : Heap) =>
 ∃ (x_6 : Int),
 r = .int .i64 x_6 ∧
 C Tryz.prog 24
 #[.pointer m, .pointer q, .int .i64 x_1, .string (sext x_4 0 (imin (↑x_4.size : Int) 80)), .int .i64 (-1), .int .u64 0] h'
 fun (r : Value) (h' : Heap) =>
 ∃ (x_7 : Int), r = .int .i64 x_7 ∧ gabionlaw07_RingPlays.J38 d r0 m q table (decide (x_6 = x_7)) t56 t56_n t56_c t57 t58 p_0 p_1 p_2 p_3 x x_1 x_2 x_3 x_4 x_5 n m_1 h' Q)
 (xsIf (decide (irem (imax 0 x) 7 = 2))
 (xsIf (decide (x_2 < 0)) (gabionlaw07_RingPlays.J21 d r0 m q table 8 t56 t56_n t56_c t57 t58 p_0 p_1 p_2 p_3 x x_1 x_2 x_3 x_4 x_5 n m_1 h Q)
 (gabionlaw07_RingPlays.J21 d r0 m q table x_2 t56 t56_n t56_c t57 t58 p_0 p_1 p_2 p_3 x x_1 x_2 x_3 x_4 x_5 n m_1 h Q))
 (xsIf (decide (irem (imax 0 x) 7 = 3))
 (C Tryz.prog 17 #[.pointer r0, .int .i64 x_1] h fun (r : Value) (h' : Heap) =>
 ∃ (x_6 : ByteArray),
 ∃ (x_7 : Int),
 r = .tuple #[.string x_6, .int .i64 x_7] ∧
 C Tryz.prog 25
 #[.pointer m, .agg #[.int .i64 p_0, .int .i64 p_1, .int .i64 p_2, .int .i64 p_3], .int .i64 x_1]
 h' fun (r : Value) (h' : Heap) =>
 ∃ (x_8 : ByteArray),
 ∃ (x_9 : Int),
 r = .tuple #[.string x_8, .int .i64 x_9] ∧
 xsIf (decide (x_6 = x_8)) (gabionlaw07_RingPlays.J38 d r0 m q table (decide (x_7 = x_9)) t56 t56_n t56_c t57 t58 p_0 p_1 p_2 p_3 x x_1 x_2 x_3 x_4 x_5 n m_1 h' Q)
 (gabionlaw07_RingPlays.J38 d r0 m q table false t56 t56_n t56_c t57 t58 p_0 p_1 p_2 p_3 x x_1 x_2 x_3 x_4 x_5 n m_1 h' Q))
 (xsIf (decide (irem (imax 0 x) 7 = 4))
 (IntKind.i64.wrap (IntKind.i64.wrap (p_1 + 2) + p_2) ≠ 0 ∧
 C Tryz.prog 18
 #[.pointer d, .int .i64 (IntKind.i64.wrap (IntKind.i64.wrap (p_0 + table) + irem (imax 0 x_1) (IntKind.i64.wrap (IntKind.i64.wrap (p_1 + 2) + p_2))))] h
 fun (r : Value) (h' : Heap) =>
 atBase m fun (b o : Nat) =>
 ∃ (x_6 : Option Addr),
 ∃ (n_1 : Nat),
 ∃ (m_2 : Nat),
 h'.cell b (o + 2) = some (.slice x_6 n_1 m_2) ∧
 (0 ≤ IntKind.i64.wrap (IntKind.i64.wrap (p_0 + table) + irem (imax 0 x_1) (IntKind.i64.wrap (IntKind.i64.wrap (p_1 + 2) + p_2))) ∧
 IntKind.i64.wrap (IntKind.i64.wrap (p_0 + table) + irem (imax 0 x_1) (IntKind.i64.wrap (IntKind.i64.wrap (p_1 + 2) + p_2))) < (↑n_1 : Int)) ∧
 atBase x_6 fun (b o : Nat) =>
 h'.can b (o + (IntKind.i64.wrap (IntKind.i64.wrap (p_0 + table) + irem (imax 0 x_1) (IntKind.i64.wrap (IntKind.i64.wrap (p_1 + 2) + p_2)))).toNat * 1) 1 ∧
 gabionlaw07_RingPlays.J38 d r0 m q table true t56 t56_n t56_c t57 t58 p_0 p_1 p_2 p_3 x x_1 x_2 x_3 x_4 x_5 n m_1
 (h'.put b (o + (IntKind.i64.wrap (IntKind.i64.wrap (p_0 + table) + irem (imax 0 x_1) (IntKind.i64.wrap (IntKind.i64.wrap (p_1 + 2) + p_2)))).toNat * 1) [.bool true])
 Q)
 (xsIf (decide (irem (imax 0 x) 7 = 5))
 (C Tryz.prog 19 #[.pointer d, .int .i64 x_2] h fun (r : Value) (h' : Heap) =>
 atBase m fun (b o : Nat) =>
 h'.can b (o + 3) 1 ∧
 gabionlaw07_RingPlays.J38 d r0 m q table true t56 t56_n t56_c t57 t58 p_0 p_1 p_2 p_3 x x_1 x_2 x_3 x_4 x_5 n m_1 (h'.put b (o + 3) [.int .i64 (imax x_2 0)]) Q)
 (xsIf (decide (irem (imax 0 x) 7 = 6))
 (atBase m fun (b o : Nat) =>
 h.can b (o + 4) 1 ∧
 C Tryz.prog 19 #[.pointer d, .int .i64 1] (h.put b (o + 4) [.bool true]) fun (r : Value) (h' : Heap) =>
 C Tryz.prog 26 #[.pointer d] h' fun (r : Value) (h' : Heap) =>
 ∃ (x_6 : Int),
 r = .int .i64 x_6 ∧
 atBase m fun (b o : Nat) =>
 h'.can b (o + 3) 1 ∧
 gabionlaw07_RingPlays.J38 d r0 m q table true t56 t56_n t56_c t57 t58 p_0 p_1 p_2 p_3 x x_1 x_2 x_3 x_4 x_5 n m_1 (h'.put b (o + 3) [.int .i64 0]) Q)
 (gabionlaw07_RingPlays.J38 d r0 m q table true t56 t56_n t56_c t57 t58 p_0 p_1 p_2 p_3 x x_1 x_2 x_3 x_4 x_5 n m_1 h Q))))))))
 (Q (.bool true) h)
def gabionlaw07_RingPlays.J21.wp (d : Option Addr) (r0 : Option Addr) (m : Option Addr) (q : Option Addr) (table : Int) (k0_16 : Int) (t56 : Option Addr) (t56_n : Nat) (t56_c : Nat) (t57 : Int) (t58 : Int) (p_0 : Int) (p_1 : Int) (p_2 : Int) (p_3 : Int) (a_0 : Int) (a_1 : Int) (a_2 : Int) (a_3 : Int) (a_4 : ByteArray) (a_5 : Option Addr) (a_5_n : Nat) (a_5_c : Nat) (h : Heap) (Q : Value → Heap → Prop) : Prop :=
 C Tryz.prog 16 #[.pointer r0, .int .i64 a_1, .int .i64 k0_16, .int .u64 a_3] h fun (r : Value) (h' : Heap) =>
 ∃ (x : Int),
 r = .int .i64 x ∧
 C Tryz.prog 24 #[.pointer m, .pointer q, .int .i64 a_1, .string { data := #[] }, .int .i64 k0_16, .int .u64 a_3] h' fun (r : Value) (h' : Heap) =>
 ∃ (x_1 : Int), r = .int .i64 x_1 ∧ gabionlaw07_RingPlays.J38 d r0 m q table (decide (x = x_1)) t56 t56_n t56_c t57 t58 p_0 p_1 p_2 p_3 a_0 a_1 a_2 a_3 a_4 a_5 a_5_n a_5_c h' Q
def gabionlaw07_RingPlays.J38.wp (d : Option Addr) (r0 : Option Addr) (m : Option Addr) (q : Option Addr) (table : Int) (same : Bool) (t56 : Option Addr) (t56_n : Nat) (t56_c : Nat) (t57 : Int) (t58 : Int) (p_0 : Int) (p_1 : Int) (p_2 : Int) (p_3 : Int) (a_0 : Int) (a_1 : Int) (a_2 : Int) (a_3 : Int) (a_4 : ByteArray) (a_5 : Option Addr) (a_5_n : Nat) (a_5_c : Nat) (h : Heap) (Q : Value → Heap → Prop) : Prop :=
 xsIf (!same) (Q (.bool false) h)
 (C Tryz.prog 23 #[.pointer d, .pointer m] h fun (r : Value) (h' : Heap) =>
 ∃ (x : Bool), r = .bool x ∧ xsIf (!x) (Q (.bool false) h') (gabionlaw07_RingPlays.J40 d r0 m q table t56 t56_n t56_c t57 t58 p_0 p_1 p_2 p_3 a_0 a_1 a_2 a_3 a_4 a_5 a_5_n a_5_c h' Q))
def gabionlaw07_RingPlays.J40.wp (d : Option Addr) (r0 : Option Addr) (m : Option Addr) (q : Option Addr) (table : Int) (t56 : Option Addr) (t56_n : Nat) (t56_c : Nat) (t57 : Int) (t58 : Int) (p_0 : Int) (p_1 : Int) (p_2 : Int) (p_3 : Int) (a_0 : Int) (a_1 : Int) (a_2 : Int) (a_3 : Int) (a_4 : ByteArray) (a_5 : Option Addr) (a_5_n : Nat) (a_5_c : Nat) (h : Heap) (Q : Value → Heap → Prop) : Prop :=
 atBase m fun (b o : Nat) =>
 ∃ (x : Bool),
 h.cell b (o + 4) = some (.bool x) ∧
 xsIf x
 ((0 ≤ imin (↑a_5_n : Int) 30 ∧ imin (↑a_5_n : Int) 30 ≤ (↑a_5_c : Int)) ∧
 C Tryz.prog 20 #[.pointer d, .slice (slBase a_5 (↑a_5_c : Int) 0 1) (imin (↑a_5_n : Int) 30 - 0).toNat ((↑a_5_c : Int) - 0).toNat] h fun (r : Value) (h' : Heap) =>
 C Tryz.prog 27 #[.pointer m, .slice (slBase a_5 (↑a_5_c : Int) 0 1) (imin (↑a_5_n : Int) 30 - 0).toNat ((↑a_5_c : Int) - 0).toNat] h' fun (r : Value) (h' : Heap) =>
 C Tryz.prog 11 #[.pointer d, .agg #[.int .i64 p_0, .int .i64 p_1, .int .i64 p_2, .int .i64 p_3]] h' fun (r : Value) (h' : Heap) =>
 ∃ (x : Option Addr),
 ∃ (x_1 : Int),
 r = .tuple #[.pointer x, .int .i64 x_1] ∧
 xsIf (decide (x_1 ≠ 0)) (Q (.bool false) h')
 (xsIf x.isNone (Q (.bool false) h')
 (∀ (b : Nat),
 h' b = none →
 C Tryz.prog 28 #[.pointer x, .pointer m, .pointer (some { block := b, off := 0 })]
 (upd h' b (Obj.cells #[.int .i64 p_0, .int .i64 p_1, .int .i64 p_2, .int .i64 p_3, .int .i64 0] 69 (0, 0)))
 fun (r : Value) (h' : Heap) =>
 ∃ (x_2 : Bool),
 r = .bool x_2 ∧ xsIf (!x_2) (Q (.bool false) h') (gabionlaw07_RingPlays.L8 d x m (some { block := b, off := 0 }) table t56 t56_n t56_c t57 (IntKind.i64.wrap (t58 + 1)) p_0 p_1 p_2 p_3 h' Q))))
 (C Tryz.prog 28 #[.pointer r0, .pointer m, .pointer q] h fun (r : Value) (h' : Heap) =>
 ∃ (x : Bool), r = .bool x ∧ xsIf (!x) (Q (.bool false) h') (gabionlaw07_RingPlays.L8 d r0 m q table t56 t56_n t56_c t57 (IntKind.i64.wrap (t58 + 1)) p_0 p_1 p_2 p_3 h' Q))
theorem gabionlaw07_RingPlays.ok {x_0 : Int} {x_1 : Int} {x_2 : Int} {x_3 : Int} {acts : Option Addr} {acts_n : Nat} {acts_c : Nat} {h : Heap} {Q : Value → Heap → Prop} (hk : gabionlaw07_RingPlays.wp x_0 x_1 x_2 x_3 acts acts_n acts_c h Q) : C Tryz.prog 6 #[.agg #[.int .i64 x_0, .int .i64 x_1, .int .i64 x_2, .int .i64 x_3], .slice acts acts_n acts_c] h Q :=
 C_of_xs (H := gabionlaw07_RingPlays.H) (lcuts := gabionlaw07_RingPlays.lc) (rcuts := gabionlaw07_RingPlays.rc) (l := [.agg #[.int .i64 x_0, .int .i64 x_1, .int .i64 x_2, .int .i64 x_3], .slice acts acts_n acts_c]) 2000 mixed Tryz.func6 rfl (by kernel_rfl) (@cast (gabionlaw07_RingPlays.wp x_0 x_1 x_2 x_3 acts acts_n acts_c h Q) _ (by kernel_rfl) hk)
theorem gabionlaw07_RingPlays.J6.ok {acts : Option Addr} {acts_n : Nat} {acts_c : Nat} {d : Option Addr} {r0 : Option Addr} {m : Option Addr} {q : Option Addr} {p_0 : Int} {p_1 : Int} {p_2 : Int} {p_3 : Int} {h : Heap} {Q : Value → Heap → Prop} (hk : gabionlaw07_RingPlays.J6.wp acts acts_n acts_c d r0 m q p_0 p_1 p_2 p_3 h Q) : gabionlaw07_RingPlays.J6 acts acts_n acts_c d r0 m q p_0 p_1 p_2 p_3 h Q :=
 xs_ok (H := gabionlaw07_RingPlays.H) (lcuts := gabionlaw07_RingPlays.lc) (rcuts := [⟨21, [5, 6, 7, 8, 10, 11, 13, 16, 56, 57, 58], [5, 13]⟩, ⟨38, [5, 6, 7, 8, 10, 11, 13, 15, 56, 57, 58], [5, 13]⟩, ⟨40, [5, 6, 7, 8, 10, 11, 13, 56, 57, 58], [5, 13]⟩]) (fn := Tryz.f6) mixed Tryz.func6 2000 _ _ _ (@cast (gabionlaw07_RingPlays.J6.wp acts acts_n acts_c d r0 m q p_0 p_1 p_2 p_3 h Q) _ (by kernel_rfl) hk)
theorem gabionlaw07_RingPlays.L8.ok {d : Option Addr} {r0 : Option Addr} {m : Option Addr} {q : Option Addr} {table : Int} {t56 : Option Addr} {t56_n : Nat} {t56_c : Nat} {t57 : Int} {t58 : Int} {p_0 : Int} {p_1 : Int} {p_2 : Int} {p_3 : Int} {h : Heap} {Q : Value → Heap → Prop} (hk : gabionlaw07_RingPlays.L8.wp d r0 m q table t56 t56_n t56_c t57 t58 p_0 p_1 p_2 p_3 h Q) : gabionlaw07_RingPlays.L8 d r0 m q table t56 t56_n t56_c t57 t58 p_0 p_1 p_2 p_3 h Q :=
 xs_ok (H := gabionlaw07_RingPlays.H) (lcuts := gabionlaw07_RingPlays.lc) (rcuts := gabionlaw07_RingPlays.rc) (fn := Tryz.f6) mixed Tryz.func6 2000 _ _ _ (@cast (gabionlaw07_RingPlays.L8.wp d r0 m q table t56 t56_n t56_c t57 t58 p_0 p_1 p_2 p_3 h Q) _ (by kernel_rfl) hk)
theorem gabionlaw07_RingPlays.J21.ok {d : Option Addr} {r0 : Option Addr} {m : Option Addr} {q : Option Addr} {table : Int} {k0_16 : Int} {t56 : Option Addr} {t56_n : Nat} {t56_c : Nat} {t57 : Int} {t58 : Int} {p_0 : Int} {p_1 : Int} {p_2 : Int} {p_3 : Int} {a_0 : Int} {a_1 : Int} {a_2 : Int} {a_3 : Int} {a_4 : ByteArray} {a_5 : Option Addr} {a_5_n : Nat} {a_5_c : Nat} {h : Heap} {Q : Value → Heap → Prop} (hk : gabionlaw07_RingPlays.J21.wp d r0 m q table k0_16 t56 t56_n t56_c t57 t58 p_0 p_1 p_2 p_3 a_0 a_1 a_2 a_3 a_4 a_5 a_5_n a_5_c h Q) : gabionlaw07_RingPlays.J21 d r0 m q table k0_16 t56 t56_n t56_c t57 t58 p_0 p_1 p_2 p_3 a_0 a_1 a_2 a_3 a_4 a_5 a_5_n a_5_c h Q :=
 xs_ok (H := gabionlaw07_RingPlays.H) (lcuts := gabionlaw07_RingPlays.lc) (rcuts := [⟨6, [1, 5, 6, 7, 8, 10], [5]⟩, ⟨38, [5, 6, 7, 8, 10, 11, 13, 15, 56, 57, 58], [5, 13]⟩, ⟨40, [5, 6, 7, 8, 10, 11, 13, 56, 57, 58], [5, 13]⟩]) (fn := Tryz.f6) mixed Tryz.func6 2000 _ _ _ (@cast (gabionlaw07_RingPlays.J21.wp d r0 m q table k0_16 t56 t56_n t56_c t57 t58 p_0 p_1 p_2 p_3 a_0 a_1 a_2 a_3 a_4 a_5 a_5_n a_5_c h Q) _ (by kernel_rfl) hk)
theorem gabionlaw07_RingPlays.J38.ok {d : Option Addr} {r0 : Option Addr} {m : Option Addr} {q : Option Addr} {table : Int} {same : Bool} {t56 : Option Addr} {t56_n : Nat} {t56_c : Nat} {t57 : Int} {t58 : Int} {p_0 : Int} {p_1 : Int} {p_2 : Int} {p_3 : Int} {a_0 : Int} {a_1 : Int} {a_2 : Int} {a_3 : Int} {a_4 : ByteArray} {a_5 : Option Addr} {a_5_n : Nat} {a_5_c : Nat} {h : Heap} {Q : Value → Heap → Prop} (hk : gabionlaw07_RingPlays.J38.wp d r0 m q table same t56 t56_n t56_c t57 t58 p_0 p_1 p_2 p_3 a_0 a_1 a_2 a_3 a_4 a_5 a_5_n a_5_c h Q) : gabionlaw07_RingPlays.J38 d r0 m q table same t56 t56_n t56_c t57 t58 p_0 p_1 p_2 p_3 a_0 a_1 a_2 a_3 a_4 a_5 a_5_n a_5_c h Q :=
 xs_ok (H := gabionlaw07_RingPlays.H) (lcuts := gabionlaw07_RingPlays.lc) (rcuts := [⟨6, [1, 5, 6, 7, 8, 10], [5]⟩, ⟨21, [5, 6, 7, 8, 10, 11, 13, 16, 56, 57, 58], [5, 13]⟩, ⟨40, [5, 6, 7, 8, 10, 11, 13, 56, 57, 58], [5, 13]⟩]) (fn := Tryz.f6) mixed Tryz.func6 2000 _ _ _ (@cast (gabionlaw07_RingPlays.J38.wp d r0 m q table same t56 t56_n t56_c t57 t58 p_0 p_1 p_2 p_3 a_0 a_1 a_2 a_3 a_4 a_5 a_5_n a_5_c h Q) _ (by kernel_rfl) hk)
theorem gabionlaw07_RingPlays.J40.ok {d : Option Addr} {r0 : Option Addr} {m : Option Addr} {q : Option Addr} {table : Int} {t56 : Option Addr} {t56_n : Nat} {t56_c : Nat} {t57 : Int} {t58 : Int} {p_0 : Int} {p_1 : Int} {p_2 : Int} {p_3 : Int} {a_0 : Int} {a_1 : Int} {a_2 : Int} {a_3 : Int} {a_4 : ByteArray} {a_5 : Option Addr} {a_5_n : Nat} {a_5_c : Nat} {h : Heap} {Q : Value → Heap → Prop} (hk : gabionlaw07_RingPlays.J40.wp d r0 m q table t56 t56_n t56_c t57 t58 p_0 p_1 p_2 p_3 a_0 a_1 a_2 a_3 a_4 a_5 a_5_n a_5_c h Q) : gabionlaw07_RingPlays.J40 d r0 m q table t56 t56_n t56_c t57 t58 p_0 p_1 p_2 p_3 a_0 a_1 a_2 a_3 a_4 a_5 a_5_n a_5_c h Q :=
 xs_ok (H := gabionlaw07_RingPlays.H) (lcuts := gabionlaw07_RingPlays.lc) (rcuts := [⟨6, [1, 5, 6, 7, 8, 10], [5]⟩, ⟨21, [5, 6, 7, 8, 10, 11, 13, 16, 56, 57, 58], [5, 13]⟩, ⟨38, [5, 6, 7, 8, 10, 11, 13, 15, 56, 57, 58], [5, 13]⟩]) (fn := Tryz.f6) mixed Tryz.func6 2000 _ _ _ (@cast (gabionlaw07_RingPlays.J40.wp d r0 m q table t56 t56_n t56_c t57 t58 p_0 p_1 p_2 p_3 a_0 a_1 a_2 a_3 a_4 a_5 a_5_n a_5_c h Q) _ (by kernel_rfl) hk)
end Go.Gb
