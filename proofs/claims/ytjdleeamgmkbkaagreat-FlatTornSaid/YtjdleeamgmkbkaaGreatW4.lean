/- Own text for the seat: W4. -/
import Derived.Test.YtjdleeamgmkbkaaGreatW3
set_option linter.unusedVariables false
set_option linter.unusedSimpArgs false
set_option linter.unnecessarySimpa false
set_option linter.deprecated false
set_option maxRecDepth 100000
namespace Go.Gb
open Go.Proofs

/-! gabion/gabionlaw09.FlatAlike -/
/-! (*gabion/ring.Ring).Where -/
/-! (*gabion/flat.Flat).Where -/
/-! (*gabion/pm.Device).is -/
/-! (*gabion/pm.Device).Break -/
/-! (*gabion/flat.Flat).ring -/
/-! (*gabion/ring.Ring).Left -/
/-! (*gabion/flat.Flat).Left -/
/-! gabion/gabionlaw09.FlatKeeps -/
/-! (*gabion/pm.Device).Fuse -/
def pm_Device_Fuse.H : Hn := ⟨[], [], [], []⟩
def pm_Device_Fuse.lc : List Cut := []
def pm_Device_Fuse.rc : List Cut := []
def pm_Device_Fuse.wp (d : Option Addr) (n : Int) (h : Heap) (Q : Value → Heap → Prop) : Prop :=
 xsIf (!d.isNone) (atBase d fun (b o : Nat) => h.can b (o + 4) 1 ∧ Q (.tuple #[]) (h.put b (o + 4) [.int .i64 (imax n 0)])) (Q (.tuple #[]) h)
theorem pm_Device_Fuse.ok {d : Option Addr} {n : Int} {h : Heap} {Q : Value → Heap → Prop} (hk : pm_Device_Fuse.wp d n h Q) : C Tryz.prog 29 #[.pointer d, .int .i64 n] h Q :=
 C_of_xs (H := pm_Device_Fuse.H) (lcuts := pm_Device_Fuse.lc) (rcuts := pm_Device_Fuse.rc) (l := [.pointer d, .int .i64 n]) 2000 mixed Tryz.func29 rfl (by kernel_rfl) (@cast (pm_Device_Fuse.wp d n h Q) _ (by kernel_rfl) hk)

/-! (*gabion/pm.Device).Boot -/
def pm_Device_Boot.H : Hn := ⟨[], [], [], []⟩
def pm_Device_Boot.lc : List Cut := [⟨3, [0, 1, 4, 10, 11, 12], []⟩]
def pm_Device_Boot.rc : List Cut := [⟨7, [0, 1, 4, 10, 11, 12], []⟩]
def pm_Device_Boot.L3 (d : Option Addr) (keep : Option Addr) (keep_n : Nat) (keep_c : Nat) (kept : Option Addr) (kept_n : Nat) (kept_c : Nat) (t10 : Option Addr) (t10_n : Nat) (t10_c : Nat) (t11 : Int) (t12 : Int) (h : Heap) (Q : Value → Heap → Prop) : Prop :=
 TW Tryz.prog 30 45 [.code (cAt (bodyOf Tryz.f30) [1, 1, 0, 1, 0, 0]), .inLoop (cAt (bodyOf Tryz.f30) [1, 1, 0, 1, 0, 0]), .inBlock 0, .code (cAt (bodyOf Tryz.f30) [1, 1, 1])] ⟨[(0, .v (.pointer d)), (1, .v (.slice keep keep_n keep_c)), (4, .v (.slice kept kept_n kept_c)), (10, .v (.slice t10 t10_n t10_c)), (11, .v (.int .i64 t11)), (12, .v (.int .i64 t12))], []⟩ h Q
def pm_Device_Boot.J7 (d : Option Addr) (keep : Option Addr) (keep_n : Nat) (keep_c : Nat) (kept : Option Addr) (kept_n : Nat) (kept_c : Nat) (t10 : Option Addr) (t10_n : Nat) (t10_c : Nat) (t11 : Int) (t12 : Int) (h : Heap) (Q : Value → Heap → Prop) : Prop :=
 TW Tryz.prog 30 45 [.code (cAt (bodyOf Tryz.f30) [1, 1, 0, 1, 0, 0, 1, 1, 1]), .inLoop (cAt (bodyOf Tryz.f30) [1, 1, 0, 1, 0, 0]), .inBlock 0, .code (cAt (bodyOf Tryz.f30) [1, 1, 1])] ⟨[(0, .v (.pointer d)), (1, .v (.slice keep keep_n keep_c)), (4, .v (.slice kept kept_n kept_c)), (10, .v (.slice t10 t10_n t10_c)), (11, .v (.int .i64 t11)), (12, .v (.int .i64 t12))], []⟩ h Q
def pm_Device_Boot.wp (d : Option Addr) (keep : Option Addr) (keep_n : Nat) (keep_c : Nat) (h : Heap) (Q : Value → Heap → Prop) : Prop :=
 xsIf d.isNone (Q (.tuple #[]) h)
 (C Tryz.prog 92 #[.pointer d] h fun (r : Value) (h' : Heap) => ∃ (x : Option Addr), ∃ (n : Nat), ∃ (m : Nat), r = .slice x n m ∧ pm_Device_Boot.L3 d keep keep_n keep_c none 0 0 x n m (↑n : Int) 0 h' Q)
def pm_Device_Boot.L3.wp (d : Option Addr) (keep : Option Addr) (keep_n : Nat) (keep_c : Nat) (kept : Option Addr) (kept_n : Nat) (kept_c : Nat) (t10 : Option Addr) (t10_n : Nat) (t10_c : Nat) (t11 : Int) (t12 : Int) (h : Heap) (Q : Value → Heap → Prop) : Prop :=
 xsIf (decide (t12 < t11))
 ((0 ≤ t12 ∧ t12 < (↑t10_n : Int)) ∧
 atBase t10 fun (b o : Nat) =>
 ∃ (x : Int),
 h.cell b (o + t12.toNat * 1) = some (.int .i64 x) ∧
 xsIf (decide (t12 < (↑keep_n : Int)))
 ((0 ≤ t12 ∧ t12 < (↑keep_n : Int)) ∧
 atBase keep fun (b o : Nat) =>
 ∃ (x_1 : Bool),
 h.cell b (o + t12.toNat * 1) = some (.bool x_1) ∧
 xsIf x_1
 (∀ (b : Nat),
 h b = none →
 xsApp Tryz.prog 3 (upd h b (Obj.cells #[.int .i64 x] 3 (0, 0))) kept kept_n kept_c (some { block := b, off := 0 }) 1 fun (a' : Option Addr) (n' c' : Nat) (h' : Heap) =>
 pm_Device_Boot.J7 d keep keep_n keep_c a' n' c' t10 t10_n t10_c t11 t12 h' Q)
 (pm_Device_Boot.J7 d keep keep_n keep_c kept kept_n kept_c t10 t10_n t10_c t11 t12 h Q))
 (pm_Device_Boot.J7 d keep keep_n keep_c kept kept_n kept_c t10 t10_n t10_c t11 t12 h Q))
 (C Tryz.prog 93 #[.pointer d, .slice kept kept_n kept_c] h fun (r : Value) (h' : Heap) =>
 atBase d fun (b o : Nat) =>
 ∃ (x : Option Nat),
 h'.cell b (o + 1) = some (Value.map x) ∧
 atMap x fun (r : Nat) =>
 ∃ (l : List (Int × Value × Nat)),
 ∃ (c : Nat),
 h' r = some (mapO (.int .i64) l c) ∧
 atBase d fun (b o : Nat) =>
 (upd h' r (mapO (.int .i64) [] c)).can b (o + 5) 1 ∧
 atBase d fun (b_1 o_1 : Nat) =>
 ((upd h' r (mapO (.int .i64) [] c)).put b (o + 5) [.bool false]).can b_1 (o_1 + 4) 1 ∧
 Q (.tuple #[]) (((upd h' r (mapO (.int .i64) [] c)).put b (o + 5) [.bool false]).put b_1 (o_1 + 4) [.int .i64 0]))
def pm_Device_Boot.J7.wp (d : Option Addr) (keep : Option Addr) (keep_n : Nat) (keep_c : Nat) (kept : Option Addr) (kept_n : Nat) (kept_c : Nat) (t10 : Option Addr) (t10_n : Nat) (t10_c : Nat) (t11 : Int) (t12 : Int) (h : Heap) (Q : Value → Heap → Prop) : Prop :=
 pm_Device_Boot.L3 d keep keep_n keep_c kept kept_n kept_c t10 t10_n t10_c t11 (IntKind.i64.wrap (t12 + 1)) h Q
theorem pm_Device_Boot.ok {d : Option Addr} {keep : Option Addr} {keep_n : Nat} {keep_c : Nat} {h : Heap} {Q : Value → Heap → Prop} (hk : pm_Device_Boot.wp d keep keep_n keep_c h Q) : C Tryz.prog 30 #[.pointer d, .slice keep keep_n keep_c] h Q :=
 C_of_xs (H := pm_Device_Boot.H) (lcuts := pm_Device_Boot.lc) (rcuts := pm_Device_Boot.rc) (l := [.pointer d, .slice keep keep_n keep_c]) 2000 mixed Tryz.func30 rfl (by kernel_rfl) (@cast (pm_Device_Boot.wp d keep keep_n keep_c h Q) _ (by kernel_rfl) hk)
theorem pm_Device_Boot.L3.ok {d : Option Addr} {keep : Option Addr} {keep_n : Nat} {keep_c : Nat} {kept : Option Addr} {kept_n : Nat} {kept_c : Nat} {t10 : Option Addr} {t10_n : Nat} {t10_c : Nat} {t11 : Int} {t12 : Int} {h : Heap} {Q : Value → Heap → Prop} (hk : pm_Device_Boot.L3.wp d keep keep_n keep_c kept kept_n kept_c t10 t10_n t10_c t11 t12 h Q) : pm_Device_Boot.L3 d keep keep_n keep_c kept kept_n kept_c t10 t10_n t10_c t11 t12 h Q :=
 xs_ok (H := pm_Device_Boot.H) (lcuts := pm_Device_Boot.lc) (rcuts := pm_Device_Boot.rc) (fn := Tryz.f30) mixed Tryz.func30 2000 _ _ _ (@cast (pm_Device_Boot.L3.wp d keep keep_n keep_c kept kept_n kept_c t10 t10_n t10_c t11 t12 h Q) _ (by kernel_rfl) hk)
theorem pm_Device_Boot.J7.ok {d : Option Addr} {keep : Option Addr} {keep_n : Nat} {keep_c : Nat} {kept : Option Addr} {kept_n : Nat} {kept_c : Nat} {t10 : Option Addr} {t10_n : Nat} {t10_c : Nat} {t11 : Int} {t12 : Int} {h : Heap} {Q : Value → Heap → Prop} (hk : pm_Device_Boot.J7.wp d keep keep_n keep_c kept kept_n kept_c t10 t10_n t10_c t11 t12 h Q) : pm_Device_Boot.J7 d keep keep_n keep_c kept kept_n kept_c t10 t10_n t10_c t11 t12 h Q :=
 xs_ok (H := pm_Device_Boot.H) (lcuts := pm_Device_Boot.lc) (rcuts := []) (fn := Tryz.f30) mixed Tryz.func30 2000 _ _ _ (@cast (pm_Device_Boot.J7.wp d keep keep_n keep_c kept kept_n kept_c t10 t10_n t10_c t11 t12 h Q) _ (by kernel_rfl) hk)

/-! gabion/line.Mixed -/
def line_Mixed.H : Hn := ⟨[], [7, 9], [], []⟩
def line_Mixed.lc : List Cut := [⟨7, [7, 9, 40, 41], [7, 9]⟩]
def line_Mixed.rc : List Cut := [⟨6, [7, 9, 11], [7, 9, 11]⟩]
def line_Mixed.J6 (a : List Value) (b : List Value) (c_0 : Int) (c_1 : Int) (c_2 : Int) (c_3 : Int) (c_4 : Int) (c_5 : Int) (c_6 : Int) (c_7 : Int) (h : Heap) (Q : Value → Heap → Prop) : Prop :=
 TW Tryz.prog 31 58 [.code (cAt (bodyOf Tryz.f31) [1, 1, 1, 1, 1, 0, 0]), .code (cAt (bodyOf Tryz.f31) [1, 1, 1, 1, 1, 0, 1]), .code (cAt (bodyOf Tryz.f31) [1, 1, 1, 1, 1, 1])] ⟨[(7, .p 7 0), (9, .p 9 0), (11, .p 11 0)], [(7, a), (9, b), (11, [.int .u64 c_0, .int .u64 c_1, .int .u64 c_2, .int .u64 c_3, .int .u64 c_4, .int .u64 c_5, .int .u64 c_6, .int .u64 c_7])]⟩ h Q
def line_Mixed.L7 (t40_0 : Int) (t40_1 : Int) (t40_2 : Int) (t40_3 : Int) (t40_4 : Int) (t40_5 : Int) (t40_6 : Int) (t40_7 : Int) (t41 : Int) (a : List Value) (b : List Value) (h : Heap) (Q : Value → Heap → Prop) : Prop :=
 TW Tryz.prog 31 58 [.code (cAt (bodyOf Tryz.f31) [1, 1, 1, 1, 1, 0, 1, 0, 0]), .inLoop (cAt (bodyOf Tryz.f31) [1, 1, 1, 1, 1, 0, 1, 0, 0]), .inBlock 0, .code (cAt (bodyOf Tryz.f31) [1, 1, 1, 1, 1, 1])] ⟨[(7, .p 7 0), (9, .p 9 0), (40, .v (.agg #[.int .u64 t40_0, .int .u64 t40_1, .int .u64 t40_2, .int .u64 t40_3, .int .u64 t40_4, .int .u64 t40_5, .int .u64 t40_6, .int .u64 t40_7])), (41, .v (.int .i64 t41))], [(7, a), (9, b)]⟩ h Q
def line_Mixed.wp (was : ByteArray) (is0 : ByteArray) (got : ByteArray) (h : Heap) (Q : Value → Heap → Prop) : Prop :=
 C Tryz.prog 94 #[.string was] h fun (r : Value) (h' : Heap) =>
 ∃ (x : Int),
 ∃ (x_1 : Int),
 ∃ (x_2 : Int),
 ∃ (x_3 : Int),
 ∃ (x_4 : Int),
 ∃ (x_5 : Int),
 ∃ (x_6 : Int),
 ∃ (x_7 : Int),
 ∃ (x_8 : Int),
 r =
 .tuple
 #[.agg
 #[.int .u64 x, .int .u64 x_1, .int .u64 x_2, .int .u64 x_3, .int .u64 x_4, .int .u64 x_5, .int .u64 x_6,
 .int .u64 x_7],
 .int .i64 x_8] ∧
 8 ≤ 8 ∧
 C Tryz.prog 94 #[.string is0] h' fun (r : Value) (h' : Heap) =>
 ∃ (x_9 : Int),
 ∃ (x_10 : Int),
 ∃ (x_11 : Int),
 ∃ (x_12 : Int),
 ∃ (x_13 : Int),
 ∃ (x_14 : Int),
 ∃ (x_15 : Int),
 ∃ (x_16 : Int),
 ∃ (x_17 : Int),
 r =
 .tuple
 #[.agg
 #[.int .u64 x_9, .int .u64 x_10, .int .u64 x_11, .int .u64 x_12, .int .u64 x_13, .int .u64 x_14,
 .int .u64 x_15, .int .u64 x_16],
 .int .i64 x_17] ∧
 8 ≤ 8 ∧
 C Tryz.prog 94 #[.string got] h' fun (r : Value) (h' : Heap) =>
 ∃ (x_18 : Int),
 ∃ (x_19 : Int),
 ∃ (x_20 : Int),
 ∃ (x_21 : Int),
 ∃ (x_22 : Int),
 ∃ (x_23 : Int),
 ∃ (x_24 : Int),
 ∃ (x_25 : Int),
 ∃ (x_26 : Int),
 r =
 .tuple
 #[.agg
 #[.int .u64 x_18, .int .u64 x_19, .int .u64 x_20, .int .u64 x_21, .int .u64 x_22,
 .int .u64 x_23, .int .u64 x_24, .int .u64 x_25],
 .int .i64 x_26] ∧
 xsIf (decide (x_8 ≠ 0)) (Q (.bool false) h')
 (xsIf (decide (x_17 ≠ 0)) (Q (.bool false) h')
 (xsIf (decide (x_26 ≠ 0)) (Q (.bool false) h')
 (line_Mixed.J6
 (lput
 [.int .u64 0, .int .u64 0, .int .u64 0, .int .u64 0, .int .u64 0, .int .u64 0,
 .int .u64 0, .int .u64 0]
 0
 [.int .u64 x, .int .u64 x_1, .int .u64 x_2, .int .u64 x_3, .int .u64 x_4, .int .u64 x_5,
 .int .u64 x_6, .int .u64 x_7])
 (lput
 [.int .u64 0, .int .u64 0, .int .u64 0, .int .u64 0, .int .u64 0, .int .u64 0,
 .int .u64 0, .int .u64 0]
 0
 [.int .u64 x_9, .int .u64 x_10, .int .u64 x_11, .int .u64 x_12, .int .u64 x_13,
 .int .u64 x_14, .int .u64 x_15, .int .u64 x_16])
 x_18 x_19 x_20 x_21 x_22 x_23 x_24 x_25 h' Q)))
def line_Mixed.J6.wp (a : List Value) (b : List Value) (c_0 : Int) (c_1 : Int) (c_2 : Int) (c_3 : Int) (c_4 : Int) (c_5 : Int) (c_6 : Int) (c_7 : Int) (h : Heap) (Q : Value → Heap → Prop) : Prop :=
 line_Mixed.L7 c_0 c_1 c_2 c_3 c_4 c_5 c_6 c_7 0 a b h Q
def line_Mixed.L7.wp (t40_0 : Int) (t40_1 : Int) (t40_2 : Int) (t40_3 : Int) (t40_4 : Int) (t40_5 : Int) (t40_6 : Int) (t40_7 : Int) (t41 : Int) (a : List Value) (b : List Value) (h : Heap) (Q : Value → Heap → Prop) : Prop :=
 xsIf (decide (t41 < 8))
 ((0 ≤ t41 ∧ t41 < (↑8 : Int)) ∧
 ∃ (x : Int),
 lget
 [.int .u64 t40_0, .int .u64 t40_1, .int .u64 t40_2, .int .u64 t40_3, .int .u64 t40_4, .int .u64 t40_5, .int .u64 t40_6,
 .int .u64 t40_7]
 (t41.toNat * 1) =
 some (.int .u64 x) ∧
 (0 ≤ t41 ∧ t41 < (↑8 : Int)) ∧
 ∃ (x_1 : Int),
 lget a (0 + t41.toNat * 1) = some (.int .u64 x_1) ∧
 xsIf (decide (x ≠ x_1))
 ((0 ≤ t41 ∧ t41 < (↑8 : Int)) ∧
 ∃ (x_2 : Int),
 lget b (0 + t41.toNat * 1) = some (.int .u64 x_2) ∧ xsIf (decide (x ≠ x_2)) (Q (.bool false) h) (line_Mixed.L7 t40_0 t40_1 t40_2 t40_3 t40_4 t40_5 t40_6 t40_7 (IntKind.i64.wrap (t41 + 1)) a b h Q))
 (line_Mixed.L7 t40_0 t40_1 t40_2 t40_3 t40_4 t40_5 t40_6 t40_7 (IntKind.i64.wrap (t41 + 1)) a b h Q))
 (Q (.bool true) h)
theorem line_Mixed.ok {was : ByteArray} {is0 : ByteArray} {got : ByteArray} {h : Heap} {Q : Value → Heap → Prop} (hk : line_Mixed.wp was is0 got h Q) : C Tryz.prog 31 #[.string was, .string is0, .string got] h Q :=
 C_of_xs (H := line_Mixed.H) (lcuts := line_Mixed.lc) (rcuts := line_Mixed.rc) (l := [.string was, .string is0, .string got]) 2000 mixed Tryz.func31 rfl (by kernel_rfl) (@cast (line_Mixed.wp was is0 got h Q) _ (by kernel_rfl) hk)
theorem line_Mixed.J6.ok {a : List Value} {b : List Value} {c_0 : Int} {c_1 : Int} {c_2 : Int} {c_3 : Int} {c_4 : Int} {c_5 : Int} {c_6 : Int} {c_7 : Int} {h : Heap} {Q : Value → Heap → Prop} (hk : line_Mixed.J6.wp a b c_0 c_1 c_2 c_3 c_4 c_5 c_6 c_7 h Q) : line_Mixed.J6 a b c_0 c_1 c_2 c_3 c_4 c_5 c_6 c_7 h Q :=
 xs_ok (H := line_Mixed.H) (lcuts := line_Mixed.lc) (rcuts := []) (fn := Tryz.f31) mixed Tryz.func31 2000 _ _ _ (@cast (line_Mixed.J6.wp a b c_0 c_1 c_2 c_3 c_4 c_5 c_6 c_7 h Q) _ (by kernel_rfl) hk)
theorem line_Mixed.L7.ok {t40_0 : Int} {t40_1 : Int} {t40_2 : Int} {t40_3 : Int} {t40_4 : Int} {t40_5 : Int} {t40_6 : Int} {t40_7 : Int} {t41 : Int} {a : List Value} {b : List Value} {h : Heap} {Q : Value → Heap → Prop} (hk : line_Mixed.L7.wp t40_0 t40_1 t40_2 t40_3 t40_4 t40_5 t40_6 t40_7 t41 a b h Q) : line_Mixed.L7 t40_0 t40_1 t40_2 t40_3 t40_4 t40_5 t40_6 t40_7 t41 a b h Q :=
 xs_ok (H := line_Mixed.H) (lcuts := line_Mixed.lc) (rcuts := line_Mixed.rc) (fn := Tryz.f31) mixed Tryz.func31 2000 _ _ _ (@cast (line_Mixed.L7.wp t40_0 t40_1 t40_2 t40_3 t40_4 t40_5 t40_6 t40_7 t41 a b h Q) _ (by kernel_rfl) hk)

/-! gabion/gabionlaw09.FlatTorn -/
def gabionlaw09_FlatTorn.H : Hn := ⟨[], [], [⟨30, .q 0 (.q 1 (.q 2 (.q 3 (.q 4 (.q 5 (.q 6 (.nil))))))), []⟩, ⟨41, .q 0 (.q 1 (.q 2 (.q 3 (.q 4 (.q 5 (.q 6 (.q 7 (.q 8 (.q 9 (.q 10 (.q 11 (.q 12 (.q 13 (.q 14 (.q 15 (.q 16 (.q 17 (.q 18 (.q 19 (.q 20 (.q 22 (.q 23 (.q 25 (.q 21 (.q 24 (.q 26 (.q 27 (.q 28 (.q 29 (.q 30 (.q 31 (.q 32 (.q 33 (.q 34 (.q 35 (.q 36 (.q 37 (.q 38 (.q 39 (.q 40 (.nil))))))))))))))))))))))))))))))))))))))))), []⟩], []⟩
def gabionlaw09_FlatTorn.lc : List Cut := [⟨5, [4, 5, 7, 8, 10, 31], [4, 5, 7]⟩, ⟨22, [4, 5, 8, 10, 13, 106, 107], [4, 5]⟩, ⟨38, [4, 13, 18, 19, 173, 174], [4]⟩]
def gabionlaw09_FlatTorn.rc : List Cut := [⟨15, [4, 5, 7, 8, 10, 13, 14], [4, 5, 7]⟩, ⟨18, [4, 5, 8, 10], [4, 5]⟩, ⟨21, [4, 5, 8, 10, 13], [4, 5]⟩, ⟨27, [4, 5, 8, 10, 13, 15, 106, 107], [4, 5]⟩, ⟨37, [4, 13, 18, 19], [4]⟩]
def gabionlaw09_FlatTorn.L5 (d : Option Addr) (keep : Option Addr) (keep_n : Nat) (keep_c : Nat) (t31 : Int) (s_4_0 : ByteArray) (s_4_1 : ByteArray) (cut_5_0 : Int) (cut_5_1 : Int) (cut_5_2 : Int) (c_0 : Int) (c_1 : Int) (c_2 : Int) (c_3 : Int) (c_4 : Int) (h : Heap) (Q : Value → Heap → Prop) : Prop :=
 TW Tryz.prog 5 225 [.code (cAt (bodyOf Tryz.f5) [1, 1, 1, 1, 0, 1, 0, 0]), .inLoop (cAt (bodyOf Tryz.f5) [1, 1, 1, 1, 0, 1, 0, 0]), .inBlock 0, .code (cAt (bodyOf Tryz.f5) [1, 1, 1, 1, 1])] ⟨[(4, .p 4 0), (5, .p 5 0), (7, .p 7 0), (8, .v (.pointer d)), (10, .v (.slice keep keep_n keep_c)), (31, .v (.int .i64 t31))], [(4, [.string s_4_0, .string s_4_1]), (5, [.int .u16 cut_5_0, .int .u16 cut_5_1, .int .u16 cut_5_2]), (7, [.int .i64 c_0, .int .i64 c_1, .int .i64 c_2, .int .i64 c_3, .int .u64 c_4])]⟩ h Q
def gabionlaw09_FlatTorn.J15 (d : Option Addr) (keep : Option Addr) (keep_n : Nat) (keep_c : Nat) (f : Option Addr) (g : Int) (s_4_0 : ByteArray) (s_4_1 : ByteArray) (cut_5_0 : Int) (cut_5_1 : Int) (cut_5_2 : Int) (c_0 : Int) (c_1 : Int) (c_2 : Int) (c_3 : Int) (c_4 : Int) (h : Heap) (Q : Value → Heap → Prop) : Prop :=
 TW Tryz.prog 5 225 [.code (cAt (bodyOf Tryz.f5) [1, 1, 1, 1, 1, 1, 1, 1, 1, 1, 0, 0]), .code (cAt (bodyOf Tryz.f5) [1, 1, 1, 1, 1, 1, 1, 1, 1, 1, 0, 1]), .code (cAt (bodyOf Tryz.f5) [1, 1, 1, 1, 1, 1, 1, 1, 1, 1, 1])] ⟨[(4, .p 4 0), (5, .p 5 0), (7, .p 7 0), (8, .v (.pointer d)), (10, .v (.slice keep keep_n keep_c)), (13, .v (.pointer f)), (14, .v (.int .i64 g))], [(4, [.string s_4_0, .string s_4_1]), (5, [.int .u16 cut_5_0, .int .u16 cut_5_1, .int .u16 cut_5_2]), (7, [.int .i64 c_0, .int .i64 c_1, .int .i64 c_2, .int .i64 c_3, .int .u64 c_4])]⟩ h Q
def gabionlaw09_FlatTorn.J18 (d : Option Addr) (keep : Option Addr) (keep_n : Nat) (keep_c : Nat) (s_4_0 : ByteArray) (s_4_1 : ByteArray) (cut_5_0 : Int) (cut_5_1 : Int) (cut_5_2 : Int) (h : Heap) (Q : Value → Heap → Prop) : Prop :=
 TW Tryz.prog 5 225 [.code (cAt (bodyOf Tryz.f5) [1, 1, 1, 1, 1, 1, 1, 1, 1, 1, 0, 1, 0, 1, 0]), .code (cAt (bodyOf Tryz.f5) [1, 1, 1, 1, 1, 1, 1, 1, 1, 1, 0, 1, 0, 1, 1]), .code (cAt (bodyOf Tryz.f5) [1, 1, 1, 1, 1, 1, 1, 1, 1, 1, 1])] ⟨[(4, .p 4 0), (5, .p 5 0), (8, .v (.pointer d)), (10, .v (.slice keep keep_n keep_c))], [(4, [.string s_4_0, .string s_4_1]), (5, [.int .u16 cut_5_0, .int .u16 cut_5_1, .int .u16 cut_5_2])]⟩ h Q
def gabionlaw09_FlatTorn.J21 (d : Option Addr) (keep : Option Addr) (keep_n : Nat) (keep_c : Nat) (f : Option Addr) (s_4_0 : ByteArray) (s_4_1 : ByteArray) (cut_5_0 : Int) (cut_5_1 : Int) (cut_5_2 : Int) (h : Heap) (Q : Value → Heap → Prop) : Prop :=
 TW Tryz.prog 5 225 [.code (cAt (bodyOf Tryz.f5) [1, 1, 1, 1, 1, 1, 1, 1, 1, 1, 1, 0, 0]), .code (cAt (bodyOf Tryz.f5) [1, 1, 1, 1, 1, 1, 1, 1, 1, 1, 1, 0, 1]), .code (cAt (bodyOf Tryz.f5) [1, 1, 1, 1, 1, 1, 1, 1, 1, 1, 1, 1])] ⟨[(4, .p 4 0), (5, .p 5 0), (8, .v (.pointer d)), (10, .v (.slice keep keep_n keep_c)), (13, .v (.pointer f))], [(4, [.string s_4_0, .string s_4_1]), (5, [.int .u16 cut_5_0, .int .u16 cut_5_1, .int .u16 cut_5_2])]⟩ h Q
def gabionlaw09_FlatTorn.L22 (d : Option Addr) (keep : Option Addr) (keep_n : Nat) (keep_c : Nat) (f : Option Addr) (t106 : Int) (t107 : Int) (s_4_0 : ByteArray) (s_4_1 : ByteArray) (cut_5_0 : Int) (cut_5_1 : Int) (cut_5_2 : Int) (h : Heap) (Q : Value → Heap → Prop) : Prop :=
 TW Tryz.prog 5 225 [.code (cAt (bodyOf Tryz.f5) [1, 1, 1, 1, 1, 1, 1, 1, 1, 1, 1, 0, 1, 0, 0]), .inLoop (cAt (bodyOf Tryz.f5) [1, 1, 1, 1, 1, 1, 1, 1, 1, 1, 1, 0, 1, 0, 0]), .inBlock 2, .code (cAt (bodyOf Tryz.f5) [1, 1, 1, 1, 1, 1, 1, 1, 1, 1, 1, 1])] ⟨[(4, .p 4 0), (5, .p 5 0), (8, .v (.pointer d)), (10, .v (.slice keep keep_n keep_c)), (13, .v (.pointer f)), (106, .v (.int .i64 t106)), (107, .v (.int .i64 t107))], [(4, [.string s_4_0, .string s_4_1]), (5, [.int .u16 cut_5_0, .int .u16 cut_5_1, .int .u16 cut_5_2])]⟩ h Q
def gabionlaw09_FlatTorn.J27 (d : Option Addr) (keep : Option Addr) (keep_n : Nat) (keep_c : Nat) (f : Option Addr) (l_15 : Int) (t106 : Int) (t107 : Int) (s_4_0 : ByteArray) (s_4_1 : ByteArray) (cut_5_0 : Int) (cut_5_1 : Int) (cut_5_2 : Int) (h : Heap) (Q : Value → Heap → Prop) : Prop :=
 TW Tryz.prog 5 225 [.code (cAt (bodyOf Tryz.f5) [1, 1, 1, 1, 1, 1, 1, 1, 1, 1, 1, 0, 1, 0, 0, 1, 1, 0, 0, 1, 1, 0]), .code (cAt (bodyOf Tryz.f5) [1, 1, 1, 1, 1, 1, 1, 1, 1, 1, 1, 0, 1, 0, 0, 1, 1, 0, 0, 1, 1, 1]), .inBlock 3, .code (cAt (bodyOf Tryz.f5) [1, 1, 1, 1, 1, 1, 1, 1, 1, 1, 1, 0, 1, 0, 0, 1, 1, 1]), .inLoop (cAt (bodyOf Tryz.f5) [1, 1, 1, 1, 1, 1, 1, 1, 1, 1, 1, 0, 1, 0, 0]), .inBlock 2, .code (cAt (bodyOf Tryz.f5) [1, 1, 1, 1, 1, 1, 1, 1, 1, 1, 1, 1])] ⟨[(4, .p 4 0), (5, .p 5 0), (8, .v (.pointer d)), (10, .v (.slice keep keep_n keep_c)), (13, .v (.pointer f)), (15, .v (.int .i64 l_15)), (106, .v (.int .i64 t106)), (107, .v (.int .i64 t107))], [(4, [.string s_4_0, .string s_4_1]), (5, [.int .u16 cut_5_0, .int .u16 cut_5_1, .int .u16 cut_5_2])]⟩ h Q
def gabionlaw09_FlatTorn.J37 (f : Option Addr) (l_18 : Int) (h0_19 : Int) (s_4_0 : ByteArray) (s_4_1 : ByteArray) (h : Heap) (Q : Value → Heap → Prop) : Prop :=
 TW Tryz.prog 5 225 [.code (cAt (bodyOf Tryz.f5) [1, 1, 1, 1, 1, 1, 1, 1, 1, 1, 1, 1, 1, 1, 1, 1, 1, 0, 0]), .code (cAt (bodyOf Tryz.f5) [1, 1, 1, 1, 1, 1, 1, 1, 1, 1, 1, 1, 1, 1, 1, 1, 1, 0, 1]), .code (cAt (bodyOf Tryz.f5) [1, 1, 1, 1, 1, 1, 1, 1, 1, 1, 1, 1, 1, 1, 1, 1, 1, 1])] ⟨[(4, .p 4 0), (13, .v (.pointer f)), (18, .v (.int .i64 l_18)), (19, .v (.int .i64 h0_19))], [(4, [.string s_4_0, .string s_4_1])]⟩ h Q
def gabionlaw09_FlatTorn.L38 (f : Option Addr) (l_18 : Int) (h0_19 : Int) (t173 : Int) (t174 : Int) (s_4_0 : ByteArray) (s_4_1 : ByteArray) (h : Heap) (Q : Value → Heap → Prop) : Prop :=
 TW Tryz.prog 5 225 [.code (cAt (bodyOf Tryz.f5) [1, 1, 1, 1, 1, 1, 1, 1, 1, 1, 1, 1, 1, 1, 1, 1, 1, 0, 1, 0, 0]), .inLoop (cAt (bodyOf Tryz.f5) [1, 1, 1, 1, 1, 1, 1, 1, 1, 1, 1, 1, 1, 1, 1, 1, 1, 0, 1, 0, 0]), .inBlock 4, .code (cAt (bodyOf Tryz.f5) [1, 1, 1, 1, 1, 1, 1, 1, 1, 1, 1, 1, 1, 1, 1, 1, 1, 1])] ⟨[(4, .p 4 0), (13, .v (.pointer f)), (18, .v (.int .i64 l_18)), (19, .v (.int .i64 h0_19)), (173, .v (.int .i64 t173)), (174, .v (.int .i64 t174))], [(4, [.string s_4_0, .string s_4_1])]⟩ h Q
def gabionlaw09_FlatTorn.wp (x_0 : Int) (x_1 : Int) (x_2 : Int) (x_3 : Int) (x_4 : Int) (s_0 : ByteArray) (s_1 : ByteArray) (cut_0 : Int) (cut_1 : Int) (cut_2 : Int) (h : Heap) (Q : Value → Heap → Prop) : Prop :=
 C Tryz.prog 14 #[.agg #[.int .i64 x_0, .int .i64 x_1, .int .i64 x_2, .int .i64 x_3, .int .u64 x_4]] h fun (r : Value) (h' : Heap) =>
 ∃ (x : Int),
 ∃ (x_5 : Int),
 ∃ (x_6 : Int),
 ∃ (x_7 : Int),
 ∃ (x_8 : Int),
 r = .agg #[.int .i64 x, .int .i64 x_5, .int .i64 x_6, .int .i64 x_7, .int .u64 x_8] ∧
 C Tryz.prog 16 #[.agg #[.int .i64 x, .int .i64 x_5, .int .i64 x_6, .int .i64 x_7, .int .u64 x_8]] h' fun (r : Value) (h' : Heap) =>
 ∃ (x_9 : Int),
 r = .int .i64 x_9 ∧
 C Tryz.prog 15 #[.int .i64 x_9] h' fun (r : Value) (h' : Heap) =>
 ∃ (x_10 : Option Addr), ∃ (x_11 : Int), r = .tuple #[.pointer x_10, .int .i64 x_11] ∧ gabionlaw09_FlatTorn.L5 x_10 none 0 0 0 s_0 s_1 cut_0 cut_1 cut_2 x x_5 x_6 x_7 x_8 h' Q
def gabionlaw09_FlatTorn.L5.wp (d : Option Addr) (keep : Option Addr) (keep_n : Nat) (keep_c : Nat) (t31 : Int) (s_4_0 : ByteArray) (s_4_1 : ByteArray) (cut_5_0 : Int) (cut_5_1 : Int) (cut_5_2 : Int) (c_0 : Int) (c_1 : Int) (c_2 : Int) (c_3 : Int) (c_4 : Int) (h : Heap) (Q : Value → Heap → Prop) : Prop :=
 xsIf (decide (t31 < 16))
 (0 ≤ t31 ∧
 ∀ (b : Nat),
 h b = none →
 xsApp Tryz.prog 4 (upd h b (Obj.cells #[.bool (decide (iand .u16 (ishr .u16 cut_5_1 t31) 1 = 1))] 4 (0, 0))) keep keep_n keep_c (some { block := b, off := 0 }) 1
 fun (a' : Option Addr) (n' c' : Nat) (h' : Heap) => gabionlaw09_FlatTorn.L5 d a' n' c' (IntKind.i64.wrap (t31 + 1)) s_4_0 s_4_1 cut_5_0 cut_5_1 cut_5_2 c_0 c_1 c_2 c_3 c_4 h' Q)
 (C Tryz.prog 29 #[.pointer d, .int .i64 (IntKind.i64.wrap (1 + IntKind.i64.wrap (irem cut_5_0 600)))] h fun (r : Value) (h' : Heap) =>
 C Tryz.prog 17 #[.pointer d, .agg #[.int .i64 c_0, .int .i64 c_1, .int .i64 c_2, .int .i64 c_3, .int .u64 c_4]] h'
 fun (r : Value) (h' : Heap) =>
 ∃ (x : Int),
 r = .int .i64 x ∧
 C Tryz.prog 30 #[.pointer d, .slice keep keep_n keep_c] h' fun (r : Value) (h' : Heap) =>
 C Tryz.prog 18 #[.pointer d] h' fun (r : Value) (h' : Heap) =>
 ∃ (x_1 : Option Addr),
 ∃ (x_2 : Int),
 r = .tuple #[.pointer x_1, .int .i64 x_2] ∧
 C Tryz.prog 23 #[] h' fun (r : Value) (h' : Heap) =>
 ∃ (x_3 : Bool),
 r = .bool x_3 ∧
 xsIf (!x_3) (Q (.bool false) h')
 (xsIf (decide (x ≠ 0))
 (xsIf (decide (x ≠ 6)) (Q (.bool false) h')
 (xsIf (decide (x = 0)) (xsIf (decide (x_2 ≠ 0)) (Q (.bool false) h') (gabionlaw09_FlatTorn.J15 d keep keep_n keep_c x_1 x_2 s_4_0 s_4_1 cut_5_0 cut_5_1 cut_5_2 c_0 c_1 c_2 c_3 c_4 h' Q))
 (gabionlaw09_FlatTorn.J15 d keep keep_n keep_c x_1 x_2 s_4_0 s_4_1 cut_5_0 cut_5_1 cut_5_2 c_0 c_1 c_2 c_3 c_4 h' Q)))
 (xsIf (decide (x = 0)) (xsIf (decide (x_2 ≠ 0)) (Q (.bool false) h') (gabionlaw09_FlatTorn.J15 d keep keep_n keep_c x_1 x_2 s_4_0 s_4_1 cut_5_0 cut_5_1 cut_5_2 c_0 c_1 c_2 c_3 c_4 h' Q))
 (gabionlaw09_FlatTorn.J15 d keep keep_n keep_c x_1 x_2 s_4_0 s_4_1 cut_5_0 cut_5_1 cut_5_2 c_0 c_1 c_2 c_3 c_4 h' Q))))
def gabionlaw09_FlatTorn.J15.wp (d : Option Addr) (keep : Option Addr) (keep_n : Nat) (keep_c : Nat) (f : Option Addr) (g : Int) (s_4_0 : ByteArray) (s_4_1 : ByteArray) (cut_5_0 : Int) (cut_5_1 : Int) (cut_5_2 : Int) (c_0 : Int) (c_1 : Int) (c_2 : Int) (c_3 : Int) (c_4 : Int) (h : Heap) (Q : Value → Heap → Prop) : Prop :=
 xsIf (decide (g ≠ 0))
 (xsIf (decide (g ≠ 4)) (Q (.bool false) h)
 (xsIf (!f.isNone) (Q (.bool false) h)
 (C Tryz.prog 17 #[.pointer d, .agg #[.int .i64 c_0, .int .i64 c_1, .int .i64 c_2, .int .i64 c_3, .int .u64 c_4]] h
 fun (r : Value) (h' : Heap) => ∃ (x : Int), r = .int .i64 x ∧ xsIf (decide (x ≠ 0)) (Q (.bool false) h') (gabionlaw09_FlatTorn.J18 d keep keep_n keep_c s_4_0 s_4_1 cut_5_0 cut_5_1 cut_5_2 h' Q))))
 (gabionlaw09_FlatTorn.J21 d keep keep_n keep_c f s_4_0 s_4_1 cut_5_0 cut_5_1 cut_5_2 h Q)
def gabionlaw09_FlatTorn.J18.wp (d : Option Addr) (keep : Option Addr) (keep_n : Nat) (keep_c : Nat) (s_4_0 : ByteArray) (s_4_1 : ByteArray) (cut_5_0 : Int) (cut_5_1 : Int) (cut_5_2 : Int) (h : Heap) (Q : Value → Heap → Prop) : Prop :=
 C Tryz.prog 18 #[.pointer d] h fun (r : Value) (h' : Heap) =>
 ∃ (x : Option Addr),
 ∃ (x_1 : Int),
 r = .tuple #[.pointer x, .int .i64 x_1] ∧
 xsIf (decide (x_1 ≠ 0)) (Q (.bool false) h') (xsIf x.isNone (Q (.bool false) h') (gabionlaw09_FlatTorn.J21 d keep keep_n keep_c x s_4_0 s_4_1 cut_5_0 cut_5_1 cut_5_2 h' Q))
def gabionlaw09_FlatTorn.J21.wp (d : Option Addr) (keep : Option Addr) (keep_n : Nat) (keep_c : Nat) (f : Option Addr) (s_4_0 : ByteArray) (s_4_1 : ByteArray) (cut_5_0 : Int) (cut_5_1 : Int) (cut_5_2 : Int) (h : Heap) (Q : Value → Heap → Prop) : Prop :=
 C Tryz.prog 24 #[.pointer f] h fun (r : Value) (h' : Heap) => ∃ (x : Int), r = .int .i64 x ∧ gabionlaw09_FlatTorn.L22 d keep keep_n keep_c f x 0 s_4_0 s_4_1 cut_5_0 cut_5_1 cut_5_2 h' Q
def gabionlaw09_FlatTorn.L22.wp (d : Option Addr) (keep : Option Addr) (keep_n : Nat) (keep_c : Nat) (f : Option Addr) (t106 : Int) (t107 : Int) (s_4_0 : ByteArray) (s_4_1 : ByteArray) (cut_5_0 : Int) (cut_5_1 : Int) (cut_5_2 : Int) (h : Heap) (Q : Value → Heap → Prop) : Prop :=
 xsIf (decide (t107 < t106))
 (C Tryz.prog 22 #[.pointer f, .int .i64 t107] h fun (r : Value) (h' : Heap) =>
 ∃ (x : ByteArray),
 ∃ (x_1 : Int),
 r = .tuple #[.string x, .int .i64 x_1] ∧
 xsIf (decide (x_1 ≠ 0)) (Q (.bool false) h')
 (C Tryz.prog 19 #[.string { data := #[] }] h' fun (r : Value) (h' : Heap) =>
 ∃ (x_2 : ByteArray), r = .string x_2 ∧ xsIf (decide (x ≠ x_2)) (Q (.bool false) h') (gabionlaw09_FlatTorn.J27 d keep keep_n keep_c f t107 t106 t107 s_4_0 s_4_1 cut_5_0 cut_5_1 cut_5_2 h' Q)))
 (C Tryz.prog 24 #[.pointer f] h fun (r : Value) (h' : Heap) =>
 ∃ (x : Int),
 r = .int .i64 x ∧
 x ≠ 0 ∧
 C Tryz.prog 29 #[.pointer d, .int .i64 (IntKind.i64.wrap (1 + IntKind.i64.wrap (irem cut_5_0 50)))] h' fun (r : Value) (h' : Heap) =>
 C Tryz.prog 19 #[.string s_4_1] h' fun (r : Value) (h' : Heap) =>
 ∃ (x_1 : ByteArray),
 r = .string x_1 ∧
 C Tryz.prog 20 #[.pointer f, .int .i64 (irem (IntKind.i64.wrap cut_5_2) x), .string x_1] h' fun (r : Value) (h' : Heap) =>
 ∃ (x_2 : Int),
 r = .int .i64 x_2 ∧
 C Tryz.prog 30 #[.pointer d, .slice keep keep_n keep_c] h' fun (r : Value) (h' : Heap) =>
 C Tryz.prog 18 #[.pointer d] h' fun (r : Value) (h' : Heap) =>
 ∃ (x_3 : Option Addr),
 ∃ (x_4 : Int),
 r = .tuple #[.pointer x_3, .int .i64 x_4] ∧
 xsIf (decide (x_4 ≠ 0)) (Q (.bool false) h')
 (xsIf x_3.isNone (Q (.bool false) h')
 (xsIf (decide (x_2 ≠ 0)) (xsIf (decide (x_2 ≠ 6)) (Q (.bool false) h') (gabionlaw09_FlatTorn.J37 x_3 (irem (IntKind.i64.wrap cut_5_2) x) x_2 s_4_0 s_4_1 h' Q))
 (gabionlaw09_FlatTorn.J37 x_3 (irem (IntKind.i64.wrap cut_5_2) x) x_2 s_4_0 s_4_1 h' Q))))
def gabionlaw09_FlatTorn.J27.wp (d : Option Addr) (keep : Option Addr) (keep_n : Nat) (keep_c : Nat) (f : Option Addr) (l_15 : Int) (t106 : Int) (t107 : Int) (s_4_0 : ByteArray) (s_4_1 : ByteArray) (cut_5_0 : Int) (cut_5_1 : Int) (cut_5_2 : Int) (h : Heap) (Q : Value → Heap → Prop) : Prop :=
 C Tryz.prog 19 #[.string s_4_0] h fun (r : Value) (h' : Heap) =>
 ∃ (x : ByteArray),
 r = .string x ∧
 C Tryz.prog 20 #[.pointer f, .int .i64 l_15, .string x] h' fun (r : Value) (h' : Heap) =>
 ∃ (x : Int), r = .int .i64 x ∧ xsIf (decide (x ≠ 0)) (Q (.bool false) h') (gabionlaw09_FlatTorn.L22 d keep keep_n keep_c f t106 (IntKind.i64.wrap (t107 + 1)) s_4_0 s_4_1 cut_5_0 cut_5_1 cut_5_2 h' Q)
def gabionlaw09_FlatTorn.J37.wp (f : Option Addr) (l_18 : Int) (h0_19 : Int) (s_4_0 : ByteArray) (s_4_1 : ByteArray) (h : Heap) (Q : Value → Heap → Prop) : Prop :=
 C Tryz.prog 24 #[.pointer f] h fun (r : Value) (h' : Heap) => ∃ (x : Int), r = .int .i64 x ∧ gabionlaw09_FlatTorn.L38 f l_18 h0_19 x 0 s_4_0 s_4_1 h' Q
def gabionlaw09_FlatTorn.L38.wp (f : Option Addr) (l_18 : Int) (h0_19 : Int) (t173 : Int) (t174 : Int) (s_4_0 : ByteArray) (s_4_1 : ByteArray) (h : Heap) (Q : Value → Heap → Prop) : Prop :=
 xsIf (decide (t174 < t173))
 (C Tryz.prog 22 #[.pointer f, .int .i64 t174] h fun (r : Value) (h' : Heap) =>
 ∃ (x : ByteArray),
 ∃ (x_1 : Int),
 r = .tuple #[.string x, .int .i64 x_1] ∧
 xsIf (decide (x_1 ≠ 0)) (Q (.bool false) h')
 (xsIf (decide (t174 ≠ l_18))
 (C Tryz.prog 19 #[.string s_4_0] h' fun (r : Value) (h' : Heap) =>
 ∃ (x_2 : ByteArray),
 r = .string x_2 ∧
 xsIf (decide (x ≠ x_2)) (Q (.bool false) h')
 (xsIf (decide (t174 = l_18))
 (C Tryz.prog 19 #[.string s_4_0] h' fun (r : Value) (h' : Heap) =>
 ∃ (x_3 : ByteArray),
 r = .string x_3 ∧
 C Tryz.prog 19 #[.string s_4_1] h' fun (r : Value) (h' : Heap) =>
 ∃ (x_4 : ByteArray),
 r = .string x_4 ∧
 C Tryz.prog 31 #[.string x_3, .string x_4, .string x] h' fun (r : Value) (h' : Heap) =>
 ∃ (x_5 : Bool),
 r = .bool x_5 ∧
 xsIf (!x_5) (Q (.bool false) h')
 (xsIf (decide (h0_19 = 0))
 (C Tryz.prog 19 #[.string s_4_1] h' fun (r : Value) (h' : Heap) =>
 ∃ (x_6 : ByteArray), r = .string x_6 ∧ xsIf (decide (x ≠ x_6)) (Q (.bool false) h') (gabionlaw09_FlatTorn.L38 f l_18 h0_19 t173 (IntKind.i64.wrap (t174 + 1)) s_4_0 s_4_1 h' Q))
 (gabionlaw09_FlatTorn.L38 f l_18 h0_19 t173 (IntKind.i64.wrap (t174 + 1)) s_4_0 s_4_1 h' Q)))
 (gabionlaw09_FlatTorn.L38 f l_18 h0_19 t173 (IntKind.i64.wrap (t174 + 1)) s_4_0 s_4_1 h' Q)))
 (xsIf (decide (t174 = l_18))
 (C Tryz.prog 19 #[.string s_4_0] h' fun (r : Value) (h' : Heap) =>
 ∃ (x_2 : ByteArray),
 r = .string x_2 ∧
 C Tryz.prog 19 #[.string s_4_1] h' fun (r : Value) (h' : Heap) =>
 ∃ (x_3 : ByteArray),
 r = .string x_3 ∧
 C Tryz.prog 31 #[.string x_2, .string x_3, .string x] h' fun (r : Value) (h' : Heap) =>
 ∃ (x_4 : Bool),
 r = .bool x_4 ∧
 xsIf (!x_4) (Q (.bool false) h')
 (xsIf (decide (h0_19 = 0))
 (C Tryz.prog 19 #[.string s_4_1] h' fun (r : Value) (h' : Heap) =>
 ∃ (x_5 : ByteArray), r = .string x_5 ∧ xsIf (decide (x ≠ x_5)) (Q (.bool false) h') (gabionlaw09_FlatTorn.L38 f l_18 h0_19 t173 (IntKind.i64.wrap (t174 + 1)) s_4_0 s_4_1 h' Q))
 (gabionlaw09_FlatTorn.L38 f l_18 h0_19 t173 (IntKind.i64.wrap (t174 + 1)) s_4_0 s_4_1 h' Q)))
 (gabionlaw09_FlatTorn.L38 f l_18 h0_19 t173 (IntKind.i64.wrap (t174 + 1)) s_4_0 s_4_1 h' Q))))
 (Q (.bool true) h)
theorem gabionlaw09_FlatTorn.ok {x_0 : Int} {x_1 : Int} {x_2 : Int} {x_3 : Int} {x_4 : Int} {s_0 : ByteArray} {s_1 : ByteArray} {cut_0 : Int} {cut_1 : Int} {cut_2 : Int} {h : Heap} {Q : Value → Heap → Prop} (hk : gabionlaw09_FlatTorn.wp x_0 x_1 x_2 x_3 x_4 s_0 s_1 cut_0 cut_1 cut_2 h Q) : C Tryz.prog 5 #[.agg #[.int .i64 x_0, .int .i64 x_1, .int .i64 x_2, .int .i64 x_3, .int .u64 x_4], .agg #[.string s_0, .string s_1], .agg #[.int .u16 cut_0, .int .u16 cut_1, .int .u16 cut_2]] h Q :=
 C_of_xs (H := gabionlaw09_FlatTorn.H) (lcuts := gabionlaw09_FlatTorn.lc) (rcuts := gabionlaw09_FlatTorn.rc) (l := [.agg #[.int .i64 x_0, .int .i64 x_1, .int .i64 x_2, .int .i64 x_3, .int .u64 x_4], .agg #[.string s_0, .string s_1], .agg #[.int .u16 cut_0, .int .u16 cut_1, .int .u16 cut_2]]) 2000 mixed Tryz.func5 rfl (by kernel_rfl) (@cast (gabionlaw09_FlatTorn.wp x_0 x_1 x_2 x_3 x_4 s_0 s_1 cut_0 cut_1 cut_2 h Q) _ (by kernel_rfl) hk)
theorem gabionlaw09_FlatTorn.L5.ok {d : Option Addr} {keep : Option Addr} {keep_n : Nat} {keep_c : Nat} {t31 : Int} {s_4_0 : ByteArray} {s_4_1 : ByteArray} {cut_5_0 : Int} {cut_5_1 : Int} {cut_5_2 : Int} {c_0 : Int} {c_1 : Int} {c_2 : Int} {c_3 : Int} {c_4 : Int} {h : Heap} {Q : Value → Heap → Prop} (hk : gabionlaw09_FlatTorn.L5.wp d keep keep_n keep_c t31 s_4_0 s_4_1 cut_5_0 cut_5_1 cut_5_2 c_0 c_1 c_2 c_3 c_4 h Q) : gabionlaw09_FlatTorn.L5 d keep keep_n keep_c t31 s_4_0 s_4_1 cut_5_0 cut_5_1 cut_5_2 c_0 c_1 c_2 c_3 c_4 h Q :=
 xs_ok (H := gabionlaw09_FlatTorn.H) (lcuts := gabionlaw09_FlatTorn.lc) (rcuts := gabionlaw09_FlatTorn.rc) (fn := Tryz.f5) mixed Tryz.func5 2000 _ _ _ (@cast (gabionlaw09_FlatTorn.L5.wp d keep keep_n keep_c t31 s_4_0 s_4_1 cut_5_0 cut_5_1 cut_5_2 c_0 c_1 c_2 c_3 c_4 h Q) _ (by kernel_rfl) hk)
theorem gabionlaw09_FlatTorn.J15.ok {d : Option Addr} {keep : Option Addr} {keep_n : Nat} {keep_c : Nat} {f : Option Addr} {g : Int} {s_4_0 : ByteArray} {s_4_1 : ByteArray} {cut_5_0 : Int} {cut_5_1 : Int} {cut_5_2 : Int} {c_0 : Int} {c_1 : Int} {c_2 : Int} {c_3 : Int} {c_4 : Int} {h : Heap} {Q : Value → Heap → Prop} (hk : gabionlaw09_FlatTorn.J15.wp d keep keep_n keep_c f g s_4_0 s_4_1 cut_5_0 cut_5_1 cut_5_2 c_0 c_1 c_2 c_3 c_4 h Q) : gabionlaw09_FlatTorn.J15 d keep keep_n keep_c f g s_4_0 s_4_1 cut_5_0 cut_5_1 cut_5_2 c_0 c_1 c_2 c_3 c_4 h Q :=
 xs_ok (H := gabionlaw09_FlatTorn.H) (lcuts := gabionlaw09_FlatTorn.lc) (rcuts := [⟨18, [4, 5, 8, 10], [4, 5]⟩, ⟨21, [4, 5, 8, 10, 13], [4, 5]⟩, ⟨27, [4, 5, 8, 10, 13, 15, 106, 107], [4, 5]⟩, ⟨37, [4, 13, 18, 19], [4]⟩]) (fn := Tryz.f5) mixed Tryz.func5 2000 _ _ _ (@cast (gabionlaw09_FlatTorn.J15.wp d keep keep_n keep_c f g s_4_0 s_4_1 cut_5_0 cut_5_1 cut_5_2 c_0 c_1 c_2 c_3 c_4 h Q) _ (by kernel_rfl) hk)
theorem gabionlaw09_FlatTorn.J18.ok {d : Option Addr} {keep : Option Addr} {keep_n : Nat} {keep_c : Nat} {s_4_0 : ByteArray} {s_4_1 : ByteArray} {cut_5_0 : Int} {cut_5_1 : Int} {cut_5_2 : Int} {h : Heap} {Q : Value → Heap → Prop} (hk : gabionlaw09_FlatTorn.J18.wp d keep keep_n keep_c s_4_0 s_4_1 cut_5_0 cut_5_1 cut_5_2 h Q) : gabionlaw09_FlatTorn.J18 d keep keep_n keep_c s_4_0 s_4_1 cut_5_0 cut_5_1 cut_5_2 h Q :=
 xs_ok (H := gabionlaw09_FlatTorn.H) (lcuts := gabionlaw09_FlatTorn.lc) (rcuts := [⟨15, [4, 5, 7, 8, 10, 13, 14], [4, 5, 7]⟩, ⟨21, [4, 5, 8, 10, 13], [4, 5]⟩, ⟨27, [4, 5, 8, 10, 13, 15, 106, 107], [4, 5]⟩, ⟨37, [4, 13, 18, 19], [4]⟩]) (fn := Tryz.f5) mixed Tryz.func5 2000 _ _ _ (@cast (gabionlaw09_FlatTorn.J18.wp d keep keep_n keep_c s_4_0 s_4_1 cut_5_0 cut_5_1 cut_5_2 h Q) _ (by kernel_rfl) hk)
theorem gabionlaw09_FlatTorn.J21.ok {d : Option Addr} {keep : Option Addr} {keep_n : Nat} {keep_c : Nat} {f : Option Addr} {s_4_0 : ByteArray} {s_4_1 : ByteArray} {cut_5_0 : Int} {cut_5_1 : Int} {cut_5_2 : Int} {h : Heap} {Q : Value → Heap → Prop} (hk : gabionlaw09_FlatTorn.J21.wp d keep keep_n keep_c f s_4_0 s_4_1 cut_5_0 cut_5_1 cut_5_2 h Q) : gabionlaw09_FlatTorn.J21 d keep keep_n keep_c f s_4_0 s_4_1 cut_5_0 cut_5_1 cut_5_2 h Q :=
 xs_ok (H := gabionlaw09_FlatTorn.H) (lcuts := gabionlaw09_FlatTorn.lc) (rcuts := [⟨15, [4, 5, 7, 8, 10, 13, 14], [4, 5, 7]⟩, ⟨18, [4, 5, 8, 10], [4, 5]⟩, ⟨27, [4, 5, 8, 10, 13, 15, 106, 107], [4, 5]⟩, ⟨37, [4, 13, 18, 19], [4]⟩]) (fn := Tryz.f5) mixed Tryz.func5 2000 _ _ _ (@cast (gabionlaw09_FlatTorn.J21.wp d keep keep_n keep_c f s_4_0 s_4_1 cut_5_0 cut_5_1 cut_5_2 h Q) _ (by kernel_rfl) hk)
theorem gabionlaw09_FlatTorn.L22.ok {d : Option Addr} {keep : Option Addr} {keep_n : Nat} {keep_c : Nat} {f : Option Addr} {t106 : Int} {t107 : Int} {s_4_0 : ByteArray} {s_4_1 : ByteArray} {cut_5_0 : Int} {cut_5_1 : Int} {cut_5_2 : Int} {h : Heap} {Q : Value → Heap → Prop} (hk : gabionlaw09_FlatTorn.L22.wp d keep keep_n keep_c f t106 t107 s_4_0 s_4_1 cut_5_0 cut_5_1 cut_5_2 h Q) : gabionlaw09_FlatTorn.L22 d keep keep_n keep_c f t106 t107 s_4_0 s_4_1 cut_5_0 cut_5_1 cut_5_2 h Q :=
 xs_ok (H := gabionlaw09_FlatTorn.H) (lcuts := gabionlaw09_FlatTorn.lc) (rcuts := gabionlaw09_FlatTorn.rc) (fn := Tryz.f5) mixed Tryz.func5 2000 _ _ _ (@cast (gabionlaw09_FlatTorn.L22.wp d keep keep_n keep_c f t106 t107 s_4_0 s_4_1 cut_5_0 cut_5_1 cut_5_2 h Q) _ (by kernel_rfl) hk)
theorem gabionlaw09_FlatTorn.J27.ok {d : Option Addr} {keep : Option Addr} {keep_n : Nat} {keep_c : Nat} {f : Option Addr} {l_15 : Int} {t106 : Int} {t107 : Int} {s_4_0 : ByteArray} {s_4_1 : ByteArray} {cut_5_0 : Int} {cut_5_1 : Int} {cut_5_2 : Int} {h : Heap} {Q : Value → Heap → Prop} (hk : gabionlaw09_FlatTorn.J27.wp d keep keep_n keep_c f l_15 t106 t107 s_4_0 s_4_1 cut_5_0 cut_5_1 cut_5_2 h Q) : gabionlaw09_FlatTorn.J27 d keep keep_n keep_c f l_15 t106 t107 s_4_0 s_4_1 cut_5_0 cut_5_1 cut_5_2 h Q :=
 xs_ok (H := gabionlaw09_FlatTorn.H) (lcuts := gabionlaw09_FlatTorn.lc) (rcuts := [⟨15, [4, 5, 7, 8, 10, 13, 14], [4, 5, 7]⟩, ⟨18, [4, 5, 8, 10], [4, 5]⟩, ⟨21, [4, 5, 8, 10, 13], [4, 5]⟩, ⟨37, [4, 13, 18, 19], [4]⟩]) (fn := Tryz.f5) mixed Tryz.func5 2000 _ _ _ (@cast (gabionlaw09_FlatTorn.J27.wp d keep keep_n keep_c f l_15 t106 t107 s_4_0 s_4_1 cut_5_0 cut_5_1 cut_5_2 h Q) _ (by kernel_rfl) hk)
theorem gabionlaw09_FlatTorn.J37.ok {f : Option Addr} {l_18 : Int} {h0_19 : Int} {s_4_0 : ByteArray} {s_4_1 : ByteArray} {h : Heap} {Q : Value → Heap → Prop} (hk : gabionlaw09_FlatTorn.J37.wp f l_18 h0_19 s_4_0 s_4_1 h Q) : gabionlaw09_FlatTorn.J37 f l_18 h0_19 s_4_0 s_4_1 h Q :=
 xs_ok (H := gabionlaw09_FlatTorn.H) (lcuts := gabionlaw09_FlatTorn.lc) (rcuts := [⟨15, [4, 5, 7, 8, 10, 13, 14], [4, 5, 7]⟩, ⟨18, [4, 5, 8, 10], [4, 5]⟩, ⟨21, [4, 5, 8, 10, 13], [4, 5]⟩, ⟨27, [4, 5, 8, 10, 13, 15, 106, 107], [4, 5]⟩]) (fn := Tryz.f5) mixed Tryz.func5 2000 _ _ _ (@cast (gabionlaw09_FlatTorn.J37.wp f l_18 h0_19 s_4_0 s_4_1 h Q) _ (by kernel_rfl) hk)
theorem gabionlaw09_FlatTorn.L38.ok {f : Option Addr} {l_18 : Int} {h0_19 : Int} {t173 : Int} {t174 : Int} {s_4_0 : ByteArray} {s_4_1 : ByteArray} {h : Heap} {Q : Value → Heap → Prop} (hk : gabionlaw09_FlatTorn.L38.wp f l_18 h0_19 t173 t174 s_4_0 s_4_1 h Q) : gabionlaw09_FlatTorn.L38 f l_18 h0_19 t173 t174 s_4_0 s_4_1 h Q :=
 xs_ok (H := gabionlaw09_FlatTorn.H) (lcuts := gabionlaw09_FlatTorn.lc) (rcuts := gabionlaw09_FlatTorn.rc) (fn := Tryz.f5) mixed Tryz.func5 2000 _ _ _ (@cast (gabionlaw09_FlatTorn.L38.wp f l_18 h0_19 t173 t174 s_4_0 s_4_1 h Q) _ (by kernel_rfl) hk)

/-! gabion/gabionref07.Bank -/
/-! gabion/gabionref05.table -/
/-! gabion/gabionref05.Size -/
/-! gabion/gabionref05.Check -/
/-! gabion/gabionref07.Check -/
/-! gabion/gabionref09.Plan -/
/-! gabion/gabionref09.Size -/
/-! gabion/gabionref09.Check -/
/-! (*gabion/pm.Device).Count -/
/-! (*gabion/ring.Ring).State -/
/-! (*gabion/flat.Flat).Moves -/
/-! gabion/gabionlaw09.FlatMakes -/
/-! gabion/gabionref03.New -/
/-! gabion/gabionref01.Get -/
/-! gabion/gabionref03.begin -/
/-! gabion/gabionref03.Store -/
/-! gabion/gabionref03.Flush -/
/-! gabion/gabionref03.last -/
/-! gabion/gabionref03.Fence -/
/-! gabion/gabionref04.last -/
/-! gabion/gabionref04.Put -/
/-! gabion/gabionref05.Format -/
/-! gabion/gabionref06.Pack -/
/-! gabion/gabionref03.Load -/
/-! gabion/gabionref01.Put -/
/-! gabion/gabionref01.may -/
/-! gabion/gabionref01.bit -/
/-! gabion/gabionref01.Field -/
/-! gabion/gabionref02.bits -/
/-! gabion/gabionref02.Sum -/
end Go.Gb
