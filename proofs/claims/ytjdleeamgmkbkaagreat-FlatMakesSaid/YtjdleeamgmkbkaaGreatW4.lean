/- Own text for the seat: W4. -/
import Derived.Test.YtjdleeamgmkbkaaGreatW3
set_option linter.unusedVariables false
set_option linter.unusedSimpArgs false
set_option linter.unnecessarySimpa false
set_option linter.deprecated false
set_option maxRecDepth 100000
namespace Go.Gb
open Go.Proofs

/-! gabion/gabionlaw09.FlatAlike -/
/-! (*gabion/ring.Ring).Where -/
/-! (*gabion/flat.Flat).Where -/
def flat_Flat_Where.H : Hn := ⟨[], [], [], []⟩
def flat_Flat_Where.lc : List Cut := []
def flat_Flat_Where.rc : List Cut := []
def flat_Flat_Where.wp (f : Option Addr) (l : Int) (h : Heap) (Q : Value → Heap → Prop) : Prop :=
 C Tryz.prog 84 #[.pointer f, .int .i64 l] h fun (r : Value) (h' : Heap) =>
 ∃ (x : Option Addr),
 ∃ (x_1 : Int),
 ∃ (x_2 : Int),
 r = .tuple #[.pointer x, .int .i64 x_1, .int .i64 x_2] ∧
 xsIf (decide (x_2 ≠ 0)) (Q (.tuple #[.int .i64 0, .int .i64 x_2]) h')
 (C Tryz.prog 88 #[.pointer x, .int .i64 x_1] h' fun (r : Value) (h' : Heap) =>
 ∃ (x : Int), ∃ (x_3 : Int), r = .tuple #[.int .i64 x, .int .i64 x_3] ∧ Q (.tuple #[.int .i64 x, .int .i64 x_3]) h')
theorem flat_Flat_Where.ok {f : Option Addr} {l : Int} {h : Heap} {Q : Value → Heap → Prop} (hk : flat_Flat_Where.wp f l h Q) : C Tryz.prog 25 #[.pointer f, .int .i64 l] h Q :=
 C_of_xs (H := flat_Flat_Where.H) (lcuts := flat_Flat_Where.lc) (rcuts := flat_Flat_Where.rc) (l := [.pointer f, .int .i64 l]) 2000 mixed Tryz.func25 rfl (by kernel_rfl) (@cast (flat_Flat_Where.wp f l h Q) _ (by kernel_rfl) hk)

/-! (*gabion/pm.Device).is -/
/-! (*gabion/pm.Device).Break -/
/-! (*gabion/flat.Flat).ring -/
def flat_Flat_ring.H : Hn := ⟨[], [], [], []⟩
def flat_Flat_ring.lc : List Cut := []
def flat_Flat_ring.rc : List Cut := []
def flat_Flat_ring.wp (f : Option Addr) (region : Int) (h : Heap) (Q : Value → Heap → Prop) : Prop :=
 xsIf f.isNone (Q (.pointer none) h)
 (xsIf (decide (region < 0)) (Q (.pointer none) h)
 (atBase f fun (b o : Nat) =>
 ∃ (x : Option Addr),
 ∃ (n : Nat),
 ∃ (m : Nat),
 h.cell b (o + 5) = some (.slice x n m) ∧
 xsIf (decide ((↑n : Int) ≤ region)) (Q (.pointer none) h)
 (atBase f fun (b o : Nat) =>
 ∃ (x : Option Addr),
 ∃ (n : Nat),
 ∃ (m : Nat),
 h.cell b (o + 5) = some (.slice x n m) ∧ (0 ≤ region ∧ region < (↑n : Int)) ∧ atBase x fun (b o : Nat) => ∃ (x : Option Addr), h.cell b (o + region.toNat * 1) = some (.pointer x) ∧ Q (.pointer x) h)))
theorem flat_Flat_ring.ok {f : Option Addr} {region : Int} {h : Heap} {Q : Value → Heap → Prop} (hk : flat_Flat_ring.wp f region h Q) : C Tryz.prog 90 #[.pointer f, .int .i64 region] h Q :=
 C_of_xs (H := flat_Flat_ring.H) (lcuts := flat_Flat_ring.lc) (rcuts := flat_Flat_ring.rc) (l := [.pointer f, .int .i64 region]) 2000 mixed Tryz.func90 rfl (by kernel_rfl) (@cast (flat_Flat_ring.wp f region h Q) _ (by kernel_rfl) hk)

/-! (*gabion/ring.Ring).Left -/
def ring_Ring_Left.H : Hn := ⟨[], [], [], []⟩
def ring_Ring_Left.lc : List Cut := []
def ring_Ring_Left.rc : List Cut := []
def ring_Ring_Left.wp (r0 : Option Addr) (h : Heap) (Q : Value → Heap → Prop) : Prop :=
 xsIf r0.isNone (Q (.int .i64 0) h)
 (atBase r0 fun (b o : Nat) =>
 ∃ (x : Option Addr), h.cell b (o + 4) = some (.pointer x) ∧ C Tryz.prog 165 #[.pointer x] h fun (r : Value) (h' : Heap) => ∃ (x : Int), r = .int .i64 x ∧ Q (.int .i64 x) h')
theorem ring_Ring_Left.ok {r0 : Option Addr} {h : Heap} {Q : Value → Heap → Prop} (hk : ring_Ring_Left.wp r0 h Q) : C Tryz.prog 91 #[.pointer r0] h Q :=
 C_of_xs (H := ring_Ring_Left.H) (lcuts := ring_Ring_Left.lc) (rcuts := ring_Ring_Left.rc) (l := [.pointer r0]) 2000 mixed Tryz.func91 rfl (by kernel_rfl) (@cast (ring_Ring_Left.wp r0 h Q) _ (by kernel_rfl) hk)

/-! (*gabion/flat.Flat).Left -/
def flat_Flat_Left.H : Hn := ⟨[], [], [], []⟩
def flat_Flat_Left.lc : List Cut := []
def flat_Flat_Left.rc : List Cut := []
def flat_Flat_Left.wp (f : Option Addr) (region : Int) (h : Heap) (Q : Value → Heap → Prop) : Prop :=
 C Tryz.prog 90 #[.pointer f, .int .i64 region] h fun (r : Value) (h' : Heap) =>
 ∃ (x : Option Addr), r = .pointer x ∧ C Tryz.prog 91 #[.pointer x] h' fun (r : Value) (h' : Heap) => ∃ (x : Int), r = .int .i64 x ∧ Q (.int .i64 x) h'
theorem flat_Flat_Left.ok {f : Option Addr} {region : Int} {h : Heap} {Q : Value → Heap → Prop} (hk : flat_Flat_Left.wp f region h Q) : C Tryz.prog 27 #[.pointer f, .int .i64 region] h Q :=
 C_of_xs (H := flat_Flat_Left.H) (lcuts := flat_Flat_Left.lc) (rcuts := flat_Flat_Left.rc) (l := [.pointer f, .int .i64 region]) 2000 mixed Tryz.func27 rfl (by kernel_rfl) (@cast (flat_Flat_Left.wp f region h Q) _ (by kernel_rfl) hk)

/-! gabion/gabionlaw09.FlatKeeps -/
/-! (*gabion/pm.Device).Fuse -/
/-! (*gabion/pm.Device).Boot -/
/-! gabion/line.Mixed -/
/-! gabion/gabionlaw09.FlatTorn -/
/-! gabion/gabionref07.Bank -/
def gabionref07_Bank.H : Hn := ⟨[], [], [], []⟩
def gabionref07_Bank.lc : List Cut := []
def gabionref07_Bank.rc : List Cut := []
def gabionref07_Bank.wp (p_0 : Int) (p_1 : Int) (p_2 : Int) (p_3 : Int) (h : Heap) (Q : Value → Heap → Prop) : Prop :=
 Q (.agg #[.int .i64 p_0, .int .i64 (IntKind.i64.wrap (p_1 + 2)), .int .i64 p_2]) h
theorem gabionref07_Bank.ok {p_0 : Int} {p_1 : Int} {p_2 : Int} {p_3 : Int} {h : Heap} {Q : Value → Heap → Prop} (hk : gabionref07_Bank.wp p_0 p_1 p_2 p_3 h Q) : C Tryz.prog 106 #[.agg #[.int .i64 p_0, .int .i64 p_1, .int .i64 p_2, .int .i64 p_3]] h Q :=
 C_of_xs (H := gabionref07_Bank.H) (lcuts := gabionref07_Bank.lc) (rcuts := gabionref07_Bank.rc) (l := [.agg #[.int .i64 p_0, .int .i64 p_1, .int .i64 p_2, .int .i64 p_3]]) 2000 mixed Tryz.func106 rfl (by kernel_rfl) (@cast (gabionref07_Bank.wp p_0 p_1 p_2 p_3 h Q) _ (by kernel_rfl) hk)

/-! gabion/gabionref05.table -/
def gabionref05_table.H : Hn := ⟨[], [], [], []⟩
def gabionref05_table.lc : List Cut := []
def gabionref05_table.rc : List Cut := []
def gabionref05_table.wp (p_0 : Int) (p_1 : Int) (p_2 : Int) (h : Heap) (Q : Value → Heap → Prop) : Prop :=
 Q (.int .i64 (iquo .i64 (IntKind.i64.wrap (p_2 + 7)) 8)) h
theorem gabionref05_table.ok {p_0 : Int} {p_1 : Int} {p_2 : Int} {h : Heap} {Q : Value → Heap → Prop} (hk : gabionref05_table.wp p_0 p_1 p_2 h Q) : C Tryz.prog 182 #[.agg #[.int .i64 p_0, .int .i64 p_1, .int .i64 p_2]] h Q :=
 C_of_xs (H := gabionref05_table.H) (lcuts := gabionref05_table.lc) (rcuts := gabionref05_table.rc) (l := [.agg #[.int .i64 p_0, .int .i64 p_1, .int .i64 p_2]]) 2000 mixed Tryz.func182 rfl (by kernel_rfl) (@cast (gabionref05_table.wp p_0 p_1 p_2 h Q) _ (by kernel_rfl) hk)

/-! gabion/gabionref05.Size -/
def gabionref05_Size.H : Hn := ⟨[], [], [], []⟩
def gabionref05_Size.lc : List Cut := []
def gabionref05_Size.rc : List Cut := []
def gabionref05_Size.wp (p_0 : Int) (p_1 : Int) (p_2 : Int) (h : Heap) (Q : Value → Heap → Prop) : Prop :=
 C Tryz.prog 182 #[.agg #[.int .i64 p_0, .int .i64 p_1, .int .i64 p_2]] h fun (r : Value) (h' : Heap) =>
 ∃ (x : Int), r = .int .i64 x ∧ Q (.int .i64 (IntKind.i64.wrap (IntKind.i64.wrap (x + p_1) + p_2))) h'
theorem gabionref05_Size.ok {p_0 : Int} {p_1 : Int} {p_2 : Int} {h : Heap} {Q : Value → Heap → Prop} (hk : gabionref05_Size.wp p_0 p_1 p_2 h Q) : C Tryz.prog 107 #[.agg #[.int .i64 p_0, .int .i64 p_1, .int .i64 p_2]] h Q :=
 C_of_xs (H := gabionref05_Size.H) (lcuts := gabionref05_Size.lc) (rcuts := gabionref05_Size.rc) (l := [.agg #[.int .i64 p_0, .int .i64 p_1, .int .i64 p_2]]) 2000 mixed Tryz.func107 rfl (by kernel_rfl) (@cast (gabionref05_Size.wp p_0 p_1 p_2 h Q) _ (by kernel_rfl) hk)

/-! gabion/gabionref05.Check -/
def gabionref05_Check.H : Hn := ⟨[], [], [], []⟩
def gabionref05_Check.lc : List Cut := []
def gabionref05_Check.rc : List Cut := []
def gabionref05_Check.wp (p_0 : Int) (p_1 : Int) (p_2 : Int) (lines : Int) (h : Heap) (Q : Value → Heap → Prop) : Prop :=
 xsIf (decide (p_0 < 0)) (Q (.int .i64 2) h)
 (xsIf (decide (8192 < p_0)) (Q (.int .i64 2) h)
 (xsIf (decide (p_1 < 1)) (Q (.int .i64 2) h)
 (xsIf (decide (1026 < p_1)) (Q (.int .i64 2) h)
 (xsIf (decide (p_2 < 0)) (Q (.int .i64 2) h)
 (xsIf (decide (64 < p_2)) (Q (.int .i64 2) h)
 (C Tryz.prog 107 #[.agg #[.int .i64 p_0, .int .i64 p_1, .int .i64 p_2]] h fun (r : Value) (h' : Heap) =>
 ∃ (x : Int), r = .int .i64 x ∧ xsIf (decide (lines < IntKind.i64.wrap (p_0 + x))) (Q (.int .i64 3) h') (Q (.int .i64 0) h')))))))
theorem gabionref05_Check.ok {p_0 : Int} {p_1 : Int} {p_2 : Int} {lines : Int} {h : Heap} {Q : Value → Heap → Prop} (hk : gabionref05_Check.wp p_0 p_1 p_2 lines h Q) : C Tryz.prog 168 #[.agg #[.int .i64 p_0, .int .i64 p_1, .int .i64 p_2], .int .i64 lines] h Q :=
 C_of_xs (H := gabionref05_Check.H) (lcuts := gabionref05_Check.lc) (rcuts := gabionref05_Check.rc) (l := [.agg #[.int .i64 p_0, .int .i64 p_1, .int .i64 p_2], .int .i64 lines]) 2000 mixed Tryz.func168 rfl (by kernel_rfl) (@cast (gabionref05_Check.wp p_0 p_1 p_2 lines h Q) _ (by kernel_rfl) hk)

/-! gabion/gabionref07.Check -/
def gabionref07_Check.H : Hn := ⟨[], [], [], []⟩
def gabionref07_Check.lc : List Cut := []
def gabionref07_Check.rc : List Cut := []
def gabionref07_Check.wp (p_0 : Int) (p_1 : Int) (p_2 : Int) (p_3 : Int) (lines : Int) (h : Heap) (Q : Value → Heap → Prop) : Prop :=
 xsIf (decide (p_1 < 1)) (Q (.int .i64 2) h)
 (xsIf (decide (1024 < p_1)) (Q (.int .i64 2) h)
 (xsIf (decide (p_3 < 1)) (Q (.int .i64 2) h)
 (xsIf (decide (65535 < p_3)) (Q (.int .i64 2) h)
 (C Tryz.prog 106 #[.agg #[.int .i64 p_0, .int .i64 p_1, .int .i64 p_2, .int .i64 p_3]] h fun (r : Value) (h' : Heap) =>
 ∃ (x : Int),
 ∃ (x_1 : Int),
 ∃ (x_2 : Int),
 r = .agg #[.int .i64 x, .int .i64 x_1, .int .i64 x_2] ∧
 C Tryz.prog 168 #[.agg #[.int .i64 x, .int .i64 x_1, .int .i64 x_2], .int .i64 lines] h' fun (r : Value) (h' : Heap) =>
 ∃ (x : Int), r = .int .i64 x ∧ Q (.int .i64 x) h'))))
theorem gabionref07_Check.ok {p_0 : Int} {p_1 : Int} {p_2 : Int} {p_3 : Int} {lines : Int} {h : Heap} {Q : Value → Heap → Prop} (hk : gabionref07_Check.wp p_0 p_1 p_2 p_3 lines h Q) : C Tryz.prog 95 #[.agg #[.int .i64 p_0, .int .i64 p_1, .int .i64 p_2, .int .i64 p_3], .int .i64 lines] h Q :=
 C_of_xs (H := gabionref07_Check.H) (lcuts := gabionref07_Check.lc) (rcuts := gabionref07_Check.rc) (l := [.agg #[.int .i64 p_0, .int .i64 p_1, .int .i64 p_2, .int .i64 p_3], .int .i64 lines]) 2000 mixed Tryz.func95 rfl (by kernel_rfl) (@cast (gabionref07_Check.wp p_0 p_1 p_2 p_3 lines h Q) _ (by kernel_rfl) hk)

/-! gabion/gabionref09.Plan -/
def gabionref09_Plan.H : Hn := ⟨[], [], [], []⟩
def gabionref09_Plan.lc : List Cut := []
def gabionref09_Plan.rc : List Cut := []
def gabionref09_Plan.wp (c_0 : Int) (c_1 : Int) (c_2 : Int) (c_3 : Int) (c_4 : Int) (r0 : Int) (h : Heap) (Q : Value → Heap → Prop) : Prop :=
 C Tryz.prog 106 #[.agg #[.int .i64 0, .int .i64 c_1, .int .i64 c_2, .int .i64 c_3]] h fun (r : Value) (h' : Heap) =>
 ∃ (x : Int),
 ∃ (x_1 : Int),
 ∃ (x_2 : Int),
 r = .agg #[.int .i64 x, .int .i64 x_1, .int .i64 x_2] ∧
 C Tryz.prog 107 #[.agg #[.int .i64 x, .int .i64 x_1, .int .i64 x_2]] h' fun (r : Value) (h' : Heap) =>
 ∃ (x : Int),
 r = .int .i64 x ∧ Q (.agg #[.int .i64 (IntKind.i64.wrap (1 + IntKind.i64.wrap (r0 * x))), .int .i64 c_1, .int .i64 c_2, .int .i64 c_3]) h'
theorem gabionref09_Plan.ok {c_0 : Int} {c_1 : Int} {c_2 : Int} {c_3 : Int} {c_4 : Int} {r0 : Int} {h : Heap} {Q : Value → Heap → Prop} (hk : gabionref09_Plan.wp c_0 c_1 c_2 c_3 c_4 r0 h Q) : C Tryz.prog 44 #[.agg #[.int .i64 c_0, .int .i64 c_1, .int .i64 c_2, .int .i64 c_3, .int .u64 c_4], .int .i64 r0] h Q :=
 C_of_xs (H := gabionref09_Plan.H) (lcuts := gabionref09_Plan.lc) (rcuts := gabionref09_Plan.rc) (l := [.agg #[.int .i64 c_0, .int .i64 c_1, .int .i64 c_2, .int .i64 c_3, .int .u64 c_4], .int .i64 r0]) 2000 mixed Tryz.func44 rfl (by kernel_rfl) (@cast (gabionref09_Plan.wp c_0 c_1 c_2 c_3 c_4 r0 h Q) _ (by kernel_rfl) hk)

/-! gabion/gabionref09.Size -/
def gabionref09_Size.H : Hn := ⟨[], [], [], []⟩
def gabionref09_Size.lc : List Cut := []
def gabionref09_Size.rc : List Cut := []
def gabionref09_Size.wp (c_0 : Int) (c_1 : Int) (c_2 : Int) (c_3 : Int) (c_4 : Int) (h : Heap) (Q : Value → Heap → Prop) : Prop :=
 C Tryz.prog 44 #[.agg #[.int .i64 c_0, .int .i64 c_1, .int .i64 c_2, .int .i64 c_3, .int .u64 c_4], .int .i64 c_0] h
 fun (r : Value) (h' : Heap) =>
 ∃ (x : Int), ∃ (x_1 : Int), ∃ (x_2 : Int), ∃ (x_3 : Int), r = .agg #[.int .i64 x, .int .i64 x_1, .int .i64 x_2, .int .i64 x_3] ∧ Q (.int .i64 x) h'
theorem gabionref09_Size.ok {c_0 : Int} {c_1 : Int} {c_2 : Int} {c_3 : Int} {c_4 : Int} {h : Heap} {Q : Value → Heap → Prop} (hk : gabionref09_Size.wp c_0 c_1 c_2 c_3 c_4 h Q) : C Tryz.prog 33 #[.agg #[.int .i64 c_0, .int .i64 c_1, .int .i64 c_2, .int .i64 c_3, .int .u64 c_4]] h Q :=
 C_of_xs (H := gabionref09_Size.H) (lcuts := gabionref09_Size.lc) (rcuts := gabionref09_Size.rc) (l := [.agg #[.int .i64 c_0, .int .i64 c_1, .int .i64 c_2, .int .i64 c_3, .int .u64 c_4]]) 2000 mixed Tryz.func33 rfl (by kernel_rfl) (@cast (gabionref09_Size.wp c_0 c_1 c_2 c_3 c_4 h Q) _ (by kernel_rfl) hk)

/-! gabion/gabionref09.Check -/
def gabionref09_Check.H : Hn := ⟨[], [], [], []⟩
def gabionref09_Check.lc : List Cut := []
def gabionref09_Check.rc : List Cut := []
def gabionref09_Check.wp (c_0 : Int) (c_1 : Int) (c_2 : Int) (c_3 : Int) (c_4 : Int) (lines : Int) (h : Heap) (Q : Value → Heap → Prop) : Prop :=
 C Tryz.prog 95 #[.agg #[.int .i64 0, .int .i64 c_1, .int .i64 c_2, .int .i64 c_3], .int .i64 1000000] h fun (r : Value) (h' : Heap) =>
 ∃ (x : Int),
 r = .int .i64 x ∧
 xsIf (decide (x ≠ 0)) (Q (.int .i64 2) h')
 (xsIf (decide (c_0 < 1)) (Q (.int .i64 2) h')
 (xsIf (decide (16 < c_0)) (Q (.int .i64 2) h')
 (C Tryz.prog 33 #[.agg #[.int .i64 c_0, .int .i64 c_1, .int .i64 c_2, .int .i64 c_3, .int .u64 c_4]] h' fun (r : Value) (h' : Heap) =>
 ∃ (x : Int), r = .int .i64 x ∧ xsIf (decide (lines < x)) (Q (.int .i64 3) h') (Q (.int .i64 0) h'))))
theorem gabionref09_Check.ok {c_0 : Int} {c_1 : Int} {c_2 : Int} {c_3 : Int} {c_4 : Int} {lines : Int} {h : Heap} {Q : Value → Heap → Prop} (hk : gabionref09_Check.wp c_0 c_1 c_2 c_3 c_4 lines h Q) : C Tryz.prog 32 #[.agg #[.int .i64 c_0, .int .i64 c_1, .int .i64 c_2, .int .i64 c_3, .int .u64 c_4], .int .i64 lines] h Q :=
 C_of_xs (H := gabionref09_Check.H) (lcuts := gabionref09_Check.lc) (rcuts := gabionref09_Check.rc) (l := [.agg #[.int .i64 c_0, .int .i64 c_1, .int .i64 c_2, .int .i64 c_3, .int .u64 c_4], .int .i64 lines]) 2000 mixed Tryz.func32 rfl (by kernel_rfl) (@cast (gabionref09_Check.wp c_0 c_1 c_2 c_3 c_4 lines h Q) _ (by kernel_rfl) hk)

/-! (*gabion/pm.Device).Count -/
def pm_Device_Count.H : Hn := ⟨[], [], [], []⟩
def pm_Device_Count.lc : List Cut := []
def pm_Device_Count.rc : List Cut := []
def pm_Device_Count.wp (d : Option Addr) (h : Heap) (Q : Value → Heap → Prop) : Prop :=
 xsIf d.isNone (Q (.int .i64 0) h) (atBase d fun (b o : Nat) => ∃ (x : Int), h.cell b (o + 6) = some (.int .i64 x) ∧ Q (.int .i64 x) h)
theorem pm_Device_Count.ok {d : Option Addr} {h : Heap} {Q : Value → Heap → Prop} (hk : pm_Device_Count.wp d h Q) : C Tryz.prog 35 #[.pointer d] h Q :=
 C_of_xs (H := pm_Device_Count.H) (lcuts := pm_Device_Count.lc) (rcuts := pm_Device_Count.rc) (l := [.pointer d]) 2000 mixed Tryz.func35 rfl (by kernel_rfl) (@cast (pm_Device_Count.wp d h Q) _ (by kernel_rfl) hk)

/-! (*gabion/ring.Ring).State -/
def ring_Ring_State.H : Hn := ⟨[], [], [], []⟩
def ring_Ring_State.lc : List Cut := []
def ring_Ring_State.rc : List Cut := []
def ring_Ring_State.wp (r0 : Option Addr) (h : Heap) (Q : Value → Heap → Prop) : Prop :=
 xsIf r0.isNone (Q (.agg #[.int .i64 0, .int .i64 0, .int .u32 0]) h)
 (atBase r0 fun (b o : Nat) =>
 ∃ (x : Int),
 h.cell b (o + 5) = some (.int .i64 x) ∧
 ∃ (x_1 : Int),
 h.cell b (o + 5 + 1) = some (.int .i64 x_1) ∧
 ∃ (x_2 : Int), h.cell b (o + 5 + 1 + 1) = some (.int .u32 x_2) ∧ Q (.agg #[.int .i64 x, .int .i64 x_1, .int .u32 x_2]) h)
theorem ring_Ring_State.ok {r0 : Option Addr} {h : Heap} {Q : Value → Heap → Prop} (hk : ring_Ring_State.wp r0 h Q) : C Tryz.prog 96 #[.pointer r0] h Q :=
 C_of_xs (H := ring_Ring_State.H) (lcuts := ring_Ring_State.lc) (rcuts := ring_Ring_State.rc) (l := [.pointer r0]) 2000 mixed Tryz.func96 rfl (by kernel_rfl) (@cast (ring_Ring_State.wp r0 h Q) _ (by kernel_rfl) hk)

/-! (*gabion/flat.Flat).Moves -/
def flat_Flat_Moves.H : Hn := ⟨[], [], [], []⟩
def flat_Flat_Moves.lc : List Cut := []
def flat_Flat_Moves.rc : List Cut := []
def flat_Flat_Moves.wp (f : Option Addr) (region : Int) (h : Heap) (Q : Value → Heap → Prop) : Prop :=
 C Tryz.prog 90 #[.pointer f, .int .i64 region] h fun (r : Value) (h' : Heap) =>
 ∃ (x : Option Addr),
 r = .pointer x ∧
 C Tryz.prog 96 #[.pointer x] h' fun (r : Value) (h' : Heap) =>
 ∃ (x : Int), ∃ (x_1 : Int), ∃ (x_2 : Int), r = .agg #[.int .i64 x, .int .i64 x_1, .int .u32 x_2] ∧ Q (.int .u32 x_2) h'
theorem flat_Flat_Moves.ok {f : Option Addr} {region : Int} {h : Heap} {Q : Value → Heap → Prop} (hk : flat_Flat_Moves.wp f region h Q) : C Tryz.prog 37 #[.pointer f, .int .i64 region] h Q :=
 C_of_xs (H := flat_Flat_Moves.H) (lcuts := flat_Flat_Moves.lc) (rcuts := flat_Flat_Moves.rc) (l := [.pointer f, .int .i64 region]) 2000 mixed Tryz.func37 rfl (by kernel_rfl) (@cast (flat_Flat_Moves.wp f region h Q) _ (by kernel_rfl) hk)

/-! gabion/gabionlaw09.FlatMakes -/
def gabionlaw09_FlatMakes.H : Hn := ⟨[], [], [⟨1, .q 0 (.q 1 (.q 5 (.q 2 (.q 3 (.q 4 (.nil)))))), []⟩], []⟩
def gabionlaw09_FlatMakes.lc : List Cut := [⟨2, [1, 2, 27, 28, 29], []⟩]
def gabionlaw09_FlatMakes.rc : List Cut := [⟨9, [1, 2, 8, 9, 10, 11, 27, 28, 29], [8, 10]⟩, ⟨11, [1, 2, 8, 10, 27, 28, 29], [8, 10]⟩, ⟨16, [1, 2, 12, 27, 28, 29], []⟩, ⟨19, [1, 2, 27, 28, 29], []⟩]
def gabionlaw09_FlatMakes.L2 (lines : Int) (l : Int) (t27 : Option Addr) (t27_n : Nat) (t27_c : Nat) (t28 : Int) (t29 : Int) (h : Heap) (Q : Value → Heap → Prop) : Prop :=
 TW Tryz.prog 6 157 [.code (cAt (bodyOf Tryz.f6) [1, 0, 1, 0, 0]), .inLoop (cAt (bodyOf Tryz.f6) [1, 0, 1, 0, 0]), .inBlock 0, .code (cAt (bodyOf Tryz.f6) [1, 1])] ⟨[(1, .v (.int .i64 lines)), (2, .v (.int .i64 l)), (27, .v (.slice t27 t27_n t27_c)), (28, .v (.int .i64 t28)), (29, .v (.int .i64 t29))], []⟩ h Q
def gabionlaw09_FlatMakes.J9 (lines : Int) (l : Int) (want : Int) (size : Int) (t27 : Option Addr) (t27_n : Nat) (t27_c : Nat) (t28 : Int) (t29 : Int) (c_0 : Int) (c_1 : Int) (c_2 : Int) (c_3 : Int) (c_4 : Int) (q_0 : Int) (q_1 : Int) (q_2 : Int) (q_3 : Int) (q_4 : Int) (h : Heap) (Q : Value → Heap → Prop) : Prop :=
 TW Tryz.prog 6 157 [.code (cAt (bodyOf Tryz.f6) [1, 0, 1, 0, 0, 1, 1, 0, 0, 1, 1, 1, 1, 1, 0, 0]), .code (cAt (bodyOf Tryz.f6) [1, 0, 1, 0, 0, 1, 1, 0, 0, 1, 1, 1, 1, 1, 0, 1]), .code (cAt (bodyOf Tryz.f6) [1, 0, 1, 0, 0, 1, 1, 0, 0, 1, 1, 1, 1, 1, 1]), .inBlock 1, .code (cAt (bodyOf Tryz.f6) [1, 0, 1, 0, 0, 1, 1, 1]), .inLoop (cAt (bodyOf Tryz.f6) [1, 0, 1, 0, 0]), .inBlock 0, .code (cAt (bodyOf Tryz.f6) [1, 1])] ⟨[(1, .v (.int .i64 lines)), (2, .v (.int .i64 l)), (8, .p 8 0), (9, .v (.int .i64 want)), (10, .p 10 0), (11, .v (.int .i64 size)), (27, .v (.slice t27 t27_n t27_c)), (28, .v (.int .i64 t28)), (29, .v (.int .i64 t29))], [(8, [.int .i64 c_0, .int .i64 c_1, .int .i64 c_2, .int .i64 c_3, .int .u64 c_4]), (10, [.int .i64 q_0, .int .i64 q_1, .int .i64 q_2, .int .i64 q_3, .int .u64 q_4])]⟩ h Q
def gabionlaw09_FlatMakes.J11 (lines : Int) (l : Int) (t27 : Option Addr) (t27_n : Nat) (t27_c : Nat) (t28 : Int) (t29 : Int) (c_0 : Int) (c_1 : Int) (c_2 : Int) (c_3 : Int) (c_4 : Int) (q_0 : Int) (q_1 : Int) (q_2 : Int) (q_3 : Int) (q_4 : Int) (h : Heap) (Q : Value → Heap → Prop) : Prop :=
 TW Tryz.prog 6 157 [.code (cAt (bodyOf Tryz.f6) [1, 0, 1, 0, 0, 1, 1, 0, 0, 1, 1, 1, 1, 1, 1, 0]), .code (cAt (bodyOf Tryz.f6) [1, 0, 1, 0, 0, 1, 1, 0, 0, 1, 1, 1, 1, 1, 1, 1]), .inBlock 1, .code (cAt (bodyOf Tryz.f6) [1, 0, 1, 0, 0, 1, 1, 1]), .inLoop (cAt (bodyOf Tryz.f6) [1, 0, 1, 0, 0]), .inBlock 0, .code (cAt (bodyOf Tryz.f6) [1, 1])] ⟨[(1, .v (.int .i64 lines)), (2, .v (.int .i64 l)), (8, .p 8 0), (10, .p 10 0), (27, .v (.slice t27 t27_n t27_c)), (28, .v (.int .i64 t28)), (29, .v (.int .i64 t29))], [(8, [.int .i64 c_0, .int .i64 c_1, .int .i64 c_2, .int .i64 c_3, .int .u64 c_4]), (10, [.int .i64 q_0, .int .i64 q_1, .int .i64 q_2, .int .i64 q_3, .int .u64 q_4])]⟩ h Q
def gabionlaw09_FlatMakes.J16 (lines : Int) (l : Int) (d : Option Addr) (t27 : Option Addr) (t27_n : Nat) (t27_c : Nat) (t28 : Int) (t29 : Int) (h : Heap) (Q : Value → Heap → Prop) : Prop :=
 TW Tryz.prog 6 157 [.code (cAt (bodyOf Tryz.f6) [1, 0, 1, 0, 0, 1, 1, 0, 0, 1, 1, 1, 1, 1, 1, 1, 1, 1, 0, 1, 0]), .code (cAt (bodyOf Tryz.f6) [1, 0, 1, 0, 0, 1, 1, 0, 0, 1, 1, 1, 1, 1, 1, 1, 1, 1, 0, 1, 1]), .inBlock 1, .code (cAt (bodyOf Tryz.f6) [1, 0, 1, 0, 0, 1, 1, 1]), .inLoop (cAt (bodyOf Tryz.f6) [1, 0, 1, 0, 0]), .inBlock 0, .code (cAt (bodyOf Tryz.f6) [1, 1])] ⟨[(1, .v (.int .i64 lines)), (2, .v (.int .i64 l)), (12, .v (.pointer d)), (27, .v (.slice t27 t27_n t27_c)), (28, .v (.int .i64 t28)), (29, .v (.int .i64 t29))], []⟩ h Q
def gabionlaw09_FlatMakes.J19 (lines : Int) (l : Int) (t27 : Option Addr) (t27_n : Nat) (t27_c : Nat) (t28 : Int) (t29 : Int) (h : Heap) (Q : Value → Heap → Prop) : Prop :=
 TW Tryz.prog 6 157 [.code (cAt (bodyOf Tryz.f6) [1, 0, 1, 0, 0, 1, 1, 1]), .inLoop (cAt (bodyOf Tryz.f6) [1, 0, 1, 0, 0]), .inBlock 0, .code (cAt (bodyOf Tryz.f6) [1, 1])] ⟨[(1, .v (.int .i64 lines)), (2, .v (.int .i64 l)), (27, .v (.slice t27 t27_n t27_c)), (28, .v (.int .i64 t28)), (29, .v (.int .i64 t29))], []⟩ h Q
def gabionlaw09_FlatMakes.wp (x_0 : Int) (x_1 : Int) (x_2 : Int) (x_3 : Int) (x_4 : Int) (lines : Int) (l : Int) (h : Heap) (Q : Value → Heap → Prop) : Prop :=
 C Tryz.prog 14 #[.agg #[.int .i64 x_0, .int .i64 x_1, .int .i64 x_2, .int .i64 x_3, .int .u64 x_4]] h fun (r : Value) (h' : Heap) =>
 ∃ (x : Int),
 ∃ (x_5 : Int),
 ∃ (x_6 : Int),
 ∃ (x_7 : Int),
 ∃ (x_8 : Int),
 r = .agg #[.int .i64 x, .int .i64 x_5, .int .i64 x_6, .int .i64 x_7, .int .u64 x_8] ∧
 ∀ (b : Nat),
 h' b = none →
 gabionlaw09_FlatMakes.L2 lines l (some { block := b, off := 0 }) 2 2 (↑2 : Int) 0
 (upd h' b
 (Obj.cells
 #[.int .i64 x_0, .int .i64 x_1, .int .i64 x_2, .int .i64 x_3, .int .u64 x_4, .int .i64 x, .int .i64 x_5,
 .int .i64 x_6, .int .i64 x_7, .int .u64 x_8]
 27 (0, 0)))
 Q
def gabionlaw09_FlatMakes.L2.wp (lines : Int) (l : Int) (t27 : Option Addr) (t27_n : Nat) (t27_c : Nat) (t28 : Int) (t29 : Int) (h : Heap) (Q : Value → Heap → Prop) : Prop :=
 xsIf (decide (t29 < t28))
 ((0 ≤ t29 ∧ t29 < (↑t27_n : Int)) ∧
 atBase t27 fun (b o : Nat) =>
 ∃ (x : Int),
 h.cell b (o + t29.toNat * 5) = some (.int .i64 x) ∧
 ∃ (x_1 : Int),
 h.cell b (o + t29.toNat * 5 + 1) = some (.int .i64 x_1) ∧
 ∃ (x_2 : Int),
 h.cell b (o + t29.toNat * 5 + 1 + 1) = some (.int .i64 x_2) ∧
 ∃ (x_3 : Int),
 h.cell b (o + t29.toNat * 5 + 1 + 1 + 1) = some (.int .i64 x_3) ∧
 ∃ (x_4 : Int),
 h.cell b (o + t29.toNat * 5 + 1 + 1 + 1 + 1) = some (.int .u64 x_4) ∧
 C Tryz.prog 32
 #[.agg #[.int .i64 x, .int .i64 x_1, .int .i64 x_2, .int .i64 x_3, .int .u64 x_4], .int .i64 lines] h
 fun (r : Value) (h' : Heap) =>
 ∃ (x_5 : Int),
 r = .int .i64 x_5 ∧
 xsIf (decide (x_5 ≠ 2))
 (C Tryz.prog 33 #[.agg #[.int .i64 x, .int .i64 x_1, .int .i64 x_2, .int .i64 x_3, .int .u64 x_4]] h'
 fun (r : Value) (h' : Heap) => ∃ (x_6 : Int), r = .int .i64 x_6 ∧ gabionlaw09_FlatMakes.J9 lines l x_5 x_6 t27 t27_n t27_c t28 t29 x x_1 x_2 x_3 x_4 x x_1 x_2 x_3 x_4 h' Q)
 (gabionlaw09_FlatMakes.J9 lines l x_5 0 t27 t27_n t27_c t28 t29 x x_1 x_2 x_3 x_4 x x_1 x_2 x_3 x_4 h' Q))
 (C Tryz.prog 25 #[.pointer none, .int .i64 l] h fun (r : Value) (h' : Heap) =>
 ∃ (x : Int),
 ∃ (x_1 : Int),
 r = .tuple #[.int .i64 x, .int .i64 x_1] ∧
 C Tryz.prog 22 #[.pointer none, .int .i64 l] h' fun (r : Value) (h' : Heap) =>
 ∃ (x : ByteArray),
 ∃ (x_2 : Int),
 r = .tuple #[.string x, .int .i64 x_2] ∧
 C Tryz.prog 18 #[.pointer none] h' fun (r : Value) (h' : Heap) =>
 ∃ (x : Option Addr),
 ∃ (x_3 : Int),
 r = .tuple #[.pointer x, .int .i64 x_3] ∧
 C Tryz.prog 23 #[] h' fun (r : Value) (h' : Heap) =>
 ∃ (x : Bool),
 r = .bool x ∧
 xsIf x
 (xsIf (decide (x_1 = 1))
 (xsIf (decide (x_2 = 1))
 (xsIf (decide (x_3 = 1))
 (C Tryz.prog 20 #[.pointer none, .int .i64 l, .string { data := #[] }] h' fun (r : Value) (h' : Heap) =>
 ∃ (x : Int),
 r = .int .i64 x ∧
 xsIf (decide (x = 1))
 (C Tryz.prog 21 #[.pointer none, .int .i64 l, .int .i64 9, .int .u64 1] h' fun (r : Value) (h' : Heap) =>
 ∃ (x : Int),
 r = .int .i64 x ∧
 xsIf (decide (x = 1))
 (C Tryz.prog 36 #[.pointer none] h' fun (r : Value) (h' : Heap) =>
 ∃ (x : Int),
 ∃ (x_4 : Int),
 ∃ (x_5 : Int),
 ∃ (x_6 : Int),
 ∃ (x_7 : Int),
 r = .agg #[.int .i64 x, .int .i64 x_4, .int .i64 x_5, .int .i64 x_6, .int .u64 x_7] ∧
 xsIf (decide (x = 0) && (decide (x_4 = 0) && (decide (x_5 = 0) && (decide (x_6 = 0) && (decide (x_7 = 0) && true)))))
 (C Tryz.prog 24 #[.pointer none] h' fun (r : Value) (h' : Heap) =>
 ∃ (x : Int),
 r = .int .i64 x ∧
 xsIf (decide (x = 0))
 (C Tryz.prog 28 #[.pointer none, .int .i64 l] h' fun (r : Value) (h' : Heap) =>
 ∃ (x : Int),
 r = .int .i64 x ∧
 xsIf (decide (x = -1))
 (C Tryz.prog 37 #[.pointer none, .int .i64 l] h' fun (r : Value) (h' : Heap) =>
 ∃ (x : Int),
 r = .int .u32 x ∧
 xsIf (decide (x = 0))
 (C Tryz.prog 27 #[.pointer none, .int .i64 l] h' fun (r : Value) (h' : Heap) =>
 ∃ (x : Int), r = .int .i64 x ∧ Q (.bool (decide (x = 0))) h')
 (Q (.bool false) h'))
 (Q (.bool false) h'))
 (Q (.bool false) h'))
 (Q (.bool false) h'))
 (Q (.bool false) h'))
 (Q (.bool false) h'))
 (Q (.bool false) h'))
 (Q (.bool false) h'))
 (Q (.bool false) h'))
 (Q (.bool false) h'))
def gabionlaw09_FlatMakes.J9.wp (lines : Int) (l : Int) (want : Int) (size : Int) (t27 : Option Addr) (t27_n : Nat) (t27_c : Nat) (t28 : Int) (t29 : Int) (c_0 : Int) (c_1 : Int) (c_2 : Int) (c_3 : Int) (c_4 : Int) (q_0 : Int) (q_1 : Int) (q_2 : Int) (q_3 : Int) (q_4 : Int) (h : Heap) (Q : Value → Heap → Prop) : Prop :=
 C Tryz.prog 34 #[.agg #[.int .i64 q_0, .int .i64 q_1, .int .i64 q_2, .int .i64 q_3, .int .u64 q_4], .int .i64 lines] h
 fun (r : Value) (h' : Heap) =>
 ∃ (x : Int),
 r = .int .i64 x ∧
 xsIf (decide (x ≠ want)) (Q (.bool false) h')
 (C Tryz.prog 16 #[.agg #[.int .i64 q_0, .int .i64 q_1, .int .i64 q_2, .int .i64 q_3, .int .u64 q_4]] h' fun (r : Value) (h' : Heap) =>
 ∃ (x : Int),
 r = .int .i64 x ∧
 xsIf (decide (x ≠ size)) (Q (.bool false) h')
 (C Tryz.prog 17 #[.pointer none, .agg #[.int .i64 q_0, .int .i64 q_1, .int .i64 q_2, .int .i64 q_3, .int .u64 q_4]] h'
 fun (r : Value) (h' : Heap) =>
 ∃ (x : Int), r = .int .i64 x ∧ xsIf (decide (x ≠ 1)) (Q (.bool false) h') (gabionlaw09_FlatMakes.J11 lines l t27 t27_n t27_c t28 t29 c_0 c_1 c_2 c_3 c_4 q_0 q_1 q_2 q_3 q_4 h' Q)))
def gabionlaw09_FlatMakes.J11.wp (lines : Int) (l : Int) (t27 : Option Addr) (t27_n : Nat) (t27_c : Nat) (t28 : Int) (t29 : Int) (c_0 : Int) (c_1 : Int) (c_2 : Int) (c_3 : Int) (c_4 : Int) (q_0 : Int) (q_1 : Int) (q_2 : Int) (q_3 : Int) (q_4 : Int) (h : Heap) (Q : Value → Heap → Prop) : Prop :=
 C Tryz.prog 15 #[.int .i64 8] h fun (r : Value) (h' : Heap) =>
 ∃ (x : Option Addr),
 ∃ (x_1 : Int),
 r = .tuple #[.pointer x, .int .i64 x_1] ∧
 C Tryz.prog 32 #[.agg #[.int .i64 c_0, .int .i64 c_1, .int .i64 c_2, .int .i64 c_3, .int .u64 c_4], .int .i64 8] h'
 fun (r : Value) (h' : Heap) =>
 ∃ (x_2 : Int),
 r = .int .i64 x_2 ∧
 xsIf (decide (x_2 ≠ 0))
 (C Tryz.prog 17 #[.pointer x, .agg #[.int .i64 q_0, .int .i64 q_1, .int .i64 q_2, .int .i64 q_3, .int .u64 q_4]] h'
 fun (r : Value) (h' : Heap) =>
 ∃ (x_3 : Int),
 r = .int .i64 x_3 ∧
 xsIf (decide (x_3 ≠ x_2)) (Q (.bool false) h')
 (C Tryz.prog 35 #[.pointer x] h' fun (r : Value) (h' : Heap) =>
 ∃ (x_4 : Int), r = .int .i64 x_4 ∧ xsIf (decide (x_4 ≠ 0)) (Q (.bool false) h') (gabionlaw09_FlatMakes.J16 lines l x t27 t27_n t27_c t28 t29 h' Q)))
 (gabionlaw09_FlatMakes.J19 lines l t27 t27_n t27_c t28 t29 h' Q)
def gabionlaw09_FlatMakes.J16.wp (lines : Int) (l : Int) (d : Option Addr) (t27 : Option Addr) (t27_n : Nat) (t27_c : Nat) (t28 : Int) (t29 : Int) (h : Heap) (Q : Value → Heap → Prop) : Prop :=
 C Tryz.prog 18 #[.pointer d] h fun (r : Value) (h' : Heap) =>
 ∃ (x : Option Addr),
 ∃ (x_1 : Int),
 r = .tuple #[.pointer x, .int .i64 x_1] ∧
 xsIf (decide (x_1 ≠ 4)) (Q (.bool false) h') (xsIf (!x.isNone) (Q (.bool false) h') (gabionlaw09_FlatMakes.J19 lines l t27 t27_n t27_c t28 t29 h' Q))
def gabionlaw09_FlatMakes.J19.wp (lines : Int) (l : Int) (t27 : Option Addr) (t27_n : Nat) (t27_c : Nat) (t28 : Int) (t29 : Int) (h : Heap) (Q : Value → Heap → Prop) : Prop :=
 gabionlaw09_FlatMakes.L2 lines l t27 t27_n t27_c t28 (IntKind.i64.wrap (t29 + 1)) h Q
theorem gabionlaw09_FlatMakes.ok {x_0 : Int} {x_1 : Int} {x_2 : Int} {x_3 : Int} {x_4 : Int} {lines : Int} {l : Int} {h : Heap} {Q : Value → Heap → Prop} (hk : gabionlaw09_FlatMakes.wp x_0 x_1 x_2 x_3 x_4 lines l h Q) : C Tryz.prog 6 #[.agg #[.int .i64 x_0, .int .i64 x_1, .int .i64 x_2, .int .i64 x_3, .int .u64 x_4], .int .i64 lines, .int .i64 l] h Q :=
 C_of_xs (H := gabionlaw09_FlatMakes.H) (lcuts := gabionlaw09_FlatMakes.lc) (rcuts := gabionlaw09_FlatMakes.rc) (l := [.agg #[.int .i64 x_0, .int .i64 x_1, .int .i64 x_2, .int .i64 x_3, .int .u64 x_4], .int .i64 lines, .int .i64 l]) 2000 mixed Tryz.func6 rfl (by kernel_rfl) (@cast (gabionlaw09_FlatMakes.wp x_0 x_1 x_2 x_3 x_4 lines l h Q) _ (by kernel_rfl) hk)
theorem gabionlaw09_FlatMakes.L2.ok {lines : Int} {l : Int} {t27 : Option Addr} {t27_n : Nat} {t27_c : Nat} {t28 : Int} {t29 : Int} {h : Heap} {Q : Value → Heap → Prop} (hk : gabionlaw09_FlatMakes.L2.wp lines l t27 t27_n t27_c t28 t29 h Q) : gabionlaw09_FlatMakes.L2 lines l t27 t27_n t27_c t28 t29 h Q :=
 xs_ok (H := gabionlaw09_FlatMakes.H) (lcuts := gabionlaw09_FlatMakes.lc) (rcuts := gabionlaw09_FlatMakes.rc) (fn := Tryz.f6) mixed Tryz.func6 2000 _ _ _ (@cast (gabionlaw09_FlatMakes.L2.wp lines l t27 t27_n t27_c t28 t29 h Q) _ (by kernel_rfl) hk)
theorem gabionlaw09_FlatMakes.J9.ok {lines : Int} {l : Int} {want : Int} {size : Int} {t27 : Option Addr} {t27_n : Nat} {t27_c : Nat} {t28 : Int} {t29 : Int} {c_0 : Int} {c_1 : Int} {c_2 : Int} {c_3 : Int} {c_4 : Int} {q_0 : Int} {q_1 : Int} {q_2 : Int} {q_3 : Int} {q_4 : Int} {h : Heap} {Q : Value → Heap → Prop} (hk : gabionlaw09_FlatMakes.J9.wp lines l want size t27 t27_n t27_c t28 t29 c_0 c_1 c_2 c_3 c_4 q_0 q_1 q_2 q_3 q_4 h Q) : gabionlaw09_FlatMakes.J9 lines l want size t27 t27_n t27_c t28 t29 c_0 c_1 c_2 c_3 c_4 q_0 q_1 q_2 q_3 q_4 h Q :=
 xs_ok (H := gabionlaw09_FlatMakes.H) (lcuts := gabionlaw09_FlatMakes.lc) (rcuts := [⟨11, [1, 2, 8, 10, 27, 28, 29], [8, 10]⟩, ⟨16, [1, 2, 12, 27, 28, 29], []⟩, ⟨19, [1, 2, 27, 28, 29], []⟩]) (fn := Tryz.f6) mixed Tryz.func6 2000 _ _ _ (@cast (gabionlaw09_FlatMakes.J9.wp lines l want size t27 t27_n t27_c t28 t29 c_0 c_1 c_2 c_3 c_4 q_0 q_1 q_2 q_3 q_4 h Q) _ (by kernel_rfl) hk)
theorem gabionlaw09_FlatMakes.J11.ok {lines : Int} {l : Int} {t27 : Option Addr} {t27_n : Nat} {t27_c : Nat} {t28 : Int} {t29 : Int} {c_0 : Int} {c_1 : Int} {c_2 : Int} {c_3 : Int} {c_4 : Int} {q_0 : Int} {q_1 : Int} {q_2 : Int} {q_3 : Int} {q_4 : Int} {h : Heap} {Q : Value → Heap → Prop} (hk : gabionlaw09_FlatMakes.J11.wp lines l t27 t27_n t27_c t28 t29 c_0 c_1 c_2 c_3 c_4 q_0 q_1 q_2 q_3 q_4 h Q) : gabionlaw09_FlatMakes.J11 lines l t27 t27_n t27_c t28 t29 c_0 c_1 c_2 c_3 c_4 q_0 q_1 q_2 q_3 q_4 h Q :=
 xs_ok (H := gabionlaw09_FlatMakes.H) (lcuts := gabionlaw09_FlatMakes.lc) (rcuts := [⟨9, [1, 2, 8, 9, 10, 11, 27, 28, 29], [8, 10]⟩, ⟨16, [1, 2, 12, 27, 28, 29], []⟩, ⟨19, [1, 2, 27, 28, 29], []⟩]) (fn := Tryz.f6) mixed Tryz.func6 2000 _ _ _ (@cast (gabionlaw09_FlatMakes.J11.wp lines l t27 t27_n t27_c t28 t29 c_0 c_1 c_2 c_3 c_4 q_0 q_1 q_2 q_3 q_4 h Q) _ (by kernel_rfl) hk)
theorem gabionlaw09_FlatMakes.J16.ok {lines : Int} {l : Int} {d : Option Addr} {t27 : Option Addr} {t27_n : Nat} {t27_c : Nat} {t28 : Int} {t29 : Int} {h : Heap} {Q : Value → Heap → Prop} (hk : gabionlaw09_FlatMakes.J16.wp lines l d t27 t27_n t27_c t28 t29 h Q) : gabionlaw09_FlatMakes.J16 lines l d t27 t27_n t27_c t28 t29 h Q :=
 xs_ok (H := gabionlaw09_FlatMakes.H) (lcuts := gabionlaw09_FlatMakes.lc) (rcuts := [⟨9, [1, 2, 8, 9, 10, 11, 27, 28, 29], [8, 10]⟩, ⟨11, [1, 2, 8, 10, 27, 28, 29], [8, 10]⟩, ⟨19, [1, 2, 27, 28, 29], []⟩]) (fn := Tryz.f6) mixed Tryz.func6 2000 _ _ _ (@cast (gabionlaw09_FlatMakes.J16.wp lines l d t27 t27_n t27_c t28 t29 h Q) _ (by kernel_rfl) hk)
theorem gabionlaw09_FlatMakes.J19.ok {lines : Int} {l : Int} {t27 : Option Addr} {t27_n : Nat} {t27_c : Nat} {t28 : Int} {t29 : Int} {h : Heap} {Q : Value → Heap → Prop} (hk : gabionlaw09_FlatMakes.J19.wp lines l t27 t27_n t27_c t28 t29 h Q) : gabionlaw09_FlatMakes.J19 lines l t27 t27_n t27_c t28 t29 h Q :=
 xs_ok (H := gabionlaw09_FlatMakes.H) (lcuts := gabionlaw09_FlatMakes.lc) (rcuts := [⟨9, [1, 2, 8, 9, 10, 11, 27, 28, 29], [8, 10]⟩, ⟨11, [1, 2, 8, 10, 27, 28, 29], [8, 10]⟩, ⟨16, [1, 2, 12, 27, 28, 29], []⟩]) (fn := Tryz.f6) mixed Tryz.func6 2000 _ _ _ (@cast (gabionlaw09_FlatMakes.J19.wp lines l t27 t27_n t27_c t28 t29 h Q) _ (by kernel_rfl) hk)

/-! gabion/gabionref03.New -/
/-! gabion/gabionref01.Get -/
/-! gabion/gabionref03.begin -/
/-! gabion/gabionref03.Store -/
/-! gabion/gabionref03.Flush -/
/-! gabion/gabionref03.last -/
/-! gabion/gabionref03.Fence -/
/-! gabion/gabionref04.last -/
/-! gabion/gabionref04.Put -/
/-! gabion/gabionref05.Format -/
/-! gabion/gabionref06.Pack -/
/-! gabion/gabionref03.Load -/
/-! gabion/gabionref01.Put -/
/-! gabion/gabionref01.may -/
/-! gabion/gabionref01.bit -/
/-! gabion/gabionref01.Field -/
/-! gabion/gabionref02.bits -/
/-! gabion/gabionref02.Sum -/
end Go.Gb
