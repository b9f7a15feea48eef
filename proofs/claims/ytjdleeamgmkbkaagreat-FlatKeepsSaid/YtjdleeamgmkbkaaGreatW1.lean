/- Own text for the seat: W1. -/
import Derived.Test.YtjdleeamgmkbkaaGreatA8
import Derived.Test.YtjdleeamgmkbkaaGreatProg
set_option linter.unusedVariables false
set_option linter.unusedSimpArgs false
set_option linter.unnecessarySimpa false
set_option linter.deprecated false
set_option maxRecDepth 100000
namespace Go.Gb
open Go.Proofs
theorem mixed : Tryz.prog.follows .mixedOrders = true := by kernel_rfl

/-! gabion/gabionlaw09.small -/
def gabionlaw09_small.H : Hn := ⟨[], [], [], []⟩
def gabionlaw09_small.lc : List Cut := []
def gabionlaw09_small.rc : List Cut := []
def gabionlaw09_small.wp (c_0 : Int) (c_1 : Int) (c_2 : Int) (c_3 : Int) (c_4 : Int) (h : Heap) (Q : Value → Heap → Prop) : Prop :=
 Q
 (.agg
 #[.int .i64 (IntKind.i64.wrap (1 + irem (imax 0 c_0) 3)), .int .i64 (IntKind.i64.wrap (1 + irem (imax 0 c_1) 5)), .int .i64 (irem (imax 0 c_2) 5),
 .int .i64 (IntKind.i64.wrap (1 + irem (imax 0 c_3) 4)), .int .u64 c_4])
 h
theorem gabionlaw09_small.ok {c_0 : Int} {c_1 : Int} {c_2 : Int} {c_3 : Int} {c_4 : Int} {h : Heap} {Q : Value → Heap → Prop} (hk : gabionlaw09_small.wp c_0 c_1 c_2 c_3 c_4 h Q) : C Tryz.prog 14 #[.agg #[.int .i64 c_0, .int .i64 c_1, .int .i64 c_2, .int .i64 c_3, .int .u64 c_4]] h Q :=
 C_of_xs (H := gabionlaw09_small.H) (lcuts := gabionlaw09_small.lc) (rcuts := gabionlaw09_small.rc) (l := [.agg #[.int .i64 c_0, .int .i64 c_1, .int .i64 c_2, .int .i64 c_3, .int .u64 c_4]]) 2000 mixed Tryz.func14 rfl (by kernel_rfl) (@cast (gabionlaw09_small.wp c_0 c_1 c_2 c_3 c_4 h Q) _ (by kernel_rfl) hk)

/-! (gabion/ring.Plan).register -/
def ring_Plan_register.H : Hn := ⟨[], [], [], []⟩
def ring_Plan_register.lc : List Cut := []
def ring_Plan_register.rc : List Cut := []
def ring_Plan_register.wp (p_0 : Int) (p_1 : Int) (p_2 : Int) (p_3 : Int) (h : Heap) (Q : Value → Heap → Prop) : Prop :=
 Q (.int .i64 (IntKind.i64.wrap (p_1 + 1))) h
theorem ring_Plan_register.ok {p_0 : Int} {p_1 : Int} {p_2 : Int} {p_3 : Int} {h : Heap} {Q : Value → Heap → Prop} (hk : ring_Plan_register.wp p_0 p_1 p_2 p_3 h Q) : C Tryz.prog 131 #[.agg #[.int .i64 p_0, .int .i64 p_1, .int .i64 p_2, .int .i64 p_3]] h Q :=
 C_of_xs (H := ring_Plan_register.H) (lcuts := ring_Plan_register.lc) (rcuts := ring_Plan_register.rc) (l := [.agg #[.int .i64 p_0, .int .i64 p_1, .int .i64 p_2, .int .i64 p_3]]) 2000 mixed Tryz.func131 rfl (by kernel_rfl) (@cast (ring_Plan_register.wp p_0 p_1 p_2 p_3 h Q) _ (by kernel_rfl) hk)

/-! (gabion/ring.Plan).Bank -/
def ring_Plan_Bank.H : Hn := ⟨[], [], [⟨1, .q 0 (.q 1 (.q 2 (.q 5 (.q 6 (.q 3 (.q 4 (.q 7 (.q 8 (.nil))))))))), [2]⟩], []⟩
def ring_Plan_Bank.lc : List Cut := []
def ring_Plan_Bank.rc : List Cut := []
def ring_Plan_Bank.wp (p_0 : Int) (p_1 : Int) (p_2 : Int) (p_3 : Int) (h : Heap) (Q : Value → Heap → Prop) : Prop :=
 C Tryz.prog 131 #[.agg #[.int .i64 p_0, .int .i64 p_1, .int .i64 p_2, .int .i64 p_3]] h fun (r : Value) (h' : Heap) =>
 ∃ (x : Int), r = .int .i64 x ∧ Q (.agg #[.int .i64 p_0, .int .i64 (IntKind.i64.wrap (x + 1)), .int .i64 p_2]) h'
theorem ring_Plan_Bank.ok {p_0 : Int} {p_1 : Int} {p_2 : Int} {p_3 : Int} {h : Heap} {Q : Value → Heap → Prop} (hk : ring_Plan_Bank.wp p_0 p_1 p_2 p_3 h Q) : C Tryz.prog 72 #[.agg #[.int .i64 p_0, .int .i64 p_1, .int .i64 p_2, .int .i64 p_3]] h Q :=
 C_of_xs (H := ring_Plan_Bank.H) (lcuts := ring_Plan_Bank.lc) (rcuts := ring_Plan_Bank.rc) (l := [.agg #[.int .i64 p_0, .int .i64 p_1, .int .i64 p_2, .int .i64 p_3]]) 2000 mixed Tryz.func72 rfl (by kernel_rfl) (@cast (ring_Plan_Bank.wp p_0 p_1 p_2 p_3 h Q) _ (by kernel_rfl) hk)

/-! (gabion/spare.Plan).right -/
def spare_Plan_right.H : Hn := ⟨[], [], [], []⟩
def spare_Plan_right.lc : List Cut := []
def spare_Plan_right.rc : List Cut := []
def spare_Plan_right.wp (p_0 : Int) (p_1 : Int) (p_2 : Int) (h : Heap) (Q : Value → Heap → Prop) : Prop :=
 xsIf (decide (0 ≤ p_0))
 (xsIf (decide (p_0 ≤ 8192)) (xsIf (decide (1 ≤ p_1)) (xsIf (decide (p_1 ≤ 1026)) (xsIf (decide (0 ≤ p_2)) (Q (.bool (decide (p_2 ≤ 64))) h) (Q (.bool false) h)) (Q (.bool false) h)) (Q (.bool false) h))
 (Q (.bool false) h))
 (Q (.bool false) h)
theorem spare_Plan_right.ok {p_0 : Int} {p_1 : Int} {p_2 : Int} {h : Heap} {Q : Value → Heap → Prop} (hk : spare_Plan_right.wp p_0 p_1 p_2 h Q) : C Tryz.prog 132 #[.agg #[.int .i64 p_0, .int .i64 p_1, .int .i64 p_2]] h Q :=
 C_of_xs (H := spare_Plan_right.H) (lcuts := spare_Plan_right.lc) (rcuts := spare_Plan_right.rc) (l := [.agg #[.int .i64 p_0, .int .i64 p_1, .int .i64 p_2]]) 2000 mixed Tryz.func132 rfl (by kernel_rfl) (@cast (spare_Plan_right.wp p_0 p_1 p_2 h Q) _ (by kernel_rfl) hk)

/-! (gabion/spare.Plan).table -/
def spare_Plan_table.H : Hn := ⟨[], [], [], []⟩
def spare_Plan_table.lc : List Cut := []
def spare_Plan_table.rc : List Cut := []
def spare_Plan_table.wp (p_0 : Int) (p_1 : Int) (p_2 : Int) (h : Heap) (Q : Value → Heap → Prop) : Prop :=
 Q (.int .i64 (iquo .i64 (IntKind.i64.wrap (IntKind.i64.wrap (p_2 + 8) - 1)) 8)) h
theorem spare_Plan_table.ok {p_0 : Int} {p_1 : Int} {p_2 : Int} {h : Heap} {Q : Value → Heap → Prop} (hk : spare_Plan_table.wp p_0 p_1 p_2 h Q) : C Tryz.prog 133 #[.agg #[.int .i64 p_0, .int .i64 p_1, .int .i64 p_2]] h Q :=
 C_of_xs (H := spare_Plan_table.H) (lcuts := spare_Plan_table.lc) (rcuts := spare_Plan_table.rc) (l := [.agg #[.int .i64 p_0, .int .i64 p_1, .int .i64 p_2]]) 2000 mixed Tryz.func133 rfl (by kernel_rfl) (@cast (spare_Plan_table.wp p_0 p_1 p_2 h Q) _ (by kernel_rfl) hk)

/-! (gabion/spare.Plan).Size -/
def spare_Plan_Size.H : Hn := ⟨[], [], [⟨3, .q 0 (.q 2 (.q 3 (.q 5 (.q 6 (.q 1 (.q 4 (.q 7 (.q 8 (.nil))))))))), []⟩], []⟩
def spare_Plan_Size.lc : List Cut := []
def spare_Plan_Size.rc : List Cut := []
def spare_Plan_Size.wp (p_0 : Int) (p_1 : Int) (p_2 : Int) (h : Heap) (Q : Value → Heap → Prop) : Prop :=
 C Tryz.prog 132 #[.agg #[.int .i64 p_0, .int .i64 p_1, .int .i64 p_2]] h fun (r : Value) (h' : Heap) =>
 ∃ (x : Bool),
 r = .bool x ∧
 xsIf (!x) (Q (.int .i64 0) h')
 (C Tryz.prog 133 #[.agg #[.int .i64 p_0, .int .i64 p_1, .int .i64 p_2]] h' fun (r : Value) (h' : Heap) =>
 ∃ (x : Int), r = .int .i64 x ∧ Q (.int .i64 (IntKind.i64.wrap (IntKind.i64.wrap (x + p_1) + p_2))) h')
theorem spare_Plan_Size.ok {p_0 : Int} {p_1 : Int} {p_2 : Int} {h : Heap} {Q : Value → Heap → Prop} (hk : spare_Plan_Size.wp p_0 p_1 p_2 h Q) : C Tryz.prog 73 #[.agg #[.int .i64 p_0, .int .i64 p_1, .int .i64 p_2]] h Q :=
 C_of_xs (H := spare_Plan_Size.H) (lcuts := spare_Plan_Size.lc) (rcuts := spare_Plan_Size.rc) (l := [.agg #[.int .i64 p_0, .int .i64 p_1, .int .i64 p_2]]) 2000 mixed Tryz.func73 rfl (by kernel_rfl) (@cast (spare_Plan_Size.wp p_0 p_1 p_2 h Q) _ (by kernel_rfl) hk)

/-! (gabion/spare.Plan).Check -/
def spare_Plan_Check.H : Hn := ⟨[], [], [⟨3, .q 0 (.q 1 (.q 2 (.q 5 (.q 3 (.q 4 (.q 6 (.q 7 (.nil)))))))), []⟩], []⟩
def spare_Plan_Check.lc : List Cut := []
def spare_Plan_Check.rc : List Cut := []
def spare_Plan_Check.wp (p_0 : Int) (p_1 : Int) (p_2 : Int) (lines : Int) (h : Heap) (Q : Value → Heap → Prop) : Prop :=
 C Tryz.prog 132 #[.agg #[.int .i64 p_0, .int .i64 p_1, .int .i64 p_2]] h fun (r : Value) (h' : Heap) =>
 ∃ (x : Bool),
 r = .bool x ∧
 xsIf (!x) (Q (.int .i64 2) h')
 (C Tryz.prog 73 #[.agg #[.int .i64 p_0, .int .i64 p_1, .int .i64 p_2]] h' fun (r : Value) (h' : Heap) =>
 ∃ (x : Int), r = .int .i64 x ∧ xsIf (decide (lines < IntKind.i64.wrap (p_0 + x))) (Q (.int .i64 3) h') (Q (.int .i64 0) h'))
theorem spare_Plan_Check.ok {p_0 : Int} {p_1 : Int} {p_2 : Int} {lines : Int} {h : Heap} {Q : Value → Heap → Prop} (hk : spare_Plan_Check.wp p_0 p_1 p_2 lines h Q) : C Tryz.prog 195 #[.agg #[.int .i64 p_0, .int .i64 p_1, .int .i64 p_2], .int .i64 lines] h Q :=
 C_of_xs (H := spare_Plan_Check.H) (lcuts := spare_Plan_Check.lc) (rcuts := spare_Plan_Check.rc) (l := [.agg #[.int .i64 p_0, .int .i64 p_1, .int .i64 p_2], .int .i64 lines]) 2000 mixed Tryz.func195 rfl (by kernel_rfl) (@cast (spare_Plan_Check.wp p_0 p_1 p_2 lines h Q) _ (by kernel_rfl) hk)

/-! (gabion/ring.Plan).Check -/
def ring_Plan_Check.H : Hn := ⟨[], [], [], []⟩
def ring_Plan_Check.lc : List Cut := []
def ring_Plan_Check.rc : List Cut := []
def ring_Plan_Check.wp (p_0 : Int) (p_1 : Int) (p_2 : Int) (p_3 : Int) (lines : Int) (h : Heap) (Q : Value → Heap → Prop) : Prop :=
 xsIf (decide (p_1 < 1)) (Q (.int .i64 2) h)
 (xsIf (decide (1024 < p_1)) (Q (.int .i64 2) h)
 (xsIf (decide (p_3 < 1)) (Q (.int .i64 2) h)
 (xsIf (decide (65535 < p_3)) (Q (.int .i64 2) h)
 (C Tryz.prog 72 #[.agg #[.int .i64 p_0, .int .i64 p_1, .int .i64 p_2, .int .i64 p_3]] h fun (r : Value) (h' : Heap) =>
 ∃ (x : Int),
 ∃ (x_1 : Int),
 ∃ (x_2 : Int),
 r = .agg #[.int .i64 x, .int .i64 x_1, .int .i64 x_2] ∧
 C Tryz.prog 195 #[.agg #[.int .i64 x, .int .i64 x_1, .int .i64 x_2], .int .i64 lines] h' fun (r : Value) (h' : Heap) =>
 ∃ (x : Int), r = .int .i64 x ∧ Q (.int .i64 x) h'))))
theorem ring_Plan_Check.ok {p_0 : Int} {p_1 : Int} {p_2 : Int} {p_3 : Int} {lines : Int} {h : Heap} {Q : Value → Heap → Prop} (hk : ring_Plan_Check.wp p_0 p_1 p_2 p_3 lines h Q) : C Tryz.prog 130 #[.agg #[.int .i64 p_0, .int .i64 p_1, .int .i64 p_2, .int .i64 p_3], .int .i64 lines] h Q :=
 C_of_xs (H := ring_Plan_Check.H) (lcuts := ring_Plan_Check.lc) (rcuts := ring_Plan_Check.rc) (l := [.agg #[.int .i64 p_0, .int .i64 p_1, .int .i64 p_2, .int .i64 p_3], .int .i64 lines]) 2000 mixed Tryz.func130 rfl (by kernel_rfl) (@cast (ring_Plan_Check.wp p_0 p_1 p_2 p_3 lines h Q) _ (by kernel_rfl) hk)

/-! (gabion/flat.Config).right -/
def flat_Config_right.H : Hn := ⟨[], [], [⟨2, .q 0 (.q 1 (.q 2 (.q 3 (.q 4 (.q 5 (.q 6 (.q 7 (.q 8 (.q 9 (.q 10 (.q 11 (.q 12 (.q 13 (.q 14 (.q 15 (.q 16 (.nil))))))))))))))))), []⟩], []⟩
def flat_Config_right.lc : List Cut := []
def flat_Config_right.rc : List Cut := []
def flat_Config_right.wp (c_0 : Int) (c_1 : Int) (c_2 : Int) (c_3 : Int) (c_4 : Int) (h : Heap) (Q : Value → Heap → Prop) : Prop :=
 xsIf (decide (1 ≤ c_0))
 (xsIf (decide (c_0 ≤ 16))
 (C Tryz.prog 72 #[.agg #[.int .i64 0, .int .i64 c_1, .int .i64 c_2, .int .i64 c_3]] h fun (r : Value) (h' : Heap) =>
 ∃ (x : Int),
 ∃ (x_1 : Int),
 ∃ (x_2 : Int),
 r = .agg #[.int .i64 x, .int .i64 x_1, .int .i64 x_2] ∧
 C Tryz.prog 73 #[.agg #[.int .i64 x, .int .i64 x_1, .int .i64 x_2]] h' fun (r : Value) (h' : Heap) =>
 ∃ (x : Int),
 r = .int .i64 x ∧
 C Tryz.prog 130 #[.agg #[.int .i64 0, .int .i64 c_1, .int .i64 c_2, .int .i64 c_3], .int .i64 x] h'
 fun (r : Value) (h' : Heap) => ∃ (x : Int), r = .int .i64 x ∧ Q (.bool (decide (x = 0))) h')
 (Q (.bool false) h))
 (Q (.bool false) h)
theorem flat_Config_right.ok {c_0 : Int} {c_1 : Int} {c_2 : Int} {c_3 : Int} {c_4 : Int} {h : Heap} {Q : Value → Heap → Prop} (hk : flat_Config_right.wp c_0 c_1 c_2 c_3 c_4 h Q) : C Tryz.prog 70 #[.agg #[.int .i64 c_0, .int .i64 c_1, .int .i64 c_2, .int .i64 c_3, .int .u64 c_4]] h Q :=
 C_of_xs (H := flat_Config_right.H) (lcuts := flat_Config_right.lc) (rcuts := flat_Config_right.rc) (l := [.agg #[.int .i64 c_0, .int .i64 c_1, .int .i64 c_2, .int .i64 c_3, .int .u64 c_4]]) 2000 mixed Tryz.func70 rfl (by kernel_rfl) (@cast (flat_Config_right.wp c_0 c_1 c_2 c_3 c_4 h Q) _ (by kernel_rfl) hk)

/-! (gabion/flat.Config).plan -/
def flat_Config_plan.H : Hn := ⟨[], [], [⟨2, .q 0 (.q 2 (.ld 3 1008 (.br 1 (.q 4 (.q 5 (.q 6 (.q 7 (.q 8 (.q 9 (.nil))))))) (.one 4 (.br 1 (.q 5 (.q 6 (.q 7 (.q 8 (.q 9 (.nil)))))) (.one 5 (.q 6 (.q 1 (.q 7 (.q 8 (.q 9 (.nil)))))))))))), [5]⟩], []⟩
def flat_Config_plan.lc : List Cut := []
def flat_Config_plan.rc : List Cut := []
def flat_Config_plan.wp (c_0 : Int) (c_1 : Int) (c_2 : Int) (c_3 : Int) (c_4 : Int) (region : Int) (h : Heap) (Q : Value → Heap → Prop) : Prop :=
 (C Tryz.prog 72 #[.agg #[.int .i64 1, .int .i64 c_1, .int .i64 c_2, .int .i64 c_3]] h fun (r : Value) (h' : Heap) =>
 ∃ (x : Int),
 ∃ (x_1 : Int),
 ∃ (x_2 : Int),
 r = .agg #[.int .i64 x, .int .i64 x_1, .int .i64 x_2] ∧
 C Tryz.prog 73 #[.agg #[.int .i64 x, .int .i64 x_1, .int .i64 x_2]] h' fun (r : Value) (h' : Heap) =>
 ∃ (x : Int),
 r = .int .i64 x ∧ Q (.agg #[.int .i64 (IntKind.i64.wrap (1 + IntKind.i64.wrap (region * x))), .int .i64 c_1, .int .i64 c_2, .int .i64 c_3]) h') ∧
 C Tryz.prog 72 #[.agg #[.int .i64 1, .int .i64 c_1, .int .i64 c_2, .int .i64 c_3]] h fun (r : Value) (h' : Heap) =>
 ∃ (x : Int),
 ∃ (x_1 : Int),
 ∃ (x_2 : Int),
 r = .agg #[.int .i64 x, .int .i64 x_1, .int .i64 x_2] ∧
 (C Tryz.prog 73 #[.agg #[.int .i64 x, .int .i64 x_1, .int .i64 x_2]] h' fun (r : Value) (h' : Heap) =>
 ∃ (x : Int),
 r = .int .i64 x ∧
 Q (.agg #[.int .i64 (IntKind.i64.wrap (1 + IntKind.i64.wrap (region * x))), .int .i64 c_1, .int .i64 c_2, .int .i64 c_3]) h') ∧
 C Tryz.prog 73 #[.agg #[.int .i64 x, .int .i64 x_1, .int .i64 x_2]] h' fun (r : Value) (h' : Heap) =>
 ∃ (x : Int),
 r = .int .i64 x ∧ Q (.agg #[.int .i64 (IntKind.i64.wrap (1 + IntKind.i64.wrap (region * x))), .int .i64 c_1, .int .i64 c_2, .int .i64 c_3]) h'
theorem flat_Config_plan.ok {c_0 : Int} {c_1 : Int} {c_2 : Int} {c_3 : Int} {c_4 : Int} {region : Int} {h : Heap} {Q : Value → Heap → Prop} (hk : flat_Config_plan.wp c_0 c_1 c_2 c_3 c_4 region h Q) : C Tryz.prog 71 #[.agg #[.int .i64 c_0, .int .i64 c_1, .int .i64 c_2, .int .i64 c_3, .int .u64 c_4], .int .i64 region] h Q :=
 C_of_xs (H := flat_Config_plan.H) (lcuts := flat_Config_plan.lc) (rcuts := flat_Config_plan.rc) (l := [.agg #[.int .i64 c_0, .int .i64 c_1, .int .i64 c_2, .int .i64 c_3, .int .u64 c_4], .int .i64 region]) 2000 mixed Tryz.func71 rfl (by kernel_rfl) (@cast (flat_Config_plan.wp c_0 c_1 c_2 c_3 c_4 region h Q) _ (by kernel_rfl) hk)

/-! (gabion/flat.Config).Size -/
def flat_Config_Size.H : Hn := ⟨[], [], [⟨3, .q 0 (.q 1 (.q 2 (.q 3 (.q 4 (.q 5 (.q 6 (.q 7 (.q 8 (.nil))))))))), []⟩], []⟩
def flat_Config_Size.lc : List Cut := []
def flat_Config_Size.rc : List Cut := []
def flat_Config_Size.wp (c_0 : Int) (c_1 : Int) (c_2 : Int) (c_3 : Int) (c_4 : Int) (h : Heap) (Q : Value → Heap → Prop) : Prop :=
 C Tryz.prog 70 #[.agg #[.int .i64 c_0, .int .i64 c_1, .int .i64 c_2, .int .i64 c_3, .int .u64 c_4]] h fun (r : Value) (h' : Heap) =>
 ∃ (x : Bool),
 r = .bool x ∧
 xsIf (!x) (Q (.int .i64 0) h')
 (C Tryz.prog 71 #[.agg #[.int .i64 c_0, .int .i64 c_1, .int .i64 c_2, .int .i64 c_3, .int .u64 c_4], .int .i64 0] h'
 fun (r : Value) (h' : Heap) =>
 ∃ (x : Int),
 ∃ (x_1 : Int),
 ∃ (x_2 : Int),
 ∃ (x_3 : Int),
 r = .agg #[.int .i64 x, .int .i64 x_1, .int .i64 x_2, .int .i64 x_3] ∧
 C Tryz.prog 72 #[.agg #[.int .i64 x, .int .i64 x_1, .int .i64 x_2, .int .i64 x_3]] h' fun (r : Value) (h' : Heap) =>
 ∃ (x : Int),
 ∃ (x_4 : Int),
 ∃ (x_5 : Int),
 r = .agg #[.int .i64 x, .int .i64 x_4, .int .i64 x_5] ∧
 C Tryz.prog 73 #[.agg #[.int .i64 x, .int .i64 x_4, .int .i64 x_5]] h' fun (r : Value) (h' : Heap) =>
 ∃ (x : Int), r = .int .i64 x ∧ Q (.int .i64 (IntKind.i64.wrap (1 + IntKind.i64.wrap (c_0 * x)))) h')
theorem flat_Config_Size.ok {c_0 : Int} {c_1 : Int} {c_2 : Int} {c_3 : Int} {c_4 : Int} {h : Heap} {Q : Value → Heap → Prop} (hk : flat_Config_Size.wp c_0 c_1 c_2 c_3 c_4 h Q) : C Tryz.prog 16 #[.agg #[.int .i64 c_0, .int .i64 c_1, .int .i64 c_2, .int .i64 c_3, .int .u64 c_4]] h Q :=
 C_of_xs (H := flat_Config_Size.H) (lcuts := flat_Config_Size.lc) (rcuts := flat_Config_Size.rc) (l := [.agg #[.int .i64 c_0, .int .i64 c_1, .int .i64 c_2, .int .i64 c_3, .int .u64 c_4]]) 2000 mixed Tryz.func16 rfl (by kernel_rfl) (@cast (flat_Config_Size.wp c_0 c_1 c_2 c_3 c_4 h Q) _ (by kernel_rfl) hk)

/-! gabion/pm.New -/
def pm_New.H : Hn := ⟨[19], [], [⟨3, .q 0 (.q 1 (.q 4 (.q 6 (.br 2 (.br 3 (.br 5 (.q 7 (.q 8 (.q 9 (.q 10 (.q 11 (.nil)))))) (.one 7 (.q 5 (.q 8 (.q 9 (.q 10 (.q 11 (.nil)))))))) (.br 5 (.br 3 (.q 7 (.q 8 (.q 9 (.q 10 (.q 11 (.nil)))))) (.one 7 (.q 3 (.q 8 (.q 9 (.q 10 (.q 11 (.nil)))))))) (.one 7 (.br 3 (.q 5 (.q 8 (.q 9 (.q 10 (.q 11 (.nil)))))) (.one 5 (.q 3 (.q 8 (.q 9 (.q 10 (.q 11 (.nil))))))))))) (.br 3 (.br 2 (.br 5 (.q 7 (.q 8 (.q 9 (.q 10 (.q 11 (.nil)))))) (.one 7 (.q 5 (.q 8 (.q 9 (.q 10 (.q 11 (.nil)))))))) (.br 5 (.br 2 (.q 7 (.q 8 (.q 9 (.q 10 (.q 11 (.nil)))))) (.one 7 (.q 2 (.q 8 (.q 9 (.q 10 (.q 11 (.nil)))))))) (.one 7 (.br 2 (.q 5 (.q 8 (.q 9 (.q 10 (.q 11 (.nil)))))) (.one 5 (.q 2 (.q 8 (.q 9 (.q 10 (.q 11 (.nil))))))))))) (.br 5 (.br 2 (.br 3 (.q 7 (.q 8 (.q 9 (.q 10 (.q 11 (.nil)))))) (.one 7 (.q 3 (.q 8 (.q 9 (.q 10 (.q 11 (.nil)))))))) (.br 3 (.br 2 (.q 7 (.q 8 (.q 9 (.q 10 (.q 11 (.nil)))))) (.one 7 (.q 2 (.q 8 (.q 9 (.q 10 (.q 11 (.nil)))))))) (.one 7 (.br 2 (.q 3 (.q 8 (.q 9 (.q 10 (.q 11 (.nil)))))) (.one 3 (.q 2 (.q 8 (.q 9 (.q 10 (.q 11 (.nil))))))))))) (.one 7 (.br 2 (.br 3 (.q 5 (.q 8 (.q 9 (.q 10 (.q 11 (.nil)))))) (.one 5 (.q 3 (.q 8 (.q 9 (.q 10 (.q 11 (.nil)))))))) (.br 3 (.br 2 (.q 5 (.q 8 (.q 9 (.q 10 (.q 11 (.nil)))))) (.one 5 (.q 2 (.q 8 (.q 9 (.q 10 (.q 11 (.nil)))))))) (.one 5 (.br 2 (.q 3 (.q 8 (.q 9 (.q 10 (.q 11 (.nil)))))) (.one 3 (.q 2 (.q 8 (.q 9 (.q 10 (.q 11 (.nil)))))))))))))))))), [19]⟩], []⟩
def pm_New.lc : List Cut := []
def pm_New.rc : List Cut := []
def pm_New.wp (lines : Int) (h : Heap) (Q : Value → Heap → Prop) : Prop :=
 xsIf (decide (lines < 1)) (Q (.tuple #[.pointer none, .int .i64 2]) h)
 (xsIf (decide (8192 < lines)) (Q (.tuple #[.pointer none, .int .i64 2]) h)
 ((xsMk Tryz.prog 22 h (IntKind.i64.wrap (lines * 8)) (IntKind.i64.wrap (lines * 8)) fun (a : Option Addr) (n' c' : Nat) (h' : Heap) =>
 (∀ (b : Nat),
 h' b = none →
 (xsMk Tryz.prog 3 (upd h' b (Obj.map #[] 0)) lines lines fun (a_2 : Option Addr) (n'_1 c'_1 : Nat) (h' : Heap) =>
 xsMk Tryz.prog 4 h' lines lines fun (a_3 : Option Addr) (n'_2 c'_2 : Nat) (h' : Heap) =>
 ∀ (b_1 : Nat),
 h' b_1 = none →
 Q (.tuple #[.pointer (some { block := b_1, off := 0 }), .int .i64 0])
 (upd h' b_1
 (Obj.cells #[.slice a n' c', Value.map (some b), .slice a_2 n'_1 c'_1, .slice a_3 n'_2 c'_2, .int .i64 0, .bool false, .int .i64 0] 136 (0, 0)))) ∧
 xsMk Tryz.prog 4 (upd h' b (Obj.map #[] 0)) lines lines fun (a_2 : Option Addr) (n'_1 c'_1 : Nat) (h' : Heap) =>
 xsMk Tryz.prog 3 h' lines lines fun (a_3 : Option Addr) (n'_2 c'_2 : Nat) (h' : Heap) =>
 ∀ (b_1 : Nat),
 h' b_1 = none →
 Q (.tuple #[.pointer (some { block := b_1, off := 0 }), .int .i64 0])
 (upd h' b_1
 (Obj.cells #[.slice a n' c', Value.map (some b), .slice a_3 n'_2 c'_2, .slice a_2 n'_1 c'_1, .int .i64 0, .bool false, .int .i64 0] 136 (0, 0)))) ∧
 (xsMk Tryz.prog 3 h' lines lines fun (a_1 : Option Addr) (n'_1 c'_1 : Nat) (h' : Heap) =>
 (∀ (b : Nat),
 h' b = none →
 xsMk Tryz.prog 4 (upd h' b (Obj.map #[] 0)) lines lines fun (a_3 : Option Addr) (n'_2 c'_2 : Nat) (h' : Heap) =>
 ∀ (b_1 : Nat),
 h' b_1 = none →
 Q (.tuple #[.pointer (some { block := b_1, off := 0 }), .int .i64 0])
 (upd h' b_1
 (Obj.cells #[.slice a n' c', Value.map (some b), .slice a_1 n'_1 c'_1, .slice a_3 n'_2 c'_2, .int .i64 0, .bool false, .int .i64 0] 136 (0, 0)))) ∧
 xsMk Tryz.prog 4 h' lines lines fun (a_2 : Option Addr) (n'_2 c'_2 : Nat) (h' : Heap) =>
 ∀ (b : Nat),
 h' b = none →
 ∀ (b_1 : Nat),
 upd h' b (Obj.map #[] 0) b_1 = none →
 Q (.tuple #[.pointer (some { block := b_1, off := 0 }), .int .i64 0])
 (upd (upd h' b (Obj.map #[] 0)) b_1
 (Obj.cells #[.slice a n' c', Value.map (some b), .slice a_1 n'_1 c'_1, .slice a_2 n'_2 c'_2, .int .i64 0, .bool false, .int .i64 0] 136 (0, 0)))) ∧
 xsMk Tryz.prog 4 h' lines lines fun (a_1 : Option Addr) (n'_1 c'_1 : Nat) (h' : Heap) =>
 (∀ (b : Nat),
 h' b = none →
 xsMk Tryz.prog 3 (upd h' b (Obj.map #[] 0)) lines lines fun (a_3 : Option Addr) (n'_2 c'_2 : Nat) (h' : Heap) =>
 ∀ (b_1 : Nat),
 h' b_1 = none →
 Q (.tuple #[.pointer (some { block := b_1, off := 0 }), .int .i64 0])
 (upd h' b_1
 (Obj.cells #[.slice a n' c', Value.map (some b), .slice a_3 n'_2 c'_2, .slice a_1 n'_1 c'_1, .int .i64 0, .bool false, .int .i64 0] 136 (0, 0)))) ∧
 xsMk Tryz.prog 3 h' lines lines fun (a_2 : Option Addr) (n'_2 c'_2 : Nat) (h' : Heap) =>
 ∀ (b : Nat),
 h' b = none →
 ∀ (b_1 : Nat),
 upd h' b (Obj.map #[] 0) b_1 = none →
 Q (.tuple #[.pointer (some { block := b_1, off := 0 }), .int .i64 0])
 (upd (upd h' b (Obj.map #[] 0)) b_1
 (Obj.cells #[.slice a n' c', Value.map (some b), .slice a_2 n'_2 c'_2, .slice a_1 n'_1 c'_1, .int .i64 0, .bool false, .int .i64 0] 136 (0, 0)))) ∧
 (∀ (b : Nat),
 h b = none →
 (xsMk Tryz.prog 22 (upd h b (Obj.map #[] 0)) (IntKind.i64.wrap (lines * 8)) (IntKind.i64.wrap (lines * 8)) fun (a : Option Addr) (n' c' : Nat) (h' : Heap) =>
 (xsMk Tryz.prog 3 h' lines lines fun (a_1 : Option Addr) (n'_1 c'_1 : Nat) (h' : Heap) =>
 xsMk Tryz.prog 4 h' lines lines fun (a_2 : Option Addr) (n'_2 c'_2 : Nat) (h' : Heap) =>
 ∀ (b_1 : Nat),
 h' b_1 = none →
 Q (.tuple #[.pointer (some { block := b_1, off := 0 }), .int .i64 0])
 (upd h' b_1
 (Obj.cells #[.slice a n' c', Value.map (some b), .slice a_1 n'_1 c'_1, .slice a_2 n'_2 c'_2, .int .i64 0, .bool false, .int .i64 0] 136 (0, 0)))) ∧
 xsMk Tryz.prog 4 h' lines lines fun (a_1 : Option Addr) (n'_1 c'_1 : Nat) (h' : Heap) =>
 xsMk Tryz.prog 3 h' lines lines fun (a_2 : Option Addr) (n'_2 c'_2 : Nat) (h' : Heap) =>
 ∀ (b_1 : Nat),
 h' b_1 = none →
 Q (.tuple #[.pointer (some { block := b_1, off := 0 }), .int .i64 0])
 (upd h' b_1
 (Obj.cells #[.slice a n' c', Value.map (some b), .slice a_2 n'_2 c'_2, .slice a_1 n'_1 c'_1, .int .i64 0, .bool false, .int .i64 0] 136 (0, 0)))) ∧
 (xsMk Tryz.prog 3 (upd h b (Obj.map #[] 0)) lines lines fun (a : Option Addr) (n' c' : Nat) (h' : Heap) =>
 (xsMk Tryz.prog 22 h' (IntKind.i64.wrap (lines * 8)) (IntKind.i64.wrap (lines * 8)) fun (a_1 : Option Addr) (n'_1 c'_1 : Nat) (h' : Heap) =>
 xsMk Tryz.prog 4 h' lines lines fun (a_2 : Option Addr) (n'_2 c'_2 : Nat) (h' : Heap) =>
 ∀ (b_1 : Nat),
 h' b_1 = none →
 Q (.tuple #[.pointer (some { block := b_1, off := 0 }), .int .i64 0])
 (upd h' b_1
 (Obj.cells #[.slice a_1 n'_1 c'_1, Value.map (some b), .slice a n' c', .slice a_2 n'_2 c'_2, .int .i64 0, .bool false, .int .i64 0] 136 (0, 0)))) ∧
 xsMk Tryz.prog 4 h' lines lines fun (a_1 : Option Addr) (n'_1 c'_1 : Nat) (h' : Heap) =>
 xsMk Tryz.prog 22 h' (IntKind.i64.wrap (lines * 8)) (IntKind.i64.wrap (lines * 8)) fun (a_2 : Option Addr) (n'_2 c'_2 : Nat) (h' : Heap) =>
 ∀ (b_1 : Nat),
 h' b_1 = none →
 Q (.tuple #[.pointer (some { block := b_1, off := 0 }), .int .i64 0])
 (upd h' b_1
 (Obj.cells #[.slice a_2 n'_2 c'_2, Value.map (some b), .slice a n' c', .slice a_1 n'_1 c'_1, .int .i64 0, .bool false, .int .i64 0] 136 (0, 0)))) ∧
 xsMk Tryz.prog 4 (upd h b (Obj.map #[] 0)) lines lines fun (a : Option Addr) (n' c' : Nat) (h' : Heap) =>
 (xsMk Tryz.prog 22 h' (IntKind.i64.wrap (lines * 8)) (IntKind.i64.wrap (lines * 8)) fun (a_1 : Option Addr) (n'_1 c'_1 : Nat) (h' : Heap) =>
 xsMk Tryz.prog 3 h' lines lines fun (a_2 : Option Addr) (n'_2 c'_2 : Nat) (h' : Heap) =>
 ∀ (b_1 : Nat),
 h' b_1 = none →
 Q (.tuple #[.pointer (some { block := b_1, off := 0 }), .int .i64 0])
 (upd h' b_1
 (Obj.cells #[.slice a_1 n'_1 c'_1, Value.map (some b), .slice a_2 n'_2 c'_2, .slice a n' c', .int .i64 0, .bool false, .int .i64 0] 136 (0, 0)))) ∧
 xsMk Tryz.prog 3 h' lines lines fun (a_1 : Option Addr) (n'_1 c'_1 : Nat) (h' : Heap) =>
 xsMk Tryz.prog 22 h' (IntKind.i64.wrap (lines * 8)) (IntKind.i64.wrap (lines * 8)) fun (a_2 : Option Addr) (n'_2 c'_2 : Nat) (h' : Heap) =>
 ∀ (b_1 : Nat),
 h' b_1 = none →
 Q (.tuple #[.pointer (some { block := b_1, off := 0 }), .int .i64 0])
 (upd h' b_1
 (Obj.cells #[.slice a_2 n'_2 c'_2, Value.map (some b), .slice a_1 n'_1 c'_1, .slice a n' c', .int .i64 0, .bool false, .int .i64 0] 136 (0, 0)))) ∧
 (xsMk Tryz.prog 3 h lines lines fun (a : Option Addr) (n' c' : Nat) (h' : Heap) =>
 (xsMk Tryz.prog 22 h' (IntKind.i64.wrap (lines * 8)) (IntKind.i64.wrap (lines * 8)) fun (a_1 : Option Addr) (n'_1 c'_1 : Nat) (h' : Heap) =>
 (∀ (b : Nat),
 h' b = none →
 xsMk Tryz.prog 4 (upd h' b (Obj.map #[] 0)) lines lines fun (a_3 : Option Addr) (n'_2 c'_2 : Nat) (h' : Heap) =>
 ∀ (b_1 : Nat),
 h' b_1 = none →
 Q (.tuple #[.pointer (some { block := b_1, off := 0 }), .int .i64 0])
 (upd h' b_1
 (Obj.cells #[.slice a_1 n'_1 c'_1, Value.map (some b), .slice a n' c', .slice a_3 n'_2 c'_2, .int .i64 0, .bool false, .int .i64 0] 136 (0, 0)))) ∧
 xsMk Tryz.prog 4 h' lines lines fun (a_2 : Option Addr) (n'_2 c'_2 : Nat) (h' : Heap) =>
 ∀ (b : Nat),
 h' b = none →
 ∀ (b_1 : Nat),
 upd h' b (Obj.map #[] 0) b_1 = none →
 Q (.tuple #[.pointer (some { block := b_1, off := 0 }), .int .i64 0])
 (upd (upd h' b (Obj.map #[] 0)) b_1
 (Obj.cells #[.slice a_1 n'_1 c'_1, Value.map (some b), .slice a n' c', .slice a_2 n'_2 c'_2, .int .i64 0, .bool false, .int .i64 0] 136 (0, 0)))) ∧
 (∀ (b : Nat),
 h' b = none →
 (xsMk Tryz.prog 22 (upd h' b (Obj.map #[] 0)) (IntKind.i64.wrap (lines * 8)) (IntKind.i64.wrap (lines * 8)) fun (a_2 : Option Addr) (n'_1 c'_1 : Nat) (h' : Heap) =>
 xsMk Tryz.prog 4 h' lines lines fun (a_3 : Option Addr) (n'_2 c'_2 : Nat) (h' : Heap) =>
 ∀ (b_1 : Nat),
 h' b_1 = none →
 Q (.tuple #[.pointer (some { block := b_1, off := 0 }), .int .i64 0])
 (upd h' b_1
 (Obj.cells #[.slice a_2 n'_1 c'_1, Value.map (some b), .slice a n' c', .slice a_3 n'_2 c'_2, .int .i64 0, .bool false, .int .i64 0] 136 (0, 0)))) ∧
 xsMk Tryz.prog 4 (upd h' b (Obj.map #[] 0)) lines lines fun (a_2 : Option Addr) (n'_1 c'_1 : Nat) (h' : Heap) =>
 xsMk Tryz.prog 22 h' (IntKind.i64.wrap (lines * 8)) (IntKind.i64.wrap (lines * 8)) fun (a_3 : Option Addr) (n'_2 c'_2 : Nat) (h' : Heap) =>
 ∀ (b_1 : Nat),
 h' b_1 = none →
 Q (.tuple #[.pointer (some { block := b_1, off := 0 }), .int .i64 0])
 (upd h' b_1
 (Obj.cells #[.slice a_3 n'_2 c'_2, Value.map (some b), .slice a n' c', .slice a_2 n'_1 c'_1, .int .i64 0, .bool false, .int .i64 0] 136 (0, 0)))) ∧
 xsMk Tryz.prog 4 h' lines lines fun (a_1 : Option Addr) (n'_1 c'_1 : Nat) (h' : Heap) =>
 (xsMk Tryz.prog 22 h' (IntKind.i64.wrap (lines * 8)) (IntKind.i64.wrap (lines * 8)) fun (a_2 : Option Addr) (n'_2 c'_2 : Nat) (h' : Heap) =>
 ∀ (b : Nat),
 h' b = none →
 ∀ (b_1 : Nat),
 upd h' b (Obj.map #[] 0) b_1 = none →
 Q (.tuple #[.pointer (some { block := b_1, off := 0 }), .int .i64 0])
 (upd (upd h' b (Obj.map #[] 0)) b_1
 (Obj.cells #[.slice a_2 n'_2 c'_2, Value.map (some b), .slice a n' c', .slice a_1 n'_1 c'_1, .int .i64 0, .bool false, .int .i64 0] 136 (0, 0)))) ∧
 ∀ (b : Nat),
 h' b = none →
 xsMk Tryz.prog 22 (upd h' b (Obj.map #[] 0)) (IntKind.i64.wrap (lines * 8)) (IntKind.i64.wrap (lines * 8)) fun (a_3 : Option Addr) (n'_2 c'_2 : Nat) (h' : Heap) =>
 ∀ (b_1 : Nat),
 h' b_1 = none →
 Q (.tuple #[.pointer (some { block := b_1, off := 0 }), .int .i64 0])
 (upd h' b_1
 (Obj.cells #[.slice a_3 n'_2 c'_2, Value.map (some b), .slice a n' c', .slice a_1 n'_1 c'_1, .int .i64 0, .bool false, .int .i64 0] 136 (0, 0)))) ∧
 xsMk Tryz.prog 4 h lines lines fun (a : Option Addr) (n' c' : Nat) (h' : Heap) =>
 (xsMk Tryz.prog 22 h' (IntKind.i64.wrap (lines * 8)) (IntKind.i64.wrap (lines * 8)) fun (a_1 : Option Addr) (n'_1 c'_1 : Nat) (h' : Heap) =>
 (∀ (b : Nat),
 h' b = none →
 xsMk Tryz.prog 3 (upd h' b (Obj.map #[] 0)) lines lines fun (a_3 : Option Addr) (n'_2 c'_2 : Nat) (h' : Heap) =>
 ∀ (b_1 : Nat),
 h' b_1 = none →
 Q (.tuple #[.pointer (some { block := b_1, off := 0 }), .int .i64 0])
 (upd h' b_1
 (Obj.cells #[.slice a_1 n'_1 c'_1, Value.map (some b), .slice a_3 n'_2 c'_2, .slice a n' c', .int .i64 0, .bool false, .int .i64 0] 136 (0, 0)))) ∧
 xsMk Tryz.prog 3 h' lines lines fun (a_2 : Option Addr) (n'_2 c'_2 : Nat) (h' : Heap) =>
 ∀ (b : Nat),
 h' b = none →
 ∀ (b_1 : Nat),
 upd h' b (Obj.map #[] 0) b_1 = none →
 Q (.tuple #[.pointer (some { block := b_1, off := 0 }), .int .i64 0])
 (upd (upd h' b (Obj.map #[] 0)) b_1
 (Obj.cells #[.slice a_1 n'_1 c'_1, Value.map (some b), .slice a_2 n'_2 c'_2, .slice a n' c', .int .i64 0, .bool false, .int .i64 0] 136 (0, 0)))) ∧
 (∀ (b : Nat),
 h' b = none →
 (xsMk Tryz.prog 22 (upd h' b (Obj.map #[] 0)) (IntKind.i64.wrap (lines * 8)) (IntKind.i64.wrap (lines * 8)) fun (a_2 : Option Addr) (n'_1 c'_1 : Nat) (h' : Heap) =>
 xsMk Tryz.prog 3 h' lines lines fun (a_3 : Option Addr) (n'_2 c'_2 : Nat) (h' : Heap) =>
 ∀ (b_1 : Nat),
 h' b_1 = none →
 Q (.tuple #[.pointer (some { block := b_1, off := 0 }), .int .i64 0])
 (upd h' b_1
 (Obj.cells #[.slice a_2 n'_1 c'_1, Value.map (some b), .slice a_3 n'_2 c'_2, .slice a n' c', .int .i64 0, .bool false, .int .i64 0] 136 (0, 0)))) ∧
 xsMk Tryz.prog 3 (upd h' b (Obj.map #[] 0)) lines lines fun (a_2 : Option Addr) (n'_1 c'_1 : Nat) (h' : Heap) =>
 xsMk Tryz.prog 22 h' (IntKind.i64.wrap (lines * 8)) (IntKind.i64.wrap (lines * 8)) fun (a_3 : Option Addr) (n'_2 c'_2 : Nat) (h' : Heap) =>
 ∀ (b_1 : Nat),
 h' b_1 = none →
 Q (.tuple #[.pointer (some { block := b_1, off := 0 }), .int .i64 0])
 (upd h' b_1
 (Obj.cells #[.slice a_3 n'_2 c'_2, Value.map (some b), .slice a_2 n'_1 c'_1, .slice a n' c', .int .i64 0, .bool false, .int .i64 0] 136 (0, 0)))) ∧
 xsMk Tryz.prog 3 h' lines lines fun (a_1 : Option Addr) (n'_1 c'_1 : Nat) (h' : Heap) =>
 (xsMk Tryz.prog 22 h' (IntKind.i64.wrap (lines * 8)) (IntKind.i64.wrap (lines * 8)) fun (a_2 : Option Addr) (n'_2 c'_2 : Nat) (h' : Heap) =>
 ∀ (b : Nat),
 h' b = none →
 ∀ (b_1 : Nat),
 upd h' b (Obj.map #[] 0) b_1 = none →
 Q (.tuple #[.pointer (some { block := b_1, off := 0 }), .int .i64 0])
 (upd (upd h' b (Obj.map #[] 0)) b_1
 (Obj.cells #[.slice a_2 n'_2 c'_2, Value.map (some b), .slice a_1 n'_1 c'_1, .slice a n' c', .int .i64 0, .bool false, .int .i64 0] 136 (0, 0)))) ∧
 ∀ (b : Nat),
 h' b = none →
 xsMk Tryz.prog 22 (upd h' b (Obj.map #[] 0)) (IntKind.i64.wrap (lines * 8)) (IntKind.i64.wrap (lines * 8)) fun (a_3 : Option Addr) (n'_2 c'_2 : Nat) (h' : Heap) =>
 ∀ (b_1 : Nat),
 h' b_1 = none →
 Q (.tuple #[.pointer (some { block := b_1, off := 0 }), .int .i64 0])
 (upd h' b_1
 (Obj.cells #[.slice a_3 n'_2 c'_2, Value.map (some b), .slice a_1 n'_1 c'_1, .slice a n' c', .int .i64 0, .bool false, .int .i64 0] 136 (0, 0)))))
theorem pm_New.ok {lines : Int} {h : Heap} {Q : Value → Heap → Prop} (hk : pm_New.wp lines h Q) : C Tryz.prog 15 #[.int .i64 lines] h Q :=
 C_of_xs (H := pm_New.H) (lcuts := pm_New.lc) (rcuts := pm_New.rc) (l := [.int .i64 lines]) 2000 mixed Tryz.func15 rfl (by kernel_rfl) (@cast (pm_New.wp lines h Q) _ (by kernel_rfl) hk)

/-! (*gabion/pm.Device).Lines -/
def pm_Device_Lines.H : Hn := ⟨[], [], [], []⟩
def pm_Device_Lines.lc : List Cut := []
def pm_Device_Lines.rc : List Cut := []
def pm_Device_Lines.wp (d : Option Addr) (h : Heap) (Q : Value → Heap → Prop) : Prop :=
 xsIf d.isNone (Q (.int .i64 0) h) (atBase d fun (b o : Nat) => ∃ (x : Option Addr), ∃ (n : Nat), ∃ (m : Nat), h.cell b (o + 2) = some (.slice x n m) ∧ Q (.int .i64 (↑n : Int)) h)
theorem pm_Device_Lines.ok {d : Option Addr} {h : Heap} {Q : Value → Heap → Prop} (hk : pm_Device_Lines.wp d h Q) : C Tryz.prog 74 #[.pointer d] h Q :=
 C_of_xs (H := pm_Device_Lines.H) (lcuts := pm_Device_Lines.lc) (rcuts := pm_Device_Lines.rc) (l := [.pointer d]) 2000 mixed Tryz.func74 rfl (by kernel_rfl) (@cast (pm_Device_Lines.wp d h Q) _ (by kernel_rfl) hk)

/-! (gabion/flat.Config).Check -/
def flat_Config_Check.H : Hn := ⟨[], [], [], []⟩
def flat_Config_Check.lc : List Cut := []
def flat_Config_Check.rc : List Cut := []
def flat_Config_Check.wp (c_0 : Int) (c_1 : Int) (c_2 : Int) (c_3 : Int) (c_4 : Int) (lines : Int) (h : Heap) (Q : Value → Heap → Prop) : Prop :=
 C Tryz.prog 70 #[.agg #[.int .i64 c_0, .int .i64 c_1, .int .i64 c_2, .int .i64 c_3, .int .u64 c_4]] h fun (r : Value) (h' : Heap) =>
 ∃ (x : Bool),
 r = .bool x ∧
 xsIf (!x) (Q (.int .i64 2) h')
 (C Tryz.prog 16 #[.agg #[.int .i64 c_0, .int .i64 c_1, .int .i64 c_2, .int .i64 c_3, .int .u64 c_4]] h' fun (r : Value) (h' : Heap) =>
 ∃ (x : Int), r = .int .i64 x ∧ xsIf (decide (lines < x)) (Q (.int .i64 3) h') (Q (.int .i64 0) h'))
theorem flat_Config_Check.ok {c_0 : Int} {c_1 : Int} {c_2 : Int} {c_3 : Int} {c_4 : Int} {lines : Int} {h : Heap} {Q : Value → Heap → Prop} (hk : flat_Config_Check.wp c_0 c_1 c_2 c_3 c_4 lines h Q) : C Tryz.prog 34 #[.agg #[.int .i64 c_0, .int .i64 c_1, .int .i64 c_2, .int .i64 c_3, .int .u64 c_4], .int .i64 lines] h Q :=
 C_of_xs (H := flat_Config_Check.H) (lcuts := flat_Config_Check.lc) (rcuts := flat_Config_Check.rc) (l := [.agg #[.int .i64 c_0, .int .i64 c_1, .int .i64 c_2, .int .i64 c_3, .int .u64 c_4], .int .i64 lines]) 2000 mixed Tryz.func34 rfl (by kernel_rfl) (@cast (flat_Config_Check.wp c_0 c_1 c_2 c_3 c_4 lines h Q) _ (by kernel_rfl) hk)

/-! gabion/le.Get -/
def le_Get.H : Hn := ⟨[], [], [], []⟩
def le_Get.lc : List Cut := [⟨3, [0, 3, 4], []⟩]
def le_Get.rc : List Cut := []
def le_Get.L3 (s : ByteArray) (n : Int) (i : Int) (h : Heap) (Q : Value → Heap → Prop) : Prop :=
 TW Tryz.prog 153 21 [.code (cAt (bodyOf Tryz.f153) [1, 1, 0, 1, 0, 0]), .inLoop (cAt (bodyOf Tryz.f153) [1, 1, 0, 1, 0, 0]), .inBlock 0, .code (cAt (bodyOf Tryz.f153) [1, 1, 1])] ⟨[(0, .v (.string s)), (3, .v (.int .u64 n)), (4, .v (.int .i64 i))], []⟩ h Q
def le_Get.wp (s : ByteArray) (h : Heap) (Q : Value → Heap → Prop) : Prop :=
 le_Get.L3 s 0 (IntKind.i64.wrap (imin (↑s.size : Int) 8 - 1)) h Q
def le_Get.L3.wp (s : ByteArray) (n : Int) (i : Int) (h : Heap) (Q : Value → Heap → Prop) : Prop :=
 xsIf (decide (0 ≤ i)) (∃ (c : UInt8), 0 ≤ i ∧ bget s i.toNat = some c ∧ le_Get.L3 s (ior .u64 (ishl .u64 n 8) (IntKind.u64.wrap (↑c.toNat : Int))) (IntKind.i64.wrap (i - 1)) h Q) (Q (.int .u64 n) h)
theorem le_Get.ok {s : ByteArray} {h : Heap} {Q : Value → Heap → Prop} (hk : le_Get.wp s h Q) : C Tryz.prog 153 #[.string s] h Q :=
 C_of_xs (H := le_Get.H) (lcuts := le_Get.lc) (rcuts := le_Get.rc) (l := [.string s]) 2000 mixed Tryz.func153 rfl (by kernel_rfl) (@cast (le_Get.wp s h Q) _ (by kernel_rfl) hk)
theorem le_Get.L3.ok {s : ByteArray} {n : Int} {i : Int} {h : Heap} {Q : Value → Heap → Prop} (hk : le_Get.L3.wp s n i h Q) : le_Get.L3 s n i h Q :=
 xs_ok (H := le_Get.H) (lcuts := le_Get.lc) (rcuts := le_Get.rc) (fn := Tryz.f153) mixed Tryz.func153 2000 _ _ _ (@cast (le_Get.L3.wp s n i h Q) _ (by kernel_rfl) hk)

/-! gabion/le.Words -/
def le_Words.H : Hn := ⟨[], [4], [], []⟩
def le_Words.lc : List Cut := [⟨5, [0, 2, 4, 10], [2, 4]⟩]
def le_Words.rc : List Cut := []
def le_Words.L5 (s : ByteArray) (t10 : Int) (t2_0 : Int) (t2_1 : Int) (t2_2 : Int) (t2_3 : Int) (t2_4 : Int) (t2_5 : Int) (t2_6 : Int) (t2_7 : Int) (w : List Value) (h : Heap) (Q : Value → Heap → Prop) : Prop :=
 TW Tryz.prog 94 22 [.code (cAt (bodyOf Tryz.f94) [1, 1, 1, 0, 1, 0, 0]), .inLoop (cAt (bodyOf Tryz.f94) [1, 1, 1, 0, 1, 0, 0]), .inBlock 0, .code (cAt (bodyOf Tryz.f94) [1, 1, 1, 1])] ⟨[(0, .v (.string s)), (2, .p 2 0), (4, .p 4 0), (10, .v (.int .i64 t10))], [(2, [.int .u64 t2_0, .int .u64 t2_1, .int .u64 t2_2, .int .u64 t2_3, .int .u64 t2_4, .int .u64 t2_5, .int .u64 t2_6, .int .u64 t2_7]), (4, w)]⟩ h Q
def le_Words.wp (s : ByteArray) (h : Heap) (Q : Value → Heap → Prop) : Prop :=
 xsIf (decide ((↑s.size : Int) ≠ 64))
 (8 ≤ 8 ∧
 ∃ (x : Int),
 lget [.int .u64 0, .int .u64 0, .int .u64 0, .int .u64 0, .int .u64 0, .int .u64 0, .int .u64 0, .int .u64 0] 0 =
 some (.int .u64 x) ∧
 ∃ (x_1 : Int),
 lget [.int .u64 0, .int .u64 0, .int .u64 0, .int .u64 0, .int .u64 0, .int .u64 0, .int .u64 0, .int .u64 0] 1 =
 some (.int .u64 x_1) ∧
 ∃ (x_2 : Int),
 lget [.int .u64 0, .int .u64 0, .int .u64 0, .int .u64 0, .int .u64 0, .int .u64 0, .int .u64 0, .int .u64 0] 2 =
 some (.int .u64 x_2) ∧
 ∃ (x_3 : Int),
 lget [.int .u64 0, .int .u64 0, .int .u64 0, .int .u64 0, .int .u64 0, .int .u64 0, .int .u64 0, .int .u64 0] 3 =
 some (.int .u64 x_3) ∧
 ∃ (x_4 : Int),
 lget [.int .u64 0, .int .u64 0, .int .u64 0, .int .u64 0, .int .u64 0, .int .u64 0, .int .u64 0, .int .u64 0] 4 =
 some (.int .u64 x_4) ∧
 ∃ (x_5 : Int),
 lget [.int .u64 0, .int .u64 0, .int .u64 0, .int .u64 0, .int .u64 0, .int .u64 0, .int .u64 0, .int .u64 0] 5 =
 some (.int .u64 x_5) ∧
 ∃ (x_6 : Int),
 lget [.int .u64 0, .int .u64 0, .int .u64 0, .int .u64 0, .int .u64 0, .int .u64 0, .int .u64 0, .int .u64 0] 6 =
 some (.int .u64 x_6) ∧
 ∃ (x_7 : Int),
 lget [.int .u64 0, .int .u64 0, .int .u64 0, .int .u64 0, .int .u64 0, .int .u64 0, .int .u64 0, .int .u64 0]
 7 =
 some (.int .u64 x_7) ∧
 Q
 (.tuple
 #[.agg
 #[.int .u64 x, .int .u64 x_1, .int .u64 x_2, .int .u64 x_3, .int .u64 x_4, .int .u64 x_5, .int .u64 x_6,
 .int .u64 x_7],
 .int .i64 2])
 h)
 (le_Words.L5 s 0 0 0 0 0 0 0 0 0 [.int .u64 0, .int .u64 0, .int .u64 0, .int .u64 0, .int .u64 0, .int .u64 0, .int .u64 0, .int .u64 0] h Q)
def le_Words.L5.wp (s : ByteArray) (t10 : Int) (t2_0 : Int) (t2_1 : Int) (t2_2 : Int) (t2_3 : Int) (t2_4 : Int) (t2_5 : Int) (t2_6 : Int) (t2_7 : Int) (w : List Value) (h : Heap) (Q : Value → Heap → Prop) : Prop :=
 xsIf (decide (t10 < 8))
 ((0 ≤ IntKind.i64.wrap (8 * t10) ∧ IntKind.i64.wrap (8 * t10) ≤ (↑s.size : Int)) ∧
 C Tryz.prog 153 #[.string (sext s (IntKind.i64.wrap (8 * t10)) (↑s.size : Int))] h fun (r : Value) (h' : Heap) =>
 ∃ (x : Int),
 r = .int .u64 x ∧
 (0 ≤ t10 ∧ t10 < (↑8 : Int)) ∧ 0 + t10.toNat * 1 + 1 ≤ w.length ∧ le_Words.L5 s (IntKind.i64.wrap (t10 + 1)) t2_0 t2_1 t2_2 t2_3 t2_4 t2_5 t2_6 t2_7 (lput w (0 + t10.toNat * 1) [.int .u64 x]) h' Q)
 (8 ≤ w.length ∧
 ∃ (x : Int),
 lget w 0 = some (.int .u64 x) ∧
 ∃ (x_1 : Int),
 lget w 1 = some (.int .u64 x_1) ∧
 ∃ (x_2 : Int),
 lget w 2 = some (.int .u64 x_2) ∧
 ∃ (x_3 : Int),
 lget w 3 = some (.int .u64 x_3) ∧
 ∃ (x_4 : Int),
 lget w 4 = some (.int .u64 x_4) ∧
 ∃ (x_5 : Int),
 lget w 5 = some (.int .u64 x_5) ∧
 ∃ (x_6 : Int),
 lget w 6 = some (.int .u64 x_6) ∧
 ∃ (x_7 : Int),
 lget w 7 = some (.int .u64 x_7) ∧
 Q
 (.tuple
 #[.agg
 #[.int .u64 x, .int .u64 x_1, .int .u64 x_2, .int .u64 x_3, .int .u64 x_4, .int .u64 x_5, .int .u64 x_6,
 .int .u64 x_7],
 .int .i64 0])
 h)
theorem le_Words.ok {s : ByteArray} {h : Heap} {Q : Value → Heap → Prop} (hk : le_Words.wp s h Q) : C Tryz.prog 94 #[.string s] h Q :=
 C_of_xs (H := le_Words.H) (lcuts := le_Words.lc) (rcuts := le_Words.rc) (l := [.string s]) 2000 mixed Tryz.func94 rfl (by kernel_rfl) (@cast (le_Words.wp s h Q) _ (by kernel_rfl) hk)
theorem le_Words.L5.ok {s : ByteArray} {t10 : Int} {t2_0 : Int} {t2_1 : Int} {t2_2 : Int} {t2_3 : Int} {t2_4 : Int} {t2_5 : Int} {t2_6 : Int} {t2_7 : Int} {w : List Value} {h : Heap} {Q : Value → Heap → Prop} (hk : le_Words.L5.wp s t10 t2_0 t2_1 t2_2 t2_3 t2_4 t2_5 t2_6 t2_7 w h Q) : le_Words.L5 s t10 t2_0 t2_1 t2_2 t2_3 t2_4 t2_5 t2_6 t2_7 w h Q :=
 xs_ok (H := le_Words.H) (lcuts := le_Words.lc) (rcuts := le_Words.rc) (fn := Tryz.f94) mixed Tryz.func94 2000 _ _ _ (@cast (le_Words.L5.wp s t10 t2_0 t2_1 t2_2 t2_3 t2_4 t2_5 t2_6 t2_7 w h Q) _ (by kernel_rfl) hk)

/-! gabion/line.there -/
def line_there.H : Hn := ⟨[], [], [], []⟩
def line_there.lc : List Cut := []
def line_there.rc : List Cut := []
def line_there.wp (d : Option Addr) (at0 : Int) (h : Heap) (Q : Value → Heap → Prop) : Prop :=
 xsIf d.isNone (Q (.int .i64 1) h)
 (xsIf (decide (at0 < 0)) (Q (.int .i64 3) h)
 (C Tryz.prog 74 #[.pointer d] h fun (r : Value) (h' : Heap) => ∃ (x : Int), r = .int .i64 x ∧ xsIf (decide (x ≤ at0)) (Q (.int .i64 3) h') (Q (.int .i64 0) h')))
theorem line_there.ok {d : Option Addr} {at0 : Int} {h : Heap} {Q : Value → Heap → Prop} (hk : line_there.wp d at0 h Q) : C Tryz.prog 134 #[.pointer d, .int .i64 at0] h Q :=
 C_of_xs (H := line_there.H) (lcuts := line_there.lc) (rcuts := line_there.rc) (l := [.pointer d, .int .i64 at0]) 2000 mixed Tryz.func134 rfl (by kernel_rfl) (@cast (line_there.wp d at0 h Q) _ (by kernel_rfl) hk)

/-! (*gabion/pm.Device).words -/
def pm_Device_words.H : Hn := ⟨[], [], [], []⟩
def pm_Device_words.lc : List Cut := []
def pm_Device_words.rc : List Cut := []
def pm_Device_words.wp (d : Option Addr) (h : Heap) (Q : Value → Heap → Prop) : Prop :=
 C Tryz.prog 74 #[.pointer d] h fun (r : Value) (h' : Heap) => ∃ (x : Int), r = .int .i64 x ∧ Q (.int .i64 (IntKind.i64.wrap (x * 8))) h'
theorem pm_Device_words.ok {d : Option Addr} {h : Heap} {Q : Value → Heap → Prop} (hk : pm_Device_words.wp d h Q) : C Tryz.prog 196 #[.pointer d] h Q :=
 C_of_xs (H := pm_Device_words.H) (lcuts := pm_Device_words.lc) (rcuts := pm_Device_words.rc) (l := [.pointer d]) 2000 mixed Tryz.func196 rfl (by kernel_rfl) (@cast (pm_Device_words.wp d h Q) _ (by kernel_rfl) hk)

/-! (*gabion/pm.Device).Store$1 -/
def pm_Device_Store_1.H : Hn := ⟨[], [], [⟨0, .ld 5 192 (.q 6 (.ld 0 142 (.q 1 (.q 2 (.ld 3 128 (.q 4 (.q 7 (.nil)))))))), []⟩], []⟩
def pm_Device_Store_1.lc : List Cut := []
def pm_Device_Store_1.rc : List Cut := []
def pm_Device_Store_1.wp (t0 : Nat) (t1 : Nat) (t2 : Nat) (h : Heap) (Q : Value → Heap → Prop) : Prop :=
 ∃ (x : Int),
 h.cell t0 0 = some (.int .u64 x) ∧
 ∃ (x_1 : Option Addr),
 h.cell t1 0 = some (.pointer x_1) ∧
 atBase x_1 fun (b o : Nat) =>
 ∃ (x_2 : Option Nat),
 h.cell b (o + 1) = some (Value.map x_2) ∧
 ∃ (x_3 : Int),
 h.cell t2 0 = some (.int .i64 x_3) ∧
 atMap x_2 fun (r : Nat) =>
 ∃ (l : List (Int × Value × Nat)),
 ∃ (c : Nat),
 h r = some (mapO (.int .i64) l c) ∧
 (∀ (j : Nat) (v : Value) (b : Nat),
 mnth l j = some (x_3, v, b) → Q (.tuple #[]) (upd h r (mapO (.int .i64) (mset l j (x_3, .agg #[.int .u64 x, .bool false], b)) c))) ∧
 ((∀ (j : Nat) (v : Value) (b : Nat), ¬mnth l j = some (x_3, v, b)) →
 Q (.tuple #[]) (upd h r (mapO (.int .i64) (madd l (x_3, .agg #[.int .u64 x, .bool false], c)) (c + 1))))
theorem pm_Device_Store_1.ok {t0 : Nat} {t1 : Nat} {t2 : Nat} {h : Heap} {Q : Value → Heap → Prop} (hk : pm_Device_Store_1.wp t0 t1 t2 h Q) : C Tryz.prog 197 #[.pointer (some ⟨t0, 0, none⟩), .pointer (some ⟨t1, 0, none⟩), .pointer (some ⟨t2, 0, none⟩)] h Q :=
 C_of_xs (H := pm_Device_Store_1.H) (lcuts := pm_Device_Store_1.lc) (rcuts := pm_Device_Store_1.rc) (l := [.pointer (some ⟨t0, 0, none⟩), .pointer (some ⟨t1, 0, none⟩), .pointer (some ⟨t2, 0, none⟩)]) 2000 mixed Tryz.func197 rfl (by kernel_rfl) (@cast (pm_Device_Store_1.wp t0 t1 t2 h Q) _ (by kernel_rfl) hk)

/-! (*gabion/pm.Device).ready -/
def pm_Device_ready.H : Hn := ⟨[], [], [], []⟩
def pm_Device_ready.lc : List Cut := []
def pm_Device_ready.rc : List Cut := []
def pm_Device_ready.wp (d : Option Addr) (at0 : Int) (of0 : Int) (h : Heap) (Q : Value → Heap → Prop) : Prop :=
 xsIf d.isNone (Q (.int .i64 1) h)
 (atBase d fun (b o : Nat) =>
 ∃ (x : Bool),
 h.cell b (o + 5) = some (.bool x) ∧ xsIf x (Q (.int .i64 6) h) (xsIf (decide (at0 < 0)) (Q (.int .i64 3) h) (xsIf (decide (of0 ≤ at0)) (Q (.int .i64 3) h) (Q (.int .i64 0) h))))
theorem pm_Device_ready.ok {d : Option Addr} {at0 : Int} {of0 : Int} {h : Heap} {Q : Value → Heap → Prop} (hk : pm_Device_ready.wp d at0 of0 h Q) : C Tryz.prog 183 #[.pointer d, .int .i64 at0, .int .i64 of0] h Q :=
 C_of_xs (H := pm_Device_ready.H) (lcuts := pm_Device_ready.lc) (rcuts := pm_Device_ready.rc) (l := [.pointer d, .int .i64 at0, .int .i64 of0]) 2000 mixed Tryz.func183 rfl (by kernel_rfl) (@cast (pm_Device_ready.wp d at0 of0 h Q) _ (by kernel_rfl) hk)

/-! (*gabion/pm.Device).burn -/
def pm_Device_burn.H : Hn := ⟨[], [], [], []⟩
def pm_Device_burn.lc : List Cut := []
def pm_Device_burn.rc : List Cut := []
def pm_Device_burn.wp (d : Option Addr) (h : Heap) (Q : Value → Heap → Prop) : Prop :=
 atBase d fun (b o : Nat) =>
 ∃ (x : Int),
 h.cell b (o + 4) = some (.int .i64 x) ∧
 xsIf (decide (0 < x))
 (atBase d fun (b o : Nat) =>
 ∃ (x : Int),
 h.cell b (o + 4) = some (.int .i64 x) ∧
 atBase d fun (b o : Nat) =>
 h.can b (o + 4) 1 ∧
 atBase d fun (b_1 o_1 : Nat) =>
 ∃ (x_1 : Int),
 (h.put b (o + 4) [.int .i64 (IntKind.i64.wrap (x - 1))]).cell b_1 (o_1 + 4) = some (.int .i64 x_1) ∧
 xsIf (decide (x_1 = 0))
 (atBase d fun (b_2 o_2 : Nat) =>
 (h.put b (o + 4) [.int .i64 (IntKind.i64.wrap (x - 1))]).can b_2 (o_2 + 5) 1 ∧
 Q (.int .i64 6) ((h.put b (o + 4) [.int .i64 (IntKind.i64.wrap (x - 1))]).put b_2 (o_2 + 5) [.bool true]))
 (atBase d fun (b_2 o_2 : Nat) =>
 ∃ (x_2 : Int),
 (h.put b (o + 4) [.int .i64 (IntKind.i64.wrap (x - 1))]).cell b_2 (o_2 + 6) = some (.int .i64 x_2) ∧
 atBase d fun (b_3 o_3 : Nat) =>
 (h.put b (o + 4) [.int .i64 (IntKind.i64.wrap (x - 1))]).can b_3 (o_3 + 6) 1 ∧
 Q (.int .i64 0) ((h.put b (o + 4) [.int .i64 (IntKind.i64.wrap (x - 1))]).put b_3 (o_3 + 6) [.int .i64 (IntKind.i64.wrap (x_2 + 1))])))
 (atBase d fun (b o : Nat) =>
 ∃ (x : Int), h.cell b (o + 6) = some (.int .i64 x) ∧ atBase d fun (b o : Nat) => h.can b (o + 6) 1 ∧ Q (.int .i64 0) (h.put b (o + 6) [.int .i64 (IntKind.i64.wrap (x + 1))]))
theorem pm_Device_burn.ok {d : Option Addr} {h : Heap} {Q : Value → Heap → Prop} (hk : pm_Device_burn.wp d h Q) : C Tryz.prog 184 #[.pointer d] h Q :=
 C_of_xs (H := pm_Device_burn.H) (lcuts := pm_Device_burn.lc) (rcuts := pm_Device_burn.rc) (l := [.pointer d]) 2000 mixed Tryz.func184 rfl (by kernel_rfl) (@cast (pm_Device_burn.wp d h Q) _ (by kernel_rfl) hk)

/-! (*gabion/pm.Device).do -/
def pm_Device_do.H : Hn := ⟨[], [], [], []⟩
def pm_Device_do.lc : List Cut := []
def pm_Device_do.rc : List Cut := []
def pm_Device_do.wp (d : Option Addr) (at0 : Int) (of0 : Int) (f : Nat) (f_a : Array Value) (f_c : Array Value) (h : Heap) (Q : Value → Heap → Prop) : Prop :=
 C Tryz.prog 183 #[.pointer d, .int .i64 at0, .int .i64 of0] h fun (r : Value) (h' : Heap) =>
 ∃ (x : Int),
 r = .int .i64 x ∧
 xsIf (decide (x ≠ 0)) (Q (.int .i64 x) h')
 (C Tryz.prog 184 #[.pointer d] h' fun (r : Value) (h' : Heap) =>
 ∃ (x : Int),
 r = .int .i64 x ∧
 xsIf (decide (x ≠ 0)) (Q (.int .i64 x) h') (xsIf (goOk Tryz.prog f) (C Tryz.prog f (List.toArray (f_a.toList ++ [] ++ f_c.toList)) h' fun (r : Value) (h' : Heap) => Q (.int .i64 0) h') False))
theorem pm_Device_do.ok {d : Option Addr} {at0 : Int} {of0 : Int} {f : Nat} {f_a : Array Value} {f_c : Array Value} {h : Heap} {Q : Value → Heap → Prop} (hk : pm_Device_do.wp d at0 of0 f f_a f_c h Q) : C Tryz.prog 108 #[.pointer d, .int .i64 at0, .int .i64 of0, .func (.func f) f_a f_c] h Q :=
 C_of_xs (H := pm_Device_do.H) (lcuts := pm_Device_do.lc) (rcuts := pm_Device_do.rc) (l := [.pointer d, .int .i64 at0, .int .i64 of0, .func (.func f) f_a f_c]) 2000 mixed Tryz.func108 rfl (by kernel_rfl) (@cast (pm_Device_do.wp d at0 of0 f f_a f_c h Q) _ (by kernel_rfl) hk)

/-! (*gabion/pm.Device).Store -/
def pm_Device_Store.H : Hn := ⟨[3, 4, 5], [], [⟨1, .q 4 (.ld 2 104 (.br 0 (.br 1 (.q 3 (.q 5 (.q 6 (.nil)))) (.one 3 (.q 1 (.q 5 (.q 6 (.nil)))))) (.br 1 (.br 0 (.q 3 (.q 5 (.q 6 (.nil)))) (.one 3 (.q 0 (.q 5 (.q 6 (.nil)))))) (.one 3 (.ld 0 96 (.q 1 (.q 5 (.q 6 (.nil))))))))), []⟩], []⟩
def pm_Device_Store.lc : List Cut := []
def pm_Device_Store.rc : List Cut := []
def pm_Device_Store.wp (d : Option Addr) (word : Int) (v : Int) (h : Heap) (Q : Value → Heap → Prop) : Prop :=
 ∀ (b : Nat),
 h b = none →
 ∀ (b_1 : Nat),
 upd h b (Obj.cells #[.pointer d] 32 (0, 0)) b_1 = none →
 ∀ (b_2 : Nat),
 upd (upd h b (Obj.cells #[.pointer d] 32 (0, 0))) b_1 (Obj.cells #[.int .i64 word] 3 (0, 0)) b_2 = none →
 ∃ (x : Option Addr),
 (upd (upd (upd h b (Obj.cells #[.pointer d] 32 (0, 0))) b_1 (Obj.cells #[.int .i64 word] 3 (0, 0))) b_2 (Obj.cells #[.int .u64 v] 22 (0, 0))).cell b 0 =
 some (.pointer x) ∧
 (∃ (x_1 : Option Addr),
 (upd (upd (upd h b (Obj.cells #[.pointer d] 32 (0, 0))) b_1 (Obj.cells #[.int .i64 word] 3 (0, 0))) b_2 (Obj.cells #[.int .u64 v] 22 (0, 0))).cell b 0 =
 some (.pointer x_1) ∧
 (∃ (x_2 : Int),
 (upd (upd (upd h b (Obj.cells #[.pointer d] 32 (0, 0))) b_1 (Obj.cells #[.int .i64 word] 3 (0, 0))) b_2 (Obj.cells #[.int .u64 v] 22 (0, 0))).cell
 b_1 0 =
 some (.int .i64 x_2) ∧
 C Tryz.prog 196 #[.pointer x]
 (upd (upd (upd h b (Obj.cells #[.pointer d] 32 (0, 0))) b_1 (Obj.cells #[.int .i64 word] 3 (0, 0))) b_2 (Obj.cells #[.int .u64 v] 22 (0, 0)))
 fun (r : Value) (h' : Heap) =>
 ∃ (x : Int),
 r = .int .i64 x ∧
 C Tryz.prog 108
 #[.pointer x_1, .int .i64 x_2, .int .i64 x,
 .func (Fn.func 197) #[]
 #[.pointer (some { block := b_2, off := 0 }), .pointer (some { block := b, off := 0 }), .pointer (some { block := b_1, off := 0 })]]
 h' fun (r : Value) (h' : Heap) => ∃ (x : Int), r = .int .i64 x ∧ Q (.int .i64 x) h') ∧
 C Tryz.prog 196 #[.pointer x]
 (upd (upd (upd h b (Obj.cells #[.pointer d] 32 (0, 0))) b_1 (Obj.cells #[.int .i64 word] 3 (0, 0))) b_2 (Obj.cells #[.int .u64 v] 22 (0, 0)))
 fun (r : Value) (h' : Heap) =>
 ∃ (x : Int),
 r = .int .i64 x ∧
 ∃ (x_2 : Int),
 h'.cell b_1 0 = some (.int .i64 x_2) ∧
 C Tryz.prog 108
 #[.pointer x_1, .int .i64 x_2, .int .i64 x,
 .func (Fn.func 197) #[]
 #[.pointer (some { block := b_2, off := 0 }), .pointer (some { block := b, off := 0 }), .pointer (some { block := b_1, off := 0 })]]
 h' fun (r : Value) (h' : Heap) => ∃ (x : Int), r = .int .i64 x ∧ Q (.int .i64 x) h') ∧
 (∃ (x_1 : Int),
 (upd (upd (upd h b (Obj.cells #[.pointer d] 32 (0, 0))) b_1 (Obj.cells #[.int .i64 word] 3 (0, 0))) b_2 (Obj.cells #[.int .u64 v] 22 (0, 0))).cell b_1
 0 =
 some (.int .i64 x_1) ∧
 (∃ (x_2 : Option Addr),
 (upd (upd (upd h b (Obj.cells #[.pointer d] 32 (0, 0))) b_1 (Obj.cells #[.int .i64 word] 3 (0, 0))) b_2
 (Obj.cells #[.int .u64 v] 22 (0, 0))).cell
 b 0 =
 some (.pointer x_2) ∧
 C Tryz.prog 196 #[.pointer x]
 (upd (upd (upd h b (Obj.cells #[.pointer d] 32 (0, 0))) b_1 (Obj.cells #[.int .i64 word] 3 (0, 0))) b_2
 (Obj.cells #[.int .u64 v] 22 (0, 0)))
 fun (r : Value) (h' : Heap) =>
 ∃ (x : Int),
 r = .int .i64 x ∧
 C Tryz.prog 108
 #[.pointer x_2, .int .i64 x_1, .int .i64 x,
 .func (Fn.func 197) #[]
 #[.pointer (some { block := b_2, off := 0 }), .pointer (some { block := b, off := 0 }), .pointer (some { block := b_1, off := 0 })]]
 h' fun (r : Value) (h' : Heap) => ∃ (x : Int), r = .int .i64 x ∧ Q (.int .i64 x) h') ∧
 C Tryz.prog 196 #[.pointer x]
 (upd (upd (upd h b (Obj.cells #[.pointer d] 32 (0, 0))) b_1 (Obj.cells #[.int .i64 word] 3 (0, 0))) b_2 (Obj.cells #[.int .u64 v] 22 (0, 0)))
 fun (r : Value) (h' : Heap) =>
 ∃ (x : Int),
 r = .int .i64 x ∧
 ∃ (x_2 : Option Addr),
 h'.cell b 0 = some (.pointer x_2) ∧
 C Tryz.prog 108
 #[.pointer x_2, .int .i64 x_1, .int .i64 x,
 .func (Fn.func 197) #[]
 #[.pointer (some { block := b_2, off := 0 }), .pointer (some { block := b, off := 0 }), .pointer (some { block := b_1, off := 0 })]]
 h' fun (r : Value) (h' : Heap) => ∃ (x : Int), r = .int .i64 x ∧ Q (.int .i64 x) h') ∧
 C Tryz.prog 196 #[.pointer x]
 (upd (upd (upd h b (Obj.cells #[.pointer d] 32 (0, 0))) b_1 (Obj.cells #[.int .i64 word] 3 (0, 0))) b_2 (Obj.cells #[.int .u64 v] 22 (0, 0)))
 fun (r : Value) (h' : Heap) =>
 ∃ (x : Int),
 r = .int .i64 x ∧
 ∃ (x_1 : Option Addr),
 h'.cell b 0 = some (.pointer x_1) ∧
 ∃ (x_2 : Int),
 h'.cell b_1 0 = some (.int .i64 x_2) ∧
 C Tryz.prog 108
 #[.pointer x_1, .int .i64 x_2, .int .i64 x,
 .func (Fn.func 197) #[]
 #[.pointer (some { block := b_2, off := 0 }), .pointer (some { block := b, off := 0 }), .pointer (some { block := b_1, off := 0 })]]
 h' fun (r : Value) (h' : Heap) => ∃ (x : Int), r = .int .i64 x ∧ Q (.int .i64 x) h'
theorem pm_Device_Store.ok {d : Option Addr} {word : Int} {v : Int} {h : Heap} {Q : Value → Heap → Prop} (hk : pm_Device_Store.wp d word v h Q) : C Tryz.prog 135 #[.pointer d, .int .i64 word, .int .u64 v] h Q :=
 C_of_xs (H := pm_Device_Store.H) (lcuts := pm_Device_Store.lc) (rcuts := pm_Device_Store.rc) (l := [.pointer d, .int .i64 word, .int .u64 v]) 2000 mixed Tryz.func135 rfl (by kernel_rfl) (@cast (pm_Device_Store.wp d word v h Q) _ (by kernel_rfl) hk)

/-! (*gabion/pm.Device).Flush$1 -/
def pm_Device_Flush_1.H : Hn := ⟨[], [], [⟨3, .q 6 (.ld 4 28576 (.q 5 (.q 7 (.ld 0 28430 (.q 1 (.q 2 (.ld 3 28416 (.br 8 (.q 9 (.q 10 (.q 11 (.q 12 (.q 13 (.q 14 (.nil))))))) (.one 12 (.q 8 (.q 9 (.q 10 (.q 11 (.q 13 (.q 14 (.nil)))))))))))))))), [3]⟩, ⟨6, .q 6 (.q 8 (.ld 4 672 (.q 5 (.q 7 (.q 0 (.q 1 (.q 2 (.q 3 (.q 9 (.nil)))))))))), []⟩], []⟩
def pm_Device_Flush_1.lc : List Cut := [⟨1, [0, 1, 5], []⟩]
def pm_Device_Flush_1.rc : List Cut := []
def pm_Device_Flush_1.L1 (t0 : Nat) (t1 : Nat) (t5 : Int) (h : Heap) (Q : Value → Heap → Prop) : Prop :=
 TW Tryz.prog 240 32 [.code (cAt (bodyOf Tryz.f240) [1, 0, 0]), .inLoop (cAt (bodyOf Tryz.f240) [1, 0, 0]), .inBlock 0] ⟨[(0, .v (.pointer (some ⟨t0, 0, none⟩))), (1, .v (.pointer (some ⟨t1, 0, none⟩))), (5, .v (.int .i64 t5))], []⟩ h Q
def pm_Device_Flush_1.wp (t0 : Nat) (t1 : Nat) (h : Heap) (Q : Value → Heap → Prop) : Prop :=
 pm_Device_Flush_1.L1 t0 t1 0 h Q
def pm_Device_Flush_1.L1.wp (t0 : Nat) (t1 : Nat) (t5 : Int) (h : Heap) (Q : Value → Heap → Prop) : Prop :=
 xsIf (decide (t5 < 8))
 (∃ (x : Int),
 h.cell t1 0 = some (.int .i64 x) ∧
 ∃ (x_1 : Option Addr),
 h.cell t0 0 = some (.pointer x_1) ∧
 atBase x_1 fun (b o : Nat) =>
 ∃ (x_2 : Option Nat),
 h.cell b (o + 1) = some (Value.map x_2) ∧
 (atMap x_2 fun (r : Nat) =>
 ∃ (l : List (Int × Value × Nat)),
 ∃ (c : Nat),
 h r = some (mapO (.int .i64) l c) ∧
 (∀ (j : Nat) (v : Value) (b : Nat),
 mnth l j = some (IntKind.i64.wrap (IntKind.i64.wrap (x * 8) + t5), v, b) →
 ∃ (x : Int),
 ∃ (x_3 : Bool),
 v = .agg #[.int .u64 x, .bool x_3] ∧
 ∃ (x_4 : Int),
 h.cell t1 0 = some (.int .i64 x_4) ∧
 ∃ (x_5 : Option Addr),
 h.cell t0 0 = some (.pointer x_5) ∧
 atBase x_5 fun (b o : Nat) =>
 ∃ (x_6 : Option Nat),
 h.cell b (o + 1) = some (Value.map x_6) ∧
 atMap x_6 fun (r : Nat) =>
 ∃ (l : List (Int × Value × Nat)),
 ∃ (c : Nat),
 h r = some (mapO (.int .i64) l c) ∧
 (∀ (j : Nat) (v : Value) (b : Nat),
 mnth l j = some (IntKind.i64.wrap (IntKind.i64.wrap (x_4 * 8) + t5), v, b) →
 pm_Device_Flush_1.L1 t0 t1 (IntKind.i64.wrap (t5 + 1))
 (upd h r (mapO (.int .i64) (mset l j (IntKind.i64.wrap (IntKind.i64.wrap (x_4 * 8) + t5), .agg #[.int .u64 x, .bool true], b)) c)) Q) ∧
 ((∀ (j : Nat) (v : Value) (b : Nat), ¬mnth l j = some (IntKind.i64.wrap (IntKind.i64.wrap (x_4 * 8) + t5), v, b)) →
 pm_Device_Flush_1.L1 t0 t1 (IntKind.i64.wrap (t5 + 1))
 (upd h r (mapO (.int .i64) (madd l (IntKind.i64.wrap (IntKind.i64.wrap (x_4 * 8) + t5), .agg #[.int .u64 x, .bool true], c)) (c + 1))) Q)) ∧
 ((∀ (j : Nat) (v : Value) (b : Nat), ¬mnth l j = some (IntKind.i64.wrap (IntKind.i64.wrap (x * 8) + t5), v, b)) → pm_Device_Flush_1.L1 t0 t1 (IntKind.i64.wrap (t5 + 1)) h Q)) ∧
 atMap x_2 fun (r : Nat) =>
 ∃ (l : List (Int × Value × Nat)),
 ∃ (c : Nat),
 h r = some (mapO (.int .i64) l c) ∧
 (∀ (j : Nat) (v : Value) (b : Nat),
 mnth l j = some (IntKind.i64.wrap (IntKind.i64.wrap (x * 8) + t5), v, b) →
 ∃ (x : Int),
 ∃ (x_3 : Bool),
 v = .agg #[.int .u64 x, .bool x_3] ∧
 ∃ (x_4 : Int),
 h.cell t1 0 = some (.int .i64 x_4) ∧
 ∃ (x_5 : Option Addr),
 h.cell t0 0 = some (.pointer x_5) ∧
 atBase x_5 fun (b o : Nat) =>
 ∃ (x_6 : Option Nat),
 h.cell b (o + 1) = some (Value.map x_6) ∧
 atMap x_6 fun (r : Nat) =>
 ∃ (l : List (Int × Value × Nat)),
 ∃ (c : Nat),
 h r = some (mapO (.int .i64) l c) ∧
 (∀ (j : Nat) (v : Value) (b : Nat),
 mnth l j = some (IntKind.i64.wrap (IntKind.i64.wrap (x_4 * 8) + t5), v, b) →
 pm_Device_Flush_1.L1 t0 t1 (IntKind.i64.wrap (t5 + 1))
 (upd h r (mapO (.int .i64) (mset l j (IntKind.i64.wrap (IntKind.i64.wrap (x_4 * 8) + t5), .agg #[.int .u64 x, .bool true], b)) c)) Q) ∧
 ((∀ (j : Nat) (v : Value) (b : Nat), ¬mnth l j = some (IntKind.i64.wrap (IntKind.i64.wrap (x_4 * 8) + t5), v, b)) →
 pm_Device_Flush_1.L1 t0 t1 (IntKind.i64.wrap (t5 + 1))
 (upd h r (mapO (.int .i64) (madd l (IntKind.i64.wrap (IntKind.i64.wrap (x_4 * 8) + t5), .agg #[.int .u64 x, .bool true], c)) (c + 1))) Q)) ∧
 ((∀ (j : Nat) (v : Value) (b : Nat), ¬mnth l j = some (IntKind.i64.wrap (IntKind.i64.wrap (x * 8) + t5), v, b)) → pm_Device_Flush_1.L1 t0 t1 (IntKind.i64.wrap (t5 + 1)) h Q))
 (Q (.tuple #[]) h)
theorem pm_Device_Flush_1.ok {t0 : Nat} {t1 : Nat} {h : Heap} {Q : Value → Heap → Prop} (hk : pm_Device_Flush_1.wp t0 t1 h Q) : C Tryz.prog 240 #[.pointer (some ⟨t0, 0, none⟩), .pointer (some ⟨t1, 0, none⟩)] h Q :=
 C_of_xs (H := pm_Device_Flush_1.H) (lcuts := pm_Device_Flush_1.lc) (rcuts := pm_Device_Flush_1.rc) (l := [.pointer (some ⟨t0, 0, none⟩), .pointer (some ⟨t1, 0, none⟩)]) 2000 mixed Tryz.func240 rfl (by kernel_rfl) (@cast (pm_Device_Flush_1.wp t0 t1 h Q) _ (by kernel_rfl) hk)
theorem pm_Device_Flush_1.L1.ok {t0 : Nat} {t1 : Nat} {t5 : Int} {h : Heap} {Q : Value → Heap → Prop} (hk : pm_Device_Flush_1.L1.wp t0 t1 t5 h Q) : pm_Device_Flush_1.L1 t0 t1 t5 h Q :=
 xs_ok (H := pm_Device_Flush_1.H) (lcuts := pm_Device_Flush_1.lc) (rcuts := pm_Device_Flush_1.rc) (fn := Tryz.f240) mixed Tryz.func240 2000 _ _ _ (@cast (pm_Device_Flush_1.L1.wp t0 t1 t5 h Q) _ (by kernel_rfl) hk)

/-! (*gabion/pm.Device).Flush -/
def pm_Device_Flush.H : Hn := ⟨[2, 3], [], [⟨1, .q 4 (.ld 2 104 (.br 0 (.br 1 (.q 3 (.q 5 (.q 6 (.nil)))) (.one 3 (.q 1 (.q 5 (.q 6 (.nil)))))) (.br 1 (.br 0 (.q 3 (.q 5 (.q 6 (.nil)))) (.one 3 (.q 0 (.q 5 (.q 6 (.nil)))))) (.one 3 (.ld 0 96 (.q 1 (.q 5 (.q 6 (.nil))))))))), []⟩], []⟩
def pm_Device_Flush.lc : List Cut := []
def pm_Device_Flush.rc : List Cut := []
def pm_Device_Flush.wp (d : Option Addr) (line : Int) (h : Heap) (Q : Value → Heap → Prop) : Prop :=
 ∀ (b : Nat),
 h b = none →
 ∀ (b_1 : Nat),
 upd h b (Obj.cells #[.pointer d] 32 (0, 0)) b_1 = none →
 ∃ (x : Option Addr),
 (upd (upd h b (Obj.cells #[.pointer d] 32 (0, 0))) b_1 (Obj.cells #[.int .i64 line] 3 (0, 0))).cell b 0 = some (.pointer x) ∧
 (∃ (x_1 : Option Addr),
 (upd (upd h b (Obj.cells #[.pointer d] 32 (0, 0))) b_1 (Obj.cells #[.int .i64 line] 3 (0, 0))).cell b 0 = some (.pointer x_1) ∧
 (∃ (x_2 : Int),
 (upd (upd h b (Obj.cells #[.pointer d] 32 (0, 0))) b_1 (Obj.cells #[.int .i64 line] 3 (0, 0))).cell b_1 0 = some (.int .i64 x_2) ∧
 C Tryz.prog 74 #[.pointer x] (upd (upd h b (Obj.cells #[.pointer d] 32 (0, 0))) b_1 (Obj.cells #[.int .i64 line] 3 (0, 0))) fun (r : Value) (h' : Heap) =>
 ∃ (x : Int),
 r = .int .i64 x ∧
 C Tryz.prog 108
 #[.pointer x_1, .int .i64 x_2, .int .i64 x,
 .func (Fn.func 240) #[] #[.pointer (some { block := b, off := 0 }), .pointer (some { block := b_1, off := 0 })]]
 h' fun (r : Value) (h' : Heap) => ∃ (x : Int), r = .int .i64 x ∧ Q (.int .i64 x) h') ∧
 C Tryz.prog 74 #[.pointer x] (upd (upd h b (Obj.cells #[.pointer d] 32 (0, 0))) b_1 (Obj.cells #[.int .i64 line] 3 (0, 0))) fun (r : Value) (h' : Heap) =>
 ∃ (x : Int),
 r = .int .i64 x ∧
 ∃ (x_2 : Int),
 h'.cell b_1 0 = some (.int .i64 x_2) ∧
 C Tryz.prog 108
 #[.pointer x_1, .int .i64 x_2, .int .i64 x,
 .func (Fn.func 240) #[] #[.pointer (some { block := b, off := 0 }), .pointer (some { block := b_1, off := 0 })]]
 h' fun (r : Value) (h' : Heap) => ∃ (x : Int), r = .int .i64 x ∧ Q (.int .i64 x) h') ∧
 (∃ (x_1 : Int),
 (upd (upd h b (Obj.cells #[.pointer d] 32 (0, 0))) b_1 (Obj.cells #[.int .i64 line] 3 (0, 0))).cell b_1 0 = some (.int .i64 x_1) ∧
 (∃ (x_2 : Option Addr),
 (upd (upd h b (Obj.cells #[.pointer d] 32 (0, 0))) b_1 (Obj.cells #[.int .i64 line] 3 (0, 0))).cell b 0 = some (.pointer x_2) ∧
 C Tryz.prog 74 #[.pointer x] (upd (upd h b (Obj.cells #[.pointer d] 32 (0, 0))) b_1 (Obj.cells #[.int .i64 line] 3 (0, 0)))
 fun (r : Value) (h' : Heap) =>
 ∃ (x : Int),
 r = .int .i64 x ∧
 C Tryz.prog 108
 #[.pointer x_2, .int .i64 x_1, .int .i64 x,
 .func (Fn.func 240) #[] #[.pointer (some { block := b, off := 0 }), .pointer (some { block := b_1, off := 0 })]]
 h' fun (r : Value) (h' : Heap) => ∃ (x : Int), r = .int .i64 x ∧ Q (.int .i64 x) h') ∧
 C Tryz.prog 74 #[.pointer x] (upd (upd h b (Obj.cells #[.pointer d] 32 (0, 0))) b_1 (Obj.cells #[.int .i64 line] 3 (0, 0))) fun (r : Value) (h' : Heap) =>
 ∃ (x : Int),
 r = .int .i64 x ∧
 ∃ (x_2 : Option Addr),
 h'.cell b 0 = some (.pointer x_2) ∧
 C Tryz.prog 108
 #[.pointer x_2, .int .i64 x_1, .int .i64 x,
 .func (Fn.func 240) #[] #[.pointer (some { block := b, off := 0 }), .pointer (some { block := b_1, off := 0 })]]
 h' fun (r : Value) (h' : Heap) => ∃ (x : Int), r = .int .i64 x ∧ Q (.int .i64 x) h') ∧
 C Tryz.prog 74 #[.pointer x] (upd (upd h b (Obj.cells #[.pointer d] 32 (0, 0))) b_1 (Obj.cells #[.int .i64 line] 3 (0, 0))) fun (r : Value) (h' : Heap) =>
 ∃ (x : Int),
 r = .int .i64 x ∧
 ∃ (x_1 : Option Addr),
 h'.cell b 0 = some (.pointer x_1) ∧
 ∃ (x_2 : Int),
 h'.cell b_1 0 = some (.int .i64 x_2) ∧
 C Tryz.prog 108
 #[.pointer x_1, .int .i64 x_2, .int .i64 x,
 .func (Fn.func 240) #[] #[.pointer (some { block := b, off := 0 }), .pointer (some { block := b_1, off := 0 })]]
 h' fun (r : Value) (h' : Heap) => ∃ (x : Int), r = .int .i64 x ∧ Q (.int .i64 x) h'
theorem pm_Device_Flush.ok {d : Option Addr} {line : Int} {h : Heap} {Q : Value → Heap → Prop} (hk : pm_Device_Flush.wp d line h Q) : C Tryz.prog 198 #[.pointer d, .int .i64 line] h Q :=
 C_of_xs (H := pm_Device_Flush.H) (lcuts := pm_Device_Flush.lc) (rcuts := pm_Device_Flush.rc) (l := [.pointer d, .int .i64 line]) 2000 mixed Tryz.func198 rfl (by kernel_rfl) (@cast (pm_Device_Flush.wp d line h Q) _ (by kernel_rfl) hk)

/-! maps.Keys[map[int]gabion/pm.cell,int,gabion/pm.cell] -/
def maps_Keys_map_int_pm_cell_int_pm_cell.H : Hn := ⟨[1], [], [], []⟩
def maps_Keys_map_int_pm_cell_int_pm_cell.lc : List Cut := []
def maps_Keys_map_int_pm_cell_int_pm_cell.rc : List Cut := []
def maps_Keys_map_int_pm_cell_int_pm_cell.wp (m : Option Nat) (h : Heap) (Q : Value → Heap → Prop) : Prop :=
 ∀ (b : Nat), h b = none → Q (.func (Fn.func 218) #[] #[.pointer (some { block := b, off := 0 })]) (upd h b (Obj.cells #[Value.map m] 134 (0, 0)))
theorem maps_Keys_map_int_pm_cell_int_pm_cell.ok {m : Option Nat} {h : Heap} {Q : Value → Heap → Prop} (hk : maps_Keys_map_int_pm_cell_int_pm_cell.wp m h Q) : C Tryz.prog 167 #[.map m] h Q :=
 C_of_xs (H := maps_Keys_map_int_pm_cell_int_pm_cell.H) (lcuts := maps_Keys_map_int_pm_cell_int_pm_cell.lc) (rcuts := maps_Keys_map_int_pm_cell_int_pm_cell.rc) (l := [.map m]) 2000 mixed Tryz.func167 rfl (by kernel_rfl) (@cast (maps_Keys_map_int_pm_cell_int_pm_cell.wp m h Q) _ (by kernel_rfl) hk)

/-! (*gabion/pm.Device).Pending -/
def pm_Device_Pending.H : Hn := ⟨[], [], [], []⟩
def pm_Device_Pending.lc : List Cut := []
def pm_Device_Pending.rc : List Cut := []
def pm_Device_Pending.wp (d : Option Addr) (h : Heap) (Q : Value → Heap → Prop) : Prop :=
 xsIf d.isNone (Q (.slice none 0 0) h)
 (atBase d fun (b o : Nat) =>
 ∃ (x : Option Nat),
 h.cell b (o + 1) = some (Value.map x) ∧
 C Tryz.prog 167 #[Value.map x] h fun (r : Value) (h' : Heap) =>
 ∃ (x : Value), r = x ∧ C Tryz.prog 166 #[x] h' fun (r : Value) (h' : Heap) => ∃ (x : Option Addr), ∃ (n : Nat), ∃ (m : Nat), r = .slice x n m ∧ Q (.slice x n m) h')
theorem pm_Device_Pending.ok {d : Option Addr} {h : Heap} {Q : Value → Heap → Prop} (hk : pm_Device_Pending.wp d h Q) : C Tryz.prog 92 #[.pointer d] h Q :=
 C_of_xs (H := pm_Device_Pending.H) (lcuts := pm_Device_Pending.lc) (rcuts := pm_Device_Pending.rc) (l := [.pointer d]) 2000 mixed Tryz.func92 rfl (by kernel_rfl) (@cast (pm_Device_Pending.wp d h Q) _ (by kernel_rfl) hk)

/-! (*gabion/pm.Device).Fence$1$1 -/
def pm_Device_Fence_1_1.H : Hn := ⟨[], [], [], []⟩
def pm_Device_Fence_1_1.lc : List Cut := []
def pm_Device_Fence_1_1.rc : List Cut := []
def pm_Device_Fence_1_1.wp (w : Int) (t1 : Nat) (h : Heap) (Q : Value → Heap → Prop) : Prop :=
 ∃ (x : Option Addr),
 h.cell t1 0 = some (.pointer x) ∧
 atBase x fun (b o : Nat) =>
 ∃ (x : Option Nat),
 h.cell b (o + 1) = some (Value.map x) ∧
 atMap x fun (r : Nat) =>
 ∃ (l : List (Int × Value × Nat)),
 ∃ (c : Nat),
 h r = some (mapO (.int .i64) l c) ∧
 (∀ (j : Nat) (v : Value) (b : Nat), mnth l j = some (w, v, b) → ∃ (x : Int), ∃ (x_1 : Bool), v = .agg #[.int .u64 x, .bool x_1] ∧ Q (.bool !x_1) h) ∧
 ((∀ (j : Nat) (v : Value) (b : Nat), ¬mnth l j = some (w, v, b)) → Q (.bool true) h)
theorem pm_Device_Fence_1_1.ok {w : Int} {t1 : Nat} {h : Heap} {Q : Value → Heap → Prop} (hk : pm_Device_Fence_1_1.wp w t1 h Q) : C Tryz.prog 111 #[.int .i64 w, .pointer (some ⟨t1, 0, none⟩)] h Q :=
 C_of_xs (H := pm_Device_Fence_1_1.H) (lcuts := pm_Device_Fence_1_1.lc) (rcuts := pm_Device_Fence_1_1.rc) (l := [.int .i64 w, .pointer (some ⟨t1, 0, none⟩)]) 2000 mixed Tryz.func111 rfl (by kernel_rfl) (@cast (pm_Device_Fence_1_1.wp w t1 h Q) _ (by kernel_rfl) hk)

/-! slices.IndexFunc[[]int,int] -/
def slices_IndexFunc_int_int.H : Hn := ⟨[], [], [], []⟩
def slices_IndexFunc_int_int.lc : List Cut := [⟨2, [0, 1, 7, 8], []⟩]
def slices_IndexFunc_int_int.rc : List Cut := []
def slices_IndexFunc_int_int.L2 (s : Option Addr) (s_n : Nat) (s_c : Nat) (f : Nat) (f_a : Array Value) (f_c : Array Value) (t7 : Int) (t8 : Int) (h : Heap) (Q : Value → Heap → Prop) : Prop :=
 TW Tryz.prog 185 19 [.code (cAt (bodyOf Tryz.f185) [1, 0, 1, 0, 0]), .inLoop (cAt (bodyOf Tryz.f185) [1, 0, 1, 0, 0]), .inBlock 0, .code (cAt (bodyOf Tryz.f185) [1, 1])] ⟨[(0, .v (.slice s s_n s_c)), (1, .v (.func (.func f) f_a f_c)), (7, .v (.int .i64 t7)), (8, .v (.int .i64 t8))], []⟩ h Q
def slices_IndexFunc_int_int.wp (s : Option Addr) (s_n : Nat) (s_c : Nat) (f : Nat) (f_a : Array Value) (f_c : Array Value) (h : Heap) (Q : Value → Heap → Prop) : Prop :=
 slices_IndexFunc_int_int.L2 s s_n s_c f f_a f_c (↑s_n : Int) 0 h Q
def slices_IndexFunc_int_int.L2.wp (s : Option Addr) (s_n : Nat) (s_c : Nat) (f : Nat) (f_a : Array Value) (f_c : Array Value) (t7 : Int) (t8 : Int) (h : Heap) (Q : Value → Heap → Prop) : Prop :=
 xsIf (decide (t8 < t7))
 ((0 ≤ t8 ∧ t8 < (↑s_n : Int)) ∧
 atBase s fun (b o : Nat) =>
 ∃ (x : Int),
 h.cell b (o + t8.toNat * 1) = some (.int .i64 x) ∧
 xsIf (goOk Tryz.prog f)
 (C Tryz.prog f (List.toArray (f_a.toList ++ [.int .i64 x] ++ f_c.toList)) h fun (r : Value) (h' : Heap) =>
 ∃ (x : Bool), r = .bool x ∧ xsIf x (Q (.int .i64 t8) h') (slices_IndexFunc_int_int.L2 s s_n s_c f f_a f_c t7 (IntKind.i64.wrap (t8 + 1)) h' Q))
 False)
 (Q (.int .i64 (-1)) h)
theorem slices_IndexFunc_int_int.ok {s : Option Addr} {s_n : Nat} {s_c : Nat} {f : Nat} {f_a : Array Value} {f_c : Array Value} {h : Heap} {Q : Value → Heap → Prop} (hk : slices_IndexFunc_int_int.wp s s_n s_c f f_a f_c h Q) : C Tryz.prog 185 #[.slice s s_n s_c, .func (.func f) f_a f_c] h Q :=
 C_of_xs (H := slices_IndexFunc_int_int.H) (lcuts := slices_IndexFunc_int_int.lc) (rcuts := slices_IndexFunc_int_int.rc) (l := [.slice s s_n s_c, .func (.func f) f_a f_c]) 2000 mixed Tryz.func185 rfl (by kernel_rfl) (@cast (slices_IndexFunc_int_int.wp s s_n s_c f f_a f_c h Q) _ (by kernel_rfl) hk)
theorem slices_IndexFunc_int_int.L2.ok {s : Option Addr} {s_n : Nat} {s_c : Nat} {f : Nat} {f_a : Array Value} {f_c : Array Value} {t7 : Int} {t8 : Int} {h : Heap} {Q : Value → Heap → Prop} (hk : slices_IndexFunc_int_int.L2.wp s s_n s_c f f_a f_c t7 t8 h Q) : slices_IndexFunc_int_int.L2 s s_n s_c f f_a f_c t7 t8 h Q :=
 xs_ok (H := slices_IndexFunc_int_int.H) (lcuts := slices_IndexFunc_int_int.lc) (rcuts := slices_IndexFunc_int_int.rc) (fn := Tryz.f185) mixed Tryz.func185 2000 _ _ _ (@cast (slices_IndexFunc_int_int.L2.wp s s_n s_c f f_a f_c t7 t8 h Q) _ (by kernel_rfl) hk)

/-! slices.DeleteFunc[[]int,int] -/
def slices_DeleteFunc_int_int.H : Hn := ⟨[], [], [], []⟩
def slices_DeleteFunc_int_int.lc : List Cut := [⟨5, [0, 1, 5, 6], []⟩]
def slices_DeleteFunc_int_int.rc : List Cut := []
def slices_DeleteFunc_int_int.L5 (s : Option Addr) (s_n : Nat) (s_c : Nat) (del : Nat) (del_a : Array Value) (del_c : Array Value) (i : Int) (j : Int) (h : Heap) (Q : Value → Heap → Prop) : Prop :=
 TW Tryz.prog 110 42 [.code (cAt (bodyOf Tryz.f110) [1, 1, 1, 0, 1, 0, 0]), .inLoop (cAt (bodyOf Tryz.f110) [1, 1, 1, 0, 1, 0, 0]), .inBlock 0, .code (cAt (bodyOf Tryz.f110) [1, 1, 1, 1])] ⟨[(0, .v (.slice s s_n s_c)), (1, .v (.func (.func del) del_a del_c)), (5, .v (.int .i64 i)), (6, .v (.int .i64 j))], []⟩ h Q
def slices_DeleteFunc_int_int.wp (s : Option Addr) (s_n : Nat) (s_c : Nat) (del : Nat) (del_a : Array Value) (del_c : Array Value) (h : Heap) (Q : Value → Heap → Prop) : Prop :=
 C Tryz.prog 185 #[.slice s s_n s_c, .func (Fn.func del) del_a del_c] h fun (r : Value) (h' : Heap) =>
 ∃ (x : Int), r = .int .i64 x ∧ xsIf (decide (x = -1)) (Q (.slice s s_n s_c) h') (slices_DeleteFunc_int_int.L5 s s_n s_c del del_a del_c x (IntKind.i64.wrap (x + 1)) h' Q)
def slices_DeleteFunc_int_int.L5.wp (s : Option Addr) (s_n : Nat) (s_c : Nat) (del : Nat) (del_a : Array Value) (del_c : Array Value) (i : Int) (j : Int) (h : Heap) (Q : Value → Heap → Prop) : Prop :=
 xsIf (decide (j < (↑s_n : Int)))
 ((0 ≤ j ∧ j < (↑s_n : Int)) ∧
 atBase s fun (b o : Nat) =>
 ∃ (x : Int),
 h.cell b (o + j.toNat * 1) = some (.int .i64 x) ∧
 xsIf (goOk Tryz.prog del)
 (C Tryz.prog del (List.toArray (del_a.toList ++ [.int .i64 x] ++ del_c.toList)) h fun (r : Value) (h' : Heap) =>
 ∃ (x_1 : Bool),
 r = .bool x_1 ∧
 xsIf (!x_1)
 ((0 ≤ i ∧ i < (↑s_n : Int)) ∧
 atBase s fun (b o : Nat) =>
 h'.can b (o + i.toNat * 1) 1 ∧ slices_DeleteFunc_int_int.L5 s s_n s_c del del_a del_c (IntKind.i64.wrap (i + 1)) (IntKind.i64.wrap (j + 1)) (h'.put b (o + i.toNat * 1) [.int .i64 x]) Q)
 (slices_DeleteFunc_int_int.L5 s s_n s_c del del_a del_c i (IntKind.i64.wrap (j + 1)) h' Q))
 False)
 ((0 ≤ i ∧ i ≤ (↑s_n : Int)) ∧
 (((↑s_n : Int) - i).toNat = 0 → (0 ≤ i ∧ i ≤ (↑s_c : Int)) ∧ Q (.slice (slBase s (↑s_c : Int) 0 1) (i - 0).toNat ((↑s_c : Int) - 0).toNat) h) ∧
 (0 < ((↑s_n : Int) - i).toNat →
 atBase (slBase s (↑s_c : Int) i 1) fun (b o : Nat) =>
 h.can b o (((↑s_n : Int) - i).toNat * 1) ∧ (0 ≤ i ∧ i ≤ (↑s_c : Int)) ∧ Q (.slice (slBase s (↑s_c : Int) 0 1) (i - 0).toNat ((↑s_c : Int) - 0).toNat) (h.put b o (zeros Tryz.prog 3 ((↑s_n : Int) - i).toNat))))
theorem slices_DeleteFunc_int_int.ok {s : Option Addr} {s_n : Nat} {s_c : Nat} {del : Nat} {del_a : Array Value} {del_c : Array Value} {h : Heap} {Q : Value → Heap → Prop} (hk : slices_DeleteFunc_int_int.wp s s_n s_c del del_a del_c h Q) : C Tryz.prog 110 #[.slice s s_n s_c, .func (.func del) del_a del_c] h Q :=
 C_of_xs (H := slices_DeleteFunc_int_int.H) (lcuts := slices_DeleteFunc_int_int.lc) (rcuts := slices_DeleteFunc_int_int.rc) (l := [.slice s s_n s_c, .func (.func del) del_a del_c]) 2000 mixed Tryz.func110 rfl (by kernel_rfl) (@cast (slices_DeleteFunc_int_int.wp s s_n s_c del del_a del_c h Q) _ (by kernel_rfl) hk)
theorem slices_DeleteFunc_int_int.L5.ok {s : Option Addr} {s_n : Nat} {s_c : Nat} {del : Nat} {del_a : Array Value} {del_c : Array Value} {i : Int} {j : Int} {h : Heap} {Q : Value → Heap → Prop} (hk : slices_DeleteFunc_int_int.L5.wp s s_n s_c del del_a del_c i j h Q) : slices_DeleteFunc_int_int.L5 s s_n s_c del del_a del_c i j h Q :=
 xs_ok (H := slices_DeleteFunc_int_int.H) (lcuts := slices_DeleteFunc_int_int.lc) (rcuts := slices_DeleteFunc_int_int.rc) (fn := Tryz.f110) mixed Tryz.func110 2000 _ _ _ (@cast (slices_DeleteFunc_int_int.L5.wp s s_n s_c del del_a del_c i j h Q) _ (by kernel_rfl) hk)

/-! (*gabion/pm.Device).last -/
def pm_Device_last.H : Hn := ⟨[], [], [⟨6, .q 0 (.q 1 (.q 2 (.q 4 (.q 5 (.q 6 (.q 7 (.q 9 (.ld 8 15360 (.br 3 (.q 10 (.q 11 (.q 12 (.q 13 (.nil))))) (.one 10 (.q 11 (.q 3 (.q 12 (.q 13 (.nil))))))))))))))), []⟩], [(48, 55)]⟩
def pm_Device_last.lc : List Cut := [⟨2, [0, 4, 10, 11, 12], []⟩, ⟨11, [0, 48], []⟩]
def pm_Device_last.rc : List Cut := [⟨7, [0, 4, 6, 7, 10, 11, 12], []⟩]
def pm_Device_last.L2 (d : Option Addr) (worn : Option Nat) (t10 : Option Addr) (t10_n : Nat) (t10_c : Nat) (t11 : Int) (t12 : Int) (h : Heap) (Q : Value → Heap → Prop) : Prop :=
 TW Tryz.prog 93 62 [.code (cAt (bodyOf Tryz.f93) [1, 0, 1, 0, 0]), .inLoop (cAt (bodyOf Tryz.f93) [1, 0, 1, 0, 0]), .inBlock 0, .code (cAt (bodyOf Tryz.f93) [1, 1])] ⟨[(0, .v (.pointer d)), (4, .v (.map worn)), (10, .v (.slice t10 t10_n t10_c)), (11, .v (.int .i64 t11)), (12, .v (.int .i64 t12))], []⟩ h Q
def pm_Device_last.J7 (d : Option Addr) (worn : Option Nat) (w : Int) (line_7 : Int) (t10 : Option Addr) (t10_n : Nat) (t10_c : Nat) (t11 : Int) (t12 : Int) (h : Heap) (Q : Value → Heap → Prop) : Prop :=
 TW Tryz.prog 93 62 [.code (cAt (bodyOf Tryz.f93) [1, 0, 1, 0, 0, 1, 1, 0, 0, 1, 1, 1, 0]), .code (cAt (bodyOf Tryz.f93) [1, 0, 1, 0, 0, 1, 1, 0, 0, 1, 1, 1, 1]), .inBlock 1, .code (cAt (bodyOf Tryz.f93) [1, 0, 1, 0, 0, 1, 1, 1]), .inLoop (cAt (bodyOf Tryz.f93) [1, 0, 1, 0, 0]), .inBlock 0, .code (cAt (bodyOf Tryz.f93) [1, 1])] ⟨[(0, .v (.pointer d)), (4, .v (.map worn)), (6, .v (.int .i64 w)), (7, .v (.int .i64 line_7)), (10, .v (.slice t10 t10_n t10_c)), (11, .v (.int .i64 t11)), (12, .v (.int .i64 t12))], []⟩ h Q
def pm_Device_last.L11 (d : Option Addr) (t48 : Nat) (h : Heap) (Q : Value → Heap → Prop) : Prop :=
 TW Tryz.prog 93 62 [.code (cAt (bodyOf Tryz.f93) [1, 1, 1, 0, 0]), .inLoop (cAt (bodyOf Tryz.f93) [1, 1, 1, 0, 0]), .inBlock 2] ⟨[(0, .v (.pointer d)), (48, .v (.pointer (some ⟨t48, 0, none⟩)))], []⟩ h Q
def pm_Device_last.wp (d : Option Addr) (words : Option Addr) (words_n : Nat) (words_c : Nat) (h : Heap) (Q : Value → Heap → Prop) : Prop :=
 ∀ (b : Nat), h b = none → pm_Device_last.L2 d (some b) words words_n words_c (↑words_n : Int) 0 (upd h b (Obj.map #[] 0)) Q
def pm_Device_last.L2.wp (d : Option Addr) (worn : Option Nat) (t10 : Option Addr) (t10_n : Nat) (t10_c : Nat) (t11 : Int) (t12 : Int) (h : Heap) (Q : Value → Heap → Prop) : Prop :=
 xsIf (decide (t12 < t11))
 ((0 ≤ t12 ∧ t12 < (↑t10_n : Int)) ∧
 atBase t10 fun (b o : Nat) =>
 ∃ (x : Int),
 h.cell b (o + t12.toNat * 1) = some (.int .i64 x) ∧
 atBase d fun (b o : Nat) =>
 ∃ (x_1 : Option Addr),
 ∃ (n : Nat),
 ∃ (m : Nat),
 h.cell b (o + 3) = some (.slice x_1 n m) ∧
 (0 ≤ iquo .i64 x 8 ∧ iquo .i64 x 8 < (↑n : Int)) ∧
 atBase x_1 fun (b o : Nat) =>
 ∃ (x_2 : Bool),
 h.cell b (o + (iquo .i64 x 8).toNat * 1) = some (.bool x_2) ∧
 xsIf (!x_2)
 (atBase d fun (b o : Nat) =>
 atBase d fun (b_1 o_1 : Nat) =>
 ∃ (x_3 : Option Nat),
 h.cell b_1 (o_1 + 1) = some (Value.map x_3) ∧
 (∃ (x_4 : Option Addr),
 ∃ (n : Nat),
 ∃ (m : Nat),
 h.cell b (o + 0) = some (.slice x_4 n m) ∧
 atMap x_3 fun (r : Nat) =>
 ∃ (l : List (Int × Value × Nat)),
 ∃ (c : Nat),
 h r = some (mapO (.int .i64) l c) ∧
 (∀ (j : Nat) (v : Value) (b : Nat),
 mnth l j = some (x, v, b) →
 ∃ (x_5 : Int),
 ∃ (x_6 : Bool),
 v = .agg #[.int .u64 x_5, .bool x_6] ∧
 (0 ≤ x ∧ x < (↑n : Int)) ∧
 atBase x_4 fun (b o : Nat) =>
 h.can b (o + x.toNat * 1) 1 ∧ pm_Device_last.J7 d worn x (iquo .i64 x 8) t10 t10_n t10_c t11 t12 (h.put b (o + x.toNat * 1) [.int .u64 x_5]) Q) ∧
 ((∀ (j : Nat) (v : Value) (b : Nat), ¬mnth l j = some (x, v, b)) →
 (0 ≤ x ∧ x < (↑n : Int)) ∧
 atBase x_4 fun (b o : Nat) =>
 h.can b (o + x.toNat * 1) 1 ∧ pm_Device_last.J7 d worn x (iquo .i64 x 8) t10 t10_n t10_c t11 t12 (h.put b (o + x.toNat * 1) [.int .u64 0]) Q)) ∧
 atMap x_3 fun (r : Nat) =>
 ∃ (l : List (Int × Value × Nat)),
 ∃ (c : Nat),
 h r = some (mapO (.int .i64) l c) ∧
 (∀ (j : Nat) (v : Value) (b_2 : Nat),
 mnth l j = some (x, v, b_2) →
 ∃ (x_4 : Int),
 ∃ (x_5 : Bool),
 v = .agg #[.int .u64 x_4, .bool x_5] ∧
 ∃ (x_6 : Option Addr),
 ∃ (n : Nat),
 ∃ (m : Nat),
 h.cell b (o + 0) = some (.slice x_6 n m) ∧
 (0 ≤ x ∧ x < (↑n : Int)) ∧
 atBase x_6 fun (b o : Nat) =>
 h.can b (o + x.toNat * 1) 1 ∧ pm_Device_last.J7 d worn x (iquo .i64 x 8) t10 t10_n t10_c t11 t12 (h.put b (o + x.toNat * 1) [.int .u64 x_4]) Q) ∧
 ((∀ (j : Nat) (v : Value) (b : Nat), ¬mnth l j = some (x, v, b)) →
 ∃ (x_4 : Option Addr),
 ∃ (n : Nat),
 ∃ (m : Nat),
 h.cell b (o + 0) = some (.slice x_4 n m) ∧
 (0 ≤ x ∧ x < (↑n : Int)) ∧
 atBase x_4 fun (b o : Nat) =>
 h.can b (o + x.toNat * 1) 1 ∧ pm_Device_last.J7 d worn x (iquo .i64 x 8) t10 t10_n t10_c t11 t12 (h.put b (o + x.toNat * 1) [.int .u64 0]) Q))
 (pm_Device_last.J7 d worn x (iquo .i64 x 8) t10 t10_n t10_c t11 t12 h Q))
 (atMap worn fun (r : Nat) => ∃ (l : List (Int × Value × Nat)), ∃ (c : Nat), h r = some (mapO (.int .i64) l c) ∧ ∀ (b : Nat), h b = none → pm_Device_last.L11 d b (upd h b (iterO r c [] c)) Q)
def pm_Device_last.J7.wp (d : Option Addr) (worn : Option Nat) (w : Int) (line_7 : Int) (t10 : Option Addr) (t10_n : Nat) (t10_c : Nat) (t11 : Int) (t12 : Int) (h : Heap) (Q : Value → Heap → Prop) : Prop :=
 atBase d fun (b o : Nat) =>
 ∃ (x : Option Nat),
 h.cell b (o + 1) = some (Value.map x) ∧
 atMap x fun (r : Nat) =>
 ∃ (l : List (Int × Value × Nat)),
 ∃ (c : Nat),
 h r = some (mapO (.int .i64) l c) ∧
 (∀ (j : Nat) (v : Value) (b : Nat),
 mnth l j = some (w, v, b) →
 atMap worn fun (r_1 : Nat) =>
 ∃ (l_1 : List (Int × Value × Nat)),
 ∃ (c_1 : Nat),
 upd h r (mapO (.int .i64) (mdel l j) c) r_1 = some (mapO (.int .i64) l_1 c_1) ∧
 (∀ (j_1 : Nat) (v : Value) (b : Nat),
 mnth l_1 j_1 = some (line_7, v, b) →
 pm_Device_last.L2 d worn t10 t10_n t10_c t11 (IntKind.i64.wrap (t12 + 1))
 (upd (upd h r (mapO (.int .i64) (mdel l j) c)) r_1 (mapO (.int .i64) (mset l_1 j_1 (line_7, .bool true, b)) c_1)) Q) ∧
 ((∀ (j : Nat) (v : Value) (b : Nat), ¬mnth l_1 j = some (line_7, v, b)) →
 pm_Device_last.L2 d worn t10 t10_n t10_c t11 (IntKind.i64.wrap (t12 + 1))
 (upd (upd h r (mapO (.int .i64) (mdel l j) c)) r_1 (mapO (.int .i64) (madd l_1 (line_7, .bool true, c_1)) (c_1 + 1))) Q)) ∧
 ((∀ (j : Nat) (v : Value) (b : Nat), ¬mnth l j = some (w, v, b)) →
 atMap worn fun (r_1 : Nat) =>
 ∃ (l_1 : List (Int × Value × Nat)),
 ∃ (c_1 : Nat),
 upd h r (mapO (.int .i64) l c) r_1 = some (mapO (.int .i64) l_1 c_1) ∧
 (∀ (j : Nat) (v : Value) (b : Nat),
 mnth l_1 j = some (line_7, v, b) →
 pm_Device_last.L2 d worn t10 t10_n t10_c t11 (IntKind.i64.wrap (t12 + 1)) (upd (upd h r (mapO (.int .i64) l c)) r_1 (mapO (.int .i64) (mset l_1 j (line_7, .bool true, b)) c_1))
 Q) ∧
 ((∀ (j : Nat) (v : Value) (b : Nat), ¬mnth l_1 j = some (line_7, v, b)) →
 pm_Device_last.L2 d worn t10 t10_n t10_c t11 (IntKind.i64.wrap (t12 + 1))
 (upd (upd h r (mapO (.int .i64) l c)) r_1 (mapO (.int .i64) (madd l_1 (line_7, .bool true, c_1)) (c_1 + 1))) Q))
def pm_Device_last.L11.wp (d : Option Addr) (t48 : Nat) (h : Heap) (Q : Value → Heap → Prop) : Prop :=
 atBase (some { block := t48, off := 0 }) fun (b o : Nat) =>
 o = 0 ∧
 ∃ (r : Nat),
 ∃ (since : Nat),
 ∃ (c0 : Nat),
 ∃ (seen : List Nat),
 h b = some (iterO r since seen c0) ∧
 ∃ (l : List (Int × Value × Nat)),
 ∃ (c : Nat),
 h r = some (mapO (.int .i64) l c) ∧
 (∀ (j : Nat) (n : Int) (v : Value) (b' : Nat), mnth l j = some (n, v, b') → b' < since) ∧
 since ≤ c0 ∧
 (∀ (j : Nat) (n : Int) (v : Value) (b' : Nat),
 mnth l j = some (n, v, b') →
 List.elem b' seen = false →
 ∃ (x : Bool),
 v = .bool x ∧
 atBase (some { block := t48, off := 0 }) fun (b_1 o : Nat) =>
 o = 0 ∧
 ∃ (r_1 : Nat),
 ∃ (since_1 : Nat),
 ∃ (c_1 : Nat),
 ∃ (seen_1 : List Nat),
 ∃ (l : List (Int × Value × Nat)),
 ∃ (j : Nat),
 ∃ (n : Int),
 ∃ (v : Value),
 ∃ (b'_1 : Nat),
 upd h b (iterO r since (snoc seen b') c) b_1 = some (iterO r_1 since_1 (snoc seen_1 b'_1) c_1) ∧
 upd h b (iterO r since (snoc seen b') c) r_1 = some (mapO (.int .i64) l c_1) ∧
 mnth l j = some (n, v, b'_1) ∧
 (∀ (i : Nat) (n2 : Int) (v2 : Value), mnth l i = some (n2, v2, b'_1) → i = j) ∧
 ∃ (x : Bool),
 v = .bool x ∧
 atBase d fun (b_2 o : Nat) =>
 ∃ (x : Option Addr),
 ∃ (n_1 : Nat),
 ∃ (m : Nat),
 (upd h b (iterO r since (snoc seen b') c)).cell b_2 (o + 2) = some (.slice x n_1 m) ∧
 (0 ≤ n ∧ n < (↑n_1 : Int)) ∧
 atBase x fun (b_3 o : Nat) =>
 ∃ (x_1 : Int),
 (upd h b (iterO r since (snoc seen b') c)).cell b_3 (o + n.toNat * 1) = some (.int .i64 x_1) ∧
 (0 ≤ n ∧ n < (↑n_1 : Int)) ∧
 atBase x fun (b_4 o : Nat) =>
 (upd h b (iterO r since (snoc seen b') c)).can b_4 (o + n.toNat * 1) 1 ∧
 pm_Device_last.L11 d t48
 ((upd h b (iterO r since (snoc seen b') c)).put b_4 (o + n.toNat * 1) [.int .i64 (IntKind.i64.wrap (x_1 + 1))]) Q) ∧
 ((∀ (j : Nat) (n : Int) (v : Value) (b' : Nat), mnth l j = some (n, v, b') → List.elem b' seen = true) → Q (.tuple #[]) h)
theorem pm_Device_last.ok {d : Option Addr} {words : Option Addr} {words_n : Nat} {words_c : Nat} {h : Heap} {Q : Value → Heap → Prop} (hk : pm_Device_last.wp d words words_n words_c h Q) : C Tryz.prog 93 #[.pointer d, .slice words words_n words_c] h Q :=
 C_of_xs (H := pm_Device_last.H) (lcuts := pm_Device_last.lc) (rcuts := pm_Device_last.rc) (l := [.pointer d, .slice words words_n words_c]) 2000 mixed Tryz.func93 rfl (by kernel_rfl) (@cast (pm_Device_last.wp d words words_n words_c h Q) _ (by kernel_rfl) hk)
theorem pm_Device_last.L2.ok {d : Option Addr} {worn : Option Nat} {t10 : Option Addr} {t10_n : Nat} {t10_c : Nat} {t11 : Int} {t12 : Int} {h : Heap} {Q : Value → Heap → Prop} (hk : pm_Device_last.L2.wp d worn t10 t10_n t10_c t11 t12 h Q) : pm_Device_last.L2 d worn t10 t10_n t10_c t11 t12 h Q :=
 xs_ok (H := pm_Device_last.H) (lcuts := pm_Device_last.lc) (rcuts := pm_Device_last.rc) (fn := Tryz.f93) mixed Tryz.func93 2000 _ _ _ (@cast (pm_Device_last.L2.wp d worn t10 t10_n t10_c t11 t12 h Q) _ (by kernel_rfl) hk)
theorem pm_Device_last.J7.ok {d : Option Addr} {worn : Option Nat} {w : Int} {line_7 : Int} {t10 : Option Addr} {t10_n : Nat} {t10_c : Nat} {t11 : Int} {t12 : Int} {h : Heap} {Q : Value → Heap → Prop} (hk : pm_Device_last.J7.wp d worn w line_7 t10 t10_n t10_c t11 t12 h Q) : pm_Device_last.J7 d worn w line_7 t10 t10_n t10_c t11 t12 h Q :=
 xs_ok (H := pm_Device_last.H) (lcuts := pm_Device_last.lc) (rcuts := []) (fn := Tryz.f93) mixed Tryz.func93 2000 _ _ _ (@cast (pm_Device_last.J7.wp d worn w line_7 t10 t10_n t10_c t11 t12 h Q) _ (by kernel_rfl) hk)
theorem pm_Device_last.L11.ok {d : Option Addr} {t48 : Nat} {h : Heap} {Q : Value → Heap → Prop} (hk : pm_Device_last.L11.wp d t48 h Q) : pm_Device_last.L11 d t48 h Q :=
 xs_ok (H := pm_Device_last.H) (lcuts := pm_Device_last.lc) (rcuts := pm_Device_last.rc) (fn := Tryz.f93) mixed Tryz.func93 2000 _ _ _ (@cast (pm_Device_last.L11.wp d t48 h Q) _ (by kernel_rfl) hk)

/-! (*gabion/pm.Device).Fence$1 -/
def pm_Device_Fence_1.H : Hn := ⟨[], [], [⟨0, .q 3 (.ld 1 52 (.br 0 (.q 2 (.q 4 (.q 5 (.nil)))) (.one 2 (.br 0 (.q 4 (.q 5 (.nil))) (.one 4 (.q 0 (.q 5 (.nil)))))))), []⟩], []⟩
def pm_Device_Fence_1.lc : List Cut := []
def pm_Device_Fence_1.rc : List Cut := []
def pm_Device_Fence_1.wp (t0 : Nat) (h : Heap) (Q : Value → Heap → Prop) : Prop :=
 ∃ (x : Option Addr),
 h.cell t0 0 = some (.pointer x) ∧
 (∃ (x_1 : Option Addr),
 h.cell t0 0 = some (.pointer x_1) ∧
 C Tryz.prog 92 #[.pointer x] h fun (r : Value) (h' : Heap) =>
 ∃ (x : Option Addr),
 ∃ (n : Nat),
 ∃ (m : Nat),
 r = .slice x n m ∧
 C Tryz.prog 110 #[.slice x n m, .func (Fn.func 111) #[] #[.pointer (some { block := t0, off := 0 })]] h' fun (r : Value) (h' : Heap) =>
 ∃ (x : Option Addr), ∃ (n : Nat), ∃ (m : Nat), r = .slice x n m ∧ C Tryz.prog 93 #[.pointer x_1, .slice x n m] h' fun (r : Value) (h' : Heap) => Q (.tuple #[]) h') ∧
 C Tryz.prog 92 #[.pointer x] h fun (r : Value) (h' : Heap) =>
 ∃ (x : Option Addr),
 ∃ (n : Nat),
 ∃ (m : Nat),
 r = .slice x n m ∧
 (∃ (x_1 : Option Addr),
 h'.cell t0 0 = some (.pointer x_1) ∧
 C Tryz.prog 110 #[.slice x n m, .func (Fn.func 111) #[] #[.pointer (some { block := t0, off := 0 })]] h' fun (r : Value) (h' : Heap) =>
 ∃ (x : Option Addr), ∃ (n : Nat), ∃ (m : Nat), r = .slice x n m ∧ C Tryz.prog 93 #[.pointer x_1, .slice x n m] h' fun (r : Value) (h' : Heap) => Q (.tuple #[]) h') ∧
 C Tryz.prog 110 #[.slice x n m, .func (Fn.func 111) #[] #[.pointer (some { block := t0, off := 0 })]] h' fun (r : Value) (h' : Heap) =>
 ∃ (x : Option Addr),
 ∃ (n : Nat),
 ∃ (m : Nat),
 r = .slice x n m ∧
 ∃ (x_1 : Option Addr), h'.cell t0 0 = some (.pointer x_1) ∧ C Tryz.prog 93 #[.pointer x_1, .slice x n m] h' fun (r : Value) (h' : Heap) => Q (.tuple #[]) h'
theorem pm_Device_Fence_1.ok {t0 : Nat} {h : Heap} {Q : Value → Heap → Prop} (hk : pm_Device_Fence_1.wp t0 h Q) : C Tryz.prog 109 #[.pointer (some ⟨t0, 0, none⟩)] h Q :=
 C_of_xs (H := pm_Device_Fence_1.H) (lcuts := pm_Device_Fence_1.lc) (rcuts := pm_Device_Fence_1.rc) (l := [.pointer (some ⟨t0, 0, none⟩)]) 2000 mixed Tryz.func109 rfl (by kernel_rfl) (@cast (pm_Device_Fence_1.wp t0 h Q) _ (by kernel_rfl) hk)

/-! (*gabion/pm.Device).Fence -/
def pm_Device_Fence.H : Hn := ⟨[1], [], [], []⟩
def pm_Device_Fence.lc : List Cut := []
def pm_Device_Fence.rc : List Cut := []
def pm_Device_Fence.wp (d : Option Addr) (h : Heap) (Q : Value → Heap → Prop) : Prop :=
 ∀ (b : Nat),
 h b = none →
 ∃ (x : Option Addr),
 (upd h b (Obj.cells #[.pointer d] 32 (0, 0))).cell b 0 = some (.pointer x) ∧
 C Tryz.prog 108 #[.pointer x, .int .i64 0, .int .i64 1, .func (Fn.func 109) #[] #[.pointer (some { block := b, off := 0 })]]
 (upd h b (Obj.cells #[.pointer d] 32 (0, 0))) fun (r : Value) (h' : Heap) => ∃ (x : Int), r = .int .i64 x ∧ Q (.int .i64 x) h'
theorem pm_Device_Fence.ok {d : Option Addr} {h : Heap} {Q : Value → Heap → Prop} (hk : pm_Device_Fence.wp d h Q) : C Tryz.prog 45 #[.pointer d] h Q :=
 C_of_xs (H := pm_Device_Fence.H) (lcuts := pm_Device_Fence.lc) (rcuts := pm_Device_Fence.rc) (l := [.pointer d]) 2000 mixed Tryz.func45 rfl (by kernel_rfl) (@cast (pm_Device_Fence.wp d h Q) _ (by kernel_rfl) hk)

/-! gabion/line.last -/
def line_last.H : Hn := ⟨[], [], [], []⟩
def line_last.lc : List Cut := []
def line_last.rc : List Cut := []
def line_last.wp (d : Option Addr) (at0 : Int) (h : Heap) (Q : Value → Heap → Prop) : Prop :=
 C Tryz.prog 198 #[.pointer d, .int .i64 at0] h fun (r : Value) (h' : Heap) =>
 ∃ (x : Int),
 r = .int .i64 x ∧
 xsIf (decide (x ≠ 0)) (Q (.int .i64 x) h') (C Tryz.prog 45 #[.pointer d] h' fun (r : Value) (h' : Heap) => ∃ (x : Int), r = .int .i64 x ∧ Q (.int .i64 x) h')
theorem line_last.ok {d : Option Addr} {at0 : Int} {h : Heap} {Q : Value → Heap → Prop} (hk : line_last.wp d at0 h Q) : C Tryz.prog 136 #[.pointer d, .int .i64 at0] h Q :=
 C_of_xs (H := line_last.H) (lcuts := line_last.lc) (rcuts := line_last.rc) (l := [.pointer d, .int .i64 at0]) 2000 mixed Tryz.func136 rfl (by kernel_rfl) (@cast (line_last.wp d at0 h Q) _ (by kernel_rfl) hk)

/-! gabion/line.Put -/
def line_Put.H : Hn := ⟨[], [], [], []⟩
def line_Put.lc : List Cut := [⟨10, [0, 1, 33, 34], []⟩]
def line_Put.rc : List Cut := []
def line_Put.L10 (d : Option Addr) (at0 : Int) (t33_0 : Int) (t33_1 : Int) (t33_2 : Int) (t33_3 : Int) (t33_4 : Int) (t33_5 : Int) (t33_6 : Int) (t33_7 : Int) (t34 : Int) (h : Heap) (Q : Value → Heap → Prop) : Prop :=
 TW Tryz.prog 75 52 [.code (cAt (bodyOf Tryz.f75) [1, 1, 1, 0, 1, 0, 0]), .inLoop (cAt (bodyOf Tryz.f75) [1, 1, 1, 0, 1, 0, 0]), .inBlock 1, .code (cAt (bodyOf Tryz.f75) [1, 1, 1, 1])] ⟨[(0, .v (.pointer d)), (1, .v (.int .i64 at0)), (33, .v (.agg #[.int .u64 t33_0, .int .u64 t33_1, .int .u64 t33_2, .int .u64 t33_3, .int .u64 t33_4, .int .u64 t33_5, .int .u64 t33_6, .int .u64 t33_7])), (34, .v (.int .i64 t34))], []⟩ h Q
def line_Put.wp (d : Option Addr) (at0 : Int) (s : ByteArray) (h : Heap) (Q : Value → Heap → Prop) : Prop :=
 C Tryz.prog 94 #[.string s] h fun (r : Value) (h' : Heap) =>
 ∃ (x : Int),
 ∃ (x_1 : Int),
 ∃ (x_2 : Int),
 ∃ (x_3 : Int),
 ∃ (x_4 : Int),
 ∃ (x_5 : Int),
 ∃ (x_6 : Int),
 ∃ (x_7 : Int),
 ∃ (x_8 : Int),
 r =
 .tuple
 #[.agg
 #[.int .u64 x, .int .u64 x_1, .int .u64 x_2, .int .u64 x_3, .int .u64 x_4, .int .u64 x_5, .int .u64 x_6,
 .int .u64 x_7],
 .int .i64 x_8] ∧
 C Tryz.prog 134 #[.pointer d, .int .i64 at0] h' fun (r : Value) (h' : Heap) =>
 ∃ (x_9 : Int),
 r = .int .i64 x_9 ∧
 xsIf (decide (x_9 = 1)) (Q (.int .i64 x_9) h')
 (xsIf (decide (x_8 ≠ 0)) (Q (.int .i64 x_8) h') (xsIf (decide (x_9 ≠ 0)) (Q (.int .i64 x_9) h') (line_Put.L10 d at0 x x_1 x_2 x_3 x_4 x_5 x_6 x_7 0 h' Q)))
def line_Put.L10.wp (d : Option Addr) (at0 : Int) (t33_0 : Int) (t33_1 : Int) (t33_2 : Int) (t33_3 : Int) (t33_4 : Int) (t33_5 : Int) (t33_6 : Int) (t33_7 : Int) (t34 : Int) (h : Heap) (Q : Value → Heap → Prop) : Prop :=
 xsIf (decide (t34 < 8))
 ((0 ≤ t34 ∧ t34 < (↑8 : Int)) ∧
 ∃ (x : Int),
 lget
 [.int .u64 t33_0, .int .u64 t33_1, .int .u64 t33_2, .int .u64 t33_3, .int .u64 t33_4, .int .u64 t33_5, .int .u64 t33_6,
 .int .u64 t33_7]
 (t34.toNat * 1) =
 some (.int .u64 x) ∧
 C Tryz.prog 135 #[.pointer d, .int .i64 (IntKind.i64.wrap (IntKind.i64.wrap (at0 * 8) + t34)), .int .u64 x] h fun (r : Value) (h' : Heap) =>
 ∃ (x : Int), r = .int .i64 x ∧ xsIf (decide (x ≠ 0)) (Q (.int .i64 x) h') (line_Put.L10 d at0 t33_0 t33_1 t33_2 t33_3 t33_4 t33_5 t33_6 t33_7 (IntKind.i64.wrap (t34 + 1)) h' Q))
 (C Tryz.prog 136 #[.pointer d, .int .i64 at0] h fun (r : Value) (h' : Heap) => ∃ (x : Int), r = .int .i64 x ∧ Q (.int .i64 x) h')
theorem line_Put.ok {d : Option Addr} {at0 : Int} {s : ByteArray} {h : Heap} {Q : Value → Heap → Prop} (hk : line_Put.wp d at0 s h Q) : C Tryz.prog 75 #[.pointer d, .int .i64 at0, .string s] h Q :=
 C_of_xs (H := line_Put.H) (lcuts := line_Put.lc) (rcuts := line_Put.rc) (l := [.pointer d, .int .i64 at0, .string s]) 2000 mixed Tryz.func75 rfl (by kernel_rfl) (@cast (line_Put.wp d at0 s h Q) _ (by kernel_rfl) hk)
theorem line_Put.L10.ok {d : Option Addr} {at0 : Int} {t33_0 : Int} {t33_1 : Int} {t33_2 : Int} {t33_3 : Int} {t33_4 : Int} {t33_5 : Int} {t33_6 : Int} {t33_7 : Int} {t34 : Int} {h : Heap} {Q : Value → Heap → Prop} (hk : line_Put.L10.wp d at0 t33_0 t33_1 t33_2 t33_3 t33_4 t33_5 t33_6 t33_7 t34 h Q) : line_Put.L10 d at0 t33_0 t33_1 t33_2 t33_3 t33_4 t33_5 t33_6 t33_7 t34 h Q :=
 xs_ok (H := line_Put.H) (lcuts := line_Put.lc) (rcuts := line_Put.rc) (fn := Tryz.f75) mixed Tryz.func75 2000 _ _ _ (@cast (line_Put.L10.wp d at0 t33_0 t33_1 t33_2 t33_3 t33_4 t33_5 t33_6 t33_7 t34 h Q) _ (by kernel_rfl) hk)

/-! gabion/ring.check -/
def ring_check.H : Hn := ⟨[], [], [⟨3, .q 0 (.q 1 (.q 2 (.q 3 (.q 4 (.nil))))), []⟩], []⟩
def ring_check.lc : List Cut := []
def ring_check.rc : List Cut := []
def ring_check.wp (d : Option Addr) (p_0 : Int) (p_1 : Int) (p_2 : Int) (p_3 : Int) (h : Heap) (Q : Value → Heap → Prop) : Prop :=
 xsIf d.isNone (Q (.int .i64 1) h)
 (C Tryz.prog 74 #[.pointer d] h fun (r : Value) (h' : Heap) =>
 ∃ (x : Int),
 r = .int .i64 x ∧
 C Tryz.prog 130 #[.agg #[.int .i64 p_0, .int .i64 p_1, .int .i64 p_2, .int .i64 p_3], .int .i64 x] h' fun (r : Value) (h' : Heap) =>
 ∃ (x : Int), r = .int .i64 x ∧ Q (.int .i64 x) h')
theorem ring_check.ok {d : Option Addr} {p_0 : Int} {p_1 : Int} {p_2 : Int} {p_3 : Int} {h : Heap} {Q : Value → Heap → Prop} (hk : ring_check.wp d p_0 p_1 p_2 p_3 h Q) : C Tryz.prog 143 #[.pointer d, .agg #[.int .i64 p_0, .int .i64 p_1, .int .i64 p_2, .int .i64 p_3]] h Q :=
 C_of_xs (H := ring_check.H) (lcuts := ring_check.lc) (rcuts := ring_check.rc) (l := [.pointer d, .agg #[.int .i64 p_0, .int .i64 p_1, .int .i64 p_2, .int .i64 p_3]]) 2000 mixed Tryz.func143 rfl (by kernel_rfl) (@cast (ring_check.wp d p_0 p_1 p_2 p_3 h Q) _ (by kernel_rfl) hk)

/-! gabion/spare.check -/
def spare_check.H : Hn := ⟨[], [], [⟨3, .q 0 (.q 1 (.q 2 (.q 3 (.q 4 (.nil))))), []⟩], []⟩
def spare_check.lc : List Cut := []
def spare_check.rc : List Cut := []
def spare_check.wp (d : Option Addr) (p_0 : Int) (p_1 : Int) (p_2 : Int) (h : Heap) (Q : Value → Heap → Prop) : Prop :=
 xsIf d.isNone (Q (.int .i64 1) h)
 (C Tryz.prog 74 #[.pointer d] h fun (r : Value) (h' : Heap) =>
 ∃ (x : Int),
 r = .int .i64 x ∧
 C Tryz.prog 195 #[.agg #[.int .i64 p_0, .int .i64 p_1, .int .i64 p_2], .int .i64 x] h' fun (r : Value) (h' : Heap) =>
 ∃ (x : Int), r = .int .i64 x ∧ Q (.int .i64 x) h')
theorem spare_check.ok {d : Option Addr} {p_0 : Int} {p_1 : Int} {p_2 : Int} {h : Heap} {Q : Value → Heap → Prop} (hk : spare_check.wp d p_0 p_1 p_2 h Q) : C Tryz.prog 204 #[.pointer d, .agg #[.int .i64 p_0, .int .i64 p_1, .int .i64 p_2]] h Q :=
 C_of_xs (H := spare_check.H) (lcuts := spare_check.lc) (rcuts := spare_check.rc) (l := [.pointer d, .agg #[.int .i64 p_0, .int .i64 p_1, .int .i64 p_2]]) 2000 mixed Tryz.func204 rfl (by kernel_rfl) (@cast (spare_check.wp d p_0 p_1 p_2 h Q) _ (by kernel_rfl) hk)

/-! gabion/spare.Format -/
def spare_Format.H : Hn := ⟨[], [], [⟨4, .q 0 (.q 2 (.q 3 (.q 5 (.q 1 (.q 4 (.nil)))))), []⟩, ⟨7, .q 0 (.q 1 (.q 2 (.q 3 (.q 4 (.q 5 (.q 6 (.q 7 (.nil)))))))), []⟩], []⟩
def spare_Format.lc : List Cut := [⟨5, [0, 3, 18, 19], [3]⟩]
def spare_Format.rc : List Cut := []
def spare_Format.L5 (d : Option Addr) (t18 : Int) (t19 : Int) (p_3_0 : Int) (p_3_1 : Int) (p_3_2 : Int) (h : Heap) (Q : Value → Heap → Prop) : Prop :=
 TW Tryz.prog 144 33 [.code (cAt (bodyOf Tryz.f144) [1, 1, 0, 1, 0, 0]), .inLoop (cAt (bodyOf Tryz.f144) [1, 1, 0, 1, 0, 0]), .inBlock 0, .code (cAt (bodyOf Tryz.f144) [1, 1, 1])] ⟨[(0, .v (.pointer d)), (3, .p 3 0), (18, .v (.int .i64 t18)), (19, .v (.int .i64 t19))], [(3, [.int .i64 p_3_0, .int .i64 p_3_1, .int .i64 p_3_2])]⟩ h Q
def spare_Format.wp (d : Option Addr) (p_0 : Int) (p_1 : Int) (p_2 : Int) (h : Heap) (Q : Value → Heap → Prop) : Prop :=
 C Tryz.prog 204 #[.pointer d, .agg #[.int .i64 p_0, .int .i64 p_1, .int .i64 p_2]] h fun (r : Value) (h' : Heap) =>
 ∃ (x : Int),
 r = .int .i64 x ∧
 xsIf (decide (x ≠ 0)) (Q (.int .i64 x) h')
 (C Tryz.prog 133 #[.agg #[.int .i64 p_0, .int .i64 p_1, .int .i64 p_2]] h' fun (r : Value) (h' : Heap) =>
 ∃ (x : Int), r = .int .i64 x ∧ spare_Format.L5 d (IntKind.i64.wrap (x + p_1)) 0 p_0 p_1 p_2 h' Q)
def spare_Format.L5.wp (d : Option Addr) (t18 : Int) (t19 : Int) (p_3_0 : Int) (p_3_1 : Int) (p_3_2 : Int) (h : Heap) (Q : Value → Heap → Prop) : Prop :=
 xsIf (decide (t19 < t18))
 (C Tryz.prog 76 #[.string { data := #[UInt8.ofNat 0] }, .int .i64 64] h fun (r : Value) (h' : Heap) =>
 ∃ (x : ByteArray),
 r = .string x ∧
 C Tryz.prog 75 #[.pointer d, .int .i64 (IntKind.i64.wrap (p_3_0 + t19)), .string x] h' fun (r : Value) (h' : Heap) =>
 ∃ (x : Int), r = .int .i64 x ∧ xsIf (decide (x ≠ 0)) (Q (.int .i64 x) h') (spare_Format.L5 d t18 (IntKind.i64.wrap (t19 + 1)) p_3_0 p_3_1 p_3_2 h' Q))
 (Q (.int .i64 0) h)
theorem spare_Format.ok {d : Option Addr} {p_0 : Int} {p_1 : Int} {p_2 : Int} {h : Heap} {Q : Value → Heap → Prop} (hk : spare_Format.wp d p_0 p_1 p_2 h Q) : C Tryz.prog 144 #[.pointer d, .agg #[.int .i64 p_0, .int .i64 p_1, .int .i64 p_2]] h Q :=
 C_of_xs (H := spare_Format.H) (lcuts := spare_Format.lc) (rcuts := spare_Format.rc) (l := [.pointer d, .agg #[.int .i64 p_0, .int .i64 p_1, .int .i64 p_2]]) 2000 mixed Tryz.func144 rfl (by kernel_rfl) (@cast (spare_Format.wp d p_0 p_1 p_2 h Q) _ (by kernel_rfl) hk)
theorem spare_Format.L5.ok {d : Option Addr} {t18 : Int} {t19 : Int} {p_3_0 : Int} {p_3_1 : Int} {p_3_2 : Int} {h : Heap} {Q : Value → Heap → Prop} (hk : spare_Format.L5.wp d t18 t19 p_3_0 p_3_1 p_3_2 h Q) : spare_Format.L5 d t18 t19 p_3_0 p_3_1 p_3_2 h Q :=
 xs_ok (H := spare_Format.H) (lcuts := spare_Format.lc) (rcuts := spare_Format.rc) (fn := Tryz.f144) mixed Tryz.func144 2000 _ _ _ (@cast (spare_Format.L5.wp d t18 t19 p_3_0 p_3_1 p_3_2 h Q) _ (by kernel_rfl) hk)

/-! (*gabion/pm.Device).Load -/
def pm_Device_Load.H : Hn := ⟨[], [], [], []⟩
def pm_Device_Load.lc : List Cut := []
def pm_Device_Load.rc : List Cut := []
def pm_Device_Load.wp (d : Option Addr) (word : Int) (h : Heap) (Q : Value → Heap → Prop) : Prop :=
 C Tryz.prog 196 #[.pointer d] h fun (r : Value) (h' : Heap) =>
 ∃ (x : Int),
 r = .int .i64 x ∧
 C Tryz.prog 183 #[.pointer d, .int .i64 word, .int .i64 x] h' fun (r : Value) (h' : Heap) =>
 ∃ (x : Int),
 r = .int .i64 x ∧
 xsIf (decide (x ≠ 0)) (Q (.tuple #[.int .u64 0, .int .i64 x]) h')
 (atBase d fun (b o : Nat) =>
 ∃ (x : Option Nat),
 h'.cell b (o + 1) = some (Value.map x) ∧
 atMap x fun (r : Nat) =>
 ∃ (l : List (Int × Value × Nat)),
 ∃ (c : Nat),
 h' r = some (mapO (.int .i64) l c) ∧
 (∀ (j : Nat) (v : Value) (b : Nat),
 mnth l j = some (word, v, b) →
 ∃ (x : Int), ∃ (x_1 : Bool), v = .agg #[.int .u64 x, .bool x_1] ∧ Q (.tuple #[.int .u64 x, .int .i64 0]) h') ∧
 ((∀ (j : Nat) (v : Value) (b : Nat), ¬mnth l j = some (word, v, b)) →
 atBase d fun (b o : Nat) =>
 ∃ (x : Option Addr),
 ∃ (n : Nat),
 ∃ (m : Nat),
 h'.cell b (o + 0) = some (.slice x n m) ∧
 (0 ≤ word ∧ word < (↑n : Int)) ∧
 atBase x fun (b o : Nat) => ∃ (x : Int), h'.cell b (o + word.toNat * 1) = some (.int .u64 x) ∧ Q (.tuple #[.int .u64 x, .int .i64 0]) h'))
theorem pm_Device_Load.ok {d : Option Addr} {word : Int} {h : Heap} {Q : Value → Heap → Prop} (hk : pm_Device_Load.wp d word h Q) : C Tryz.prog 151 #[.pointer d, .int .i64 word] h Q :=
 C_of_xs (H := pm_Device_Load.H) (lcuts := pm_Device_Load.lc) (rcuts := pm_Device_Load.rc) (l := [.pointer d, .int .i64 word]) 2000 mixed Tryz.func151 rfl (by kernel_rfl) (@cast (pm_Device_Load.wp d word h Q) _ (by kernel_rfl) hk)

/-! gabion/le.mask -/
def le_mask.H : Hn := ⟨[], [], [], []⟩
def le_mask.lc : List Cut := []
def le_mask.rc : List Cut := []
def le_mask.wp (at0 : Int) (width : Int) (h : Heap) (Q : Value → Heap → Prop) : Prop :=
 xsIf (decide (at0 < 0)) (Q (.int .u64 0) h)
 (xsIf (decide (64 ≤ at0)) (Q (.int .u64 0) h)
 (xsIf (decide (width < 1)) (Q (.int .u64 0) h)
 (xsIf (decide (IntKind.i64.wrap (64 - at0) < width)) (Q (.int .u64 0) h)
 (0 ≤ IntKind.i64.wrap (64 - width) ∧ 0 ≤ at0 ∧ Q (.int .u64 (ishl .u64 (ishr .u64 18446744073709551615 (IntKind.i64.wrap (64 - width))) at0)) h))))
theorem le_mask.ok {at0 : Int} {width : Int} {h : Heap} {Q : Value → Heap → Prop} (hk : le_mask.wp at0 width h Q) : C Tryz.prog 209 #[.int .i64 at0, .int .i64 width] h Q :=
 C_of_xs (H := le_mask.H) (lcuts := le_mask.lc) (rcuts := le_mask.rc) (l := [.int .i64 at0, .int .i64 width]) 2000 mixed Tryz.func209 rfl (by kernel_rfl) (@cast (le_mask.wp at0 width h Q) _ (by kernel_rfl) hk)

/-! gabion/le.Field -/
def le_Field.H : Hn := ⟨[], [], [], []⟩
def le_Field.lc : List Cut := []
def le_Field.rc : List Cut := []
def le_Field.wp (w : Int) (at0 : Int) (width : Int) (h : Heap) (Q : Value → Heap → Prop) : Prop :=
 C Tryz.prog 209 #[.int .i64 at0, .int .i64 width] h fun (r : Value) (h' : Heap) =>
 ∃ (x : Int), r = .int .u64 x ∧ xsIf (decide (x = 0)) (Q (.int .u64 0) h') (0 ≤ at0 ∧ Q (.int .u64 (ishr .u64 (iand .u64 w x) at0)) h')
theorem le_Field.ok {w : Int} {at0 : Int} {width : Int} {h : Heap} {Q : Value → Heap → Prop} (hk : le_Field.wp w at0 width h Q) : C Tryz.prog 157 #[.int .u64 w, .int .i64 at0, .int .i64 width] h Q :=
 C_of_xs (H := le_Field.H) (lcuts := le_Field.lc) (rcuts := le_Field.rc) (l := [.int .u64 w, .int .i64 at0, .int .i64 width]) 2000 mixed Tryz.func157 rfl (by kernel_rfl) (@cast (le_Field.wp w at0 width h Q) _ (by kernel_rfl) hk)

/-! gabion/le.Put -/
def le_Put.H : Hn := ⟨[], [], [], []⟩
def le_Put.lc : List Cut := [⟨3, [0, 5, 8, 9], []⟩]
def le_Put.rc : List Cut := []
def le_Put.L3 (n : Int) (b : Option Addr) (b_n : Nat) (b_c : Nat) (t8 : Int) (t9 : Int) (h : Heap) (Q : Value → Heap → Prop) : Prop :=
 TW Tryz.prog 149 21 [.code (cAt (bodyOf Tryz.f149) [1, 1, 0, 1, 0, 0]), .inLoop (cAt (bodyOf Tryz.f149) [1, 1, 0, 1, 0, 0]), .inBlock 0, .code (cAt (bodyOf Tryz.f149) [1, 1, 1])] ⟨[(0, .v (.int .u64 n)), (5, .v (.slice b b_n b_c)), (8, .v (.int .i64 t8)), (9, .v (.int .i64 t9))], []⟩ h Q
def le_Put.wp (n : Int) (size : Int) (h : Heap) (Q : Value → Heap → Prop) : Prop :=
 le_Put.L3 n none 0 0 (imin (imax size 0) 8) 0 h Q
def le_Put.L3.wp (n : Int) (b : Option Addr) (b_n : Nat) (b_c : Nat) (t8 : Int) (t9 : Int) (h : Heap) (Q : Value → Heap → Prop) : Prop :=
 xsIf (decide (t9 < t8))
 (∀ (b_1 : Nat),
 h b_1 = none →
 xsApp Tryz.prog 5 (upd h b_1 (Obj.cells #[.int .u8 (IntKind.u8.wrap n)] 5 (0, 0))) b b_n b_c (some { block := b_1, off := 0 }) 1 fun (a' : Option Addr) (n' c' : Nat) (h' : Heap) =>
 le_Put.L3 (ishr .u64 n 8) a' n' c' t8 (IntKind.i64.wrap (t9 + 1)) h' Q)
 (xsStr h b b_n fun (s : ByteArray) => Q (.string s) h)
theorem le_Put.ok {n : Int} {size : Int} {h : Heap} {Q : Value → Heap → Prop} (hk : le_Put.wp n size h Q) : C Tryz.prog 149 #[.int .u64 n, .int .i64 size] h Q :=
 C_of_xs (H := le_Put.H) (lcuts := le_Put.lc) (rcuts := le_Put.rc) (l := [.int .u64 n, .int .i64 size]) 2000 mixed Tryz.func149 rfl (by kernel_rfl) (@cast (le_Put.wp n size h Q) _ (by kernel_rfl) hk)
theorem le_Put.L3.ok {n : Int} {b : Option Addr} {b_n : Nat} {b_c : Nat} {t8 : Int} {t9 : Int} {h : Heap} {Q : Value → Heap → Prop} (hk : le_Put.L3.wp n b b_n b_c t8 t9 h Q) : le_Put.L3 n b b_n b_c t8 t9 h Q :=
 xs_ok (H := le_Put.H) (lcuts := le_Put.lc) (rcuts := le_Put.rc) (fn := Tryz.f149) mixed Tryz.func149 2000 _ _ _ (@cast (le_Put.L3.wp n b b_n b_c t8 t9 h Q) _ (by kernel_rfl) hk)

/-! gabion/crc.Sum16 -/
def crc_Sum16.H : Hn := ⟨[], [], [], []⟩
def crc_Sum16.lc : List Cut := [⟨3, [0, 3, 7, 8], []⟩, ⟨7, [0, 3, 7, 8, 18], []⟩]
def crc_Sum16.rc : List Cut := []
def crc_Sum16.L3 (s : ByteArray) (r0 : Int) (t7 : Int) (t8 : Int) (h : Heap) (Q : Value → Heap → Prop) : Prop :=
 TW Tryz.prog 255 31 [.code (cAt (bodyOf Tryz.f255) [1, 1, 0, 1, 0, 0]), .inLoop (cAt (bodyOf Tryz.f255) [1, 1, 0, 1, 0, 0]), .inBlock 0, .code (cAt (bodyOf Tryz.f255) [1, 1, 1])] ⟨[(0, .v (.string s)), (3, .v (.int .u16 r0)), (7, .v (.int .i64 t7)), (8, .v (.int .i64 t8))], []⟩ h Q
def crc_Sum16.L7 (s : ByteArray) (r0 : Int) (t7 : Int) (t8 : Int) (t18 : Int) (h : Heap) (Q : Value → Heap → Prop) : Prop :=
 TW Tryz.prog 255 31 [.code (cAt (bodyOf Tryz.f255) [1, 1, 0, 1, 0, 0, 1, 1, 0, 0, 1, 1, 1, 0, 0]), .inLoop (cAt (bodyOf Tryz.f255) [1, 1, 0, 1, 0, 0, 1, 1, 0, 0, 1, 1, 1, 0, 0]), .inBlock 2, .inBlock 1, .code (cAt (bodyOf Tryz.f255) [1, 1, 0, 1, 0, 0, 1, 1, 1]), .inLoop (cAt (bodyOf Tryz.f255) [1, 1, 0, 1, 0, 0]), .inBlock 0, .code (cAt (bodyOf Tryz.f255) [1, 1, 1])] ⟨[(0, .v (.string s)), (3, .v (.int .u16 r0)), (7, .v (.int .i64 t7)), (8, .v (.int .i64 t8)), (18, .v (.int .i64 t18))], []⟩ h Q
def crc_Sum16.wp (s : ByteArray) (h : Heap) (Q : Value → Heap → Prop) : Prop :=
 crc_Sum16.L3 s 65535 (↑s.size : Int) 0 h Q
def crc_Sum16.L3.wp (s : ByteArray) (r0 : Int) (t7 : Int) (t8 : Int) (h : Heap) (Q : Value → Heap → Prop) : Prop :=
 xsIf (decide (t8 < t7)) (∃ (c : UInt8), 0 ≤ t8 ∧ bget s t8.toNat = some c ∧ crc_Sum16.L7 s (ixor .u16 r0 (ishl .u16 (IntKind.u16.wrap (↑c.toNat : Int)) 8)) t7 t8 0 h Q) (Q (.int .u16 r0) h)
def crc_Sum16.L7.wp (s : ByteArray) (r0 : Int) (t7 : Int) (t8 : Int) (t18 : Int) (h : Heap) (Q : Value → Heap → Prop) : Prop :=
 xsIf (decide (t18 < 8))
 (xsIf (decide (iand .u16 r0 32768 ≠ 0)) (crc_Sum16.L7 s (ixor .u16 (ishl .u16 r0 1) 4129) t7 t8 (IntKind.i64.wrap (t18 + 1)) h Q) (crc_Sum16.L7 s (ishl .u16 r0 1) t7 t8 (IntKind.i64.wrap (t18 + 1)) h Q))
 (crc_Sum16.L3 s r0 t7 (IntKind.i64.wrap (t8 + 1)) h Q)
theorem crc_Sum16.ok {s : ByteArray} {h : Heap} {Q : Value → Heap → Prop} (hk : crc_Sum16.wp s h Q) : C Tryz.prog 255 #[.string s] h Q :=
 C_of_xs (H := crc_Sum16.H) (lcuts := crc_Sum16.lc) (rcuts := crc_Sum16.rc) (l := [.string s]) 2000 mixed Tryz.func255 rfl (by kernel_rfl) (@cast (crc_Sum16.wp s h Q) _ (by kernel_rfl) hk)
theorem crc_Sum16.L3.ok {s : ByteArray} {r0 : Int} {t7 : Int} {t8 : Int} {h : Heap} {Q : Value → Heap → Prop} (hk : crc_Sum16.L3.wp s r0 t7 t8 h Q) : crc_Sum16.L3 s r0 t7 t8 h Q :=
 xs_ok (H := crc_Sum16.H) (lcuts := crc_Sum16.lc) (rcuts := crc_Sum16.rc) (fn := Tryz.f255) mixed Tryz.func255 2000 _ _ _ (@cast (crc_Sum16.L3.wp s r0 t7 t8 h Q) _ (by kernel_rfl) hk)
theorem crc_Sum16.L7.ok {s : ByteArray} {r0 : Int} {t7 : Int} {t8 : Int} {t18 : Int} {h : Heap} {Q : Value → Heap → Prop} (hk : crc_Sum16.L7.wp s r0 t7 t8 t18 h Q) : crc_Sum16.L7 s r0 t7 t8 t18 h Q :=
 xs_ok (H := crc_Sum16.H) (lcuts := crc_Sum16.lc) (rcuts := crc_Sum16.rc) (fn := Tryz.f255) mixed Tryz.func255 2000 _ _ _ (@cast (crc_Sum16.L7.wp s r0 t7 t8 t18 h Q) _ (by kernel_rfl) hk)

/-! gabion/crc.check -/
def crc_check.H : Hn := ⟨[], [], [], []⟩
def crc_check.lc : List Cut := []
def crc_check.rc : List Cut := []
def crc_check.wp (n : Int) (h : Heap) (Q : Value → Heap → Prop) : Prop :=
 C Tryz.prog 149 #[.int .u64 n, .int .i64 6] h fun (r : Value) (h' : Heap) =>
 ∃ (x : ByteArray), r = .string x ∧ C Tryz.prog 255 #[.string x] h' fun (r : Value) (h' : Heap) => ∃ (x : Int), r = .int .u16 x ∧ Q (.int .u64 (IntKind.u64.wrap (inot .u16 x))) h'
theorem crc_check.ok {n : Int} {h : Heap} {Q : Value → Heap → Prop} (hk : crc_check.wp n h Q) : C Tryz.prog 233 #[.int .u64 n] h Q :=
 C_of_xs (H := crc_check.H) (lcuts := crc_check.lc) (rcuts := crc_check.rc) (l := [.int .u64 n]) 2000 mixed Tryz.func233 rfl (by kernel_rfl) (@cast (crc_check.wp n h Q) _ (by kernel_rfl) hk)

/-! gabion/crc.Guard -/
def crc_Guard.H : Hn := ⟨[], [], [], []⟩
def crc_Guard.lc : List Cut := []
def crc_Guard.rc : List Cut := []
def crc_Guard.wp (n : Int) (h : Heap) (Q : Value → Heap → Prop) : Prop :=
 C Tryz.prog 157 #[.int .u64 n, .int .i64 0, .int .i64 48] h fun (r : Value) (h' : Heap) =>
 ∃ (x : Int),
 r = .int .u64 x ∧
 C Tryz.prog 233 #[.int .u64 x] h' fun (r : Value) (h' : Heap) => ∃ (x_1 : Int), r = .int .u64 x_1 ∧ Q (.int .u64 (ior .u64 (ishl .u64 x_1 48) x)) h'
theorem crc_Guard.ok {n : Int} {h : Heap} {Q : Value → Heap → Prop} (hk : crc_Guard.wp n h Q) : C Tryz.prog 188 #[.int .u64 n] h Q :=
 C_of_xs (H := crc_Guard.H) (lcuts := crc_Guard.lc) (rcuts := crc_Guard.rc) (l := [.int .u64 n]) 2000 mixed Tryz.func188 rfl (by kernel_rfl) (@cast (crc_Guard.wp n h Q) _ (by kernel_rfl) hk)

/-! gabion/crc.Guarded -/
def crc_Guarded.H : Hn := ⟨[], [], [], []⟩
def crc_Guarded.lc : List Cut := []
def crc_Guarded.rc : List Cut := []
def crc_Guarded.wp (w : Int) (h : Heap) (Q : Value → Heap → Prop) : Prop :=
 C Tryz.prog 157 #[.int .u64 w, .int .i64 0, .int .i64 48] h fun (r : Value) (h' : Heap) =>
 ∃ (x : Int),
 r = .int .u64 x ∧
 C Tryz.prog 188 #[.int .u64 x] h' fun (r : Value) (h' : Heap) =>
 ∃ (x_1 : Int), r = .int .u64 x_1 ∧ xsIf (decide (x_1 ≠ w)) (Q (.tuple #[.int .u64 0, .bool false]) h') (Q (.tuple #[.int .u64 x, .bool true]) h')
theorem crc_Guarded.ok {w : Int} {h : Heap} {Q : Value → Heap → Prop} (hk : crc_Guarded.wp w h Q) : C Tryz.prog 234 #[.int .u64 w] h Q :=
 C_of_xs (H := crc_Guarded.H) (lcuts := crc_Guarded.lc) (rcuts := crc_Guarded.rc) (l := [.int .u64 w]) 2000 mixed Tryz.func234 rfl (by kernel_rfl) (@cast (crc_Guarded.wp w h Q) _ (by kernel_rfl) hk)

/-! (*gabion/spare.Bank).entry -/
def spare_Bank_entry.H : Hn := ⟨[], [], [], []⟩
def spare_Bank_entry.lc : List Cut := []
def spare_Bank_entry.rc : List Cut := [⟨6, [0, 1, 7], []⟩]
def spare_Bank_entry.J6 (b : Option Addr) (k0 : Int) (n : Int) (h : Heap) (Q : Value → Heap → Prop) : Prop :=
 TW Tryz.prog 205 59 [.code (cAt (bodyOf Tryz.f205) [1, 1, 1, 1, 0]), .code (cAt (bodyOf Tryz.f205) [1, 1, 1, 1, 1])] ⟨[(0, .v (.pointer b)), (1, .v (.int .i64 k0)), (7, .v (.int .u64 n))], []⟩ h Q
def spare_Bank_entry.wp (b : Option Addr) (k0 : Int) (w : Int) (h : Heap) (Q : Value → Heap → Prop) : Prop :=
 xsIf (decide (w = 0)) (Q (.int .i64 0) h)
 (C Tryz.prog 234 #[.int .u64 w] h fun (r : Value) (h' : Heap) =>
 ∃ (x : Int),
 ∃ (x_1 : Bool),
 r = .tuple #[.int .u64 x, .bool x_1] ∧
 xsIf (!x_1) (Q (.int .i64 5) h')
 (xsIf (decide (x ≠ 65535))
 (xsIf (decide (x < 1)) (Q (.int .i64 5) h')
 (atBase b fun (b_1 o : Nat) =>
 ∃ (x_2 : Int),
 h'.cell b_1 (o + 1 + 1) = some (.int .i64 x_2) ∧
 xsIf (decide (IntKind.u64.wrap x_2 < x)) (Q (.int .i64 5) h')
 (atBase b fun (b_2 o : Nat) => ∃ (x_3 : Int), h'.cell b_2 (o + 4) = some (.int .i64 x_3) ∧ xsIf (decide (x_3 ≠ k0)) (Q (.int .i64 5) h') (spare_Bank_entry.J6 b k0 x h' Q))))
 (atBase b fun (b_1 o : Nat) => ∃ (x_2 : Int), h'.cell b_1 (o + 4) = some (.int .i64 x_2) ∧ xsIf (decide (x_2 ≠ k0)) (Q (.int .i64 5) h') (spare_Bank_entry.J6 b k0 x h' Q))))
def spare_Bank_entry.J6.wp (b : Option Addr) (k0 : Int) (n : Int) (h : Heap) (Q : Value → Heap → Prop) : Prop :=
 atBase b fun (b_1 o : Nat) =>
 h.can b_1 (o + 4) 1 ∧
 xsIf (decide (n ≠ 65535))
 (atBase b fun (b o_1 : Nat) =>
 ∃ (x : Option Nat),
 (h.put b_1 (o + 4) [.int .i64 (IntKind.i64.wrap (k0 + 1))]).cell b (o_1 + 5) = some (Value.map x) ∧
 atMap x fun (r : Nat) =>
 ∃ (l : List (Int × Value × Nat)),
 ∃ (c : Nat),
 h.put b_1 (o + 4) [.int .i64 (IntKind.i64.wrap (k0 + 1))] r = some (mapO (.int .i64) l c) ∧
 (∀ (j : Nat) (v : Value) (b : Nat),
 mnth l j = some (IntKind.i64.wrap (IntKind.i64.wrap n - 1), v, b) →
 Q (.int .i64 0)
 (upd (h.put b_1 (o + 4) [.int .i64 (IntKind.i64.wrap (k0 + 1))]) r (mapO (.int .i64) (mset l j (IntKind.i64.wrap (IntKind.i64.wrap n - 1), .int .i64 k0, b)) c))) ∧
 ((∀ (j : Nat) (v : Value) (b : Nat), ¬mnth l j = some (IntKind.i64.wrap (IntKind.i64.wrap n - 1), v, b)) →
 Q (.int .i64 0)
 (upd (h.put b_1 (o + 4) [.int .i64 (IntKind.i64.wrap (k0 + 1))]) r (mapO (.int .i64) (madd l (IntKind.i64.wrap (IntKind.i64.wrap n - 1), .int .i64 k0, c)) (c + 1)))))
 (Q (.int .i64 0) (h.put b_1 (o + 4) [.int .i64 (IntKind.i64.wrap (k0 + 1))]))
theorem spare_Bank_entry.ok {b : Option Addr} {k0 : Int} {w : Int} {h : Heap} {Q : Value → Heap → Prop} (hk : spare_Bank_entry.wp b k0 w h Q) : C Tryz.prog 205 #[.pointer b, .int .i64 k0, .int .u64 w] h Q :=
 C_of_xs (H := spare_Bank_entry.H) (lcuts := spare_Bank_entry.lc) (rcuts := spare_Bank_entry.rc) (l := [.pointer b, .int .i64 k0, .int .u64 w]) 2000 mixed Tryz.func205 rfl (by kernel_rfl) (@cast (spare_Bank_entry.wp b k0 w h Q) _ (by kernel_rfl) hk)
theorem spare_Bank_entry.J6.ok {b : Option Addr} {k0 : Int} {n : Int} {h : Heap} {Q : Value → Heap → Prop} (hk : spare_Bank_entry.J6.wp b k0 n h Q) : spare_Bank_entry.J6 b k0 n h Q :=
 xs_ok (H := spare_Bank_entry.H) (lcuts := spare_Bank_entry.lc) (rcuts := []) (fn := Tryz.f205) mixed Tryz.func205 2000 _ _ _ (@cast (spare_Bank_entry.J6.wp b k0 n h Q) _ (by kernel_rfl) hk)

/-! gabion/spare.Open -/
def spare_Open.H : Hn := ⟨[22], [], [], []⟩
def spare_Open.lc : List Cut := [⟨6, [0, 3, 7, 24, 25], [3]⟩]
def spare_Open.rc : List Cut := []
def spare_Open.L6 (d : Option Addr) (b : Option Addr) (t24 : Int) (t25 : Int) (p_3_0 : Int) (p_3_1 : Int) (p_3_2 : Int) (h : Heap) (Q : Value → Heap → Prop) : Prop :=
 TW Tryz.prog 145 50 [.code (cAt (bodyOf Tryz.f145) [1, 1, 1, 0, 1, 0, 0]), .inLoop (cAt (bodyOf Tryz.f145) [1, 1, 1, 0, 1, 0, 0]), .inBlock 0, .code (cAt (bodyOf Tryz.f145) [1, 1, 1, 1])] ⟨[(0, .v (.pointer d)), (3, .p 3 0), (7, .v (.pointer b)), (24, .v (.int .i64 t24)), (25, .v (.int .i64 t25))], [(3, [.int .i64 p_3_0, .int .i64 p_3_1, .int .i64 p_3_2])]⟩ h Q
def spare_Open.wp (d : Option Addr) (p_0 : Int) (p_1 : Int) (p_2 : Int) (h : Heap) (Q : Value → Heap → Prop) : Prop :=
 C Tryz.prog 204 #[.pointer d, .agg #[.int .i64 p_0, .int .i64 p_1, .int .i64 p_2]] h fun (r : Value) (h' : Heap) =>
 ∃ (x : Int),
 r = .int .i64 x ∧
 xsIf (decide (x ≠ 0)) (Q (.tuple #[.pointer none, .int .i64 x]) h')
 (∀ (b : Nat),
 h' b = none →
 ∀ (b_1 : Nat),
 upd h' b (Obj.map #[] 0) b_1 = none →
 spare_Open.L6 d (some { block := b_1, off := 0 }) p_2 0 p_0 p_1 p_2
 (upd (upd h' b (Obj.map #[] 0)) b_1
 (Obj.cells #[.pointer d, .int .i64 p_0, .int .i64 p_1, .int .i64 p_2, .int .i64 0, Value.map (some b)] 273 (0, 0)))
 Q)
def spare_Open.L6.wp (d : Option Addr) (b : Option Addr) (t24 : Int) (t25 : Int) (p_3_0 : Int) (p_3_1 : Int) (p_3_2 : Int) (h : Heap) (Q : Value → Heap → Prop) : Prop :=
 xsIf (decide (t25 < t24))
 (C Tryz.prog 151 #[.pointer d, .int .i64 (IntKind.i64.wrap (IntKind.i64.wrap (p_3_0 * 8) + t25))] h fun (r : Value) (h' : Heap) =>
 ∃ (x : Int),
 ∃ (x_1 : Int),
 r = .tuple #[.int .u64 x, .int .i64 x_1] ∧
 xsIf (decide (x_1 ≠ 0)) (Q (.tuple #[.pointer none, .int .i64 x_1]) h')
 (C Tryz.prog 205 #[.pointer b, .int .i64 t25, .int .u64 x] h' fun (r : Value) (h' : Heap) =>
 ∃ (x : Int), r = .int .i64 x ∧ xsIf (decide (x ≠ 0)) (Q (.tuple #[.pointer none, .int .i64 x]) h') (spare_Open.L6 d b t24 (IntKind.i64.wrap (t25 + 1)) p_3_0 p_3_1 p_3_2 h' Q)))
 (Q (.tuple #[.pointer b, .int .i64 0]) h)
theorem spare_Open.ok {d : Option Addr} {p_0 : Int} {p_1 : Int} {p_2 : Int} {h : Heap} {Q : Value → Heap → Prop} (hk : spare_Open.wp d p_0 p_1 p_2 h Q) : C Tryz.prog 145 #[.pointer d, .agg #[.int .i64 p_0, .int .i64 p_1, .int .i64 p_2]] h Q :=
 C_of_xs (H := spare_Open.H) (lcuts := spare_Open.lc) (rcuts := spare_Open.rc) (l := [.pointer d, .agg #[.int .i64 p_0, .int .i64 p_1, .int .i64 p_2]]) 2000 mixed Tryz.func145 rfl (by kernel_rfl) (@cast (spare_Open.wp d p_0 p_1 p_2 h Q) _ (by kernel_rfl) hk)
theorem spare_Open.L6.ok {d : Option Addr} {b : Option Addr} {t24 : Int} {t25 : Int} {p_3_0 : Int} {p_3_1 : Int} {p_3_2 : Int} {h : Heap} {Q : Value → Heap → Prop} (hk : spare_Open.L6.wp d b t24 t25 p_3_0 p_3_1 p_3_2 h Q) : spare_Open.L6 d b t24 t25 p_3_0 p_3_1 p_3_2 h Q :=
 xs_ok (H := spare_Open.H) (lcuts := spare_Open.lc) (rcuts := spare_Open.rc) (fn := Tryz.f145) mixed Tryz.func145 2000 _ _ _ (@cast (spare_Open.L6.wp d b t24 t25 p_3_0 p_3_1 p_3_2 h Q) _ (by kernel_rfl) hk)

/-! gabion/gap.may -/
def gap_may.H : Hn := ⟨[], [], [], []⟩
def gap_may.lc : List Cut := []
def gap_may.rc : List Cut := []
def gap_may.wp (n : Int) (h : Heap) (Q : Value → Heap → Prop) : Prop :=
 xsIf (decide (1 ≤ n)) (Q (.bool (decide (n ≤ 1024))) h) (Q (.bool false) h)
theorem gap_may.ok {n : Int} {h : Heap} {Q : Value → Heap → Prop} (hk : gap_may.wp n h Q) : C Tryz.prog 208 #[.int .i64 n] h Q :=
 C_of_xs (H := gap_may.H) (lcuts := gap_may.lc) (rcuts := gap_may.rc) (l := [.int .i64 n]) 2000 mixed Tryz.func208 rfl (by kernel_rfl) (@cast (gap_may.wp n h Q) _ (by kernel_rfl) hk)

/-! gabion/gap.First -/
def gap_First.H : Hn := ⟨[], [], [], []⟩
def gap_First.lc : List Cut := []
def gap_First.rc : List Cut := []
def gap_First.wp (n : Int) (h : Heap) (Q : Value → Heap → Prop) : Prop :=
 C Tryz.prog 208 #[.int .i64 n] h fun (r : Value) (h' : Heap) =>
 ∃ (x : Bool),
 r = .bool x ∧
 xsIf (!x) (Q (.agg #[.int .i64 0, .int .i64 0, .int .u32 0]) h') (Q (.agg #[.int .i64 0, .int .i64 n, .int .u32 0]) h')
theorem gap_First.ok {n : Int} {h : Heap} {Q : Value → Heap → Prop} (hk : gap_First.wp n h Q) : C Tryz.prog 147 #[.int .i64 n] h Q :=
 C_of_xs (H := gap_First.H) (lcuts := gap_First.lc) (rcuts := gap_First.rc) (l := [.int .i64 n]) 2000 mixed Tryz.func147 rfl (by kernel_rfl) (@cast (gap_First.wp n h Q) _ (by kernel_rfl) hk)

/-! gabion/le.With -/
def le_With.H : Hn := ⟨[], [], [], []⟩
def le_With.lc : List Cut := []
def le_With.rc : List Cut := []
def le_With.wp (w : Int) (at0 : Int) (width : Int) (v : Int) (h : Heap) (Q : Value → Heap → Prop) : Prop :=
 C Tryz.prog 209 #[.int .i64 at0, .int .i64 width] h fun (r : Value) (h' : Heap) =>
 ∃ (x : Int), r = .int .u64 x ∧ xsIf (decide (x = 0)) (Q (.int .u64 w) h') (0 ≤ at0 ∧ Q (.int .u64 (ior .u64 (iandNot .u64 w x) (iand .u64 (ishl .u64 v at0) x))) h')
theorem le_With.ok {w : Int} {at0 : Int} {width : Int} {v : Int} {h : Heap} {Q : Value → Heap → Prop} (hk : le_With.wp w at0 width v h Q) : C Tryz.prog 189 #[.int .u64 w, .int .i64 at0, .int .i64 width, .int .u64 v] h Q :=
 C_of_xs (H := le_With.H) (lcuts := le_With.lc) (rcuts := le_With.rc) (l := [.int .u64 w, .int .i64 at0, .int .i64 width, .int .u64 v]) 2000 mixed Tryz.func189 rfl (by kernel_rfl) (@cast (le_With.wp w at0 width v h Q) _ (by kernel_rfl) hk)

/-! (gabion/gap.State).Pack -/
def gap_State_Pack.H : Hn := ⟨[], [], [], []⟩
def gap_State_Pack.lc : List Cut := []
def gap_State_Pack.rc : List Cut := []
def gap_State_Pack.wp (s_0 : Int) (s_1 : Int) (s_2 : Int) (h : Heap) (Q : Value → Heap → Prop) : Prop :=
 C Tryz.prog 189 #[.int .u64 0, .int .i64 0, .int .i64 16, .int .u64 (IntKind.u64.wrap s_0)] h fun (r : Value) (h' : Heap) =>
 ∃ (x : Int),
 r = .int .u64 x ∧
 C Tryz.prog 189 #[.int .u64 x, .int .i64 16, .int .i64 16, .int .u64 (IntKind.u64.wrap s_1)] h' fun (r : Value) (h' : Heap) =>
 ∃ (x : Int),
 r = .int .u64 x ∧
 C Tryz.prog 189 #[.int .u64 x, .int .i64 32, .int .i64 32, .int .u64 (IntKind.u64.wrap s_2)] h' fun (r : Value) (h' : Heap) =>
 ∃ (x : Int), r = .int .u64 x ∧ Q (.int .u64 x) h'
theorem gap_State_Pack.ok {s_0 : Int} {s_1 : Int} {s_2 : Int} {h : Heap} {Q : Value → Heap → Prop} (hk : gap_State_Pack.wp s_0 s_1 s_2 h Q) : C Tryz.prog 148 #[.agg #[.int .i64 s_0, .int .i64 s_1, .int .u32 s_2]] h Q :=
 C_of_xs (H := gap_State_Pack.H) (lcuts := gap_State_Pack.lc) (rcuts := gap_State_Pack.rc) (l := [.agg #[.int .i64 s_0, .int .i64 s_1, .int .u32 s_2]]) 2000 mixed Tryz.func148 rfl (by kernel_rfl) (@cast (gap_State_Pack.wp s_0 s_1 s_2 h Q) _ (by kernel_rfl) hk)

/-! (gabion/spare.Plan).own -/
def spare_Plan_own.H : Hn := ⟨[], [], [⟨1, .q 0 (.q 1 (.q 2 (.q 5 (.q 3 (.q 4 (.q 6 (.q 7 (.nil)))))))), []⟩], []⟩
def spare_Plan_own.lc : List Cut := []
def spare_Plan_own.rc : List Cut := []
def spare_Plan_own.wp (p_0 : Int) (p_1 : Int) (p_2 : Int) (i : Int) (h : Heap) (Q : Value → Heap → Prop) : Prop :=
 C Tryz.prog 133 #[.agg #[.int .i64 p_0, .int .i64 p_1, .int .i64 p_2]] h fun (r : Value) (h' : Heap) =>
 ∃ (x : Int), r = .int .i64 x ∧ Q (.int .i64 (IntKind.i64.wrap (IntKind.i64.wrap (p_0 + x) + i))) h'
theorem spare_Plan_own.ok {p_0 : Int} {p_1 : Int} {p_2 : Int} {i : Int} {h : Heap} {Q : Value → Heap → Prop} (hk : spare_Plan_own.wp p_0 p_1 p_2 i h Q) : C Tryz.prog 215 #[.agg #[.int .i64 p_0, .int .i64 p_1, .int .i64 p_2], .int .i64 i] h Q :=
 C_of_xs (H := spare_Plan_own.H) (lcuts := spare_Plan_own.lc) (rcuts := spare_Plan_own.rc) (l := [.agg #[.int .i64 p_0, .int .i64 p_1, .int .i64 p_2], .int .i64 i]) 2000 mixed Tryz.func215 rfl (by kernel_rfl) (@cast (spare_Plan_own.wp p_0 p_1 p_2 i h Q) _ (by kernel_rfl) hk)

/-! (gabion/spare.Plan).spare -/
def spare_Plan_spare.H : Hn := ⟨[], [], [], []⟩
def spare_Plan_spare.lc : List Cut := []
def spare_Plan_spare.rc : List Cut := []
def spare_Plan_spare.wp (p_0 : Int) (p_1 : Int) (p_2 : Int) (k0 : Int) (h : Heap) (Q : Value → Heap → Prop) : Prop :=
 C Tryz.prog 215 #[.agg #[.int .i64 p_0, .int .i64 p_1, .int .i64 p_2], .int .i64 p_1] h fun (r : Value) (h' : Heap) =>
 ∃ (x : Int), r = .int .i64 x ∧ Q (.int .i64 (IntKind.i64.wrap (x + k0))) h'
theorem spare_Plan_spare.ok {p_0 : Int} {p_1 : Int} {p_2 : Int} {k0 : Int} {h : Heap} {Q : Value → Heap → Prop} (hk : spare_Plan_spare.wp p_0 p_1 p_2 k0 h Q) : C Tryz.prog 214 #[.agg #[.int .i64 p_0, .int .i64 p_1, .int .i64 p_2], .int .i64 k0] h Q :=
 C_of_xs (H := spare_Plan_spare.H) (lcuts := spare_Plan_spare.lc) (rcuts := spare_Plan_spare.rc) (l := [.agg #[.int .i64 p_0, .int .i64 p_1, .int .i64 p_2], .int .i64 k0]) 2000 mixed Tryz.func214 rfl (by kernel_rfl) (@cast (spare_Plan_spare.wp p_0 p_1 p_2 k0 h Q) _ (by kernel_rfl) hk)

/-! (*gabion/spare.Bank).Where -/
def spare_Bank_Where.H : Hn := ⟨[], [], [], []⟩
def spare_Bank_Where.lc : List Cut := []
def spare_Bank_Where.rc : List Cut := []
def spare_Bank_Where.wp (b : Option Addr) (i : Int) (h : Heap) (Q : Value → Heap → Prop) : Prop :=
 xsIf b.isNone (Q (.tuple #[.int .i64 0, .int .i64 1]) h)
 (xsIf (decide (i < 0)) (Q (.tuple #[.int .i64 0, .int .i64 3]) h)
 (atBase b fun (b_1 o : Nat) =>
 ∃ (x : Int),
 h.cell b_1 (o + 1 + 1) = some (.int .i64 x) ∧
 xsIf (decide (x ≤ i)) (Q (.tuple #[.int .i64 0, .int .i64 3]) h)
 (atBase b fun (b_2 o : Nat) =>
 ∃ (x : Option Nat),
 h.cell b_2 (o + 5) = some (Value.map x) ∧
 atMap x fun (r : Nat) =>
 ∃ (l : List (Int × Value × Nat)),
 ∃ (c : Nat),
 h r = some (mapO (.int .i64) l c) ∧
 (∀ (j : Nat) (v : Value) (b_3 : Nat),
 mnth l j = some (i, v, b_3) →
 ∃ (x : Int),
 v = .int .i64 x ∧
 atBase b fun (b o : Nat) =>
 ∃ (x_1 : Int),
 h.cell b (o + 1) = some (.int .i64 x_1) ∧
 ∃ (x_2 : Int),
 h.cell b (o + 1 + 1) = some (.int .i64 x_2) ∧
 ∃ (x_3 : Int),
 h.cell b (o + 1 + 1 + 1) = some (.int .i64 x_3) ∧
 C Tryz.prog 214 #[.agg #[.int .i64 x_1, .int .i64 x_2, .int .i64 x_3], .int .i64 x] h
 fun (r : Value) (h' : Heap) => ∃ (x : Int), r = .int .i64 x ∧ Q (.tuple #[.int .i64 x, .int .i64 0]) h') ∧
 ((∀ (j : Nat) (v : Value) (b : Nat), ¬mnth l j = some (i, v, b)) →
 atBase b fun (b o : Nat) =>
 ∃ (x : Int),
 h.cell b (o + 1) = some (.int .i64 x) ∧
 ∃ (x_1 : Int),
 h.cell b (o + 1 + 1) = some (.int .i64 x_1) ∧
 ∃ (x_2 : Int),
 h.cell b (o + 1 + 1 + 1) = some (.int .i64 x_2) ∧
 C Tryz.prog 215 #[.agg #[.int .i64 x, .int .i64 x_1, .int .i64 x_2], .int .i64 i] h fun (r : Value) (h' : Heap) =>
 ∃ (x : Int), r = .int .i64 x ∧ Q (.tuple #[.int .i64 x, .int .i64 0]) h'))))
theorem spare_Bank_Where.ok {b : Option Addr} {i : Int} {h : Heap} {Q : Value → Heap → Prop} (hk : spare_Bank_Where.wp b i h Q) : C Tryz.prog 164 #[.pointer b, .int .i64 i] h Q :=
 C_of_xs (H := spare_Bank_Where.H) (lcuts := spare_Bank_Where.lc) (rcuts := spare_Bank_Where.rc) (l := [.pointer b, .int .i64 i]) 2000 mixed Tryz.func164 rfl (by kernel_rfl) (@cast (spare_Bank_Where.wp b i h Q) _ (by kernel_rfl) hk)

/-! (*gabion/pm.Device).Off -/
def pm_Device_Off.H : Hn := ⟨[], [], [], []⟩
def pm_Device_Off.lc : List Cut := []
def pm_Device_Off.rc : List Cut := []
def pm_Device_Off.wp (d : Option Addr) (h : Heap) (Q : Value → Heap → Prop) : Prop :=
 xsIf (!d.isNone) (atBase d fun (b o : Nat) => ∃ (x : Bool), h.cell b (o + 5) = some (.bool x) ∧ Q (.bool x) h) (Q (.bool false) h)
theorem pm_Device_Off.ok {d : Option Addr} {h : Heap} {Q : Value → Heap → Prop} (hk : pm_Device_Off.wp d h Q) : C Tryz.prog 102 #[.pointer d] h Q :=
 C_of_xs (H := pm_Device_Off.H) (lcuts := pm_Device_Off.lc) (rcuts := pm_Device_Off.rc) (l := [.pointer d]) 2000 mixed Tryz.func102 rfl (by kernel_rfl) (@cast (pm_Device_Off.wp d h Q) _ (by kernel_rfl) hk)

/-! gabion/le.Text -/
def le_Text.H : Hn := ⟨[], [], [], []⟩
def le_Text.lc : List Cut := [⟨3, [3, 6, 7], []⟩]
def le_Text.rc : List Cut := []
def le_Text.L3 (s : ByteArray) (t6_0 : Int) (t6_1 : Int) (t6_2 : Int) (t6_3 : Int) (t6_4 : Int) (t6_5 : Int) (t6_6 : Int) (t6_7 : Int) (t7 : Int) (h : Heap) (Q : Value → Heap → Prop) : Prop :=
 TW Tryz.prog 152 16 [.code (cAt (bodyOf Tryz.f152) [1, 1, 0, 1, 0, 0]), .inLoop (cAt (bodyOf Tryz.f152) [1, 1, 0, 1, 0, 0]), .inBlock 0, .code (cAt (bodyOf Tryz.f152) [1, 1, 1])] ⟨[(3, .v (.string s)), (6, .v (.agg #[.int .u64 t6_0, .int .u64 t6_1, .int .u64 t6_2, .int .u64 t6_3, .int .u64 t6_4, .int .u64 t6_5, .int .u64 t6_6, .int .u64 t6_7])), (7, .v (.int .i64 t7))], []⟩ h Q
def le_Text.wp (w_0 : Int) (w_1 : Int) (w_2 : Int) (w_3 : Int) (w_4 : Int) (w_5 : Int) (w_6 : Int) (w_7 : Int) (h : Heap) (Q : Value → Heap → Prop) : Prop :=
 le_Text.L3 { data := #[] } w_0 w_1 w_2 w_3 w_4 w_5 w_6 w_7 0 h Q
def le_Text.L3.wp (s : ByteArray) (t6_0 : Int) (t6_1 : Int) (t6_2 : Int) (t6_3 : Int) (t6_4 : Int) (t6_5 : Int) (t6_6 : Int) (t6_7 : Int) (t7 : Int) (h : Heap) (Q : Value → Heap → Prop) : Prop :=
 xsIf (decide (t7 < 8))
 ((0 ≤ t7 ∧ t7 < (↑8 : Int)) ∧
 ∃ (x : Int),
 lget [.int .u64 t6_0, .int .u64 t6_1, .int .u64 t6_2, .int .u64 t6_3, .int .u64 t6_4, .int .u64 t6_5, .int .u64 t6_6, .int .u64 t6_7]
 (t7.toNat * 1) =
 some (.int .u64 x) ∧
 C Tryz.prog 149 #[.int .u64 x, .int .i64 8] h fun (r : Value) (h' : Heap) =>
 ∃ (x : ByteArray), r = .string x ∧ (↑(s.size + x.size) : Int) ≤ 9223372036854775807 ∧ le_Text.L3 (s ++ x) t6_0 t6_1 t6_2 t6_3 t6_4 t6_5 t6_6 t6_7 (IntKind.i64.wrap (t7 + 1)) h' Q)
 (Q (.string s) h)
theorem le_Text.ok {w_0 : Int} {w_1 : Int} {w_2 : Int} {w_3 : Int} {w_4 : Int} {w_5 : Int} {w_6 : Int} {w_7 : Int} {h : Heap} {Q : Value → Heap → Prop} (hk : le_Text.wp w_0 w_1 w_2 w_3 w_4 w_5 w_6 w_7 h Q) : C Tryz.prog 152 #[.agg #[.int .u64 w_0, .int .u64 w_1, .int .u64 w_2, .int .u64 w_3, .int .u64 w_4, .int .u64 w_5, .int .u64 w_6, .int .u64 w_7]] h Q :=
 C_of_xs (H := le_Text.H) (lcuts := le_Text.lc) (rcuts := le_Text.rc) (l := [.agg #[.int .u64 w_0, .int .u64 w_1, .int .u64 w_2, .int .u64 w_3, .int .u64 w_4, .int .u64 w_5, .int .u64 w_6, .int .u64 w_7]]) 2000 mixed Tryz.func152 rfl (by kernel_rfl) (@cast (le_Text.wp w_0 w_1 w_2 w_3 w_4 w_5 w_6 w_7 h Q) _ (by kernel_rfl) hk)
theorem le_Text.L3.ok {s : ByteArray} {t6_0 : Int} {t6_1 : Int} {t6_2 : Int} {t6_3 : Int} {t6_4 : Int} {t6_5 : Int} {t6_6 : Int} {t6_7 : Int} {t7 : Int} {h : Heap} {Q : Value → Heap → Prop} (hk : le_Text.L3.wp s t6_0 t6_1 t6_2 t6_3 t6_4 t6_5 t6_6 t6_7 t7 h Q) : le_Text.L3 s t6_0 t6_1 t6_2 t6_3 t6_4 t6_5 t6_6 t6_7 t7 h Q :=
 xs_ok (H := le_Text.H) (lcuts := le_Text.lc) (rcuts := le_Text.rc) (fn := Tryz.f152) mixed Tryz.func152 2000 _ _ _ (@cast (le_Text.L3.wp s t6_0 t6_1 t6_2 t6_3 t6_4 t6_5 t6_6 t6_7 t7 h Q) _ (by kernel_rfl) hk)

/-! gabion/line.Get -/
def line_Get.H : Hn := ⟨[], [7], [], []⟩
def line_Get.lc : List Cut := [⟨6, [0, 1, 7, 22], [7]⟩]
def line_Get.rc : List Cut := [⟨4, [0, 1], []⟩]
def line_Get.J4 (d : Option Addr) (at0 : Int) (h : Heap) (Q : Value → Heap → Prop) : Prop :=
 TW Tryz.prog 80 43 [.code (cAt (bodyOf Tryz.f80) [1, 1, 0]), .code (cAt (bodyOf Tryz.f80) [1, 1, 1])] ⟨[(0, .v (.pointer d)), (1, .v (.int .i64 at0))], []⟩ h Q
def line_Get.L6 (d : Option Addr) (at0 : Int) (t22 : Int) (w : List Value) (h : Heap) (Q : Value → Heap → Prop) : Prop :=
 TW Tryz.prog 80 43 [.code (cAt (bodyOf Tryz.f80) [1, 1, 1, 0, 1, 0, 0]), .inLoop (cAt (bodyOf Tryz.f80) [1, 1, 1, 0, 1, 0, 0]), .inBlock 0, .code (cAt (bodyOf Tryz.f80) [1, 1, 1, 1])] ⟨[(0, .v (.pointer d)), (1, .v (.int .i64 at0)), (7, .p 7 0), (22, .v (.int .i64 t22))], [(7, w)]⟩ h Q
def line_Get.wp (d : Option Addr) (at0 : Int) (h : Heap) (Q : Value → Heap → Prop) : Prop :=
 C Tryz.prog 134 #[.pointer d, .int .i64 at0] h fun (r : Value) (h' : Heap) =>
 ∃ (x : Int),
 r = .int .i64 x ∧
 xsIf (decide (x ≠ 0))
 (C Tryz.prog 102 #[.pointer d] h' fun (r : Value) (h' : Heap) =>
 ∃ (x_1 : Bool), r = .bool x_1 ∧ xsIf (!x_1) (Q (.tuple #[.string { data := #[] }, .int .i64 x]) h') (line_Get.J4 d at0 h' Q))
 (line_Get.J4 d at0 h' Q)
def line_Get.J4.wp (d : Option Addr) (at0 : Int) (h : Heap) (Q : Value → Heap → Prop) : Prop :=
 line_Get.L6 d at0 0 [.int .u64 0, .int .u64 0, .int .u64 0, .int .u64 0, .int .u64 0, .int .u64 0, .int .u64 0, .int .u64 0] h Q
def line_Get.L6.wp (d : Option Addr) (at0 : Int) (t22 : Int) (w : List Value) (h : Heap) (Q : Value → Heap → Prop) : Prop :=
 xsIf (decide (t22 < 8))
 (C Tryz.prog 151 #[.pointer d, .int .i64 (IntKind.i64.wrap (IntKind.i64.wrap (at0 * 8) + t22))] h fun (r : Value) (h' : Heap) =>
 ∃ (x : Int),
 ∃ (x_1 : Int),
 r = .tuple #[.int .u64 x, .int .i64 x_1] ∧
 xsIf (decide (x_1 ≠ 0)) (Q (.tuple #[.string { data := #[] }, .int .i64 x_1]) h')
 ((0 ≤ t22 ∧ t22 < (↑8 : Int)) ∧ 0 + t22.toNat * 1 + 1 ≤ w.length ∧ line_Get.L6 d at0 (IntKind.i64.wrap (t22 + 1)) (lput w (0 + t22.toNat * 1) [.int .u64 x]) h' Q))
 (8 ≤ w.length ∧
 ∃ (x : Int),
 lget w 0 = some (.int .u64 x) ∧
 ∃ (x_1 : Int),
 lget w 1 = some (.int .u64 x_1) ∧
 ∃ (x_2 : Int),
 lget w 2 = some (.int .u64 x_2) ∧
 ∃ (x_3 : Int),
 lget w 3 = some (.int .u64 x_3) ∧
 ∃ (x_4 : Int),
 lget w 4 = some (.int .u64 x_4) ∧
 ∃ (x_5 : Int),
 lget w 5 = some (.int .u64 x_5) ∧
 ∃ (x_6 : Int),
 lget w 6 = some (.int .u64 x_6) ∧
 ∃ (x_7 : Int),
 lget w 7 = some (.int .u64 x_7) ∧
 C Tryz.prog 152
 #[.agg
 #[.int .u64 x, .int .u64 x_1, .int .u64 x_2, .int .u64 x_3, .int .u64 x_4, .int .u64 x_5, .int .u64 x_6,
 .int .u64 x_7]]
 h fun (r : Value) (h' : Heap) => ∃ (x : ByteArray), r = .string x ∧ Q (.tuple #[.string x, .int .i64 0]) h')
theorem line_Get.ok {d : Option Addr} {at0 : Int} {h : Heap} {Q : Value → Heap → Prop} (hk : line_Get.wp d at0 h Q) : C Tryz.prog 80 #[.pointer d, .int .i64 at0] h Q :=
 C_of_xs (H := line_Get.H) (lcuts := line_Get.lc) (rcuts := line_Get.rc) (l := [.pointer d, .int .i64 at0]) 2000 mixed Tryz.func80 rfl (by kernel_rfl) (@cast (line_Get.wp d at0 h Q) _ (by kernel_rfl) hk)
theorem line_Get.J4.ok {d : Option Addr} {at0 : Int} {h : Heap} {Q : Value → Heap → Prop} (hk : line_Get.J4.wp d at0 h Q) : line_Get.J4 d at0 h Q :=
 xs_ok (H := line_Get.H) (lcuts := line_Get.lc) (rcuts := []) (fn := Tryz.f80) mixed Tryz.func80 2000 _ _ _ (@cast (line_Get.J4.wp d at0 h Q) _ (by kernel_rfl) hk)
theorem line_Get.L6.ok {d : Option Addr} {at0 : Int} {t22 : Int} {w : List Value} {h : Heap} {Q : Value → Heap → Prop} (hk : line_Get.L6.wp d at0 t22 w h Q) : line_Get.L6 d at0 t22 w h Q :=
 xs_ok (H := line_Get.H) (lcuts := line_Get.lc) (rcuts := line_Get.rc) (fn := Tryz.f80) mixed Tryz.func80 2000 _ _ _ (@cast (line_Get.L6.wp d at0 t22 w h Q) _ (by kernel_rfl) hk)

/-! gabion/line.PutWord -/
def line_PutWord.H : Hn := ⟨[], [], [], []⟩
def line_PutWord.lc : List Cut := []
def line_PutWord.rc : List Cut := []
def line_PutWord.wp (d : Option Addr) (at0 : Int) (k0 : Int) (v : Int) (h : Heap) (Q : Value → Heap → Prop) : Prop :=
 C Tryz.prog 134 #[.pointer d, .int .i64 at0] h fun (r : Value) (h' : Heap) =>
 ∃ (x : Int),
 r = .int .i64 x ∧
 xsIf (decide (x = 1)) (Q (.int .i64 x) h')
 (xsIf (decide (k0 < 0)) (Q (.int .i64 2) h')
 (xsIf (decide (8 ≤ k0)) (Q (.int .i64 2) h')
 (xsIf (decide (x ≠ 0)) (Q (.int .i64 x) h')
 (C Tryz.prog 135 #[.pointer d, .int .i64 (IntKind.i64.wrap (IntKind.i64.wrap (at0 * 8) + k0)), .int .u64 v] h' fun (r : Value) (h' : Heap) =>
 ∃ (x : Int),
 r = .int .i64 x ∧
 xsIf (decide (x ≠ 0)) (Q (.int .i64 x) h')
 (C Tryz.prog 136 #[.pointer d, .int .i64 at0] h' fun (r : Value) (h' : Heap) => ∃ (x : Int), r = .int .i64 x ∧ Q (.int .i64 x) h')))))
theorem line_PutWord.ok {d : Option Addr} {at0 : Int} {k0 : Int} {v : Int} {h : Heap} {Q : Value → Heap → Prop} (hk : line_PutWord.wp d at0 k0 v h Q) : C Tryz.prog 206 #[.pointer d, .int .i64 at0, .int .i64 k0, .int .u64 v] h Q :=
 C_of_xs (H := line_PutWord.H) (lcuts := line_PutWord.lc) (rcuts := line_PutWord.rc) (l := [.pointer d, .int .i64 at0, .int .i64 k0, .int .u64 v]) 2000 mixed Tryz.func206 rfl (by kernel_rfl) (@cast (line_PutWord.wp d at0 k0 v h Q) _ (by kernel_rfl) hk)

/-! (*gabion/pm.Device).Media -/
def pm_Device_Media.H : Hn := ⟨[], [], [], []⟩
def pm_Device_Media.lc : List Cut := []
def pm_Device_Media.rc : List Cut := []
def pm_Device_Media.wp (d : Option Addr) (word : Int) (h : Heap) (Q : Value → Heap → Prop) : Prop :=
 xsIf (decide (word < 0)) (Q (.int .u64 0) h)
 (C Tryz.prog 196 #[.pointer d] h fun (r : Value) (h' : Heap) =>
 ∃ (x : Int),
 r = .int .i64 x ∧
 xsIf (decide (x ≤ word)) (Q (.int .u64 0) h')
 (atBase d fun (b o : Nat) =>
 ∃ (x : Option Addr),
 ∃ (n : Nat),
 ∃ (m : Nat),
 h'.cell b (o + 0) = some (.slice x n m) ∧ (0 ≤ word ∧ word < (↑n : Int)) ∧ atBase x fun (b o : Nat) => ∃ (x : Int), h'.cell b (o + word.toNat * 1) = some (.int .u64 x) ∧ Q (.int .u64 x) h'))
theorem pm_Device_Media.ok {d : Option Addr} {word : Int} {h : Heap} {Q : Value → Heap → Prop} (hk : pm_Device_Media.wp d word h Q) : C Tryz.prog 176 #[.pointer d, .int .i64 word] h Q :=
 C_of_xs (H := pm_Device_Media.H) (lcuts := pm_Device_Media.lc) (rcuts := pm_Device_Media.rc) (l := [.pointer d, .int .i64 word]) 2000 mixed Tryz.func176 rfl (by kernel_rfl) (@cast (pm_Device_Media.wp d word h Q) _ (by kernel_rfl) hk)

/-! gabion/line.Took -/
def line_Took.H : Hn := ⟨[], [], [], []⟩
def line_Took.lc : List Cut := [⟨5, [0, 1, 24, 25], []⟩]
def line_Took.rc : List Cut := [⟨4, [0, 1, 7], [7]⟩]
def line_Took.J4 (d : Option Addr) (at0 : Int) (w_0 : Int) (w_1 : Int) (w_2 : Int) (w_3 : Int) (w_4 : Int) (w_5 : Int) (w_6 : Int) (w_7 : Int) (h : Heap) (Q : Value → Heap → Prop) : Prop :=
 TW Tryz.prog 101 38 [.code (cAt (bodyOf Tryz.f101) [1, 1, 1, 0, 0]), .code (cAt (bodyOf Tryz.f101) [1, 1, 1, 0, 1]), .code (cAt (bodyOf Tryz.f101) [1, 1, 1, 1])] ⟨[(0, .v (.pointer d)), (1, .v (.int .i64 at0)), (7, .p 7 0)], [(7, [.int .u64 w_0, .int .u64 w_1, .int .u64 w_2, .int .u64 w_3, .int .u64 w_4, .int .u64 w_5, .int .u64 w_6, .int .u64 w_7])]⟩ h Q
def line_Took.L5 (d : Option Addr) (at0 : Int) (t24_0 : Int) (t24_1 : Int) (t24_2 : Int) (t24_3 : Int) (t24_4 : Int) (t24_5 : Int) (t24_6 : Int) (t24_7 : Int) (t25 : Int) (h : Heap) (Q : Value → Heap → Prop) : Prop :=
 TW Tryz.prog 101 38 [.code (cAt (bodyOf Tryz.f101) [1, 1, 1, 0, 1, 0, 0]), .inLoop (cAt (bodyOf Tryz.f101) [1, 1, 1, 0, 1, 0, 0]), .inBlock 0, .code (cAt (bodyOf Tryz.f101) [1, 1, 1, 1])] ⟨[(0, .v (.pointer d)), (1, .v (.int .i64 at0)), (24, .v (.agg #[.int .u64 t24_0, .int .u64 t24_1, .int .u64 t24_2, .int .u64 t24_3, .int .u64 t24_4, .int .u64 t24_5, .int .u64 t24_6, .int .u64 t24_7])), (25, .v (.int .i64 t25))], []⟩ h Q
def line_Took.wp (d : Option Addr) (at0 : Int) (s : ByteArray) (h : Heap) (Q : Value → Heap → Prop) : Prop :=
 C Tryz.prog 94 #[.string s] h fun (r : Value) (h' : Heap) =>
 ∃ (x : Int),
 ∃ (x_1 : Int),
 ∃ (x_2 : Int),
 ∃ (x_3 : Int),
 ∃ (x_4 : Int),
 ∃ (x_5 : Int),
 ∃ (x_6 : Int),
 ∃ (x_7 : Int),
 ∃ (x_8 : Int),
 r =
 .tuple
 #[.agg
 #[.int .u64 x, .int .u64 x_1, .int .u64 x_2, .int .u64 x_3, .int .u64 x_4, .int .u64 x_5, .int .u64 x_6,
 .int .u64 x_7],
 .int .i64 x_8] ∧
 xsIf (decide (x_8 ≠ 0)) (Q (.bool false) h')
 (C Tryz.prog 134 #[.pointer d, .int .i64 at0] h' fun (r : Value) (h' : Heap) =>
 ∃ (x_9 : Int), r = .int .i64 x_9 ∧ xsIf (decide (x_9 ≠ 0)) (Q (.bool false) h') (line_Took.J4 d at0 x x_1 x_2 x_3 x_4 x_5 x_6 x_7 h' Q))
def line_Took.J4.wp (d : Option Addr) (at0 : Int) (w_0 : Int) (w_1 : Int) (w_2 : Int) (w_3 : Int) (w_4 : Int) (w_5 : Int) (w_6 : Int) (w_7 : Int) (h : Heap) (Q : Value → Heap → Prop) : Prop :=
 line_Took.L5 d at0 w_0 w_1 w_2 w_3 w_4 w_5 w_6 w_7 0 h Q
def line_Took.L5.wp (d : Option Addr) (at0 : Int) (t24_0 : Int) (t24_1 : Int) (t24_2 : Int) (t24_3 : Int) (t24_4 : Int) (t24_5 : Int) (t24_6 : Int) (t24_7 : Int) (t25 : Int) (h : Heap) (Q : Value → Heap → Prop) : Prop :=
 xsIf (decide (t25 < 8))
 ((0 ≤ t25 ∧ t25 < (↑8 : Int)) ∧
 ∃ (x : Int),
 lget
 [.int .u64 t24_0, .int .u64 t24_1, .int .u64 t24_2, .int .u64 t24_3, .int .u64 t24_4, .int .u64 t24_5, .int .u64 t24_6,
 .int .u64 t24_7]
 (t25.toNat * 1) =
 some (.int .u64 x) ∧
 C Tryz.prog 176 #[.pointer d, .int .i64 (IntKind.i64.wrap (IntKind.i64.wrap (at0 * 8) + t25))] h fun (r : Value) (h' : Heap) =>
 ∃ (x_1 : Int), r = .int .u64 x_1 ∧ xsIf (decide (x_1 ≠ x)) (Q (.bool false) h') (line_Took.L5 d at0 t24_0 t24_1 t24_2 t24_3 t24_4 t24_5 t24_6 t24_7 (IntKind.i64.wrap (t25 + 1)) h' Q))
 (Q (.bool true) h)
theorem line_Took.ok {d : Option Addr} {at0 : Int} {s : ByteArray} {h : Heap} {Q : Value → Heap → Prop} (hk : line_Took.wp d at0 s h Q) : C Tryz.prog 101 #[.pointer d, .int .i64 at0, .string s] h Q :=
 C_of_xs (H := line_Took.H) (lcuts := line_Took.lc) (rcuts := line_Took.rc) (l := [.pointer d, .int .i64 at0, .string s]) 2000 mixed Tryz.func101 rfl (by kernel_rfl) (@cast (line_Took.wp d at0 s h Q) _ (by kernel_rfl) hk)
theorem line_Took.J4.ok {d : Option Addr} {at0 : Int} {w_0 : Int} {w_1 : Int} {w_2 : Int} {w_3 : Int} {w_4 : Int} {w_5 : Int} {w_6 : Int} {w_7 : Int} {h : Heap} {Q : Value → Heap → Prop} (hk : line_Took.J4.wp d at0 w_0 w_1 w_2 w_3 w_4 w_5 w_6 w_7 h Q) : line_Took.J4 d at0 w_0 w_1 w_2 w_3 w_4 w_5 w_6 w_7 h Q :=
 xs_ok (H := line_Took.H) (lcuts := line_Took.lc) (rcuts := []) (fn := Tryz.f101) mixed Tryz.func101 2000 _ _ _ (@cast (line_Took.J4.wp d at0 w_0 w_1 w_2 w_3 w_4 w_5 w_6 w_7 h Q) _ (by kernel_rfl) hk)
theorem line_Took.L5.ok {d : Option Addr} {at0 : Int} {t24_0 : Int} {t24_1 : Int} {t24_2 : Int} {t24_3 : Int} {t24_4 : Int} {t24_5 : Int} {t24_6 : Int} {t24_7 : Int} {t25 : Int} {h : Heap} {Q : Value → Heap → Prop} (hk : line_Took.L5.wp d at0 t24_0 t24_1 t24_2 t24_3 t24_4 t24_5 t24_6 t24_7 t25 h Q) : line_Took.L5 d at0 t24_0 t24_1 t24_2 t24_3 t24_4 t24_5 t24_6 t24_7 t25 h Q :=
 xs_ok (H := line_Took.H) (lcuts := line_Took.lc) (rcuts := line_Took.rc) (fn := Tryz.f101) mixed Tryz.func101 2000 _ _ _ (@cast (line_Took.L5.wp d at0 t24_0 t24_1 t24_2 t24_3 t24_4 t24_5 t24_6 t24_7 t25 h Q) _ (by kernel_rfl) hk)

/-! (*gabion/spare.Bank).Left -/
def spare_Bank_Left.H : Hn := ⟨[], [], [⟨3, .q 0 (.q 1 (.q 2 (.q 3 (.q 5 (.q 6 (.q 7 (.ld 4 1536 (.q 8 (.q 9 (.q 10 (.nil))))))))))), []⟩], []⟩
def spare_Bank_Left.lc : List Cut := []
def spare_Bank_Left.rc : List Cut := []
def spare_Bank_Left.wp (b : Option Addr) (h : Heap) (Q : Value → Heap → Prop) : Prop :=
 xsIf b.isNone (Q (.int .i64 0) h)
 (atBase b fun (b_1 o : Nat) =>
 atBase b fun (b o_1 : Nat) => ∃ (x : Int), h.cell b_1 (o + 1 + 2) = some (.int .i64 x) ∧ ∃ (x_1 : Int), h.cell b (o_1 + 4) = some (.int .i64 x_1) ∧ Q (.int .i64 (IntKind.i64.wrap (x - x_1))) h)
theorem spare_Bank_Left.ok {b : Option Addr} {h : Heap} {Q : Value → Heap → Prop} (hk : spare_Bank_Left.wp b h Q) : C Tryz.prog 165 #[.pointer b] h Q :=
 C_of_xs (H := spare_Bank_Left.H) (lcuts := spare_Bank_Left.lc) (rcuts := spare_Bank_Left.rc) (l := [.pointer b]) 2000 mixed Tryz.func165 rfl (by kernel_rfl) (@cast (spare_Bank_Left.wp b h Q) _ (by kernel_rfl) hk)
end Go.Gb
