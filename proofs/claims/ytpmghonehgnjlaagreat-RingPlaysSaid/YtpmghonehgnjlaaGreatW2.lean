/- Own text for the seat: W2. -/
import Derived.Test.YtpmghonehgnjlaaGreatW1
set_option linter.unusedVariables false
set_option linter.unusedSimpArgs false
set_option linter.unnecessarySimpa false
set_option linter.deprecated false
set_option maxRecDepth 100000
namespace Go.Gb
open Go.Proofs

/-! (*gabion/spare.Bank).say -/
def spare_Bank_say.H : Hn := ⟨[], [], [⟨1, .q 0 (.q 1 (.q 2 (.q 4 (.q 5 (.q 6 (.q 7 (.q 9 (.q 10 (.q 11 (.q 15 (.q 16 (.q 17 (.q 20 (.br 3 (.br 8 (.br 12 (.q 13 (.q 14 (.br 18 (.q 19 (.q 21 (.q 22 (.q 23 (.nil))))) (.one 21 (.q 18 (.q 19 (.q 22 (.q 23 (.nil))))))))) (.br 18 (.q 19 (.br 12 (.q 13 (.q 14 (.q 21 (.q 22 (.q 23 (.nil)))))) (.one 21 (.q 12 (.q 13 (.q 14 (.q 22 (.q 23 (.nil))))))))) (.one 21 (.br 12 (.q 13 (.q 14 (.q 18 (.q 19 (.q 22 (.q 23 (.nil))))))) (.one 18 (.q 19 (.q 12 (.q 13 (.q 14 (.q 22 (.q 23 (.nil)))))))))))) (.br 12 (.q 13 (.br 8 (.q 14 (.br 18 (.q 19 (.q 21 (.q 22 (.q 23 (.nil))))) (.one 21 (.q 18 (.q 19 (.q 22 (.q 23 (.nil)))))))) (.br 18 (.q 19 (.br 8 (.q 14 (.q 21 (.q 22 (.q 23 (.nil))))) (.one 21 (.q 8 (.q 14 (.q 22 (.q 23 (.nil)))))))) (.one 21 (.br 8 (.q 14 (.q 18 (.q 19 (.q 22 (.q 23 (.nil)))))) (.one 18 (.q 19 (.q 8 (.q 14 (.q 22 (.q 23 (.nil)))))))))))) (.br 18 (.q 19 (.br 8 (.br 12 (.q 13 (.q 14 (.q 21 (.q 22 (.q 23 (.nil)))))) (.one 21 (.q 12 (.q 13 (.q 14 (.q 22 (.q 23 (.nil)))))))) (.br 12 (.q 13 (.br 8 (.q 14 (.q 21 (.q 22 (.q 23 (.nil))))) (.one 21 (.q 8 (.q 14 (.q 22 (.q 23 (.nil)))))))) (.one 21 (.ld 12 12607488 (.q 13 (.q 8 (.q 14 (.q 22 (.q 23 (.nil))))))))))) (.one 21 (.br 8 (.br 12 (.q 13 (.q 14 (.q 18 (.q 19 (.q 22 (.q 23 (.nil))))))) (.one 18 (.q 19 (.q 12 (.q 13 (.q 14 (.q 22 (.q 23 (.nil))))))))) (.br 12 (.q 13 (.br 8 (.q 14 (.q 18 (.q 19 (.q 22 (.q 23 (.nil)))))) (.one 18 (.q 19 (.q 8 (.q 14 (.q 22 (.q 23 (.nil))))))))) (.one 18 (.q 19 (.ld 12 12607488 (.q 13 (.q 8 (.q 14 (.q 22 (.q 23 (.nil))))))))))))))) (.br 8 (.br 3 (.br 12 (.q 13 (.q 14 (.br 18 (.q 19 (.q 21 (.q 22 (.q 23 (.nil))))) (.one 21 (.q 18 (.q 19 (.q 22 (.q 23 (.nil))))))))) (.br 18 (.q 19 (.br 12 (.q 13 (.q 14 (.q 21 (.q 22 (.q 23 (.nil)))))) (.one 21 (.q 12 (.q 13 (.q 14 (.q 22 (.q 23 (.nil))))))))) (.one 21 (.br 12 (.q 13 (.q 14 (.q 18 (.q 19 (.q 22 (.q 23 (.nil))))))) (.one 18 (.q 19 (.q 12 (.q 13 (.q 14 (.q 22 (.q 23 (.nil)))))))))))) (.br 12 (.q 13 (.q 14 (.br 3 (.br 18 (.q 19 (.q 21 (.q 22 (.q 23 (.nil))))) (.one 21 (.q 18 (.q 19 (.q 22 (.q 23 (.nil))))))) (.br 18 (.q 19 (.br 3 (.q 21 (.q 22 (.q 23 (.nil)))) (.one 21 (.q 3 (.q 22 (.q 23 (.nil))))))) (.one 21 (.ld 18 13107200 (.q 19 (.q 3 (.q 22 (.q 23 (.nil))))))))))) (.br 18 (.q 19 (.br 3 (.br 12 (.q 13 (.q 14 (.q 21 (.q 22 (.q 23 (.nil)))))) (.one 21 (.q 12 (.q 13 (.q 14 (.q 22 (.q 23 (.nil)))))))) (.br 12 (.q 13 (.q 14 (.br 3 (.q 21 (.q 22 (.q 23 (.nil)))) (.one 21 (.q 3 (.q 22 (.q 23 (.nil)))))))) (.one 21 (.ld 12 12607488 (.q 13 (.q 14 (.q 3 (.q 22 (.q 23 (.nil))))))))))) (.one 21 (.br 3 (.br 12 (.q 13 (.q 14 (.q 18 (.q 19 (.q 22 (.q 23 (.nil))))))) (.one 18 (.q 19 (.q 12 (.q 13 (.q 14 (.q 22 (.q 23 (.nil))))))))) (.br 12 (.q 13 (.q 14 (.ld 18 13107200 (.q 19 (.q 3 (.q 22 (.q 23 (.nil)))))))) (.one 18 (.q 19 (.ld 12 12607488 (.q 13 (.q 14 (.q 3 (.q 22 (.q 23 (.nil))))))))))))))) (.br 12 (.q 13 (.br 3 (.br 8 (.q 14 (.br 18 (.q 19 (.q 21 (.q 22 (.q 23 (.nil))))) (.one 21 (.q 18 (.q 19 (.q 22 (.q 23 (.nil)))))))) (.br 18 (.q 19 (.br 8 (.q 14 (.q 21 (.q 22 (.q 23 (.nil))))) (.one 21 (.q 8 (.q 14 (.q 22 (.q 23 (.nil)))))))) (.one 21 (.br 8 (.q 14 (.q 18 (.q 19 (.q 22 (.q 23 (.nil)))))) (.one 18 (.q 19 (.q 8 (.q 14 (.q 22 (.q 23 (.nil))))))))))) (.br 8 (.q 14 (.br 3 (.br 18 (.q 19 (.q 21 (.q 22 (.q 23 (.nil))))) (.one 21 (.q 18 (.q 19 (.q 22 (.q 23 (.nil))))))) (.br 18 (.q 19 (.br 3 (.q 21 (.q 22 (.q 23 (.nil)))) (.one 21 (.q 3 (.q 22 (.q 23 (.nil))))))) (.one 21 (.ld 18 13107200 (.q 19 (.q 3 (.q 22 (.q 23 (.nil)))))))))) (.br 18 (.q 19 (.br 3 (.br 8 (.q 14 (.q 21 (.q 22 (.q 23 (.nil))))) (.one 21 (.q 8 (.q 14 (.q 22 (.q 23 (.nil))))))) (.br 8 (.q 14 (.br 3 (.q 21 (.q 22 (.q 23 (.nil)))) (.one 21 (.q 3 (.q 22 (.q 23 (.nil))))))) (.one 21 (.ld 8 12599296 (.q 14 (.q 3 (.q 22 (.q 23 (.nil)))))))))) (.one 21 (.br 3 (.br 8 (.q 14 (.q 18 (.q 19 (.q 22 (.q 23 (.nil)))))) (.one 18 (.q 19 (.q 8 (.q 14 (.q 22 (.q 23 (.nil)))))))) (.br 8 (.q 14 (.ld 18 13107200 (.q 19 (.q 3 (.q 22 (.q 23 (.nil))))))) (.one 18 (.q 19 (.ld 8 12599296 (.q 14 (.q 3 (.q 22 (.q 23 (.nil))))))))))))))) (.br 18 (.q 19 (.br 3 (.br 8 (.br 12 (.q 13 (.q 14 (.q 21 (.q 22 (.q 23 (.nil)))))) (.one 21 (.q 12 (.q 13 (.q 14 (.q 22 (.q 23 (.nil)))))))) (.br 12 (.q 13 (.br 8 (.q 14 (.q 21 (.q 22 (.q 23 (.nil))))) (.one 21 (.q 8 (.q 14 (.q 22 (.q 23 (.nil)))))))) (.one 21 (.ld 12 12607488 (.q 13 (.q 8 (.q 14 (.q 22 (.q 23 (.nil)))))))))) (.br 8 (.br 3 (.br 12 (.q 13 (.q 14 (.q 21 (.q 22 (.q 23 (.nil)))))) (.one 21 (.q 12 (.q 13 (.q 14 (.q 22 (.q 23 (.nil)))))))) (.br 12 (.q 13 (.q 14 (.br 3 (.q 21 (.q 22 (.q 23 (.nil)))) (.one 21 (.q 3 (.q 22 (.q 23 (.nil)))))))) (.one 21 (.ld 12 12607488 (.q 13 (.q 14 (.q 3 (.q 22 (.q 23 (.nil)))))))))) (.br 12 (.q 13 (.br 3 (.br 8 (.q 14 (.q 21 (.q 22 (.q 23 (.nil))))) (.one 21 (.q 8 (.q 14 (.q 22 (.q 23 (.nil))))))) (.br 8 (.q 14 (.br 3 (.q 21 (.q 22 (.q 23 (.nil)))) (.one 21 (.q 3 (.q 22 (.q 23 (.nil))))))) (.one 21 (.ld 8 12599296 (.q 14 (.q 3 (.q 22 (.q 23 (.nil)))))))))) (.one 21 (.ld 12 12607488 (.q 13 (.ld 8 12599296 (.q 14 (.q 3 (.q 22 (.q 23 (.nil))))))))))))) (.one 21 (.br 3 (.br 8 (.br 12 (.q 13 (.q 14 (.q 18 (.q 19 (.q 22 (.q 23 (.nil))))))) (.one 18 (.q 19 (.q 12 (.q 13 (.q 14 (.q 22 (.q 23 (.nil))))))))) (.br 12 (.q 13 (.br 8 (.q 14 (.q 18 (.q 19 (.q 22 (.q 23 (.nil)))))) (.one 18 (.q 19 (.q 8 (.q 14 (.q 22 (.q 23 (.nil))))))))) (.one 18 (.q 19 (.ld 12 12607488 (.q 13 (.q 8 (.q 14 (.q 22 (.q 23 (.nil))))))))))) (.br 8 (.br 3 (.br 12 (.q 13 (.q 14 (.q 18 (.q 19 (.q 22 (.q 23 (.nil))))))) (.one 18 (.q 19 (.q 12 (.q 13 (.q 14 (.q 22 (.q 23 (.nil))))))))) (.br 12 (.q 13 (.q 14 (.ld 18 13107200 (.q 19 (.q 3 (.q 22 (.q 23 (.nil)))))))) (.one 18 (.q 19 (.ld 12 12607488 (.q 13 (.q 14 (.q 3 (.q 22 (.q 23 (.nil))))))))))) (.br 12 (.q 13 (.br 3 (.br 8 (.q 14 (.q 18 (.q 19 (.q 22 (.q 23 (.nil)))))) (.one 18 (.q 19 (.q 8 (.q 14 (.q 22 (.q 23 (.nil)))))))) (.br 8 (.q 14 (.ld 18 13107200 (.q 19 (.q 3 (.q 22 (.q 23 (.nil))))))) (.one 18 (.q 19 (.ld 8 12599296 (.q 14 (.q 3 (.q 22 (.q 23 (.nil))))))))))) (.one 18 (.q 19 (.ld 12 12607488 (.q 13 (.ld 8 12599296 (.q 14 (.q 3 (.q 22 (.q 23 (.nil))))))))))))))))))))))))))))))), []⟩, ⟨3, .q 0 (.q 1 (.q 2 (.q 3 (.q 5 (.br 4 (.q 6 (.q 7 (.q 8 (.nil)))) (.one 6 (.q 4 (.q 7 (.q 8 (.nil)))))))))), []⟩], []⟩
def spare_Bank_say.lc : List Cut := []
def spare_Bank_say.rc : List Cut := [⟨2, [0, 1, 5], []⟩]
def spare_Bank_say.J2 (b : Option Addr) (n : Int) (e : Int) (h : Heap) (Q : Value → Heap → Prop) : Prop :=
 TW Tryz.prog 128 40 [.code (cAt (bodyOf Tryz.f128) [1, 1, 0, 0]), .code (cAt (bodyOf Tryz.f128) [1, 1, 0, 1]), .code (cAt (bodyOf Tryz.f128) [1, 1, 1])] ⟨[(0, .v (.pointer b)), (1, .v (.int .u64 n)), (5, .v (.int .i64 e))], []⟩ h Q
def spare_Bank_say.wp (b : Option Addr) (n : Int) (h : Heap) (Q : Value → Heap → Prop) : Prop :=
 atBase b fun (b_1 o : Nat) =>
 atBase b fun (b_2 o_1 : Nat) =>
 atBase b fun (b_3 o_2 : Nat) =>
 atBase b fun (b_4 o_3 : Nat) =>
 (∃ (x : Option Addr),
 h.cell b_1 (o + 0) = some (.pointer x) ∧
 (∃ (x_1 : Int),
 h.cell b_2 (o_1 + 1 + 0) = some (.int .i64 x_1) ∧
 (∃ (x_2 : Int),
 h.cell b_3 (o_2 + 4) = some (.int .i64 x_2) ∧
 (∃ (x_3 : Int),
 h.cell b_4 (o_3 + 4) = some (.int .i64 x_3) ∧
 C Tryz.prog 147 #[.int .u64 n] h fun (r : Value) (h' : Heap) =>
 ∃ (x_4 : Int),
 r = .int .u64 x_4 ∧
 C Tryz.prog 84 #[.pointer x, .int .i64 (IntKind.i64.wrap (x_1 + iquo .i64 x_2 8)), .int .i64 (irem x_3 8), .int .u64 x_4] h'
 fun (r : Value) (h' : Heap) => ∃ (x : Int), r = .int .i64 x ∧ spare_Bank_say.J2 b n x h' Q) ∧
 C Tryz.prog 147 #[.int .u64 n] h fun (r : Value) (h' : Heap) =>
 ∃ (x_3 : Int),
 r = .int .u64 x_3 ∧
 ∃ (x_4 : Int),
 h'.cell b_4 (o_3 + 4) = some (.int .i64 x_4) ∧
 C Tryz.prog 84 #[.pointer x, .int .i64 (IntKind.i64.wrap (x_1 + iquo .i64 x_2 8)), .int .i64 (irem x_4 8), .int .u64 x_3] h'
 fun (r : Value) (h' : Heap) => ∃ (x : Int), r = .int .i64 x ∧ spare_Bank_say.J2 b n x h' Q) ∧
 (∃ (x_2 : Int),
 h.cell b_4 (o_3 + 4) = some (.int .i64 x_2) ∧
 (∃ (x_3 : Int),
 h.cell b_3 (o_2 + 4) = some (.int .i64 x_3) ∧
 C Tryz.prog 147 #[.int .u64 n] h fun (r : Value) (h' : Heap) =>
 ∃ (x_4 : Int),
 r = .int .u64 x_4 ∧
 C Tryz.prog 84 #[.pointer x, .int .i64 (IntKind.i64.wrap (x_1 + iquo .i64 x_3 8)), .int .i64 (irem x_2 8), .int .u64 x_4] h'
 fun (r : Value) (h' : Heap) => ∃ (x : Int), r = .int .i64 x ∧ spare_Bank_say.J2 b n x h' Q) ∧
 C Tryz.prog 147 #[.int .u64 n] h fun (r : Value) (h' : Heap) =>
 ∃ (x_3 : Int),
 r = .int .u64 x_3 ∧
 ∃ (x_4 : Int),
 h'.cell b_3 (o_2 + 4) = some (.int .i64 x_4) ∧
 C Tryz.prog 84 #[.pointer x, .int .i64 (IntKind.i64.wrap (x_1 + iquo .i64 x_4 8)), .int .i64 (irem x_2 8), .int .u64 x_3] h'
 fun (r : Value) (h' : Heap) => ∃ (x : Int), r = .int .i64 x ∧ spare_Bank_say.J2 b n x h' Q) ∧
 C Tryz.prog 147 #[.int .u64 n] h fun (r : Value) (h' : Heap) =>
 ∃ (x_2 : Int),
 r = .int .u64 x_2 ∧
 (∃ (x_3 : Int),
 h'.cell b_3 (o_2 + 4) = some (.int .i64 x_3) ∧
 ∃ (x_4 : Int),
 h'.cell b_4 (o_3 + 4) = some (.int .i64 x_4) ∧
 C Tryz.prog 84 #[.pointer x, .int .i64 (IntKind.i64.wrap (x_1 + iquo .i64 x_3 8)), .int .i64 (irem x_4 8), .int .u64 x_2] h'
 fun (r : Value) (h' : Heap) => ∃ (x : Int), r = .int .i64 x ∧ spare_Bank_say.J2 b n x h' Q) ∧
 ∃ (x_3 : Int),
 h'.cell b_4 (o_3 + 4) = some (.int .i64 x_3) ∧
 ∃ (x_4 : Int),
 h'.cell b_3 (o_2 + 4) = some (.int .i64 x_4) ∧
 C Tryz.prog 84 #[.pointer x, .int .i64 (IntKind.i64.wrap (x_1 + iquo .i64 x_4 8)), .int .i64 (irem x_3 8), .int .u64 x_2] h'
 fun (r : Value) (h' : Heap) => ∃ (x : Int), r = .int .i64 x ∧ spare_Bank_say.J2 b n x h' Q) ∧
 (∃ (x_1 : Int),
 h.cell b_3 (o_2 + 4) = some (.int .i64 x_1) ∧
 (∃ (x_2 : Int),
 h.cell b_2 (o_1 + 1 + 0) = some (.int .i64 x_2) ∧
 (∃ (x_3 : Int),
 h.cell b_4 (o_3 + 4) = some (.int .i64 x_3) ∧
 C Tryz.prog 147 #[.int .u64 n] h fun (r : Value) (h' : Heap) =>
 ∃ (x_4 : Int),
 r = .int .u64 x_4 ∧
 C Tryz.prog 84 #[.pointer x, .int .i64 (IntKind.i64.wrap (x_2 + iquo .i64 x_1 8)), .int .i64 (irem x_3 8), .int .u64 x_4] h'
 fun (r : Value) (h' : Heap) => ∃ (x : Int), r = .int .i64 x ∧ spare_Bank_say.J2 b n x h' Q) ∧
 C Tryz.prog 147 #[.int .u64 n] h fun (r : Value) (h' : Heap) =>
 ∃ (x_3 : Int),
 r = .int .u64 x_3 ∧
 ∃ (x_4 : Int),
 h'.cell b_4 (o_3 + 4) = some (.int .i64 x_4) ∧
 C Tryz.prog 84 #[.pointer x, .int .i64 (IntKind.i64.wrap (x_2 + iquo .i64 x_1 8)), .int .i64 (irem x_4 8), .int .u64 x_3] h'
 fun (r : Value) (h' : Heap) => ∃ (x : Int), r = .int .i64 x ∧ spare_Bank_say.J2 b n x h' Q) ∧
 (∃ (x_2 : Int),
 h.cell b_4 (o_3 + 4) = some (.int .i64 x_2) ∧
 (∃ (x_3 : Int),
 h.cell b_2 (o_1 + 1 + 0) = some (.int .i64 x_3) ∧
 C Tryz.prog 147 #[.int .u64 n] h fun (r : Value) (h' : Heap) =>
 ∃ (x_4 : Int),
 r = .int .u64 x_4 ∧
 C Tryz.prog 84 #[.pointer x, .int .i64 (IntKind.i64.wrap (x_3 + iquo .i64 x_1 8)), .int .i64 (irem x_2 8), .int .u64 x_4] h'
 fun (r : Value) (h' : Heap) => ∃ (x : Int), r = .int .i64 x ∧ spare_Bank_say.J2 b n x h' Q) ∧
 C Tryz.prog 147 #[.int .u64 n] h fun (r : Value) (h' : Heap) =>
 ∃ (x_3 : Int),
 r = .int .u64 x_3 ∧
 ∃ (x_4 : Int),
 h'.cell b_2 (o_1 + 1 + 0) = some (.int .i64 x_4) ∧
 C Tryz.prog 84 #[.pointer x, .int .i64 (IntKind.i64.wrap (x_4 + iquo .i64 x_1 8)), .int .i64 (irem x_2 8), .int .u64 x_3] h'
 fun (r : Value) (h' : Heap) => ∃ (x : Int), r = .int .i64 x ∧ spare_Bank_say.J2 b n x h' Q) ∧
 C Tryz.prog 147 #[.int .u64 n] h fun (r : Value) (h' : Heap) =>
 ∃ (x_2 : Int),
 r = .int .u64 x_2 ∧
 (∃ (x_3 : Int),
 h'.cell b_2 (o_1 + 1 + 0) = some (.int .i64 x_3) ∧
 ∃ (x_4 : Int),
 h'.cell b_4 (o_3 + 4) = some (.int .i64 x_4) ∧
 C Tryz.prog 84 #[.pointer x, .int .i64 (IntKind.i64.wrap (x_3 + iquo .i64 x_1 8)), .int .i64 (irem x_4 8), .int .u64 x_2] h'
 fun (r : Value) (h' : Heap) => ∃ (x : Int), r = .int .i64 x ∧ spare_Bank_say.J2 b n x h' Q) ∧
 ∃ (x_3 : Int),
 h'.cell b_4 (o_3 + 4) = some (.int .i64 x_3) ∧
 ∃ (x_4 : Int),
 h'.cell b_2 (o_1 + 1 + 0) = some (.int .i64 x_4) ∧
 C Tryz.prog 84 #[.pointer x, .int .i64 (IntKind.i64.wrap (x_4 + iquo .i64 x_1 8)), .int .i64 (irem x_3 8), .int .u64 x_2] h'
 fun (r : Value) (h' : Heap) => ∃ (x : Int), r = .int .i64 x ∧ spare_Bank_say.J2 b n x h' Q) ∧
 (∃ (x_1 : Int),
 h.cell b_4 (o_3 + 4) = some (.int .i64 x_1) ∧
 (∃ (x_2 : Int),
 h.cell b_2 (o_1 + 1 + 0) = some (.int .i64 x_2) ∧
 (∃ (x_3 : Int),
 h.cell b_3 (o_2 + 4) = some (.int .i64 x_3) ∧
 C Tryz.prog 147 #[.int .u64 n] h fun (r : Value) (h' : Heap) =>
 ∃ (x_4 : Int),
 r = .int .u64 x_4 ∧
 C Tryz.prog 84 #[.pointer x, .int .i64 (IntKind.i64.wrap (x_2 + iquo .i64 x_3 8)), .int .i64 (irem x_1 8), .int .u64 x_4] h'
 fun (r : Value) (h' : Heap) => ∃ (x : Int), r = .int .i64 x ∧ spare_Bank_say.J2 b n x h' Q) ∧
 C Tryz.prog 147 #[.int .u64 n] h fun (r : Value) (h' : Heap) =>
 ∃ (x_3 : Int),
 r = .int .u64 x_3 ∧
 ∃ (x_4 : Int),
 h'.cell b_3 (o_2 + 4) = some (.int .i64 x_4) ∧
 C Tryz.prog 84 #[.pointer x, .int .i64 (IntKind.i64.wrap (x_2 + iquo .i64 x_4 8)), .int .i64 (irem x_1 8), .int .u64 x_3] h'
 fun (r : Value) (h' : Heap) => ∃ (x : Int), r = .int .i64 x ∧ spare_Bank_say.J2 b n x h' Q) ∧
 (∃ (x_2 : Int),
 h.cell b_3 (o_2 + 4) = some (.int .i64 x_2) ∧
 (∃ (x_3 : Int),
 h.cell b_2 (o_1 + 1 + 0) = some (.int .i64 x_3) ∧
 C Tryz.prog 147 #[.int .u64 n] h fun (r : Value) (h' : Heap) =>
 ∃ (x_4 : Int),
 r = .int .u64 x_4 ∧
 C Tryz.prog 84 #[.pointer x, .int .i64 (IntKind.i64.wrap (x_3 + iquo .i64 x_2 8)), .int .i64 (irem x_1 8), .int .u64 x_4] h'
 fun (r : Value) (h' : Heap) => ∃ (x : Int), r = .int .i64 x ∧ spare_Bank_say.J2 b n x h' Q) ∧
 C Tryz.prog 147 #[.int .u64 n] h fun (r : Value) (h' : Heap) =>
 ∃ (x_3 : Int),
 r = .int .u64 x_3 ∧
 ∃ (x_4 : Int),
 h'.cell b_2 (o_1 + 1 + 0) = some (.int .i64 x_4) ∧
 C Tryz.prog 84 #[.pointer x, .int .i64 (IntKind.i64.wrap (x_4 + iquo .i64 x_2 8)), .int .i64 (irem x_1 8), .int .u64 x_3] h'
 fun (r : Value) (h' : Heap) => ∃ (x : Int), r = .int .i64 x ∧ spare_Bank_say.J2 b n x h' Q) ∧
 C Tryz.prog 147 #[.int .u64 n] h fun (r : Value) (h' : Heap) =>
 ∃ (x_2 : Int),
 r = .int .u64 x_2 ∧
 ∃ (x_3 : Int),
 h'.cell b_3 (o_2 + 4) = some (.int .i64 x_3) ∧
 ∃ (x_4 : Int),
 h'.cell b_2 (o_1 + 1 + 0) = some (.int .i64 x_4) ∧
 C Tryz.prog 84 #[.pointer x, .int .i64 (IntKind.i64.wrap (x_4 + iquo .i64 x_3 8)), .int .i64 (irem x_1 8), .int .u64 x_2] h'
 fun (r : Value) (h' : Heap) => ∃ (x : Int), r = .int .i64 x ∧ spare_Bank_say.J2 b n x h' Q) ∧
 C Tryz.prog 147 #[.int .u64 n] h fun (r : Value) (h' : Heap) =>
 ∃ (x_1 : Int),
 r = .int .u64 x_1 ∧
 (∃ (x_2 : Int),
 h'.cell b_2 (o_1 + 1 + 0) = some (.int .i64 x_2) ∧
 (∃ (x_3 : Int),
 h'.cell b_3 (o_2 + 4) = some (.int .i64 x_3) ∧
 ∃ (x_4 : Int),
 h'.cell b_4 (o_3 + 4) = some (.int .i64 x_4) ∧
 C Tryz.prog 84 #[.pointer x, .int .i64 (IntKind.i64.wrap (x_2 + iquo .i64 x_3 8)), .int .i64 (irem x_4 8), .int .u64 x_1] h'
 fun (r : Value) (h' : Heap) => ∃ (x : Int), r = .int .i64 x ∧ spare_Bank_say.J2 b n x h' Q) ∧
 ∃ (x_3 : Int),
 h'.cell b_4 (o_3 + 4) = some (.int .i64 x_3) ∧
 ∃ (x_4 : Int),
 h'.cell b_3 (o_2 + 4) = some (.int .i64 x_4) ∧
 C Tryz.prog 84 #[.pointer x, .int .i64 (IntKind.i64.wrap (x_2 + iquo .i64 x_4 8)), .int .i64 (irem x_3 8), .int .u64 x_1] h'
 fun (r : Value) (h' : Heap) => ∃ (x : Int), r = .int .i64 x ∧ spare_Bank_say.J2 b n x h' Q) ∧
 (∃ (x_2 : Int),
 h'.cell b_3 (o_2 + 4) = some (.int .i64 x_2) ∧
 (∃ (x_3 : Int),
 h'.cell b_2 (o_1 + 1 + 0) = some (.int .i64 x_3) ∧
 ∃ (x_4 : Int),
 h'.cell b_4 (o_3 + 4) = some (.int .i64 x_4) ∧
 C Tryz.prog 84 #[.pointer x, .int .i64 (IntKind.i64.wrap (x_3 + iquo .i64 x_2 8)), .int .i64 (irem x_4 8), .int .u64 x_1] h'
 fun (r : Value) (h' : Heap) => ∃ (x : Int), r = .int .i64 x ∧ spare_Bank_say.J2 b n x h' Q) ∧
 ∃ (x_3 : Int),
 h'.cell b_4 (o_3 + 4) = some (.int .i64 x_3) ∧
 ∃ (x_4 : Int),
 h'.cell b_2 (o_1 + 1 + 0) = some (.int .i64 x_4) ∧
 C Tryz.prog 84 #[.pointer x, .int .i64 (IntKind.i64.wrap (x_4 + iquo .i64 x_2 8)), .int .i64 (irem x_3 8), .int .u64 x_1] h'
 fun (r : Value) (h' : Heap) => ∃ (x : Int), r = .int .i64 x ∧ spare_Bank_say.J2 b n x h' Q) ∧
 ∃ (x_2 : Int),
 h'.cell b_4 (o_3 + 4) = some (.int .i64 x_2) ∧
 ∃ (x_3 : Int),
 h'.cell b_3 (o_2 + 4) = some (.int .i64 x_3) ∧
 ∃ (x_4 : Int),
 h'.cell b_2 (o_1 + 1 + 0) = some (.int .i64 x_4) ∧
 C Tryz.prog 84 #[.pointer x, .int .i64 (IntKind.i64.wrap (x_4 + iquo .i64 x_3 8)), .int .i64 (irem x_2 8), .int .u64 x_1] h'
 fun (r : Value) (h' : Heap) => ∃ (x : Int), r = .int .i64 x ∧ spare_Bank_say.J2 b n x h' Q) ∧
 (∃ (x : Int),
 h.cell b_2 (o_1 + 1 + 0) = some (.int .i64 x) ∧
 (∃ (x_1 : Option Addr),
 h.cell b_1 (o + 0) = some (.pointer x_1) ∧
 (∃ (x_2 : Int),
 h.cell b_3 (o_2 + 4) = some (.int .i64 x_2) ∧
 (∃ (x_3 : Int),
 h.cell b_4 (o_3 + 4) = some (.int .i64 x_3) ∧
 C Tryz.prog 147 #[.int .u64 n] h fun (r : Value) (h' : Heap) =>
 ∃ (x_4 : Int),
 r = .int .u64 x_4 ∧
 C Tryz.prog 84 #[.pointer x_1, .int .i64 (IntKind.i64.wrap (x + iquo .i64 x_2 8)), .int .i64 (irem x_3 8), .int .u64 x_4] h'
 fun (r : Value) (h' : Heap) => ∃ (x : Int), r = .int .i64 x ∧ spare_Bank_say.J2 b n x h' Q) ∧
 C Tryz.prog 147 #[.int .u64 n] h fun (r : Value) (h' : Heap) =>
 ∃ (x_3 : Int),
 r = .int .u64 x_3 ∧
 ∃ (x_4 : Int),
 h'.cell b_4 (o_3 + 4) = some (.int .i64 x_4) ∧
 C Tryz.prog 84 #[.pointer x_1, .int .i64 (IntKind.i64.wrap (x + iquo .i64 x_2 8)), .int .i64 (irem x_4 8), .int .u64 x_3] h'
 fun (r : Value) (h' : Heap) => ∃ (x : Int), r = .int .i64 x ∧ spare_Bank_say.J2 b n x h' Q) ∧
 (∃ (x_2 : Int),
 h.cell b_4 (o_3 + 4) = some (.int .i64 x_2) ∧
 (∃ (x_3 : Int),
 h.cell b_3 (o_2 + 4) = some (.int .i64 x_3) ∧
 C Tryz.prog 147 #[.int .u64 n] h fun (r : Value) (h' : Heap) =>
 ∃ (x_4 : Int),
 r = .int .u64 x_4 ∧
 C Tryz.prog 84 #[.pointer x_1, .int .i64 (IntKind.i64.wrap (x + iquo .i64 x_3 8)), .int .i64 (irem x_2 8), .int .u64 x_4] h'
 fun (r : Value) (h' : Heap) => ∃ (x : Int), r = .int .i64 x ∧ spare_Bank_say.J2 b n x h' Q) ∧
 C Tryz.prog 147 #[.int .u64 n] h fun (r : Value) (h' : Heap) =>
 ∃ (x_3 : Int),
 r = .int .u64 x_3 ∧
 ∃ (x_4 : Int),
 h'.cell b_3 (o_2 + 4) = some (.int .i64 x_4) ∧
 C Tryz.prog 84 #[.pointer x_1, .int .i64 (IntKind.i64.wrap (x + iquo .i64 x_4 8)), .int .i64 (irem x_2 8), .int .u64 x_3] h'
 fun (r : Value) (h' : Heap) => ∃ (x : Int), r = .int .i64 x ∧ spare_Bank_say.J2 b n x h' Q) ∧
 C Tryz.prog 147 #[.int .u64 n] h fun (r : Value) (h' : Heap) =>
 ∃ (x_2 : Int),
 r = .int .u64 x_2 ∧
 (∃ (x_3 : Int),
 h'.cell b_3 (o_2 + 4) = some (.int .i64 x_3) ∧
 ∃ (x_4 : Int),
 h'.cell b_4 (o_3 + 4) = some (.int .i64 x_4) ∧
 C Tryz.prog 84 #[.pointer x_1, .int .i64 (IntKind.i64.wrap (x + iquo .i64 x_3 8)), .int .i64 (irem x_4 8), .int .u64 x_2] h'
 fun (r : Value) (h' : Heap) => ∃ (x : Int), r = .int .i64 x ∧ spare_Bank_say.J2 b n x h' Q) ∧
 ∃ (x_3 : Int),
 h'.cell b_4 (o_3 + 4) = some (.int .i64 x_3) ∧
 ∃ (x_4 : Int),
 h'.cell b_3 (o_2 + 4) = some (.int .i64 x_4) ∧
 C Tryz.prog 84 #[.pointer x_1, .int .i64 (IntKind.i64.wrap (x + iquo .i64 x_4 8)), .int .i64 (irem x_3 8), .int .u64 x_2] h'
 fun (r : Value) (h' : Heap) => ∃ (x : Int), r = .int .i64 x ∧ spare_Bank_say.J2 b n x h' Q) ∧
 (∃ (x_1 : Int),
 h.cell b_3 (o_2 + 4) = some (.int .i64 x_1) ∧
 (∃ (x_2 : Option Addr),
 h.cell b_1 (o + 0) = some (.pointer x_2) ∧
 (∃ (x_3 : Int),
 h.cell b_4 (o_3 + 4) = some (.int .i64 x_3) ∧
 C Tryz.prog 147 #[.int .u64 n] h fun (r : Value) (h' : Heap) =>
 ∃ (x_4 : Int),
 r = .int .u64 x_4 ∧
 C Tryz.prog 84 #[.pointer x_2, .int .i64 (IntKind.i64.wrap (x + iquo .i64 x_1 8)), .int .i64 (irem x_3 8), .int .u64 x_4] h'
 fun (r : Value) (h' : Heap) => ∃ (x : Int), r = .int .i64 x ∧ spare_Bank_say.J2 b n x h' Q) ∧
 C Tryz.prog 147 #[.int .u64 n] h fun (r : Value) (h' : Heap) =>
 ∃ (x_3 : Int),
 r = .int .u64 x_3 ∧
 ∃ (x_4 : Int),
 h'.cell b_4 (o_3 + 4) = some (.int .i64 x_4) ∧
 C Tryz.prog 84 #[.pointer x_2, .int .i64 (IntKind.i64.wrap (x + iquo .i64 x_1 8)), .int .i64 (irem x_4 8), .int .u64 x_3] h'
 fun (r : Value) (h' : Heap) => ∃ (x : Int), r = .int .i64 x ∧ spare_Bank_say.J2 b n x h' Q) ∧
 (∃ (x_2 : Int),
 h.cell b_4 (o_3 + 4) = some (.int .i64 x_2) ∧
 (∃ (x_3 : Option Addr),
 h.cell b_1 (o + 0) = some (.pointer x_3) ∧
 C Tryz.prog 147 #[.int .u64 n] h fun (r : Value) (h' : Heap) =>
 ∃ (x_4 : Int),
 r = .int .u64 x_4 ∧
 C Tryz.prog 84 #[.pointer x_3, .int .i64 (IntKind.i64.wrap (x + iquo .i64 x_1 8)), .int .i64 (irem x_2 8), .int .u64 x_4] h'
 fun (r : Value) (h' : Heap) => ∃ (x : Int), r = .int .i64 x ∧ spare_Bank_say.J2 b n x h' Q) ∧
 C Tryz.prog 147 #[.int .u64 n] h fun (r : Value) (h' : Heap) =>
 ∃ (x_3 : Int),
 r = .int .u64 x_3 ∧
 ∃ (x_4 : Option Addr),
 h'.cell b_1 (o + 0) = some (.pointer x_4) ∧
 C Tryz.prog 84 #[.pointer x_4, .int .i64 (IntKind.i64.wrap (x + iquo .i64 x_1 8)), .int .i64 (irem x_2 8), .int .u64 x_3] h'
 fun (r : Value) (h' : Heap) => ∃ (x : Int), r = .int .i64 x ∧ spare_Bank_say.J2 b n x h' Q) ∧
 C Tryz.prog 147 #[.int .u64 n] h fun (r : Value) (h' : Heap) =>
 ∃ (x_2 : Int),
 r = .int .u64 x_2 ∧
 ∃ (x_3 : Int),
 h'.cell b_4 (o_3 + 4) = some (.int .i64 x_3) ∧
 ∃ (x_4 : Option Addr),
 h'.cell b_1 (o + 0) = some (.pointer x_4) ∧
 C Tryz.prog 84 #[.pointer x_4, .int .i64 (IntKind.i64.wrap (x + iquo .i64 x_1 8)), .int .i64 (irem x_3 8), .int .u64 x_2] h'
 fun (r : Value) (h' : Heap) => ∃ (x : Int), r = .int .i64 x ∧ spare_Bank_say.J2 b n x h' Q) ∧
 (∃ (x_1 : Int),
 h.cell b_4 (o_3 + 4) = some (.int .i64 x_1) ∧
 (∃ (x_2 : Option Addr),
 h.cell b_1 (o + 0) = some (.pointer x_2) ∧
 (∃ (x_3 : Int),
 h.cell b_3 (o_2 + 4) = some (.int .i64 x_3) ∧
 C Tryz.prog 147 #[.int .u64 n] h fun (r : Value) (h' : Heap) =>
 ∃ (x_4 : Int),
 r = .int .u64 x_4 ∧
 C Tryz.prog 84 #[.pointer x_2, .int .i64 (IntKind.i64.wrap (x + iquo .i64 x_3 8)), .int .i64 (irem x_1 8), .int .u64 x_4] h'
 fun (r : Value) (h' : Heap) => ∃ (x : Int), r = .int .i64 x ∧ spare_Bank_say.J2 b n x h' Q) ∧
 C Tryz.prog 147 #[.int .u64 n] h fun (r : Value) (h' : Heap) =>
 ∃ (x_3 : Int),
 r = .int .u64 x_3 ∧
 ∃ (x_4 : Int),
 h'.cell b_3 (o_2 + 4) = some (.int .i64 x_4) ∧
 C Tryz.prog 84 #[.pointer x_2, .int .i64 (IntKind.i64.wrap (x + iquo .i64 x_4 8)), .int .i64 (irem x_1 8), .int .u64 x_3] h'
 fun (r : Value) (h' : Heap) => ∃ (x : Int), r = .int .i64 x ∧ spare_Bank_say.J2 b n x h' Q) ∧
 (∃ (x_2 : Int),
 h.cell b_3 (o_2 + 4) = some (.int .i64 x_2) ∧
 (∃ (x_3 : Option Addr),
 h.cell b_1 (o + 0) = some (.pointer x_3) ∧
 C Tryz.prog 147 #[.int .u64 n] h fun (r : Value) (h' : Heap) =>
 ∃ (x_4 : Int),
 r = .int .u64 x_4 ∧
 C Tryz.prog 84 #[.pointer x_3, .int .i64 (IntKind.i64.wrap (x + iquo .i64 x_2 8)), .int .i64 (irem x_1 8), .int .u64 x_4] h'
 fun (r : Value) (h' : Heap) => ∃ (x : Int), r = .int .i64 x ∧ spare_Bank_say.J2 b n x h' Q) ∧
 C Tryz.prog 147 #[.int .u64 n] h fun (r : Value) (h' : Heap) =>
 ∃ (x_3 : Int),
 r = .int .u64 x_3 ∧
 ∃ (x_4 : Option Addr),
 h'.cell b_1 (o + 0) = some (.pointer x_4) ∧
 C Tryz.prog 84 #[.pointer x_4, .int .i64 (IntKind.i64.wrap (x + iquo .i64 x_2 8)), .int .i64 (irem x_1 8), .int .u64 x_3] h'
 fun (r : Value) (h' : Heap) => ∃ (x : Int), r = .int .i64 x ∧ spare_Bank_say.J2 b n x h' Q) ∧
 C Tryz.prog 147 #[.int .u64 n] h fun (r : Value) (h' : Heap) =>
 ∃ (x_2 : Int),
 r = .int .u64 x_2 ∧
 ∃ (x_3 : Int),
 h'.cell b_3 (o_2 + 4) = some (.int .i64 x_3) ∧
 ∃ (x_4 : Option Addr),
 h'.cell b_1 (o + 0) = some (.pointer x_4) ∧
 C Tryz.prog 84 #[.pointer x_4, .int .i64 (IntKind.i64.wrap (x + iquo .i64 x_3 8)), .int .i64 (irem x_1 8), .int .u64 x_2] h'
 fun (r : Value) (h' : Heap) => ∃ (x : Int), r = .int .i64 x ∧ spare_Bank_say.J2 b n x h' Q) ∧
 C Tryz.prog 147 #[.int .u64 n] h fun (r : Value) (h' : Heap) =>
 ∃ (x_1 : Int),
 r = .int .u64 x_1 ∧
 (∃ (x_2 : Option Addr),
 h'.cell b_1 (o + 0) = some (.pointer x_2) ∧
 (∃ (x_3 : Int),
 h'.cell b_3 (o_2 + 4) = some (.int .i64 x_3) ∧
 ∃ (x_4 : Int),
 h'.cell b_4 (o_3 + 4) = some (.int .i64 x_4) ∧
 C Tryz.prog 84 #[.pointer x_2, .int .i64 (IntKind.i64.wrap (x + iquo .i64 x_3 8)), .int .i64 (irem x_4 8), .int .u64 x_1] h'
 fun (r : Value) (h' : Heap) => ∃ (x : Int), r = .int .i64 x ∧ spare_Bank_say.J2 b n x h' Q) ∧
 ∃ (x_3 : Int),
 h'.cell b_4 (o_3 + 4) = some (.int .i64 x_3) ∧
 ∃ (x_4 : Int),
 h'.cell b_3 (o_2 + 4) = some (.int .i64 x_4) ∧
 C Tryz.prog 84 #[.pointer x_2, .int .i64 (IntKind.i64.wrap (x + iquo .i64 x_4 8)), .int .i64 (irem x_3 8), .int .u64 x_1] h'
 fun (r : Value) (h' : Heap) => ∃ (x : Int), r = .int .i64 x ∧ spare_Bank_say.J2 b n x h' Q) ∧
 (∃ (x_2 : Int),
 h'.cell b_3 (o_2 + 4) = some (.int .i64 x_2) ∧
 ∃ (x_3 : Int),
 h'.cell b_4 (o_3 + 4) = some (.int .i64 x_3) ∧
 ∃ (x_4 : Option Addr),
 h'.cell b_1 (o + 0) = some (.pointer x_4) ∧
 C Tryz.prog 84 #[.pointer x_4, .int .i64 (IntKind.i64.wrap (x + iquo .i64 x_2 8)), .int .i64 (irem x_3 8), .int .u64 x_1] h'
 fun (r : Value) (h' : Heap) => ∃ (x : Int), r = .int .i64 x ∧ spare_Bank_say.J2 b n x h' Q) ∧
 ∃ (x_2 : Int),
 h'.cell b_4 (o_3 + 4) = some (.int .i64 x_2) ∧
 ∃ (x_3 : Int),
 h'.cell b_3 (o_2 + 4) = some (.int .i64 x_3) ∧
 ∃ (x_4 : Option Addr),
 h'.cell b_1 (o + 0) = some (.pointer x_4) ∧
 C Tryz.prog 84 #[.pointer x_4, .int .i64 (IntKind.i64.wrap (x + iquo .i64 x_3 8)), .int .i64 (irem x_2 8), .int .u64 x_1] h'
 fun (r : Value) (h' : Heap) => ∃ (x : Int), r = .int .i64 x ∧ spare_Bank_say.J2 b n x h' Q) ∧
 (∃ (x : Int),
 h.cell b_3 (o_2 + 4) = some (.int .i64 x) ∧
 (∃ (x_1 : Option Addr),
 h.cell b_1 (o + 0) = some (.pointer x_1) ∧
 (∃ (x_2 : Int),
 h.cell b_2 (o_1 + 1 + 0) = some (.int .i64 x_2) ∧
 (∃ (x_3 : Int),
 h.cell b_4 (o_3 + 4) = some (.int .i64 x_3) ∧
 C Tryz.prog 147 #[.int .u64 n] h fun (r : Value) (h' : Heap) =>
 ∃ (x_4 : Int),
 r = .int .u64 x_4 ∧
 C Tryz.prog 84 #[.pointer x_1, .int .i64 (IntKind.i64.wrap (x_2 + iquo .i64 x 8)), .int .i64 (irem x_3 8), .int .u64 x_4] h'
 fun (r : Value) (h' : Heap) => ∃ (x : Int), r = .int .i64 x ∧ spare_Bank_say.J2 b n x h' Q) ∧
 C Tryz.prog 147 #[.int .u64 n] h fun (r : Value) (h' : Heap) =>
 ∃ (x_3 : Int),
 r = .int .u64 x_3 ∧
 ∃ (x_4 : Int),
 h'.cell b_4 (o_3 + 4) = some (.int .i64 x_4) ∧
 C Tryz.prog 84 #[.pointer x_1, .int .i64 (IntKind.i64.wrap (x_2 + iquo .i64 x 8)), .int .i64 (irem x_4 8), .int .u64 x_3] h'
 fun (r : Value) (h' : Heap) => ∃ (x : Int), r = .int .i64 x ∧ spare_Bank_say.J2 b n x h' Q) ∧
 (∃ (x_2 : Int),
 h.cell b_4 (o_3 + 4) = some (.int .i64 x_2) ∧
 (∃ (x_3 : Int),
 h.cell b_2 (o_1 + 1 + 0) = some (.int .i64 x_3) ∧
 C Tryz.prog 147 #[.int .u64 n] h fun (r : Value) (h' : Heap) =>
 ∃ (x_4 : Int),
 r = .int .u64 x_4 ∧
 C Tryz.prog 84 #[.pointer x_1, .int .i64 (IntKind.i64.wrap (x_3 + iquo .i64 x 8)), .int .i64 (irem x_2 8), .int .u64 x_4] h'
 fun (r : Value) (h' : Heap) => ∃ (x : Int), r = .int .i64 x ∧ spare_Bank_say.J2 b n x h' Q) ∧
 C Tryz.prog 147 #[.int .u64 n] h fun (r : Value) (h' : Heap) =>
 ∃ (x_3 : Int),
 r = .int .u64 x_3 ∧
 ∃ (x_4 : Int),
 h'.cell b_2 (o_1 + 1 + 0) = some (.int .i64 x_4) ∧
 C Tryz.prog 84 #[.pointer x_1, .int .i64 (IntKind.i64.wrap (x_4 + iquo .i64 x 8)), .int .i64 (irem x_2 8), .int .u64 x_3] h'
 fun (r : Value) (h' : Heap) => ∃ (x : Int), r = .int .i64 x ∧ spare_Bank_say.J2 b n x h' Q) ∧
 C Tryz.prog 147 #[.int .u64 n] h fun (r : Value) (h' : Heap) =>
 ∃ (x_2 : Int),
 r = .int .u64 x_2 ∧
 (∃ (x_3 : Int),
 h'.cell b_2 (o_1 + 1 + 0) = some (.int .i64 x_3) ∧
 ∃ (x_4 : Int),
 h'.cell b_4 (o_3 + 4) = some (.int .i64 x_4) ∧
 C Tryz.prog 84 #[.pointer x_1, .int .i64 (IntKind.i64.wrap (x_3 + iquo .i64 x 8)), .int .i64 (irem x_4 8), .int .u64 x_2] h'
 fun (r : Value) (h' : Heap) => ∃ (x : Int), r = .int .i64 x ∧ spare_Bank_say.J2 b n x h' Q) ∧
 ∃ (x_3 : Int),
 h'.cell b_4 (o_3 + 4) = some (.int .i64 x_3) ∧
 ∃ (x_4 : Int),
 h'.cell b_2 (o_1 + 1 + 0) = some (.int .i64 x_4) ∧
 C Tryz.prog 84 #[.pointer x_1, .int .i64 (IntKind.i64.wrap (x_4 + iquo .i64 x 8)), .int .i64 (irem x_3 8), .int .u64 x_2] h'
 fun (r : Value) (h' : Heap) => ∃ (x : Int), r = .int .i64 x ∧ spare_Bank_say.J2 b n x h' Q) ∧
 (∃ (x_1 : Int),
 h.cell b_2 (o_1 + 1 + 0) = some (.int .i64 x_1) ∧
 (∃ (x_2 : Option Addr),
 h.cell b_1 (o + 0) = some (.pointer x_2) ∧
 (∃ (x_3 : Int),
 h.cell b_4 (o_3 + 4) = some (.int .i64 x_3) ∧
 C Tryz.prog 147 #[.int .u64 n] h fun (r : Value) (h' : Heap) =>
 ∃ (x_4 : Int),
 r = .int .u64 x_4 ∧
 C Tryz.prog 84 #[.pointer x_2, .int .i64 (IntKind.i64.wrap (x_1 + iquo .i64 x 8)), .int .i64 (irem x_3 8), .int .u64 x_4] h'
 fun (r : Value) (h' : Heap) => ∃ (x : Int), r = .int .i64 x ∧ spare_Bank_say.J2 b n x h' Q) ∧
 C Tryz.prog 147 #[.int .u64 n] h fun (r : Value) (h' : Heap) =>
 ∃ (x_3 : Int),
 r = .int .u64 x_3 ∧
 ∃ (x_4 : Int),
 h'.cell b_4 (o_3 + 4) = some (.int .i64 x_4) ∧
 C Tryz.prog 84 #[.pointer x_2, .int .i64 (IntKind.i64.wrap (x_1 + iquo .i64 x 8)), .int .i64 (irem x_4 8), .int .u64 x_3] h'
 fun (r : Value) (h' : Heap) => ∃ (x : Int), r = .int .i64 x ∧ spare_Bank_say.J2 b n x h' Q) ∧
 (∃ (x_2 : Int),
 h.cell b_4 (o_3 + 4) = some (.int .i64 x_2) ∧
 (∃ (x_3 : Option Addr),
 h.cell b_1 (o + 0) = some (.pointer x_3) ∧
 C Tryz.prog 147 #[.int .u64 n] h fun (r : Value) (h' : Heap) =>
 ∃ (x_4 : Int),
 r = .int .u64 x_4 ∧
 C Tryz.prog 84 #[.pointer x_3, .int .i64 (IntKind.i64.wrap (x_1 + iquo .i64 x 8)), .int .i64 (irem x_2 8), .int .u64 x_4] h'
 fun (r : Value) (h' : Heap) => ∃ (x : Int), r = .int .i64 x ∧ spare_Bank_say.J2 b n x h' Q) ∧
 C Tryz.prog 147 #[.int .u64 n] h fun (r : Value) (h' : Heap) =>
 ∃ (x_3 : Int),
 r = .int .u64 x_3 ∧
 ∃ (x_4 : Option Addr),
 h'.cell b_1 (o + 0) = some (.pointer x_4) ∧
 C Tryz.prog 84 #[.pointer x_4, .int .i64 (IntKind.i64.wrap (x_1 + iquo .i64 x 8)), .int .i64 (irem x_2 8), .int .u64 x_3] h'
 fun (r : Value) (h' : Heap) => ∃ (x : Int), r = .int .i64 x ∧ spare_Bank_say.J2 b n x h' Q) ∧
 C Tryz.prog 147 #[.int .u64 n] h fun (r : Value) (h' : Heap) =>
 ∃ (x_2 : Int),
 r = .int .u64 x_2 ∧
 ∃ (x_3 : Int),
 h'.cell b_4 (o_3 + 4) = some (.int .i64 x_3) ∧
 ∃ (x_4 : Option Addr),
 h'.cell b_1 (o + 0) = some (.pointer x_4) ∧
 C Tryz.prog 84 #[.pointer x_4, .int .i64 (IntKind.i64.wrap (x_1 + iquo .i64 x 8)), .int .i64 (irem x_3 8), .int .u64 x_2] h'
 fun (r : Value) (h' : Heap) => ∃ (x : Int), r = .int .i64 x ∧ spare_Bank_say.J2 b n x h' Q) ∧
 (∃ (x_1 : Int),
 h.cell b_4 (o_3 + 4) = some (.int .i64 x_1) ∧
 (∃ (x_2 : Option Addr),
 h.cell b_1 (o + 0) = some (.pointer x_2) ∧
 (∃ (x_3 : Int),
 h.cell b_2 (o_1 + 1 + 0) = some (.int .i64 x_3) ∧
 C Tryz.prog 147 #[.int .u64 n] h fun (r : Value) (h' : Heap) =>
 ∃ (x_4 : Int),
 r = .int .u64 x_4 ∧
 C Tryz.prog 84 #[.pointer x_2, .int .i64 (IntKind.i64.wrap (x_3 + iquo .i64 x 8)), .int .i64 (irem x_1 8), .int .u64 x_4] h'
 fun (r : Value) (h' : Heap) => ∃ (x : Int), r = .int .i64 x ∧ spare_Bank_say.J2 b n x h' Q) ∧
 C Tryz.prog 147 #[.int .u64 n] h fun (r : Value) (h' : Heap) =>
 ∃ (x_3 : Int),
 r = .int .u64 x_3 ∧
 ∃ (x_4 : Int),
 h'.cell b_2 (o_1 + 1 + 0) = some (.int .i64 x_4) ∧
 C Tryz.prog 84 #[.pointer x_2, .int .i64 (IntKind.i64.wrap (x_4 + iquo .i64 x 8)), .int .i64 (irem x_1 8), .int .u64 x_3] h'
 fun (r : Value) (h' : Heap) => ∃ (x : Int), r = .int .i64 x ∧ spare_Bank_say.J2 b n x h' Q) ∧
 (∃ (x_2 : Int),
 h.cell b_2 (o_1 + 1 + 0) = some (.int .i64 x_2) ∧
 (∃ (x_3 : Option Addr),
 h.cell b_1 (o + 0) = some (.pointer x_3) ∧
 C Tryz.prog 147 #[.int .u64 n] h fun (r : Value) (h' : Heap) =>
 ∃ (x_4 : Int),
 r = .int .u64 x_4 ∧
 C Tryz.prog 84 #[.pointer x_3, .int .i64 (IntKind.i64.wrap (x_2 + iquo .i64 x 8)), .int .i64 (irem x_1 8), .int .u64 x_4] h'
 fun (r : Value) (h' : Heap) => ∃ (x : Int), r = .int .i64 x ∧ spare_Bank_say.J2 b n x h' Q) ∧
 C Tryz.prog 147 #[.int .u64 n] h fun (r : Value) (h' : Heap) =>
 ∃ (x_3 : Int),
 r = .int .u64 x_3 ∧
 ∃ (x_4 : Option Addr),
 h'.cell b_1 (o + 0) = some (.pointer x_4) ∧
 C Tryz.prog 84 #[.pointer x_4, .int .i64 (IntKind.i64.wrap (x_2 + iquo .i64 x 8)), .int .i64 (irem x_1 8), .int .u64 x_3] h'
 fun (r : Value) (h' : Heap) => ∃ (x : Int), r = .int .i64 x ∧ spare_Bank_say.J2 b n x h' Q) ∧
 C Tryz.prog 147 #[.int .u64 n] h fun (r : Value) (h' : Heap) =>
 ∃ (x_2 : Int),
 r = .int .u64 x_2 ∧
 ∃ (x_3 : Int),
 h'.cell b_2 (o_1 + 1 + 0) = some (.int .i64 x_3) ∧
 ∃ (x_4 : Option Addr),
 h'.cell b_1 (o + 0) = some (.pointer x_4) ∧
 C Tryz.prog 84 #[.pointer x_4, .int .i64 (IntKind.i64.wrap (x_3 + iquo .i64 x 8)), .int .i64 (irem x_1 8), .int .u64 x_2] h'
 fun (r : Value) (h' : Heap) => ∃ (x : Int), r = .int .i64 x ∧ spare_Bank_say.J2 b n x h' Q) ∧
 C Tryz.prog 147 #[.int .u64 n] h fun (r : Value) (h' : Heap) =>
 ∃ (x_1 : Int),
 r = .int .u64 x_1 ∧
 (∃ (x_2 : Option Addr),
 h'.cell b_1 (o + 0) = some (.pointer x_2) ∧
 (∃ (x_3 : Int),
 h'.cell b_2 (o_1 + 1 + 0) = some (.int .i64 x_3) ∧
 ∃ (x_4 : Int),
 h'.cell b_4 (o_3 + 4) = some (.int .i64 x_4) ∧
 C Tryz.prog 84 #[.pointer x_2, .int .i64 (IntKind.i64.wrap (x_3 + iquo .i64 x 8)), .int .i64 (irem x_4 8), .int .u64 x_1] h'
 fun (r : Value) (h' : Heap) => ∃ (x : Int), r = .int .i64 x ∧ spare_Bank_say.J2 b n x h' Q) ∧
 ∃ (x_3 : Int),
 h'.cell b_4 (o_3 + 4) = some (.int .i64 x_3) ∧
 ∃ (x_4 : Int),
 h'.cell b_2 (o_1 + 1 + 0) = some (.int .i64 x_4) ∧
 C Tryz.prog 84 #[.pointer x_2, .int .i64 (IntKind.i64.wrap (x_4 + iquo .i64 x 8)), .int .i64 (irem x_3 8), .int .u64 x_1] h'
 fun (r : Value) (h' : Heap) => ∃ (x : Int), r = .int .i64 x ∧ spare_Bank_say.J2 b n x h' Q) ∧
 (∃ (x_2 : Int),
 h'.cell b_2 (o_1 + 1 + 0) = some (.int .i64 x_2) ∧
 ∃ (x_3 : Int),
 h'.cell b_4 (o_3 + 4) = some (.int .i64 x_3) ∧
 ∃ (x_4 : Option Addr),
 h'.cell b_1 (o + 0) = some (.pointer x_4) ∧
 C Tryz.prog 84 #[.pointer x_4, .int .i64 (IntKind.i64.wrap (x_2 + iquo .i64 x 8)), .int .i64 (irem x_3 8), .int .u64 x_1] h'
 fun (r : Value) (h' : Heap) => ∃ (x : Int), r = .int .i64 x ∧ spare_Bank_say.J2 b n x h' Q) ∧
 ∃ (x_2 : Int),
 h'.cell b_4 (o_3 + 4) = some (.int .i64 x_2) ∧
 ∃ (x_3 : Int),
 h'.cell b_2 (o_1 + 1 + 0) = some (.int .i64 x_3) ∧
 ∃ (x_4 : Option Addr),
 h'.cell b_1 (o + 0) = some (.pointer x_4) ∧
 C Tryz.prog 84 #[.pointer x_4, .int .i64 (IntKind.i64.wrap (x_3 + iquo .i64 x 8)), .int .i64 (irem x_2 8), .int .u64 x_1] h'
 fun (r : Value) (h' : Heap) => ∃ (x : Int), r = .int .i64 x ∧ spare_Bank_say.J2 b n x h' Q) ∧
 (∃ (x : Int),
 h.cell b_4 (o_3 + 4) = some (.int .i64 x) ∧
 (∃ (x_1 : Option Addr),
 h.cell b_1 (o + 0) = some (.pointer x_1) ∧
 (∃ (x_2 : Int),
 h.cell b_2 (o_1 + 1 + 0) = some (.int .i64 x_2) ∧
 (∃ (x_3 : Int),
 h.cell b_3 (o_2 + 4) = some (.int .i64 x_3) ∧
 C Tryz.prog 147 #[.int .u64 n] h fun (r : Value) (h' : Heap) =>
 ∃ (x_4 : Int),
 r = .int .u64 x_4 ∧
 C Tryz.prog 84 #[.pointer x_1, .int .i64 (IntKind.i64.wrap (x_2 + iquo .i64 x_3 8)), .int .i64 (irem x 8), .int .u64 x_4] h'
 fun (r : Value) (h' : Heap) => ∃ (x : Int), r = .int .i64 x ∧ spare_Bank_say.J2 b n x h' Q) ∧
 C Tryz.prog 147 #[.int .u64 n] h fun (r : Value) (h' : Heap) =>
 ∃ (x_3 : Int),
 r = .int .u64 x_3 ∧
 ∃ (x_4 : Int),
 h'.cell b_3 (o_2 + 4) = some (.int .i64 x_4) ∧
 C Tryz.prog 84 #[.pointer x_1, .int .i64 (IntKind.i64.wrap (x_2 + iquo .i64 x_4 8)), .int .i64 (irem x 8), .int .u64 x_3] h'
 fun (r : Value) (h' : Heap) => ∃ (x : Int), r = .int .i64 x ∧ spare_Bank_say.J2 b n x h' Q) ∧
 (∃ (x_2 : Int),
 h.cell b_3 (o_2 + 4) = some (.int .i64 x_2) ∧
 (∃ (x_3 : Int),
 h.cell b_2 (o_1 + 1 + 0) = some (.int .i64 x_3) ∧
 C Tryz.prog 147 #[.int .u64 n] h fun (r : Value) (h' : Heap) =>
 ∃ (x_4 : Int),
 r = .int .u64 x_4 ∧
 C Tryz.prog 84 #[.pointer x_1, .int .i64 (IntKind.i64.wrap (x_3 + iquo .i64 x_2 8)), .int .i64 (irem x 8), .int .u64 x_4] h'
 fun (r : Value) (h' : Heap) => ∃ (x : Int), r = .int .i64 x ∧ spare_Bank_say.J2 b n x h' Q) ∧
 C Tryz.prog 147 #[.int .u64 n] h fun (r : Value) (h' : Heap) =>
 ∃ (x_3 : Int),
 r = .int .u64 x_3 ∧
 ∃ (x_4 : Int),
 h'.cell b_2 (o_1 + 1 + 0) = some (.int .i64 x_4) ∧
 C Tryz.prog 84 #[.pointer x_1, .int .i64 (IntKind.i64.wrap (x_4 + iquo .i64 x_2 8)), .int .i64 (irem x 8), .int .u64 x_3] h'
 fun (r : Value) (h' : Heap) => ∃ (x : Int), r = .int .i64 x ∧ spare_Bank_say.J2 b n x h' Q) ∧
 C Tryz.prog 147 #[.int .u64 n] h fun (r : Value) (h' : Heap) =>
 ∃ (x_2 : Int),
 r = .int .u64 x_2 ∧
 ∃ (x_3 : Int),
 h'.cell b_3 (o_2 + 4) = some (.int .i64 x_3) ∧
 ∃ (x_4 : Int),
 h'.cell b_2 (o_1 + 1 + 0) = some (.int .i64 x_4) ∧
 C Tryz.prog 84 #[.pointer x_1, .int .i64 (IntKind.i64.wrap (x_4 + iquo .i64 x_3 8)), .int .i64 (irem x 8), .int .u64 x_2] h'
 fun (r : Value) (h' : Heap) => ∃ (x : Int), r = .int .i64 x ∧ spare_Bank_say.J2 b n x h' Q) ∧
 (∃ (x_1 : Int),
 h.cell b_2 (o_1 + 1 + 0) = some (.int .i64 x_1) ∧
 (∃ (x_2 : Option Addr),
 h.cell b_1 (o + 0) = some (.pointer x_2) ∧
 (∃ (x_3 : Int),
 h.cell b_3 (o_2 + 4) = some (.int .i64 x_3) ∧
 C Tryz.prog 147 #[.int .u64 n] h fun (r : Value) (h' : Heap) =>
 ∃ (x_4 : Int),
 r = .int .u64 x_4 ∧
 C Tryz.prog 84 #[.pointer x_2, .int .i64 (IntKind.i64.wrap (x_1 + iquo .i64 x_3 8)), .int .i64 (irem x 8), .int .u64 x_4] h'
 fun (r : Value) (h' : Heap) => ∃ (x : Int), r = .int .i64 x ∧ spare_Bank_say.J2 b n x h' Q) ∧
 C Tryz.prog 147 #[.int .u64 n] h fun (r : Value) (h' : Heap) =>
 ∃ (x_3 : Int),
 r = .int .u64 x_3 ∧
 ∃ (x_4 : Int),
 h'.cell b_3 (o_2 + 4) = some (.int .i64 x_4) ∧
 C Tryz.prog 84 #[.pointer x_2, .int .i64 (IntKind.i64.wrap (x_1 + iquo .i64 x_4 8)), .int .i64 (irem x 8), .int .u64 x_3] h'
 fun (r : Value) (h' : Heap) => ∃ (x : Int), r = .int .i64 x ∧ spare_Bank_say.J2 b n x h' Q) ∧
 (∃ (x_2 : Int),
 h.cell b_3 (o_2 + 4) = some (.int .i64 x_2) ∧
 (∃ (x_3 : Option Addr),
 h.cell b_1 (o + 0) = some (.pointer x_3) ∧
 C Tryz.prog 147 #[.int .u64 n] h fun (r : Value) (h' : Heap) =>
 ∃ (x_4 : Int),
 r = .int .u64 x_4 ∧
 C Tryz.prog 84 #[.pointer x_3, .int .i64 (IntKind.i64.wrap (x_1 + iquo .i64 x_2 8)), .int .i64 (irem x 8), .int .u64 x_4] h'
 fun (r : Value) (h' : Heap) => ∃ (x : Int), r = .int .i64 x ∧ spare_Bank_say.J2 b n x h' Q) ∧
 C Tryz.prog 147 #[.int .u64 n] h fun (r : Value) (h' : Heap) =>
 ∃ (x_3 : Int),
 r = .int .u64 x_3 ∧
 ∃ (x_4 : Option Addr),
 h'.cell b_1 (o + 0) = some (.pointer x_4) ∧
 C Tryz.prog 84 #[.pointer x_4, .int .i64 (IntKind.i64.wrap (x_1 + iquo .i64 x_2 8)), .int .i64 (irem x 8), .int .u64 x_3] h'
 fun (r : Value) (h' : Heap) => ∃ (x : Int), r = .int .i64 x ∧ spare_Bank_say.J2 b n x h' Q) ∧
 C Tryz.prog 147 #[.int .u64 n] h fun (r : Value) (h' : Heap) =>
 ∃ (x_2 : Int),
 r = .int .u64 x_2 ∧
 ∃ (x_3 : Int),
 h'.cell b_3 (o_2 + 4) = some (.int .i64 x_3) ∧
 ∃ (x_4 : Option Addr),
 h'.cell b_1 (o + 0) = some (.pointer x_4) ∧
 C Tryz.prog 84 #[.pointer x_4, .int .i64 (IntKind.i64.wrap (x_1 + iquo .i64 x_3 8)), .int .i64 (irem x 8), .int .u64 x_2] h'
 fun (r : Value) (h' : Heap) => ∃ (x : Int), r = .int .i64 x ∧ spare_Bank_say.J2 b n x h' Q) ∧
 (∃ (x_1 : Int),
 h.cell b_3 (o_2 + 4) = some (.int .i64 x_1) ∧
 (∃ (x_2 : Option Addr),
 h.cell b_1 (o + 0) = some (.pointer x_2) ∧
 (∃ (x_3 : Int),
 h.cell b_2 (o_1 + 1 + 0) = some (.int .i64 x_3) ∧
 C Tryz.prog 147 #[.int .u64 n] h fun (r : Value) (h' : Heap) =>
 ∃ (x_4 : Int),
 r = .int .u64 x_4 ∧
 C Tryz.prog 84 #[.pointer x_2, .int .i64 (IntKind.i64.wrap (x_3 + iquo .i64 x_1 8)), .int .i64 (irem x 8), .int .u64 x_4] h'
 fun (r : Value) (h' : Heap) => ∃ (x : Int), r = .int .i64 x ∧ spare_Bank_say.J2 b n x h' Q) ∧
 C Tryz.prog 147 #[.int .u64 n] h fun (r : Value) (h' : Heap) =>
 ∃ (x_3 : Int),
 r = .int .u64 x_3 ∧
 ∃ (x_4 : Int),
 h'.cell b_2 (o_1 + 1 + 0) = some (.int .i64 x_4) ∧
 C Tryz.prog 84 #[.pointer x_2, .int .i64 (IntKind.i64.wrap (x_4 + iquo .i64 x_1 8)), .int .i64 (irem x 8), .int .u64 x_3] h'
 fun (r : Value) (h' : Heap) => ∃ (x : Int), r = .int .i64 x ∧ spare_Bank_say.J2 b n x h' Q) ∧
 (∃ (x_2 : Int),
 h.cell b_2 (o_1 + 1 + 0) = some (.int .i64 x_2) ∧
 (∃ (x_3 : Option Addr),
 h.cell b_1 (o + 0) = some (.pointer x_3) ∧
 C Tryz.prog 147 #[.int .u64 n] h fun (r : Value) (h' : Heap) =>
 ∃ (x_4 : Int),
 r = .int .u64 x_4 ∧
 C Tryz.prog 84 #[.pointer x_3, .int .i64 (IntKind.i64.wrap (x_2 + iquo .i64 x_1 8)), .int .i64 (irem x 8), .int .u64 x_4] h'
 fun (r : Value) (h' : Heap) => ∃ (x : Int), r = .int .i64 x ∧ spare_Bank_say.J2 b n x h' Q) ∧
 C Tryz.prog 147 #[.int .u64 n] h fun (r : Value) (h' : Heap) =>
 ∃ (x_3 : Int),
 r = .int .u64 x_3 ∧
 ∃ (x_4 : Option Addr),
 h'.cell b_1 (o + 0) = some (.pointer x_4) ∧
 C Tryz.prog 84 #[.pointer x_4, .int .i64 (IntKind.i64.wrap (x_2 + iquo .i64 x_1 8)), .int .i64 (irem x 8), .int .u64 x_3] h'
 fun (r : Value) (h' : Heap) => ∃ (x : Int), r = .int .i64 x ∧ spare_Bank_say.J2 b n x h' Q) ∧
 C Tryz.prog 147 #[.int .u64 n] h fun (r : Value) (h' : Heap) =>
 ∃ (x_2 : Int),
 r = .int .u64 x_2 ∧
 ∃ (x_3 : Int),
 h'.cell b_2 (o_1 + 1 + 0) = some (.int .i64 x_3) ∧
 ∃ (x_4 : Option Addr),
 h'.cell b_1 (o + 0) = some (.pointer x_4) ∧
 C Tryz.prog 84 #[.pointer x_4, .int .i64 (IntKind.i64.wrap (x_3 + iquo .i64 x_1 8)), .int .i64 (irem x 8), .int .u64 x_2] h'
 fun (r : Value) (h' : Heap) => ∃ (x : Int), r = .int .i64 x ∧ spare_Bank_say.J2 b n x h' Q) ∧
 C Tryz.prog 147 #[.int .u64 n] h fun (r : Value) (h' : Heap) =>
 ∃ (x_1 : Int),
 r = .int .u64 x_1 ∧
 ∃ (x_2 : Int),
 h'.cell b_3 (o_2 + 4) = some (.int .i64 x_2) ∧
 ∃ (x_3 : Int),
 h'.cell b_2 (o_1 + 1 + 0) = some (.int .i64 x_3) ∧
 ∃ (x_4 : Option Addr),
 h'.cell b_1 (o + 0) = some (.pointer x_4) ∧
 C Tryz.prog 84 #[.pointer x_4, .int .i64 (IntKind.i64.wrap (x_3 + iquo .i64 x_2 8)), .int .i64 (irem x 8), .int .u64 x_1] h'
 fun (r : Value) (h' : Heap) => ∃ (x : Int), r = .int .i64 x ∧ spare_Bank_say.J2 b n x h' Q) ∧
 C Tryz.prog 147 #[.int .u64 n] h fun (r : Value) (h' : Heap) =>
 ∃ (x : Int),
 r = .int .u64 x ∧
 (∃ (x_1 : Option Addr),
 h'.cell b_1 (o + 0) = some (.pointer x_1) ∧
 (∃ (x_2 : Int),
 h'.cell b_2 (o_1 + 1 + 0) = some (.int .i64 x_2) ∧
 (∃ (x_3 : Int),
 h'.cell b_3 (o_2 + 4) = some (.int .i64 x_3) ∧
 ∃ (x_4 : Int),
 h'.cell b_4 (o_3 + 4) = some (.int .i64 x_4) ∧
 C Tryz.prog 84 #[.pointer x_1, .int .i64 (IntKind.i64.wrap (x_2 + iquo .i64 x_3 8)), .int .i64 (irem x_4 8), .int .u64 x] h'
 fun (r : Value) (h' : Heap) => ∃ (x : Int), r = .int .i64 x ∧ spare_Bank_say.J2 b n x h' Q) ∧
 ∃ (x_3 : Int),
 h'.cell b_4 (o_3 + 4) = some (.int .i64 x_3) ∧
 ∃ (x_4 : Int),
 h'.cell b_3 (o_2 + 4) = some (.int .i64 x_4) ∧
 C Tryz.prog 84 #[.pointer x_1, .int .i64 (IntKind.i64.wrap (x_2 + iquo .i64 x_4 8)), .int .i64 (irem x_3 8), .int .u64 x] h'
 fun (r : Value) (h' : Heap) => ∃ (x : Int), r = .int .i64 x ∧ spare_Bank_say.J2 b n x h' Q) ∧
 (∃ (x_2 : Int),
 h'.cell b_3 (o_2 + 4) = some (.int .i64 x_2) ∧
 (∃ (x_3 : Int),
 h'.cell b_2 (o_1 + 1 + 0) = some (.int .i64 x_3) ∧
 ∃ (x_4 : Int),
 h'.cell b_4 (o_3 + 4) = some (.int .i64 x_4) ∧
 C Tryz.prog 84 #[.pointer x_1, .int .i64 (IntKind.i64.wrap (x_3 + iquo .i64 x_2 8)), .int .i64 (irem x_4 8), .int .u64 x] h'
 fun (r : Value) (h' : Heap) => ∃ (x : Int), r = .int .i64 x ∧ spare_Bank_say.J2 b n x h' Q) ∧
 ∃ (x_3 : Int),
 h'.cell b_4 (o_3 + 4) = some (.int .i64 x_3) ∧
 ∃ (x_4 : Int),
 h'.cell b_2 (o_1 + 1 + 0) = some (.int .i64 x_4) ∧
 C Tryz.prog 84 #[.pointer x_1, .int .i64 (IntKind.i64.wrap (x_4 + iquo .i64 x_2 8)), .int .i64 (irem x_3 8), .int .u64 x] h'
 fun (r : Value) (h' : Heap) => ∃ (x : Int), r = .int .i64 x ∧ spare_Bank_say.J2 b n x h' Q) ∧
 ∃ (x_2 : Int),
 h'.cell b_4 (o_3 + 4) = some (.int .i64 x_2) ∧
 ∃ (x_3 : Int),
 h'.cell b_3 (o_2 + 4) = some (.int .i64 x_3) ∧
 ∃ (x_4 : Int),
 h'.cell b_2 (o_1 + 1 + 0) = some (.int .i64 x_4) ∧
 C Tryz.prog 84 #[.pointer x_1, .int .i64 (IntKind.i64.wrap (x_4 + iquo .i64 x_3 8)), .int .i64 (irem x_2 8), .int .u64 x] h'
 fun (r : Value) (h' : Heap) => ∃ (x : Int), r = .int .i64 x ∧ spare_Bank_say.J2 b n x h' Q) ∧
 (∃ (x_1 : Int),
 h'.cell b_2 (o_1 + 1 + 0) = some (.int .i64 x_1) ∧
 (∃ (x_2 : Option Addr),
 h'.cell b_1 (o + 0) = some (.pointer x_2) ∧
 (∃ (x_3 : Int),
 h'.cell b_3 (o_2 + 4) = some (.int .i64 x_3) ∧
 ∃ (x_4 : Int),
 h'.cell b_4 (o_3 + 4) = some (.int .i64 x_4) ∧
 C Tryz.prog 84 #[.pointer x_2, .int .i64 (IntKind.i64.wrap (x_1 + iquo .i64 x_3 8)), .int .i64 (irem x_4 8), .int .u64 x] h'
 fun (r : Value) (h' : Heap) => ∃ (x : Int), r = .int .i64 x ∧ spare_Bank_say.J2 b n x h' Q) ∧
 ∃ (x_3 : Int),
 h'.cell b_4 (o_3 + 4) = some (.int .i64 x_3) ∧
 ∃ (x_4 : Int),
 h'.cell b_3 (o_2 + 4) = some (.int .i64 x_4) ∧
 C Tryz.prog 84 #[.pointer x_2, .int .i64 (IntKind.i64.wrap (x_1 + iquo .i64 x_4 8)), .int .i64 (irem x_3 8), .int .u64 x] h'
 fun (r : Value) (h' : Heap) => ∃ (x : Int), r = .int .i64 x ∧ spare_Bank_say.J2 b n x h' Q) ∧
 (∃ (x_2 : Int),
 h'.cell b_3 (o_2 + 4) = some (.int .i64 x_2) ∧
 ∃ (x_3 : Int),
 h'.cell b_4 (o_3 + 4) = some (.int .i64 x_3) ∧
 ∃ (x_4 : Option Addr),
 h'.cell b_1 (o + 0) = some (.pointer x_4) ∧
 C Tryz.prog 84 #[.pointer x_4, .int .i64 (IntKind.i64.wrap (x_1 + iquo .i64 x_2 8)), .int .i64 (irem x_3 8), .int .u64 x] h'
 fun (r : Value) (h' : Heap) => ∃ (x : Int), r = .int .i64 x ∧ spare_Bank_say.J2 b n x h' Q) ∧
 ∃ (x_2 : Int),
 h'.cell b_4 (o_3 + 4) = some (.int .i64 x_2) ∧
 ∃ (x_3 : Int),
 h'.cell b_3 (o_2 + 4) = some (.int .i64 x_3) ∧
 ∃ (x_4 : Option Addr),
 h'.cell b_1 (o + 0) = some (.pointer x_4) ∧
 C Tryz.prog 84 #[.pointer x_4, .int .i64 (IntKind.i64.wrap (x_1 + iquo .i64 x_3 8)), .int .i64 (irem x_2 8), .int .u64 x] h'
 fun (r : Value) (h' : Heap) => ∃ (x : Int), r = .int .i64 x ∧ spare_Bank_say.J2 b n x h' Q) ∧
 (∃ (x_1 : Int),
 h'.cell b_3 (o_2 + 4) = some (.int .i64 x_1) ∧
 (∃ (x_2 : Option Addr),
 h'.cell b_1 (o + 0) = some (.pointer x_2) ∧
 (∃ (x_3 : Int),
 h'.cell b_2 (o_1 + 1 + 0) = some (.int .i64 x_3) ∧
 ∃ (x_4 : Int),
 h'.cell b_4 (o_3 + 4) = some (.int .i64 x_4) ∧
 C Tryz.prog 84 #[.pointer x_2, .int .i64 (IntKind.i64.wrap (x_3 + iquo .i64 x_1 8)), .int .i64 (irem x_4 8), .int .u64 x] h'
 fun (r : Value) (h' : Heap) => ∃ (x : Int), r = .int .i64 x ∧ spare_Bank_say.J2 b n x h' Q) ∧
 ∃ (x_3 : Int),
 h'.cell b_4 (o_3 + 4) = some (.int .i64 x_3) ∧
 ∃ (x_4 : Int),
 h'.cell b_2 (o_1 + 1 + 0) = some (.int .i64 x_4) ∧
 C Tryz.prog 84 #[.pointer x_2, .int .i64 (IntKind.i64.wrap (x_4 + iquo .i64 x_1 8)), .int .i64 (irem x_3 8), .int .u64 x] h'
 fun (r : Value) (h' : Heap) => ∃ (x : Int), r = .int .i64 x ∧ spare_Bank_say.J2 b n x h' Q) ∧
 (∃ (x_2 : Int),
 h'.cell b_2 (o_1 + 1 + 0) = some (.int .i64 x_2) ∧
 ∃ (x_3 : Int),
 h'.cell b_4 (o_3 + 4) = some (.int .i64 x_3) ∧
 ∃ (x_4 : Option Addr),
 h'.cell b_1 (o + 0) = some (.pointer x_4) ∧
 C Tryz.prog 84 #[.pointer x_4, .int .i64 (IntKind.i64.wrap (x_2 + iquo .i64 x_1 8)), .int .i64 (irem x_3 8), .int .u64 x] h'
 fun (r : Value) (h' : Heap) => ∃ (x : Int), r = .int .i64 x ∧ spare_Bank_say.J2 b n x h' Q) ∧
 ∃ (x_2 : Int),
 h'.cell b_4 (o_3 + 4) = some (.int .i64 x_2) ∧
 ∃ (x_3 : Int),
 h'.cell b_2 (o_1 + 1 + 0) = some (.int .i64 x_3) ∧
 ∃ (x_4 : Option Addr),
 h'.cell b_1 (o + 0) = some (.pointer x_4) ∧
 C Tryz.prog 84 #[.pointer x_4, .int .i64 (IntKind.i64.wrap (x_3 + iquo .i64 x_1 8)), .int .i64 (irem x_2 8), .int .u64 x] h'
 fun (r : Value) (h' : Heap) => ∃ (x : Int), r = .int .i64 x ∧ spare_Bank_say.J2 b n x h' Q) ∧
 ∃ (x_1 : Int),
 h'.cell b_4 (o_3 + 4) = some (.int .i64 x_1) ∧
 ∃ (x_2 : Int),
 h'.cell b_3 (o_2 + 4) = some (.int .i64 x_2) ∧
 ∃ (x_3 : Int),
 h'.cell b_2 (o_1 + 1 + 0) = some (.int .i64 x_3) ∧
 ∃ (x_4 : Option Addr),
 h'.cell b_1 (o + 0) = some (.pointer x_4) ∧
 C Tryz.prog 84 #[.pointer x_4, .int .i64 (IntKind.i64.wrap (x_3 + iquo .i64 x_2 8)), .int .i64 (irem x_1 8), .int .u64 x] h'
 fun (r : Value) (h' : Heap) => ∃ (x : Int), r = .int .i64 x ∧ spare_Bank_say.J2 b n x h' Q
def spare_Bank_say.J2.wp (b : Option Addr) (n : Int) (e : Int) (h : Heap) (Q : Value → Heap → Prop) : Prop :=
 xsIf (decide (e = 0))
 (atBase b fun (b_1 o : Nat) =>
 (∃ (x : Int),
 h.cell b_1 (o + 4) = some (.int .i64 x) ∧
 C Tryz.prog 147 #[.int .u64 n] h fun (r : Value) (h' : Heap) =>
 ∃ (x_1 : Int),
 r = .int .u64 x_1 ∧
 C Tryz.prog 80 #[.pointer b, .int .i64 x, .int .u64 x_1] h' fun (r : Value) (h' : Heap) => ∃ (x : Int), r = .int .i64 x ∧ Q (.int .i64 x) h') ∧
 C Tryz.prog 147 #[.int .u64 n] h fun (r : Value) (h' : Heap) =>
 ∃ (x : Int),
 r = .int .u64 x ∧
 ∃ (x_1 : Int),
 h'.cell b_1 (o + 4) = some (.int .i64 x_1) ∧
 C Tryz.prog 80 #[.pointer b, .int .i64 x_1, .int .u64 x] h' fun (r : Value) (h' : Heap) => ∃ (x : Int), r = .int .i64 x ∧ Q (.int .i64 x) h')
 (Q (.int .i64 e) h)
theorem spare_Bank_say.ok {b : Option Addr} {n : Int} {h : Heap} {Q : Value → Heap → Prop} (hk : spare_Bank_say.wp b n h Q) : C Tryz.prog 128 #[.pointer b, .int .u64 n] h Q :=
 C_of_xs (H := spare_Bank_say.H) (lcuts := spare_Bank_say.lc) (rcuts := spare_Bank_say.rc) (l := [.pointer b, .int .u64 n]) 2000 mixed Tryz.func128 rfl (by kernel_rfl) (@cast (spare_Bank_say.wp b n h Q) _ (by kernel_rfl) hk)
theorem spare_Bank_say.J2.ok {b : Option Addr} {n : Int} {e : Int} {h : Heap} {Q : Value → Heap → Prop} (hk : spare_Bank_say.J2.wp b n e h Q) : spare_Bank_say.J2 b n e h Q :=
 xs_ok (H := spare_Bank_say.H) (lcuts := spare_Bank_say.lc) (rcuts := []) (fn := Tryz.f128) mixed Tryz.func128 2000 _ _ _ (@cast (spare_Bank_say.J2.wp b n e h Q) _ (by kernel_rfl) hk)

/-! (*gabion/spare.Bank).retire -/
def spare_Bank_retire.H : Hn := ⟨[], [], [⟨2, .q 0 (.q 1 (.q 2 (.q 4 (.q 5 (.q 6 (.ld 3 768 (.q 7 (.q 8 (.q 9 (.nil)))))))))), []⟩], []⟩
def spare_Bank_retire.lc : List Cut := [⟨1, [0, 1, 2], []⟩]
def spare_Bank_retire.rc : List Cut := []
def spare_Bank_retire.L1 (b : Option Addr) (i : Int) (s : ByteArray) (h : Heap) (Q : Value → Heap → Prop) : Prop :=
 TW Tryz.prog 85 49 [.code (cAt (bodyOf Tryz.f85) [1, 0, 0, 0]), .inLoop (cAt (bodyOf Tryz.f85) [1, 0, 0, 0]), .inBlock 0, .code (cAt (bodyOf Tryz.f85) [1, 1])] ⟨[(0, .v (.pointer b)), (1, .v (.int .i64 i)), (2, .v (.string s))], []⟩ h Q
def spare_Bank_retire.wp (b : Option Addr) (i : Int) (s : ByteArray) (h : Heap) (Q : Value → Heap → Prop) : Prop :=
 spare_Bank_retire.L1 b i s h Q
def spare_Bank_retire.L1.wp (b : Option Addr) (i : Int) (s : ByteArray) (h : Heap) (Q : Value → Heap → Prop) : Prop :=
 C Tryz.prog 127 #[.pointer b] h fun (r : Value) (h' : Heap) =>
 ∃ (x : Int),
 r = .int .i64 x ∧
 xsIf (decide (0 < x))
 (atBase b fun (b_1 o : Nat) =>
 atBase b fun (b_2 o_1 : Nat) =>
 ∃ (x : Int),
 h'.cell b_1 (o + 1) = some (.int .i64 x) ∧
 ∃ (x_1 : Int),
 h'.cell b_1 (o + 1 + 1) = some (.int .i64 x_1) ∧
 ∃ (x_2 : Int),
 h'.cell b_1 (o + 1 + 1 + 1) = some (.int .i64 x_2) ∧
 ∃ (x_3 : Int),
 h'.cell b_2 (o_1 + 4) = some (.int .i64 x_3) ∧
 C Tryz.prog 124 #[.agg #[.int .i64 x, .int .i64 x_1, .int .i64 x_2], .int .i64 x_3] h' fun (r : Value) (h' : Heap) =>
 ∃ (x : Int),
 r = .int .i64 x ∧
 atBase b fun (b_3 o : Nat) =>
 ∃ (x_4 : Option Addr),
 h'.cell b_3 (o + 0) = some (.pointer x_4) ∧
 C Tryz.prog 78 #[.pointer x_4, .int .i64 x, .string s] h' fun (r : Value) (h' : Heap) =>
 ∃ (x_5 : Int),
 r = .int .i64 x_5 ∧
 xsIf (decide (x_5 ≠ 0)) (Q (.int .i64 x_5) h')
 (atBase b fun (b_4 o : Nat) =>
 ∃ (x_6 : Option Addr),
 h'.cell b_4 (o + 0) = some (.pointer x_6) ∧
 C Tryz.prog 56 #[.pointer x_6, .int .i64 x, .string s] h' fun (r : Value) (h' : Heap) =>
 ∃ (x : Bool),
 r = .bool x ∧
 xsIf x
 (C Tryz.prog 128 #[.pointer b, .int .u64 (IntKind.u64.wrap (IntKind.u64.wrap i + 1))] h' fun (r : Value) (h' : Heap) =>
 ∃ (x : Int), r = .int .i64 x ∧ Q (.int .i64 x) h')
 (C Tryz.prog 128 #[.pointer b, .int .u64 65535] h' fun (r : Value) (h' : Heap) =>
 ∃ (x : Int), r = .int .i64 x ∧ xsIf (decide (x ≠ 0)) (Q (.int .i64 x) h') (spare_Bank_retire.L1 b i s h' Q))))
 (Q (.int .i64 10) h')
theorem spare_Bank_retire.ok {b : Option Addr} {i : Int} {s : ByteArray} {h : Heap} {Q : Value → Heap → Prop} (hk : spare_Bank_retire.wp b i s h Q) : C Tryz.prog 85 #[.pointer b, .int .i64 i, .string s] h Q :=
 C_of_xs (H := spare_Bank_retire.H) (lcuts := spare_Bank_retire.lc) (rcuts := spare_Bank_retire.rc) (l := [.pointer b, .int .i64 i, .string s]) 2000 mixed Tryz.func85 rfl (by kernel_rfl) (@cast (spare_Bank_retire.wp b i s h Q) _ (by kernel_rfl) hk)
theorem spare_Bank_retire.L1.ok {b : Option Addr} {i : Int} {s : ByteArray} {h : Heap} {Q : Value → Heap → Prop} (hk : spare_Bank_retire.L1.wp b i s h Q) : spare_Bank_retire.L1 b i s h Q :=
 xs_ok (H := spare_Bank_retire.H) (lcuts := spare_Bank_retire.lc) (rcuts := spare_Bank_retire.rc) (fn := Tryz.f85) mixed Tryz.func85 2000 _ _ _ (@cast (spare_Bank_retire.L1.wp b i s h Q) _ (by kernel_rfl) hk)

/-! (*gabion/spare.Bank).WriteWord -/
def spare_Bank_WriteWord.H : Hn := ⟨[], [], [⟨11, .q 0 (.q 1 (.q 2 (.q 3 (.q 4 (.q 7 (.q 8 (.q 9 (.q 10 (.q 11 (.q 5 (.q 6 (.q 12 (.q 13 (.nil)))))))))))))), []⟩], []⟩
def spare_Bank_WriteWord.lc : List Cut := []
def spare_Bank_WriteWord.rc : List Cut := []
def spare_Bank_WriteWord.wp (b : Option Addr) (i : Int) (k0 : Int) (v : Int) (h : Heap) (Q : Value → Heap → Prop) : Prop :=
 C Tryz.prog 81 #[.pointer b, .int .i64 i] h fun (r : Value) (h' : Heap) =>
 ∃ (x : Int),
 ∃ (x_1 : Int),
 r = .tuple #[.int .i64 x, .int .i64 x_1] ∧
 xsIf (decide (x_1 = 1)) (Q (.int .i64 x_1) h')
 (xsIf (decide (k0 < 0)) (Q (.int .i64 2) h')
 (xsIf (decide (8 ≤ k0)) (Q (.int .i64 2) h')
 (xsIf (decide (x_1 ≠ 0)) (Q (.int .i64 x_1) h')
 (atBase b fun (b_1 o : Nat) =>
 ∃ (x_2 : Option Addr),
 h'.cell b_1 (o + 0) = some (.pointer x_2) ∧
 C Tryz.prog 82 #[.pointer x_2, .int .i64 x] h' fun (r : Value) (h' : Heap) =>
 ∃ (x_3 : ByteArray),
 ∃ (x_4 : Int),
 r = .tuple #[.string x_3, .int .i64 x_4] ∧
 xsIf (decide (x_4 ≠ 0)) (Q (.int .i64 x_4) h')
 ((0 ≤ IntKind.i64.wrap (8 * k0) ∧ IntKind.i64.wrap (8 * k0) ≤ (↑x_3.size : Int)) ∧
 (0 ≤ IntKind.i64.wrap (8 * IntKind.i64.wrap (k0 + 1)) ∧ IntKind.i64.wrap (8 * IntKind.i64.wrap (k0 + 1)) ≤ (↑x_3.size : Int)) ∧
 C Tryz.prog 83 #[.int .u64 v, .int .i64 8] h' fun (r : Value) (h' : Heap) =>
 ∃ (x_5 : ByteArray),
 r = .string x_5 ∧
 (↑((sext x_3 0 (IntKind.i64.wrap (8 * k0))).size + x_5.size) : Int) ≤ 9223372036854775807 ∧
 (↑((sext x_3 0 (IntKind.i64.wrap (8 * k0)) ++ x_5).size + (sext x_3 (IntKind.i64.wrap (8 * IntKind.i64.wrap (k0 + 1))) (↑x_3.size : Int)).size) : Int) ≤ 9223372036854775807 ∧
 atBase b fun (b_2 o : Nat) =>
 ∃ (x_6 : Option Addr),
 h'.cell b_2 (o + 0) = some (.pointer x_6) ∧
 C Tryz.prog 84 #[.pointer x_6, .int .i64 x, .int .i64 k0, .int .u64 v] h' fun (r : Value) (h' : Heap) =>
 ∃ (x_7 : Int),
 r = .int .i64 x_7 ∧
 xsIf (decide (x_7 ≠ 0)) (Q (.int .i64 x_7) h')
 (atBase b fun (b_3 o : Nat) =>
 ∃ (x_8 : Option Addr),
 h'.cell b_3 (o + 0) = some (.pointer x_8) ∧
 C Tryz.prog 56
 #[.pointer x_8, .int .i64 x,
 .string (sext x_3 0 (IntKind.i64.wrap (8 * k0)) ++ x_5 ++ sext x_3 (IntKind.i64.wrap (8 * IntKind.i64.wrap (k0 + 1))) (↑x_3.size : Int))]
 h' fun (r : Value) (h' : Heap) =>
 ∃ (x : Bool),
 r = .bool x ∧
 xsIf x (Q (.int .i64 0) h')
 (C Tryz.prog 85
 #[.pointer b, .int .i64 i,
 .string (sext x_3 0 (IntKind.i64.wrap (8 * k0)) ++ x_5 ++ sext x_3 (IntKind.i64.wrap (8 * IntKind.i64.wrap (k0 + 1))) (↑x_3.size : Int))]
 h' fun (r : Value) (h' : Heap) => ∃ (x : Int), r = .int .i64 x ∧ Q (.int .i64 x) h')))))))
theorem spare_Bank_WriteWord.ok {b : Option Addr} {i : Int} {k0 : Int} {v : Int} {h : Heap} {Q : Value → Heap → Prop} (hk : spare_Bank_WriteWord.wp b i k0 v h Q) : C Tryz.prog 33 #[.pointer b, .int .i64 i, .int .i64 k0, .int .u64 v] h Q :=
 C_of_xs (H := spare_Bank_WriteWord.H) (lcuts := spare_Bank_WriteWord.lc) (rcuts := spare_Bank_WriteWord.rc) (l := [.pointer b, .int .i64 i, .int .i64 k0, .int .u64 v]) 2000 mixed Tryz.func33 rfl (by kernel_rfl) (@cast (spare_Bank_WriteWord.wp b i k0 v h Q) _ (by kernel_rfl) hk)

/-! gabion/ring.Format -/
def ring_Format.H : Hn := ⟨[], [], [⟨10, .q 0 (.q 1 (.q 3 (.q 4 (.q 2 (.q 5 (.q 6 (.q 7 (.q 8 (.nil))))))))), []⟩], []⟩
def ring_Format.lc : List Cut := []
def ring_Format.rc : List Cut := []
def ring_Format.wp (d : Option Addr) (p_0 : Int) (p_1 : Int) (p_2 : Int) (p_3 : Int) (h : Heap) (Q : Value → Heap → Prop) : Prop :=
 C Tryz.prog 29 #[.pointer d, .agg #[.int .i64 p_0, .int .i64 p_1, .int .i64 p_2, .int .i64 p_3]] h fun (r : Value) (h' : Heap) =>
 ∃ (x : Int),
 r = .int .i64 x ∧
 xsIf (decide (x ≠ 0)) (Q (.int .i64 x) h')
 (C Tryz.prog 31 #[.agg #[.int .i64 p_0, .int .i64 p_1, .int .i64 p_2, .int .i64 p_3]] h' fun (r : Value) (h' : Heap) =>
 ∃ (x : Int),
 ∃ (x_1 : Int),
 ∃ (x_2 : Int),
 r = .agg #[.int .i64 x, .int .i64 x_1, .int .i64 x_2] ∧
 C Tryz.prog 30 #[.pointer d, .agg #[.int .i64 x, .int .i64 x_1, .int .i64 x_2]] h' fun (r : Value) (h' : Heap) =>
 ∃ (x : Int),
 r = .int .i64 x ∧
 xsIf (decide (x ≠ 0)) (Q (.int .i64 x) h')
 (C Tryz.prog 31 #[.agg #[.int .i64 p_0, .int .i64 p_1, .int .i64 p_2, .int .i64 p_3]] h' fun (r : Value) (h' : Heap) =>
 ∃ (x : Int),
 ∃ (x_3 : Int),
 ∃ (x_4 : Int),
 r = .agg #[.int .i64 x, .int .i64 x_3, .int .i64 x_4] ∧
 C Tryz.prog 32 #[.pointer d, .agg #[.int .i64 x, .int .i64 x_3, .int .i64 x_4]] h' fun (r : Value) (h' : Heap) =>
 ∃ (x : Option Addr),
 ∃ (x_5 : Int),
 r = .tuple #[.pointer x, .int .i64 x_5] ∧
 xsIf (decide (x_5 ≠ 0)) (Q (.int .i64 x_5) h')
 (C Tryz.prog 34 #[.agg #[.int .i64 p_0, .int .i64 p_1, .int .i64 p_2, .int .i64 p_3]] h'
 fun (r : Value) (h' : Heap) =>
 ∃ (x_6 : Int),
 r = .int .i64 x_6 ∧
 C Tryz.prog 35 #[.int .i64 p_1] h' fun (r : Value) (h' : Heap) =>
 ∃ (x_7 : Int),
 ∃ (x_8 : Int),
 ∃ (x_9 : Int),
 r = .agg #[.int .i64 x_7, .int .i64 x_8, .int .u32 x_9] ∧
 C Tryz.prog 36 #[.agg #[.int .i64 x_7, .int .i64 x_8, .int .u32 x_9]] h' fun (r : Value) (h' : Heap) =>
 ∃ (x_10 : Int),
 r = .int .u64 x_10 ∧
 C Tryz.prog 33 #[.pointer x, .int .i64 x_6, .int .i64 0, .int .u64 x_10] h' fun (r : Value) (h' : Heap) =>
 ∃ (x : Int), r = .int .i64 x ∧ Q (.int .i64 x) h')))
theorem ring_Format.ok {d : Option Addr} {p_0 : Int} {p_1 : Int} {p_2 : Int} {p_3 : Int} {h : Heap} {Q : Value → Heap → Prop} (hk : ring_Format.wp d p_0 p_1 p_2 p_3 h Q) : C Tryz.prog 9 #[.pointer d, .agg #[.int .i64 p_0, .int .i64 p_1, .int .i64 p_2, .int .i64 p_3]] h Q :=
 C_of_xs (H := ring_Format.H) (lcuts := ring_Format.lc) (rcuts := ring_Format.rc) (l := [.pointer d, .agg #[.int .i64 p_0, .int .i64 p_1, .int .i64 p_2, .int .i64 p_3]]) 2000 mixed Tryz.func9 rfl (by kernel_rfl) (@cast (ring_Format.wp d p_0 p_1 p_2 p_3 h Q) _ (by kernel_rfl) hk)

/-! gabion/gabionref05.Check -/
def gabionref05_Check.H : Hn := ⟨[], [], [], []⟩
def gabionref05_Check.lc : List Cut := []
def gabionref05_Check.rc : List Cut := []
def gabionref05_Check.wp (p_0 : Int) (p_1 : Int) (p_2 : Int) (lines : Int) (h : Heap) (Q : Value → Heap → Prop) : Prop :=
 xsIf (decide (p_0 < 0)) (Q (.int .i64 2) h)
 (xsIf (decide (8192 < p_0)) (Q (.int .i64 2) h)
 (xsIf (decide (p_1 < 1)) (Q (.int .i64 2) h)
 (xsIf (decide (1026 < p_1)) (Q (.int .i64 2) h)
 (xsIf (decide (p_2 < 0)) (Q (.int .i64 2) h)
 (xsIf (decide (64 < p_2)) (Q (.int .i64 2) h)
 (C Tryz.prog 52 #[.agg #[.int .i64 p_0, .int .i64 p_1, .int .i64 p_2]] h fun (r : Value) (h' : Heap) =>
 ∃ (x : Int), r = .int .i64 x ∧ xsIf (decide (lines < IntKind.i64.wrap (p_0 + x))) (Q (.int .i64 3) h') (Q (.int .i64 0) h')))))))
theorem gabionref05_Check.ok {p_0 : Int} {p_1 : Int} {p_2 : Int} {lines : Int} {h : Heap} {Q : Value → Heap → Prop} (hk : gabionref05_Check.wp p_0 p_1 p_2 lines h Q) : C Tryz.prog 139 #[.agg #[.int .i64 p_0, .int .i64 p_1, .int .i64 p_2], .int .i64 lines] h Q :=
 C_of_xs (H := gabionref05_Check.H) (lcuts := gabionref05_Check.lc) (rcuts := gabionref05_Check.rc) (l := [.agg #[.int .i64 p_0, .int .i64 p_1, .int .i64 p_2], .int .i64 lines]) 2000 mixed Tryz.func139 rfl (by kernel_rfl) (@cast (gabionref05_Check.wp p_0 p_1 p_2 lines h Q) _ (by kernel_rfl) hk)

/-! gabion/gabionref07.Check -/
def gabionref07_Check.H : Hn := ⟨[], [], [], []⟩
def gabionref07_Check.lc : List Cut := []
def gabionref07_Check.rc : List Cut := []
def gabionref07_Check.wp (p_0 : Int) (p_1 : Int) (p_2 : Int) (p_3 : Int) (lines : Int) (h : Heap) (Q : Value → Heap → Prop) : Prop :=
 xsIf (decide (p_1 < 1)) (Q (.int .i64 2) h)
 (xsIf (decide (1024 < p_1)) (Q (.int .i64 2) h)
 (xsIf (decide (p_3 < 1)) (Q (.int .i64 2) h)
 (xsIf (decide (65535 < p_3)) (Q (.int .i64 2) h)
 (C Tryz.prog 53 #[.agg #[.int .i64 p_0, .int .i64 p_1, .int .i64 p_2, .int .i64 p_3]] h fun (r : Value) (h' : Heap) =>
 ∃ (x : Int),
 ∃ (x_1 : Int),
 ∃ (x_2 : Int),
 r = .agg #[.int .i64 x, .int .i64 x_1, .int .i64 x_2] ∧
 C Tryz.prog 139 #[.agg #[.int .i64 x, .int .i64 x_1, .int .i64 x_2], .int .i64 lines] h' fun (r : Value) (h' : Heap) =>
 ∃ (x : Int), r = .int .i64 x ∧ Q (.int .i64 x) h'))))
theorem gabionref07_Check.ok {p_0 : Int} {p_1 : Int} {p_2 : Int} {p_3 : Int} {lines : Int} {h : Heap} {Q : Value → Heap → Prop} (hk : gabionref07_Check.wp p_0 p_1 p_2 p_3 lines h Q) : C Tryz.prog 99 #[.agg #[.int .i64 p_0, .int .i64 p_1, .int .i64 p_2, .int .i64 p_3], .int .i64 lines] h Q :=
 C_of_xs (H := gabionref07_Check.H) (lcuts := gabionref07_Check.lc) (rcuts := gabionref07_Check.rc) (l := [.agg #[.int .i64 p_0, .int .i64 p_1, .int .i64 p_2, .int .i64 p_3], .int .i64 lines]) 2000 mixed Tryz.func99 rfl (by kernel_rfl) (@cast (gabionref07_Check.wp p_0 p_1 p_2 p_3 lines h Q) _ (by kernel_rfl) hk)

/-! gabion/gabionref01.Get -/
def gabionref01_Get.H : Hn := ⟨[], [], [], []⟩
def gabionref01_Get.lc : List Cut := [⟨4, [0, 3, 4, 5], []⟩]
def gabionref01_Get.rc : List Cut := [⟨6, [0, 3, 4, 5], []⟩]
def gabionref01_Get.L4 (s : ByteArray) (n : Int) (m : Int) (i : Int) (h : Heap) (Q : Value → Heap → Prop) : Prop :=
 TW Tryz.prog 107 27 [.code (cAt (bodyOf Tryz.f107) [1, 1, 1, 0, 1, 0, 0]), .inLoop (cAt (bodyOf Tryz.f107) [1, 1, 1, 0, 1, 0, 0]), .inBlock 0, .code (cAt (bodyOf Tryz.f107) [1, 1, 1, 1])] ⟨[(0, .v (.string s)), (3, .v (.int .u64 n)), (4, .v (.int .u64 m)), (5, .v (.int .i64 i))], []⟩ h Q
def gabionref01_Get.J6 (s : ByteArray) (n : Int) (m : Int) (i : Int) (h : Heap) (Q : Value → Heap → Prop) : Prop :=
 TW Tryz.prog 107 27 [.code (cAt (bodyOf Tryz.f107) [1, 1, 1, 0, 1, 0, 0, 1, 0, 0, 0]), .code (cAt (bodyOf Tryz.f107) [1, 1, 1, 0, 1, 0, 0, 1, 0, 0, 1]), .inBlock 1, .code (cAt (bodyOf Tryz.f107) [1, 1, 1, 0, 1, 0, 0, 1, 1]), .inLoop (cAt (bodyOf Tryz.f107) [1, 1, 1, 0, 1, 0, 0]), .inBlock 0, .code (cAt (bodyOf Tryz.f107) [1, 1, 1, 1])] ⟨[(0, .v (.string s)), (3, .v (.int .u64 n)), (4, .v (.int .u64 m)), (5, .v (.int .i64 i))], []⟩ h Q
def gabionref01_Get.wp (s : ByteArray) (h : Heap) (Q : Value → Heap → Prop) : Prop :=
 gabionref01_Get.L4 s 0 1 0 h Q
def gabionref01_Get.L4.wp (s : ByteArray) (n : Int) (m : Int) (i : Int) (h : Heap) (Q : Value → Heap → Prop) : Prop :=
 xsIf (decide (i < (↑s.size : Int))) (xsIf (decide (i < 8)) (gabionref01_Get.J6 s n m i h Q) (Q (.int .u64 n) h)) (Q (.int .u64 n) h)
def gabionref01_Get.J6.wp (s : ByteArray) (n : Int) (m : Int) (i : Int) (h : Heap) (Q : Value → Heap → Prop) : Prop :=
 ∃ (c : UInt8), 0 ≤ i ∧ bget s i.toNat = some c ∧ gabionref01_Get.L4 s (IntKind.u64.wrap (n + IntKind.u64.wrap (m * IntKind.u64.wrap (↑c.toNat : Int)))) (IntKind.u64.wrap (m * 256)) (IntKind.i64.wrap (i + 1)) h Q
theorem gabionref01_Get.ok {s : ByteArray} {h : Heap} {Q : Value → Heap → Prop} (hk : gabionref01_Get.wp s h Q) : C Tryz.prog 107 #[.string s] h Q :=
 C_of_xs (H := gabionref01_Get.H) (lcuts := gabionref01_Get.lc) (rcuts := gabionref01_Get.rc) (l := [.string s]) 2000 mixed Tryz.func107 rfl (by kernel_rfl) (@cast (gabionref01_Get.wp s h Q) _ (by kernel_rfl) hk)
theorem gabionref01_Get.L4.ok {s : ByteArray} {n : Int} {m : Int} {i : Int} {h : Heap} {Q : Value → Heap → Prop} (hk : gabionref01_Get.L4.wp s n m i h Q) : gabionref01_Get.L4 s n m i h Q :=
 xs_ok (H := gabionref01_Get.H) (lcuts := gabionref01_Get.lc) (rcuts := gabionref01_Get.rc) (fn := Tryz.f107) mixed Tryz.func107 2000 _ _ _ (@cast (gabionref01_Get.L4.wp s n m i h Q) _ (by kernel_rfl) hk)
theorem gabionref01_Get.J6.ok {s : ByteArray} {n : Int} {m : Int} {i : Int} {h : Heap} {Q : Value → Heap → Prop} (hk : gabionref01_Get.J6.wp s n m i h Q) : gabionref01_Get.J6 s n m i h Q :=
 xs_ok (H := gabionref01_Get.H) (lcuts := gabionref01_Get.lc) (rcuts := []) (fn := Tryz.f107) mixed Tryz.func107 2000 _ _ _ (@cast (gabionref01_Get.J6.wp s n m i h Q) _ (by kernel_rfl) hk)

/-! gabion/gabionref03.begin -/
def gabionref03_begin.H : Hn := ⟨[], [], [], []⟩
def gabionref03_begin.lc : List Cut := []
def gabionref03_begin.rc : List Cut := [⟨5, [0], []⟩]
def gabionref03_begin.J5 (d : Option Addr) (h : Heap) (Q : Value → Heap → Prop) : Prop :=
 TW Tryz.prog 154 50 [.code (cAt (bodyOf Tryz.f154) [1, 1, 1, 0, 0]), .code (cAt (bodyOf Tryz.f154) [1, 1, 1, 0, 1]), .code (cAt (bodyOf Tryz.f154) [1, 1, 1, 1])] ⟨[(0, .v (.pointer d))], []⟩ h Q
def gabionref03_begin.wp (d : Option Addr) (at0 : Int) (of0 : Int) (h : Heap) (Q : Value → Heap → Prop) : Prop :=
 atBase d fun (b o : Nat) =>
 ∃ (x : Bool),
 h.cell b (o + 4) = some (.bool x) ∧ xsIf x (Q (.int .i64 6) h) (xsIf (decide (at0 < 0)) (Q (.int .i64 3) h) (xsIf (decide (of0 ≤ at0)) (Q (.int .i64 3) h) (gabionref03_begin.J5 d h Q)))
def gabionref03_begin.J5.wp (d : Option Addr) (h : Heap) (Q : Value → Heap → Prop) : Prop :=
 atBase d fun (b o : Nat) =>
 ∃ (x : Int),
 h.cell b (o + 3) = some (.int .i64 x) ∧
 xsIf (decide (x = 1))
 (atBase d fun (b o : Nat) =>
 h.can b (o + 3) 1 ∧ atBase d fun (b_1 o_1 : Nat) => (h.put b (o + 3) [.int .i64 0]).can b_1 (o_1 + 4) 1 ∧ Q (.int .i64 6) ((h.put b (o + 3) [.int .i64 0]).put b_1 (o_1 + 4) [.bool true]))
 (atBase d fun (b o : Nat) =>
 ∃ (x : Int),
 h.cell b (o + 3) = some (.int .i64 x) ∧
 xsIf (decide (1 < x))
 (atBase d fun (b o : Nat) =>
 ∃ (x : Int),
 h.cell b (o + 3) = some (.int .i64 x) ∧
 atBase d fun (b o : Nat) =>
 h.can b (o + 3) 1 ∧
 atBase d fun (b_1 o_1 : Nat) =>
 ∃ (x_1 : Int),
 (h.put b (o + 3) [.int .i64 (IntKind.i64.wrap (x - 1))]).cell b_1 (o_1 + 5) = some (.int .i64 x_1) ∧
 atBase d fun (b_2 o_2 : Nat) =>
 (h.put b (o + 3) [.int .i64 (IntKind.i64.wrap (x - 1))]).can b_2 (o_2 + 5) 1 ∧
 Q (.int .i64 0) ((h.put b (o + 3) [.int .i64 (IntKind.i64.wrap (x - 1))]).put b_2 (o_2 + 5) [.int .i64 (IntKind.i64.wrap (x_1 + 1))]))
 (atBase d fun (b o : Nat) =>
 ∃ (x : Int), h.cell b (o + 5) = some (.int .i64 x) ∧ atBase d fun (b o : Nat) => h.can b (o + 5) 1 ∧ Q (.int .i64 0) (h.put b (o + 5) [.int .i64 (IntKind.i64.wrap (x + 1))])))
theorem gabionref03_begin.ok {d : Option Addr} {at0 : Int} {of0 : Int} {h : Heap} {Q : Value → Heap → Prop} (hk : gabionref03_begin.wp d at0 of0 h Q) : C Tryz.prog 154 #[.pointer d, .int .i64 at0, .int .i64 of0] h Q :=
 C_of_xs (H := gabionref03_begin.H) (lcuts := gabionref03_begin.lc) (rcuts := gabionref03_begin.rc) (l := [.pointer d, .int .i64 at0, .int .i64 of0]) 2000 mixed Tryz.func154 rfl (by kernel_rfl) (@cast (gabionref03_begin.wp d at0 of0 h Q) _ (by kernel_rfl) hk)
theorem gabionref03_begin.J5.ok {d : Option Addr} {h : Heap} {Q : Value → Heap → Prop} (hk : gabionref03_begin.J5.wp d h Q) : gabionref03_begin.J5 d h Q :=
 xs_ok (H := gabionref03_begin.H) (lcuts := gabionref03_begin.lc) (rcuts := []) (fn := Tryz.f154) mixed Tryz.func154 2000 _ _ _ (@cast (gabionref03_begin.J5.wp d h Q) _ (by kernel_rfl) hk)

/-! gabion/gabionref03.Store -/
def gabionref03_Store.H : Hn := ⟨[], [], [], []⟩
def gabionref03_Store.lc : List Cut := []
def gabionref03_Store.rc : List Cut := []
def gabionref03_Store.wp (d : Option Addr) (word : Int) (v : Int) (h : Heap) (Q : Value → Heap → Prop) : Prop :=
 atBase d fun (b o : Nat) =>
 ∃ (x : Option Addr),
 ∃ (n : Nat),
 ∃ (m : Nat),
 h.cell b (o + 0) = some (.slice x n m) ∧
 C Tryz.prog 154 #[.pointer d, .int .i64 word, .int .i64 (↑n : Int)] h fun (r : Value) (h' : Heap) =>
 ∃ (x : Int),
 r = .int .i64 x ∧
 xsIf (decide (x = 0))
 (atBase d fun (b o : Nat) =>
 ∃ (x_1 : Option Addr),
 ∃ (n : Nat),
 ∃ (m : Nat),
 h'.cell b (o + 0) = some (.slice x_1 n m) ∧
 (0 ≤ word ∧ word < (↑n : Int)) ∧
 atBase x_1 fun (b o : Nat) =>
 h'.can b (o + word.toNat * 4 + 1) 1 ∧
 atBase d fun (b_1 o_1 : Nat) =>
 ∃ (x_2 : Option Addr),
 ∃ (n : Nat),
 ∃ (m : Nat),
 (h'.put b (o + word.toNat * 4 + 1) [.bool true]).cell b_1 (o_1 + 0) = some (.slice x_2 n m) ∧
 (0 ≤ word ∧ word < (↑n : Int)) ∧
 atBase x_2 fun (b_2 o_2 : Nat) =>
 (h'.put b (o + word.toNat * 4 + 1) [.bool true]).can b_2 (o_2 + word.toNat * 4 + 2) 1 ∧
 atBase d fun (b_3 o_3 : Nat) =>
 ∃ (x_3 : Option Addr),
 ∃ (n : Nat),
 ∃ (m : Nat),
 ((h'.put b (o + word.toNat * 4 + 1) [.bool true]).put b_2 (o_2 + word.toNat * 4 + 2) [.int .u64 v]).cell b_3 (o_3 + 0) = some (.slice x_3 n m) ∧
 (0 ≤ word ∧ word < (↑n : Int)) ∧
 atBase x_3 fun (b_4 o_4 : Nat) =>
 ((h'.put b (o + word.toNat * 4 + 1) [.bool true]).put b_2 (o_2 + word.toNat * 4 + 2) [.int .u64 v]).can b_4 (o_4 + word.toNat * 4 + 3) 1 ∧
 Q (.int .i64 x)
 (((h'.put b (o + word.toNat * 4 + 1) [.bool true]).put b_2 (o_2 + word.toNat * 4 + 2) [.int .u64 v]).put b_4 (o_4 + word.toNat * 4 + 3)
 [.bool false]))
 (Q (.int .i64 x) h')
theorem gabionref03_Store.ok {d : Option Addr} {word : Int} {v : Int} {h : Heap} {Q : Value → Heap → Prop} (hk : gabionref03_Store.wp d word v h Q) : C Tryz.prog 141 #[.pointer d, .int .i64 word, .int .u64 v] h Q :=
 C_of_xs (H := gabionref03_Store.H) (lcuts := gabionref03_Store.lc) (rcuts := gabionref03_Store.rc) (l := [.pointer d, .int .i64 word, .int .u64 v]) 2000 mixed Tryz.func141 rfl (by kernel_rfl) (@cast (gabionref03_Store.wp d word v h Q) _ (by kernel_rfl) hk)

/-! gabion/gabionref03.Flush -/
def gabionref03_Flush.H : Hn := ⟨[], [], [⟨5, .q 0 (.q 1 (.q 2 (.q 4 (.q 5 (.q 6 (.q 7 (.q 8 (.q 9 (.q 10 (.q 12 (.q 13 (.q 14 (.q 15 (.ld 3 3670016 (.q 11 (.q 16 (.q 17 (.q 18 (.q 19 (.q 20 (.q 21 (.nil)))))))))))))))))))))), []⟩], []⟩
def gabionref03_Flush.lc : List Cut := [⟨3, [0, 1, 5, 6], []⟩]
def gabionref03_Flush.rc : List Cut := [⟨5, [0, 1, 5, 6], []⟩]
def gabionref03_Flush.L3 (d : Option Addr) (line : Int) (e : Int) (k0 : Int) (h : Heap) (Q : Value → Heap → Prop) : Prop :=
 TW Tryz.prog 155 45 [.code (cAt (bodyOf Tryz.f155) [1, 1, 0, 1, 0, 0]), .inLoop (cAt (bodyOf Tryz.f155) [1, 1, 0, 1, 0, 0]), .inBlock 0, .code (cAt (bodyOf Tryz.f155) [1, 1, 1])] ⟨[(0, .v (.pointer d)), (1, .v (.int .i64 line)), (5, .v (.int .i64 e)), (6, .v (.int .i64 k0))], []⟩ h Q
def gabionref03_Flush.J5 (d : Option Addr) (line : Int) (e : Int) (k0 : Int) (h : Heap) (Q : Value → Heap → Prop) : Prop :=
 TW Tryz.prog 155 45 [.code (cAt (bodyOf Tryz.f155) [1, 1, 0, 1, 0, 0, 1, 0, 0]), .inBlock 1, .code (cAt (bodyOf Tryz.f155) [1, 1, 0, 1, 0, 0, 1, 1]), .inLoop (cAt (bodyOf Tryz.f155) [1, 1, 0, 1, 0, 0]), .inBlock 0, .code (cAt (bodyOf Tryz.f155) [1, 1, 1])] ⟨[(0, .v (.pointer d)), (1, .v (.int .i64 line)), (5, .v (.int .i64 e)), (6, .v (.int .i64 k0))], []⟩ h Q
def gabionref03_Flush.wp (d : Option Addr) (line : Int) (h : Heap) (Q : Value → Heap → Prop) : Prop :=
 atBase d fun (b o : Nat) =>
 ∃ (x : Option Addr),
 ∃ (n : Nat),
 ∃ (m : Nat),
 h.cell b (o + 1) = some (.slice x n m) ∧
 C Tryz.prog 154 #[.pointer d, .int .i64 line, .int .i64 (↑n : Int)] h fun (r : Value) (h' : Heap) => ∃ (x : Int), r = .int .i64 x ∧ gabionref03_Flush.L3 d line x 0 h' Q
def gabionref03_Flush.L3.wp (d : Option Addr) (line : Int) (e : Int) (k0 : Int) (h : Heap) (Q : Value → Heap → Prop) : Prop :=
 xsIf (decide (k0 < 8)) (xsIf (decide (e = 0)) (gabionref03_Flush.J5 d line e k0 h Q) (Q (.int .i64 e) h)) (Q (.int .i64 e) h)
def gabionref03_Flush.J5.wp (d : Option Addr) (line : Int) (e : Int) (k0 : Int) (h : Heap) (Q : Value → Heap → Prop) : Prop :=
 atBase d fun (b o : Nat) =>
 atBase d fun (b_1 o_1 : Nat) =>
 ∃ (x : Option Addr),
 ∃ (n : Nat),
 ∃ (m : Nat),
 h.cell b (o + 0) = some (.slice x n m) ∧
 ∃ (x_1 : Option Addr),
 ∃ (n_1 : Nat),
 ∃ (m : Nat),
 h.cell b_1 (o_1 + 0) = some (.slice x_1 n_1 m) ∧
 (0 ≤ IntKind.i64.wrap (IntKind.i64.wrap (8 * line) + k0) ∧ IntKind.i64.wrap (IntKind.i64.wrap (8 * line) + k0) < (↑n_1 : Int)) ∧
 atBase x_1 fun (b o : Nat) =>
 ∃ (x_2 : Bool),
 h.cell b (o + (IntKind.i64.wrap (IntKind.i64.wrap (8 * line) + k0)).toNat * 4 + 1) = some (.bool x_2) ∧
 (0 ≤ IntKind.i64.wrap (IntKind.i64.wrap (8 * line) + k0) ∧ IntKind.i64.wrap (IntKind.i64.wrap (8 * line) + k0) < (↑n : Int)) ∧
 atBase x fun (b o : Nat) =>
 h.can b (o + (IntKind.i64.wrap (IntKind.i64.wrap (8 * line) + k0)).toNat * 4 + 3) 1 ∧
 gabionref03_Flush.L3 d line e (IntKind.i64.wrap (k0 + 1)) (h.put b (o + (IntKind.i64.wrap (IntKind.i64.wrap (8 * line) + k0)).toNat * 4 + 3) [.bool x_2]) Q
theorem gabionref03_Flush.ok {d : Option Addr} {line : Int} {h : Heap} {Q : Value → Heap → Prop} (hk : gabionref03_Flush.wp d line h Q) : C Tryz.prog 155 #[.pointer d, .int .i64 line] h Q :=
 C_of_xs (H := gabionref03_Flush.H) (lcuts := gabionref03_Flush.lc) (rcuts := gabionref03_Flush.rc) (l := [.pointer d, .int .i64 line]) 2000 mixed Tryz.func155 rfl (by kernel_rfl) (@cast (gabionref03_Flush.wp d line h Q) _ (by kernel_rfl) hk)
theorem gabionref03_Flush.L3.ok {d : Option Addr} {line : Int} {e : Int} {k0 : Int} {h : Heap} {Q : Value → Heap → Prop} (hk : gabionref03_Flush.L3.wp d line e k0 h Q) : gabionref03_Flush.L3 d line e k0 h Q :=
 xs_ok (H := gabionref03_Flush.H) (lcuts := gabionref03_Flush.lc) (rcuts := gabionref03_Flush.rc) (fn := Tryz.f155) mixed Tryz.func155 2000 _ _ _ (@cast (gabionref03_Flush.L3.wp d line e k0 h Q) _ (by kernel_rfl) hk)
theorem gabionref03_Flush.J5.ok {d : Option Addr} {line : Int} {e : Int} {k0 : Int} {h : Heap} {Q : Value → Heap → Prop} (hk : gabionref03_Flush.J5.wp d line e k0 h Q) : gabionref03_Flush.J5 d line e k0 h Q :=
 xs_ok (H := gabionref03_Flush.H) (lcuts := gabionref03_Flush.lc) (rcuts := []) (fn := Tryz.f155) mixed Tryz.func155 2000 _ _ _ (@cast (gabionref03_Flush.J5.wp d line e k0 h Q) _ (by kernel_rfl) hk)

/-! gabion/gabionref03.last -/
def gabionref03_last.H : Hn := ⟨[], [], [⟨10, .q 0 (.q 1 (.q 2 (.q 4 (.q 5 (.q 6 (.q 7 (.q 9 (.ld 3 57344 (.q 8 (.q 10 (.q 11 (.q 12 (.q 13 (.q 14 (.q 15 (.nil)))))))))))))))), []⟩], []⟩
def gabionref03_last.lc : List Cut := [⟨1, [0, 1, 4], []⟩, ⟨5, [0, 1, 4, 5, 6], []⟩]
def gabionref03_last.rc : List Cut := [⟨11, [0, 1, 4, 5, 6], []⟩, ⟨6, [0, 1, 4, 5, 6], []⟩]
def gabionref03_last.L1 (d : Option Addr) (chosen : Option Addr) (chosen_n : Nat) (chosen_c : Nat) (i : Int) (h : Heap) (Q : Value → Heap → Prop) : Prop :=
 TW Tryz.prog 72 70 [.code (cAt (bodyOf Tryz.f72) [1, 0, 0]), .inLoop (cAt (bodyOf Tryz.f72) [1, 0, 0]), .inBlock 0] ⟨[(0, .v (.pointer d)), (1, .v (.slice chosen chosen_n chosen_c)), (4, .v (.int .i64 i))], []⟩ h Q
def gabionref03_last.L5 (d : Option Addr) (chosen : Option Addr) (chosen_n : Nat) (chosen_c : Nat) (i : Int) (some : Bool) (k0 : Int) (h : Heap) (Q : Value → Heap → Prop) : Prop :=
 TW Tryz.prog 72 70 [.code (cAt (bodyOf Tryz.f72) [1, 0, 0, 1, 0, 0, 1, 0, 1, 0, 0]), .inLoop (cAt (bodyOf Tryz.f72) [1, 0, 0, 1, 0, 0, 1, 0, 1, 0, 0]), .inBlock 2, .code (cAt (bodyOf Tryz.f72) [1, 0, 0, 1, 0, 0, 1, 1]), .inBlock 1, .code (cAt (bodyOf Tryz.f72) [1, 0, 0, 1, 1]), .inLoop (cAt (bodyOf Tryz.f72) [1, 0, 0]), .inBlock 0] ⟨[(0, .v (.pointer d)), (1, .v (.slice chosen chosen_n chosen_c)), (4, .v (.int .i64 i)), (5, .v (.bool some)), (6, .v (.int .i64 k0))], []⟩ h Q
def gabionref03_last.J11 (d : Option Addr) (chosen : Option Addr) (chosen_n : Nat) (chosen_c : Nat) (i : Int) (some : Bool) (k0 : Int) (h : Heap) (Q : Value → Heap → Prop) : Prop :=
 TW Tryz.prog 72 70 [.code (cAt (bodyOf Tryz.f72) [1, 0, 0, 1, 0, 0, 1, 0, 1, 0, 0, 1, 0, 0, 1, 1, 1]), .inBlock 3, .code (cAt (bodyOf Tryz.f72) [1, 0, 0, 1, 0, 0, 1, 0, 1, 0, 0, 1, 1]), .inLoop (cAt (bodyOf Tryz.f72) [1, 0, 0, 1, 0, 0, 1, 0, 1, 0, 0]), .inBlock 2, .code (cAt (bodyOf Tryz.f72) [1, 0, 0, 1, 0, 0, 1, 1]), .inBlock 1, .code (cAt (bodyOf Tryz.f72) [1, 0, 0, 1, 1]), .inLoop (cAt (bodyOf Tryz.f72) [1, 0, 0]), .inBlock 0] ⟨[(0, .v (.pointer d)), (1, .v (.slice chosen chosen_n chosen_c)), (4, .v (.int .i64 i)), (5, .v (.bool some)), (6, .v (.int .i64 k0))], []⟩ h Q
def gabionref03_last.J6 (d : Option Addr) (chosen : Option Addr) (chosen_n : Nat) (chosen_c : Nat) (i : Int) (some : Bool) (k0 : Int) (h : Heap) (Q : Value → Heap → Prop) : Prop :=
 TW Tryz.prog 72 70 [.code (cAt (bodyOf Tryz.f72) [1, 0, 0, 1, 0, 0, 1, 0, 1, 0, 0, 1, 1]), .inLoop (cAt (bodyOf Tryz.f72) [1, 0, 0, 1, 0, 0, 1, 0, 1, 0, 0]), .inBlock 2, .code (cAt (bodyOf Tryz.f72) [1, 0, 0, 1, 0, 0, 1, 1]), .inBlock 1, .code (cAt (bodyOf Tryz.f72) [1, 0, 0, 1, 1]), .inLoop (cAt (bodyOf Tryz.f72) [1, 0, 0]), .inBlock 0] ⟨[(0, .v (.pointer d)), (1, .v (.slice chosen chosen_n chosen_c)), (4, .v (.int .i64 i)), (5, .v (.bool some)), (6, .v (.int .i64 k0))], []⟩ h Q
def gabionref03_last.wp (d : Option Addr) (chosen : Option Addr) (chosen_n : Nat) (chosen_c : Nat) (h : Heap) (Q : Value → Heap → Prop) : Prop :=
 gabionref03_last.L1 d chosen chosen_n chosen_c 0 h Q
def gabionref03_last.L1.wp (d : Option Addr) (chosen : Option Addr) (chosen_n : Nat) (chosen_c : Nat) (i : Int) (h : Heap) (Q : Value → Heap → Prop) : Prop :=
 atBase d fun (b o : Nat) =>
 ∃ (x : Option Addr),
 ∃ (n : Nat), ∃ (m : Nat), h.cell b (o + 1) = some (.slice x n m) ∧ xsIf (decide (i < (↑n : Int))) (gabionref03_last.L5 d chosen chosen_n chosen_c i false (IntKind.i64.wrap (8 * i)) h Q) (Q (.tuple #[]) h)
def gabionref03_last.L5.wp (d : Option Addr) (chosen : Option Addr) (chosen_n : Nat) (chosen_c : Nat) (i : Int) (some : Bool) (k0 : Int) (h : Heap) (Q : Value → Heap → Prop) : Prop :=
 xsIf (decide (k0 < IntKind.i64.wrap (IntKind.i64.wrap (8 * i) + 8)))
 ((0 ≤ k0 ∧ k0 < (↑chosen_n : Int)) ∧
 atBase chosen fun (b o : Nat) =>
 ∃ (x : Bool),
 h.cell b (o + k0.toNat * 1) = Option.some (.bool x) ∧
 xsIf (!x) (gabionref03_last.J6 d chosen chosen_n chosen_c i some k0 h Q)
 (atBase d fun (b o : Nat) =>
 ∃ (x : Option Addr),
 ∃ (n : Nat),
 ∃ (m : Nat),
 h.cell b (o + 2) = Option.some (.slice x n m) ∧
 (0 ≤ i ∧ i < (↑n : Int)) ∧
 atBase x fun (b o : Nat) =>
 ∃ (x : Bool),
 h.cell b (o + i.toNat * 1) = Option.some (.bool x) ∧
 xsIf (!x)
 (atBase d fun (b o : Nat) =>
 atBase d fun (b_1 o_1 : Nat) =>
 ∃ (x : Option Addr),
 ∃ (n : Nat),
 ∃ (m : Nat),
 h.cell b (o + 0) = Option.some (.slice x n m) ∧
 ∃ (x_1 : Option Addr),
 ∃ (n_1 : Nat),
 ∃ (m : Nat),
 h.cell b_1 (o_1 + 0) = Option.some (.slice x_1 n_1 m) ∧
 (0 ≤ k0 ∧ k0 < (↑n_1 : Int)) ∧
 atBase x_1 fun (b o : Nat) =>
 ∃ (x_2 : Int),
 h.cell b (o + k0.toNat * 4 + 2) = Option.some (.int .u64 x_2) ∧
 (0 ≤ k0 ∧ k0 < (↑n : Int)) ∧
 atBase x fun (b o : Nat) =>
 h.can b (o + k0.toNat * 4 + 0) 1 ∧ gabionref03_last.J11 d chosen chosen_n chosen_c i true k0 (h.put b (o + k0.toNat * 4 + 0) [.int .u64 x_2]) Q)
 (gabionref03_last.J11 d chosen chosen_n chosen_c i true k0 h Q)))
 (xsIf some
 (atBase d fun (b o : Nat) =>
 ∃ (x : Option Addr),
 ∃ (n : Nat),
 ∃ (m : Nat),
 h.cell b (o + 1) = Option.some (.slice x n m) ∧
 (0 ≤ i ∧ i < (↑n : Int)) ∧
 atBase x fun (b o : Nat) =>
 ∃ (x_1 : Int),
 h.cell b (o + i.toNat * 1) = Option.some (.int .i64 x_1) ∧
 (0 ≤ i ∧ i < (↑n : Int)) ∧
 atBase x fun (b o : Nat) => h.can b (o + i.toNat * 1) 1 ∧ gabionref03_last.L1 d chosen chosen_n chosen_c (IntKind.i64.wrap (i + 1)) (h.put b (o + i.toNat * 1) [.int .i64 (IntKind.i64.wrap (x_1 + 1))]) Q)
 (gabionref03_last.L1 d chosen chosen_n chosen_c (IntKind.i64.wrap (i + 1)) h Q))
def gabionref03_last.J11.wp (d : Option Addr) (chosen : Option Addr) (chosen_n : Nat) (chosen_c : Nat) (i : Int) (some : Bool) (k0 : Int) (h : Heap) (Q : Value → Heap → Prop) : Prop :=
 atBase d fun (b o : Nat) =>
 ∃ (x : Option Addr),
 ∃ (n : Nat),
 ∃ (m : Nat),
 h.cell b (o + 0) = Option.some (.slice x n m) ∧
 (0 ≤ k0 ∧ k0 < (↑n : Int)) ∧ atBase x fun (b o : Nat) => h.can b (o + k0.toNat * 4 + 1) 1 ∧ gabionref03_last.J6 d chosen chosen_n chosen_c i some k0 (h.put b (o + k0.toNat * 4 + 1) [.bool false]) Q
def gabionref03_last.J6.wp (d : Option Addr) (chosen : Option Addr) (chosen_n : Nat) (chosen_c : Nat) (i : Int) (some : Bool) (k0 : Int) (h : Heap) (Q : Value → Heap → Prop) : Prop :=
 gabionref03_last.L5 d chosen chosen_n chosen_c i some (IntKind.i64.wrap (k0 + 1)) h Q
theorem gabionref03_last.ok {d : Option Addr} {chosen : Option Addr} {chosen_n : Nat} {chosen_c : Nat} {h : Heap} {Q : Value → Heap → Prop} (hk : gabionref03_last.wp d chosen chosen_n chosen_c h Q) : C Tryz.prog 72 #[.pointer d, .slice chosen chosen_n chosen_c] h Q :=
 C_of_xs (H := gabionref03_last.H) (lcuts := gabionref03_last.lc) (rcuts := gabionref03_last.rc) (l := [.pointer d, .slice chosen chosen_n chosen_c]) 2000 mixed Tryz.func72 rfl (by kernel_rfl) (@cast (gabionref03_last.wp d chosen chosen_n chosen_c h Q) _ (by kernel_rfl) hk)
theorem gabionref03_last.L1.ok {d : Option Addr} {chosen : Option Addr} {chosen_n : Nat} {chosen_c : Nat} {i : Int} {h : Heap} {Q : Value → Heap → Prop} (hk : gabionref03_last.L1.wp d chosen chosen_n chosen_c i h Q) : gabionref03_last.L1 d chosen chosen_n chosen_c i h Q :=
 xs_ok (H := gabionref03_last.H) (lcuts := gabionref03_last.lc) (rcuts := gabionref03_last.rc) (fn := Tryz.f72) mixed Tryz.func72 2000 _ _ _ (@cast (gabionref03_last.L1.wp d chosen chosen_n chosen_c i h Q) _ (by kernel_rfl) hk)
theorem gabionref03_last.L5.ok {d : Option Addr} {chosen : Option Addr} {chosen_n : Nat} {chosen_c : Nat} {i : Int} {some : Bool} {k0 : Int} {h : Heap} {Q : Value → Heap → Prop} (hk : gabionref03_last.L5.wp d chosen chosen_n chosen_c i some k0 h Q) : gabionref03_last.L5 d chosen chosen_n chosen_c i some k0 h Q :=
 xs_ok (H := gabionref03_last.H) (lcuts := gabionref03_last.lc) (rcuts := gabionref03_last.rc) (fn := Tryz.f72) mixed Tryz.func72 2000 _ _ _ (@cast (gabionref03_last.L5.wp d chosen chosen_n chosen_c i some k0 h Q) _ (by kernel_rfl) hk)
theorem gabionref03_last.J11.ok {d : Option Addr} {chosen : Option Addr} {chosen_n : Nat} {chosen_c : Nat} {i : Int} {some : Bool} {k0 : Int} {h : Heap} {Q : Value → Heap → Prop} (hk : gabionref03_last.J11.wp d chosen chosen_n chosen_c i some k0 h Q) : gabionref03_last.J11 d chosen chosen_n chosen_c i some k0 h Q :=
 xs_ok (H := gabionref03_last.H) (lcuts := gabionref03_last.lc) (rcuts := [⟨6, [0, 1, 4, 5, 6], []⟩]) (fn := Tryz.f72) mixed Tryz.func72 2000 _ _ _ (@cast (gabionref03_last.J11.wp d chosen chosen_n chosen_c i some k0 h Q) _ (by kernel_rfl) hk)
theorem gabionref03_last.J6.ok {d : Option Addr} {chosen : Option Addr} {chosen_n : Nat} {chosen_c : Nat} {i : Int} {some : Bool} {k0 : Int} {h : Heap} {Q : Value → Heap → Prop} (hk : gabionref03_last.J6.wp d chosen chosen_n chosen_c i some k0 h Q) : gabionref03_last.J6 d chosen chosen_n chosen_c i some k0 h Q :=
 xs_ok (H := gabionref03_last.H) (lcuts := gabionref03_last.lc) (rcuts := [⟨11, [0, 1, 4, 5, 6], []⟩]) (fn := Tryz.f72) mixed Tryz.func72 2000 _ _ _ (@cast (gabionref03_last.J6.wp d chosen chosen_n chosen_c i some k0 h Q) _ (by kernel_rfl) hk)

/-! gabion/gabionref03.Fence -/
def gabionref03_Fence.H : Hn := ⟨[], [], [], []⟩
def gabionref03_Fence.lc : List Cut := [⟨6, [0, 4, 5], []⟩]
def gabionref03_Fence.rc : List Cut := []
def gabionref03_Fence.L6 (d : Option Addr) (chosen : Option Addr) (chosen_n : Nat) (chosen_c : Nat) (i : Int) (h : Heap) (Q : Value → Heap → Prop) : Prop :=
 TW Tryz.prog 156 50 [.code (cAt (bodyOf Tryz.f156) [1, 1, 1, 1, 0, 1, 0, 0]), .inLoop (cAt (bodyOf Tryz.f156) [1, 1, 1, 1, 0, 1, 0, 0]), .inBlock 0, .code (cAt (bodyOf Tryz.f156) [1, 1, 1, 1, 1])] ⟨[(0, .v (.pointer d)), (4, .v (.slice chosen chosen_n chosen_c)), (5, .v (.int .i64 i))], []⟩ h Q
def gabionref03_Fence.wp (d : Option Addr) (h : Heap) (Q : Value → Heap → Prop) : Prop :=
 C Tryz.prog 154 #[.pointer d, .int .i64 0, .int .i64 1] h fun (r : Value) (h' : Heap) =>
 ∃ (x : Int),
 r = .int .i64 x ∧
 xsIf (decide (x ≠ 0)) (Q (.int .i64 x) h')
 (atBase d fun (b o : Nat) =>
 ∃ (x : Option Addr), ∃ (n : Nat), ∃ (m : Nat), h'.cell b (o + 0) = some (.slice x n m) ∧ xsMk Tryz.prog 4 h' (↑n : Int) (↑n : Int) fun (a : Option Addr) (n' c' : Nat) (h' : Heap) => gabionref03_Fence.L6 d a n' c' 0 h' Q)
def gabionref03_Fence.L6.wp (d : Option Addr) (chosen : Option Addr) (chosen_n : Nat) (chosen_c : Nat) (i : Int) (h : Heap) (Q : Value → Heap → Prop) : Prop :=
 atBase d fun (b o : Nat) =>
 ∃ (x : Option Addr),
 ∃ (n : Nat),
 ∃ (m : Nat),
 h.cell b (o + 0) = some (.slice x n m) ∧
 xsIf (decide (i < (↑n : Int)))
 (atBase d fun (b o : Nat) =>
 ∃ (x : Option Addr),
 ∃ (n : Nat),
 ∃ (m : Nat),
 h.cell b (o + 0) = some (.slice x n m) ∧
 (0 ≤ i ∧ i < (↑n : Int)) ∧
 atBase x fun (b o : Nat) =>
 ∃ (x : Bool),
 h.cell b (o + i.toNat * 4 + 1) = some (.bool x) ∧
 xsIf x
 (atBase d fun (b o : Nat) =>
 ∃ (x : Option Addr),
 ∃ (n : Nat),
 ∃ (m : Nat),
 h.cell b (o + 0) = some (.slice x n m) ∧
 (0 ≤ i ∧ i < (↑n : Int)) ∧
 atBase x fun (b o : Nat) =>
 ∃ (x : Bool),
 h.cell b (o + i.toNat * 4 + 3) = some (.bool x) ∧
 (0 ≤ i ∧ i < (↑chosen_n : Int)) ∧
 atBase chosen fun (b o : Nat) => h.can b (o + i.toNat * 1) 1 ∧ gabionref03_Fence.L6 d chosen chosen_n chosen_c (IntKind.i64.wrap (i + 1)) (h.put b (o + i.toNat * 1) [.bool x]) Q)
 ((0 ≤ i ∧ i < (↑chosen_n : Int)) ∧
 atBase chosen fun (b o : Nat) => h.can b (o + i.toNat * 1) 1 ∧ gabionref03_Fence.L6 d chosen chosen_n chosen_c (IntKind.i64.wrap (i + 1)) (h.put b (o + i.toNat * 1) [.bool false]) Q))
 (C Tryz.prog 72 #[.pointer d, .slice chosen chosen_n chosen_c] h fun (r : Value) (h' : Heap) => Q (.int .i64 0) h')
theorem gabionref03_Fence.ok {d : Option Addr} {h : Heap} {Q : Value → Heap → Prop} (hk : gabionref03_Fence.wp d h Q) : C Tryz.prog 156 #[.pointer d] h Q :=
 C_of_xs (H := gabionref03_Fence.H) (lcuts := gabionref03_Fence.lc) (rcuts := gabionref03_Fence.rc) (l := [.pointer d]) 2000 mixed Tryz.func156 rfl (by kernel_rfl) (@cast (gabionref03_Fence.wp d h Q) _ (by kernel_rfl) hk)
theorem gabionref03_Fence.L6.ok {d : Option Addr} {chosen : Option Addr} {chosen_n : Nat} {chosen_c : Nat} {i : Int} {h : Heap} {Q : Value → Heap → Prop} (hk : gabionref03_Fence.L6.wp d chosen chosen_n chosen_c i h Q) : gabionref03_Fence.L6 d chosen chosen_n chosen_c i h Q :=
 xs_ok (H := gabionref03_Fence.H) (lcuts := gabionref03_Fence.lc) (rcuts := gabionref03_Fence.rc) (fn := Tryz.f156) mixed Tryz.func156 2000 _ _ _ (@cast (gabionref03_Fence.L6.wp d chosen chosen_n chosen_c i h Q) _ (by kernel_rfl) hk)

/-! gabion/gabionref04.last -/
def gabionref04_last.H : Hn := ⟨[], [], [], []⟩
def gabionref04_last.lc : List Cut := []
def gabionref04_last.rc : List Cut := []
def gabionref04_last.wp (d : Option Addr) (at0 : Int) (h : Heap) (Q : Value → Heap → Prop) : Prop :=
 C Tryz.prog 155 #[.pointer d, .int .i64 at0] h fun (r : Value) (h' : Heap) =>
 ∃ (x : Int),
 r = .int .i64 x ∧
 xsIf (decide (x ≠ 0)) (Q (.int .i64 x) h') (C Tryz.prog 156 #[.pointer d] h' fun (r : Value) (h' : Heap) => ∃ (x : Int), r = .int .i64 x ∧ Q (.int .i64 x) h')
theorem gabionref04_last.ok {d : Option Addr} {at0 : Int} {h : Heap} {Q : Value → Heap → Prop} (hk : gabionref04_last.wp d at0 h Q) : C Tryz.prog 142 #[.pointer d, .int .i64 at0] h Q :=
 C_of_xs (H := gabionref04_last.H) (lcuts := gabionref04_last.lc) (rcuts := gabionref04_last.rc) (l := [.pointer d, .int .i64 at0]) 2000 mixed Tryz.func142 rfl (by kernel_rfl) (@cast (gabionref04_last.wp d at0 h Q) _ (by kernel_rfl) hk)

/-! gabion/gabionref04.Put -/
def gabionref04_Put.H : Hn := ⟨[], [], [], []⟩
def gabionref04_Put.lc : List Cut := [⟨6, [0, 1, 2, 7], []⟩]
def gabionref04_Put.rc : List Cut := [⟨5, [0, 1, 2], []⟩]
def gabionref04_Put.J5 (d : Option Addr) (at0 : Int) (s : ByteArray) (h : Heap) (Q : Value → Heap → Prop) : Prop :=
 TW Tryz.prog 112 49 [.code (cAt (bodyOf Tryz.f112) [1, 1, 1, 0, 0]), .code (cAt (bodyOf Tryz.f112) [1, 1, 1, 0, 1]), .code (cAt (bodyOf Tryz.f112) [1, 1, 1, 1])] ⟨[(0, .v (.pointer d)), (1, .v (.int .i64 at0)), (2, .v (.string s))], []⟩ h Q
def gabionref04_Put.L6 (d : Option Addr) (at0 : Int) (s : ByteArray) (k0 : Int) (h : Heap) (Q : Value → Heap → Prop) : Prop :=
 TW Tryz.prog 112 49 [.code (cAt (bodyOf Tryz.f112) [1, 1, 1, 0, 1, 0, 0]), .inLoop (cAt (bodyOf Tryz.f112) [1, 1, 1, 0, 1, 0, 0]), .inBlock 0, .code (cAt (bodyOf Tryz.f112) [1, 1, 1, 1])] ⟨[(0, .v (.pointer d)), (1, .v (.int .i64 at0)), (2, .v (.string s)), (7, .v (.int .i64 k0))], []⟩ h Q
def gabionref04_Put.wp (d : Option Addr) (at0 : Int) (s : ByteArray) (h : Heap) (Q : Value → Heap → Prop) : Prop :=
 xsIf (decide ((↑s.size : Int) ≠ 64)) (Q (.int .i64 2) h)
 (xsIf (decide (at0 < 0)) (Q (.int .i64 3) h)
 (atBase d fun (b o : Nat) => ∃ (x : Option Addr), ∃ (n : Nat), ∃ (m : Nat), h.cell b (o + 1) = some (.slice x n m) ∧ xsIf (decide ((↑n : Int) ≤ at0)) (Q (.int .i64 3) h) (gabionref04_Put.J5 d at0 s h Q)))
def gabionref04_Put.J5.wp (d : Option Addr) (at0 : Int) (s : ByteArray) (h : Heap) (Q : Value → Heap → Prop) : Prop :=
 gabionref04_Put.L6 d at0 s 0 h Q
def gabionref04_Put.L6.wp (d : Option Addr) (at0 : Int) (s : ByteArray) (k0 : Int) (h : Heap) (Q : Value → Heap → Prop) : Prop :=
 xsIf (decide (k0 < 8))
 ((0 ≤ IntKind.i64.wrap (IntKind.i64.wrap (8 * k0) + 8) ∧ IntKind.i64.wrap (IntKind.i64.wrap (8 * k0) + 8) ≤ (↑s.size : Int)) ∧
 (0 ≤ IntKind.i64.wrap (8 * k0) ∧ IntKind.i64.wrap (8 * k0) ≤ IntKind.i64.wrap (IntKind.i64.wrap (8 * k0) + 8)) ∧
 C Tryz.prog 107 #[.string (sext s (IntKind.i64.wrap (8 * k0)) (IntKind.i64.wrap (IntKind.i64.wrap (8 * k0) + 8)))] h fun (r : Value) (h' : Heap) =>
 ∃ (x : Int),
 r = .int .u64 x ∧
 C Tryz.prog 141 #[.pointer d, .int .i64 (IntKind.i64.wrap (IntKind.i64.wrap (8 * at0) + k0)), .int .u64 x] h' fun (r : Value) (h' : Heap) =>
 ∃ (x : Int), r = .int .i64 x ∧ xsIf (decide (x ≠ 0)) (Q (.int .i64 x) h') (gabionref04_Put.L6 d at0 s (IntKind.i64.wrap (k0 + 1)) h' Q))
 (C Tryz.prog 142 #[.pointer d, .int .i64 at0] h fun (r : Value) (h' : Heap) => ∃ (x : Int), r = .int .i64 x ∧ Q (.int .i64 x) h')
theorem gabionref04_Put.ok {d : Option Addr} {at0 : Int} {s : ByteArray} {h : Heap} {Q : Value → Heap → Prop} (hk : gabionref04_Put.wp d at0 s h Q) : C Tryz.prog 112 #[.pointer d, .int .i64 at0, .string s] h Q :=
 C_of_xs (H := gabionref04_Put.H) (lcuts := gabionref04_Put.lc) (rcuts := gabionref04_Put.rc) (l := [.pointer d, .int .i64 at0, .string s]) 2000 mixed Tryz.func112 rfl (by kernel_rfl) (@cast (gabionref04_Put.wp d at0 s h Q) _ (by kernel_rfl) hk)
theorem gabionref04_Put.J5.ok {d : Option Addr} {at0 : Int} {s : ByteArray} {h : Heap} {Q : Value → Heap → Prop} (hk : gabionref04_Put.J5.wp d at0 s h Q) : gabionref04_Put.J5 d at0 s h Q :=
 xs_ok (H := gabionref04_Put.H) (lcuts := gabionref04_Put.lc) (rcuts := []) (fn := Tryz.f112) mixed Tryz.func112 2000 _ _ _ (@cast (gabionref04_Put.J5.wp d at0 s h Q) _ (by kernel_rfl) hk)
theorem gabionref04_Put.L6.ok {d : Option Addr} {at0 : Int} {s : ByteArray} {k0 : Int} {h : Heap} {Q : Value → Heap → Prop} (hk : gabionref04_Put.L6.wp d at0 s k0 h Q) : gabionref04_Put.L6 d at0 s k0 h Q :=
 xs_ok (H := gabionref04_Put.H) (lcuts := gabionref04_Put.lc) (rcuts := gabionref04_Put.rc) (fn := Tryz.f112) mixed Tryz.func112 2000 _ _ _ (@cast (gabionref04_Put.L6.wp d at0 s k0 h Q) _ (by kernel_rfl) hk)

/-! gabion/gabionref05.Format -/
def gabionref05_Format.H : Hn := ⟨[], [], [⟨1, .q 0 (.q 1 (.q 2 (.q 3 (.q 4 (.q 5 (.q 6 (.q 7 (.nil)))))))), []⟩], []⟩
def gabionref05_Format.lc : List Cut := [⟨5, [0, 3, 5, 6, 7, 8], [3]⟩]
def gabionref05_Format.rc : List Cut := []
def gabionref05_Format.L5 (d : Option Addr) (e : Int) (zero : ByteArray) (t : Int) (k0 : Int) (p_3_0 : Int) (p_3_1 : Int) (p_3_2 : Int) (h : Heap) (Q : Value → Heap → Prop) : Prop :=
 TW Tryz.prog 100 40 [.code (cAt (bodyOf Tryz.f100) [1, 1, 1, 1, 0, 1, 0, 0]), .inLoop (cAt (bodyOf Tryz.f100) [1, 1, 1, 1, 0, 1, 0, 0]), .inBlock 0, .code (cAt (bodyOf Tryz.f100) [1, 1, 1, 1, 1])] ⟨[(0, .v (.pointer d)), (3, .p 3 0), (5, .v (.int .i64 e)), (6, .v (.string zero)), (7, .v (.int .i64 t)), (8, .v (.int .i64 k0))], [(3, [.int .i64 p_3_0, .int .i64 p_3_1, .int .i64 p_3_2])]⟩ h Q
def gabionref05_Format.wp (d : Option Addr) (p_0 : Int) (p_1 : Int) (p_2 : Int) (h : Heap) (Q : Value → Heap → Prop) : Prop :=
 atBase d fun (b o : Nat) =>
 ∃ (x : Option Addr),
 ∃ (n : Nat),
 ∃ (m : Nat),
 h.cell b (o + 1) = some (.slice x n m) ∧
 C Tryz.prog 139 #[.agg #[.int .i64 p_0, .int .i64 p_1, .int .i64 p_2], .int .i64 (↑n : Int)] h fun (r : Value) (h' : Heap) =>
 ∃ (x : Int),
 r = .int .i64 x ∧
 xsMk Tryz.prog 5 h' 64 64 fun (a : Option Addr) (n' c' : Nat) (h' : Heap) =>
 xsStr h' a n' fun (s : ByteArray) =>
 C Tryz.prog 98 #[.agg #[.int .i64 p_0, .int .i64 p_1, .int .i64 p_2]] h' fun (r : Value) (h' : Heap) =>
 ∃ (x_1 : Int), r = .int .i64 x_1 ∧ gabionref05_Format.L5 d x s x_1 0 p_0 p_1 p_2 h' Q
def gabionref05_Format.L5.wp (d : Option Addr) (e : Int) (zero : ByteArray) (t : Int) (k0 : Int) (p_3_0 : Int) (p_3_1 : Int) (p_3_2 : Int) (h : Heap) (Q : Value → Heap → Prop) : Prop :=
 xsIf (decide (k0 < IntKind.i64.wrap (t + p_3_1)))
 (xsIf (decide (e = 0))
 (C Tryz.prog 112 #[.pointer d, .int .i64 (IntKind.i64.wrap (p_3_0 + k0)), .string zero] h fun (r : Value) (h' : Heap) =>
 ∃ (x : Int), r = .int .i64 x ∧ gabionref05_Format.L5 d x zero t (IntKind.i64.wrap (k0 + 1)) p_3_0 p_3_1 p_3_2 h' Q)
 (Q (.int .i64 e) h))
 (Q (.int .i64 e) h)
theorem gabionref05_Format.ok {d : Option Addr} {p_0 : Int} {p_1 : Int} {p_2 : Int} {h : Heap} {Q : Value → Heap → Prop} (hk : gabionref05_Format.wp d p_0 p_1 p_2 h Q) : C Tryz.prog 100 #[.pointer d, .agg #[.int .i64 p_0, .int .i64 p_1, .int .i64 p_2]] h Q :=
 C_of_xs (H := gabionref05_Format.H) (lcuts := gabionref05_Format.lc) (rcuts := gabionref05_Format.rc) (l := [.pointer d, .agg #[.int .i64 p_0, .int .i64 p_1, .int .i64 p_2]]) 2000 mixed Tryz.func100 rfl (by kernel_rfl) (@cast (gabionref05_Format.wp d p_0 p_1 p_2 h Q) _ (by kernel_rfl) hk)
theorem gabionref05_Format.L5.ok {d : Option Addr} {e : Int} {zero : ByteArray} {t : Int} {k0 : Int} {p_3_0 : Int} {p_3_1 : Int} {p_3_2 : Int} {h : Heap} {Q : Value → Heap → Prop} (hk : gabionref05_Format.L5.wp d e zero t k0 p_3_0 p_3_1 p_3_2 h Q) : gabionref05_Format.L5 d e zero t k0 p_3_0 p_3_1 p_3_2 h Q :=
 xs_ok (H := gabionref05_Format.H) (lcuts := gabionref05_Format.lc) (rcuts := gabionref05_Format.rc) (fn := Tryz.f100) mixed Tryz.func100 2000 _ _ _ (@cast (gabionref05_Format.L5.wp d e zero t k0 p_3_0 p_3_1 p_3_2 h Q) _ (by kernel_rfl) hk)

/-! gabion/gabionref06.Pack -/
def gabionref06_Pack.H : Hn := ⟨[], [], [], []⟩
def gabionref06_Pack.lc : List Cut := []
def gabionref06_Pack.rc : List Cut := []
def gabionref06_Pack.wp (start : Int) (gap : Int) (moves : Int) (h : Heap) (Q : Value → Heap → Prop) : Prop :=
 Q (.int .u64 (IntKind.u64.wrap (IntKind.u64.wrap (IntKind.u64.wrap (moves * 4294967296) + IntKind.u64.wrap (IntKind.u64.wrap (IntKind.u16.wrap gap) * 65536)) + IntKind.u64.wrap (IntKind.u16.wrap start)))) h
theorem gabionref06_Pack.ok {start : Int} {gap : Int} {moves : Int} {h : Heap} {Q : Value → Heap → Prop} (hk : gabionref06_Pack.wp start gap moves h Q) : C Tryz.prog 101 #[.int .i64 start, .int .i64 gap, .int .u64 moves] h Q :=
 C_of_xs (H := gabionref06_Pack.H) (lcuts := gabionref06_Pack.lc) (rcuts := gabionref06_Pack.rc) (l := [.int .i64 start, .int .i64 gap, .int .u64 moves]) 2000 mixed Tryz.func101 rfl (by kernel_rfl) (@cast (gabionref06_Pack.wp start gap moves h Q) _ (by kernel_rfl) hk)

/-! gabion/gabionref03.Load -/
def gabionref03_Load.H : Hn := ⟨[], [], [], []⟩
def gabionref03_Load.lc : List Cut := []
def gabionref03_Load.rc : List Cut := [⟨5, [0, 1], []⟩]
def gabionref03_Load.J5 (d : Option Addr) (word : Int) (h : Heap) (Q : Value → Heap → Prop) : Prop :=
 TW Tryz.prog 115 45 [.code (cAt (bodyOf Tryz.f115) [1, 1, 1, 0, 0]), .code (cAt (bodyOf Tryz.f115) [1, 1, 1, 0, 1]), .code (cAt (bodyOf Tryz.f115) [1, 1, 1, 1])] ⟨[(0, .v (.pointer d)), (1, .v (.int .i64 word))], []⟩ h Q
def gabionref03_Load.wp (d : Option Addr) (word : Int) (h : Heap) (Q : Value → Heap → Prop) : Prop :=
 atBase d fun (b o : Nat) =>
 ∃ (x : Bool),
 h.cell b (o + 4) = some (.bool x) ∧
 xsIf x (Q (.tuple #[.int .u64 0, .int .i64 6]) h)
 (xsIf (decide (word < 0)) (Q (.tuple #[.int .u64 0, .int .i64 3]) h)
 (atBase d fun (b o : Nat) =>
 ∃ (x : Option Addr),
 ∃ (n : Nat), ∃ (m : Nat), h.cell b (o + 0) = some (.slice x n m) ∧ xsIf (decide ((↑n : Int) ≤ word)) (Q (.tuple #[.int .u64 0, .int .i64 3]) h) (gabionref03_Load.J5 d word h Q)))
def gabionref03_Load.J5.wp (d : Option Addr) (word : Int) (h : Heap) (Q : Value → Heap → Prop) : Prop :=
 atBase d fun (b o : Nat) =>
 ∃ (x : Option Addr),
 ∃ (n : Nat),
 ∃ (m : Nat),
 h.cell b (o + 0) = some (.slice x n m) ∧
 (0 ≤ word ∧ word < (↑n : Int)) ∧
 atBase x fun (b o : Nat) =>
 ∃ (x : Bool),
 h.cell b (o + word.toNat * 4 + 1) = some (.bool x) ∧
 xsIf x
 (atBase d fun (b o : Nat) =>
 ∃ (x : Option Addr),
 ∃ (n : Nat),
 ∃ (m : Nat),
 h.cell b (o + 0) = some (.slice x n m) ∧
 (0 ≤ word ∧ word < (↑n : Int)) ∧
 atBase x fun (b o : Nat) => ∃ (x : Int), h.cell b (o + word.toNat * 4 + 2) = some (.int .u64 x) ∧ Q (.tuple #[.int .u64 x, .int .i64 0]) h)
 (atBase d fun (b o : Nat) =>
 ∃ (x : Option Addr),
 ∃ (n : Nat),
 ∃ (m : Nat),
 h.cell b (o + 0) = some (.slice x n m) ∧
 (0 ≤ word ∧ word < (↑n : Int)) ∧
 atBase x fun (b o : Nat) => ∃ (x : Int), h.cell b (o + word.toNat * 4 + 0) = some (.int .u64 x) ∧ Q (.tuple #[.int .u64 x, .int .i64 0]) h)
theorem gabionref03_Load.ok {d : Option Addr} {word : Int} {h : Heap} {Q : Value → Heap → Prop} (hk : gabionref03_Load.wp d word h Q) : C Tryz.prog 115 #[.pointer d, .int .i64 word] h Q :=
 C_of_xs (H := gabionref03_Load.H) (lcuts := gabionref03_Load.lc) (rcuts := gabionref03_Load.rc) (l := [.pointer d, .int .i64 word]) 2000 mixed Tryz.func115 rfl (by kernel_rfl) (@cast (gabionref03_Load.wp d word h Q) _ (by kernel_rfl) hk)
theorem gabionref03_Load.J5.ok {d : Option Addr} {word : Int} {h : Heap} {Q : Value → Heap → Prop} (hk : gabionref03_Load.J5.wp d word h Q) : gabionref03_Load.J5 d word h Q :=
 xs_ok (H := gabionref03_Load.H) (lcuts := gabionref03_Load.lc) (rcuts := []) (fn := Tryz.f115) mixed Tryz.func115 2000 _ _ _ (@cast (gabionref03_Load.J5.wp d word h Q) _ (by kernel_rfl) hk)

/-! gabion/gabionref01.Put -/
def gabionref01_Put.H : Hn := ⟨[], [], [], []⟩
def gabionref01_Put.lc : List Cut := [⟨3, [0, 1, 5, 6], []⟩]
def gabionref01_Put.rc : List Cut := [⟨5, [0, 1, 5, 6], []⟩]
def gabionref01_Put.L3 (n : Int) (size : Int) (b : Option Addr) (b_n : Nat) (b_c : Nat) (i : Int) (h : Heap) (Q : Value → Heap → Prop) : Prop :=
 TW Tryz.prog 104 26 [.code (cAt (bodyOf Tryz.f104) [1, 1, 0, 1, 0, 0]), .inLoop (cAt (bodyOf Tryz.f104) [1, 1, 0, 1, 0, 0]), .inBlock 0, .code (cAt (bodyOf Tryz.f104) [1, 1, 1])] ⟨[(0, .v (.int .u64 n)), (1, .v (.int .i64 size)), (5, .v (.slice b b_n b_c)), (6, .v (.int .i64 i))], []⟩ h Q
def gabionref01_Put.J5 (n : Int) (size : Int) (b : Option Addr) (b_n : Nat) (b_c : Nat) (i : Int) (h : Heap) (Q : Value → Heap → Prop) : Prop :=
 TW Tryz.prog 104 26 [.code (cAt (bodyOf Tryz.f104) [1, 1, 0, 1, 0, 0, 1, 0, 0, 0]), .code (cAt (bodyOf Tryz.f104) [1, 1, 0, 1, 0, 0, 1, 0, 0, 1]), .inBlock 1, .code (cAt (bodyOf Tryz.f104) [1, 1, 0, 1, 0, 0, 1, 1]), .inLoop (cAt (bodyOf Tryz.f104) [1, 1, 0, 1, 0, 0]), .inBlock 0, .code (cAt (bodyOf Tryz.f104) [1, 1, 1])] ⟨[(0, .v (.int .u64 n)), (1, .v (.int .i64 size)), (5, .v (.slice b b_n b_c)), (6, .v (.int .i64 i))], []⟩ h Q
def gabionref01_Put.wp (n : Int) (size : Int) (h : Heap) (Q : Value → Heap → Prop) : Prop :=
 gabionref01_Put.L3 n size none 0 0 0 h Q
def gabionref01_Put.L3.wp (n : Int) (size : Int) (b : Option Addr) (b_n : Nat) (b_c : Nat) (i : Int) (h : Heap) (Q : Value → Heap → Prop) : Prop :=
 xsIf (decide (i < size)) (xsIf (decide (i < 8)) (gabionref01_Put.J5 n size b b_n b_c i h Q) (xsStr h b b_n fun (s : ByteArray) => Q (.string s) h)) (xsStr h b b_n fun (s : ByteArray) => Q (.string s) h)
def gabionref01_Put.J5.wp (n : Int) (size : Int) (b : Option Addr) (b_n : Nat) (b_c : Nat) (i : Int) (h : Heap) (Q : Value → Heap → Prop) : Prop :=
 ∀ (b_1 : Nat),
 h b_1 = none →
 xsApp Tryz.prog 5 (upd h b_1 (Obj.cells #[.int .u8 (IntKind.u8.wrap (irem n 256))] 5 (0, 0))) b b_n b_c (some { block := b_1, off := 0 }) 1 fun (a' : Option Addr) (n' c' : Nat) (h' : Heap) =>
 gabionref01_Put.L3 (iquo .u64 n 256) size a' n' c' (IntKind.i64.wrap (i + 1)) h' Q
theorem gabionref01_Put.ok {n : Int} {size : Int} {h : Heap} {Q : Value → Heap → Prop} (hk : gabionref01_Put.wp n size h Q) : C Tryz.prog 104 #[.int .u64 n, .int .i64 size] h Q :=
 C_of_xs (H := gabionref01_Put.H) (lcuts := gabionref01_Put.lc) (rcuts := gabionref01_Put.rc) (l := [.int .u64 n, .int .i64 size]) 2000 mixed Tryz.func104 rfl (by kernel_rfl) (@cast (gabionref01_Put.wp n size h Q) _ (by kernel_rfl) hk)
theorem gabionref01_Put.L3.ok {n : Int} {size : Int} {b : Option Addr} {b_n : Nat} {b_c : Nat} {i : Int} {h : Heap} {Q : Value → Heap → Prop} (hk : gabionref01_Put.L3.wp n size b b_n b_c i h Q) : gabionref01_Put.L3 n size b b_n b_c i h Q :=
 xs_ok (H := gabionref01_Put.H) (lcuts := gabionref01_Put.lc) (rcuts := gabionref01_Put.rc) (fn := Tryz.f104) mixed Tryz.func104 2000 _ _ _ (@cast (gabionref01_Put.L3.wp n size b b_n b_c i h Q) _ (by kernel_rfl) hk)
theorem gabionref01_Put.J5.ok {n : Int} {size : Int} {b : Option Addr} {b_n : Nat} {b_c : Nat} {i : Int} {h : Heap} {Q : Value → Heap → Prop} (hk : gabionref01_Put.J5.wp n size b b_n b_c i h Q) : gabionref01_Put.J5 n size b b_n b_c i h Q :=
 xs_ok (H := gabionref01_Put.H) (lcuts := gabionref01_Put.lc) (rcuts := []) (fn := Tryz.f104) mixed Tryz.func104 2000 _ _ _ (@cast (gabionref01_Put.J5.wp n size b b_n b_c i h Q) _ (by kernel_rfl) hk)

/-! gabion/gabionref01.may -/
def gabionref01_may.H : Hn := ⟨[], [], [], []⟩
def gabionref01_may.lc : List Cut := []
def gabionref01_may.rc : List Cut := []
def gabionref01_may.wp (at0 : Int) (width : Int) (h : Heap) (Q : Value → Heap → Prop) : Prop :=
 xsIf (decide (0 ≤ at0)) (xsIf (decide (at0 < 64)) (xsIf (decide (1 ≤ width)) (Q (.bool (decide (width ≤ IntKind.i64.wrap (64 - at0)))) h) (Q (.bool false) h)) (Q (.bool false) h)) (Q (.bool false) h)
theorem gabionref01_may.ok {at0 : Int} {width : Int} {h : Heap} {Q : Value → Heap → Prop} (hk : gabionref01_may.wp at0 width h Q) : C Tryz.prog 182 #[.int .i64 at0, .int .i64 width] h Q :=
 C_of_xs (H := gabionref01_may.H) (lcuts := gabionref01_may.lc) (rcuts := gabionref01_may.rc) (l := [.int .i64 at0, .int .i64 width]) 2000 mixed Tryz.func182 rfl (by kernel_rfl) (@cast (gabionref01_may.wp at0 width h Q) _ (by kernel_rfl) hk)

/-! gabion/gabionref01.bit -/
def gabionref01_bit.H : Hn := ⟨[], [], [], []⟩
def gabionref01_bit.lc : List Cut := [⟨2, [0, 1, 5], []⟩]
def gabionref01_bit.rc : List Cut := []
def gabionref01_bit.L2 (w : Int) (i : Int) (k0 : Int) (h : Heap) (Q : Value → Heap → Prop) : Prop :=
 TW Tryz.prog 183 15 [.code (cAt (bodyOf Tryz.f183) [1, 0, 1, 0, 0]), .inLoop (cAt (bodyOf Tryz.f183) [1, 0, 1, 0, 0]), .inBlock 0, .code (cAt (bodyOf Tryz.f183) [1, 1])] ⟨[(0, .v (.int .u64 w)), (1, .v (.int .i64 i)), (5, .v (.int .i64 k0))], []⟩ h Q
def gabionref01_bit.wp (w : Int) (i : Int) (h : Heap) (Q : Value → Heap → Prop) : Prop :=
 gabionref01_bit.L2 w i 0 h Q
def gabionref01_bit.L2.wp (w : Int) (i : Int) (k0 : Int) (h : Heap) (Q : Value → Heap → Prop) : Prop :=
 xsIf (decide (k0 < i)) (gabionref01_bit.L2 (iquo .u64 w 2) i (IntKind.i64.wrap (k0 + 1)) h Q) (Q (.int .u64 (irem w 2)) h)
theorem gabionref01_bit.ok {w : Int} {i : Int} {h : Heap} {Q : Value → Heap → Prop} (hk : gabionref01_bit.wp w i h Q) : C Tryz.prog 183 #[.int .u64 w, .int .i64 i] h Q :=
 C_of_xs (H := gabionref01_bit.H) (lcuts := gabionref01_bit.lc) (rcuts := gabionref01_bit.rc) (l := [.int .u64 w, .int .i64 i]) 2000 mixed Tryz.func183 rfl (by kernel_rfl) (@cast (gabionref01_bit.wp w i h Q) _ (by kernel_rfl) hk)
theorem gabionref01_bit.L2.ok {w : Int} {i : Int} {k0 : Int} {h : Heap} {Q : Value → Heap → Prop} (hk : gabionref01_bit.L2.wp w i k0 h Q) : gabionref01_bit.L2 w i k0 h Q :=
 xs_ok (H := gabionref01_bit.H) (lcuts := gabionref01_bit.lc) (rcuts := gabionref01_bit.rc) (fn := Tryz.f183) mixed Tryz.func183 2000 _ _ _ (@cast (gabionref01_bit.L2.wp w i k0 h Q) _ (by kernel_rfl) hk)

/-! gabion/gabionref01.Field -/
def gabionref01_Field.H : Hn := ⟨[], [], [], []⟩
def gabionref01_Field.lc : List Cut := [⟨4, [0, 1, 2, 7, 8, 9], []⟩]
def gabionref01_Field.rc : List Cut := [⟨6, [0, 1, 2, 7, 8, 9], []⟩]
def gabionref01_Field.L4 (w : Int) (at0 : Int) (width : Int) (ok : Bool) (n : Int) (i : Int) (h : Heap) (Q : Value → Heap → Prop) : Prop :=
 TW Tryz.prog 180 35 [.code (cAt (bodyOf Tryz.f180) [1, 1, 1, 0, 1, 0, 0]), .inLoop (cAt (bodyOf Tryz.f180) [1, 1, 1, 0, 1, 0, 0]), .inBlock 0, .code (cAt (bodyOf Tryz.f180) [1, 1, 1, 1])] ⟨[(0, .v (.int .u64 w)), (1, .v (.int .i64 at0)), (2, .v (.int .i64 width)), (7, .v (.bool ok)), (8, .v (.int .u64 n)), (9, .v (.int .i64 i))], []⟩ h Q
def gabionref01_Field.J6 (w : Int) (at0 : Int) (width : Int) (ok : Bool) (n : Int) (i : Int) (h : Heap) (Q : Value → Heap → Prop) : Prop :=
 TW Tryz.prog 180 35 [.code (cAt (bodyOf Tryz.f180) [1, 1, 1, 0, 1, 0, 0, 1, 0, 0, 0]), .code (cAt (bodyOf Tryz.f180) [1, 1, 1, 0, 1, 0, 0, 1, 0, 0, 1]), .inBlock 1, .code (cAt (bodyOf Tryz.f180) [1, 1, 1, 0, 1, 0, 0, 1, 1]), .inLoop (cAt (bodyOf Tryz.f180) [1, 1, 1, 0, 1, 0, 0]), .inBlock 0, .code (cAt (bodyOf Tryz.f180) [1, 1, 1, 1])] ⟨[(0, .v (.int .u64 w)), (1, .v (.int .i64 at0)), (2, .v (.int .i64 width)), (7, .v (.bool ok)), (8, .v (.int .u64 n)), (9, .v (.int .i64 i))], []⟩ h Q
def gabionref01_Field.wp (w : Int) (at0 : Int) (width : Int) (h : Heap) (Q : Value → Heap → Prop) : Prop :=
 C Tryz.prog 182 #[.int .i64 at0, .int .i64 width] h fun (r : Value) (h' : Heap) => ∃ (x : Bool), r = .bool x ∧ gabionref01_Field.L4 w at0 width x 0 0 h' Q
def gabionref01_Field.L4.wp (w : Int) (at0 : Int) (width : Int) (ok : Bool) (n : Int) (i : Int) (h : Heap) (Q : Value → Heap → Prop) : Prop :=
 xsIf ok (xsIf (decide (i < width)) (gabionref01_Field.J6 w at0 width ok n i h Q) (Q (.int .u64 n) h)) (Q (.int .u64 n) h)
def gabionref01_Field.J6.wp (w : Int) (at0 : Int) (width : Int) (ok : Bool) (n : Int) (i : Int) (h : Heap) (Q : Value → Heap → Prop) : Prop :=
 C Tryz.prog 183 #[.int .u64 w, .int .i64 (IntKind.i64.wrap (IntKind.i64.wrap (IntKind.i64.wrap (at0 + width) - 1) - i))] h fun (r : Value) (h' : Heap) =>
 ∃ (x : Int), r = .int .u64 x ∧ gabionref01_Field.L4 w at0 width ok (IntKind.u64.wrap (IntKind.u64.wrap (2 * n) + x)) (IntKind.i64.wrap (i + 1)) h' Q
theorem gabionref01_Field.ok {w : Int} {at0 : Int} {width : Int} {h : Heap} {Q : Value → Heap → Prop} (hk : gabionref01_Field.wp w at0 width h Q) : C Tryz.prog 180 #[.int .u64 w, .int .i64 at0, .int .i64 width] h Q :=
 C_of_xs (H := gabionref01_Field.H) (lcuts := gabionref01_Field.lc) (rcuts := gabionref01_Field.rc) (l := [.int .u64 w, .int .i64 at0, .int .i64 width]) 2000 mixed Tryz.func180 rfl (by kernel_rfl) (@cast (gabionref01_Field.wp w at0 width h Q) _ (by kernel_rfl) hk)
theorem gabionref01_Field.L4.ok {w : Int} {at0 : Int} {width : Int} {ok : Bool} {n : Int} {i : Int} {h : Heap} {Q : Value → Heap → Prop} (hk : gabionref01_Field.L4.wp w at0 width ok n i h Q) : gabionref01_Field.L4 w at0 width ok n i h Q :=
 xs_ok (H := gabionref01_Field.H) (lcuts := gabionref01_Field.lc) (rcuts := gabionref01_Field.rc) (fn := Tryz.f180) mixed Tryz.func180 2000 _ _ _ (@cast (gabionref01_Field.L4.wp w at0 width ok n i h Q) _ (by kernel_rfl) hk)
theorem gabionref01_Field.J6.ok {w : Int} {at0 : Int} {width : Int} {ok : Bool} {n : Int} {i : Int} {h : Heap} {Q : Value → Heap → Prop} (hk : gabionref01_Field.J6.wp w at0 width ok n i h Q) : gabionref01_Field.J6 w at0 width ok n i h Q :=
 xs_ok (H := gabionref01_Field.H) (lcuts := gabionref01_Field.lc) (rcuts := []) (fn := Tryz.f180) mixed Tryz.func180 2000 _ _ _ (@cast (gabionref01_Field.J6.wp w at0 width ok n i h Q) _ (by kernel_rfl) hk)

/-! gabion/gabionref02.bits -/
def gabionref02_bits.H : Hn := ⟨[], [], [], []⟩
def gabionref02_bits.lc : List Cut := [⟨3, [0, 1, 5, 6], []⟩, ⟨6, [0, 1, 5, 6, 7], []⟩]
def gabionref02_bits.rc : List Cut := [⟨11, [0, 1, 5, 6, 7, 8], []⟩]
def gabionref02_bits.L3 (s : ByteArray) (low : Bool) (out : Option Addr) (out_n : Nat) (out_c : Nat) (i : Int) (h : Heap) (Q : Value → Heap → Prop) : Prop :=
 TW Tryz.prog 170 36 [.code (cAt (bodyOf Tryz.f170) [1, 1, 0, 1, 0, 0]), .inLoop (cAt (bodyOf Tryz.f170) [1, 1, 0, 1, 0, 0]), .inBlock 0, .code (cAt (bodyOf Tryz.f170) [1, 1, 1])] ⟨[(0, .v (.string s)), (1, .v (.bool low)), (5, .v (.slice out out_n out_c)), (6, .v (.int .i64 i))], []⟩ h Q
def gabionref02_bits.L6 (s : ByteArray) (low : Bool) (out : Option Addr) (out_n : Nat) (out_c : Nat) (i : Int) (k0 : Int) (h : Heap) (Q : Value → Heap → Prop) : Prop :=
 TW Tryz.prog 170 36 [.code (cAt (bodyOf Tryz.f170) [1, 1, 0, 1, 0, 0, 1, 0, 0, 1, 0, 0]), .inLoop (cAt (bodyOf Tryz.f170) [1, 1, 0, 1, 0, 0, 1, 0, 0, 1, 0, 0]), .inBlock 2, .inBlock 1, .code (cAt (bodyOf Tryz.f170) [1, 1, 0, 1, 0, 0, 1, 1]), .inLoop (cAt (bodyOf Tryz.f170) [1, 1, 0, 1, 0, 0]), .inBlock 0, .code (cAt (bodyOf Tryz.f170) [1, 1, 1])] ⟨[(0, .v (.string s)), (1, .v (.bool low)), (5, .v (.slice out out_n out_c)), (6, .v (.int .i64 i)), (7, .v (.int .i64 k0))], []⟩ h Q
def gabionref02_bits.J11 (s : ByteArray) (low : Bool) (out : Option Addr) (out_n : Nat) (out_c : Nat) (i : Int) (k0 : Int) (at0 : Int) (h : Heap) (Q : Value → Heap → Prop) : Prop :=
 TW Tryz.prog 170 36 [.code (cAt (bodyOf Tryz.f170) [1, 1, 0, 1, 0, 0, 1, 0, 0, 1, 0, 0, 1, 0, 0, 1, 1, 0]), .code (cAt (bodyOf Tryz.f170) [1, 1, 0, 1, 0, 0, 1, 0, 0, 1, 0, 0, 1, 0, 0, 1, 1, 1]), .inBlock 3, .code (cAt (bodyOf Tryz.f170) [1, 1, 0, 1, 0, 0, 1, 0, 0, 1, 0, 0, 1, 1]), .inLoop (cAt (bodyOf Tryz.f170) [1, 1, 0, 1, 0, 0, 1, 0, 0, 1, 0, 0]), .inBlock 2, .inBlock 1, .code (cAt (bodyOf Tryz.f170) [1, 1, 0, 1, 0, 0, 1, 1]), .inLoop (cAt (bodyOf Tryz.f170) [1, 1, 0, 1, 0, 0]), .inBlock 0, .code (cAt (bodyOf Tryz.f170) [1, 1, 1])] ⟨[(0, .v (.string s)), (1, .v (.bool low)), (5, .v (.slice out out_n out_c)), (6, .v (.int .i64 i)), (7, .v (.int .i64 k0)), (8, .v (.int .i64 at0))], []⟩ h Q
def gabionref02_bits.wp (s : ByteArray) (low : Bool) (h : Heap) (Q : Value → Heap → Prop) : Prop :=
 gabionref02_bits.L3 s low none 0 0 0 h Q
def gabionref02_bits.L3.wp (s : ByteArray) (low : Bool) (out : Option Addr) (out_n : Nat) (out_c : Nat) (i : Int) (h : Heap) (Q : Value → Heap → Prop) : Prop :=
 xsIf (decide (i < (↑s.size : Int))) (gabionref02_bits.L6 s low out out_n out_c i 0 h Q) (Q (.slice out out_n out_c) h)
def gabionref02_bits.L6.wp (s : ByteArray) (low : Bool) (out : Option Addr) (out_n : Nat) (out_c : Nat) (i : Int) (k0 : Int) (h : Heap) (Q : Value → Heap → Prop) : Prop :=
 xsIf (decide (k0 < 8)) (xsIf low (gabionref02_bits.J11 s low out out_n out_c i k0 k0 h Q) (gabionref02_bits.J11 s low out out_n out_c i k0 (IntKind.i64.wrap (7 - k0)) h Q))
 (gabionref02_bits.L3 s low out out_n out_c (IntKind.i64.wrap (i + 1)) h Q)
def gabionref02_bits.J11.wp (s : ByteArray) (low : Bool) (out : Option Addr) (out_n : Nat) (out_c : Nat) (i : Int) (k0 : Int) (at0 : Int) (h : Heap) (Q : Value → Heap → Prop) : Prop :=
 ∃ (c : UInt8),
 0 ≤ i ∧
 bget s i.toNat = some c ∧
 C Tryz.prog 180 #[.int .u64 (IntKind.u64.wrap (↑c.toNat : Int)), .int .i64 at0, .int .i64 1] h fun (r : Value) (h' : Heap) =>
 ∃ (x : Int),
 r = .int .u64 x ∧
 ∀ (b : Nat),
 h' b = none →
 xsApp Tryz.prog 3 (upd h' b (Obj.cells #[.int .i64 (IntKind.i64.wrap x)] 3 (0, 0))) out out_n out_c (some { block := b, off := 0 }) 1 fun (a' : Option Addr) (n' c' : Nat) (h' : Heap) =>
 gabionref02_bits.L6 s low a' n' c' i (IntKind.i64.wrap (k0 + 1)) h' Q
theorem gabionref02_bits.ok {s : ByteArray} {low : Bool} {h : Heap} {Q : Value → Heap → Prop} (hk : gabionref02_bits.wp s low h Q) : C Tryz.prog 170 #[.string s, .bool low] h Q :=
 C_of_xs (H := gabionref02_bits.H) (lcuts := gabionref02_bits.lc) (rcuts := gabionref02_bits.rc) (l := [.string s, .bool low]) 2000 mixed Tryz.func170 rfl (by kernel_rfl) (@cast (gabionref02_bits.wp s low h Q) _ (by kernel_rfl) hk)
theorem gabionref02_bits.L3.ok {s : ByteArray} {low : Bool} {out : Option Addr} {out_n : Nat} {out_c : Nat} {i : Int} {h : Heap} {Q : Value → Heap → Prop} (hk : gabionref02_bits.L3.wp s low out out_n out_c i h Q) : gabionref02_bits.L3 s low out out_n out_c i h Q :=
 xs_ok (H := gabionref02_bits.H) (lcuts := gabionref02_bits.lc) (rcuts := gabionref02_bits.rc) (fn := Tryz.f170) mixed Tryz.func170 2000 _ _ _ (@cast (gabionref02_bits.L3.wp s low out out_n out_c i h Q) _ (by kernel_rfl) hk)
theorem gabionref02_bits.L6.ok {s : ByteArray} {low : Bool} {out : Option Addr} {out_n : Nat} {out_c : Nat} {i : Int} {k0 : Int} {h : Heap} {Q : Value → Heap → Prop} (hk : gabionref02_bits.L6.wp s low out out_n out_c i k0 h Q) : gabionref02_bits.L6 s low out out_n out_c i k0 h Q :=
 xs_ok (H := gabionref02_bits.H) (lcuts := gabionref02_bits.lc) (rcuts := gabionref02_bits.rc) (fn := Tryz.f170) mixed Tryz.func170 2000 _ _ _ (@cast (gabionref02_bits.L6.wp s low out out_n out_c i k0 h Q) _ (by kernel_rfl) hk)
theorem gabionref02_bits.J11.ok {s : ByteArray} {low : Bool} {out : Option Addr} {out_n : Nat} {out_c : Nat} {i : Int} {k0 : Int} {at0 : Int} {h : Heap} {Q : Value → Heap → Prop} (hk : gabionref02_bits.J11.wp s low out out_n out_c i k0 at0 h Q) : gabionref02_bits.J11 s low out out_n out_c i k0 at0 h Q :=
 xs_ok (H := gabionref02_bits.H) (lcuts := gabionref02_bits.lc) (rcuts := []) (fn := Tryz.f170) mixed Tryz.func170 2000 _ _ _ (@cast (gabionref02_bits.J11.wp s low out out_n out_c i k0 at0 h Q) _ (by kernel_rfl) hk)

/-! gabion/gabionref02.Sum -/
def gabionref02_Sum.H : Hn := ⟨[], [], [⟨9, .q 0 (.q 1 (.q 3 (.q 4 (.q 5 (.ld 2 896 (.q 6 (.q 7 (.q 8 (.q 9 (.nil)))))))))), []⟩, ⟨18, .q 0 (.q 1 (.q 2 (.q 3 (.q 4 (.q 6 (.q 7 (.q 8 (.ld 5 15360 (.q 9 (.q 10 (.q 11 (.q 12 (.q 13 (.nil)))))))))))))), []⟩], []⟩
def gabionref02_Sum.lc : List Cut := [⟨3, [0, 1, 5, 6], []⟩, ⟨7, [0, 1, 5, 7], []⟩, ⟨11, [0, 1, 5, 7, 8, 9], []⟩, ⟨16, [0, 1, 5, 7, 8, 10], []⟩]
def gabionref02_Sum.rc : List Cut := [⟨6, [0, 1, 5], []⟩, ⟨14, [0, 1, 5, 7, 8], []⟩, ⟨18, [0, 1, 5, 7, 8, 10], []⟩]
def gabionref02_Sum.L3 (l : Option Addr) (l_n : Nat) (l_c : Nat) (turns : Option Addr) (turns_n : Nat) (turns_c : Nat) (r0 : Option Addr) (r0_n : Nat) (r0_c : Nat) (i_6 : Int) (h : Heap) (Q : Value → Heap → Prop) : Prop :=
 TW Tryz.prog 171 82 [.code (cAt (bodyOf Tryz.f171) [1, 1, 0, 1, 0, 0]), .inLoop (cAt (bodyOf Tryz.f171) [1, 1, 0, 1, 0, 0]), .inBlock 0, .code (cAt (bodyOf Tryz.f171) [1, 1, 1])] ⟨[(0, .v (.slice l l_n l_c)), (1, .v (.slice turns turns_n turns_c)), (5, .v (.slice r0 r0_n r0_c)), (6, .v (.int .i64 i_6))], []⟩ h Q
def gabionref02_Sum.J6 (l : Option Addr) (l_n : Nat) (l_c : Nat) (turns : Option Addr) (turns_n : Nat) (turns_c : Nat) (r0 : Option Addr) (r0_n : Nat) (r0_c : Nat) (h : Heap) (Q : Value → Heap → Prop) : Prop :=
 TW Tryz.prog 171 82 [.code (cAt (bodyOf Tryz.f171) [1, 1, 1, 0, 0]), .code (cAt (bodyOf Tryz.f171) [1, 1, 1, 0, 1]), .code (cAt (bodyOf Tryz.f171) [1, 1, 1, 1])] ⟨[(0, .v (.slice l l_n l_c)), (1, .v (.slice turns turns_n turns_c)), (5, .v (.slice r0 r0_n r0_c))], []⟩ h Q
def gabionref02_Sum.L7 (l : Option Addr) (l_n : Nat) (l_c : Nat) (turns : Option Addr) (turns_n : Nat) (turns_c : Nat) (r0 : Option Addr) (r0_n : Nat) (r0_c : Nat) (i_7 : Int) (h : Heap) (Q : Value → Heap → Prop) : Prop :=
 TW Tryz.prog 171 82 [.code (cAt (bodyOf Tryz.f171) [1, 1, 1, 0, 1, 0, 0]), .inLoop (cAt (bodyOf Tryz.f171) [1, 1, 1, 0, 1, 0, 0]), .inBlock 2, .code (cAt (bodyOf Tryz.f171) [1, 1, 1, 1])] ⟨[(0, .v (.slice l l_n l_c)), (1, .v (.slice turns turns_n turns_c)), (5, .v (.slice r0 r0_n r0_c)), (7, .v (.int .i64 i_7))], []⟩ h Q
def gabionref02_Sum.L11 (l : Option Addr) (l_n : Nat) (l_c : Nat) (turns : Option Addr) (turns_n : Nat) (turns_c : Nat) (r0 : Option Addr) (r0_n : Nat) (r0_c : Nat) (i_7 : Int) (out : Int) (k0_9 : Int) (h : Heap) (Q : Value → Heap → Prop) : Prop :=
 TW Tryz.prog 171 82 [.code (cAt (bodyOf Tryz.f171) [1, 1, 1, 0, 1, 0, 0, 1, 0, 0, 1, 0, 1, 0, 0]), .inLoop (cAt (bodyOf Tryz.f171) [1, 1, 1, 0, 1, 0, 0, 1, 0, 0, 1, 0, 1, 0, 0]), .inBlock 4, .code (cAt (bodyOf Tryz.f171) [1, 1, 1, 0, 1, 0, 0, 1, 0, 0, 1, 1]), .inBlock 3, .code (cAt (bodyOf Tryz.f171) [1, 1, 1, 0, 1, 0, 0, 1, 1]), .inLoop (cAt (bodyOf Tryz.f171) [1, 1, 1, 0, 1, 0, 0]), .inBlock 2, .code (cAt (bodyOf Tryz.f171) [1, 1, 1, 1])] ⟨[(0, .v (.slice l l_n l_c)), (1, .v (.slice turns turns_n turns_c)), (5, .v (.slice r0 r0_n r0_c)), (7, .v (.int .i64 i_7)), (8, .v (.int .i64 out)), (9, .v (.int .i64 k0_9))], []⟩ h Q
def gabionref02_Sum.J14 (l : Option Addr) (l_n : Nat) (l_c : Nat) (turns : Option Addr) (turns_n : Nat) (turns_c : Nat) (r0 : Option Addr) (r0_n : Nat) (r0_c : Nat) (i_7 : Int) (out : Int) (h : Heap) (Q : Value → Heap → Prop) : Prop :=
 TW Tryz.prog 171 82 [.code (cAt (bodyOf Tryz.f171) [1, 1, 1, 0, 1, 0, 0, 1, 0, 0, 1, 1, 0]), .code (cAt (bodyOf Tryz.f171) [1, 1, 1, 0, 1, 0, 0, 1, 0, 0, 1, 1, 1]), .inBlock 3, .code (cAt (bodyOf Tryz.f171) [1, 1, 1, 0, 1, 0, 0, 1, 1]), .inLoop (cAt (bodyOf Tryz.f171) [1, 1, 1, 0, 1, 0, 0]), .inBlock 2, .code (cAt (bodyOf Tryz.f171) [1, 1, 1, 1])] ⟨[(0, .v (.slice l l_n l_c)), (1, .v (.slice turns turns_n turns_c)), (5, .v (.slice r0 r0_n r0_c)), (7, .v (.int .i64 i_7)), (8, .v (.int .i64 out))], []⟩ h Q
def gabionref02_Sum.L16 (l : Option Addr) (l_n : Nat) (l_c : Nat) (turns : Option Addr) (turns_n : Nat) (turns_c : Nat) (r0 : Option Addr) (r0_n : Nat) (r0_c : Nat) (i_7 : Int) (out : Int) (k0_10 : Int) (h : Heap) (Q : Value → Heap → Prop) : Prop :=
 TW Tryz.prog 171 82 [.code (cAt (bodyOf Tryz.f171) [1, 1, 1, 0, 1, 0, 0, 1, 0, 0, 1, 1, 1, 1, 0, 0]), .inLoop (cAt (bodyOf Tryz.f171) [1, 1, 1, 0, 1, 0, 0, 1, 0, 0, 1, 1, 1, 1, 0, 0]), .inBlock 6, .inBlock 3, .code (cAt (bodyOf Tryz.f171) [1, 1, 1, 0, 1, 0, 0, 1, 1]), .inLoop (cAt (bodyOf Tryz.f171) [1, 1, 1, 0, 1, 0, 0]), .inBlock 2, .code (cAt (bodyOf Tryz.f171) [1, 1, 1, 1])] ⟨[(0, .v (.slice l l_n l_c)), (1, .v (.slice turns turns_n turns_c)), (5, .v (.slice r0 r0_n r0_c)), (7, .v (.int .i64 i_7)), (8, .v (.int .i64 out)), (10, .v (.int .i64 k0_10))], []⟩ h Q
def gabionref02_Sum.J18 (l : Option Addr) (l_n : Nat) (l_c : Nat) (turns : Option Addr) (turns_n : Nat) (turns_c : Nat) (r0 : Option Addr) (r0_n : Nat) (r0_c : Nat) (i_7 : Int) (out : Int) (k0_10 : Int) (h : Heap) (Q : Value → Heap → Prop) : Prop :=
 TW Tryz.prog 171 82 [.code (cAt (bodyOf Tryz.f171) [1, 1, 1, 0, 1, 0, 0, 1, 0, 0, 1, 1, 1, 1, 0, 0, 1, 0, 0]), .inBlock 7, .code (cAt (bodyOf Tryz.f171) [1, 1, 1, 0, 1, 0, 0, 1, 0, 0, 1, 1, 1, 1, 0, 0, 1, 1]), .inLoop (cAt (bodyOf Tryz.f171) [1, 1, 1, 0, 1, 0, 0, 1, 0, 0, 1, 1, 1, 1, 0, 0]), .inBlock 6, .inBlock 3, .code (cAt (bodyOf Tryz.f171) [1, 1, 1, 0, 1, 0, 0, 1, 1]), .inLoop (cAt (bodyOf Tryz.f171) [1, 1, 1, 0, 1, 0, 0]), .inBlock 2, .code (cAt (bodyOf Tryz.f171) [1, 1, 1, 1])] ⟨[(0, .v (.slice l l_n l_c)), (1, .v (.slice turns turns_n turns_c)), (5, .v (.slice r0 r0_n r0_c)), (7, .v (.int .i64 i_7)), (8, .v (.int .i64 out)), (10, .v (.int .i64 k0_10))], []⟩ h Q
def gabionref02_Sum.wp (l : Option Addr) (l_n : Nat) (l_c : Nat) (turns : Option Addr) (turns_n : Nat) (turns_c : Nat) (h : Heap) (Q : Value → Heap → Prop) : Prop :=
 xsMk Tryz.prog 3 h (↑turns_n : Int) (↑turns_n : Int) fun (a : Option Addr) (n' c' : Nat) (h' : Heap) => gabionref02_Sum.L3 l l_n l_c turns turns_n turns_c a n' c' 0 h' Q
def gabionref02_Sum.L3.wp (l : Option Addr) (l_n : Nat) (l_c : Nat) (turns : Option Addr) (turns_n : Nat) (turns_c : Nat) (r0 : Option Addr) (r0_n : Nat) (r0_c : Nat) (i_6 : Int) (h : Heap) (Q : Value → Heap → Prop) : Prop :=
 xsIf (decide (i_6 < (↑r0_n : Int)))
 ((0 ≤ i_6 ∧ i_6 < (↑r0_n : Int)) ∧
 atBase r0 fun (b o : Nat) => h.can b (o + i_6.toNat * 1) 1 ∧ gabionref02_Sum.L3 l l_n l_c turns turns_n turns_c r0 r0_n r0_c (IntKind.i64.wrap (i_6 + 1)) (h.put b (o + i_6.toNat * 1) [.int .i64 1]) Q)
 (gabionref02_Sum.J6 l l_n l_c turns turns_n turns_c r0 r0_n r0_c h Q)
def gabionref02_Sum.J6.wp (l : Option Addr) (l_n : Nat) (l_c : Nat) (turns : Option Addr) (turns_n : Nat) (turns_c : Nat) (r0 : Option Addr) (r0_n : Nat) (r0_c : Nat) (h : Heap) (Q : Value → Heap → Prop) : Prop :=
 gabionref02_Sum.L7 l l_n l_c turns turns_n turns_c r0 r0_n r0_c 0 h Q
def gabionref02_Sum.L7.wp (l : Option Addr) (l_n : Nat) (l_c : Nat) (turns : Option Addr) (turns_n : Nat) (turns_c : Nat) (r0 : Option Addr) (r0_n : Nat) (r0_c : Nat) (i_7 : Int) (h : Heap) (Q : Value → Heap → Prop) : Prop :=
 xsIf (decide (i_7 < (↑l_n : Int)))
 (((0 : Int) ≤ 0 ∧ (0 : Int) < (↑r0_n : Int)) ∧
 atBase r0 fun (b o : Nat) =>
 (0 ≤ i_7 ∧ i_7 < (↑l_n : Int)) ∧
 atBase l fun (b_1 o_1 : Nat) =>
 ∃ (x : Int),
 h.cell b (o + 0) = some (.int .i64 x) ∧
 ∃ (x_1 : Int), h.cell b_1 (o_1 + i_7.toNat * 1) = some (.int .i64 x_1) ∧ gabionref02_Sum.L11 l l_n l_c turns turns_n turns_c r0 r0_n r0_c i_7 (irem (IntKind.i64.wrap (x + x_1)) 2) 0 h Q)
 (Q (.slice r0 r0_n r0_c) h)
def gabionref02_Sum.L11.wp (l : Option Addr) (l_n : Nat) (l_c : Nat) (turns : Option Addr) (turns_n : Nat) (turns_c : Nat) (r0 : Option Addr) (r0_n : Nat) (r0_c : Nat) (i_7 : Int) (out : Int) (k0_9 : Int) (h : Heap) (Q : Value → Heap → Prop) : Prop :=
 xsIf (decide (IntKind.i64.wrap (k0_9 + 1) < (↑r0_n : Int)))
 ((0 ≤ IntKind.i64.wrap (k0_9 + 1) ∧ IntKind.i64.wrap (k0_9 + 1) < (↑r0_n : Int)) ∧
 atBase r0 fun (b o : Nat) =>
 ∃ (x : Int),
 h.cell b (o + (IntKind.i64.wrap (k0_9 + 1)).toNat * 1) = some (.int .i64 x) ∧
 (0 ≤ k0_9 ∧ k0_9 < (↑r0_n : Int)) ∧
 atBase r0 fun (b o : Nat) => h.can b (o + k0_9.toNat * 1) 1 ∧ gabionref02_Sum.L11 l l_n l_c turns turns_n turns_c r0 r0_n r0_c i_7 out (IntKind.i64.wrap (k0_9 + 1)) (h.put b (o + k0_9.toNat * 1) [.int .i64 x]) Q)
 (gabionref02_Sum.J14 l l_n l_c turns turns_n turns_c r0 r0_n r0_c i_7 out h Q)
def gabionref02_Sum.J14.wp (l : Option Addr) (l_n : Nat) (l_c : Nat) (turns : Option Addr) (turns_n : Nat) (turns_c : Nat) (r0 : Option Addr) (r0_n : Nat) (r0_c : Nat) (i_7 : Int) (out : Int) (h : Heap) (Q : Value → Heap → Prop) : Prop :=
 (0 ≤ IntKind.i64.wrap ((↑r0_n : Int) - 1) ∧ IntKind.i64.wrap ((↑r0_n : Int) - 1) < (↑r0_n : Int)) ∧
 atBase r0 fun (b o : Nat) =>
 h.can b (o + (IntKind.i64.wrap ((↑r0_n : Int) - 1)).toNat * 1) 1 ∧ gabionref02_Sum.L16 l l_n l_c turns turns_n turns_c r0 r0_n r0_c i_7 out 0 (h.put b (o + (IntKind.i64.wrap ((↑r0_n : Int) - 1)).toNat * 1) [.int .i64 0]) Q
def gabionref02_Sum.L16.wp (l : Option Addr) (l_n : Nat) (l_c : Nat) (turns : Option Addr) (turns_n : Nat) (turns_c : Nat) (r0 : Option Addr) (r0_n : Nat) (r0_c : Nat) (i_7 : Int) (out : Int) (k0_10 : Int) (h : Heap) (Q : Value → Heap → Prop) : Prop :=
 xsIf (decide (k0_10 < (↑r0_n : Int)))
 (xsIf (decide (out = 1)) (gabionref02_Sum.J18 l l_n l_c turns turns_n turns_c r0 r0_n r0_c i_7 out k0_10 h Q) (gabionref02_Sum.L7 l l_n l_c turns turns_n turns_c r0 r0_n r0_c (IntKind.i64.wrap (i_7 + 1)) h Q))
 (gabionref02_Sum.L7 l l_n l_c turns turns_n turns_c r0 r0_n r0_c (IntKind.i64.wrap (i_7 + 1)) h Q)
def gabionref02_Sum.J18.wp (l : Option Addr) (l_n : Nat) (l_c : Nat) (turns : Option Addr) (turns_n : Nat) (turns_c : Nat) (r0 : Option Addr) (r0_n : Nat) (r0_c : Nat) (i_7 : Int) (out : Int) (k0_10 : Int) (h : Heap) (Q : Value → Heap → Prop) : Prop :=
 (0 ≤ k0_10 ∧ k0_10 < (↑r0_n : Int)) ∧
 atBase r0 fun (b o : Nat) =>
 (0 ≤ k0_10 ∧ k0_10 < (↑turns_n : Int)) ∧
 atBase turns fun (b_1 o_1 : Nat) =>
 ∃ (x : Int),
 h.cell b (o + k0_10.toNat * 1) = some (.int .i64 x) ∧
 ∃ (x_1 : Int),
 h.cell b_1 (o_1 + k0_10.toNat * 1) = some (.int .i64 x_1) ∧
 (0 ≤ k0_10 ∧ k0_10 < (↑r0_n : Int)) ∧
 atBase r0 fun (b o : Nat) =>
 h.can b (o + k0_10.toNat * 1) 1 ∧
 gabionref02_Sum.L16 l l_n l_c turns turns_n turns_c r0 r0_n r0_c i_7 out (IntKind.i64.wrap (k0_10 + 1)) (h.put b (o + k0_10.toNat * 1) [.int .i64 (irem (IntKind.i64.wrap (x + x_1)) 2)]) Q
theorem gabionref02_Sum.ok {l : Option Addr} {l_n : Nat} {l_c : Nat} {turns : Option Addr} {turns_n : Nat} {turns_c : Nat} {h : Heap} {Q : Value → Heap → Prop} (hk : gabionref02_Sum.wp l l_n l_c turns turns_n turns_c h Q) : C Tryz.prog 171 #[.slice l l_n l_c, .slice turns turns_n turns_c] h Q :=
 C_of_xs (H := gabionref02_Sum.H) (lcuts := gabionref02_Sum.lc) (rcuts := gabionref02_Sum.rc) (l := [.slice l l_n l_c, .slice turns turns_n turns_c]) 2000 mixed Tryz.func171 rfl (by kernel_rfl) (@cast (gabionref02_Sum.wp l l_n l_c turns turns_n turns_c h Q) _ (by kernel_rfl) hk)
theorem gabionref02_Sum.L3.ok {l : Option Addr} {l_n : Nat} {l_c : Nat} {turns : Option Addr} {turns_n : Nat} {turns_c : Nat} {r0 : Option Addr} {r0_n : Nat} {r0_c : Nat} {i_6 : Int} {h : Heap} {Q : Value → Heap → Prop} (hk : gabionref02_Sum.L3.wp l l_n l_c turns turns_n turns_c r0 r0_n r0_c i_6 h Q) : gabionref02_Sum.L3 l l_n l_c turns turns_n turns_c r0 r0_n r0_c i_6 h Q :=
 xs_ok (H := gabionref02_Sum.H) (lcuts := gabionref02_Sum.lc) (rcuts := gabionref02_Sum.rc) (fn := Tryz.f171) mixed Tryz.func171 2000 _ _ _ (@cast (gabionref02_Sum.L3.wp l l_n l_c turns turns_n turns_c r0 r0_n r0_c i_6 h Q) _ (by kernel_rfl) hk)
theorem gabionref02_Sum.J6.ok {l : Option Addr} {l_n : Nat} {l_c : Nat} {turns : Option Addr} {turns_n : Nat} {turns_c : Nat} {r0 : Option Addr} {r0_n : Nat} {r0_c : Nat} {h : Heap} {Q : Value → Heap → Prop} (hk : gabionref02_Sum.J6.wp l l_n l_c turns turns_n turns_c r0 r0_n r0_c h Q) : gabionref02_Sum.J6 l l_n l_c turns turns_n turns_c r0 r0_n r0_c h Q :=
 xs_ok (H := gabionref02_Sum.H) (lcuts := gabionref02_Sum.lc) (rcuts := [⟨14, [0, 1, 5, 7, 8], []⟩, ⟨18, [0, 1, 5, 7, 8, 10], []⟩]) (fn := Tryz.f171) mixed Tryz.func171 2000 _ _ _ (@cast (gabionref02_Sum.J6.wp l l_n l_c turns turns_n turns_c r0 r0_n r0_c h Q) _ (by kernel_rfl) hk)
theorem gabionref02_Sum.L7.ok {l : Option Addr} {l_n : Nat} {l_c : Nat} {turns : Option Addr} {turns_n : Nat} {turns_c : Nat} {r0 : Option Addr} {r0_n : Nat} {r0_c : Nat} {i_7 : Int} {h : Heap} {Q : Value → Heap → Prop} (hk : gabionref02_Sum.L7.wp l l_n l_c turns turns_n turns_c r0 r0_n r0_c i_7 h Q) : gabionref02_Sum.L7 l l_n l_c turns turns_n turns_c r0 r0_n r0_c i_7 h Q :=
 xs_ok (H := gabionref02_Sum.H) (lcuts := gabionref02_Sum.lc) (rcuts := gabionref02_Sum.rc) (fn := Tryz.f171) mixed Tryz.func171 2000 _ _ _ (@cast (gabionref02_Sum.L7.wp l l_n l_c turns turns_n turns_c r0 r0_n r0_c i_7 h Q) _ (by kernel_rfl) hk)
theorem gabionref02_Sum.L11.ok {l : Option Addr} {l_n : Nat} {l_c : Nat} {turns : Option Addr} {turns_n : Nat} {turns_c : Nat} {r0 : Option Addr} {r0_n : Nat} {r0_c : Nat} {i_7 : Int} {out : Int} {k0_9 : Int} {h : Heap} {Q : Value → Heap → Prop} (hk : gabionref02_Sum.L11.wp l l_n l_c turns turns_n turns_c r0 r0_n r0_c i_7 out k0_9 h Q) : gabionref02_Sum.L11 l l_n l_c turns turns_n turns_c r0 r0_n r0_c i_7 out k0_9 h Q :=
 xs_ok (H := gabionref02_Sum.H) (lcuts := gabionref02_Sum.lc) (rcuts := gabionref02_Sum.rc) (fn := Tryz.f171) mixed Tryz.func171 2000 _ _ _ (@cast (gabionref02_Sum.L11.wp l l_n l_c turns turns_n turns_c r0 r0_n r0_c i_7 out k0_9 h Q) _ (by kernel_rfl) hk)
theorem gabionref02_Sum.J14.ok {l : Option Addr} {l_n : Nat} {l_c : Nat} {turns : Option Addr} {turns_n : Nat} {turns_c : Nat} {r0 : Option Addr} {r0_n : Nat} {r0_c : Nat} {i_7 : Int} {out : Int} {h : Heap} {Q : Value → Heap → Prop} (hk : gabionref02_Sum.J14.wp l l_n l_c turns turns_n turns_c r0 r0_n r0_c i_7 out h Q) : gabionref02_Sum.J14 l l_n l_c turns turns_n turns_c r0 r0_n r0_c i_7 out h Q :=
 xs_ok (H := gabionref02_Sum.H) (lcuts := gabionref02_Sum.lc) (rcuts := [⟨6, [0, 1, 5], []⟩, ⟨18, [0, 1, 5, 7, 8, 10], []⟩]) (fn := Tryz.f171) mixed Tryz.func171 2000 _ _ _ (@cast (gabionref02_Sum.J14.wp l l_n l_c turns turns_n turns_c r0 r0_n r0_c i_7 out h Q) _ (by kernel_rfl) hk)
theorem gabionref02_Sum.L16.ok {l : Option Addr} {l_n : Nat} {l_c : Nat} {turns : Option Addr} {turns_n : Nat} {turns_c : Nat} {r0 : Option Addr} {r0_n : Nat} {r0_c : Nat} {i_7 : Int} {out : Int} {k0_10 : Int} {h : Heap} {Q : Value → Heap → Prop} (hk : gabionref02_Sum.L16.wp l l_n l_c turns turns_n turns_c r0 r0_n r0_c i_7 out k0_10 h Q) : gabionref02_Sum.L16 l l_n l_c turns turns_n turns_c r0 r0_n r0_c i_7 out k0_10 h Q :=
 xs_ok (H := gabionref02_Sum.H) (lcuts := gabionref02_Sum.lc) (rcuts := gabionref02_Sum.rc) (fn := Tryz.f171) mixed Tryz.func171 2000 _ _ _ (@cast (gabionref02_Sum.L16.wp l l_n l_c turns turns_n turns_c r0 r0_n r0_c i_7 out k0_10 h Q) _ (by kernel_rfl) hk)
theorem gabionref02_Sum.J18.ok {l : Option Addr} {l_n : Nat} {l_c : Nat} {turns : Option Addr} {turns_n : Nat} {turns_c : Nat} {r0 : Option Addr} {r0_n : Nat} {r0_c : Nat} {i_7 : Int} {out : Int} {k0_10 : Int} {h : Heap} {Q : Value → Heap → Prop} (hk : gabionref02_Sum.J18.wp l l_n l_c turns turns_n turns_c r0 r0_n r0_c i_7 out k0_10 h Q) : gabionref02_Sum.J18 l l_n l_c turns turns_n turns_c r0 r0_n r0_c i_7 out k0_10 h Q :=
 xs_ok (H := gabionref02_Sum.H) (lcuts := gabionref02_Sum.lc) (rcuts := [⟨6, [0, 1, 5], []⟩, ⟨14, [0, 1, 5, 7, 8], []⟩]) (fn := Tryz.f171) mixed Tryz.func171 2000 _ _ _ (@cast (gabionref02_Sum.J18.wp l l_n l_c turns turns_n turns_c r0 r0_n r0_c i_7 out k0_10 h Q) _ (by kernel_rfl) hk)

/-! gabion/gabionref02.number -/
def gabionref02_number.H : Hn := ⟨[], [], [], []⟩
def gabionref02_number.lc : List Cut := [⟨3, [0, 3, 4], []⟩]
def gabionref02_number.rc : List Cut := []
def gabionref02_number.L3 (r0 : Option Addr) (r0_n : Nat) (r0_c : Nat) (n : Int) (i : Int) (h : Heap) (Q : Value → Heap → Prop) : Prop :=
 TW Tryz.prog 172 20 [.code (cAt (bodyOf Tryz.f172) [1, 1, 0, 1, 0, 0]), .inLoop (cAt (bodyOf Tryz.f172) [1, 1, 0, 1, 0, 0]), .inBlock 0, .code (cAt (bodyOf Tryz.f172) [1, 1, 1])] ⟨[(0, .v (.slice r0 r0_n r0_c)), (3, .v (.int .u64 n)), (4, .v (.int .i64 i))], []⟩ h Q
def gabionref02_number.wp (r0 : Option Addr) (r0_n : Nat) (r0_c : Nat) (h : Heap) (Q : Value → Heap → Prop) : Prop :=
 gabionref02_number.L3 r0 r0_n r0_c 0 0 h Q
def gabionref02_number.L3.wp (r0 : Option Addr) (r0_n : Nat) (r0_c : Nat) (n : Int) (i : Int) (h : Heap) (Q : Value → Heap → Prop) : Prop :=
 xsIf (decide (i < (↑r0_n : Int)))
 ((0 ≤ i ∧ i < (↑r0_n : Int)) ∧
 atBase r0 fun (b o : Nat) =>
 ∃ (x : Int), h.cell b (o + i.toNat * 1) = some (.int .i64 x) ∧ gabionref02_number.L3 r0 r0_n r0_c (IntKind.u64.wrap (IntKind.u64.wrap (2 * n) + IntKind.u64.wrap x)) (IntKind.i64.wrap (i + 1)) h Q)
 (Q (.int .u64 n) h)
theorem gabionref02_number.ok {r0 : Option Addr} {r0_n : Nat} {r0_c : Nat} {h : Heap} {Q : Value → Heap → Prop} (hk : gabionref02_number.wp r0 r0_n r0_c h Q) : C Tryz.prog 172 #[.slice r0 r0_n r0_c] h Q :=
 C_of_xs (H := gabionref02_number.H) (lcuts := gabionref02_number.lc) (rcuts := gabionref02_number.rc) (l := [.slice r0 r0_n r0_c]) 2000 mixed Tryz.func172 rfl (by kernel_rfl) (@cast (gabionref02_number.wp r0 r0_n r0_c h Q) _ (by kernel_rfl) hk)
theorem gabionref02_number.L3.ok {r0 : Option Addr} {r0_n : Nat} {r0_c : Nat} {n : Int} {i : Int} {h : Heap} {Q : Value → Heap → Prop} (hk : gabionref02_number.L3.wp r0 r0_n r0_c n i h Q) : gabionref02_number.L3 r0 r0_n r0_c n i h Q :=
 xs_ok (H := gabionref02_number.H) (lcuts := gabionref02_number.lc) (rcuts := gabionref02_number.rc) (fn := Tryz.f172) mixed Tryz.func172 2000 _ _ _ (@cast (gabionref02_number.L3.wp r0 r0_n r0_c n i h Q) _ (by kernel_rfl) hk)

/-! gabion/gabionref02.Sum16 -/
def gabionref02_Sum16.H : Hn := ⟨[], [], [], []⟩
def gabionref02_Sum16.lc : List Cut := []
def gabionref02_Sum16.rc : List Cut := []
def gabionref02_Sum16.wp (s : ByteArray) (h : Heap) (Q : Value → Heap → Prop) : Prop :=
 ∀ (b : Nat),
 h b = none →
 C Tryz.prog 170 #[.string s, .bool false]
 (upd h b
 (Obj.cells
 #[.int .i64 0, .int .i64 0, .int .i64 0, .int .i64 1, .int .i64 0, .int .i64 0, .int .i64 0, .int .i64 0, .int .i64 0,
 .int .i64 0, .int .i64 1, .int .i64 0, .int .i64 0, .int .i64 0, .int .i64 0, .int .i64 1]
 3 (0, 0)))
 fun (r : Value) (h' : Heap) =>
 ∃ (x : Option Addr),
 ∃ (n : Nat),
 ∃ (m : Nat),
 r = .slice x n m ∧
 C Tryz.prog 171 #[.slice x n m, .slice (some { block := b, off := 0 }) 16 16] h' fun (r : Value) (h' : Heap) =>
 ∃ (x : Option Addr),
 ∃ (n : Nat), ∃ (m : Nat), r = .slice x n m ∧ C Tryz.prog 172 #[.slice x n m] h' fun (r : Value) (h' : Heap) => ∃ (x : Int), r = .int .u64 x ∧ Q (.int .u64 x) h'
theorem gabionref02_Sum16.ok {s : ByteArray} {h : Heap} {Q : Value → Heap → Prop} (hk : gabionref02_Sum16.wp s h Q) : C Tryz.prog 153 #[.string s] h Q :=
 C_of_xs (H := gabionref02_Sum16.H) (lcuts := gabionref02_Sum16.lc) (rcuts := gabionref02_Sum16.rc) (l := [.string s]) 2000 mixed Tryz.func153 rfl (by kernel_rfl) (@cast (gabionref02_Sum16.wp s h Q) _ (by kernel_rfl) hk)

/-! gabion/gabionref02.Guard -/
def gabionref02_Guard.H : Hn := ⟨[], [], [], []⟩
def gabionref02_Guard.lc : List Cut := []
def gabionref02_Guard.rc : List Cut := []
def gabionref02_Guard.wp (n : Int) (h : Heap) (Q : Value → Heap → Prop) : Prop :=
 C Tryz.prog 104 #[.int .u64 (irem n 281474976710656), .int .i64 6] h fun (r : Value) (h' : Heap) =>
 ∃ (x : ByteArray),
 r = .string x ∧
 C Tryz.prog 153 #[.string x] h' fun (r : Value) (h' : Heap) =>
 ∃ (x : Int), r = .int .u64 x ∧ Q (.int .u64 (IntKind.u64.wrap (IntKind.u64.wrap (IntKind.u64.wrap (65535 - x) * 281474976710656) + irem n 281474976710656))) h'
theorem gabionref02_Guard.ok {n : Int} {h : Heap} {Q : Value → Heap → Prop} (hk : gabionref02_Guard.wp n h Q) : C Tryz.prog 140 #[.int .u64 n] h Q :=
 C_of_xs (H := gabionref02_Guard.H) (lcuts := gabionref02_Guard.lc) (rcuts := gabionref02_Guard.rc) (l := [.int .u64 n]) 2000 mixed Tryz.func140 rfl (by kernel_rfl) (@cast (gabionref02_Guard.wp n h Q) _ (by kernel_rfl) hk)

/-! gabion/gabionref05.Entries -/
def gabionref05_Entries.H : Hn := ⟨[], [], [], []⟩
def gabionref05_Entries.lc : List Cut := [⟨4, [0, 3, 6, 7, 8], [3]⟩]
def gabionref05_Entries.rc : List Cut := []
def gabionref05_Entries.L4 (d : Option Addr) (out : Option Addr) (out_n : Nat) (out_c : Nat) (free : Bool) (k0 : Int) (p_3_0 : Int) (p_3_1 : Int) (p_3_2 : Int) (h : Heap) (Q : Value → Heap → Prop) : Prop :=
 TW Tryz.prog 110 65 [.code (cAt (bodyOf Tryz.f110) [1, 1, 1, 0, 1, 0, 0]), .inLoop (cAt (bodyOf Tryz.f110) [1, 1, 1, 0, 1, 0, 0]), .inBlock 0, .code (cAt (bodyOf Tryz.f110) [1, 1, 1, 1])] ⟨[(0, .v (.pointer d)), (3, .p 3 0), (6, .v (.slice out out_n out_c)), (7, .v (.bool free)), (8, .v (.int .i64 k0))], [(3, [.int .i64 p_3_0, .int .i64 p_3_1, .int .i64 p_3_2])]⟩ h Q
def gabionref05_Entries.wp (d : Option Addr) (p_0 : Int) (p_1 : Int) (p_2 : Int) (h : Heap) (Q : Value → Heap → Prop) : Prop :=
 gabionref05_Entries.L4 d none 0 0 false 0 p_0 p_1 p_2 h Q
def gabionref05_Entries.L4.wp (d : Option Addr) (out : Option Addr) (out_n : Nat) (out_c : Nat) (free : Bool) (k0 : Int) (p_3_0 : Int) (p_3_1 : Int) (p_3_2 : Int) (h : Heap) (Q : Value → Heap → Prop) : Prop :=
 xsIf (decide (k0 < p_3_2))
 (C Tryz.prog 115 #[.pointer d, .int .i64 (IntKind.i64.wrap (IntKind.i64.wrap (8 * p_3_0) + k0))] h fun (r : Value) (h' : Heap) =>
 ∃ (x : Int),
 ∃ (x_1 : Int),
 r = .tuple #[.int .u64 x, .int .i64 x_1] ∧
 xsIf (decide (x_1 ≠ 0)) (Q (.tuple #[.slice none 0 0, .int .i64 x_1]) h')
 (xsIf (decide (x = 0)) (gabionref05_Entries.L4 d out out_n out_c true (IntKind.i64.wrap (k0 + 1)) p_3_0 p_3_1 p_3_2 h' Q)
 (C Tryz.prog 140 #[.int .u64 (irem x 281474976710656)] h' fun (r : Value) (h' : Heap) =>
 ∃ (x_2 : Int),
 r = .int .u64 x_2 ∧
 xsIf (decide (x_2 ≠ x)) (Q (.tuple #[.slice none 0 0, .int .i64 5]) h')
 (xsIf (decide (irem x 281474976710656 ≠ 65535))
 (xsIf (decide (irem x 281474976710656 < 1)) (Q (.tuple #[.slice none 0 0, .int .i64 5]) h')
 (xsIf (decide (IntKind.u64.wrap p_3_1 < irem x 281474976710656)) (Q (.tuple #[.slice none 0 0, .int .i64 5]) h')
 (xsIf free (Q (.tuple #[.slice none 0 0, .int .i64 5]) h')
 (∀ (b : Nat),
 h' b = none →
 xsApp Tryz.prog 3 (upd h' b (Obj.cells #[.int .i64 (IntKind.i64.wrap (irem x 281474976710656))] 3 (0, 0))) out out_n out_c (some { block := b, off := 0 }) 1
 fun (a' : Option Addr) (n' c' : Nat) (h' : Heap) => gabionref05_Entries.L4 d a' n' c' free (IntKind.i64.wrap (k0 + 1)) p_3_0 p_3_1 p_3_2 h' Q))))
 (xsIf free (Q (.tuple #[.slice none 0 0, .int .i64 5]) h')
 (∀ (b : Nat),
 h' b = none →
 xsApp Tryz.prog 3 (upd h' b (Obj.cells #[.int .i64 (IntKind.i64.wrap (irem x 281474976710656))] 3 (0, 0))) out out_n out_c (some { block := b, off := 0 }) 1
 fun (a' : Option Addr) (n' c' : Nat) (h' : Heap) => gabionref05_Entries.L4 d a' n' c' free (IntKind.i64.wrap (k0 + 1)) p_3_0 p_3_1 p_3_2 h' Q))))))
 (Q (.tuple #[.slice out out_n out_c, .int .i64 0]) h)
theorem gabionref05_Entries.ok {d : Option Addr} {p_0 : Int} {p_1 : Int} {p_2 : Int} {h : Heap} {Q : Value → Heap → Prop} (hk : gabionref05_Entries.wp d p_0 p_1 p_2 h Q) : C Tryz.prog 110 #[.pointer d, .agg #[.int .i64 p_0, .int .i64 p_1, .int .i64 p_2]] h Q :=
 C_of_xs (H := gabionref05_Entries.H) (lcuts := gabionref05_Entries.lc) (rcuts := gabionref05_Entries.rc) (l := [.pointer d, .agg #[.int .i64 p_0, .int .i64 p_1, .int .i64 p_2]]) 2000 mixed Tryz.func110 rfl (by kernel_rfl) (@cast (gabionref05_Entries.wp d p_0 p_1 p_2 h Q) _ (by kernel_rfl) hk)
theorem gabionref05_Entries.L4.ok {d : Option Addr} {out : Option Addr} {out_n : Nat} {out_c : Nat} {free : Bool} {k0 : Int} {p_3_0 : Int} {p_3_1 : Int} {p_3_2 : Int} {h : Heap} {Q : Value → Heap → Prop} (hk : gabionref05_Entries.L4.wp d out out_n out_c free k0 p_3_0 p_3_1 p_3_2 h Q) : gabionref05_Entries.L4 d out out_n out_c free k0 p_3_0 p_3_1 p_3_2 h Q :=
 xs_ok (H := gabionref05_Entries.H) (lcuts := gabionref05_Entries.lc) (rcuts := gabionref05_Entries.rc) (fn := Tryz.f110) mixed Tryz.func110 2000 _ _ _ (@cast (gabionref05_Entries.L4.wp d out out_n out_c free k0 p_3_0 p_3_1 p_3_2 h Q) _ (by kernel_rfl) hk)

/-! gabion/gabionref05.Where -/
def gabionref05_Where.H : Hn := ⟨[], [], [], []⟩
def gabionref05_Where.lc : List Cut := [⟨4, [1, 2, 3, 7, 8, 9], [3]⟩]
def gabionref05_Where.rc : List Cut := []
def gabionref05_Where.L4 (l : Option Addr) (l_n : Nat) (l_c : Nat) (i : Int) (t : Int) (at0 : Int) (k0 : Int) (p_3_0 : Int) (p_3_1 : Int) (p_3_2 : Int) (h : Heap) (Q : Value → Heap → Prop) : Prop :=
 TW Tryz.prog 111 41 [.code (cAt (bodyOf Tryz.f111) [1, 1, 1, 0, 1, 0, 0]), .inLoop (cAt (bodyOf Tryz.f111) [1, 1, 1, 0, 1, 0, 0]), .inBlock 0, .code (cAt (bodyOf Tryz.f111) [1, 1, 1, 1])] ⟨[(1, .v (.slice l l_n l_c)), (2, .v (.int .i64 i)), (3, .p 3 0), (7, .v (.int .i64 t)), (8, .v (.int .i64 at0)), (9, .v (.int .i64 k0))], [(3, [.int .i64 p_3_0, .int .i64 p_3_1, .int .i64 p_3_2])]⟩ h Q
def gabionref05_Where.wp (p_0 : Int) (p_1 : Int) (p_2 : Int) (l : Option Addr) (l_n : Nat) (l_c : Nat) (i : Int) (h : Heap) (Q : Value → Heap → Prop) : Prop :=
 C Tryz.prog 98 #[.agg #[.int .i64 p_0, .int .i64 p_1, .int .i64 p_2]] h fun (r : Value) (h' : Heap) =>
 ∃ (x : Int), r = .int .i64 x ∧ gabionref05_Where.L4 l l_n l_c i x (IntKind.i64.wrap (IntKind.i64.wrap (p_0 + x) + i)) 0 p_0 p_1 p_2 h' Q
def gabionref05_Where.L4.wp (l : Option Addr) (l_n : Nat) (l_c : Nat) (i : Int) (t : Int) (at0 : Int) (k0 : Int) (p_3_0 : Int) (p_3_1 : Int) (p_3_2 : Int) (h : Heap) (Q : Value → Heap → Prop) : Prop :=
 xsIf (decide (k0 < (↑l_n : Int)))
 ((0 ≤ k0 ∧ k0 < (↑l_n : Int)) ∧
 atBase l fun (b o : Nat) =>
 ∃ (x : Int),
 h.cell b (o + k0.toNat * 1) = some (.int .i64 x) ∧
 xsIf (decide (x = IntKind.i64.wrap (i + 1))) (gabionref05_Where.L4 l l_n l_c i t (IntKind.i64.wrap (IntKind.i64.wrap (IntKind.i64.wrap (p_3_0 + t) + p_3_1) + k0)) (IntKind.i64.wrap (k0 + 1)) p_3_0 p_3_1 p_3_2 h Q)
 (gabionref05_Where.L4 l l_n l_c i t at0 (IntKind.i64.wrap (k0 + 1)) p_3_0 p_3_1 p_3_2 h Q))
 (Q (.int .i64 at0) h)
theorem gabionref05_Where.ok {p_0 : Int} {p_1 : Int} {p_2 : Int} {l : Option Addr} {l_n : Nat} {l_c : Nat} {i : Int} {h : Heap} {Q : Value → Heap → Prop} (hk : gabionref05_Where.wp p_0 p_1 p_2 l l_n l_c i h Q) : C Tryz.prog 111 #[.agg #[.int .i64 p_0, .int .i64 p_1, .int .i64 p_2], .slice l l_n l_c, .int .i64 i] h Q :=
 C_of_xs (H := gabionref05_Where.H) (lcuts := gabionref05_Where.lc) (rcuts := gabionref05_Where.rc) (l := [.agg #[.int .i64 p_0, .int .i64 p_1, .int .i64 p_2], .slice l l_n l_c, .int .i64 i]) 2000 mixed Tryz.func111 rfl (by kernel_rfl) (@cast (gabionref05_Where.wp p_0 p_1 p_2 l l_n l_c i h Q) _ (by kernel_rfl) hk)
theorem gabionref05_Where.L4.ok {l : Option Addr} {l_n : Nat} {l_c : Nat} {i : Int} {t : Int} {at0 : Int} {k0 : Int} {p_3_0 : Int} {p_3_1 : Int} {p_3_2 : Int} {h : Heap} {Q : Value → Heap → Prop} (hk : gabionref05_Where.L4.wp l l_n l_c i t at0 k0 p_3_0 p_3_1 p_3_2 h Q) : gabionref05_Where.L4 l l_n l_c i t at0 k0 p_3_0 p_3_1 p_3_2 h Q :=
 xs_ok (H := gabionref05_Where.H) (lcuts := gabionref05_Where.lc) (rcuts := gabionref05_Where.rc) (fn := Tryz.f111) mixed Tryz.func111 2000 _ _ _ (@cast (gabionref05_Where.L4.wp l l_n l_c i t at0 k0 p_3_0 p_3_1 p_3_2 h Q) _ (by kernel_rfl) hk)

/-! gabion/gabionref04.Get -/
def gabionref04_Get.H : Hn := ⟨[], [], [], []⟩
def gabionref04_Get.lc : List Cut := [⟨5, [0, 1, 6, 7], []⟩]
def gabionref04_Get.rc : List Cut := [⟨3, [0, 1], []⟩]
def gabionref04_Get.J3 (d : Option Addr) (at0 : Int) (h : Heap) (Q : Value → Heap → Prop) : Prop :=
 TW Tryz.prog 67 51 [.code (cAt (bodyOf Tryz.f67) [1, 1, 0]), .code (cAt (bodyOf Tryz.f67) [1, 1, 1])] ⟨[(0, .v (.pointer d)), (1, .v (.int .i64 at0))], []⟩ h Q
def gabionref04_Get.L5 (d : Option Addr) (at0 : Int) (s : ByteArray) (k0 : Int) (h : Heap) (Q : Value → Heap → Prop) : Prop :=
 TW Tryz.prog 67 51 [.code (cAt (bodyOf Tryz.f67) [1, 1, 1, 0, 1, 0, 0]), .inLoop (cAt (bodyOf Tryz.f67) [1, 1, 1, 0, 1, 0, 0]), .inBlock 0, .code (cAt (bodyOf Tryz.f67) [1, 1, 1, 1])] ⟨[(0, .v (.pointer d)), (1, .v (.int .i64 at0)), (6, .v (.string s)), (7, .v (.int .i64 k0))], []⟩ h Q
def gabionref04_Get.wp (d : Option Addr) (at0 : Int) (h : Heap) (Q : Value → Heap → Prop) : Prop :=
 atBase d fun (b o : Nat) =>
 ∃ (x : Bool),
 h.cell b (o + 4) = some (.bool x) ∧
 xsIf (!x)
 (xsIf (decide (at0 < 0)) (Q (.tuple #[.string { data := #[] }, .int .i64 3]) h)
 (atBase d fun (b o : Nat) =>
 ∃ (x : Option Addr),
 ∃ (n : Nat),
 ∃ (m : Nat),
 h.cell b (o + 1) = some (.slice x n m) ∧ xsIf (decide ((↑n : Int) ≤ at0)) (Q (.tuple #[.string { data := #[] }, .int .i64 3]) h) (gabionref04_Get.J3 d at0 h Q)))
 (gabionref04_Get.J3 d at0 h Q)
def gabionref04_Get.J3.wp (d : Option Addr) (at0 : Int) (h : Heap) (Q : Value → Heap → Prop) : Prop :=
 gabionref04_Get.L5 d at0 { data := #[] } 0 h Q
def gabionref04_Get.L5.wp (d : Option Addr) (at0 : Int) (s : ByteArray) (k0 : Int) (h : Heap) (Q : Value → Heap → Prop) : Prop :=
 xsIf (decide (k0 < 8))
 (C Tryz.prog 115 #[.pointer d, .int .i64 (IntKind.i64.wrap (IntKind.i64.wrap (8 * at0) + k0))] h fun (r : Value) (h' : Heap) =>
 ∃ (x : Int),
 ∃ (x_1 : Int),
 r = .tuple #[.int .u64 x, .int .i64 x_1] ∧
 xsIf (decide (x_1 ≠ 0)) (Q (.tuple #[.string { data := #[] }, .int .i64 x_1]) h')
 (C Tryz.prog 104 #[.int .u64 x, .int .i64 8] h' fun (r : Value) (h' : Heap) =>
 ∃ (x : ByteArray), r = .string x ∧ (↑(s.size + x.size) : Int) ≤ 9223372036854775807 ∧ gabionref04_Get.L5 d at0 (s ++ x) (IntKind.i64.wrap (k0 + 1)) h' Q))
 (Q (.tuple #[.string s, .int .i64 0]) h)
theorem gabionref04_Get.ok {d : Option Addr} {at0 : Int} {h : Heap} {Q : Value → Heap → Prop} (hk : gabionref04_Get.wp d at0 h Q) : C Tryz.prog 67 #[.pointer d, .int .i64 at0] h Q :=
 C_of_xs (H := gabionref04_Get.H) (lcuts := gabionref04_Get.lc) (rcuts := gabionref04_Get.rc) (l := [.pointer d, .int .i64 at0]) 2000 mixed Tryz.func67 rfl (by kernel_rfl) (@cast (gabionref04_Get.wp d at0 h Q) _ (by kernel_rfl) hk)
theorem gabionref04_Get.J3.ok {d : Option Addr} {at0 : Int} {h : Heap} {Q : Value → Heap → Prop} (hk : gabionref04_Get.J3.wp d at0 h Q) : gabionref04_Get.J3 d at0 h Q :=
 xs_ok (H := gabionref04_Get.H) (lcuts := gabionref04_Get.lc) (rcuts := []) (fn := Tryz.f67) mixed Tryz.func67 2000 _ _ _ (@cast (gabionref04_Get.J3.wp d at0 h Q) _ (by kernel_rfl) hk)
theorem gabionref04_Get.L5.ok {d : Option Addr} {at0 : Int} {s : ByteArray} {k0 : Int} {h : Heap} {Q : Value → Heap → Prop} (hk : gabionref04_Get.L5.wp d at0 s k0 h Q) : gabionref04_Get.L5 d at0 s k0 h Q :=
 xs_ok (H := gabionref04_Get.H) (lcuts := gabionref04_Get.lc) (rcuts := gabionref04_Get.rc) (fn := Tryz.f67) mixed Tryz.func67 2000 _ _ _ (@cast (gabionref04_Get.L5.wp d at0 s k0 h Q) _ (by kernel_rfl) hk)

/-! gabion/gabionref04.PutWord -/
def gabionref04_PutWord.H : Hn := ⟨[], [], [], []⟩
def gabionref04_PutWord.lc : List Cut := []
def gabionref04_PutWord.rc : List Cut := [⟨3, [0, 1, 2, 3], []⟩, ⟨5, [0, 1, 2, 3], []⟩]
def gabionref04_PutWord.J3 (d : Option Addr) (at0 : Int) (k0 : Int) (v : Int) (h : Heap) (Q : Value → Heap → Prop) : Prop :=
 TW Tryz.prog 114 40 [.code (cAt (bodyOf Tryz.f114) [1, 1, 0, 0]), .code (cAt (bodyOf Tryz.f114) [1, 1, 0, 1]), .code (cAt (bodyOf Tryz.f114) [1, 1, 1])] ⟨[(0, .v (.pointer d)), (1, .v (.int .i64 at0)), (2, .v (.int .i64 k0)), (3, .v (.int .u64 v))], []⟩ h Q
def gabionref04_PutWord.J5 (d : Option Addr) (at0 : Int) (k0 : Int) (v : Int) (h : Heap) (Q : Value → Heap → Prop) : Prop :=
 TW Tryz.prog 114 40 [.code (cAt (bodyOf Tryz.f114) [1, 1, 1, 0]), .code (cAt (bodyOf Tryz.f114) [1, 1, 1, 1])] ⟨[(0, .v (.pointer d)), (1, .v (.int .i64 at0)), (2, .v (.int .i64 k0)), (3, .v (.int .u64 v))], []⟩ h Q
def gabionref04_PutWord.wp (d : Option Addr) (at0 : Int) (k0 : Int) (v : Int) (h : Heap) (Q : Value → Heap → Prop) : Prop :=
 xsIf (decide (k0 < 0)) (Q (.int .i64 2) h) (xsIf (decide (7 < k0)) (Q (.int .i64 2) h) (gabionref04_PutWord.J3 d at0 k0 v h Q))
def gabionref04_PutWord.J3.wp (d : Option Addr) (at0 : Int) (k0 : Int) (v : Int) (h : Heap) (Q : Value → Heap → Prop) : Prop :=
 xsIf (decide (at0 < 0)) (Q (.int .i64 3) h)
 (atBase d fun (b o : Nat) => ∃ (x : Option Addr), ∃ (n : Nat), ∃ (m : Nat), h.cell b (o + 1) = some (.slice x n m) ∧ xsIf (decide ((↑n : Int) ≤ at0)) (Q (.int .i64 3) h) (gabionref04_PutWord.J5 d at0 k0 v h Q))
def gabionref04_PutWord.J5.wp (d : Option Addr) (at0 : Int) (k0 : Int) (v : Int) (h : Heap) (Q : Value → Heap → Prop) : Prop :=
 C Tryz.prog 141 #[.pointer d, .int .i64 (IntKind.i64.wrap (IntKind.i64.wrap (8 * at0) + k0)), .int .u64 v] h fun (r : Value) (h' : Heap) =>
 ∃ (x : Int),
 r = .int .i64 x ∧
 xsIf (decide (x ≠ 0)) (Q (.int .i64 x) h')
 (C Tryz.prog 142 #[.pointer d, .int .i64 at0] h' fun (r : Value) (h' : Heap) => ∃ (x : Int), r = .int .i64 x ∧ Q (.int .i64 x) h')
theorem gabionref04_PutWord.ok {d : Option Addr} {at0 : Int} {k0 : Int} {v : Int} {h : Heap} {Q : Value → Heap → Prop} (hk : gabionref04_PutWord.wp d at0 k0 v h Q) : C Tryz.prog 114 #[.pointer d, .int .i64 at0, .int .i64 k0, .int .u64 v] h Q :=
 C_of_xs (H := gabionref04_PutWord.H) (lcuts := gabionref04_PutWord.lc) (rcuts := gabionref04_PutWord.rc) (l := [.pointer d, .int .i64 at0, .int .i64 k0, .int .u64 v]) 2000 mixed Tryz.func114 rfl (by kernel_rfl) (@cast (gabionref04_PutWord.wp d at0 k0 v h Q) _ (by kernel_rfl) hk)
theorem gabionref04_PutWord.J3.ok {d : Option Addr} {at0 : Int} {k0 : Int} {v : Int} {h : Heap} {Q : Value → Heap → Prop} (hk : gabionref04_PutWord.J3.wp d at0 k0 v h Q) : gabionref04_PutWord.J3 d at0 k0 v h Q :=
 xs_ok (H := gabionref04_PutWord.H) (lcuts := gabionref04_PutWord.lc) (rcuts := [⟨5, [0, 1, 2, 3], []⟩]) (fn := Tryz.f114) mixed Tryz.func114 2000 _ _ _ (@cast (gabionref04_PutWord.J3.wp d at0 k0 v h Q) _ (by kernel_rfl) hk)
theorem gabionref04_PutWord.J5.ok {d : Option Addr} {at0 : Int} {k0 : Int} {v : Int} {h : Heap} {Q : Value → Heap → Prop} (hk : gabionref04_PutWord.J5.wp d at0 k0 v h Q) : gabionref04_PutWord.J5 d at0 k0 v h Q :=
 xs_ok (H := gabionref04_PutWord.H) (lcuts := gabionref04_PutWord.lc) (rcuts := [⟨3, [0, 1, 2, 3], []⟩]) (fn := Tryz.f114) mixed Tryz.func114 2000 _ _ _ (@cast (gabionref04_PutWord.J5.wp d at0 k0 v h Q) _ (by kernel_rfl) hk)

/-! gabion/gabionref04.Media -/
def gabionref04_Media.H : Hn := ⟨[], [], [], []⟩
def gabionref04_Media.lc : List Cut := [⟨3, [0, 1, 5, 6], []⟩]
def gabionref04_Media.rc : List Cut := []
def gabionref04_Media.L3 (d : Option Addr) (at0 : Int) (s : ByteArray) (k0 : Int) (h : Heap) (Q : Value → Heap → Prop) : Prop :=
 TW Tryz.prog 57 28 [.code (cAt (bodyOf Tryz.f57) [1, 1, 0, 1, 0, 0]), .inLoop (cAt (bodyOf Tryz.f57) [1, 1, 0, 1, 0, 0]), .inBlock 0, .code (cAt (bodyOf Tryz.f57) [1, 1, 1])] ⟨[(0, .v (.pointer d)), (1, .v (.int .i64 at0)), (5, .v (.string s)), (6, .v (.int .i64 k0))], []⟩ h Q
def gabionref04_Media.wp (d : Option Addr) (at0 : Int) (h : Heap) (Q : Value → Heap → Prop) : Prop :=
 gabionref04_Media.L3 d at0 { data := #[] } 0 h Q
def gabionref04_Media.L3.wp (d : Option Addr) (at0 : Int) (s : ByteArray) (k0 : Int) (h : Heap) (Q : Value → Heap → Prop) : Prop :=
 xsIf (decide (k0 < 8))
 (atBase d fun (b o : Nat) =>
 ∃ (x : Option Addr),
 ∃ (n : Nat),
 ∃ (m : Nat),
 h.cell b (o + 0) = some (.slice x n m) ∧
 (0 ≤ IntKind.i64.wrap (IntKind.i64.wrap (8 * at0) + k0) ∧ IntKind.i64.wrap (IntKind.i64.wrap (8 * at0) + k0) < (↑n : Int)) ∧
 atBase x fun (b o : Nat) =>
 ∃ (x : Int),
 h.cell b (o + (IntKind.i64.wrap (IntKind.i64.wrap (8 * at0) + k0)).toNat * 4 + 0) = some (.int .u64 x) ∧
 C Tryz.prog 104 #[.int .u64 x, .int .i64 8] h fun (r : Value) (h' : Heap) =>
 ∃ (x : ByteArray), r = .string x ∧ (↑(s.size + x.size) : Int) ≤ 9223372036854775807 ∧ gabionref04_Media.L3 d at0 (s ++ x) (IntKind.i64.wrap (k0 + 1)) h' Q)
 (Q (.string s) h)
theorem gabionref04_Media.ok {d : Option Addr} {at0 : Int} {h : Heap} {Q : Value → Heap → Prop} (hk : gabionref04_Media.wp d at0 h Q) : C Tryz.prog 57 #[.pointer d, .int .i64 at0] h Q :=
 C_of_xs (H := gabionref04_Media.H) (lcuts := gabionref04_Media.lc) (rcuts := gabionref04_Media.rc) (l := [.pointer d, .int .i64 at0]) 2000 mixed Tryz.func57 rfl (by kernel_rfl) (@cast (gabionref04_Media.wp d at0 h Q) _ (by kernel_rfl) hk)
theorem gabionref04_Media.L3.ok {d : Option Addr} {at0 : Int} {s : ByteArray} {k0 : Int} {h : Heap} {Q : Value → Heap → Prop} (hk : gabionref04_Media.L3.wp d at0 s k0 h Q) : gabionref04_Media.L3 d at0 s k0 h Q :=
 xs_ok (H := gabionref04_Media.H) (lcuts := gabionref04_Media.lc) (rcuts := gabionref04_Media.rc) (fn := Tryz.f57) mixed Tryz.func57 2000 _ _ _ (@cast (gabionref04_Media.L3.wp d at0 s k0 h Q) _ (by kernel_rfl) hk)

/-! gabion/gabionref05.retire -/
def gabionref05_retire.H : Hn := ⟨[], [], [], []⟩
def gabionref05_retire.lc : List Cut := [⟨2, [0, 2, 3, 5, 9], [5]⟩]
def gabionref05_retire.rc : List Cut := [⟨16, [0, 2, 3, 5, 9, 12, 14, 15], [5]⟩]
def gabionref05_retire.L2 (d : Option Addr) (i : Int) (s : ByteArray) (t : Int) (p_5_0 : Int) (p_5_1 : Int) (p_5_2 : Int) (h : Heap) (Q : Value → Heap → Prop) : Prop :=
 TW Tryz.prog 113 79 [.code (cAt (bodyOf Tryz.f113) [1, 1, 0, 0]), .inLoop (cAt (bodyOf Tryz.f113) [1, 1, 0, 0]), .inBlock 0] ⟨[(0, .v (.pointer d)), (2, .v (.int .i64 i)), (3, .v (.string s)), (5, .p 5 0), (9, .v (.int .i64 t))], [(5, [.int .i64 p_5_0, .int .i64 p_5_1, .int .i64 p_5_2])]⟩ h Q
def gabionref05_retire.J16 (d : Option Addr) (i : Int) (s : ByteArray) (t : Int) (k0 : Int) (got : ByteArray) (n : Int) (p_5_0 : Int) (p_5_1 : Int) (p_5_2 : Int) (h : Heap) (Q : Value → Heap → Prop) : Prop :=
 TW Tryz.prog 113 79 [.code (cAt (bodyOf Tryz.f113) [1, 1, 0, 0, 0, 1, 1, 1, 1, 1, 1, 1, 1, 1, 1, 0]), .code (cAt (bodyOf Tryz.f113) [1, 1, 0, 0, 0, 1, 1, 1, 1, 1, 1, 1, 1, 1, 1, 1]), .inBlock 1, .inLoop (cAt (bodyOf Tryz.f113) [1, 1, 0, 0]), .inBlock 0] ⟨[(0, .v (.pointer d)), (2, .v (.int .i64 i)), (3, .v (.string s)), (5, .p 5 0), (9, .v (.int .i64 t)), (12, .v (.int .i64 k0)), (14, .v (.string got)), (15, .v (.int .u64 n))], [(5, [.int .i64 p_5_0, .int .i64 p_5_1, .int .i64 p_5_2])]⟩ h Q
def gabionref05_retire.wp (d : Option Addr) (p_0 : Int) (p_1 : Int) (p_2 : Int) (i : Int) (s : ByteArray) (h : Heap) (Q : Value → Heap → Prop) : Prop :=
 C Tryz.prog 98 #[.agg #[.int .i64 p_0, .int .i64 p_1, .int .i64 p_2]] h fun (r : Value) (h' : Heap) =>
 ∃ (x : Int), r = .int .i64 x ∧ gabionref05_retire.L2 d i s x p_0 p_1 p_2 h' Q
def gabionref05_retire.L2.wp (d : Option Addr) (i : Int) (s : ByteArray) (t : Int) (p_5_0 : Int) (p_5_1 : Int) (p_5_2 : Int) (h : Heap) (Q : Value → Heap → Prop) : Prop :=
 C Tryz.prog 110 #[.pointer d, .agg #[.int .i64 p_5_0, .int .i64 p_5_1, .int .i64 p_5_2]] h fun (r : Value) (h' : Heap) =>
 ∃ (x : Option Addr),
 ∃ (n : Nat),
 ∃ (m : Nat),
 ∃ (x_1 : Int),
 r = .tuple #[.slice x n m, .int .i64 x_1] ∧
 xsIf (decide (x_1 ≠ 0)) (Q (.int .i64 x_1) h')
 (xsIf (decide (p_5_2 ≤ (↑n : Int))) (Q (.int .i64 10) h')
 (C Tryz.prog 112 #[.pointer d, .int .i64 (IntKind.i64.wrap (IntKind.i64.wrap (IntKind.i64.wrap (p_5_0 + t) + p_5_1) + (↑n : Int))), .string s] h' fun (r : Value) (h' : Heap) =>
 ∃ (x : Int),
 r = .int .i64 x ∧
 xsIf (decide (x ≠ 0)) (Q (.int .i64 x) h')
 (C Tryz.prog 57 #[.pointer d, .int .i64 (IntKind.i64.wrap (IntKind.i64.wrap (IntKind.i64.wrap (p_5_0 + t) + p_5_1) + (↑n : Int)))] h' fun (r : Value) (h' : Heap) =>
 ∃ (x : ByteArray),
 r = .string x ∧
 xsIf (decide (x = s)) (gabionref05_retire.J16 d i s t (↑n : Int) x (IntKind.u64.wrap (IntKind.i64.wrap (i + 1))) p_5_0 p_5_1 p_5_2 h' Q)
 (gabionref05_retire.J16 d i s t (↑n : Int) x 65535 p_5_0 p_5_1 p_5_2 h' Q))))
def gabionref05_retire.J16.wp (d : Option Addr) (i : Int) (s : ByteArray) (t : Int) (k0 : Int) (got : ByteArray) (n : Int) (p_5_0 : Int) (p_5_1 : Int) (p_5_2 : Int) (h : Heap) (Q : Value → Heap → Prop) : Prop :=
 C Tryz.prog 140 #[.int .u64 n] h fun (r : Value) (h' : Heap) =>
 ∃ (x : Int),
 r = .int .u64 x ∧
 C Tryz.prog 114 #[.pointer d, .int .i64 (IntKind.i64.wrap (p_5_0 + iquo .i64 k0 8)), .int .i64 (irem k0 8), .int .u64 x] h' fun (r : Value) (h' : Heap) =>
 ∃ (x : Int), r = .int .i64 x ∧ xsIf (decide (x ≠ 0)) (Q (.int .i64 x) h') (xsIf (decide (got = s)) (Q (.int .i64 x) h') (gabionref05_retire.L2 d i s t p_5_0 p_5_1 p_5_2 h' Q))
theorem gabionref05_retire.ok {d : Option Addr} {p_0 : Int} {p_1 : Int} {p_2 : Int} {i : Int} {s : ByteArray} {h : Heap} {Q : Value → Heap → Prop} (hk : gabionref05_retire.wp d p_0 p_1 p_2 i s h Q) : C Tryz.prog 113 #[.pointer d, .agg #[.int .i64 p_0, .int .i64 p_1, .int .i64 p_2], .int .i64 i, .string s] h Q :=
 C_of_xs (H := gabionref05_retire.H) (lcuts := gabionref05_retire.lc) (rcuts := gabionref05_retire.rc) (l := [.pointer d, .agg #[.int .i64 p_0, .int .i64 p_1, .int .i64 p_2], .int .i64 i, .string s]) 2000 mixed Tryz.func113 rfl (by kernel_rfl) (@cast (gabionref05_retire.wp d p_0 p_1 p_2 i s h Q) _ (by kernel_rfl) hk)
theorem gabionref05_retire.L2.ok {d : Option Addr} {i : Int} {s : ByteArray} {t : Int} {p_5_0 : Int} {p_5_1 : Int} {p_5_2 : Int} {h : Heap} {Q : Value → Heap → Prop} (hk : gabionref05_retire.L2.wp d i s t p_5_0 p_5_1 p_5_2 h Q) : gabionref05_retire.L2 d i s t p_5_0 p_5_1 p_5_2 h Q :=
 xs_ok (H := gabionref05_retire.H) (lcuts := gabionref05_retire.lc) (rcuts := gabionref05_retire.rc) (fn := Tryz.f113) mixed Tryz.func113 2000 _ _ _ (@cast (gabionref05_retire.L2.wp d i s t p_5_0 p_5_1 p_5_2 h Q) _ (by kernel_rfl) hk)
theorem gabionref05_retire.J16.ok {d : Option Addr} {i : Int} {s : ByteArray} {t : Int} {k0 : Int} {got : ByteArray} {n : Int} {p_5_0 : Int} {p_5_1 : Int} {p_5_2 : Int} {h : Heap} {Q : Value → Heap → Prop} (hk : gabionref05_retire.J16.wp d i s t k0 got n p_5_0 p_5_1 p_5_2 h Q) : gabionref05_retire.J16 d i s t k0 got n p_5_0 p_5_1 p_5_2 h Q :=
 xs_ok (H := gabionref05_retire.H) (lcuts := gabionref05_retire.lc) (rcuts := []) (fn := Tryz.f113) mixed Tryz.func113 2000 _ _ _ (@cast (gabionref05_retire.J16.wp d i s t k0 got n p_5_0 p_5_1 p_5_2 h Q) _ (by kernel_rfl) hk)

/-! gabion/gabionref05.WriteWord -/
def gabionref05_WriteWord.H : Hn := ⟨[], [], [⟨13, .q 0 (.q 1 (.q 2 (.q 3 (.q 4 (.q 5 (.q 6 (.q 7 (.q 8 (.q 9 (.q 10 (.q 11 (.q 12 (.nil))))))))))))), []⟩], []⟩
def gabionref05_WriteWord.lc : List Cut := []
def gabionref05_WriteWord.rc : List Cut := [⟨3, [0, 2, 3, 4, 6], [6]⟩, ⟨5, [0, 2, 3, 4, 6], [6]⟩]
def gabionref05_WriteWord.J3 (d : Option Addr) (i : Int) (k0 : Int) (v : Int) (p_6_0 : Int) (p_6_1 : Int) (p_6_2 : Int) (h : Heap) (Q : Value → Heap → Prop) : Prop :=
 TW Tryz.prog 65 87 [.code (cAt (bodyOf Tryz.f65) [1, 1, 0, 0]), .code (cAt (bodyOf Tryz.f65) [1, 1, 0, 1]), .code (cAt (bodyOf Tryz.f65) [1, 1, 1])] ⟨[(0, .v (.pointer d)), (2, .v (.int .i64 i)), (3, .v (.int .i64 k0)), (4, .v (.int .u64 v)), (6, .p 6 0)], [(6, [.int .i64 p_6_0, .int .i64 p_6_1, .int .i64 p_6_2])]⟩ h Q
def gabionref05_WriteWord.J5 (d : Option Addr) (i : Int) (k0 : Int) (v : Int) (p_6_0 : Int) (p_6_1 : Int) (p_6_2 : Int) (h : Heap) (Q : Value → Heap → Prop) : Prop :=
 TW Tryz.prog 65 87 [.code (cAt (bodyOf Tryz.f65) [1, 1, 1, 0]), .code (cAt (bodyOf Tryz.f65) [1, 1, 1, 1])] ⟨[(0, .v (.pointer d)), (2, .v (.int .i64 i)), (3, .v (.int .i64 k0)), (4, .v (.int .u64 v)), (6, .p 6 0)], [(6, [.int .i64 p_6_0, .int .i64 p_6_1, .int .i64 p_6_2])]⟩ h Q
def gabionref05_WriteWord.wp (d : Option Addr) (p_0 : Int) (p_1 : Int) (p_2 : Int) (i : Int) (k0 : Int) (v : Int) (h : Heap) (Q : Value → Heap → Prop) : Prop :=
 xsIf (decide (k0 < 0)) (Q (.int .i64 2) h) (xsIf (decide (7 < k0)) (Q (.int .i64 2) h) (gabionref05_WriteWord.J3 d i k0 v p_0 p_1 p_2 h Q))
def gabionref05_WriteWord.J3.wp (d : Option Addr) (i : Int) (k0 : Int) (v : Int) (p_6_0 : Int) (p_6_1 : Int) (p_6_2 : Int) (h : Heap) (Q : Value → Heap → Prop) : Prop :=
 xsIf (decide (i < 0)) (Q (.int .i64 3) h) (xsIf (decide (p_6_1 ≤ i)) (Q (.int .i64 3) h) (gabionref05_WriteWord.J5 d i k0 v p_6_0 p_6_1 p_6_2 h Q))
def gabionref05_WriteWord.J5.wp (d : Option Addr) (i : Int) (k0 : Int) (v : Int) (p_6_0 : Int) (p_6_1 : Int) (p_6_2 : Int) (h : Heap) (Q : Value → Heap → Prop) : Prop :=
 C Tryz.prog 110 #[.pointer d, .agg #[.int .i64 p_6_0, .int .i64 p_6_1, .int .i64 p_6_2]] h fun (r : Value) (h' : Heap) =>
 ∃ (x : Option Addr),
 ∃ (n : Nat),
 ∃ (m : Nat),
 ∃ (x_1 : Int),
 r = .tuple #[.slice x n m, .int .i64 x_1] ∧
 xsIf (decide (x_1 ≠ 0)) (Q (.int .i64 x_1) h')
 (C Tryz.prog 111 #[.agg #[.int .i64 p_6_0, .int .i64 p_6_1, .int .i64 p_6_2], .slice x n m, .int .i64 i] h' fun (r : Value) (h' : Heap) =>
 ∃ (x : Int),
 r = .int .i64 x ∧
 C Tryz.prog 67 #[.pointer d, .int .i64 x] h' fun (r : Value) (h' : Heap) =>
 ∃ (x_2 : ByteArray),
 ∃ (x_3 : Int),
 r = .tuple #[.string x_2, .int .i64 x_3] ∧
 xsIf (decide (x_3 ≠ 0)) (Q (.int .i64 x_3) h')
 (C Tryz.prog 104 #[.int .u64 v, .int .i64 8] h' fun (r : Value) (h' : Heap) =>
 ∃ (x_4 : ByteArray),
 r = .string x_4 ∧
 (0 ≤ IntKind.i64.wrap (8 * k0) ∧ IntKind.i64.wrap (8 * k0) ≤ (↑x_2.size : Int)) ∧
 (↑((sext x_2 0 (IntKind.i64.wrap (8 * k0))).size + x_4.size) : Int) ≤ 9223372036854775807 ∧
 (0 ≤ IntKind.i64.wrap (IntKind.i64.wrap (8 * k0) + 8) ∧ IntKind.i64.wrap (IntKind.i64.wrap (8 * k0) + 8) ≤ (↑x_2.size : Int)) ∧
 (↑((sext x_2 0 (IntKind.i64.wrap (8 * k0)) ++ x_4).size + (sext x_2 (IntKind.i64.wrap (IntKind.i64.wrap (8 * k0) + 8)) (↑x_2.size : Int)).size) : Int) ≤ 9223372036854775807 ∧
 C Tryz.prog 114 #[.pointer d, .int .i64 x, .int .i64 k0, .int .u64 v] h' fun (r : Value) (h' : Heap) =>
 ∃ (x_5 : Int),
 r = .int .i64 x_5 ∧
 xsIf (decide (x_5 ≠ 0)) (Q (.int .i64 x_5) h')
 (C Tryz.prog 57 #[.pointer d, .int .i64 x] h' fun (r : Value) (h' : Heap) =>
 ∃ (x : ByteArray),
 r = .string x ∧
 xsIf (decide (x = sext x_2 0 (IntKind.i64.wrap (8 * k0)) ++ x_4 ++ sext x_2 (IntKind.i64.wrap (IntKind.i64.wrap (8 * k0) + 8)) (↑x_2.size : Int))) (Q (.int .i64 0) h')
 (C Tryz.prog 113
 #[.pointer d, .agg #[.int .i64 p_6_0, .int .i64 p_6_1, .int .i64 p_6_2], .int .i64 i,
 .string (sext x_2 0 (IntKind.i64.wrap (8 * k0)) ++ x_4 ++ sext x_2 (IntKind.i64.wrap (IntKind.i64.wrap (8 * k0) + 8)) (↑x_2.size : Int))]
 h' fun (r : Value) (h' : Heap) => ∃ (x : Int), r = .int .i64 x ∧ Q (.int .i64 x) h'))))
theorem gabionref05_WriteWord.ok {d : Option Addr} {p_0 : Int} {p_1 : Int} {p_2 : Int} {i : Int} {k0 : Int} {v : Int} {h : Heap} {Q : Value → Heap → Prop} (hk : gabionref05_WriteWord.wp d p_0 p_1 p_2 i k0 v h Q) : C Tryz.prog 65 #[.pointer d, .agg #[.int .i64 p_0, .int .i64 p_1, .int .i64 p_2], .int .i64 i, .int .i64 k0, .int .u64 v] h Q :=
 C_of_xs (H := gabionref05_WriteWord.H) (lcuts := gabionref05_WriteWord.lc) (rcuts := gabionref05_WriteWord.rc) (l := [.pointer d, .agg #[.int .i64 p_0, .int .i64 p_1, .int .i64 p_2], .int .i64 i, .int .i64 k0, .int .u64 v]) 2000 mixed Tryz.func65 rfl (by kernel_rfl) (@cast (gabionref05_WriteWord.wp d p_0 p_1 p_2 i k0 v h Q) _ (by kernel_rfl) hk)
theorem gabionref05_WriteWord.J3.ok {d : Option Addr} {i : Int} {k0 : Int} {v : Int} {p_6_0 : Int} {p_6_1 : Int} {p_6_2 : Int} {h : Heap} {Q : Value → Heap → Prop} (hk : gabionref05_WriteWord.J3.wp d i k0 v p_6_0 p_6_1 p_6_2 h Q) : gabionref05_WriteWord.J3 d i k0 v p_6_0 p_6_1 p_6_2 h Q :=
 xs_ok (H := gabionref05_WriteWord.H) (lcuts := gabionref05_WriteWord.lc) (rcuts := [⟨5, [0, 2, 3, 4, 6], [6]⟩]) (fn := Tryz.f65) mixed Tryz.func65 2000 _ _ _ (@cast (gabionref05_WriteWord.J3.wp d i k0 v p_6_0 p_6_1 p_6_2 h Q) _ (by kernel_rfl) hk)
theorem gabionref05_WriteWord.J5.ok {d : Option Addr} {i : Int} {k0 : Int} {v : Int} {p_6_0 : Int} {p_6_1 : Int} {p_6_2 : Int} {h : Heap} {Q : Value → Heap → Prop} (hk : gabionref05_WriteWord.J5.wp d i k0 v p_6_0 p_6_1 p_6_2 h Q) : gabionref05_WriteWord.J5 d i k0 v p_6_0 p_6_1 p_6_2 h Q :=
 xs_ok (H := gabionref05_WriteWord.H) (lcuts := gabionref05_WriteWord.lc) (rcuts := [⟨3, [0, 2, 3, 4, 6], [6]⟩]) (fn := Tryz.f65) mixed Tryz.func65 2000 _ _ _ (@cast (gabionref05_WriteWord.J5.wp d i k0 v p_6_0 p_6_1 p_6_2 h Q) _ (by kernel_rfl) hk)

/-! gabion/gabionref07.Format -/
def gabionref07_Format.H : Hn := ⟨[], [], [⟨1, .q 0 (.q 1 (.q 2 (.q 3 (.q 4 (.q 5 (.q 6 (.q 7 (.nil)))))))), []⟩], []⟩
def gabionref07_Format.lc : List Cut := []
def gabionref07_Format.rc : List Cut := []
def gabionref07_Format.wp (d : Option Addr) (p_0 : Int) (p_1 : Int) (p_2 : Int) (p_3 : Int) (h : Heap) (Q : Value → Heap → Prop) : Prop :=
 atBase d fun (b o : Nat) =>
 ∃ (x : Option Addr),
 ∃ (n : Nat),
 ∃ (m : Nat),
 h.cell b (o + 1) = some (.slice x n m) ∧
 C Tryz.prog 99 #[.agg #[.int .i64 p_0, .int .i64 p_1, .int .i64 p_2, .int .i64 p_3], .int .i64 (↑n : Int)] h fun (r : Value) (h' : Heap) =>
 ∃ (x : Int),
 r = .int .i64 x ∧
 xsIf (decide (x ≠ 0)) (Q (.int .i64 x) h')
 (C Tryz.prog 53 #[.agg #[.int .i64 p_0, .int .i64 p_1, .int .i64 p_2, .int .i64 p_3]] h' fun (r : Value) (h' : Heap) =>
 ∃ (x : Int),
 ∃ (x_1 : Int),
 ∃ (x_2 : Int),
 r = .agg #[.int .i64 x, .int .i64 x_1, .int .i64 x_2] ∧
 C Tryz.prog 100 #[.pointer d, .agg #[.int .i64 x, .int .i64 x_1, .int .i64 x_2]] h' fun (r : Value) (h' : Heap) =>
 ∃ (x_3 : Int),
 r = .int .i64 x_3 ∧
 xsIf (decide (x_3 ≠ 0)) (Q (.int .i64 x_3) h')
 (C Tryz.prog 101 #[.int .i64 0, .int .i64 p_1, .int .u64 0] h' fun (r : Value) (h' : Heap) =>
 ∃ (x_4 : Int),
 r = .int .u64 x_4 ∧
 C Tryz.prog 65
 #[.pointer d, .agg #[.int .i64 x, .int .i64 x_1, .int .i64 x_2], .int .i64 (IntKind.i64.wrap (p_1 + 1)),
 .int .i64 0, .int .u64 x_4]
 h' fun (r : Value) (h' : Heap) => ∃ (x : Int), r = .int .i64 x ∧ Q (.int .i64 x) h'))
theorem gabionref07_Format.ok {d : Option Addr} {p_0 : Int} {p_1 : Int} {p_2 : Int} {p_3 : Int} {h : Heap} {Q : Value → Heap → Prop} (hk : gabionref07_Format.wp d p_0 p_1 p_2 p_3 h Q) : C Tryz.prog 55 #[.pointer d, .agg #[.int .i64 p_0, .int .i64 p_1, .int .i64 p_2, .int .i64 p_3]] h Q :=
 C_of_xs (H := gabionref07_Format.H) (lcuts := gabionref07_Format.lc) (rcuts := gabionref07_Format.rc) (l := [.pointer d, .agg #[.int .i64 p_0, .int .i64 p_1, .int .i64 p_2, .int .i64 p_3]]) 2000 mixed Tryz.func55 rfl (by kernel_rfl) (@cast (gabionref07_Format.wp d p_0 p_1 p_2 p_3 h Q) _ (by kernel_rfl) hk)

/-! (*gabion/spare.Bank).Read -/
def spare_Bank_Read.H : Hn := ⟨[], [], [], []⟩
def spare_Bank_Read.lc : List Cut := []
def spare_Bank_Read.rc : List Cut := []
def spare_Bank_Read.wp (b : Option Addr) (i : Int) (h : Heap) (Q : Value → Heap → Prop) : Prop :=
 C Tryz.prog 81 #[.pointer b, .int .i64 i] h fun (r : Value) (h' : Heap) =>
 ∃ (x : Int),
 ∃ (x_1 : Int),
 r = .tuple #[.int .i64 x, .int .i64 x_1] ∧
 xsIf (decide (x_1 ≠ 0)) (Q (.tuple #[.string { data := #[] }, .int .i64 x_1]) h')
 (atBase b fun (b o : Nat) =>
 ∃ (x_2 : Option Addr),
 h'.cell b (o + 0) = some (.pointer x_2) ∧
 C Tryz.prog 82 #[.pointer x_2, .int .i64 x] h' fun (r : Value) (h' : Heap) =>
 ∃ (x : ByteArray), ∃ (x_3 : Int), r = .tuple #[.string x, .int .i64 x_3] ∧ Q (.tuple #[.string x, .int .i64 x_3]) h')
theorem spare_Bank_Read.ok {b : Option Addr} {i : Int} {h : Heap} {Q : Value → Heap → Prop} (hk : spare_Bank_Read.wp b i h Q) : C Tryz.prog 38 #[.pointer b, .int .i64 i] h Q :=
 C_of_xs (H := spare_Bank_Read.H) (lcuts := spare_Bank_Read.lc) (rcuts := spare_Bank_Read.rc) (l := [.pointer b, .int .i64 i]) 2000 mixed Tryz.func38 rfl (by kernel_rfl) (@cast (spare_Bank_Read.wp b i h Q) _ (by kernel_rfl) hk)

/-! gabion/gap.Unpack -/
def gap_Unpack.H : Hn := ⟨[], [], [], []⟩
def gap_Unpack.lc : List Cut := []
def gap_Unpack.rc : List Cut := []
def gap_Unpack.wp (w : Int) (h : Heap) (Q : Value → Heap → Prop) : Prop :=
 C Tryz.prog 88 #[.int .u64 w, .int .i64 0, .int .i64 16] h fun (r : Value) (h' : Heap) =>
 ∃ (x : Int),
 r = .int .u64 x ∧
 C Tryz.prog 88 #[.int .u64 w, .int .i64 16, .int .i64 16] h' fun (r : Value) (h' : Heap) =>
 ∃ (x_1 : Int),
 r = .int .u64 x_1 ∧
 C Tryz.prog 88 #[.int .u64 w, .int .i64 32, .int .i64 32] h' fun (r : Value) (h' : Heap) =>
 ∃ (x_2 : Int), r = .int .u64 x_2 ∧ Q (.agg #[.int .i64 (IntKind.i64.wrap x), .int .i64 (IntKind.i64.wrap x_1), .int .u32 (IntKind.u32.wrap x_2)]) h'
theorem gap_Unpack.ok {w : Int} {h : Heap} {Q : Value → Heap → Prop} (hk : gap_Unpack.wp w h Q) : C Tryz.prog 39 #[.int .u64 w] h Q :=
 C_of_xs (H := gap_Unpack.H) (lcuts := gap_Unpack.lc) (rcuts := gap_Unpack.rc) (l := [.int .u64 w]) 2000 mixed Tryz.func39 rfl (by kernel_rfl) (@cast (gap_Unpack.wp w h Q) _ (by kernel_rfl) hk)

/-! (gabion/gap.State).Right -/
def gap_State_Right.H : Hn := ⟨[], [], [], []⟩
def gap_State_Right.lc : List Cut := []
def gap_State_Right.rc : List Cut := []
def gap_State_Right.wp (s_0 : Int) (s_1 : Int) (s_2 : Int) (n : Int) (h : Heap) (Q : Value → Heap → Prop) : Prop :=
 C Tryz.prog 86 #[.int .i64 n] h fun (r : Value) (h' : Heap) =>
 ∃ (x : Bool),
 r = .bool x ∧
 xsIf x (xsIf (decide (0 ≤ s_0)) (xsIf (decide (s_0 < n)) (xsIf (decide (0 ≤ s_1)) (Q (.bool (decide (s_1 ≤ n))) h') (Q (.bool false) h')) (Q (.bool false) h')) (Q (.bool false) h')) (Q (.bool false) h')
theorem gap_State_Right.ok {s_0 : Int} {s_1 : Int} {s_2 : Int} {n : Int} {h : Heap} {Q : Value → Heap → Prop} (hk : gap_State_Right.wp s_0 s_1 s_2 n h Q) : C Tryz.prog 41 #[.agg #[.int .i64 s_0, .int .i64 s_1, .int .u32 s_2], .int .i64 n] h Q :=
 C_of_xs (H := gap_State_Right.H) (lcuts := gap_State_Right.lc) (rcuts := gap_State_Right.rc) (l := [.agg #[.int .i64 s_0, .int .i64 s_1, .int .u32 s_2], .int .i64 n]) 2000 mixed Tryz.func41 rfl (by kernel_rfl) (@cast (gap_State_Right.wp s_0 s_1 s_2 n h Q) _ (by kernel_rfl) hk)
end Go.Gb
