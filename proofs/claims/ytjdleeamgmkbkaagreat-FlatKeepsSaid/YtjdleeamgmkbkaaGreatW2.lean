/- Own text for the seat: W2. -/
import Derived.Test.YtjdleeamgmkbkaaGreatW1
set_option linter.unusedVariables false
set_option linter.unusedSimpArgs false
set_option linter.unnecessarySimpa false
set_option linter.deprecated false
set_option maxRecDepth 100000
namespace Go.Gb
open Go.Proofs

/-! (*gabion/spare.Bank).say -/
def spare_Bank_say.H : Hn := ⟨[], [], [⟨1, .q 0 (.q 1 (.q 2 (.q 4 (.q 5 (.q 6 (.q 7 (.q 9 (.q 10 (.q 11 (.q 15 (.q 16 (.q 17 (.q 20 (.br 3 (.br 8 (.br 12 (.q 13 (.q 14 (.br 18 (.q 19 (.q 21 (.q 22 (.q 23 (.nil))))) (.one 21 (.q 18 (.q 19 (.q 22 (.q 23 (.nil))))))))) (.br 18 (.q 19 (.br 12 (.q 13 (.q 14 (.q 21 (.q 22 (.q 23 (.nil)))))) (.one 21 (.q 12 (.q 13 (.q 14 (.q 22 (.q 23 (.nil))))))))) (.one 21 (.br 12 (.q 13 (.q 14 (.q 18 (.q 19 (.q 22 (.q 23 (.nil))))))) (.one 18 (.q 19 (.q 12 (.q 13 (.q 14 (.q 22 (.q 23 (.nil)))))))))))) (.br 12 (.q 13 (.br 8 (.q 14 (.br 18 (.q 19 (.q 21 (.q 22 (.q 23 (.nil))))) (.one 21 (.q 18 (.q 19 (.q 22 (.q 23 (.nil)))))))) (.br 18 (.q 19 (.br 8 (.q 14 (.q 21 (.q 22 (.q 23 (.nil))))) (.one 21 (.q 8 (.q 14 (.q 22 (.q 23 (.nil)))))))) (.one 21 (.br 8 (.q 14 (.q 18 (.q 19 (.q 22 (.q 23 (.nil)))))) (.one 18 (.q 19 (.q 8 (.q 14 (.q 22 (.q 23 (.nil)))))))))))) (.br 18 (.q 19 (.br 8 (.br 12 (.q 13 (.q 14 (.q 21 (.q 22 (.q 23 (.nil)))))) (.one 21 (.q 12 (.q 13 (.q 14 (.q 22 (.q 23 (.nil)))))))) (.br 12 (.q 13 (.br 8 (.q 14 (.q 21 (.q 22 (.q 23 (.nil))))) (.one 21 (.q 8 (.q 14 (.q 22 (.q 23 (.nil)))))))) (.one 21 (.ld 12 12607488 (.q 13 (.q 8 (.q 14 (.q 22 (.q 23 (.nil))))))))))) (.one 21 (.br 8 (.br 12 (.q 13 (.q 14 (.q 18 (.q 19 (.q 22 (.q 23 (.nil))))))) (.one 18 (.q 19 (.q 12 (.q 13 (.q 14 (.q 22 (.q 23 (.nil))))))))) (.br 12 (.q 13 (.br 8 (.q 14 (.q 18 (.q 19 (.q 22 (.q 23 (.nil)))))) (.one 18 (.q 19 (.q 8 (.q 14 (.q 22 (.q 23 (.nil))))))))) (.one 18 (.q 19 (.ld 12 12607488 (.q 13 (.q 8 (.q 14 (.q 22 (.q 23 (.nil))))))))))))))) (.br 8 (.br 3 (.br 12 (.q 13 (.q 14 (.br 18 (.q 19 (.q 21 (.q 22 (.q 23 (.nil))))) (.one 21 (.q 18 (.q 19 (.q 22 (.q 23 (.nil))))))))) (.br 18 (.q 19 (.br 12 (.q 13 (.q 14 (.q 21 (.q 22 (.q 23 (.nil)))))) (.one 21 (.q 12 (.q 13 (.q 14 (.q 22 (.q 23 (.nil))))))))) (.one 21 (.br 12 (.q 13 (.q 14 (.q 18 (.q 19 (.q 22 (.q 23 (.nil))))))) (.one 18 (.q 19 (.q 12 (.q 13 (.q 14 (.q 22 (.q 23 (.nil)))))))))))) (.br 12 (.q 13 (.q 14 (.br 3 (.br 18 (.q 19 (.q 21 (.q 22 (.q 23 (.nil))))) (.one 21 (.q 18 (.q 19 (.q 22 (.q 23 (.nil))))))) (.br 18 (.q 19 (.br 3 (.q 21 (.q 22 (.q 23 (.nil)))) (.one 21 (.q 3 (.q 22 (.q 23 (.nil))))))) (.one 21 (.ld 18 13107200 (.q 19 (.q 3 (.q 22 (.q 23 (.nil))))))))))) (.br 18 (.q 19 (.br 3 (.br 12 (.q 13 (.q 14 (.q 21 (.q 22 (.q 23 (.nil)))))) (.one 21 (.q 12 (.q 13 (.q 14 (.q 22 (.q 23 (.nil)))))))) (.br 12 (.q 13 (.q 14 (.br 3 (.q 21 (.q 22 (.q 23 (.nil)))) (.one 21 (.q 3 (.q 22 (.q 23 (.nil)))))))) (.one 21 (.ld 12 12607488 (.q 13 (.q 14 (.q 3 (.q 22 (.q 23 (.nil))))))))))) (.one 21 (.br 3 (.br 12 (.q 13 (.q 14 (.q 18 (.q 19 (.q 22 (.q 23 (.nil))))))) (.one 18 (.q 19 (.q 12 (.q 13 (.q 14 (.q 22 (.q 23 (.nil))))))))) (.br 12 (.q 13 (.q 14 (.ld 18 13107200 (.q 19 (.q 3 (.q 22 (.q 23 (.nil)))))))) (.one 18 (.q 19 (.ld 12 12607488 (.q 13 (.q 14 (.q 3 (.q 22 (.q 23 (.nil))))))))))))))) (.br 12 (.q 13 (.br 3 (.br 8 (.q 14 (.br 18 (.q 19 (.q 21 (.q 22 (.q 23 (.nil))))) (.one 21 (.q 18 (.q 19 (.q 22 (.q 23 (.nil)))))))) (.br 18 (.q 19 (.br 8 (.q 14 (.q 21 (.q 22 (.q 23 (.nil))))) (.one 21 (.q 8 (.q 14 (.q 22 (.q 23 (.nil)))))))) (.one 21 (.br 8 (.q 14 (.q 18 (.q 19 (.q 22 (.q 23 (.nil)))))) (.one 18 (.q 19 (.q 8 (.q 14 (.q 22 (.q 23 (.nil))))))))))) (.br 8 (.q 14 (.br 3 (.br 18 (.q 19 (.q 21 (.q 22 (.q 23 (.nil))))) (.one 21 (.q 18 (.q 19 (.q 22 (.q 23 (.nil))))))) (.br 18 (.q 19 (.br 3 (.q 21 (.q 22 (.q 23 (.nil)))) (.one 21 (.q 3 (.q 22 (.q 23 (.nil))))))) (.one 21 (.ld 18 13107200 (.q 19 (.q 3 (.q 22 (.q 23 (.nil)))))))))) (.br 18 (.q 19 (.br 3 (.br 8 (.q 14 (.q 21 (.q 22 (.q 23 (.nil))))) (.one 21 (.q 8 (.q 14 (.q 22 (.q 23 (.nil))))))) (.br 8 (.q 14 (.br 3 (.q 21 (.q 22 (.q 23 (.nil)))) (.one 21 (.q 3 (.q 22 (.q 23 (.nil))))))) (.one 21 (.ld 8 12599296 (.q 14 (.q 3 (.q 22 (.q 23 (.nil)))))))))) (.one 21 (.br 3 (.br 8 (.q 14 (.q 18 (.q 19 (.q 22 (.q 23 (.nil)))))) (.one 18 (.q 19 (.q 8 (.q 14 (.q 22 (.q 23 (.nil)))))))) (.br 8 (.q 14 (.ld 18 13107200 (.q 19 (.q 3 (.q 22 (.q 23 (.nil))))))) (.one 18 (.q 19 (.ld 8 12599296 (.q 14 (.q 3 (.q 22 (.q 23 (.nil))))))))))))))) (.br 18 (.q 19 (.br 3 (.br 8 (.br 12 (.q 13 (.q 14 (.q 21 (.q 22 (.q 23 (.nil)))))) (.one 21 (.q 12 (.q 13 (.q 14 (.q 22 (.q 23 (.nil)))))))) (.br 12 (.q 13 (.br 8 (.q 14 (.q 21 (.q 22 (.q 23 (.nil))))) (.one 21 (.q 8 (.q 14 (.q 22 (.q 23 (.nil)))))))) (.one 21 (.ld 12 12607488 (.q 13 (.q 8 (.q 14 (.q 22 (.q 23 (.nil)))))))))) (.br 8 (.br 3 (.br 12 (.q 13 (.q 14 (.q 21 (.q 22 (.q 23 (.nil)))))) (.one 21 (.q 12 (.q 13 (.q 14 (.q 22 (.q 23 (.nil)))))))) (.br 12 (.q 13 (.q 14 (.br 3 (.q 21 (.q 22 (.q 23 (.nil)))) (.one 21 (.q 3 (.q 22 (.q 23 (.nil)))))))) (.one 21 (.ld 12 12607488 (.q 13 (.q 14 (.q 3 (.q 22 (.q 23 (.nil)))))))))) (.br 12 (.q 13 (.br 3 (.br 8 (.q 14 (.q 21 (.q 22 (.q 23 (.nil))))) (.one 21 (.q 8 (.q 14 (.q 22 (.q 23 (.nil))))))) (.br 8 (.q 14 (.br 3 (.q 21 (.q 22 (.q 23 (.nil)))) (.one 21 (.q 3 (.q 22 (.q 23 (.nil))))))) (.one 21 (.ld 8 12599296 (.q 14 (.q 3 (.q 22 (.q 23 (.nil)))))))))) (.one 21 (.ld 12 12607488 (.q 13 (.ld 8 12599296 (.q 14 (.q 3 (.q 22 (.q 23 (.nil))))))))))))) (.one 21 (.br 3 (.br 8 (.br 12 (.q 13 (.q 14 (.q 18 (.q 19 (.q 22 (.q 23 (.nil))))))) (.one 18 (.q 19 (.q 12 (.q 13 (.q 14 (.q 22 (.q 23 (.nil))))))))) (.br 12 (.q 13 (.br 8 (.q 14 (.q 18 (.q 19 (.q 22 (.q 23 (.nil)))))) (.one 18 (.q 19 (.q 8 (.q 14 (.q 22 (.q 23 (.nil))))))))) (.one 18 (.q 19 (.ld 12 12607488 (.q 13 (.q 8 (.q 14 (.q 22 (.q 23 (.nil))))))))))) (.br 8 (.br 3 (.br 12 (.q 13 (.q 14 (.q 18 (.q 19 (.q 22 (.q 23 (.nil))))))) (.one 18 (.q 19 (.q 12 (.q 13 (.q 14 (.q 22 (.q 23 (.nil))))))))) (.br 12 (.q 13 (.q 14 (.ld 18 13107200 (.q 19 (.q 3 (.q 22 (.q 23 (.nil)))))))) (.one 18 (.q 19 (.ld 12 12607488 (.q 13 (.q 14 (.q 3 (.q 22 (.q 23 (.nil))))))))))) (.br 12 (.q 13 (.br 3 (.br 8 (.q 14 (.q 18 (.q 19 (.q 22 (.q 23 (.nil)))))) (.one 18 (.q 19 (.q 8 (.q 14 (.q 22 (.q 23 (.nil)))))))) (.br 8 (.q 14 (.ld 18 13107200 (.q 19 (.q 3 (.q 22 (.q 23 (.nil))))))) (.one 18 (.q 19 (.ld 8 12599296 (.q 14 (.q 3 (.q 22 (.q 23 (.nil))))))))))) (.one 18 (.q 19 (.ld 12 12607488 (.q 13 (.ld 8 12599296 (.q 14 (.q 3 (.q 22 (.q 23 (.nil))))))))))))))))))))))))))))))), []⟩, ⟨3, .q 0 (.q 1 (.q 2 (.q 3 (.q 5 (.br 4 (.q 6 (.q 7 (.q 8 (.nil)))) (.one 6 (.q 4 (.q 7 (.q 8 (.nil)))))))))), []⟩], []⟩
def spare_Bank_say.lc : List Cut := []
def spare_Bank_say.rc : List Cut := [⟨2, [0, 1, 5], []⟩]
def spare_Bank_say.J2 (b : Option Addr) (n : Int) (e : Int) (h : Heap) (Q : Value → Heap → Prop) : Prop :=
 TW Tryz.prog 243 40 [.code (cAt (bodyOf Tryz.f243) [1, 1, 0, 0]), .code (cAt (bodyOf Tryz.f243) [1, 1, 0, 1]), .code (cAt (bodyOf Tryz.f243) [1, 1, 1])] ⟨[(0, .v (.pointer b)), (1, .v (.int .u64 n)), (5, .v (.int .i64 e))], []⟩ h Q
def spare_Bank_say.wp (b : Option Addr) (n : Int) (h : Heap) (Q : Value → Heap → Prop) : Prop :=
 atBase b fun (b_1 o : Nat) =>
 atBase b fun (b_2 o_1 : Nat) =>
 atBase b fun (b_3 o_2 : Nat) =>
 atBase b fun (b_4 o_3 : Nat) =>
 (∃ (x : Option Addr),
 h.cell b_1 (o + 0) = some (.pointer x) ∧
 (∃ (x_1 : Int),
 h.cell b_2 (o_1 + 1 + 0) = some (.int .i64 x_1) ∧
 (∃ (x_2 : Int),
 h.cell b_3 (o_2 + 4) = some (.int .i64 x_2) ∧
 (∃ (x_3 : Int),
 h.cell b_4 (o_3 + 4) = some (.int .i64 x_3) ∧
 C Tryz.prog 188 #[.int .u64 n] h fun (r : Value) (h' : Heap) =>
 ∃ (x_4 : Int),
 r = .int .u64 x_4 ∧
 C Tryz.prog 206 #[.pointer x, .int .i64 (IntKind.i64.wrap (x_1 + iquo .i64 x_2 8)), .int .i64 (irem x_3 8), .int .u64 x_4] h'
 fun (r : Value) (h' : Heap) => ∃ (x : Int), r = .int .i64 x ∧ spare_Bank_say.J2 b n x h' Q) ∧
 C Tryz.prog 188 #[.int .u64 n] h fun (r : Value) (h' : Heap) =>
 ∃ (x_3 : Int),
 r = .int .u64 x_3 ∧
 ∃ (x_4 : Int),
 h'.cell b_4 (o_3 + 4) = some (.int .i64 x_4) ∧
 C Tryz.prog 206 #[.pointer x, .int .i64 (IntKind.i64.wrap (x_1 + iquo .i64 x_2 8)), .int .i64 (irem x_4 8), .int .u64 x_3] h'
 fun (r : Value) (h' : Heap) => ∃ (x : Int), r = .int .i64 x ∧ spare_Bank_say.J2 b n x h' Q) ∧
 (∃ (x_2 : Int),
 h.cell b_4 (o_3 + 4) = some (.int .i64 x_2) ∧
 (∃ (x_3 : Int),
 h.cell b_3 (o_2 + 4) = some (.int .i64 x_3) ∧
 C Tryz.prog 188 #[.int .u64 n] h fun (r : Value) (h' : Heap) =>
 ∃ (x_4 : Int),
 r = .int .u64 x_4 ∧
 C Tryz.prog 206 #[.pointer x, .int .i64 (IntKind.i64.wrap (x_1 + iquo .i64 x_3 8)), .int .i64 (irem x_2 8), .int .u64 x_4] h'
 fun (r : Value) (h' : Heap) => ∃ (x : Int), r = .int .i64 x ∧ spare_Bank_say.J2 b n x h' Q) ∧
 C Tryz.prog 188 #[.int .u64 n] h fun (r : Value) (h' : Heap) =>
 ∃ (x_3 : Int),
 r = .int .u64 x_3 ∧
 ∃ (x_4 : Int),
 h'.cell b_3 (o_2 + 4) = some (.int .i64 x_4) ∧
 C Tryz.prog 206 #[.pointer x, .int .i64 (IntKind.i64.wrap (x_1 + iquo .i64 x_4 8)), .int .i64 (irem x_2 8), .int .u64 x_3] h'
 fun (r : Value) (h' : Heap) => ∃ (x : Int), r = .int .i64 x ∧ spare_Bank_say.J2 b n x h' Q) ∧
 C Tryz.prog 188 #[.int .u64 n] h fun (r : Value) (h' : Heap) =>
 ∃ (x_2 : Int),
 r = .int .u64 x_2 ∧
 (∃ (x_3 : Int),
 h'.cell b_3 (o_2 + 4) = some (.int .i64 x_3) ∧
 ∃ (x_4 : Int),
 h'.cell b_4 (o_3 + 4) = some (.int .i64 x_4) ∧
 C Tryz.prog 206 #[.pointer x, .int .i64 (IntKind.i64.wrap (x_1 + iquo .i64 x_3 8)), .int .i64 (irem x_4 8), .int .u64 x_2] h'
 fun (r : Value) (h' : Heap) => ∃ (x : Int), r = .int .i64 x ∧ spare_Bank_say.J2 b n x h' Q) ∧
 ∃ (x_3 : Int),
 h'.cell b_4 (o_3 + 4) = some (.int .i64 x_3) ∧
 ∃ (x_4 : Int),
 h'.cell b_3 (o_2 + 4) = some (.int .i64 x_4) ∧
 C Tryz.prog 206 #[.pointer x, .int .i64 (IntKind.i64.wrap (x_1 + iquo .i64 x_4 8)), .int .i64 (irem x_3 8), .int .u64 x_2] h'
 fun (r : Value) (h' : Heap) => ∃ (x : Int), r = .int .i64 x ∧ spare_Bank_say.J2 b n x h' Q) ∧
 (∃ (x_1 : Int),
 h.cell b_3 (o_2 + 4) = some (.int .i64 x_1) ∧
 (∃ (x_2 : Int),
 h.cell b_2 (o_1 + 1 + 0) = some (.int .i64 x_2) ∧
 (∃ (x_3 : Int),
 h.cell b_4 (o_3 + 4) = some (.int .i64 x_3) ∧
 C Tryz.prog 188 #[.int .u64 n] h fun (r : Value) (h' : Heap) =>
 ∃ (x_4 : Int),
 r = .int .u64 x_4 ∧
 C Tryz.prog 206 #[.pointer x, .int .i64 (IntKind.i64.wrap (x_2 + iquo .i64 x_1 8)), .int .i64 (irem x_3 8), .int .u64 x_4] h'
 fun (r : Value) (h' : Heap) => ∃ (x : Int), r = .int .i64 x ∧ spare_Bank_say.J2 b n x h' Q) ∧
 C Tryz.prog 188 #[.int .u64 n] h fun (r : Value) (h' : Heap) =>
 ∃ (x_3 : Int),
 r = .int .u64 x_3 ∧
 ∃ (x_4 : Int),
 h'.cell b_4 (o_3 + 4) = some (.int .i64 x_4) ∧
 C Tryz.prog 206 #[.pointer x, .int .i64 (IntKind.i64.wrap (x_2 + iquo .i64 x_1 8)), .int .i64 (irem x_4 8), .int .u64 x_3] h'
 fun (r : Value) (h' : Heap) => ∃ (x : Int), r = .int .i64 x ∧ spare_Bank_say.J2 b n x h' Q) ∧
 (∃ (x_2 : Int),
 h.cell b_4 (o_3 + 4) = some (.int .i64 x_2) ∧
 (∃ (x_3 : Int),
 h.cell b_2 (o_1 + 1 + 0) = some (.int .i64 x_3) ∧
 C Tryz.prog 188 #[.int .u64 n] h fun (r : Value) (h' : Heap) =>
 ∃ (x_4 : Int),
 r = .int .u64 x_4 ∧
 C Tryz.prog 206 #[.pointer x, .int .i64 (IntKind.i64.wrap (x_3 + iquo .i64 x_1 8)), .int .i64 (irem x_2 8), .int .u64 x_4] h'
 fun (r : Value) (h' : Heap) => ∃ (x : Int), r = .int .i64 x ∧ spare_Bank_say.J2 b n x h' Q) ∧
 C Tryz.prog 188 #[.int .u64 n] h fun (r : Value) (h' : Heap) =>
 ∃ (x_3 : Int),
 r = .int .u64 x_3 ∧
 ∃ (x_4 : Int),
 h'.cell b_2 (o_1 + 1 + 0) = some (.int .i64 x_4) ∧
 C Tryz.prog 206 #[.pointer x, .int .i64 (IntKind.i64.wrap (x_4 + iquo .i64 x_1 8)), .int .i64 (irem x_2 8), .int .u64 x_3] h'
 fun (r : Value) (h' : Heap) => ∃ (x : Int), r = .int .i64 x ∧ spare_Bank_say.J2 b n x h' Q) ∧
 C Tryz.prog 188 #[.int .u64 n] h fun (r : Value) (h' : Heap) =>
 ∃ (x_2 : Int),
 r = .int .u64 x_2 ∧
 (∃ (x_3 : Int),
 h'.cell b_2 (o_1 + 1 + 0) = some (.int .i64 x_3) ∧
 ∃ (x_4 : Int),
 h'.cell b_4 (o_3 + 4) = some (.int .i64 x_4) ∧
 C Tryz.prog 206 #[.pointer x, .int .i64 (IntKind.i64.wrap (x_3 + iquo .i64 x_1 8)), .int .i64 (irem x_4 8), .int .u64 x_2] h'
 fun (r : Value) (h' : Heap) => ∃ (x : Int), r = .int .i64 x ∧ spare_Bank_say.J2 b n x h' Q) ∧
 ∃ (x_3 : Int),
 h'.cell b_4 (o_3 + 4) = some (.int .i64 x_3) ∧
 ∃ (x_4 : Int),
 h'.cell b_2 (o_1 + 1 + 0) = some (.int .i64 x_4) ∧
 C Tryz.prog 206 #[.pointer x, .int .i64 (IntKind.i64.wrap (x_4 + iquo .i64 x_1 8)), .int .i64 (irem x_3 8), .int .u64 x_2] h'
 fun (r : Value) (h' : Heap) => ∃ (x : Int), r = .int .i64 x ∧ spare_Bank_say.J2 b n x h' Q) ∧
 (∃ (x_1 : Int),
 h.cell b_4 (o_3 + 4) = some (.int .i64 x_1) ∧
 (∃ (x_2 : Int),
 h.cell b_2 (o_1 + 1 + 0) = some (.int .i64 x_2) ∧
 (∃ (x_3 : Int),
 h.cell b_3 (o_2 + 4) = some (.int .i64 x_3) ∧
 C Tryz.prog 188 #[.int .u64 n] h fun (r : Value) (h' : Heap) =>
 ∃ (x_4 : Int),
 r = .int .u64 x_4 ∧
 C Tryz.prog 206 #[.pointer x, .int .i64 (IntKind.i64.wrap (x_2 + iquo .i64 x_3 8)), .int .i64 (irem x_1 8), .int .u64 x_4] h'
 fun (r : Value) (h' : Heap) => ∃ (x : Int), r = .int .i64 x ∧ spare_Bank_say.J2 b n x h' Q) ∧
 C Tryz.prog 188 #[.int .u64 n] h fun (r : Value) (h' : Heap) =>
 ∃ (x_3 : Int),
 r = .int .u64 x_3 ∧
 ∃ (x_4 : Int),
 h'.cell b_3 (o_2 + 4) = some (.int .i64 x_4) ∧
 C Tryz.prog 206 #[.pointer x, .int .i64 (IntKind.i64.wrap (x_2 + iquo .i64 x_4 8)), .int .i64 (irem x_1 8), .int .u64 x_3] h'
 fun (r : Value) (h' : Heap) => ∃ (x : Int), r = .int .i64 x ∧ spare_Bank_say.J2 b n x h' Q) ∧
 (∃ (x_2 : Int),
 h.cell b_3 (o_2 + 4) = some (.int .i64 x_2) ∧
 (∃ (x_3 : Int),
 h.cell b_2 (o_1 + 1 + 0) = some (.int .i64 x_3) ∧
 C Tryz.prog 188 #[.int .u64 n] h fun (r : Value) (h' : Heap) =>
 ∃ (x_4 : Int),
 r = .int .u64 x_4 ∧
 C Tryz.prog 206 #[.pointer x, .int .i64 (IntKind.i64.wrap (x_3 + iquo .i64 x_2 8)), .int .i64 (irem x_1 8), .int .u64 x_4] h'
 fun (r : Value) (h' : Heap) => ∃ (x : Int), r = .int .i64 x ∧ spare_Bank_say.J2 b n x h' Q) ∧
 C Tryz.prog 188 #[.int .u64 n] h fun (r : Value) (h' : Heap) =>
 ∃ (x_3 : Int),
 r = .int .u64 x_3 ∧
 ∃ (x_4 : Int),
 h'.cell b_2 (o_1 + 1 + 0) = some (.int .i64 x_4) ∧
 C Tryz.prog 206 #[.pointer x, .int .i64 (IntKind.i64.wrap (x_4 + iquo .i64 x_2 8)), .int .i64 (irem x_1 8), .int .u64 x_3] h'
 fun (r : Value) (h' : Heap) => ∃ (x : Int), r = .int .i64 x ∧ spare_Bank_say.J2 b n x h' Q) ∧
 C Tryz.prog 188 #[.int .u64 n] h fun (r : Value) (h' : Heap) =>
 ∃ (x_2 : Int),
 r = .int .u64 x_2 ∧
 ∃ (x_3 : Int),
 h'.cell b_3 (o_2 + 4) = some (.int .i64 x_3) ∧
 ∃ (x_4 : Int),
 h'.cell b_2 (o_1 + 1 + 0) = some (.int .i64 x_4) ∧
 C Tryz.prog 206 #[.pointer x, .int .i64 (IntKind.i64.wrap (x_4 + iquo .i64 x_3 8)), .int .i64 (irem x_1 8), .int .u64 x_2] h'
 fun (r : Value) (h' : Heap) => ∃ (x : Int), r = .int .i64 x ∧ spare_Bank_say.J2 b n x h' Q) ∧
 C Tryz.prog 188 #[.int .u64 n] h fun (r : Value) (h' : Heap) =>
 ∃ (x_1 : Int),
 r = .int .u64 x_1 ∧
 (∃ (x_2 : Int),
 h'.cell b_2 (o_1 + 1 + 0) = some (.int .i64 x_2) ∧
 (∃ (x_3 : Int),
 h'.cell b_3 (o_2 + 4) = some (.int .i64 x_3) ∧
 ∃ (x_4 : Int),
 h'.cell b_4 (o_3 + 4) = some (.int .i64 x_4) ∧
 C Tryz.prog 206 #[.pointer x, .int .i64 (IntKind.i64.wrap (x_2 + iquo .i64 x_3 8)), .int .i64 (irem x_4 8), .int .u64 x_1] h'
 fun (r : Value) (h' : Heap) => ∃ (x : Int), r = .int .i64 x ∧ spare_Bank_say.J2 b n x h' Q) ∧
 ∃ (x_3 : Int),
 h'.cell b_4 (o_3 + 4) = some (.int .i64 x_3) ∧
 ∃ (x_4 : Int),
 h'.cell b_3 (o_2 + 4) = some (.int .i64 x_4) ∧
 C Tryz.prog 206 #[.pointer x, .int .i64 (IntKind.i64.wrap (x_2 + iquo .i64 x_4 8)), .int .i64 (irem x_3 8), .int .u64 x_1] h'
 fun (r : Value) (h' : Heap) => ∃ (x : Int), r = .int .i64 x ∧ spare_Bank_say.J2 b n x h' Q) ∧
 (∃ (x_2 : Int),
 h'.cell b_3 (o_2 + 4) = some (.int .i64 x_2) ∧
 (∃ (x_3 : Int),
 h'.cell b_2 (o_1 + 1 + 0) = some (.int .i64 x_3) ∧
 ∃ (x_4 : Int),
 h'.cell b_4 (o_3 + 4) = some (.int .i64 x_4) ∧
 C Tryz.prog 206 #[.pointer x, .int .i64 (IntKind.i64.wrap (x_3 + iquo .i64 x_2 8)), .int .i64 (irem x_4 8), .int .u64 x_1] h'
 fun (r : Value) (h' : Heap) => ∃ (x : Int), r = .int .i64 x ∧ spare_Bank_say.J2 b n x h' Q) ∧
 ∃ (x_3 : Int),
 h'.cell b_4 (o_3 + 4) = some (.int .i64 x_3) ∧
 ∃ (x_4 : Int),
 h'.cell b_2 (o_1 + 1 + 0) = some (.int .i64 x_4) ∧
 C Tryz.prog 206 #[.pointer x, .int .i64 (IntKind.i64.wrap (x_4 + iquo .i64 x_2 8)), .int .i64 (irem x_3 8), .int .u64 x_1] h'
 fun (r : Value) (h' : Heap) => ∃ (x : Int), r = .int .i64 x ∧ spare_Bank_say.J2 b n x h' Q) ∧
 ∃ (x_2 : Int),
 h'.cell b_4 (o_3 + 4) = some (.int .i64 x_2) ∧
 ∃ (x_3 : Int),
 h'.cell b_3 (o_2 + 4) = some (.int .i64 x_3) ∧
 ∃ (x_4 : Int),
 h'.cell b_2 (o_1 + 1 + 0) = some (.int .i64 x_4) ∧
 C Tryz.prog 206 #[.pointer x, .int .i64 (IntKind.i64.wrap (x_4 + iquo .i64 x_3 8)), .int .i64 (irem x_2 8), .int .u64 x_1] h'
 fun (r : Value) (h' : Heap) => ∃ (x : Int), r = .int .i64 x ∧ spare_Bank_say.J2 b n x h' Q) ∧
 (∃ (x : Int),
 h.cell b_2 (o_1 + 1 + 0) = some (.int .i64 x) ∧
 (∃ (x_1 : Option Addr),
 h.cell b_1 (o + 0) = some (.pointer x_1) ∧
 (∃ (x_2 : Int),
 h.cell b_3 (o_2 + 4) = some (.int .i64 x_2) ∧
 (∃ (x_3 : Int),
 h.cell b_4 (o_3 + 4) = some (.int .i64 x_3) ∧
 C Tryz.prog 188 #[.int .u64 n] h fun (r : Value) (h' : Heap) =>
 ∃ (x_4 : Int),
 r = .int .u64 x_4 ∧
 C Tryz.prog 206 #[.pointer x_1, .int .i64 (IntKind.i64.wrap (x + iquo .i64 x_2 8)), .int .i64 (irem x_3 8), .int .u64 x_4] h'
 fun (r : Value) (h' : Heap) => ∃ (x : Int), r = .int .i64 x ∧ spare_Bank_say.J2 b n x h' Q) ∧
 C Tryz.prog 188 #[.int .u64 n] h fun (r : Value) (h' : Heap) =>
 ∃ (x_3 : Int),
 r = .int .u64 x_3 ∧
 ∃ (x_4 : Int),
 h'.cell b_4 (o_3 + 4) = some (.int .i64 x_4) ∧
 C Tryz.prog 206 #[.pointer x_1, .int .i64 (IntKind.i64.wrap (x + iquo .i64 x_2 8)), .int .i64 (irem x_4 8), .int .u64 x_3] h'
 fun (r : Value) (h' : Heap) => ∃ (x : Int), r = .int .i64 x ∧ spare_Bank_say.J2 b n x h' Q) ∧
 (∃ (x_2 : Int),
 h.cell b_4 (o_3 + 4) = some (.int .i64 x_2) ∧
 (∃ (x_3 : Int),
 h.cell b_3 (o_2 + 4) = some (.int .i64 x_3) ∧
 C Tryz.prog 188 #[.int .u64 n] h fun (r : Value) (h' : Heap) =>
 ∃ (x_4 : Int),
 r = .int .u64 x_4 ∧
 C Tryz.prog 206 #[.pointer x_1, .int .i64 (IntKind.i64.wrap (x + iquo .i64 x_3 8)), .int .i64 (irem x_2 8), .int .u64 x_4] h'
 fun (r : Value) (h' : Heap) => ∃ (x : Int), r = .int .i64 x ∧ spare_Bank_say.J2 b n x h' Q) ∧
 C Tryz.prog 188 #[.int .u64 n] h fun (r : Value) (h' : Heap) =>
 ∃ (x_3 : Int),
 r = .int .u64 x_3 ∧
 ∃ (x_4 : Int),
 h'.cell b_3 (o_2 + 4) = some (.int .i64 x_4) ∧
 C Tryz.prog 206 #[.pointer x_1, .int .i64 (IntKind.i64.wrap (x + iquo .i64 x_4 8)), .int .i64 (irem x_2 8), .int .u64 x_3] h'
 fun (r : Value) (h' : Heap) => ∃ (x : Int), r = .int .i64 x ∧ spare_Bank_say.J2 b n x h' Q) ∧
 C Tryz.prog 188 #[.int .u64 n] h fun (r : Value) (h' : Heap) =>
 ∃ (x_2 : Int),
 r = .int .u64 x_2 ∧
 (∃ (x_3 : Int),
 h'.cell b_3 (o_2 + 4) = some (.int .i64 x_3) ∧
 ∃ (x_4 : Int),
 h'.cell b_4 (o_3 + 4) = some (.int .i64 x_4) ∧
 C Tryz.prog 206 #[.pointer x_1, .int .i64 (IntKind.i64.wrap (x + iquo .i64 x_3 8)), .int .i64 (irem x_4 8), .int .u64 x_2] h'
 fun (r : Value) (h' : Heap) => ∃ (x : Int), r = .int .i64 x ∧ spare_Bank_say.J2 b n x h' Q) ∧
 ∃ (x_3 : Int),
 h'.cell b_4 (o_3 + 4) = some (.int .i64 x_3) ∧
 ∃ (x_4 : Int),
 h'.cell b_3 (o_2 + 4) = some (.int .i64 x_4) ∧
 C Tryz.prog 206 #[.pointer x_1, .int .i64 (IntKind.i64.wrap (x + iquo .i64 x_4 8)), .int .i64 (irem x_3 8), .int .u64 x_2] h'
 fun (r : Value) (h' : Heap) => ∃ (x : Int), r = .int .i64 x ∧ spare_Bank_say.J2 b n x h' Q) ∧
 (∃ (x_1 : Int),
 h.cell b_3 (o_2 + 4) = some (.int .i64 x_1) ∧
 (∃ (x_2 : Option Addr),
 h.cell b_1 (o + 0) = some (.pointer x_2) ∧
 (∃ (x_3 : Int),
 h.cell b_4 (o_3 + 4) = some (.int .i64 x_3) ∧
 C Tryz.prog 188 #[.int .u64 n] h fun (r : Value) (h' : Heap) =>
 ∃ (x_4 : Int),
 r = .int .u64 x_4 ∧
 C Tryz.prog 206 #[.pointer x_2, .int .i64 (IntKind.i64.wrap (x + iquo .i64 x_1 8)), .int .i64 (irem x_3 8), .int .u64 x_4] h'
 fun (r : Value) (h' : Heap) => ∃ (x : Int), r = .int .i64 x ∧ spare_Bank_say.J2 b n x h' Q) ∧
 C Tryz.prog 188 #[.int .u64 n] h fun (r : Value) (h' : Heap) =>
 ∃ (x_3 : Int),
 r = .int .u64 x_3 ∧
 ∃ (x_4 : Int),
 h'.cell b_4 (o_3 + 4) = some (.int .i64 x_4) ∧
 C Tryz.prog 206 #[.pointer x_2, .int .i64 (IntKind.i64.wrap (x + iquo .i64 x_1 8)), .int .i64 (irem x_4 8), .int .u64 x_3] h'
 fun (r : Value) (h' : Heap) => ∃ (x : Int), r = .int .i64 x ∧ spare_Bank_say.J2 b n x h' Q) ∧
 (∃ (x_2 : Int),
 h.cell b_4 (o_3 + 4) = some (.int .i64 x_2) ∧
 (∃ (x_3 : Option Addr),
 h.cell b_1 (o + 0) = some (.pointer x_3) ∧
 C Tryz.prog 188 #[.int .u64 n] h fun (r : Value) (h' : Heap) =>
 ∃ (x_4 : Int),
 r = .int .u64 x_4 ∧
 C Tryz.prog 206 #[.pointer x_3, .int .i64 (IntKind.i64.wrap (x + iquo .i64 x_1 8)), .int .i64 (irem x_2 8), .int .u64 x_4] h'
 fun (r : Value) (h' : Heap) => ∃ (x : Int), r = .int .i64 x ∧ spare_Bank_say.J2 b n x h' Q) ∧
 C Tryz.prog 188 #[.int .u64 n] h fun (r : Value) (h' : Heap) =>
 ∃ (x_3 : Int),
 r = .int .u64 x_3 ∧
 ∃ (x_4 : Option Addr),
 h'.cell b_1 (o + 0) = some (.pointer x_4) ∧
 C Tryz.prog 206 #[.pointer x_4, .int .i64 (IntKind.i64.wrap (x + iquo .i64 x_1 8)), .int .i64 (irem x_2 8), .int .u64 x_3] h'
 fun (r : Value) (h' : Heap) => ∃ (x : Int), r = .int .i64 x ∧ spare_Bank_say.J2 b n x h' Q) ∧
 C Tryz.prog 188 #[.int .u64 n] h fun (r : Value) (h' : Heap) =>
 ∃ (x_2 : Int),
 r = .int .u64 x_2 ∧
 ∃ (x_3 : Int),
 h'.cell b_4 (o_3 + 4) = some (.int .i64 x_3) ∧
 ∃ (x_4 : Option Addr),
 h'.cell b_1 (o + 0) = some (.pointer x_4) ∧
 C Tryz.prog 206 #[.pointer x_4, .int .i64 (IntKind.i64.wrap (x + iquo .i64 x_1 8)), .int .i64 (irem x_3 8), .int .u64 x_2] h'
 fun (r : Value) (h' : Heap) => ∃ (x : Int), r = .int .i64 x ∧ spare_Bank_say.J2 b n x h' Q) ∧
 (∃ (x_1 : Int),
 h.cell b_4 (o_3 + 4) = some (.int .i64 x_1) ∧
 (∃ (x_2 : Option Addr),
 h.cell b_1 (o + 0) = some (.pointer x_2) ∧
 (∃ (x_3 : Int),
 h.cell b_3 (o_2 + 4) = some (.int .i64 x_3) ∧
 C Tryz.prog 188 #[.int .u64 n] h fun (r : Value) (h' : Heap) =>
 ∃ (x_4 : Int),
 r = .int .u64 x_4 ∧
 C Tryz.prog 206 #[.pointer x_2, .int .i64 (IntKind.i64.wrap (x + iquo .i64 x_3 8)), .int .i64 (irem x_1 8), .int .u64 x_4] h'
 fun (r : Value) (h' : Heap) => ∃ (x : Int), r = .int .i64 x ∧ spare_Bank_say.J2 b n x h' Q) ∧
 C Tryz.prog 188 #[.int .u64 n] h fun (r : Value) (h' : Heap) =>
 ∃ (x_3 : Int),
 r = .int .u64 x_3 ∧
 ∃ (x_4 : Int),
 h'.cell b_3 (o_2 + 4) = some (.int .i64 x_4) ∧
 C Tryz.prog 206 #[.pointer x_2, .int .i64 (IntKind.i64.wrap (x + iquo .i64 x_4 8)), .int .i64 (irem x_1 8), .int .u64 x_3] h'
 fun (r : Value) (h' : Heap) => ∃ (x : Int), r = .int .i64 x ∧ spare_Bank_say.J2 b n x h' Q) ∧
 (∃ (x_2 : Int),
 h.cell b_3 (o_2 + 4) = some (.int .i64 x_2) ∧
 (∃ (x_3 : Option Addr),
 h.cell b_1 (o + 0) = some (.pointer x_3) ∧
 C Tryz.prog 188 #[.int .u64 n] h fun (r : Value) (h' : Heap) =>
 ∃ (x_4 : Int),
 r = .int .u64 x_4 ∧
 C Tryz.prog 206 #[.pointer x_3, .int .i64 (IntKind.i64.wrap (x + iquo .i64 x_2 8)), .int .i64 (irem x_1 8), .int .u64 x_4] h'
 fun (r : Value) (h' : Heap) => ∃ (x : Int), r = .int .i64 x ∧ spare_Bank_say.J2 b n x h' Q) ∧
 C Tryz.prog 188 #[.int .u64 n] h fun (r : Value) (h' : Heap) =>
 ∃ (x_3 : Int),
 r = .int .u64 x_3 ∧
 ∃ (x_4 : Option Addr),
 h'.cell b_1 (o + 0) = some (.pointer x_4) ∧
 C Tryz.prog 206 #[.pointer x_4, .int .i64 (IntKind.i64.wrap (x + iquo .i64 x_2 8)), .int .i64 (irem x_1 8), .int .u64 x_3] h'
 fun (r : Value) (h' : Heap) => ∃ (x : Int), r = .int .i64 x ∧ spare_Bank_say.J2 b n x h' Q) ∧
 C Tryz.prog 188 #[.int .u64 n] h fun (r : Value) (h' : Heap) =>
 ∃ (x_2 : Int),
 r = .int .u64 x_2 ∧
 ∃ (x_3 : Int),
 h'.cell b_3 (o_2 + 4) = some (.int .i64 x_3) ∧
 ∃ (x_4 : Option Addr),
 h'.cell b_1 (o + 0) = some (.pointer x_4) ∧
 C Tryz.prog 206 #[.pointer x_4, .int .i64 (IntKind.i64.wrap (x + iquo .i64 x_3 8)), .int .i64 (irem x_1 8), .int .u64 x_2] h'
 fun (r : Value) (h' : Heap) => ∃ (x : Int), r = .int .i64 x ∧ spare_Bank_say.J2 b n x h' Q) ∧
 C Tryz.prog 188 #[.int .u64 n] h fun (r : Value) (h' : Heap) =>
 ∃ (x_1 : Int),
 r = .int .u64 x_1 ∧
 (∃ (x_2 : Option Addr),
 h'.cell b_1 (o + 0) = some (.pointer x_2) ∧
 (∃ (x_3 : Int),
 h'.cell b_3 (o_2 + 4) = some (.int .i64 x_3) ∧
 ∃ (x_4 : Int),
 h'.cell b_4 (o_3 + 4) = some (.int .i64 x_4) ∧
 C Tryz.prog 206 #[.pointer x_2, .int .i64 (IntKind.i64.wrap (x + iquo .i64 x_3 8)), .int .i64 (irem x_4 8), .int .u64 x_1] h'
 fun (r : Value) (h' : Heap) => ∃ (x : Int), r = .int .i64 x ∧ spare_Bank_say.J2 b n x h' Q) ∧
 ∃ (x_3 : Int),
 h'.cell b_4 (o_3 + 4) = some (.int .i64 x_3) ∧
 ∃ (x_4 : Int),
 h'.cell b_3 (o_2 + 4) = some (.int .i64 x_4) ∧
 C Tryz.prog 206 #[.pointer x_2, .int .i64 (IntKind.i64.wrap (x + iquo .i64 x_4 8)), .int .i64 (irem x_3 8), .int .u64 x_1] h'
 fun (r : Value) (h' : Heap) => ∃ (x : Int), r = .int .i64 x ∧ spare_Bank_say.J2 b n x h' Q) ∧
 (∃ (x_2 : Int),
 h'.cell b_3 (o_2 + 4) = some (.int .i64 x_2) ∧
 ∃ (x_3 : Int),
 h'.cell b_4 (o_3 + 4) = some (.int .i64 x_3) ∧
 ∃ (x_4 : Option Addr),
 h'.cell b_1 (o + 0) = some (.pointer x_4) ∧
 C Tryz.prog 206 #[.pointer x_4, .int .i64 (IntKind.i64.wrap (x + iquo .i64 x_2 8)), .int .i64 (irem x_3 8), .int .u64 x_1] h'
 fun (r : Value) (h' : Heap) => ∃ (x : Int), r = .int .i64 x ∧ spare_Bank_say.J2 b n x h' Q) ∧
 ∃ (x_2 : Int),
 h'.cell b_4 (o_3 + 4) = some (.int .i64 x_2) ∧
 ∃ (x_3 : Int),
 h'.cell b_3 (o_2 + 4) = some (.int .i64 x_3) ∧
 ∃ (x_4 : Option Addr),
 h'.cell b_1 (o + 0) = some (.pointer x_4) ∧
 C Tryz.prog 206 #[.pointer x_4, .int .i64 (IntKind.i64.wrap (x + iquo .i64 x_3 8)), .int .i64 (irem x_2 8), .int .u64 x_1] h'
 fun (r : Value) (h' : Heap) => ∃ (x : Int), r = .int .i64 x ∧ spare_Bank_say.J2 b n x h' Q) ∧
 (∃ (x : Int),
 h.cell b_3 (o_2 + 4) = some (.int .i64 x) ∧
 (∃ (x_1 : Option Addr),
 h.cell b_1 (o + 0) = some (.pointer x_1) ∧
 (∃ (x_2 : Int),
 h.cell b_2 (o_1 + 1 + 0) = some (.int .i64 x_2) ∧
 (∃ (x_3 : Int),
 h.cell b_4 (o_3 + 4) = some (.int .i64 x_3) ∧
 C Tryz.prog 188 #[.int .u64 n] h fun (r : Value) (h' : Heap) =>
 ∃ (x_4 : Int),
 r = .int .u64 x_4 ∧
 C Tryz.prog 206 #[.pointer x_1, .int .i64 (IntKind.i64.wrap (x_2 + iquo .i64 x 8)), .int .i64 (irem x_3 8), .int .u64 x_4] h'
 fun (r : Value) (h' : Heap) => ∃ (x : Int), r = .int .i64 x ∧ spare_Bank_say.J2 b n x h' Q) ∧
 C Tryz.prog 188 #[.int .u64 n] h fun (r : Value) (h' : Heap) =>
 ∃ (x_3 : Int),
 r = .int .u64 x_3 ∧
 ∃ (x_4 : Int),
 h'.cell b_4 (o_3 + 4) = some (.int .i64 x_4) ∧
 C Tryz.prog 206 #[.pointer x_1, .int .i64 (IntKind.i64.wrap (x_2 + iquo .i64 x 8)), .int .i64 (irem x_4 8), .int .u64 x_3] h'
 fun (r : Value) (h' : Heap) => ∃ (x : Int), r = .int .i64 x ∧ spare_Bank_say.J2 b n x h' Q) ∧
 (∃ (x_2 : Int),
 h.cell b_4 (o_3 + 4) = some (.int .i64 x_2) ∧
 (∃ (x_3 : Int),
 h.cell b_2 (o_1 + 1 + 0) = some (.int .i64 x_3) ∧
 C Tryz.prog 188 #[.int .u64 n] h fun (r : Value) (h' : Heap) =>
 ∃ (x_4 : Int),
 r = .int .u64 x_4 ∧
 C Tryz.prog 206 #[.pointer x_1, .int .i64 (IntKind.i64.wrap (x_3 + iquo .i64 x 8)), .int .i64 (irem x_2 8), .int .u64 x_4] h'
 fun (r : Value) (h' : Heap) => ∃ (x : Int), r = .int .i64 x ∧ spare_Bank_say.J2 b n x h' Q) ∧
 C Tryz.prog 188 #[.int .u64 n] h fun (r : Value) (h' : Heap) =>
 ∃ (x_3 : Int),
 r = .int .u64 x_3 ∧
 ∃ (x_4 : Int),
 h'.cell b_2 (o_1 + 1 + 0) = some (.int .i64 x_4) ∧
 C Tryz.prog 206 #[.pointer x_1, .int .i64 (IntKind.i64.wrap (x_4 + iquo .i64 x 8)), .int .i64 (irem x_2 8), .int .u64 x_3] h'
 fun (r : Value) (h' : Heap) => ∃ (x : Int), r = .int .i64 x ∧ spare_Bank_say.J2 b n x h' Q) ∧
 C Tryz.prog 188 #[.int .u64 n] h fun (r : Value) (h' : Heap) =>
 ∃ (x_2 : Int),
 r = .int .u64 x_2 ∧
 (∃ (x_3 : Int),
 h'.cell b_2 (o_1 + 1 + 0) = some (.int .i64 x_3) ∧
 ∃ (x_4 : Int),
 h'.cell b_4 (o_3 + 4) = some (.int .i64 x_4) ∧
 C Tryz.prog 206 #[.pointer x_1, .int .i64 (IntKind.i64.wrap (x_3 + iquo .i64 x 8)), .int .i64 (irem x_4 8), .int .u64 x_2] h'
 fun (r : Value) (h' : Heap) => ∃ (x : Int), r = .int .i64 x ∧ spare_Bank_say.J2 b n x h' Q) ∧
 ∃ (x_3 : Int),
 h'.cell b_4 (o_3 + 4) = some (.int .i64 x_3) ∧
 ∃ (x_4 : Int),
 h'.cell b_2 (o_1 + 1 + 0) = some (.int .i64 x_4) ∧
 C Tryz.prog 206 #[.pointer x_1, .int .i64 (IntKind.i64.wrap (x_4 + iquo .i64 x 8)), .int .i64 (irem x_3 8), .int .u64 x_2] h'
 fun (r : Value) (h' : Heap) => ∃ (x : Int), r = .int .i64 x ∧ spare_Bank_say.J2 b n x h' Q) ∧
 (∃ (x_1 : Int),
 h.cell b_2 (o_1 + 1 + 0) = some (.int .i64 x_1) ∧
 (∃ (x_2 : Option Addr),
 h.cell b_1 (o + 0) = some (.pointer x_2) ∧
 (∃ (x_3 : Int),
 h.cell b_4 (o_3 + 4) = some (.int .i64 x_3) ∧
 C Tryz.prog 188 #[.int .u64 n] h fun (r : Value) (h' : Heap) =>
 ∃ (x_4 : Int),
 r = .int .u64 x_4 ∧
 C Tryz.prog 206 #[.pointer x_2, .int .i64 (IntKind.i64.wrap (x_1 + iquo .i64 x 8)), .int .i64 (irem x_3 8), .int .u64 x_4] h'
 fun (r : Value) (h' : Heap) => ∃ (x : Int), r = .int .i64 x ∧ spare_Bank_say.J2 b n x h' Q) ∧
 C Tryz.prog 188 #[.int .u64 n] h fun (r : Value) (h' : Heap) =>
 ∃ (x_3 : Int),
 r = .int .u64 x_3 ∧
 ∃ (x_4 : Int),
 h'.cell b_4 (o_3 + 4) = some (.int .i64 x_4) ∧
 C Tryz.prog 206 #[.pointer x_2, .int .i64 (IntKind.i64.wrap (x_1 + iquo .i64 x 8)), .int .i64 (irem x_4 8), .int .u64 x_3] h'
 fun (r : Value) (h' : Heap) => ∃ (x : Int), r = .int .i64 x ∧ spare_Bank_say.J2 b n x h' Q) ∧
 (∃ (x_2 : Int),
 h.cell b_4 (o_3 + 4) = some (.int .i64 x_2) ∧
 (∃ (x_3 : Option Addr),
 h.cell b_1 (o + 0) = some (.pointer x_3) ∧
 C Tryz.prog 188 #[.int .u64 n] h fun (r : Value) (h' : Heap) =>
 ∃ (x_4 : Int),
 r = .int .u64 x_4 ∧
 C Tryz.prog 206 #[.pointer x_3, .int .i64 (IntKind.i64.wrap (x_1 + iquo .i64 x 8)), .int .i64 (irem x_2 8), .int .u64 x_4] h'
 fun (r : Value) (h' : Heap) => ∃ (x : Int), r = .int .i64 x ∧ spare_Bank_say.J2 b n x h' Q) ∧
 C Tryz.prog 188 #[.int .u64 n] h fun (r : Value) (h' : Heap) =>
 ∃ (x_3 : Int),
 r = .int .u64 x_3 ∧
 ∃ (x_4 : Option Addr),
 h'.cell b_1 (o + 0) = some (.pointer x_4) ∧
 C Tryz.prog 206 #[.pointer x_4, .int .i64 (IntKind.i64.wrap (x_1 + iquo .i64 x 8)), .int .i64 (irem x_2 8), .int .u64 x_3] h'
 fun (r : Value) (h' : Heap) => ∃ (x : Int), r = .int .i64 x ∧ spare_Bank_say.J2 b n x h' Q) ∧
 C Tryz.prog 188 #[.int .u64 n] h fun (r : Value) (h' : Heap) =>
 ∃ (x_2 : Int),
 r = .int .u64 x_2 ∧
 ∃ (x_3 : Int),
 h'.cell b_4 (o_3 + 4) = some (.int .i64 x_3) ∧
 ∃ (x_4 : Option Addr),
 h'.cell b_1 (o + 0) = some (.pointer x_4) ∧
 C Tryz.prog 206 #[.pointer x_4, .int .i64 (IntKind.i64.wrap (x_1 + iquo .i64 x 8)), .int .i64 (irem x_3 8), .int .u64 x_2] h'
 fun (r : Value) (h' : Heap) => ∃ (x : Int), r = .int .i64 x ∧ spare_Bank_say.J2 b n x h' Q) ∧
 (∃ (x_1 : Int),
 h.cell b_4 (o_3 + 4) = some (.int .i64 x_1) ∧
 (∃ (x_2 : Option Addr),
 h.cell b_1 (o + 0) = some (.pointer x_2) ∧
 (∃ (x_3 : Int),
 h.cell b_2 (o_1 + 1 + 0) = some (.int .i64 x_3) ∧
 C Tryz.prog 188 #[.int .u64 n] h fun (r : Value) (h' : Heap) =>
 ∃ (x_4 : Int),
 r = .int .u64 x_4 ∧
 C Tryz.prog 206 #[.pointer x_2, .int .i64 (IntKind.i64.wrap (x_3 + iquo .i64 x 8)), .int .i64 (irem x_1 8), .int .u64 x_4] h'
 fun (r : Value) (h' : Heap) => ∃ (x : Int), r = .int .i64 x ∧ spare_Bank_say.J2 b n x h' Q) ∧
 C Tryz.prog 188 #[.int .u64 n] h fun (r : Value) (h' : Heap) =>
 ∃ (x_3 : Int),
 r = .int .u64 x_3 ∧
 ∃ (x_4 : Int),
 h'.cell b_2 (o_1 + 1 + 0) = some (.int .i64 x_4) ∧
 C Tryz.prog 206 #[.pointer x_2, .int .i64 (IntKind.i64.wrap (x_4 + iquo .i64 x 8)), .int .i64 (irem x_1 8), .int .u64 x_3] h'
 fun (r : Value) (h' : Heap) => ∃ (x : Int), r = .int .i64 x ∧ spare_Bank_say.J2 b n x h' Q) ∧
 (∃ (x_2 : Int),
 h.cell b_2 (o_1 + 1 + 0) = some (.int .i64 x_2) ∧
 (∃ (x_3 : Option Addr),
 h.cell b_1 (o + 0) = some (.pointer x_3) ∧
 C Tryz.prog 188 #[.int .u64 n] h fun (r : Value) (h' : Heap) =>
 ∃ (x_4 : Int),
 r = .int .u64 x_4 ∧
 C Tryz.prog 206 #[.pointer x_3, .int .i64 (IntKind.i64.wrap (x_2 + iquo .i64 x 8)), .int .i64 (irem x_1 8), .int .u64 x_4] h'
 fun (r : Value) (h' : Heap) => ∃ (x : Int), r = .int .i64 x ∧ spare_Bank_say.J2 b n x h' Q) ∧
 C Tryz.prog 188 #[.int .u64 n] h fun (r : Value) (h' : Heap) =>
 ∃ (x_3 : Int),
 r = .int .u64 x_3 ∧
 ∃ (x_4 : Option Addr),
 h'.cell b_1 (o + 0) = some (.pointer x_4) ∧
 C Tryz.prog 206 #[.pointer x_4, .int .i64 (IntKind.i64.wrap (x_2 + iquo .i64 x 8)), .int .i64 (irem x_1 8), .int .u64 x_3] h'
 fun (r : Value) (h' : Heap) => ∃ (x : Int), r = .int .i64 x ∧ spare_Bank_say.J2 b n x h' Q) ∧
 C Tryz.prog 188 #[.int .u64 n] h fun (r : Value) (h' : Heap) =>
 ∃ (x_2 : Int),
 r = .int .u64 x_2 ∧
 ∃ (x_3 : Int),
 h'.cell b_2 (o_1 + 1 + 0) = some (.int .i64 x_3) ∧
 ∃ (x_4 : Option Addr),
 h'.cell b_1 (o + 0) = some (.pointer x_4) ∧
 C Tryz.prog 206 #[.pointer x_4, .int .i64 (IntKind.i64.wrap (x_3 + iquo .i64 x 8)), .int .i64 (irem x_1 8), .int .u64 x_2] h'
 fun (r : Value) (h' : Heap) => ∃ (x : Int), r = .int .i64 x ∧ spare_Bank_say.J2 b n x h' Q) ∧
 C Tryz.prog 188 #[.int .u64 n] h fun (r : Value) (h' : Heap) =>
 ∃ (x_1 : Int),
 r = .int .u64 x_1 ∧
 (∃ (x_2 : Option Addr),
 h'.cell b_1 (o + 0) = some (.pointer x_2) ∧
 (∃ (x_3 : Int),
 h'.cell b_2 (o_1 + 1 + 0) = some (.int .i64 x_3) ∧
 ∃ (x_4 : Int),
 h'.cell b_4 (o_3 + 4) = some (.int .i64 x_4) ∧
 C Tryz.prog 206 #[.pointer x_2, .int .i64 (IntKind.i64.wrap (x_3 + iquo .i64 x 8)), .int .i64 (irem x_4 8), .int .u64 x_1] h'
 fun (r : Value) (h' : Heap) => ∃ (x : Int), r = .int .i64 x ∧ spare_Bank_say.J2 b n x h' Q) ∧
 ∃ (x_3 : Int),
 h'.cell b_4 (o_3 + 4) = some (.int .i64 x_3) ∧
 ∃ (x_4 : Int),
 h'.cell b_2 (o_1 + 1 + 0) = some (.int .i64 x_4) ∧
 C Tryz.prog 206 #[.pointer x_2, .int .i64 (IntKind.i64.wrap (x_4 + iquo .i64 x 8)), .int .i64 (irem x_3 8), .int .u64 x_1] h'
 fun (r : Value) (h' : Heap) => ∃ (x : Int), r = .int .i64 x ∧ spare_Bank_say.J2 b n x h' Q) ∧
 (∃ (x_2 : Int),
 h'.cell b_2 (o_1 + 1 + 0) = some (.int .i64 x_2) ∧
 ∃ (x_3 : Int),
 h'.cell b_4 (o_3 + 4) = some (.int .i64 x_3) ∧
 ∃ (x_4 : Option Addr),
 h'.cell b_1 (o + 0) = some (.pointer x_4) ∧
 C Tryz.prog 206 #[.pointer x_4, .int .i64 (IntKind.i64.wrap (x_2 + iquo .i64 x 8)), .int .i64 (irem x_3 8), .int .u64 x_1] h'
 fun (r : Value) (h' : Heap) => ∃ (x : Int), r = .int .i64 x ∧ spare_Bank_say.J2 b n x h' Q) ∧
 ∃ (x_2 : Int),
 h'.cell b_4 (o_3 + 4) = some (.int .i64 x_2) ∧
 ∃ (x_3 : Int),
 h'.cell b_2 (o_1 + 1 + 0) = some (.int .i64 x_3) ∧
 ∃ (x_4 : Option Addr),
 h'.cell b_1 (o + 0) = some (.pointer x_4) ∧
 C Tryz.prog 206 #[.pointer x_4, .int .i64 (IntKind.i64.wrap (x_3 + iquo .i64 x 8)), .int .i64 (irem x_2 8), .int .u64 x_1] h'
 fun (r : Value) (h' : Heap) => ∃ (x : Int), r = .int .i64 x ∧ spare_Bank_say.J2 b n x h' Q) ∧
 (∃ (x : Int),
 h.cell b_4 (o_3 + 4) = some (.int .i64 x) ∧
 (∃ (x_1 : Option Addr),
 h.cell b_1 (o + 0) = some (.pointer x_1) ∧
 (∃ (x_2 : Int),
 h.cell b_2 (o_1 + 1 + 0) = some (.int .i64 x_2) ∧
 (∃ (x_3 : Int),
 h.cell b_3 (o_2 + 4) = some (.int .i64 x_3) ∧
 C Tryz.prog 188 #[.int .u64 n] h fun (r : Value) (h' : Heap) =>
 ∃ (x_4 : Int),
 r = .int .u64 x_4 ∧
 C Tryz.prog 206 #[.pointer x_1, .int .i64 (IntKind.i64.wrap (x_2 + iquo .i64 x_3 8)), .int .i64 (irem x 8), .int .u64 x_4] h'
 fun (r : Value) (h' : Heap) => ∃ (x : Int), r = .int .i64 x ∧ spare_Bank_say.J2 b n x h' Q) ∧
 C Tryz.prog 188 #[.int .u64 n] h fun (r : Value) (h' : Heap) =>
 ∃ (x_3 : Int),
 r = .int .u64 x_3 ∧
 ∃ (x_4 : Int),
 h'.cell b_3 (o_2 + 4) = some (.int .i64 x_4) ∧
 C Tryz.prog 206 #[.pointer x_1, .int .i64 (IntKind.i64.wrap (x_2 + iquo .i64 x_4 8)), .int .i64 (irem x 8), .int .u64 x_3] h'
 fun (r : Value) (h' : Heap) => ∃ (x : Int), r = .int .i64 x ∧ spare_Bank_say.J2 b n x h' Q) ∧
 (∃ (x_2 : Int),
 h.cell b_3 (o_2 + 4) = some (.int .i64 x_2) ∧
 (∃ (x_3 : Int),
 h.cell b_2 (o_1 + 1 + 0) = some (.int .i64 x_3) ∧
 C Tryz.prog 188 #[.int .u64 n] h fun (r : Value) (h' : Heap) =>
 ∃ (x_4 : Int),
 r = .int .u64 x_4 ∧
 C Tryz.prog 206 #[.pointer x_1, .int .i64 (IntKind.i64.wrap (x_3 + iquo .i64 x_2 8)), .int .i64 (irem x 8), .int .u64 x_4] h'
 fun (r : Value) (h' : Heap) => ∃ (x : Int), r = .int .i64 x ∧ spare_Bank_say.J2 b n x h' Q) ∧
 C Tryz.prog 188 #[.int .u64 n] h fun (r : Value) (h' : Heap) =>
 ∃ (x_3 : Int),
 r = .int .u64 x_3 ∧
 ∃ (x_4 : Int),
 h'.cell b_2 (o_1 + 1 + 0) = some (.int .i64 x_4) ∧
 C Tryz.prog 206 #[.pointer x_1, .int .i64 (IntKind.i64.wrap (x_4 + iquo .i64 x_2 8)), .int .i64 (irem x 8), .int .u64 x_3] h'
 fun (r : Value) (h' : Heap) => ∃ (x : Int), r = .int .i64 x ∧ spare_Bank_say.J2 b n x h' Q) ∧
 C Tryz.prog 188 #[.int .u64 n] h fun (r : Value) (h' : Heap) =>
 ∃ (x_2 : Int),
 r = .int .u64 x_2 ∧
 ∃ (x_3 : Int),
 h'.cell b_3 (o_2 + 4) = some (.int .i64 x_3) ∧
 ∃ (x_4 : Int),
 h'.cell b_2 (o_1 + 1 + 0) = some (.int .i64 x_4) ∧
 C Tryz.prog 206 #[.pointer x_1, .int .i64 (IntKind.i64.wrap (x_4 + iquo .i64 x_3 8)), .int .i64 (irem x 8), .int .u64 x_2] h'
 fun (r : Value) (h' : Heap) => ∃ (x : Int), r = .int .i64 x ∧ spare_Bank_say.J2 b n x h' Q) ∧
 (∃ (x_1 : Int),
 h.cell b_2 (o_1 + 1 + 0) = some (.int .i64 x_1) ∧
 (∃ (x_2 : Option Addr),
 h.cell b_1 (o + 0) = some (.pointer x_2) ∧
 (∃ (x_3 : Int),
 h.cell b_3 (o_2 + 4) = some (.int .i64 x_3) ∧
 C Tryz.prog 188 #[.int .u64 n] h fun (r : Value) (h' : Heap) =>
 ∃ (x_4 : Int),
 r = .int .u64 x_4 ∧
 C Tryz.prog 206 #[.pointer x_2, .int .i64 (IntKind.i64.wrap (x_1 + iquo .i64 x_3 8)), .int .i64 (irem x 8), .int .u64 x_4] h'
 fun (r : Value) (h' : Heap) => ∃ (x : Int), r = .int .i64 x ∧ spare_Bank_say.J2 b n x h' Q) ∧
 C Tryz.prog 188 #[.int .u64 n] h fun (r : Value) (h' : Heap) =>
 ∃ (x_3 : Int),
 r = .int .u64 x_3 ∧
 ∃ (x_4 : Int),
 h'.cell b_3 (o_2 + 4) = some (.int .i64 x_4) ∧
 C Tryz.prog 206 #[.pointer x_2, .int .i64 (IntKind.i64.wrap (x_1 + iquo .i64 x_4 8)), .int .i64 (irem x 8), .int .u64 x_3] h'
 fun (r : Value) (h' : Heap) => ∃ (x : Int), r = .int .i64 x ∧ spare_Bank_say.J2 b n x h' Q) ∧
 (∃ (x_2 : Int),
 h.cell b_3 (o_2 + 4) = some (.int .i64 x_2) ∧
 (∃ (x_3 : Option Addr),
 h.cell b_1 (o + 0) = some (.pointer x_3) ∧
 C Tryz.prog 188 #[.int .u64 n] h fun (r : Value) (h' : Heap) =>
 ∃ (x_4 : Int),
 r = .int .u64 x_4 ∧
 C Tryz.prog 206 #[.pointer x_3, .int .i64 (IntKind.i64.wrap (x_1 + iquo .i64 x_2 8)), .int .i64 (irem x 8), .int .u64 x_4] h'
 fun (r : Value) (h' : Heap) => ∃ (x : Int), r = .int .i64 x ∧ spare_Bank_say.J2 b n x h' Q) ∧
 C Tryz.prog 188 #[.int .u64 n] h fun (r : Value) (h' : Heap) =>
 ∃ (x_3 : Int),
 r = .int .u64 x_3 ∧
 ∃ (x_4 : Option Addr),
 h'.cell b_1 (o + 0) = some (.pointer x_4) ∧
 C Tryz.prog 206 #[.pointer x_4, .int .i64 (IntKind.i64.wrap (x_1 + iquo .i64 x_2 8)), .int .i64 (irem x 8), .int .u64 x_3] h'
 fun (r : Value) (h' : Heap) => ∃ (x : Int), r = .int .i64 x ∧ spare_Bank_say.J2 b n x h' Q) ∧
 C Tryz.prog 188 #[.int .u64 n] h fun (r : Value) (h' : Heap) =>
 ∃ (x_2 : Int),
 r = .int .u64 x_2 ∧
 ∃ (x_3 : Int),
 h'.cell b_3 (o_2 + 4) = some (.int .i64 x_3) ∧
 ∃ (x_4 : Option Addr),
 h'.cell b_1 (o + 0) = some (.pointer x_4) ∧
 C Tryz.prog 206 #[.pointer x_4, .int .i64 (IntKind.i64.wrap (x_1 + iquo .i64 x_3 8)), .int .i64 (irem x 8), .int .u64 x_2] h'
 fun (r : Value) (h' : Heap) => ∃ (x : Int), r = .int .i64 x ∧ spare_Bank_say.J2 b n x h' Q) ∧
 (∃ (x_1 : Int),
 h.cell b_3 (o_2 + 4) = some (.int .i64 x_1) ∧
 (∃ (x_2 : Option Addr),
 h.cell b_1 (o + 0) = some (.pointer x_2) ∧
 (∃ (x_3 : Int),
 h.cell b_2 (o_1 + 1 + 0) = some (.int .i64 x_3) ∧
 C Tryz.prog 188 #[.int .u64 n] h fun (r : Value) (h' : Heap) =>
 ∃ (x_4 : Int),
 r = .int .u64 x_4 ∧
 C Tryz.prog 206 #[.pointer x_2, .int .i64 (IntKind.i64.wrap (x_3 + iquo .i64 x_1 8)), .int .i64 (irem x 8), .int .u64 x_4] h'
 fun (r : Value) (h' : Heap) => ∃ (x : Int), r = .int .i64 x ∧ spare_Bank_say.J2 b n x h' Q) ∧
 C Tryz.prog 188 #[.int .u64 n] h fun (r : Value) (h' : Heap) =>
 ∃ (x_3 : Int),
 r = .int .u64 x_3 ∧
 ∃ (x_4 : Int),
 h'.cell b_2 (o_1 + 1 + 0) = some (.int .i64 x_4) ∧
 C Tryz.prog 206 #[.pointer x_2, .int .i64 (IntKind.i64.wrap (x_4 + iquo .i64 x_1 8)), .int .i64 (irem x 8), .int .u64 x_3] h'
 fun (r : Value) (h' : Heap) => ∃ (x : Int), r = .int .i64 x ∧ spare_Bank_say.J2 b n x h' Q) ∧
 (∃ (x_2 : Int),
 h.cell b_2 (o_1 + 1 + 0) = some (.int .i64 x_2) ∧
 (∃ (x_3 : Option Addr),
 h.cell b_1 (o + 0) = some (.pointer x_3) ∧
 C Tryz.prog 188 #[.int .u64 n] h fun (r : Value) (h' : Heap) =>
 ∃ (x_4 : Int),
 r = .int .u64 x_4 ∧
 C Tryz.prog 206 #[.pointer x_3, .int .i64 (IntKind.i64.wrap (x_2 + iquo .i64 x_1 8)), .int .i64 (irem x 8), .int .u64 x_4] h'
 fun (r : Value) (h' : Heap) => ∃ (x : Int), r = .int .i64 x ∧ spare_Bank_say.J2 b n x h' Q) ∧
 C Tryz.prog 188 #[.int .u64 n] h fun (r : Value) (h' : Heap) =>
 ∃ (x_3 : Int),
 r = .int .u64 x_3 ∧
 ∃ (x_4 : Option Addr),
 h'.cell b_1 (o + 0) = some (.pointer x_4) ∧
 C Tryz.prog 206 #[.pointer x_4, .int .i64 (IntKind.i64.wrap (x_2 + iquo .i64 x_1 8)), .int .i64 (irem x 8), .int .u64 x_3] h'
 fun (r : Value) (h' : Heap) => ∃ (x : Int), r = .int .i64 x ∧ spare_Bank_say.J2 b n x h' Q) ∧
 C Tryz.prog 188 #[.int .u64 n] h fun (r : Value) (h' : Heap) =>
 ∃ (x_2 : Int),
 r = .int .u64 x_2 ∧
 ∃ (x_3 : Int),
 h'.cell b_2 (o_1 + 1 + 0) = some (.int .i64 x_3) ∧
 ∃ (x_4 : Option Addr),
 h'.cell b_1 (o + 0) = some (.pointer x_4) ∧
 C Tryz.prog 206 #[.pointer x_4, .int .i64 (IntKind.i64.wrap (x_3 + iquo .i64 x_1 8)), .int .i64 (irem x 8), .int .u64 x_2] h'
 fun (r : Value) (h' : Heap) => ∃ (x : Int), r = .int .i64 x ∧ spare_Bank_say.J2 b n x h' Q) ∧
 C Tryz.prog 188 #[.int .u64 n] h fun (r : Value) (h' : Heap) =>
 ∃ (x_1 : Int),
 r = .int .u64 x_1 ∧
 ∃ (x_2 : Int),
 h'.cell b_3 (o_2 + 4) = some (.int .i64 x_2) ∧
 ∃ (x_3 : Int),
 h'.cell b_2 (o_1 + 1 + 0) = some (.int .i64 x_3) ∧
 ∃ (x_4 : Option Addr),
 h'.cell b_1 (o + 0) = some (.pointer x_4) ∧
 C Tryz.prog 206 #[.pointer x_4, .int .i64 (IntKind.i64.wrap (x_3 + iquo .i64 x_2 8)), .int .i64 (irem x 8), .int .u64 x_1] h'
 fun (r : Value) (h' : Heap) => ∃ (x : Int), r = .int .i64 x ∧ spare_Bank_say.J2 b n x h' Q) ∧
 C Tryz.prog 188 #[.int .u64 n] h fun (r : Value) (h' : Heap) =>
 ∃ (x : Int),
 r = .int .u64 x ∧
 (∃ (x_1 : Option Addr),
 h'.cell b_1 (o + 0) = some (.pointer x_1) ∧
 (∃ (x_2 : Int),
 h'.cell b_2 (o_1 + 1 + 0) = some (.int .i64 x_2) ∧
 (∃ (x_3 : Int),
 h'.cell b_3 (o_2 + 4) = some (.int .i64 x_3) ∧
 ∃ (x_4 : Int),
 h'.cell b_4 (o_3 + 4) = some (.int .i64 x_4) ∧
 C Tryz.prog 206 #[.pointer x_1, .int .i64 (IntKind.i64.wrap (x_2 + iquo .i64 x_3 8)), .int .i64 (irem x_4 8), .int .u64 x] h'
 fun (r : Value) (h' : Heap) => ∃ (x : Int), r = .int .i64 x ∧ spare_Bank_say.J2 b n x h' Q) ∧
 ∃ (x_3 : Int),
 h'.cell b_4 (o_3 + 4) = some (.int .i64 x_3) ∧
 ∃ (x_4 : Int),
 h'.cell b_3 (o_2 + 4) = some (.int .i64 x_4) ∧
 C Tryz.prog 206 #[.pointer x_1, .int .i64 (IntKind.i64.wrap (x_2 + iquo .i64 x_4 8)), .int .i64 (irem x_3 8), .int .u64 x] h'
 fun (r : Value) (h' : Heap) => ∃ (x : Int), r = .int .i64 x ∧ spare_Bank_say.J2 b n x h' Q) ∧
 (∃ (x_2 : Int),
 h'.cell b_3 (o_2 + 4) = some (.int .i64 x_2) ∧
 (∃ (x_3 : Int),
 h'.cell b_2 (o_1 + 1 + 0) = some (.int .i64 x_3) ∧
 ∃ (x_4 : Int),
 h'.cell b_4 (o_3 + 4) = some (.int .i64 x_4) ∧
 C Tryz.prog 206 #[.pointer x_1, .int .i64 (IntKind.i64.wrap (x_3 + iquo .i64 x_2 8)), .int .i64 (irem x_4 8), .int .u64 x] h'
 fun (r : Value) (h' : Heap) => ∃ (x : Int), r = .int .i64 x ∧ spare_Bank_say.J2 b n x h' Q) ∧
 ∃ (x_3 : Int),
 h'.cell b_4 (o_3 + 4) = some (.int .i64 x_3) ∧
 ∃ (x_4 : Int),
 h'.cell b_2 (o_1 + 1 + 0) = some (.int .i64 x_4) ∧
 C Tryz.prog 206 #[.pointer x_1, .int .i64 (IntKind.i64.wrap (x_4 + iquo .i64 x_2 8)), .int .i64 (irem x_3 8), .int .u64 x] h'
 fun (r : Value) (h' : Heap) => ∃ (x : Int), r = .int .i64 x ∧ spare_Bank_say.J2 b n x h' Q) ∧
 ∃ (x_2 : Int),
 h'.cell b_4 (o_3 + 4) = some (.int .i64 x_2) ∧
 ∃ (x_3 : Int),
 h'.cell b_3 (o_2 + 4) = some (.int .i64 x_3) ∧
 ∃ (x_4 : Int),
 h'.cell b_2 (o_1 + 1 + 0) = some (.int .i64 x_4) ∧
 C Tryz.prog 206 #[.pointer x_1, .int .i64 (IntKind.i64.wrap (x_4 + iquo .i64 x_3 8)), .int .i64 (irem x_2 8), .int .u64 x] h'
 fun (r : Value) (h' : Heap) => ∃ (x : Int), r = .int .i64 x ∧ spare_Bank_say.J2 b n x h' Q) ∧
 (∃ (x_1 : Int),
 h'.cell b_2 (o_1 + 1 + 0) = some (.int .i64 x_1) ∧
 (∃ (x_2 : Option Addr),
 h'.cell b_1 (o + 0) = some (.pointer x_2) ∧
 (∃ (x_3 : Int),
 h'.cell b_3 (o_2 + 4) = some (.int .i64 x_3) ∧
 ∃ (x_4 : Int),
 h'.cell b_4 (o_3 + 4) = some (.int .i64 x_4) ∧
 C Tryz.prog 206 #[.pointer x_2, .int .i64 (IntKind.i64.wrap (x_1 + iquo .i64 x_3 8)), .int .i64 (irem x_4 8), .int .u64 x] h'
 fun (r : Value) (h' : Heap) => ∃ (x : Int), r = .int .i64 x ∧ spare_Bank_say.J2 b n x h' Q) ∧
 ∃ (x_3 : Int),
 h'.cell b_4 (o_3 + 4) = some (.int .i64 x_3) ∧
 ∃ (x_4 : Int),
 h'.cell b_3 (o_2 + 4) = some (.int .i64 x_4) ∧
 C Tryz.prog 206 #[.pointer x_2, .int .i64 (IntKind.i64.wrap (x_1 + iquo .i64 x_4 8)), .int .i64 (irem x_3 8), .int .u64 x] h'
 fun (r : Value) (h' : Heap) => ∃ (x : Int), r = .int .i64 x ∧ spare_Bank_say.J2 b n x h' Q) ∧
 (∃ (x_2 : Int),
 h'.cell b_3 (o_2 + 4) = some (.int .i64 x_2) ∧
 ∃ (x_3 : Int),
 h'.cell b_4 (o_3 + 4) = some (.int .i64 x_3) ∧
 ∃ (x_4 : Option Addr),
 h'.cell b_1 (o + 0) = some (.pointer x_4) ∧
 C Tryz.prog 206 #[.pointer x_4, .int .i64 (IntKind.i64.wrap (x_1 + iquo .i64 x_2 8)), .int .i64 (irem x_3 8), .int .u64 x] h'
 fun (r : Value) (h' : Heap) => ∃ (x : Int), r = .int .i64 x ∧ spare_Bank_say.J2 b n x h' Q) ∧
 ∃ (x_2 : Int),
 h'.cell b_4 (o_3 + 4) = some (.int .i64 x_2) ∧
 ∃ (x_3 : Int),
 h'.cell b_3 (o_2 + 4) = some (.int .i64 x_3) ∧
 ∃ (x_4 : Option Addr),
 h'.cell b_1 (o + 0) = some (.pointer x_4) ∧
 C Tryz.prog 206 #[.pointer x_4, .int .i64 (IntKind.i64.wrap (x_1 + iquo .i64 x_3 8)), .int .i64 (irem x_2 8), .int .u64 x] h'
 fun (r : Value) (h' : Heap) => ∃ (x : Int), r = .int .i64 x ∧ spare_Bank_say.J2 b n x h' Q) ∧
 (∃ (x_1 : Int),
 h'.cell b_3 (o_2 + 4) = some (.int .i64 x_1) ∧
 (∃ (x_2 : Option Addr),
 h'.cell b_1 (o + 0) = some (.pointer x_2) ∧
 (∃ (x_3 : Int),
 h'.cell b_2 (o_1 + 1 + 0) = some (.int .i64 x_3) ∧
 ∃ (x_4 : Int),
 h'.cell b_4 (o_3 + 4) = some (.int .i64 x_4) ∧
 C Tryz.prog 206 #[.pointer x_2, .int .i64 (IntKind.i64.wrap (x_3 + iquo .i64 x_1 8)), .int .i64 (irem x_4 8), .int .u64 x] h'
 fun (r : Value) (h' : Heap) => ∃ (x : Int), r = .int .i64 x ∧ spare_Bank_say.J2 b n x h' Q) ∧
 ∃ (x_3 : Int),
 h'.cell b_4 (o_3 + 4) = some (.int .i64 x_3) ∧
 ∃ (x_4 : Int),
 h'.cell b_2 (o_1 + 1 + 0) = some (.int .i64 x_4) ∧
 C Tryz.prog 206 #[.pointer x_2, .int .i64 (IntKind.i64.wrap (x_4 + iquo .i64 x_1 8)), .int .i64 (irem x_3 8), .int .u64 x] h'
 fun (r : Value) (h' : Heap) => ∃ (x : Int), r = .int .i64 x ∧ spare_Bank_say.J2 b n x h' Q) ∧
 (∃ (x_2 : Int),
 h'.cell b_2 (o_1 + 1 + 0) = some (.int .i64 x_2) ∧
 ∃ (x_3 : Int),
 h'.cell b_4 (o_3 + 4) = some (.int .i64 x_3) ∧
 ∃ (x_4 : Option Addr),
 h'.cell b_1 (o + 0) = some (.pointer x_4) ∧
 C Tryz.prog 206 #[.pointer x_4, .int .i64 (IntKind.i64.wrap (x_2 + iquo .i64 x_1 8)), .int .i64 (irem x_3 8), .int .u64 x] h'
 fun (r : Value) (h' : Heap) => ∃ (x : Int), r = .int .i64 x ∧ spare_Bank_say.J2 b n x h' Q) ∧
 ∃ (x_2 : Int),
 h'.cell b_4 (o_3 + 4) = some (.int .i64 x_2) ∧
 ∃ (x_3 : Int),
 h'.cell b_2 (o_1 + 1 + 0) = some (.int .i64 x_3) ∧
 ∃ (x_4 : Option Addr),
 h'.cell b_1 (o + 0) = some (.pointer x_4) ∧
 C Tryz.prog 206 #[.pointer x_4, .int .i64 (IntKind.i64.wrap (x_3 + iquo .i64 x_1 8)), .int .i64 (irem x_2 8), .int .u64 x] h'
 fun (r : Value) (h' : Heap) => ∃ (x : Int), r = .int .i64 x ∧ spare_Bank_say.J2 b n x h' Q) ∧
 ∃ (x_1 : Int),
 h'.cell b_4 (o_3 + 4) = some (.int .i64 x_1) ∧
 ∃ (x_2 : Int),
 h'.cell b_3 (o_2 + 4) = some (.int .i64 x_2) ∧
 ∃ (x_3 : Int),
 h'.cell b_2 (o_1 + 1 + 0) = some (.int .i64 x_3) ∧
 ∃ (x_4 : Option Addr),
 h'.cell b_1 (o + 0) = some (.pointer x_4) ∧
 C Tryz.prog 206 #[.pointer x_4, .int .i64 (IntKind.i64.wrap (x_3 + iquo .i64 x_2 8)), .int .i64 (irem x_1 8), .int .u64 x] h'
 fun (r : Value) (h' : Heap) => ∃ (x : Int), r = .int .i64 x ∧ spare_Bank_say.J2 b n x h' Q
def spare_Bank_say.J2.wp (b : Option Addr) (n : Int) (e : Int) (h : Heap) (Q : Value → Heap → Prop) : Prop :=
 xsIf (decide (e = 0))
 (atBase b fun (b_1 o : Nat) =>
 (∃ (x : Int),
 h.cell b_1 (o + 4) = some (.int .i64 x) ∧
 C Tryz.prog 188 #[.int .u64 n] h fun (r : Value) (h' : Heap) =>
 ∃ (x_1 : Int),
 r = .int .u64 x_1 ∧
 C Tryz.prog 205 #[.pointer b, .int .i64 x, .int .u64 x_1] h' fun (r : Value) (h' : Heap) => ∃ (x : Int), r = .int .i64 x ∧ Q (.int .i64 x) h') ∧
 C Tryz.prog 188 #[.int .u64 n] h fun (r : Value) (h' : Heap) =>
 ∃ (x : Int),
 r = .int .u64 x ∧
 ∃ (x_1 : Int),
 h'.cell b_1 (o + 4) = some (.int .i64 x_1) ∧
 C Tryz.prog 205 #[.pointer b, .int .i64 x_1, .int .u64 x] h' fun (r : Value) (h' : Heap) => ∃ (x : Int), r = .int .i64 x ∧ Q (.int .i64 x) h')
 (Q (.int .i64 e) h)
theorem spare_Bank_say.ok {b : Option Addr} {n : Int} {h : Heap} {Q : Value → Heap → Prop} (hk : spare_Bank_say.wp b n h Q) : C Tryz.prog 243 #[.pointer b, .int .u64 n] h Q :=
 C_of_xs (H := spare_Bank_say.H) (lcuts := spare_Bank_say.lc) (rcuts := spare_Bank_say.rc) (l := [.pointer b, .int .u64 n]) 2000 mixed Tryz.func243 rfl (by kernel_rfl) (@cast (spare_Bank_say.wp b n h Q) _ (by kernel_rfl) hk)
theorem spare_Bank_say.J2.ok {b : Option Addr} {n : Int} {e : Int} {h : Heap} {Q : Value → Heap → Prop} (hk : spare_Bank_say.J2.wp b n e h Q) : spare_Bank_say.J2 b n e h Q :=
 xs_ok (H := spare_Bank_say.H) (lcuts := spare_Bank_say.lc) (rcuts := []) (fn := Tryz.f243) mixed Tryz.func243 2000 _ _ _ (@cast (spare_Bank_say.J2.wp b n e h Q) _ (by kernel_rfl) hk)

/-! (*gabion/spare.Bank).retire -/
def spare_Bank_retire.H : Hn := ⟨[], [], [⟨2, .q 0 (.q 1 (.q 2 (.q 4 (.q 5 (.q 6 (.ld 3 768 (.q 7 (.q 8 (.q 9 (.nil)))))))))), []⟩], []⟩
def spare_Bank_retire.lc : List Cut := [⟨1, [0, 1, 2], []⟩]
def spare_Bank_retire.rc : List Cut := []
def spare_Bank_retire.L1 (b : Option Addr) (i : Int) (s : ByteArray) (h : Heap) (Q : Value → Heap → Prop) : Prop :=
 TW Tryz.prog 207 49 [.code (cAt (bodyOf Tryz.f207) [1, 0, 0, 0]), .inLoop (cAt (bodyOf Tryz.f207) [1, 0, 0, 0]), .inBlock 0, .code (cAt (bodyOf Tryz.f207) [1, 1])] ⟨[(0, .v (.pointer b)), (1, .v (.int .i64 i)), (2, .v (.string s))], []⟩ h Q
def spare_Bank_retire.wp (b : Option Addr) (i : Int) (s : ByteArray) (h : Heap) (Q : Value → Heap → Prop) : Prop :=
 spare_Bank_retire.L1 b i s h Q
def spare_Bank_retire.L1.wp (b : Option Addr) (i : Int) (s : ByteArray) (h : Heap) (Q : Value → Heap → Prop) : Prop :=
 C Tryz.prog 165 #[.pointer b] h fun (r : Value) (h' : Heap) =>
 ∃ (x : Int),
 r = .int .i64 x ∧
 xsIf (decide (0 < x))
 (atBase b fun (b_1 o : Nat) =>
 atBase b fun (b_2 o_1 : Nat) =>
 ∃ (x : Int),
 h'.cell b_1 (o + 1) = some (.int .i64 x) ∧
 ∃ (x_1 : Int),
 h'.cell b_1 (o + 1 + 1) = some (.int .i64 x_1) ∧
 ∃ (x_2 : Int),
 h'.cell b_1 (o + 1 + 1 + 1) = some (.int .i64 x_2) ∧
 ∃ (x_3 : Int),
 h'.cell b_2 (o_1 + 4) = some (.int .i64 x_3) ∧
 C Tryz.prog 214 #[.agg #[.int .i64 x, .int .i64 x_1, .int .i64 x_2], .int .i64 x_3] h' fun (r : Value) (h' : Heap) =>
 ∃ (x : Int),
 r = .int .i64 x ∧
 atBase b fun (b_3 o : Nat) =>
 ∃ (x_4 : Option Addr),
 h'.cell b_3 (o + 0) = some (.pointer x_4) ∧
 C Tryz.prog 75 #[.pointer x_4, .int .i64 x, .string s] h' fun (r : Value) (h' : Heap) =>
 ∃ (x_5 : Int),
 r = .int .i64 x_5 ∧
 xsIf (decide (x_5 ≠ 0)) (Q (.int .i64 x_5) h')
 (atBase b fun (b_4 o : Nat) =>
 ∃ (x_6 : Option Addr),
 h'.cell b_4 (o + 0) = some (.pointer x_6) ∧
 C Tryz.prog 101 #[.pointer x_6, .int .i64 x, .string s] h' fun (r : Value) (h' : Heap) =>
 ∃ (x : Bool),
 r = .bool x ∧
 xsIf x
 (C Tryz.prog 243 #[.pointer b, .int .u64 (IntKind.u64.wrap (IntKind.u64.wrap i + 1))] h' fun (r : Value) (h' : Heap) =>
 ∃ (x : Int), r = .int .i64 x ∧ Q (.int .i64 x) h')
 (C Tryz.prog 243 #[.pointer b, .int .u64 65535] h' fun (r : Value) (h' : Heap) =>
 ∃ (x : Int), r = .int .i64 x ∧ xsIf (decide (x ≠ 0)) (Q (.int .i64 x) h') (spare_Bank_retire.L1 b i s h' Q))))
 (Q (.int .i64 10) h')
theorem spare_Bank_retire.ok {b : Option Addr} {i : Int} {s : ByteArray} {h : Heap} {Q : Value → Heap → Prop} (hk : spare_Bank_retire.wp b i s h Q) : C Tryz.prog 207 #[.pointer b, .int .i64 i, .string s] h Q :=
 C_of_xs (H := spare_Bank_retire.H) (lcuts := spare_Bank_retire.lc) (rcuts := spare_Bank_retire.rc) (l := [.pointer b, .int .i64 i, .string s]) 2000 mixed Tryz.func207 rfl (by kernel_rfl) (@cast (spare_Bank_retire.wp b i s h Q) _ (by kernel_rfl) hk)
theorem spare_Bank_retire.L1.ok {b : Option Addr} {i : Int} {s : ByteArray} {h : Heap} {Q : Value → Heap → Prop} (hk : spare_Bank_retire.L1.wp b i s h Q) : spare_Bank_retire.L1 b i s h Q :=
 xs_ok (H := spare_Bank_retire.H) (lcuts := spare_Bank_retire.lc) (rcuts := spare_Bank_retire.rc) (fn := Tryz.f207) mixed Tryz.func207 2000 _ _ _ (@cast (spare_Bank_retire.L1.wp b i s h Q) _ (by kernel_rfl) hk)

/-! (*gabion/spare.Bank).WriteWord -/
def spare_Bank_WriteWord.H : Hn := ⟨[], [], [⟨11, .q 0 (.q 1 (.q 2 (.q 3 (.q 4 (.q 7 (.q 8 (.q 9 (.q 10 (.q 11 (.q 5 (.q 6 (.q 12 (.q 13 (.nil)))))))))))))), []⟩], []⟩
def spare_Bank_WriteWord.lc : List Cut := []
def spare_Bank_WriteWord.rc : List Cut := []
def spare_Bank_WriteWord.wp (b : Option Addr) (i : Int) (k0 : Int) (v : Int) (h : Heap) (Q : Value → Heap → Prop) : Prop :=
 C Tryz.prog 164 #[.pointer b, .int .i64 i] h fun (r : Value) (h' : Heap) =>
 ∃ (x : Int),
 ∃ (x_1 : Int),
 r = .tuple #[.int .i64 x, .int .i64 x_1] ∧
 xsIf (decide (x_1 = 1)) (Q (.int .i64 x_1) h')
 (xsIf (decide (k0 < 0)) (Q (.int .i64 2) h')
 (xsIf (decide (8 ≤ k0)) (Q (.int .i64 2) h')
 (xsIf (decide (x_1 ≠ 0)) (Q (.int .i64 x_1) h')
 (atBase b fun (b_1 o : Nat) =>
 ∃ (x_2 : Option Addr),
 h'.cell b_1 (o + 0) = some (.pointer x_2) ∧
 C Tryz.prog 80 #[.pointer x_2, .int .i64 x] h' fun (r : Value) (h' : Heap) =>
 ∃ (x_3 : ByteArray),
 ∃ (x_4 : Int),
 r = .tuple #[.string x_3, .int .i64 x_4] ∧
 xsIf (decide (x_4 ≠ 0)) (Q (.int .i64 x_4) h')
 ((0 ≤ IntKind.i64.wrap (8 * k0) ∧ IntKind.i64.wrap (8 * k0) ≤ (↑x_3.size : Int)) ∧
 (0 ≤ IntKind.i64.wrap (8 * IntKind.i64.wrap (k0 + 1)) ∧ IntKind.i64.wrap (8 * IntKind.i64.wrap (k0 + 1)) ≤ (↑x_3.size : Int)) ∧
 C Tryz.prog 149 #[.int .u64 v, .int .i64 8] h' fun (r : Value) (h' : Heap) =>
 ∃ (x_5 : ByteArray),
 r = .string x_5 ∧
 (↑((sext x_3 0 (IntKind.i64.wrap (8 * k0))).size + x_5.size) : Int) ≤ 9223372036854775807 ∧
 (↑((sext x_3 0 (IntKind.i64.wrap (8 * k0)) ++ x_5).size + (sext x_3 (IntKind.i64.wrap (8 * IntKind.i64.wrap (k0 + 1))) (↑x_3.size : Int)).size) : Int) ≤ 9223372036854775807 ∧
 atBase b fun (b_2 o : Nat) =>
 ∃ (x_6 : Option Addr),
 h'.cell b_2 (o + 0) = some (.pointer x_6) ∧
 C Tryz.prog 206 #[.pointer x_6, .int .i64 x, .int .i64 k0, .int .u64 v] h' fun (r : Value) (h' : Heap) =>
 ∃ (x_7 : Int),
 r = .int .i64 x_7 ∧
 xsIf (decide (x_7 ≠ 0)) (Q (.int .i64 x_7) h')
 (atBase b fun (b_3 o : Nat) =>
 ∃ (x_8 : Option Addr),
 h'.cell b_3 (o + 0) = some (.pointer x_8) ∧
 C Tryz.prog 101
 #[.pointer x_8, .int .i64 x,
 .string (sext x_3 0 (IntKind.i64.wrap (8 * k0)) ++ x_5 ++ sext x_3 (IntKind.i64.wrap (8 * IntKind.i64.wrap (k0 + 1))) (↑x_3.size : Int))]
 h' fun (r : Value) (h' : Heap) =>
 ∃ (x : Bool),
 r = .bool x ∧
 xsIf x (Q (.int .i64 0) h')
 (C Tryz.prog 207
 #[.pointer b, .int .i64 i,
 .string (sext x_3 0 (IntKind.i64.wrap (8 * k0)) ++ x_5 ++ sext x_3 (IntKind.i64.wrap (8 * IntKind.i64.wrap (k0 + 1))) (↑x_3.size : Int))]
 h' fun (r : Value) (h' : Heap) => ∃ (x : Int), r = .int .i64 x ∧ Q (.int .i64 x) h')))))))
theorem spare_Bank_WriteWord.ok {b : Option Addr} {i : Int} {k0 : Int} {v : Int} {h : Heap} {Q : Value → Heap → Prop} (hk : spare_Bank_WriteWord.wp b i k0 v h Q) : C Tryz.prog 146 #[.pointer b, .int .i64 i, .int .i64 k0, .int .u64 v] h Q :=
 C_of_xs (H := spare_Bank_WriteWord.H) (lcuts := spare_Bank_WriteWord.lc) (rcuts := spare_Bank_WriteWord.rc) (l := [.pointer b, .int .i64 i, .int .i64 k0, .int .u64 v]) 2000 mixed Tryz.func146 rfl (by kernel_rfl) (@cast (spare_Bank_WriteWord.wp b i k0 v h Q) _ (by kernel_rfl) hk)

/-! gabion/ring.Format -/
def ring_Format.H : Hn := ⟨[], [], [⟨10, .q 0 (.q 1 (.q 3 (.q 4 (.q 2 (.q 5 (.q 6 (.q 7 (.q 8 (.nil))))))))), []⟩], []⟩
def ring_Format.lc : List Cut := []
def ring_Format.rc : List Cut := []
def ring_Format.wp (d : Option Addr) (p_0 : Int) (p_1 : Int) (p_2 : Int) (p_3 : Int) (h : Heap) (Q : Value → Heap → Prop) : Prop :=
 C Tryz.prog 143 #[.pointer d, .agg #[.int .i64 p_0, .int .i64 p_1, .int .i64 p_2, .int .i64 p_3]] h fun (r : Value) (h' : Heap) =>
 ∃ (x : Int),
 r = .int .i64 x ∧
 xsIf (decide (x ≠ 0)) (Q (.int .i64 x) h')
 (C Tryz.prog 72 #[.agg #[.int .i64 p_0, .int .i64 p_1, .int .i64 p_2, .int .i64 p_3]] h' fun (r : Value) (h' : Heap) =>
 ∃ (x : Int),
 ∃ (x_1 : Int),
 ∃ (x_2 : Int),
 r = .agg #[.int .i64 x, .int .i64 x_1, .int .i64 x_2] ∧
 C Tryz.prog 144 #[.pointer d, .agg #[.int .i64 x, .int .i64 x_1, .int .i64 x_2]] h' fun (r : Value) (h' : Heap) =>
 ∃ (x : Int),
 r = .int .i64 x ∧
 xsIf (decide (x ≠ 0)) (Q (.int .i64 x) h')
 (C Tryz.prog 72 #[.agg #[.int .i64 p_0, .int .i64 p_1, .int .i64 p_2, .int .i64 p_3]] h' fun (r : Value) (h' : Heap) =>
 ∃ (x : Int),
 ∃ (x_3 : Int),
 ∃ (x_4 : Int),
 r = .agg #[.int .i64 x, .int .i64 x_3, .int .i64 x_4] ∧
 C Tryz.prog 145 #[.pointer d, .agg #[.int .i64 x, .int .i64 x_3, .int .i64 x_4]] h' fun (r : Value) (h' : Heap) =>
 ∃ (x : Option Addr),
 ∃ (x_5 : Int),
 r = .tuple #[.pointer x, .int .i64 x_5] ∧
 xsIf (decide (x_5 ≠ 0)) (Q (.int .i64 x_5) h')
 (C Tryz.prog 131 #[.agg #[.int .i64 p_0, .int .i64 p_1, .int .i64 p_2, .int .i64 p_3]] h'
 fun (r : Value) (h' : Heap) =>
 ∃ (x_6 : Int),
 r = .int .i64 x_6 ∧
 C Tryz.prog 147 #[.int .i64 p_1] h' fun (r : Value) (h' : Heap) =>
 ∃ (x_7 : Int),
 ∃ (x_8 : Int),
 ∃ (x_9 : Int),
 r = .agg #[.int .i64 x_7, .int .i64 x_8, .int .u32 x_9] ∧
 C Tryz.prog 148 #[.agg #[.int .i64 x_7, .int .i64 x_8, .int .u32 x_9]] h' fun (r : Value) (h' : Heap) =>
 ∃ (x_10 : Int),
 r = .int .u64 x_10 ∧
 C Tryz.prog 146 #[.pointer x, .int .i64 x_6, .int .i64 0, .int .u64 x_10] h' fun (r : Value) (h' : Heap) =>
 ∃ (x : Int), r = .int .i64 x ∧ Q (.int .i64 x) h')))
theorem ring_Format.ok {d : Option Addr} {p_0 : Int} {p_1 : Int} {p_2 : Int} {p_3 : Int} {h : Heap} {Q : Value → Heap → Prop} (hk : ring_Format.wp d p_0 p_1 p_2 p_3 h Q) : C Tryz.prog 77 #[.pointer d, .agg #[.int .i64 p_0, .int .i64 p_1, .int .i64 p_2, .int .i64 p_3]] h Q :=
 C_of_xs (H := ring_Format.H) (lcuts := ring_Format.lc) (rcuts := ring_Format.rc) (l := [.pointer d, .agg #[.int .i64 p_0, .int .i64 p_1, .int .i64 p_2, .int .i64 p_3]]) 2000 mixed Tryz.func77 rfl (by kernel_rfl) (@cast (ring_Format.wp d p_0 p_1 p_2 p_3 h Q) _ (by kernel_rfl) hk)

/-! gabion/crc.Sum32 -/
def crc_Sum32.H : Hn := ⟨[], [], [], []⟩
def crc_Sum32.lc : List Cut := [⟨3, [0, 3, 7, 8], []⟩, ⟨7, [0, 3, 7, 8, 17], []⟩]
def crc_Sum32.rc : List Cut := []
def crc_Sum32.L3 (s : ByteArray) (r0 : Int) (t7 : Int) (t8 : Int) (h : Heap) (Q : Value → Heap → Prop) : Prop :=
 TW Tryz.prog 150 31 [.code (cAt (bodyOf Tryz.f150) [1, 1, 0, 1, 0, 0]), .inLoop (cAt (bodyOf Tryz.f150) [1, 1, 0, 1, 0, 0]), .inBlock 0, .code (cAt (bodyOf Tryz.f150) [1, 1, 1])] ⟨[(0, .v (.string s)), (3, .v (.int .u32 r0)), (7, .v (.int .i64 t7)), (8, .v (.int .i64 t8))], []⟩ h Q
def crc_Sum32.L7 (s : ByteArray) (r0 : Int) (t7 : Int) (t8 : Int) (t17 : Int) (h : Heap) (Q : Value → Heap → Prop) : Prop :=
 TW Tryz.prog 150 31 [.code (cAt (bodyOf Tryz.f150) [1, 1, 0, 1, 0, 0, 1, 1, 0, 0, 1, 1, 1, 0, 0]), .inLoop (cAt (bodyOf Tryz.f150) [1, 1, 0, 1, 0, 0, 1, 1, 0, 0, 1, 1, 1, 0, 0]), .inBlock 2, .inBlock 1, .code (cAt (bodyOf Tryz.f150) [1, 1, 0, 1, 0, 0, 1, 1, 1]), .inLoop (cAt (bodyOf Tryz.f150) [1, 1, 0, 1, 0, 0]), .inBlock 0, .code (cAt (bodyOf Tryz.f150) [1, 1, 1])] ⟨[(0, .v (.string s)), (3, .v (.int .u32 r0)), (7, .v (.int .i64 t7)), (8, .v (.int .i64 t8)), (17, .v (.int .i64 t17))], []⟩ h Q
def crc_Sum32.wp (s : ByteArray) (h : Heap) (Q : Value → Heap → Prop) : Prop :=
 crc_Sum32.L3 s 4294967295 (↑s.size : Int) 0 h Q
def crc_Sum32.L3.wp (s : ByteArray) (r0 : Int) (t7 : Int) (t8 : Int) (h : Heap) (Q : Value → Heap → Prop) : Prop :=
 xsIf (decide (t8 < t7)) (∃ (c : UInt8), 0 ≤ t8 ∧ bget s t8.toNat = some c ∧ crc_Sum32.L7 s (ixor .u32 r0 (IntKind.u32.wrap (↑c.toNat : Int))) t7 t8 0 h Q) (Q (.int .u32 (inot .u32 r0)) h)
def crc_Sum32.L7.wp (s : ByteArray) (r0 : Int) (t7 : Int) (t8 : Int) (t17 : Int) (h : Heap) (Q : Value → Heap → Prop) : Prop :=
 xsIf (decide (t17 < 8))
 (xsIf (decide (iand .u32 r0 1 ≠ 0)) (crc_Sum32.L7 s (ixor .u32 (ishr .u32 r0 1) 2197175160) t7 t8 (IntKind.i64.wrap (t17 + 1)) h Q) (crc_Sum32.L7 s (ishr .u32 r0 1) t7 t8 (IntKind.i64.wrap (t17 + 1)) h Q))
 (crc_Sum32.L3 s r0 t7 (IntKind.i64.wrap (t8 + 1)) h Q)
theorem crc_Sum32.ok {s : ByteArray} {h : Heap} {Q : Value → Heap → Prop} (hk : crc_Sum32.wp s h Q) : C Tryz.prog 150 #[.string s] h Q :=
 C_of_xs (H := crc_Sum32.H) (lcuts := crc_Sum32.lc) (rcuts := crc_Sum32.rc) (l := [.string s]) 2000 mixed Tryz.func150 rfl (by kernel_rfl) (@cast (crc_Sum32.wp s h Q) _ (by kernel_rfl) hk)
theorem crc_Sum32.L3.ok {s : ByteArray} {r0 : Int} {t7 : Int} {t8 : Int} {h : Heap} {Q : Value → Heap → Prop} (hk : crc_Sum32.L3.wp s r0 t7 t8 h Q) : crc_Sum32.L3 s r0 t7 t8 h Q :=
 xs_ok (H := crc_Sum32.H) (lcuts := crc_Sum32.lc) (rcuts := crc_Sum32.rc) (fn := Tryz.f150) mixed Tryz.func150 2000 _ _ _ (@cast (crc_Sum32.L3.wp s r0 t7 t8 h Q) _ (by kernel_rfl) hk)
theorem crc_Sum32.L7.ok {s : ByteArray} {r0 : Int} {t7 : Int} {t8 : Int} {t17 : Int} {h : Heap} {Q : Value → Heap → Prop} (hk : crc_Sum32.L7.wp s r0 t7 t8 t17 h Q) : crc_Sum32.L7 s r0 t7 t8 t17 h Q :=
 xs_ok (H := crc_Sum32.H) (lcuts := crc_Sum32.lc) (rcuts := crc_Sum32.rc) (fn := Tryz.f150) mixed Tryz.func150 2000 _ _ _ (@cast (crc_Sum32.L7.wp s r0 t7 t8 t17 h Q) _ (by kernel_rfl) hk)

/-! (gabion/flat.Config).head -/
def flat_Config_head.H : Hn := ⟨[], [], [], []⟩
def flat_Config_head.lc : List Cut := [⟨3, [1, 3, 14, 15, 16], [1]⟩]
def flat_Config_head.rc : List Cut := []
def flat_Config_head.L3 (s : ByteArray) (t14 : Option Addr) (t14_n : Nat) (t14_c : Nat) (t15 : Int) (t16 : Int) (c_1_0 : Int) (c_1_1 : Int) (c_1_2 : Int) (c_1_3 : Int) (c_1_4 : Int) (h : Heap) (Q : Value → Heap → Prop) : Prop :=
 TW Tryz.prog 79 43 [.code (cAt (bodyOf Tryz.f79) [1, 1, 0, 1, 0, 0]), .inLoop (cAt (bodyOf Tryz.f79) [1, 1, 0, 1, 0, 0]), .inBlock 0, .code (cAt (bodyOf Tryz.f79) [1, 1, 1])] ⟨[(1, .p 1 0), (3, .v (.string s)), (14, .v (.slice t14 t14_n t14_c)), (15, .v (.int .i64 t15)), (16, .v (.int .i64 t16))], [(1, [.int .i64 c_1_0, .int .i64 c_1_1, .int .i64 c_1_2, .int .i64 c_1_3, .int .u64 c_1_4])]⟩ h Q
def flat_Config_head.wp (c_0 : Int) (c_1 : Int) (c_2 : Int) (c_3 : Int) (c_4 : Int) (h : Heap) (Q : Value → Heap → Prop) : Prop :=
 ∀ (b : Nat),
 h b = none →
 flat_Config_head.L3 { data := #[UInt8.ofNat 103, UInt8.ofNat 97, UInt8.ofNat 98, UInt8.ofNat 105, UInt8.ofNat 111, UInt8.ofNat 110, UInt8.ofNat 48, UInt8.ofNat 49] } (some { block := b, off := 0 }) 4 4 (↑4 : Int) 0 c_0 c_1
 c_2 c_3 c_4 (upd h b (Obj.cells #[.int .i64 c_0, .int .i64 c_1, .int .i64 c_2, .int .i64 c_3] 3 (0, 0))) Q
def flat_Config_head.L3.wp (s : ByteArray) (t14 : Option Addr) (t14_n : Nat) (t14_c : Nat) (t15 : Int) (t16 : Int) (c_1_0 : Int) (c_1_1 : Int) (c_1_2 : Int) (c_1_3 : Int) (c_1_4 : Int) (h : Heap) (Q : Value → Heap → Prop) : Prop :=
 xsIf (decide (t16 < t15))
 ((0 ≤ t16 ∧ t16 < (↑t14_n : Int)) ∧
 atBase t14 fun (b o : Nat) =>
 ∃ (x : Int),
 h.cell b (o + t16.toNat * 1) = some (.int .i64 x) ∧
 C Tryz.prog 149 #[.int .u64 (IntKind.u64.wrap x), .int .i64 2] h fun (r : Value) (h' : Heap) =>
 ∃ (x : ByteArray), r = .string x ∧ (↑(s.size + x.size) : Int) ≤ 9223372036854775807 ∧ flat_Config_head.L3 (s ++ x) t14 t14_n t14_c t15 (IntKind.i64.wrap (t16 + 1)) c_1_0 c_1_1 c_1_2 c_1_3 c_1_4 h' Q)
 (C Tryz.prog 149 #[.int .u64 c_1_4, .int .i64 8] h fun (r : Value) (h' : Heap) =>
 ∃ (x : ByteArray),
 r = .string x ∧
 (↑(s.size + x.size) : Int) ≤ 9223372036854775807 ∧
 C Tryz.prog 76 #[.string { data := #[UInt8.ofNat 0] }, .int .i64 (IntKind.i64.wrap (60 - (↑(s ++ x).size : Int)))] h' fun (r : Value) (h' : Heap) =>
 ∃ (x_1 : ByteArray),
 r = .string x_1 ∧
 (↑((s ++ x).size + x_1.size) : Int) ≤ 9223372036854775807 ∧
 C Tryz.prog 150 #[.string (s ++ x ++ x_1)] h' fun (r : Value) (h' : Heap) =>
 ∃ (x_2 : Int),
 r = .int .u32 x_2 ∧
 C Tryz.prog 149 #[.int .u64 (IntKind.u64.wrap x_2), .int .i64 4] h' fun (r : Value) (h' : Heap) =>
 ∃ (x_3 : ByteArray), r = .string x_3 ∧ (↑((s ++ x ++ x_1).size + x_3.size) : Int) ≤ 9223372036854775807 ∧ Q (.string (s ++ x ++ x_1 ++ x_3)) h')
theorem flat_Config_head.ok {c_0 : Int} {c_1 : Int} {c_2 : Int} {c_3 : Int} {c_4 : Int} {h : Heap} {Q : Value → Heap → Prop} (hk : flat_Config_head.wp c_0 c_1 c_2 c_3 c_4 h Q) : C Tryz.prog 79 #[.agg #[.int .i64 c_0, .int .i64 c_1, .int .i64 c_2, .int .i64 c_3, .int .u64 c_4]] h Q :=
 C_of_xs (H := flat_Config_head.H) (lcuts := flat_Config_head.lc) (rcuts := flat_Config_head.rc) (l := [.agg #[.int .i64 c_0, .int .i64 c_1, .int .i64 c_2, .int .i64 c_3, .int .u64 c_4]]) 2000 mixed Tryz.func79 rfl (by kernel_rfl) (@cast (flat_Config_head.wp c_0 c_1 c_2 c_3 c_4 h Q) _ (by kernel_rfl) hk)
theorem flat_Config_head.L3.ok {s : ByteArray} {t14 : Option Addr} {t14_n : Nat} {t14_c : Nat} {t15 : Int} {t16 : Int} {c_1_0 : Int} {c_1_1 : Int} {c_1_2 : Int} {c_1_3 : Int} {c_1_4 : Int} {h : Heap} {Q : Value → Heap → Prop} (hk : flat_Config_head.L3.wp s t14 t14_n t14_c t15 t16 c_1_0 c_1_1 c_1_2 c_1_3 c_1_4 h Q) : flat_Config_head.L3 s t14 t14_n t14_c t15 t16 c_1_0 c_1_1 c_1_2 c_1_3 c_1_4 h Q :=
 xs_ok (H := flat_Config_head.H) (lcuts := flat_Config_head.lc) (rcuts := flat_Config_head.rc) (fn := Tryz.f79) mixed Tryz.func79 2000 _ _ _ (@cast (flat_Config_head.L3.wp s t14 t14_n t14_c t15 t16 c_1_0 c_1_1 c_1_2 c_1_3 c_1_4 h Q) _ (by kernel_rfl) hk)

/-! gabion/flat.put -/
def flat_put.H : Hn := ⟨[], [], [], []⟩
def flat_put.lc : List Cut := []
def flat_put.rc : List Cut := []
def flat_put.wp (d : Option Addr) (s : ByteArray) (h : Heap) (Q : Value → Heap → Prop) : Prop :=
 C Tryz.prog 75 #[.pointer d, .int .i64 0, .string s] h fun (r : Value) (h' : Heap) =>
 ∃ (x : Int),
 r = .int .i64 x ∧
 xsIf (decide (x ≠ 0)) (Q (.int .i64 x) h')
 (C Tryz.prog 101 #[.pointer d, .int .i64 0, .string s] h' fun (r : Value) (h' : Heap) =>
 ∃ (x : Bool), r = .bool x ∧ xsIf (!x) (Q (.int .i64 10) h') (Q (.int .i64 0) h'))
theorem flat_put.ok {d : Option Addr} {s : ByteArray} {h : Heap} {Q : Value → Heap → Prop} (hk : flat_put.wp d s h Q) : C Tryz.prog 78 #[.pointer d, .string s] h Q :=
 C_of_xs (H := flat_put.H) (lcuts := flat_put.lc) (rcuts := flat_put.rc) (l := [.pointer d, .string s]) 2000 mixed Tryz.func78 rfl (by kernel_rfl) (@cast (flat_put.wp d s h Q) _ (by kernel_rfl) hk)

/-! gabion/flat.Make -/
def flat_Make.H : Hn := ⟨[], [], [⟨3, .q 0 (.q 1 (.q 2 (.q 3 (.q 4 (.nil))))), []⟩], []⟩
def flat_Make.lc : List Cut := [⟨10, [0, 3, 25, 26], [3]⟩]
def flat_Make.rc : List Cut := []
def flat_Make.L10 (d : Option Addr) (t25 : Int) (t26 : Int) (c_3_0 : Int) (c_3_1 : Int) (c_3_2 : Int) (c_3_3 : Int) (c_3_4 : Int) (h : Heap) (Q : Value → Heap → Prop) : Prop :=
 TW Tryz.prog 17 42 [.code (cAt (bodyOf Tryz.f17) [1, 1, 1, 1, 0, 1, 0, 0]), .inLoop (cAt (bodyOf Tryz.f17) [1, 1, 1, 1, 0, 1, 0, 0]), .inBlock 0, .code (cAt (bodyOf Tryz.f17) [1, 1, 1, 1, 1])] ⟨[(0, .v (.pointer d)), (3, .p 3 0), (25, .v (.int .i64 t25)), (26, .v (.int .i64 t26))], [(3, [.int .i64 c_3_0, .int .i64 c_3_1, .int .i64 c_3_2, .int .i64 c_3_3, .int .u64 c_3_4])]⟩ h Q
def flat_Make.wp (d : Option Addr) (c_0 : Int) (c_1 : Int) (c_2 : Int) (c_3 : Int) (c_4 : Int) (h : Heap) (Q : Value → Heap → Prop) : Prop :=
 xsIf d.isNone (Q (.int .i64 1) h)
 (C Tryz.prog 74 #[.pointer d] h fun (r : Value) (h' : Heap) =>
 ∃ (x : Int),
 r = .int .i64 x ∧
 C Tryz.prog 34 #[.agg #[.int .i64 c_0, .int .i64 c_1, .int .i64 c_2, .int .i64 c_3, .int .u64 c_4], .int .i64 x] h'
 fun (r : Value) (h' : Heap) =>
 ∃ (x : Int),
 r = .int .i64 x ∧
 xsIf (decide (x ≠ 0)) (Q (.int .i64 x) h')
 (C Tryz.prog 76 #[.string { data := #[UInt8.ofNat 0] }, .int .i64 64] h' fun (r : Value) (h' : Heap) =>
 ∃ (x : ByteArray),
 r = .string x ∧
 C Tryz.prog 75 #[.pointer d, .int .i64 0, .string x] h' fun (r : Value) (h' : Heap) =>
 ∃ (x : Int), r = .int .i64 x ∧ xsIf (decide (x ≠ 0)) (Q (.int .i64 x) h') (flat_Make.L10 d c_0 0 c_0 c_1 c_2 c_3 c_4 h' Q)))
def flat_Make.L10.wp (d : Option Addr) (t25 : Int) (t26 : Int) (c_3_0 : Int) (c_3_1 : Int) (c_3_2 : Int) (c_3_3 : Int) (c_3_4 : Int) (h : Heap) (Q : Value → Heap → Prop) : Prop :=
 xsIf (decide (t26 < t25))
 (C Tryz.prog 71 #[.agg #[.int .i64 c_3_0, .int .i64 c_3_1, .int .i64 c_3_2, .int .i64 c_3_3, .int .u64 c_3_4], .int .i64 t26] h
 fun (r : Value) (h' : Heap) =>
 ∃ (x : Int),
 ∃ (x_1 : Int),
 ∃ (x_2 : Int),
 ∃ (x_3 : Int),
 r = .agg #[.int .i64 x, .int .i64 x_1, .int .i64 x_2, .int .i64 x_3] ∧
 C Tryz.prog 77 #[.pointer d, .agg #[.int .i64 x, .int .i64 x_1, .int .i64 x_2, .int .i64 x_3]] h' fun (r : Value) (h' : Heap) =>
 ∃ (x : Int), r = .int .i64 x ∧ xsIf (decide (x ≠ 0)) (Q (.int .i64 x) h') (flat_Make.L10 d t25 (IntKind.i64.wrap (t26 + 1)) c_3_0 c_3_1 c_3_2 c_3_3 c_3_4 h' Q))
 (C Tryz.prog 79 #[.agg #[.int .i64 c_3_0, .int .i64 c_3_1, .int .i64 c_3_2, .int .i64 c_3_3, .int .u64 c_3_4]] h fun (r : Value) (h' : Heap) =>
 ∃ (x : ByteArray), r = .string x ∧ C Tryz.prog 78 #[.pointer d, .string x] h' fun (r : Value) (h' : Heap) => ∃ (x : Int), r = .int .i64 x ∧ Q (.int .i64 x) h')
theorem flat_Make.ok {d : Option Addr} {c_0 : Int} {c_1 : Int} {c_2 : Int} {c_3 : Int} {c_4 : Int} {h : Heap} {Q : Value → Heap → Prop} (hk : flat_Make.wp d c_0 c_1 c_2 c_3 c_4 h Q) : C Tryz.prog 17 #[.pointer d, .agg #[.int .i64 c_0, .int .i64 c_1, .int .i64 c_2, .int .i64 c_3, .int .u64 c_4]] h Q :=
 C_of_xs (H := flat_Make.H) (lcuts := flat_Make.lc) (rcuts := flat_Make.rc) (l := [.pointer d, .agg #[.int .i64 c_0, .int .i64 c_1, .int .i64 c_2, .int .i64 c_3, .int .u64 c_4]]) 2000 mixed Tryz.func17 rfl (by kernel_rfl) (@cast (flat_Make.wp d c_0 c_1 c_2 c_3 c_4 h Q) _ (by kernel_rfl) hk)
theorem flat_Make.L10.ok {d : Option Addr} {t25 : Int} {t26 : Int} {c_3_0 : Int} {c_3_1 : Int} {c_3_2 : Int} {c_3_3 : Int} {c_3_4 : Int} {h : Heap} {Q : Value → Heap → Prop} (hk : flat_Make.L10.wp d t25 t26 c_3_0 c_3_1 c_3_2 c_3_3 c_3_4 h Q) : flat_Make.L10 d t25 t26 c_3_0 c_3_1 c_3_2 c_3_3 c_3_4 h Q :=
 xs_ok (H := flat_Make.H) (lcuts := flat_Make.lc) (rcuts := flat_Make.rc) (fn := Tryz.f17) mixed Tryz.func17 2000 _ _ _ (@cast (flat_Make.L10.wp d t25 t26 c_3_0 c_3_1 c_3_2 c_3_3 c_3_4 h Q) _ (by kernel_rfl) hk)

/-! gabion/flat.read -/
def flat_read.H : Hn := ⟨[], [4], [⟨9, .q 0 (.q 1 (.q 2 (.q 3 (.q 4 (.q 5 (.q 6 (.q 7 (.q 8 (.q 9 (.q 10 (.q 11 (.q 12 (.br 13 (.q 14 (.q 15 (.q 16 (.nil)))) (.one 15 (.q 13 (.q 14 (.q 16 (.nil)))))))))))))))))), [7]⟩, ⟨10, .q 0 (.q 1 (.q 3 (.q 2 (.q 4 (.q 5 (.q 6 (.nil))))))), [2]⟩], []⟩
def flat_read.lc : List Cut := [⟨4, [0, 2, 4, 5, 8], [2, 4]⟩]
def flat_read.rc : List Cut := []
def flat_read.L4 (s : ByteArray) (at0 : Int) (t8 : Int) (t2_0 : Int) (t2_1 : Int) (t2_2 : Int) (t2_3 : Int) (t2_4 : Int) (n : List Value) (h : Heap) (Q : Value → Heap → Prop) : Prop :=
 TW Tryz.prog 81 43 [.code (cAt (bodyOf Tryz.f81) [1, 1, 1, 0, 1, 0, 0]), .inLoop (cAt (bodyOf Tryz.f81) [1, 1, 1, 0, 1, 0, 0]), .inBlock 0, .code (cAt (bodyOf Tryz.f81) [1, 1, 1, 1])] ⟨[(0, .v (.string s)), (2, .p 2 0), (4, .p 4 0), (5, .v (.int .i64 at0)), (8, .v (.int .i64 t8))], [(2, [.int .i64 t2_0, .int .i64 t2_1, .int .i64 t2_2, .int .i64 t2_3, .int .u64 t2_4]), (4, n)]⟩ h Q
def flat_read.wp (s : ByteArray) (h : Heap) (Q : Value → Heap → Prop) : Prop :=
 flat_read.L4 s 8 0 0 0 0 0 0 [.int .i64 0, .int .i64 0, .int .i64 0, .int .i64 0] h Q
def flat_read.L4.wp (s : ByteArray) (at0 : Int) (t8 : Int) (t2_0 : Int) (t2_1 : Int) (t2_2 : Int) (t2_3 : Int) (t2_4 : Int) (n : List Value) (h : Heap) (Q : Value → Heap → Prop) : Prop :=
 xsIf (decide (t8 < 4))
 ((0 ≤ IntKind.i64.wrap (at0 + 2) ∧ IntKind.i64.wrap (at0 + 2) ≤ (↑s.size : Int)) ∧
 (0 ≤ at0 ∧ at0 ≤ IntKind.i64.wrap (at0 + 2)) ∧
 C Tryz.prog 153 #[.string (sext s at0 (IntKind.i64.wrap (at0 + 2)))] h fun (r : Value) (h' : Heap) =>
 ∃ (x : Int),
 r = .int .u64 x ∧
 (0 ≤ t8 ∧ t8 < (↑4 : Int)) ∧
 0 + t8.toNat * 1 + 1 ≤ n.length ∧ flat_read.L4 s (IntKind.i64.wrap (at0 + 2)) (IntKind.i64.wrap (t8 + 1)) t2_0 t2_1 t2_2 t2_3 t2_4 (lput n (0 + t8.toNat * 1) [.int .i64 (IntKind.i64.wrap x)]) h' Q)
 (∃ (x : Int),
 lget n 0 = some (.int .i64 x) ∧
 ∃ (x_1 : Int),
 lget n 1 = some (.int .i64 x_1) ∧
 ∃ (x_2 : Int),
 lget n 2 = some (.int .i64 x_2) ∧
 ∃ (x_3 : Int),
 lget n 3 = some (.int .i64 x_3) ∧
 (0 ≤ IntKind.i64.wrap (at0 + 8) ∧ IntKind.i64.wrap (at0 + 8) ≤ (↑s.size : Int)) ∧
 (0 ≤ at0 ∧ at0 ≤ IntKind.i64.wrap (at0 + 8)) ∧
 (C Tryz.prog 153 #[.string (sext s at0 (IntKind.i64.wrap (at0 + 8)))] h fun (r : Value) (h' : Heap) =>
 ∃ (x_4 : Int),
 r = .int .u64 x_4 ∧
 C Tryz.prog 79 #[.agg #[.int .i64 x, .int .i64 x_1, .int .i64 x_2, .int .i64 x_3, .int .u64 x_4]] h'
 fun (r : Value) (h' : Heap) =>
 ∃ (x_5 : ByteArray),
 r = .string x_5 ∧
 Q
 (.tuple
 #[.agg #[.int .i64 x, .int .i64 x_1, .int .i64 x_2, .int .i64 x_3, .int .u64 x_4], .bool (decide (x_5 = s))])
 h') ∧
 C Tryz.prog 153 #[.string (sext s at0 (IntKind.i64.wrap (at0 + 8)))] h fun (r : Value) (h' : Heap) =>
 ∃ (x_4 : Int),
 r = .int .u64 x_4 ∧
 C Tryz.prog 79 #[.agg #[.int .i64 x, .int .i64 x_1, .int .i64 x_2, .int .i64 x_3, .int .u64 x_4]] h'
 fun (r : Value) (h' : Heap) =>
 ∃ (x_5 : ByteArray),
 r = .string x_5 ∧
 Q
 (.tuple
 #[.agg #[.int .i64 x, .int .i64 x_1, .int .i64 x_2, .int .i64 x_3, .int .u64 x_4], .bool (decide (x_5 = s))])
 h')
theorem flat_read.ok {s : ByteArray} {h : Heap} {Q : Value → Heap → Prop} (hk : flat_read.wp s h Q) : C Tryz.prog 81 #[.string s] h Q :=
 C_of_xs (H := flat_read.H) (lcuts := flat_read.lc) (rcuts := flat_read.rc) (l := [.string s]) 2000 mixed Tryz.func81 rfl (by kernel_rfl) (@cast (flat_read.wp s h Q) _ (by kernel_rfl) hk)
theorem flat_read.L4.ok {s : ByteArray} {at0 : Int} {t8 : Int} {t2_0 : Int} {t2_1 : Int} {t2_2 : Int} {t2_3 : Int} {t2_4 : Int} {n : List Value} {h : Heap} {Q : Value → Heap → Prop} (hk : flat_read.L4.wp s at0 t8 t2_0 t2_1 t2_2 t2_3 t2_4 n h Q) : flat_read.L4 s at0 t8 t2_0 t2_1 t2_2 t2_3 t2_4 n h Q :=
 xs_ok (H := flat_read.H) (lcuts := flat_read.lc) (rcuts := flat_read.rc) (fn := Tryz.f81) mixed Tryz.func81 2000 _ _ _ (@cast (flat_read.L4.wp s at0 t8 t2_0 t2_1 t2_2 t2_3 t2_4 n h Q) _ (by kernel_rfl) hk)

/-! (*gabion/spare.Bank).Read -/
def spare_Bank_Read.H : Hn := ⟨[], [], [], []⟩
def spare_Bank_Read.lc : List Cut := []
def spare_Bank_Read.rc : List Cut := []
def spare_Bank_Read.wp (b : Option Addr) (i : Int) (h : Heap) (Q : Value → Heap → Prop) : Prop :=
 C Tryz.prog 164 #[.pointer b, .int .i64 i] h fun (r : Value) (h' : Heap) =>
 ∃ (x : Int),
 ∃ (x_1 : Int),
 r = .tuple #[.int .i64 x, .int .i64 x_1] ∧
 xsIf (decide (x_1 ≠ 0)) (Q (.tuple #[.string { data := #[] }, .int .i64 x_1]) h')
 (atBase b fun (b o : Nat) =>
 ∃ (x_2 : Option Addr),
 h'.cell b (o + 0) = some (.pointer x_2) ∧
 C Tryz.prog 80 #[.pointer x_2, .int .i64 x] h' fun (r : Value) (h' : Heap) =>
 ∃ (x : ByteArray), ∃ (x_3 : Int), r = .tuple #[.string x, .int .i64 x_3] ∧ Q (.tuple #[.string x, .int .i64 x_3]) h')
theorem spare_Bank_Read.ok {b : Option Addr} {i : Int} {h : Heap} {Q : Value → Heap → Prop} (hk : spare_Bank_Read.wp b i h Q) : C Tryz.prog 154 #[.pointer b, .int .i64 i] h Q :=
 C_of_xs (H := spare_Bank_Read.H) (lcuts := spare_Bank_Read.lc) (rcuts := spare_Bank_Read.rc) (l := [.pointer b, .int .i64 i]) 2000 mixed Tryz.func154 rfl (by kernel_rfl) (@cast (spare_Bank_Read.wp b i h Q) _ (by kernel_rfl) hk)

/-! gabion/gap.Unpack -/
def gap_Unpack.H : Hn := ⟨[], [], [], []⟩
def gap_Unpack.lc : List Cut := []
def gap_Unpack.rc : List Cut := []
def gap_Unpack.wp (w : Int) (h : Heap) (Q : Value → Heap → Prop) : Prop :=
 C Tryz.prog 157 #[.int .u64 w, .int .i64 0, .int .i64 16] h fun (r : Value) (h' : Heap) =>
 ∃ (x : Int),
 r = .int .u64 x ∧
 C Tryz.prog 157 #[.int .u64 w, .int .i64 16, .int .i64 16] h' fun (r : Value) (h' : Heap) =>
 ∃ (x_1 : Int),
 r = .int .u64 x_1 ∧
 C Tryz.prog 157 #[.int .u64 w, .int .i64 32, .int .i64 32] h' fun (r : Value) (h' : Heap) =>
 ∃ (x_2 : Int), r = .int .u64 x_2 ∧ Q (.agg #[.int .i64 (IntKind.i64.wrap x), .int .i64 (IntKind.i64.wrap x_1), .int .u32 (IntKind.u32.wrap x_2)]) h'
theorem gap_Unpack.ok {w : Int} {h : Heap} {Q : Value → Heap → Prop} (hk : gap_Unpack.wp w h Q) : C Tryz.prog 155 #[.int .u64 w] h Q :=
 C_of_xs (H := gap_Unpack.H) (lcuts := gap_Unpack.lc) (rcuts := gap_Unpack.rc) (l := [.int .u64 w]) 2000 mixed Tryz.func155 rfl (by kernel_rfl) (@cast (gap_Unpack.wp w h Q) _ (by kernel_rfl) hk)

/-! (gabion/gap.State).Right -/
def gap_State_Right.H : Hn := ⟨[], [], [], []⟩
def gap_State_Right.lc : List Cut := []
def gap_State_Right.rc : List Cut := []
def gap_State_Right.wp (s_0 : Int) (s_1 : Int) (s_2 : Int) (n : Int) (h : Heap) (Q : Value → Heap → Prop) : Prop :=
 C Tryz.prog 208 #[.int .i64 n] h fun (r : Value) (h' : Heap) =>
 ∃ (x : Bool),
 r = .bool x ∧
 xsIf x (xsIf (decide (0 ≤ s_0)) (xsIf (decide (s_0 < n)) (xsIf (decide (0 ≤ s_1)) (Q (.bool (decide (s_1 ≤ n))) h') (Q (.bool false) h')) (Q (.bool false) h')) (Q (.bool false) h')) (Q (.bool false) h')
theorem gap_State_Right.ok {s_0 : Int} {s_1 : Int} {s_2 : Int} {n : Int} {h : Heap} {Q : Value → Heap → Prop} (hk : gap_State_Right.wp s_0 s_1 s_2 n h Q) : C Tryz.prog 156 #[.agg #[.int .i64 s_0, .int .i64 s_1, .int .u32 s_2], .int .i64 n] h Q :=
 C_of_xs (H := gap_State_Right.H) (lcuts := gap_State_Right.lc) (rcuts := gap_State_Right.rc) (l := [.agg #[.int .i64 s_0, .int .i64 s_1, .int .u32 s_2], .int .i64 n]) 2000 mixed Tryz.func156 rfl (by kernel_rfl) (@cast (gap_State_Right.wp s_0 s_1 s_2 n h Q) _ (by kernel_rfl) hk)

/-! gabion/ring.Open -/
def ring_Open.H : Hn := ⟨[43], [], [⟨10, .q 0 (.q 1 (.q 2 (.q 3 (.q 4 (.q 5 (.q 6 (.q 7 (.nil)))))))), [43]⟩, ⟨11, .q 0 (.q 1 (.q 2 (.q 4 (.q 5 (.q 3 (.q 6 (.q 7 (.nil)))))))), []⟩], []⟩
def ring_Open.lc : List Cut := []
def ring_Open.rc : List Cut := []
def ring_Open.wp (d : Option Addr) (p_0 : Int) (p_1 : Int) (p_2 : Int) (p_3 : Int) (h : Heap) (Q : Value → Heap → Prop) : Prop :=
 C Tryz.prog 143 #[.pointer d, .agg #[.int .i64 p_0, .int .i64 p_1, .int .i64 p_2, .int .i64 p_3]] h fun (r : Value) (h' : Heap) =>
 ∃ (x : Int),
 r = .int .i64 x ∧
 xsIf (decide (x ≠ 0)) (Q (.tuple #[.pointer none, .int .i64 x]) h')
 (C Tryz.prog 72 #[.agg #[.int .i64 p_0, .int .i64 p_1, .int .i64 p_2, .int .i64 p_3]] h' fun (r : Value) (h' : Heap) =>
 ∃ (x : Int),
 ∃ (x_1 : Int),
 ∃ (x_2 : Int),
 r = .agg #[.int .i64 x, .int .i64 x_1, .int .i64 x_2] ∧
 C Tryz.prog 145 #[.pointer d, .agg #[.int .i64 x, .int .i64 x_1, .int .i64 x_2]] h' fun (r : Value) (h' : Heap) =>
 ∃ (x : Option Addr),
 ∃ (x_3 : Int),
 r = .tuple #[.pointer x, .int .i64 x_3] ∧
 xsIf (decide (x_3 ≠ 0)) (Q (.tuple #[.pointer none, .int .i64 x_3]) h')
 (C Tryz.prog 131 #[.agg #[.int .i64 p_0, .int .i64 p_1, .int .i64 p_2, .int .i64 p_3]] h' fun (r : Value) (h' : Heap) =>
 ∃ (x_4 : Int),
 r = .int .i64 x_4 ∧
 C Tryz.prog 154 #[.pointer x, .int .i64 x_4] h' fun (r : Value) (h' : Heap) =>
 ∃ (x_5 : ByteArray),
 ∃ (x_6 : Int),
 r = .tuple #[.string x_5, .int .i64 x_6] ∧
 xsIf (decide (x_6 ≠ 0)) (Q (.tuple #[.pointer none, .int .i64 x_6]) h')
 (C Tryz.prog 153 #[.string x_5] h' fun (r : Value) (h' : Heap) =>
 ∃ (x_7 : Int),
 r = .int .u64 x_7 ∧
 C Tryz.prog 155 #[.int .u64 x_7] h' fun (r : Value) (h' : Heap) =>
 ∃ (x_8 : Int),
 ∃ (x_9 : Int),
 ∃ (x_10 : Int),
 r = .agg #[.int .i64 x_8, .int .i64 x_9, .int .u32 x_10] ∧
 ∀ (b : Nat),
 h' b = none →
 atBase (some { block := b, off := 0 }) fun (b_1 o : Nat) =>
 ∃ (x_11 : Int),
 (upd h' b
 (Obj.cells
 #[.int .i64 p_0, .int .i64 p_1, .int .i64 p_2, .int .i64 p_3, .pointer x, .int .i64 x_8,
 .int .i64 x_9, .int .u32 x_10, .int .i64 0]
 237 (0, 0))).cell
 b_1 (o + 5) =
 some (.int .i64 x_11) ∧
 ∃ (x_12 : Int),
 (upd h' b
 (Obj.cells
 #[.int .i64 p_0, .int .i64 p_1, .int .i64 p_2, .int .i64 p_3, .pointer x, .int .i64 x_8,
 .int .i64 x_9, .int .u32 x_10, .int .i64 0]
 237 (0, 0))).cell
 b_1 (o + 5 + 1) =
 some (.int .i64 x_12) ∧
 ∃ (x_13 : Int),
 (upd h' b
 (Obj.cells
 #[.int .i64 p_0, .int .i64 p_1, .int .i64 p_2, .int .i64 p_3, .pointer x,
 .int .i64 x_8, .int .i64 x_9, .int .u32 x_10, .int .i64 0]
 237 (0, 0))).cell
 b_1 (o + 5 + 1 + 1) =
 some (.int .u32 x_13) ∧
 C Tryz.prog 156
 #[.agg #[.int .i64 x_11, .int .i64 x_12, .int .u32 x_13], .int .i64 p_1]
 (upd h' b
 (Obj.cells
 #[.int .i64 p_0, .int .i64 p_1, .int .i64 p_2, .int .i64 p_3, .pointer x, .int .i64 x_8,
 .int .i64 x_9, .int .u32 x_10, .int .i64 0]
 237 (0, 0)))
 fun (r : Value) (h' : Heap) =>
 ∃ (x : Bool),
 r = .bool x ∧
 xsIf (!x) (Q (.tuple #[.pointer none, .int .i64 4]) h')
 (Q (.tuple #[.pointer (some { block := b, off := 0 }), .int .i64 0]) h'))))
theorem ring_Open.ok {d : Option Addr} {p_0 : Int} {p_1 : Int} {p_2 : Int} {p_3 : Int} {h : Heap} {Q : Value → Heap → Prop} (hk : ring_Open.wp d p_0 p_1 p_2 p_3 h Q) : C Tryz.prog 82 #[.pointer d, .agg #[.int .i64 p_0, .int .i64 p_1, .int .i64 p_2, .int .i64 p_3]] h Q :=
 C_of_xs (H := ring_Open.H) (lcuts := ring_Open.lc) (rcuts := ring_Open.rc) (l := [.pointer d, .agg #[.int .i64 p_0, .int .i64 p_1, .int .i64 p_2, .int .i64 p_3]]) 2000 mixed Tryz.func82 rfl (by kernel_rfl) (@cast (ring_Open.wp d p_0 p_1 p_2 p_3 h Q) _ (by kernel_rfl) hk)

/-! gabion/feistel.New -/
def feistel_New.H : Hn := ⟨[], [6], [], []⟩
def feistel_New.lc : List Cut := [⟨4, [0, 1, 4, 6], [4, 6]⟩, ⟨7, [1, 4, 6, 27], [4, 6]⟩]
def feistel_New.rc : List Cut := [⟨3, [0, 1, 4], [4]⟩, ⟨6, [1, 4, 6], [4, 6]⟩]
def feistel_New.J3 (m : Int) (key : Int) (t4_0 : Int) (t4_1 : Int) (t4_2 : Int) (t4_3 : Int) (t4_4 : Int) (t4_5 : Int) (h : Heap) (Q : Value → Heap → Prop) : Prop :=
 TW Tryz.prog 83 40 [.code (cAt (bodyOf Tryz.f83) [1, 1, 0]), .code (cAt (bodyOf Tryz.f83) [1, 1, 1])] ⟨[(0, .v (.int .i64 m)), (1, .v (.int .u64 key)), (4, .p 4 0)], [(4, [.int .i64 t4_0, .int .i64 t4_1, .int .u16 t4_2, .int .u16 t4_3, .int .u16 t4_4, .int .u16 t4_5])]⟩ h Q
def feistel_New.L4 (m : Int) (key : Int) (t4_0 : Int) (t4_1 : Int) (t4_2 : Int) (t4_3 : Int) (t4_4 : Int) (t4_5 : Int) (p : List Value) (h : Heap) (Q : Value → Heap → Prop) : Prop :=
 TW Tryz.prog 83 40 [.code (cAt (bodyOf Tryz.f83) [1, 1, 1, 0, 0, 0]), .inLoop (cAt (bodyOf Tryz.f83) [1, 1, 1, 0, 0, 0]), .inBlock 0, .code (cAt (bodyOf Tryz.f83) [1, 1, 1, 1])] ⟨[(0, .v (.int .i64 m)), (1, .v (.int .u64 key)), (4, .p 4 0), (6, .p 6 0)], [(4, [.int .i64 t4_0, .int .i64 t4_1, .int .u16 t4_2, .int .u16 t4_3, .int .u16 t4_4, .int .u16 t4_5]), (6, p)]⟩ h Q
def feistel_New.J6 (key : Int) (t4_0 : Int) (t4_1 : Int) (t4_2 : Int) (t4_3 : Int) (t4_4 : Int) (t4_5 : Int) (p : List Value) (h : Heap) (Q : Value → Heap → Prop) : Prop :=
 TW Tryz.prog 83 40 [.code (cAt (bodyOf Tryz.f83) [1, 1, 1, 1, 0, 0]), .code (cAt (bodyOf Tryz.f83) [1, 1, 1, 1, 0, 1]), .code (cAt (bodyOf Tryz.f83) [1, 1, 1, 1, 1])] ⟨[(1, .v (.int .u64 key)), (4, .p 4 0), (6, .p 6 0)], [(4, [.int .i64 t4_0, .int .i64 t4_1, .int .u16 t4_2, .int .u16 t4_3, .int .u16 t4_4, .int .u16 t4_5]), (6, p)]⟩ h Q
def feistel_New.L7 (key : Int) (t27 : Int) (t4_0 : Int) (t4_1 : Int) (t4_2 : Int) (t4_3 : Int) (t4_4 : Int) (t4_5 : Int) (p : List Value) (h : Heap) (Q : Value → Heap → Prop) : Prop :=
 TW Tryz.prog 83 40 [.code (cAt (bodyOf Tryz.f83) [1, 1, 1, 1, 0, 1, 0, 0]), .inLoop (cAt (bodyOf Tryz.f83) [1, 1, 1, 1, 0, 1, 0, 0]), .inBlock 2, .code (cAt (bodyOf Tryz.f83) [1, 1, 1, 1, 1])] ⟨[(1, .v (.int .u64 key)), (4, .p 4 0), (6, .p 6 0), (27, .v (.int .i64 t27))], [(4, [.int .i64 t4_0, .int .i64 t4_1, .int .u16 t4_2, .int .u16 t4_3, .int .u16 t4_4, .int .u16 t4_5]), (6, p)]⟩ h Q
def feistel_New.wp (m : Int) (key : Int) (h : Heap) (Q : Value → Heap → Prop) : Prop :=
 xsIf (decide (m < 1))
 (Q (.tuple #[.agg #[.int .i64 0, .int .i64 0, .int .u16 0, .int .u16 0, .int .u16 0, .int .u16 0], .int .i64 2]) h)
 (xsIf (decide (8192 < m))
 (Q (.tuple #[.agg #[.int .i64 0, .int .i64 0, .int .u16 0, .int .u16 0, .int .u16 0, .int .u16 0], .int .i64 2]) h)
 (feistel_New.J3 m key 0 0 0 0 0 0 h Q))
def feistel_New.J3.wp (m : Int) (key : Int) (t4_0 : Int) (t4_1 : Int) (t4_2 : Int) (t4_3 : Int) (t4_4 : Int) (t4_5 : Int) (h : Heap) (Q : Value → Heap → Prop) : Prop :=
 6 ≤ 6 ∧
 feistel_New.L4 m key t4_0 t4_1 t4_2 t4_3 t4_4 t4_5
 (lput [.int .i64 0, .int .i64 0, .int .u16 0, .int .u16 0, .int .u16 0, .int .u16 0] 0
 [.int .i64 m, .int .i64 1, .int .u16 0, .int .u16 0, .int .u16 0, .int .u16 0])
 h Q
def feistel_New.L4.wp (m : Int) (key : Int) (t4_0 : Int) (t4_1 : Int) (t4_2 : Int) (t4_3 : Int) (t4_4 : Int) (t4_5 : Int) (p : List Value) (h : Heap) (Q : Value → Heap → Prop) : Prop :=
 ∃ (x : Int),
 lget p 1 = some (.int .i64 x) ∧
 0 ≤ IntKind.i64.wrap (2 * x) ∧
 xsIf (decide (ishl .i64 1 (IntKind.i64.wrap (2 * x)) < m))
 (∃ (x : Int), lget p 1 = some (.int .i64 x) ∧ 2 ≤ p.length ∧ feistel_New.L4 m key t4_0 t4_1 t4_2 t4_3 t4_4 t4_5 (lput p 1 [.int .i64 (IntKind.i64.wrap (x + 1))]) h Q)
 (feistel_New.J6 key t4_0 t4_1 t4_2 t4_3 t4_4 t4_5 p h Q)
def feistel_New.J6.wp (key : Int) (t4_0 : Int) (t4_1 : Int) (t4_2 : Int) (t4_3 : Int) (t4_4 : Int) (t4_5 : Int) (p : List Value) (h : Heap) (Q : Value → Heap → Prop) : Prop :=
 feistel_New.L7 key 0 t4_0 t4_1 t4_2 t4_3 t4_4 t4_5 p h Q
def feistel_New.L7.wp (key : Int) (t27 : Int) (t4_0 : Int) (t4_1 : Int) (t4_2 : Int) (t4_3 : Int) (t4_4 : Int) (t4_5 : Int) (p : List Value) (h : Heap) (Q : Value → Heap → Prop) : Prop :=
 xsIf (decide (t27 < 4))
 (C Tryz.prog 157 #[.int .u64 key, .int .i64 (IntKind.i64.wrap (16 * t27)), .int .i64 16] h fun (r : Value) (h' : Heap) =>
 ∃ (x : Int),
 r = .int .u64 x ∧
 (0 ≤ t27 ∧ t27 < (↑4 : Int)) ∧ 2 + t27.toNat * 1 + 1 ≤ p.length ∧ feistel_New.L7 key (IntKind.i64.wrap (t27 + 1)) t4_0 t4_1 t4_2 t4_3 t4_4 t4_5 (lput p (2 + t27.toNat * 1) [.int .u16 (IntKind.u16.wrap x)]) h' Q)
 (6 ≤ p.length ∧
 ∃ (x : Int),
 lget p 0 = some (.int .i64 x) ∧
 ∃ (x_1 : Int),
 lget p 1 = some (.int .i64 x_1) ∧
 ∃ (x_2 : Int),
 lget p 2 = some (.int .u16 x_2) ∧
 ∃ (x_3 : Int),
 lget p 3 = some (.int .u16 x_3) ∧
 ∃ (x_4 : Int),
 lget p 4 = some (.int .u16 x_4) ∧
 ∃ (x_5 : Int),
 lget p 5 = some (.int .u16 x_5) ∧
 Q
 (.tuple
 #[.agg #[.int .i64 x, .int .i64 x_1, .int .u16 x_2, .int .u16 x_3, .int .u16 x_4, .int .u16 x_5],
 .int .i64 0])
 h)
theorem feistel_New.ok {m : Int} {key : Int} {h : Heap} {Q : Value → Heap → Prop} (hk : feistel_New.wp m key h Q) : C Tryz.prog 83 #[.int .i64 m, .int .u64 key] h Q :=
 C_of_xs (H := feistel_New.H) (lcuts := feistel_New.lc) (rcuts := feistel_New.rc) (l := [.int .i64 m, .int .u64 key]) 2000 mixed Tryz.func83 rfl (by kernel_rfl) (@cast (feistel_New.wp m key h Q) _ (by kernel_rfl) hk)
theorem feistel_New.J3.ok {m : Int} {key : Int} {t4_0 : Int} {t4_1 : Int} {t4_2 : Int} {t4_3 : Int} {t4_4 : Int} {t4_5 : Int} {h : Heap} {Q : Value → Heap → Prop} (hk : feistel_New.J3.wp m key t4_0 t4_1 t4_2 t4_3 t4_4 t4_5 h Q) : feistel_New.J3 m key t4_0 t4_1 t4_2 t4_3 t4_4 t4_5 h Q :=
 xs_ok (H := feistel_New.H) (lcuts := feistel_New.lc) (rcuts := [⟨6, [1, 4, 6], [4, 6]⟩]) (fn := Tryz.f83) mixed Tryz.func83 2000 _ _ _ (@cast (feistel_New.J3.wp m key t4_0 t4_1 t4_2 t4_3 t4_4 t4_5 h Q) _ (by kernel_rfl) hk)
theorem feistel_New.L4.ok {m : Int} {key : Int} {t4_0 : Int} {t4_1 : Int} {t4_2 : Int} {t4_3 : Int} {t4_4 : Int} {t4_5 : Int} {p : List Value} {h : Heap} {Q : Value → Heap → Prop} (hk : feistel_New.L4.wp m key t4_0 t4_1 t4_2 t4_3 t4_4 t4_5 p h Q) : feistel_New.L4 m key t4_0 t4_1 t4_2 t4_3 t4_4 t4_5 p h Q :=
 xs_ok (H := feistel_New.H) (lcuts := feistel_New.lc) (rcuts := feistel_New.rc) (fn := Tryz.f83) mixed Tryz.func83 2000 _ _ _ (@cast (feistel_New.L4.wp m key t4_0 t4_1 t4_2 t4_3 t4_4 t4_5 p h Q) _ (by kernel_rfl) hk)
theorem feistel_New.J6.ok {key : Int} {t4_0 : Int} {t4_1 : Int} {t4_2 : Int} {t4_3 : Int} {t4_4 : Int} {t4_5 : Int} {p : List Value} {h : Heap} {Q : Value → Heap → Prop} (hk : feistel_New.J6.wp key t4_0 t4_1 t4_2 t4_3 t4_4 t4_5 p h Q) : feistel_New.J6 key t4_0 t4_1 t4_2 t4_3 t4_4 t4_5 p h Q :=
 xs_ok (H := feistel_New.H) (lcuts := feistel_New.lc) (rcuts := [⟨3, [0, 1, 4], [4]⟩]) (fn := Tryz.f83) mixed Tryz.func83 2000 _ _ _ (@cast (feistel_New.J6.wp key t4_0 t4_1 t4_2 t4_3 t4_4 t4_5 p h Q) _ (by kernel_rfl) hk)
theorem feistel_New.L7.ok {key : Int} {t27 : Int} {t4_0 : Int} {t4_1 : Int} {t4_2 : Int} {t4_3 : Int} {t4_4 : Int} {t4_5 : Int} {p : List Value} {h : Heap} {Q : Value → Heap → Prop} (hk : feistel_New.L7.wp key t27 t4_0 t4_1 t4_2 t4_3 t4_4 t4_5 p h Q) : feistel_New.L7 key t27 t4_0 t4_1 t4_2 t4_3 t4_4 t4_5 p h Q :=
 xs_ok (H := feistel_New.H) (lcuts := feistel_New.lc) (rcuts := feistel_New.rc) (fn := Tryz.f83) mixed Tryz.func83 2000 _ _ _ (@cast (feistel_New.L7.wp key t27 t4_0 t4_1 t4_2 t4_3 t4_4 t4_5 p h Q) _ (by kernel_rfl) hk)
end Go.Gb
