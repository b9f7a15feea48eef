/- Own text for the seat: W4. -/
import Derived.Test.YtjdleeamgmkbkaaGreatW3
set_option linter.unusedVariables false
set_option linter.unusedSimpArgs false
set_option linter.unnecessarySimpa false
set_option linter.deprecated false
set_option maxRecDepth 100000
namespace Go.Gb
open Go.Proofs

/-! gabion/gabionlaw09.FlatAlike -/
def gabionlaw09_FlatAlike.H : Hn := ⟨[], [9], [⟨1, .q 0 (.q 2 (.br 1 (.br 3 (.br 4 (.q 5 (.q 6 (.q 7 (.nil)))) (.one 5 (.q 4 (.q 6 (.q 7 (.nil)))))) (.br 4 (.br 3 (.q 5 (.q 6 (.q 7 (.nil)))) (.one 5 (.q 3 (.q 6 (.q 7 (.nil)))))) (.one 5 (.br 3 (.q 4 (.q 6 (.q 7 (.nil)))) (.one 4 (.q 3 (.q 6 (.q 7 (.nil))))))))) (.br 4 (.br 1 (.br 3 (.q 5 (.q 6 (.q 7 (.nil)))) (.one 5 (.q 3 (.q 6 (.q 7 (.nil)))))) (.one 5 (.q 1 (.q 3 (.q 6 (.q 7 (.nil))))))) (.one 5 (.br 1 (.br 3 (.q 4 (.q 6 (.q 7 (.nil)))) (.one 4 (.q 3 (.q 6 (.q 7 (.nil)))))) (.one 4 (.q 1 (.q 3 (.q 6 (.q 7 (.nil))))))))))), [7, 8]⟩, ⟨19, .q 0 (.q 1 (.q 2 (.q 3 (.q 4 (.q 6 (.q 7 (.q 8 (.q 9 (.q 10 (.q 5 (.q 11 (.q 12 (.q 13 (.nil)))))))))))))), []⟩, ⟨21, .q 0 (.q 1 (.q 2 (.q 3 (.q 4 (.q 5 (.q 6 (.q 7 (.q 9 (.q 10 (.q 11 (.q 12 (.q 13 (.q 14 (.q 15 (.q 16 (.q 8 (.q 17 (.q 18 (.q 19 (.nil)))))))))))))))))))), []⟩], []⟩
def gabionlaw09_FlatAlike.lc : List Cut := [⟨5, [2, 9, 35, 36, 37], [9]⟩, ⟨16, [9, 72, 73, 74], [9]⟩, ⟨25, [9, 72, 73, 74, 124], [9]⟩]
def gabionlaw09_FlatAlike.rc : List Cut := [⟨22, [9, 18, 19, 72, 73, 74], [9]⟩]
def gabionlaw09_FlatAlike.L5 (acts : Option Addr) (acts_n : Nat) (acts_c : Nat) (t35 : Option Addr) (t35_n : Nat) (t35_c : Nat) (t36 : Int) (t37 : Int) (f : List Value) (h : Heap) (Q : Value → Heap → Prop) : Prop :=
 TW Tryz.prog 3 155 [.code (cAt (bodyOf Tryz.f3) [1, 1, 1, 1, 0, 1, 0, 0]), .inLoop (cAt (bodyOf Tryz.f3) [1, 1, 1, 1, 0, 1, 0, 0]), .inBlock 0, .code (cAt (bodyOf Tryz.f3) [1, 1, 1, 1, 1])] ⟨[(2, .v (.slice acts acts_n acts_c)), (9, .p 9 0), (35, .v (.slice t35 t35_n t35_c)), (36, .v (.int .i64 t36)), (37, .v (.int .i64 t37))], [(9, f)]⟩ h Q
def gabionlaw09_FlatAlike.L16 (t72 : Option Addr) (t72_n : Nat) (t72_c : Nat) (t73 : Int) (t74 : Int) (f : List Value) (h : Heap) (Q : Value → Heap → Prop) : Prop :=
 TW Tryz.prog 3 155 [.code (cAt (bodyOf Tryz.f3) [1, 1, 1, 1, 1, 0, 1, 0, 0]), .inLoop (cAt (bodyOf Tryz.f3) [1, 1, 1, 1, 1, 0, 1, 0, 0]), .inBlock 2, .code (cAt (bodyOf Tryz.f3) [1, 1, 1, 1, 1, 1])] ⟨[(9, .p 9 0), (72, .v (.slice t72 t72_n t72_c)), (73, .v (.int .i64 t73)), (74, .v (.int .i64 t74))], [(9, f)]⟩ h Q
def gabionlaw09_FlatAlike.J22 (e_18 : Int) (g : Int) (t72 : Option Addr) (t72_n : Nat) (t72_c : Nat) (t73 : Int) (t74 : Int) (f : List Value) (h : Heap) (Q : Value → Heap → Prop) : Prop :=
 TW Tryz.prog 3 155 [.code (cAt (bodyOf Tryz.f3) [1, 1, 1, 1, 1, 0, 1, 0, 0, 1, 1, 0, 0, 1, 1, 1, 1, 0, 0]), .code (cAt (bodyOf Tryz.f3) [1, 1, 1, 1, 1, 0, 1, 0, 0, 1, 1, 0, 0, 1, 1, 1, 1, 0, 1]), .code (cAt (bodyOf Tryz.f3) [1, 1, 1, 1, 1, 0, 1, 0, 0, 1, 1, 0, 0, 1, 1, 1, 1, 1]), .inBlock 3, .code (cAt (bodyOf Tryz.f3) [1, 1, 1, 1, 1, 0, 1, 0, 0, 1, 1, 1]), .inLoop (cAt (bodyOf Tryz.f3) [1, 1, 1, 1, 1, 0, 1, 0, 0]), .inBlock 2, .code (cAt (bodyOf Tryz.f3) [1, 1, 1, 1, 1, 1])] ⟨[(9, .p 9 0), (18, .v (.int .i64 e_18)), (19, .v (.int .i64 g)), (72, .v (.slice t72 t72_n t72_c)), (73, .v (.int .i64 t73)), (74, .v (.int .i64 t74))], [(9, f)]⟩ h Q
def gabionlaw09_FlatAlike.L25 (t72 : Option Addr) (t72_n : Nat) (t72_c : Nat) (t73 : Int) (t74 : Int) (t124 : Int) (f : List Value) (h : Heap) (Q : Value → Heap → Prop) : Prop :=
 TW Tryz.prog 3 155 [.code (cAt (bodyOf Tryz.f3) [1, 1, 1, 1, 1, 0, 1, 0, 0, 1, 1, 0, 0, 1, 1, 1, 1, 1, 1, 0, 0]), .inLoop (cAt (bodyOf Tryz.f3) [1, 1, 1, 1, 1, 0, 1, 0, 0, 1, 1, 0, 0, 1, 1, 1, 1, 1, 1, 0, 0]), .inBlock 4, .inBlock 3, .code (cAt (bodyOf Tryz.f3) [1, 1, 1, 1, 1, 0, 1, 0, 0, 1, 1, 1]), .inLoop (cAt (bodyOf Tryz.f3) [1, 1, 1, 1, 1, 0, 1, 0, 0]), .inBlock 2, .code (cAt (bodyOf Tryz.f3) [1, 1, 1, 1, 1, 1])] ⟨[(9, .p 9 0), (72, .v (.slice t72 t72_n t72_c)), (73, .v (.int .i64 t73)), (74, .v (.int .i64 t74)), (124, .v (.int .i64 t124))], [(9, f)]⟩ h Q
def gabionlaw09_FlatAlike.wp (x_0 : Int) (x_1 : Int) (x_2 : Int) (x_3 : Int) (x_4 : Int) (y_0 : Int) (y_1 : Int) (y_2 : Int) (y_3 : Int) (y_4 : Int) (acts : Option Addr) (acts_n : Nat) (acts_c : Nat) (h : Heap) (Q : Value → Heap → Prop) : Prop :=
 (C Tryz.prog 14 #[.agg #[.int .i64 x_0, .int .i64 x_1, .int .i64 x_2, .int .i64 x_3, .int .u64 x_4]] h fun (r : Value) (h' : Heap) =>
 ∃ (x : Int),
 ∃ (x_5 : Int),
 ∃ (x_6 : Int),
 ∃ (x_7 : Int),
 ∃ (x_8 : Int),
 r = .agg #[.int .i64 x, .int .i64 x_5, .int .i64 x_6, .int .i64 x_7, .int .u64 x_8] ∧
 (C Tryz.prog 14 #[.agg #[.int .i64 y_0, .int .i64 y_1, .int .i64 y_2, .int .i64 y_3, .int .u64 y_4]] h'
 fun (r : Value) (h' : Heap) =>
 ∃ (x : Int),
 ∃ (x_9 : Int),
 ∃ (x_10 : Int),
 ∃ (x_11 : Int),
 ∃ (x_12 : Int),
 r = .agg #[.int .i64 x, .int .i64 x_9, .int .i64 x_10, .int .i64 x_11, .int .u64 x_12] ∧
 (∀ (b : Nat),
 h' b = none →
 gabionlaw09_FlatAlike.L5 acts acts_n acts_c (some { block := b, off := 0 }) 2 2 (↑2 : Int) 0 [.pointer none, .pointer none]
 (upd h' b
 (Obj.cells
 #[.int .i64 3, .int .i64 2, .int .i64 x_6, .int .i64 x_7, .int .u64 x_8, .int .i64 2, .int .i64 3,
 .int .i64 x_10, .int .i64 x_11, .int .u64 x_12]
 26 (0, 0)))
 Q) ∧
 ∀ (b : Nat),
 h' b = none →
 gabionlaw09_FlatAlike.L5 acts acts_n acts_c (some { block := b, off := 0 }) 2 2 (↑2 : Int) 0 [.pointer none, .pointer none]
 (upd h' b
 (Obj.cells
 #[.int .i64 3, .int .i64 2, .int .i64 x_6, .int .i64 x_7, .int .u64 x_8, .int .i64 2, .int .i64 3,
 .int .i64 x_10, .int .i64 x_11, .int .u64 x_12]
 26 (0, 0)))
 Q) ∧
 ((C Tryz.prog 14 #[.agg #[.int .i64 y_0, .int .i64 y_1, .int .i64 y_2, .int .i64 y_3, .int .u64 y_4]] h'
 fun (r : Value) (h' : Heap) =>
 ∃ (x : Int),
 ∃ (x_9 : Int),
 ∃ (x_10 : Int),
 ∃ (x_11 : Int),
 ∃ (x_12 : Int),
 r = .agg #[.int .i64 x, .int .i64 x_9, .int .i64 x_10, .int .i64 x_11, .int .u64 x_12] ∧
 ∀ (b : Nat),
 h' b = none →
 gabionlaw09_FlatAlike.L5 acts acts_n acts_c (some { block := b, off := 0 }) 2 2 (↑2 : Int) 0 [.pointer none, .pointer none]
 (upd h' b
 (Obj.cells
 #[.int .i64 3, .int .i64 2, .int .i64 x_6, .int .i64 x_7, .int .u64 x_8, .int .i64 2, .int .i64 3,
 .int .i64 x_10, .int .i64 x_11, .int .u64 x_12]
 26 (0, 0)))
 Q) ∧
 C Tryz.prog 14 #[.agg #[.int .i64 y_0, .int .i64 y_1, .int .i64 y_2, .int .i64 y_3, .int .u64 y_4]] h'
 fun (r : Value) (h' : Heap) =>
 ∃ (x : Int),
 ∃ (x_9 : Int),
 ∃ (x_10 : Int),
 ∃ (x_11 : Int),
 ∃ (x_12 : Int),
 r = .agg #[.int .i64 x, .int .i64 x_9, .int .i64 x_10, .int .i64 x_11, .int .u64 x_12] ∧
 ∀ (b : Nat),
 h' b = none →
 gabionlaw09_FlatAlike.L5 acts acts_n acts_c (some { block := b, off := 0 }) 2 2 (↑2 : Int) 0 [.pointer none, .pointer none]
 (upd h' b
 (Obj.cells
 #[.int .i64 3, .int .i64 2, .int .i64 x_6, .int .i64 x_7, .int .u64 x_8, .int .i64 2, .int .i64 3,
 .int .i64 x_10, .int .i64 x_11, .int .u64 x_12]
 26 (0, 0)))
 Q) ∧
 (C Tryz.prog 14 #[.agg #[.int .i64 y_0, .int .i64 y_1, .int .i64 y_2, .int .i64 y_3, .int .u64 y_4]] h'
 fun (r : Value) (h' : Heap) =>
 ∃ (x : Int),
 ∃ (x_9 : Int),
 ∃ (x_10 : Int),
 ∃ (x_11 : Int),
 ∃ (x_12 : Int),
 r = .agg #[.int .i64 x, .int .i64 x_9, .int .i64 x_10, .int .i64 x_11, .int .u64 x_12] ∧
 ∀ (b : Nat),
 h' b = none →
 gabionlaw09_FlatAlike.L5 acts acts_n acts_c (some { block := b, off := 0 }) 2 2 (↑2 : Int) 0 [.pointer none, .pointer none]
 (upd h' b
 (Obj.cells
 #[.int .i64 3, .int .i64 2, .int .i64 x_6, .int .i64 x_7, .int .u64 x_8, .int .i64 2, .int .i64 3,
 .int .i64 x_10, .int .i64 x_11, .int .u64 x_12]
 26 (0, 0)))
 Q) ∧
 C Tryz.prog 14 #[.agg #[.int .i64 y_0, .int .i64 y_1, .int .i64 y_2, .int .i64 y_3, .int .u64 y_4]] h'
 fun (r : Value) (h' : Heap) =>
 ∃ (x : Int),
 ∃ (x_9 : Int),
 ∃ (x_10 : Int),
 ∃ (x_11 : Int),
 ∃ (x_12 : Int),
 r = .agg #[.int .i64 x, .int .i64 x_9, .int .i64 x_10, .int .i64 x_11, .int .u64 x_12] ∧
 ∀ (b : Nat),
 h' b = none →
 gabionlaw09_FlatAlike.L5 acts acts_n acts_c (some { block := b, off := 0 }) 2 2 (↑2 : Int) 0 [.pointer none, .pointer none]
 (upd h' b
 (Obj.cells
 #[.int .i64 3, .int .i64 2, .int .i64 x_6, .int .i64 x_7, .int .u64 x_8, .int .i64 2, .int .i64 3,
 .int .i64 x_10, .int .i64 x_11, .int .u64 x_12]
 26 (0, 0)))
 Q) ∧
 ((C Tryz.prog 14 #[.agg #[.int .i64 x_0, .int .i64 x_1, .int .i64 x_2, .int .i64 x_3, .int .u64 x_4]] h fun (r : Value) (h' : Heap) =>
 ∃ (x : Int),
 ∃ (x_5 : Int),
 ∃ (x_6 : Int),
 ∃ (x_7 : Int),
 ∃ (x_8 : Int),
 r = .agg #[.int .i64 x, .int .i64 x_5, .int .i64 x_6, .int .i64 x_7, .int .u64 x_8] ∧
 (C Tryz.prog 14 #[.agg #[.int .i64 y_0, .int .i64 y_1, .int .i64 y_2, .int .i64 y_3, .int .u64 y_4]] h'
 fun (r : Value) (h' : Heap) =>
 ∃ (x : Int),
 ∃ (x_9 : Int),
 ∃ (x_10 : Int),
 ∃ (x_11 : Int),
 ∃ (x_12 : Int),
 r = .agg #[.int .i64 x, .int .i64 x_9, .int .i64 x_10, .int .i64 x_11, .int .u64 x_12] ∧
 ∀ (b : Nat),
 h' b = none →
 gabionlaw09_FlatAlike.L5 acts acts_n acts_c (some { block := b, off := 0 }) 2 2 (↑2 : Int) 0 [.pointer none, .pointer none]
 (upd h' b
 (Obj.cells
 #[.int .i64 3, .int .i64 2, .int .i64 x_6, .int .i64 x_7, .int .u64 x_8, .int .i64 2, .int .i64 3,
 .int .i64 x_10, .int .i64 x_11, .int .u64 x_12]
 26 (0, 0)))
 Q) ∧
 C Tryz.prog 14 #[.agg #[.int .i64 y_0, .int .i64 y_1, .int .i64 y_2, .int .i64 y_3, .int .u64 y_4]] h'
 fun (r : Value) (h' : Heap) =>
 ∃ (x : Int),
 ∃ (x_9 : Int),
 ∃ (x_10 : Int),
 ∃ (x_11 : Int),
 ∃ (x_12 : Int),
 r = .agg #[.int .i64 x, .int .i64 x_9, .int .i64 x_10, .int .i64 x_11, .int .u64 x_12] ∧
 ∀ (b : Nat),
 h' b = none →
 gabionlaw09_FlatAlike.L5 acts acts_n acts_c (some { block := b, off := 0 }) 2 2 (↑2 : Int) 0 [.pointer none, .pointer none]
 (upd h' b
 (Obj.cells
 #[.int .i64 3, .int .i64 2, .int .i64 x_6, .int .i64 x_7, .int .u64 x_8, .int .i64 2, .int .i64 3,
 .int .i64 x_10, .int .i64 x_11, .int .u64 x_12]
 26 (0, 0)))
 Q) ∧
 C Tryz.prog 14 #[.agg #[.int .i64 x_0, .int .i64 x_1, .int .i64 x_2, .int .i64 x_3, .int .u64 x_4]] h fun (r : Value) (h' : Heap) =>
 ∃ (x : Int),
 ∃ (x_5 : Int),
 ∃ (x_6 : Int),
 ∃ (x_7 : Int),
 ∃ (x_8 : Int),
 r = .agg #[.int .i64 x, .int .i64 x_5, .int .i64 x_6, .int .i64 x_7, .int .u64 x_8] ∧
 C Tryz.prog 14 #[.agg #[.int .i64 y_0, .int .i64 y_1, .int .i64 y_2, .int .i64 y_3, .int .u64 y_4]] h'
 fun (r : Value) (h' : Heap) =>
 ∃ (x : Int),
 ∃ (x_9 : Int),
 ∃ (x_10 : Int),
 ∃ (x_11 : Int),
 ∃ (x_12 : Int),
 r = .agg #[.int .i64 x, .int .i64 x_9, .int .i64 x_10, .int .i64 x_11, .int .u64 x_12] ∧
 ∀ (b : Nat),
 h' b = none →
 gabionlaw09_FlatAlike.L5 acts acts_n acts_c (some { block := b, off := 0 }) 2 2 (↑2 : Int) 0 [.pointer none, .pointer none]
 (upd h' b
 (Obj.cells
 #[.int .i64 3, .int .i64 2, .int .i64 x_6, .int .i64 x_7, .int .u64 x_8, .int .i64 2, .int .i64 3,
 .int .i64 x_10, .int .i64 x_11, .int .u64 x_12]
 26 (0, 0)))
 Q) ∧
 (C Tryz.prog 14 #[.agg #[.int .i64 x_0, .int .i64 x_1, .int .i64 x_2, .int .i64 x_3, .int .u64 x_4]] h fun (r : Value) (h' : Heap) =>
 ∃ (x : Int),
 ∃ (x_5 : Int),
 ∃ (x_6 : Int),
 ∃ (x_7 : Int),
 ∃ (x_8 : Int),
 r = .agg #[.int .i64 x, .int .i64 x_5, .int .i64 x_6, .int .i64 x_7, .int .u64 x_8] ∧
 (C Tryz.prog 14 #[.agg #[.int .i64 y_0, .int .i64 y_1, .int .i64 y_2, .int .i64 y_3, .int .u64 y_4]] h'
 fun (r : Value) (h' : Heap) =>
 ∃ (x : Int),
 ∃ (x_9 : Int),
 ∃ (x_10 : Int),
 ∃ (x_11 : Int),
 ∃ (x_12 : Int),
 r = .agg #[.int .i64 x, .int .i64 x_9, .int .i64 x_10, .int .i64 x_11, .int .u64 x_12] ∧
 ∀ (b : Nat),
 h' b = none →
 gabionlaw09_FlatAlike.L5 acts acts_n acts_c (some { block := b, off := 0 }) 2 2 (↑2 : Int) 0 [.pointer none, .pointer none]
 (upd h' b
 (Obj.cells
 #[.int .i64 3, .int .i64 2, .int .i64 x_6, .int .i64 x_7, .int .u64 x_8, .int .i64 2, .int .i64 3,
 .int .i64 x_10, .int .i64 x_11, .int .u64 x_12]
 26 (0, 0)))
 Q) ∧
 C Tryz.prog 14 #[.agg #[.int .i64 y_0, .int .i64 y_1, .int .i64 y_2, .int .i64 y_3, .int .u64 y_4]] h'
 fun (r : Value) (h' : Heap) =>
 ∃ (x : Int),
 ∃ (x_9 : Int),
 ∃ (x_10 : Int),
 ∃ (x_11 : Int),
 ∃ (x_12 : Int),
 r = .agg #[.int .i64 x, .int .i64 x_9, .int .i64 x_10, .int .i64 x_11, .int .u64 x_12] ∧
 ∀ (b : Nat),
 h' b = none →
 gabionlaw09_FlatAlike.L5 acts acts_n acts_c (some { block := b, off := 0 }) 2 2 (↑2 : Int) 0 [.pointer none, .pointer none]
 (upd h' b
 (Obj.cells
 #[.int .i64 3, .int .i64 2, .int .i64 x_6, .int .i64 x_7, .int .u64 x_8, .int .i64 2, .int .i64 3,
 .int .i64 x_10, .int .i64 x_11, .int .u64 x_12]
 26 (0, 0)))
 Q) ∧
 C Tryz.prog 14 #[.agg #[.int .i64 x_0, .int .i64 x_1, .int .i64 x_2, .int .i64 x_3, .int .u64 x_4]] h fun (r : Value) (h' : Heap) =>
 ∃ (x : Int),
 ∃ (x_5 : Int),
 ∃ (x_6 : Int),
 ∃ (x_7 : Int),
 ∃ (x_8 : Int),
 r = .agg #[.int .i64 x, .int .i64 x_5, .int .i64 x_6, .int .i64 x_7, .int .u64 x_8] ∧
 C Tryz.prog 14 #[.agg #[.int .i64 y_0, .int .i64 y_1, .int .i64 y_2, .int .i64 y_3, .int .u64 y_4]] h'
 fun (r : Value) (h' : Heap) =>
 ∃ (x : Int),
 ∃ (x_9 : Int),
 ∃ (x_10 : Int),
 ∃ (x_11 : Int),
 ∃ (x_12 : Int),
 r = .agg #[.int .i64 x, .int .i64 x_9, .int .i64 x_10, .int .i64 x_11, .int .u64 x_12] ∧
 ∀ (b : Nat),
 h' b = none →
 gabionlaw09_FlatAlike.L5 acts acts_n acts_c (some { block := b, off := 0 }) 2 2 (↑2 : Int) 0 [.pointer none, .pointer none]
 (upd h' b
 (Obj.cells
 #[.int .i64 3, .int .i64 2, .int .i64 x_6, .int .i64 x_7, .int .u64 x_8, .int .i64 2, .int .i64 3,
 .int .i64 x_10, .int .i64 x_11, .int .u64 x_12]
 26 (0, 0)))
 Q
def gabionlaw09_FlatAlike.L5.wp (acts : Option Addr) (acts_n : Nat) (acts_c : Nat) (t35 : Option Addr) (t35_n : Nat) (t35_c : Nat) (t36 : Int) (t37 : Int) (f : List Value) (h : Heap) (Q : Value → Heap → Prop) : Prop :=
 xsIf (decide (t37 < t36))
 ((0 ≤ t37 ∧ t37 < (↑t35_n : Int)) ∧
 atBase t35 fun (b o : Nat) =>
 ∃ (x : Int),
 h.cell b (o + t37.toNat * 5) = some (.int .i64 x) ∧
 ∃ (x_1 : Int),
 h.cell b (o + t37.toNat * 5 + 1) = some (.int .i64 x_1) ∧
 ∃ (x_2 : Int),
 h.cell b (o + t37.toNat * 5 + 1 + 1) = some (.int .i64 x_2) ∧
 ∃ (x_3 : Int),
 h.cell b (o + t37.toNat * 5 + 1 + 1 + 1) = some (.int .i64 x_3) ∧
 ∃ (x_4 : Int),
 h.cell b (o + t37.toNat * 5 + 1 + 1 + 1 + 1) = some (.int .u64 x_4) ∧
 C Tryz.prog 16 #[.agg #[.int .i64 x, .int .i64 x_1, .int .i64 x_2, .int .i64 x_3, .int .u64 x_4]] h
 fun (r : Value) (h' : Heap) =>
 ∃ (x_5 : Int),
 r = .int .i64 x_5 ∧
 C Tryz.prog 15 #[.int .i64 x_5] h' fun (r : Value) (h' : Heap) =>
 ∃ (x_6 : Option Addr),
 ∃ (x_7 : Int),
 r = .tuple #[.pointer x_6, .int .i64 x_7] ∧
 C Tryz.prog 17
 #[.pointer x_6, .agg #[.int .i64 x, .int .i64 x_1, .int .i64 x_2, .int .i64 x_3, .int .u64 x_4]] h'
 fun (r : Value) (h' : Heap) =>
 ∃ (x : Int),
 r = .int .i64 x ∧
 xsIf (decide (x ≠ 0)) (Q (.bool false) h')
 (C Tryz.prog 18 #[.pointer x_6] h' fun (r : Value) (h' : Heap) =>
 ∃ (x : Option Addr),
 ∃ (x_8 : Int),
 r = .tuple #[.pointer x, .int .i64 x_8] ∧
 (0 ≤ t37 ∧ t37 < (↑2 : Int)) ∧
 0 + t37.toNat * 1 + 1 ≤ f.length ∧
 xsIf (decide (x_8 ≠ 0)) (Q (.bool false) h')
 ((0 ≤ t37 ∧ t37 < (↑2 : Int)) ∧
 ∃ (x_9 : Option Addr),
 lget (lput f (0 + t37.toNat * 1) [.pointer x]) (0 + t37.toNat * 1) = some (.pointer x_9) ∧
 xsIf x_9.isNone (Q (.bool false) h')
 (gabionlaw09_FlatAlike.L5 acts acts_n acts_c t35 t35_n t35_c t36 (IntKind.i64.wrap (t37 + 1)) (lput f (0 + t37.toNat * 1) [.pointer x]) h' Q))))
 ((0 ≤ imin (↑acts_n : Int) 30 ∧ imin (↑acts_n : Int) 30 ≤ (↑acts_c : Int)) ∧
 gabionlaw09_FlatAlike.L16 (slBase acts (↑acts_c : Int) 0 6) (imin (↑acts_n : Int) 30 - 0).toNat ((↑acts_c : Int) - 0).toNat (↑(imin (↑acts_n : Int) 30 - 0).toNat : Int) 0 f h Q)
def gabionlaw09_FlatAlike.L16.wp (t72 : Option Addr) (t72_n : Nat) (t72_c : Nat) (t73 : Int) (t74 : Int) (f : List Value) (h : Heap) (Q : Value → Heap → Prop) : Prop :=
 xsIf (decide (t74 < t73))
 ((0 ≤ t74 ∧ t74 < (↑t72_n : Int)) ∧
 atBase t72 fun (b o : Nat) =>
 ∃ (x : Int),
 h.cell b (o + t74.toNat * 6) = some (.int .i64 x) ∧
 ∃ (x_1 : Int),
 h.cell b (o + t74.toNat * 6 + 1) = some (.int .i64 x_1) ∧
 ∃ (x_2 : Int),
 h.cell b (o + t74.toNat * 6 + 1 + 1) = some (.int .i64 x_2) ∧
 ∃ (x_3 : Int),
 h.cell b (o + t74.toNat * 6 + 1 + 1 + 1) = some (.int .u64 x_3) ∧
 ∃ (x_4 : ByteArray),
 h.cell b (o + t74.toNat * 6 + 1 + 1 + 1 + 1) = some (.string x_4) ∧
 ∃ (x_5 : Option Addr),
 ∃ (n : Nat),
 ∃ (m : Nat),
 h.cell b (o + t74.toNat * 6 + 1 + 1 + 1 + 1 + 1) = some (.slice x_5 n m) ∧
 (0 ≤ imin (↑x_4.size : Int) 64 ∧ imin (↑x_4.size : Int) 64 ≤ (↑x_4.size : Int)) ∧
 C Tryz.prog 19 #[.string (sext x_4 0 (imin (↑x_4.size : Int) 64))] h fun (r : Value) (h' : Heap) =>
 ∃ (x_6 : ByteArray),
 r = .string x_6 ∧
 ∃ (x_7 : Option Addr),
 lget f 0 = some (.pointer x_7) ∧
 ∃ (x_8 : Option Addr),
 lget f 1 = some (.pointer x_8) ∧
 C Tryz.prog 20 #[.pointer x_7, .int .i64 x_1, .string x_6] h' fun (r : Value) (h' : Heap) =>
 ∃ (x_9 : Int),
 r = .int .i64 x_9 ∧
 C Tryz.prog 20 #[.pointer x_8, .int .i64 x_1, .string x_6] h' fun (r : Value) (h' : Heap) =>
 ∃ (x_10 : Int),
 r = .int .i64 x_10 ∧
 xsIf (decide (irem (imax 0 x) 2 = 1))
 (∃ (x : Option Addr),
 lget f 0 = some (.pointer x) ∧
 ∃ (x_11 : Option Addr),
 lget f 1 = some (.pointer x_11) ∧
 C Tryz.prog 21 #[.pointer x, .int .i64 x_1, .int .i64 x_2, .int .u64 x_3] h' fun (r : Value) (h' : Heap) =>
 ∃ (x : Int),
 r = .int .i64 x ∧
 C Tryz.prog 21 #[.pointer x_11, .int .i64 x_1, .int .i64 x_2, .int .u64 x_3] h'
 fun (r : Value) (h' : Heap) => ∃ (x_12 : Int), r = .int .i64 x_12 ∧ gabionlaw09_FlatAlike.J22 x x_12 t72 t72_n t72_c t73 t74 f h' Q)
 (gabionlaw09_FlatAlike.J22 x_9 x_10 t72 t72_n t72_c t73 t74 f h' Q))
 (C Tryz.prog 23 #[] h fun (r : Value) (h' : Heap) => ∃ (x : Bool), r = .bool x ∧ Q (.bool x) h')
def gabionlaw09_FlatAlike.J22.wp (e_18 : Int) (g : Int) (t72 : Option Addr) (t72_n : Nat) (t72_c : Nat) (t73 : Int) (t74 : Int) (f : List Value) (h : Heap) (Q : Value → Heap → Prop) : Prop :=
 xsIf (decide (e_18 ≠ g)) (Q (.bool false) h) (gabionlaw09_FlatAlike.L25 t72 t72_n t72_c t73 t74 0 f h Q)
def gabionlaw09_FlatAlike.L25.wp (t72 : Option Addr) (t72_n : Nat) (t72_c : Nat) (t73 : Int) (t74 : Int) (t124 : Int) (f : List Value) (h : Heap) (Q : Value → Heap → Prop) : Prop :=
 xsIf (decide (t124 < 6))
 (∃ (x : Option Addr),
 lget f 0 = some (.pointer x) ∧
 C Tryz.prog 22 #[.pointer x, .int .i64 t124] h fun (r : Value) (h' : Heap) =>
 ∃ (x : ByteArray),
 ∃ (x_1 : Int),
 r = .tuple #[.string x, .int .i64 x_1] ∧
 ∃ (x_2 : Option Addr),
 lget f 1 = some (.pointer x_2) ∧
 C Tryz.prog 22 #[.pointer x_2, .int .i64 t124] h' fun (r : Value) (h' : Heap) =>
 ∃ (x_3 : ByteArray),
 ∃ (x_4 : Int),
 r = .tuple #[.string x_3, .int .i64 x_4] ∧
 xsIf (decide (x ≠ x_3)) (Q (.bool false) h')
 (xsIf (decide (x_1 ≠ 0)) (Q (.bool false) h') (xsIf (decide (x_4 ≠ 0)) (Q (.bool false) h') (gabionlaw09_FlatAlike.L25 t72 t72_n t72_c t73 t74 (IntKind.i64.wrap (t124 + 1)) f h' Q))))
 (gabionlaw09_FlatAlike.L16 t72 t72_n t72_c t73 (IntKind.i64.wrap (t74 + 1)) f h Q)
theorem gabionlaw09_FlatAlike.ok {x_0 : Int} {x_1 : Int} {x_2 : Int} {x_3 : Int} {x_4 : Int} {y_0 : Int} {y_1 : Int} {y_2 : Int} {y_3 : Int} {y_4 : Int} {acts : Option Addr} {acts_n : Nat} {acts_c : Nat} {h : Heap} {Q : Value → Heap → Prop} (hk : gabionlaw09_FlatAlike.wp x_0 x_1 x_2 x_3 x_4 y_0 y_1 y_2 y_3 y_4 acts acts_n acts_c h Q) : C Tryz.prog 3 #[.agg #[.int .i64 x_0, .int .i64 x_1, .int .i64 x_2, .int .i64 x_3, .int .u64 x_4], .agg #[.int .i64 y_0, .int .i64 y_1, .int .i64 y_2, .int .i64 y_3, .int .u64 y_4], .slice acts acts_n acts_c] h Q :=
 C_of_xs (H := gabionlaw09_FlatAlike.H) (lcuts := gabionlaw09_FlatAlike.lc) (rcuts := gabionlaw09_FlatAlike.rc) (l := [.agg #[.int .i64 x_0, .int .i64 x_1, .int .i64 x_2, .int .i64 x_3, .int .u64 x_4], .agg #[.int .i64 y_0, .int .i64 y_1, .int .i64 y_2, .int .i64 y_3, .int .u64 y_4], .slice acts acts_n acts_c]) 2000 mixed Tryz.func3 rfl (by kernel_rfl) (@cast (gabionlaw09_FlatAlike.wp x_0 x_1 x_2 x_3 x_4 y_0 y_1 y_2 y_3 y_4 acts acts_n acts_c h Q) _ (by kernel_rfl) hk)
theorem gabionlaw09_FlatAlike.L5.ok {acts : Option Addr} {acts_n : Nat} {acts_c : Nat} {t35 : Option Addr} {t35_n : Nat} {t35_c : Nat} {t36 : Int} {t37 : Int} {f : List Value} {h : Heap} {Q : Value → Heap → Prop} (hk : gabionlaw09_FlatAlike.L5.wp acts acts_n acts_c t35 t35_n t35_c t36 t37 f h Q) : gabionlaw09_FlatAlike.L5 acts acts_n acts_c t35 t35_n t35_c t36 t37 f h Q :=
 xs_ok (H := gabionlaw09_FlatAlike.H) (lcuts := gabionlaw09_FlatAlike.lc) (rcuts := gabionlaw09_FlatAlike.rc) (fn := Tryz.f3) mixed Tryz.func3 2000 _ _ _ (@cast (gabionlaw09_FlatAlike.L5.wp acts acts_n acts_c t35 t35_n t35_c t36 t37 f h Q) _ (by kernel_rfl) hk)
theorem gabionlaw09_FlatAlike.L16.ok {t72 : Option Addr} {t72_n : Nat} {t72_c : Nat} {t73 : Int} {t74 : Int} {f : List Value} {h : Heap} {Q : Value → Heap → Prop} (hk : gabionlaw09_FlatAlike.L16.wp t72 t72_n t72_c t73 t74 f h Q) : gabionlaw09_FlatAlike.L16 t72 t72_n t72_c t73 t74 f h Q :=
 xs_ok (H := gabionlaw09_FlatAlike.H) (lcuts := gabionlaw09_FlatAlike.lc) (rcuts := gabionlaw09_FlatAlike.rc) (fn := Tryz.f3) mixed Tryz.func3 2000 _ _ _ (@cast (gabionlaw09_FlatAlike.L16.wp t72 t72_n t72_c t73 t74 f h Q) _ (by kernel_rfl) hk)
theorem gabionlaw09_FlatAlike.J22.ok {e_18 : Int} {g : Int} {t72 : Option Addr} {t72_n : Nat} {t72_c : Nat} {t73 : Int} {t74 : Int} {f : List Value} {h : Heap} {Q : Value → Heap → Prop} (hk : gabionlaw09_FlatAlike.J22.wp e_18 g t72 t72_n t72_c t73 t74 f h Q) : gabionlaw09_FlatAlike.J22 e_18 g t72 t72_n t72_c t73 t74 f h Q :=
 xs_ok (H := gabionlaw09_FlatAlike.H) (lcuts := gabionlaw09_FlatAlike.lc) (rcuts := []) (fn := Tryz.f3) mixed Tryz.func3 2000 _ _ _ (@cast (gabionlaw09_FlatAlike.J22.wp e_18 g t72 t72_n t72_c t73 t74 f h Q) _ (by kernel_rfl) hk)
theorem gabionlaw09_FlatAlike.L25.ok {t72 : Option Addr} {t72_n : Nat} {t72_c : Nat} {t73 : Int} {t74 : Int} {t124 : Int} {f : List Value} {h : Heap} {Q : Value → Heap → Prop} (hk : gabionlaw09_FlatAlike.L25.wp t72 t72_n t72_c t73 t74 t124 f h Q) : gabionlaw09_FlatAlike.L25 t72 t72_n t72_c t73 t74 t124 f h Q :=
 xs_ok (H := gabionlaw09_FlatAlike.H) (lcuts := gabionlaw09_FlatAlike.lc) (rcuts := gabionlaw09_FlatAlike.rc) (fn := Tryz.f3) mixed Tryz.func3 2000 _ _ _ (@cast (gabionlaw09_FlatAlike.L25.wp t72 t72_n t72_c t73 t74 t124 f h Q) _ (by kernel_rfl) hk)

/-! (*gabion/ring.Ring).Where -/
/-! (*gabion/flat.Flat).Where -/
/-! (*gabion/pm.Device).is -/
/-! (*gabion/pm.Device).Break -/
/-! (*gabion/flat.Flat).ring -/
/-! (*gabion/ring.Ring).Left -/
/-! (*gabion/flat.Flat).Left -/
/-! gabion/gabionlaw09.FlatKeeps -/
/-! (*gabion/pm.Device).Fuse -/
/-! (*gabion/pm.Device).Boot -/
/-! gabion/line.Mixed -/
/-! gabion/gabionlaw09.FlatTorn -/
/-! gabion/gabionref07.Bank -/
/-! gabion/gabionref05.table -/
/-! gabion/gabionref05.Size -/
/-! gabion/gabionref05.Check -/
/-! gabion/gabionref07.Check -/
/-! gabion/gabionref09.Plan -/
/-! gabion/gabionref09.Size -/
/-! gabion/gabionref09.Check -/
/-! (*gabion/pm.Device).Count -/
/-! (*gabion/ring.Ring).State -/
/-! (*gabion/flat.Flat).Moves -/
/-! gabion/gabionlaw09.FlatMakes -/
/-! gabion/gabionref03.New -/
/-! gabion/gabionref01.Get -/
/-! gabion/gabionref03.begin -/
/-! gabion/gabionref03.Store -/
/-! gabion/gabionref03.Flush -/
/-! gabion/gabionref03.last -/
/-! gabion/gabionref03.Fence -/
/-! gabion/gabionref04.last -/
/-! gabion/gabionref04.Put -/
/-! gabion/gabionref05.Format -/
/-! gabion/gabionref06.Pack -/
/-! gabion/gabionref03.Load -/
/-! gabion/gabionref01.Put -/
/-! gabion/gabionref01.may -/
/-! gabion/gabionref01.bit -/
/-! gabion/gabionref01.Field -/
/-! gabion/gabionref02.bits -/
/-! gabion/gabionref02.Sum -/
end Go.Gb
