/- Own text for the seat: W3. -/
import Derived.Test.YtjdleeamgmkbkaaGreatW2
set_option linter.unusedVariables false
set_option linter.unusedSimpArgs false
set_option linter.unnecessarySimpa false
set_option linter.deprecated false
set_option maxRecDepth 100000
namespace Go.Gb
open Go.Proofs

/-! gabion/flat.Open -/
def flat_Open.H : Hn := ⟨[38], [], [⟨5, .q 0 (.q 1 (.q 2 (.q 3 (.q 4 (.q 5 (.q 6 (.q 7 (.q 8 (.nil))))))))), []⟩, ⟨15, .q 0 (.q 1 (.q 2 (.q 3 (.q 4 (.q 6 (.q 9 (.q 10 (.q 11 (.q 13 (.br 5 (.br 7 (.br 8 (.br 12 (.q 14 (.q 15 (.q 16 (.q 17 (.q 18 (.q 19 (.q 20 (.q 21 (.nil))))))))) (.one 14 (.q 12 (.q 15 (.q 16 (.q 17 (.q 18 (.q 19 (.q 20 (.q 21 (.nil))))))))))) (.br 12 (.br 8 (.q 14 (.q 15 (.q 16 (.q 17 (.q 18 (.q 19 (.q 20 (.q 21 (.nil))))))))) (.one 14 (.q 8 (.q 15 (.q 16 (.q 17 (.q 18 (.q 19 (.q 20 (.q 21 (.nil))))))))))) (.one 14 (.br 8 (.q 12 (.q 15 (.q 16 (.q 17 (.q 18 (.q 19 (.q 20 (.q 21 (.nil))))))))) (.one 12 (.q 8 (.q 15 (.q 16 (.q 17 (.q 18 (.q 19 (.q 20 (.q 21 (.nil)))))))))))))) (.br 12 (.br 7 (.br 8 (.q 14 (.q 15 (.q 16 (.q 17 (.q 18 (.q 19 (.q 20 (.q 21 (.nil))))))))) (.one 14 (.q 8 (.q 15 (.q 16 (.q 17 (.q 18 (.q 19 (.q 20 (.q 21 (.nil))))))))))) (.one 14 (.q 7 (.q 8 (.q 15 (.q 16 (.q 17 (.q 18 (.q 19 (.q 20 (.q 21 (.nil)))))))))))) (.one 14 (.br 7 (.br 8 (.q 12 (.q 15 (.q 16 (.q 17 (.q 18 (.q 19 (.q 20 (.q 21 (.nil))))))))) (.one 12 (.q 8 (.q 15 (.q 16 (.q 17 (.q 18 (.q 19 (.q 20 (.q 21 (.nil))))))))))) (.one 12 (.q 7 (.q 8 (.q 15 (.q 16 (.q 17 (.q 18 (.q 19 (.q 20 (.q 21 (.nil))))))))))))))) (.br 7 (.br 5 (.br 8 (.br 12 (.q 14 (.q 15 (.q 16 (.q 17 (.q 18 (.q 19 (.q 20 (.q 21 (.nil))))))))) (.one 14 (.q 12 (.q 15 (.q 16 (.q 17 (.q 18 (.q 19 (.q 20 (.q 21 (.nil))))))))))) (.br 12 (.br 8 (.q 14 (.q 15 (.q 16 (.q 17 (.q 18 (.q 19 (.q 20 (.q 21 (.nil))))))))) (.one 14 (.q 8 (.q 15 (.q 16 (.q 17 (.q 18 (.q 19 (.q 20 (.q 21 (.nil))))))))))) (.one 14 (.br 8 (.q 12 (.q 15 (.q 16 (.q 17 (.q 18 (.q 19 (.q 20 (.q 21 (.nil))))))))) (.one 12 (.q 8 (.q 15 (.q 16 (.q 17 (.q 18 (.q 19 (.q 20 (.q 21 (.nil)))))))))))))) (.br 12 (.br 5 (.br 8 (.q 14 (.q 15 (.q 16 (.q 17 (.q 18 (.q 19 (.q 20 (.q 21 (.nil))))))))) (.one 14 (.q 8 (.q 15 (.q 16 (.q 17 (.q 18 (.q 19 (.q 20 (.q 21 (.nil))))))))))) (.one 14 (.q 5 (.q 8 (.q 15 (.q 16 (.q 17 (.q 18 (.q 19 (.q 20 (.q 21 (.nil)))))))))))) (.one 14 (.ld 5 4161792 (.br 8 (.q 12 (.q 15 (.q 16 (.q 17 (.q 18 (.q 19 (.q 20 (.q 21 (.nil))))))))) (.one 12 (.q 8 (.q 15 (.q 16 (.q 17 (.q 18 (.q 19 (.q 20 (.q 21 (.nil))))))))))))))) (.br 12 (.br 5 (.br 7 (.br 8 (.q 14 (.q 15 (.q 16 (.q 17 (.q 18 (.q 19 (.q 20 (.q 21 (.nil))))))))) (.one 14 (.q 8 (.q 15 (.q 16 (.q 17 (.q 18 (.q 19 (.q 20 (.q 21 (.nil))))))))))) (.one 14 (.q 7 (.q 8 (.q 15 (.q 16 (.q 17 (.q 18 (.q 19 (.q 20 (.q 21 (.nil)))))))))))) (.br 7 (.br 5 (.br 8 (.q 14 (.q 15 (.q 16 (.q 17 (.q 18 (.q 19 (.q 20 (.q 21 (.nil))))))))) (.one 14 (.q 8 (.q 15 (.q 16 (.q 17 (.q 18 (.q 19 (.q 20 (.q 21 (.nil))))))))))) (.one 14 (.q 5 (.q 8 (.q 15 (.q 16 (.q 17 (.q 18 (.q 19 (.q 20 (.q 21 (.nil)))))))))))) (.one 14 (.br 5 (.q 7 (.q 8 (.q 15 (.q 16 (.q 17 (.q 18 (.q 19 (.q 20 (.q 21 (.nil)))))))))) (.one 7 (.q 5 (.q 8 (.q 15 (.q 16 (.q 17 (.q 18 (.q 19 (.q 20 (.q 21 (.nil))))))))))))))) (.one 14 (.br 5 (.br 7 (.br 8 (.q 12 (.q 15 (.q 16 (.q 17 (.q 18 (.q 19 (.q 20 (.q 21 (.nil))))))))) (.one 12 (.q 8 (.q 15 (.q 16 (.q 17 (.q 18 (.q 19 (.q 20 (.q 21 (.nil))))))))))) (.one 12 (.q 7 (.q 8 (.q 15 (.q 16 (.q 17 (.q 18 (.q 19 (.q 20 (.q 21 (.nil)))))))))))) (.br 7 (.ld 5 4161792 (.br 8 (.q 12 (.q 15 (.q 16 (.q 17 (.q 18 (.q 19 (.q 20 (.q 21 (.nil))))))))) (.one 12 (.q 8 (.q 15 (.q 16 (.q 17 (.q 18 (.q 19 (.q 20 (.q 21 (.nil)))))))))))) (.one 12 (.br 5 (.q 7 (.q 8 (.q 15 (.q 16 (.q 17 (.q 18 (.q 19 (.q 20 (.q 21 (.nil)))))))))) (.one 7 (.q 5 (.q 8 (.q 15 (.q 16 (.q 17 (.q 18 (.q 19 (.q 20 (.q 21 (.nil)))))))))))))))))))))))))))), []⟩], []⟩
def flat_Open.lc : List Cut := [⟨9, [0, 6, 8, 40, 41], [6]⟩]
def flat_Open.rc : List Cut := [⟨7, [0, 6], [6]⟩]
def flat_Open.J7 (d : Option Addr) (c_0 : Int) (c_1 : Int) (c_2 : Int) (c_3 : Int) (c_4 : Int) (h : Heap) (Q : Value → Heap → Prop) : Prop :=
 TW Tryz.prog 18 88 [.code (cAt (bodyOf Tryz.f18) [1, 1, 1, 1, 1, 0]), .code (cAt (bodyOf Tryz.f18) [1, 1, 1, 1, 1, 1])] ⟨[(0, .v (.pointer d)), (6, .p 6 0)], [(6, [.int .i64 c_0, .int .i64 c_1, .int .i64 c_2, .int .i64 c_3, .int .u64 c_4])]⟩ h Q
def flat_Open.L9 (d : Option Addr) (f : Option Addr) (t40 : Int) (t41 : Int) (c_0 : Int) (c_1 : Int) (c_2 : Int) (c_3 : Int) (c_4 : Int) (h : Heap) (Q : Value → Heap → Prop) : Prop :=
 TW Tryz.prog 18 88 [.code (cAt (bodyOf Tryz.f18) [1, 1, 1, 1, 1, 1, 0, 1, 0, 0]), .inLoop (cAt (bodyOf Tryz.f18) [1, 1, 1, 1, 1, 1, 0, 1, 0, 0]), .inBlock 0, .code (cAt (bodyOf Tryz.f18) [1, 1, 1, 1, 1, 1, 1])] ⟨[(0, .v (.pointer d)), (6, .p 6 0), (8, .v (.pointer f)), (40, .v (.int .i64 t40)), (41, .v (.int .i64 t41))], [(6, [.int .i64 c_0, .int .i64 c_1, .int .i64 c_2, .int .i64 c_3, .int .u64 c_4])]⟩ h Q
def flat_Open.wp (d : Option Addr) (h : Heap) (Q : Value → Heap → Prop) : Prop :=
 C Tryz.prog 80 #[.pointer d, .int .i64 0] h fun (r : Value) (h' : Heap) =>
 ∃ (x : ByteArray),
 ∃ (x_1 : Int),
 r = .tuple #[.string x, .int .i64 x_1] ∧
 xsIf (decide (x_1 ≠ 0)) (Q (.tuple #[.pointer none, .int .i64 x_1]) h')
 (C Tryz.prog 81 #[.string x] h' fun (r : Value) (h' : Heap) =>
 ∃ (x : Int),
 ∃ (x_2 : Int),
 ∃ (x_3 : Int),
 ∃ (x_4 : Int),
 ∃ (x_5 : Int),
 ∃ (x_6 : Bool),
 r = .tuple #[.agg #[.int .i64 x, .int .i64 x_2, .int .i64 x_3, .int .i64 x_4, .int .u64 x_5], .bool x_6] ∧
 xsIf (!x_6) (Q (.tuple #[.pointer none, .int .i64 4]) h')
 (C Tryz.prog 74 #[.pointer d] h' fun (r : Value) (h' : Heap) =>
 ∃ (x_7 : Int),
 r = .int .i64 x_7 ∧
 C Tryz.prog 34
 #[.agg #[.int .i64 x, .int .i64 x_2, .int .i64 x_3, .int .i64 x_4, .int .u64 x_5], .int .i64 x_7] h'
 fun (r : Value) (h' : Heap) =>
 ∃ (x_8 : Int), r = .int .i64 x_8 ∧ xsIf (decide (x_8 ≠ 0)) (Q (.tuple #[.pointer none, .int .i64 4]) h') (flat_Open.J7 d x x_2 x_3 x_4 x_5 h' Q)))
def flat_Open.J7.wp (d : Option Addr) (c_0 : Int) (c_1 : Int) (c_2 : Int) (c_3 : Int) (c_4 : Int) (h : Heap) (Q : Value → Heap → Prop) : Prop :=
 ∀ (b : Nat),
 h b = none →
 flat_Open.L9 d (some { block := b, off := 0 }) c_0 0 c_0 c_1 c_2 c_3 c_4
 (upd h b (Obj.cells #[.int .i64 c_0, .int .i64 c_1, .int .i64 c_2, .int .i64 c_3, .int .u64 c_4, .slice none 0 0, .slice none 0 0] 153 (0, 0))) Q
def flat_Open.L9.wp (d : Option Addr) (f : Option Addr) (t40 : Int) (t41 : Int) (c_0 : Int) (c_1 : Int) (c_2 : Int) (c_3 : Int) (c_4 : Int) (h : Heap) (Q : Value → Heap → Prop) : Prop :=
 xsIf (decide (t41 < t40))
 (C Tryz.prog 71 #[.agg #[.int .i64 c_0, .int .i64 c_1, .int .i64 c_2, .int .i64 c_3, .int .u64 c_4], .int .i64 t41] h
 fun (r : Value) (h' : Heap) =>
 ∃ (x : Int),
 ∃ (x_1 : Int),
 ∃ (x_2 : Int),
 ∃ (x_3 : Int),
 r = .agg #[.int .i64 x, .int .i64 x_1, .int .i64 x_2, .int .i64 x_3] ∧
 C Tryz.prog 82 #[.pointer d, .agg #[.int .i64 x, .int .i64 x_1, .int .i64 x_2, .int .i64 x_3]] h' fun (r : Value) (h' : Heap) =>
 ∃ (x : Option Addr),
 ∃ (x_4 : Int),
 r = .tuple #[.pointer x, .int .i64 x_4] ∧
 xsIf (decide (x_4 ≠ 0)) (Q (.tuple #[.pointer none, .int .i64 x_4]) h')
 (C Tryz.prog 83 #[.int .i64 c_1, .int .u64 (IntKind.u64.wrap (c_4 + IntKind.u64.wrap t41))] h' fun (r : Value) (h' : Heap) =>
 ∃ (x_5 : Int),
 ∃ (x_6 : Int),
 ∃ (x_7 : Int),
 ∃ (x_8 : Int),
 ∃ (x_9 : Int),
 ∃ (x_10 : Int),
 ∃ (x_11 : Int),
 r =
 .tuple
 #[.agg #[.int .i64 x_5, .int .i64 x_6, .int .u16 x_7, .int .u16 x_8, .int .u16 x_9, .int .u16 x_10],
 .int .i64 x_11] ∧
 atBase f fun (b o : Nat) =>
 atBase f fun (b_1 o_1 : Nat) =>
 (∃ (x_12 : Option Addr),
 ∃ (n : Nat),
 ∃ (m : Nat),
 h'.cell b (o + 5) = some (.slice x_12 n m) ∧
 (∀ (b : Nat),
 h' b = none →
 (xsApp Tryz.prog 154 (upd h' b (Obj.cells #[.pointer x] 154 (0, 0))) x_12 n m (some { block := b, off := 0 }) 1
 fun (a' : Option Addr) (n' c' : Nat) (h' : Heap) =>
 (∃ (x : Option Addr),
 ∃ (n : Nat),
 ∃ (m : Nat),
 h'.cell b_1 (o_1 + 6) = some (.slice x n m) ∧
 ∀ (b : Nat),
 h' b = none →
 xsApp Tryz.prog 159
 (upd h' b
 (Obj.cells
 #[.int .i64 x_5, .int .i64 x_6, .int .u16 x_7, .int .u16 x_8, .int .u16 x_9,
 .int .u16 x_10]
 159 (0, 0)))
 x n m (some { block := b, off := 0 }) 1 fun (a'_1 : Option Addr) (n'_1 c'_1 : Nat) (h' : Heap) =>
 atBase f fun (b o : Nat) =>
 h'.can b (o + 5) 1 ∧
 atBase f fun (b_2 o_2 : Nat) =>
 (h'.put b (o + 5) [.slice a' n' c']).can b_2 (o_2 + 6) 1 ∧
 flat_Open.L9 d f t40 (IntKind.i64.wrap (t41 + 1)) c_0 c_1 c_2 c_3 c_4
 ((h'.put b (o + 5) [.slice a' n' c']).put b_2 (o_2 + 6) [.slice a'_1 n'_1 c'_1]) Q) ∧
 ∀ (b : Nat),
 h' b = none →
 ∃ (x : Option Addr),
 ∃ (n : Nat),
 ∃ (m : Nat),
 (upd h' b
 (Obj.cells
 #[.int .i64 x_5, .int .i64 x_6, .int .u16 x_7, .int .u16 x_8, .int .u16 x_9,
 .int .u16 x_10]
 159 (0, 0))).cell
 b_1 (o_1 + 6) =
 some (.slice x n m) ∧
 xsApp Tryz.prog 159
 (upd h' b
 (Obj.cells
 #[.int .i64 x_5, .int .i64 x_6, .int .u16 x_7, .int .u16 x_8, .int .u16 x_9,
 .int .u16 x_10]
 159 (0, 0)))
 x n m (some { block := b, off := 0 }) 1 fun (a'_1 : Option Addr) (n'_1 c'_1 : Nat) (h' : Heap) =>
 atBase f fun (b o : Nat) =>
 h'.can b (o + 5) 1 ∧
 atBase f fun (b_2 o_2 : Nat) =>
 (h'.put b (o + 5) [.slice a' n' c']).can b_2 (o_2 + 6) 1 ∧
 flat_Open.L9 d f t40 (IntKind.i64.wrap (t41 + 1)) c_0 c_1 c_2 c_3 c_4
 ((h'.put b (o + 5) [.slice a' n' c']).put b_2 (o_2 + 6) [.slice a'_1 n'_1 c'_1]) Q) ∧
 (∃ (x_13 : Option Addr),
 ∃ (n_1 : Nat),
 ∃ (m_1 : Nat),
 (upd h' b (Obj.cells #[.pointer x] 154 (0, 0))).cell b_1 (o_1 + 6) = some (.slice x_13 n_1 m_1) ∧
 (xsApp Tryz.prog 154 (upd h' b (Obj.cells #[.pointer x] 154 (0, 0))) x_12 n m (some { block := b, off := 0 }) 1
 fun (a' : Option Addr) (n' c' : Nat) (h' : Heap) =>
 ∀ (b : Nat),
 h' b = none →
 xsApp Tryz.prog 159
 (upd h' b
 (Obj.cells
 #[.int .i64 x_5, .int .i64 x_6, .int .u16 x_7, .int .u16 x_8, .int .u16 x_9,
 .int .u16 x_10]
 159 (0, 0)))
 x_13 n_1 m_1 (some { block := b, off := 0 }) 1 fun (a'_1 : Option Addr) (n'_1 c'_1 : Nat) (h' : Heap) =>
 atBase f fun (b o : Nat) =>
 h'.can b (o + 5) 1 ∧
 atBase f fun (b_2 o_2 : Nat) =>
 (h'.put b (o + 5) [.slice a' n' c']).can b_2 (o_2 + 6) 1 ∧
 flat_Open.L9 d f t40 (IntKind.i64.wrap (t41 + 1)) c_0 c_1 c_2 c_3 c_4
 ((h'.put b (o + 5) [.slice a' n' c']).put b_2 (o_2 + 6) [.slice a'_1 n'_1 c'_1]) Q) ∧
 ∀ (b_2 : Nat),
 upd h' b (Obj.cells #[.pointer x] 154 (0, 0)) b_2 = none →
 xsApp Tryz.prog 154
 (upd (upd h' b (Obj.cells #[.pointer x] 154 (0, 0))) b_2
 (Obj.cells
 #[.int .i64 x_5, .int .i64 x_6, .int .u16 x_7, .int .u16 x_8, .int .u16 x_9,
 .int .u16 x_10]
 159 (0, 0)))
 x_12 n m (some { block := b, off := 0 }) 1 fun (a' : Option Addr) (n' c' : Nat) (h' : Heap) =>
 xsApp Tryz.prog 159 h' x_13 n_1 m_1 (some { block := b_2, off := 0 }) 1 fun (a'_1 : Option Addr) (n'_1 c'_1 : Nat) (h' : Heap) =>
 atBase f fun (b o : Nat) =>
 h'.can b (o + 5) 1 ∧
 atBase f fun (b_3 o_2 : Nat) =>
 (h'.put b (o + 5) [.slice a' n' c']).can b_3 (o_2 + 6) 1 ∧
 flat_Open.L9 d f t40 (IntKind.i64.wrap (t41 + 1)) c_0 c_1 c_2 c_3 c_4
 ((h'.put b (o + 5) [.slice a' n' c']).put b_3 (o_2 + 6) [.slice a'_1 n'_1 c'_1]) Q) ∧
 ∀ (b_2 : Nat),
 upd h' b (Obj.cells #[.pointer x] 154 (0, 0)) b_2 = none →
 (xsApp Tryz.prog 154
 (upd (upd h' b (Obj.cells #[.pointer x] 154 (0, 0))) b_2
 (Obj.cells
 #[.int .i64 x_5, .int .i64 x_6, .int .u16 x_7, .int .u16 x_8, .int .u16 x_9,
 .int .u16 x_10]
 159 (0, 0)))
 x_12 n m (some { block := b, off := 0 }) 1 fun (a' : Option Addr) (n' c' : Nat) (h' : Heap) =>
 ∃ (x : Option Addr),
 ∃ (n : Nat),
 ∃ (m : Nat),
 h'.cell b_1 (o_1 + 6) = some (.slice x n m) ∧
 xsApp Tryz.prog 159 h' x n m (some { block := b_2, off := 0 }) 1 fun (a'_1 : Option Addr) (n'_1 c'_1 : Nat) (h' : Heap) =>
 atBase f fun (b o : Nat) =>
 h'.can b (o + 5) 1 ∧
 atBase f fun (b_3 o_2 : Nat) =>
 (h'.put b (o + 5) [.slice a' n' c']).can b_3 (o_2 + 6) 1 ∧
 flat_Open.L9 d f t40 (IntKind.i64.wrap (t41 + 1)) c_0 c_1 c_2 c_3 c_4
 ((h'.put b (o + 5) [.slice a' n' c']).put b_3 (o_2 + 6) [.slice a'_1 n'_1 c'_1]) Q) ∧
 ∃ (x_13 : Option Addr),
 ∃ (n_1 : Nat),
 ∃ (m_1 : Nat),
 (upd (upd h' b (Obj.cells #[.pointer x] 154 (0, 0))) b_2
 (Obj.cells
 #[.int .i64 x_5, .int .i64 x_6, .int .u16 x_7, .int .u16 x_8, .int .u16 x_9,
 .int .u16 x_10]
 159 (0, 0))).cell
 b_1 (o_1 + 6) =
 some (.slice x_13 n_1 m_1) ∧
 xsApp Tryz.prog 154
 (upd (upd h' b (Obj.cells #[.pointer x] 154 (0, 0))) b_2
 (Obj.cells
 #[.int .i64 x_5, .int .i64 x_6, .int .u16 x_7, .int .u16 x_8, .int .u16 x_9,
 .int .u16 x_10]
 159 (0, 0)))
 x_12 n m (some { block := b, off := 0 }) 1 fun (a' : Option Addr) (n' c' : Nat) (h' : Heap) =>
 xsApp Tryz.prog 159 h' x_13 n_1 m_1 (some { block := b_2, off := 0 }) 1 fun (a'_1 : Option Addr) (n'_1 c'_1 : Nat) (h' : Heap) =>
 atBase f fun (b o : Nat) =>
 h'.can b (o + 5) 1 ∧
 atBase f fun (b_3 o_2 : Nat) =>
 (h'.put b (o + 5) [.slice a' n' c']).can b_3 (o_2 + 6) 1 ∧
 flat_Open.L9 d f t40 (IntKind.i64.wrap (t41 + 1)) c_0 c_1 c_2 c_3 c_4
 ((h'.put b (o + 5) [.slice a' n' c']).put b_3 (o_2 + 6) [.slice a'_1 n'_1 c'_1]) Q) ∧
 (∃ (x_13 : Option Addr),
 ∃ (n_1 : Nat),
 ∃ (m_1 : Nat),
 h'.cell b_1 (o_1 + 6) = some (.slice x_13 n_1 m_1) ∧
 (∀ (b : Nat),
 h' b = none →
 (xsApp Tryz.prog 154 (upd h' b (Obj.cells #[.pointer x] 154 (0, 0))) x_12 n m (some { block := b, off := 0 }) 1
 fun (a' : Option Addr) (n' c' : Nat) (h' : Heap) =>
 ∀ (b : Nat),
 h' b = none →
 xsApp Tryz.prog 159
 (upd h' b
 (Obj.cells
 #[.int .i64 x_5, .int .i64 x_6, .int .u16 x_7, .int .u16 x_8, .int .u16 x_9,
 .int .u16 x_10]
 159 (0, 0)))
 x_13 n_1 m_1 (some { block := b, off := 0 }) 1 fun (a'_1 : Option Addr) (n'_1 c'_1 : Nat) (h' : Heap) =>
 atBase f fun (b o : Nat) =>
 h'.can b (o + 5) 1 ∧
 atBase f fun (b_2 o_2 : Nat) =>
 (h'.put b (o + 5) [.slice a' n' c']).can b_2 (o_2 + 6) 1 ∧
 flat_Open.L9 d f t40 (IntKind.i64.wrap (t41 + 1)) c_0 c_1 c_2 c_3 c_4
 ((h'.put b (o + 5) [.slice a' n' c']).put b_2 (o_2 + 6) [.slice a'_1 n'_1 c'_1]) Q) ∧
 ∀ (b_2 : Nat),
 upd h' b (Obj.cells #[.pointer x] 154 (0, 0)) b_2 = none →
 xsApp Tryz.prog 154
 (upd (upd h' b (Obj.cells #[.pointer x] 154 (0, 0))) b_2
 (Obj.cells
 #[.int .i64 x_5, .int .i64 x_6, .int .u16 x_7, .int .u16 x_8, .int .u16 x_9,
 .int .u16 x_10]
 159 (0, 0)))
 x_12 n m (some { block := b, off := 0 }) 1 fun (a' : Option Addr) (n' c' : Nat) (h' : Heap) =>
 xsApp Tryz.prog 159 h' x_13 n_1 m_1 (some { block := b_2, off := 0 }) 1 fun (a'_1 : Option Addr) (n'_1 c'_1 : Nat) (h' : Heap) =>
 atBase f fun (b o : Nat) =>
 h'.can b (o + 5) 1 ∧
 atBase f fun (b_3 o_2 : Nat) =>
 (h'.put b (o + 5) [.slice a' n' c']).can b_3 (o_2 + 6) 1 ∧
 flat_Open.L9 d f t40 (IntKind.i64.wrap (t41 + 1)) c_0 c_1 c_2 c_3 c_4
 ((h'.put b (o + 5) [.slice a' n' c']).put b_3 (o_2 + 6) [.slice a'_1 n'_1 c'_1]) Q) ∧
 ∀ (b : Nat),
 h' b = none →
 ∀ (b_2 : Nat),
 upd h' b
 (Obj.cells
 #[.int .i64 x_5, .int .i64 x_6, .int .u16 x_7, .int .u16 x_8, .int .u16 x_9,
 .int .u16 x_10]
 159 (0, 0))
 b_2 =
 none →
 xsApp Tryz.prog 154
 (upd
 (upd h' b
 (Obj.cells
 #[.int .i64 x_5, .int .i64 x_6, .int .u16 x_7, .int .u16 x_8, .int .u16 x_9,
 .int .u16 x_10]
 159 (0, 0)))
 b_2 (Obj.cells #[.pointer x] 154 (0, 0)))
 x_12 n m (some { block := b_2, off := 0 }) 1 fun (a' : Option Addr) (n' c' : Nat) (h' : Heap) =>
 xsApp Tryz.prog 159 h' x_13 n_1 m_1 (some { block := b, off := 0 }) 1 fun (a'_1 : Option Addr) (n'_1 c'_1 : Nat) (h' : Heap) =>
 atBase f fun (b o : Nat) =>
 h'.can b (o + 5) 1 ∧
 atBase f fun (b_3 o_2 : Nat) =>
 (h'.put b (o + 5) [.slice a' n' c']).can b_3 (o_2 + 6) 1 ∧
 flat_Open.L9 d f t40 (IntKind.i64.wrap (t41 + 1)) c_0 c_1 c_2 c_3 c_4
 ((h'.put b (o + 5) [.slice a' n' c']).put b_3 (o_2 + 6) [.slice a'_1 n'_1 c'_1]) Q) ∧
 ∀ (b : Nat),
 h' b = none →
 (∀ (b_2 : Nat),
 upd h' b
 (Obj.cells
 #[.int .i64 x_5, .int .i64 x_6, .int .u16 x_7, .int .u16 x_8, .int .u16 x_9,
 .int .u16 x_10]
 159 (0, 0))
 b_2 =
 none →
 (xsApp Tryz.prog 154
 (upd
 (upd h' b
 (Obj.cells
 #[.int .i64 x_5, .int .i64 x_6, .int .u16 x_7, .int .u16 x_8, .int .u16 x_9,
 .int .u16 x_10]
 159 (0, 0)))
 b_2 (Obj.cells #[.pointer x] 154 (0, 0)))
 x_12 n m (some { block := b_2, off := 0 }) 1 fun (a' : Option Addr) (n' c' : Nat) (h' : Heap) =>
 ∃ (x : Option Addr),
 ∃ (n : Nat),
 ∃ (m : Nat),
 h'.cell b_1 (o_1 + 6) = some (.slice x n m) ∧
 xsApp Tryz.prog 159 h' x n m (some { block := b, off := 0 }) 1 fun (a'_1 : Option Addr) (n'_1 c'_1 : Nat) (h' : Heap) =>
 atBase f fun (b o : Nat) =>
 h'.can b (o + 5) 1 ∧
 atBase f fun (b_3 o_2 : Nat) =>
 (h'.put b (o + 5) [.slice a' n' c']).can b_3 (o_2 + 6) 1 ∧
 flat_Open.L9 d f t40 (IntKind.i64.wrap (t41 + 1)) c_0 c_1 c_2 c_3 c_4
 ((h'.put b (o + 5) [.slice a' n' c']).put b_3 (o_2 + 6) [.slice a'_1 n'_1 c'_1]) Q) ∧
 ∃ (x_13 : Option Addr),
 ∃ (n_1 : Nat),
 ∃ (m_1 : Nat),
 (upd
 (upd h' b
 (Obj.cells
 #[.int .i64 x_5, .int .i64 x_6, .int .u16 x_7, .int .u16 x_8, .int .u16 x_9,
 .int .u16 x_10]
 159 (0, 0)))
 b_2 (Obj.cells #[.pointer x] 154 (0, 0))).cell
 b_1 (o_1 + 6) =
 some (.slice x_13 n_1 m_1) ∧
 xsApp Tryz.prog 154
 (upd
 (upd h' b
 (Obj.cells
 #[.int .i64 x_5, .int .i64 x_6, .int .u16 x_7, .int .u16 x_8, .int .u16 x_9,
 .int .u16 x_10]
 159 (0, 0)))
 b_2 (Obj.cells #[.pointer x] 154 (0, 0)))
 x_12 n m (some { block := b_2, off := 0 }) 1 fun (a' : Option Addr) (n' c' : Nat) (h' : Heap) =>
 xsApp Tryz.prog 159 h' x_13 n_1 m_1 (some { block := b, off := 0 }) 1 fun (a'_1 : Option Addr) (n'_1 c'_1 : Nat) (h' : Heap) =>
 atBase f fun (b o : Nat) =>
 h'.can b (o + 5) 1 ∧
 atBase f fun (b_3 o_2 : Nat) =>
 (h'.put b (o + 5) [.slice a' n' c']).can b_3 (o_2 + 6) 1 ∧
 flat_Open.L9 d f t40 (IntKind.i64.wrap (t41 + 1)) c_0 c_1 c_2 c_3 c_4
 ((h'.put b (o + 5) [.slice a' n' c']).put b_3 (o_2 + 6) [.slice a'_1 n'_1 c'_1]) Q) ∧
 ∃ (x_13 : Option Addr),
 ∃ (n_1 : Nat),
 ∃ (m_1 : Nat),
 (upd h' b
 (Obj.cells
 #[.int .i64 x_5, .int .i64 x_6, .int .u16 x_7, .int .u16 x_8, .int .u16 x_9,
 .int .u16 x_10]
 159 (0, 0))).cell
 b_1 (o_1 + 6) =
 some (.slice x_13 n_1 m_1) ∧
 ∀ (b_2 : Nat),
 upd h' b
 (Obj.cells
 #[.int .i64 x_5, .int .i64 x_6, .int .u16 x_7, .int .u16 x_8, .int .u16 x_9,
 .int .u16 x_10]
 159 (0, 0))
 b_2 =
 none →
 xsApp Tryz.prog 154
 (upd
 (upd h' b
 (Obj.cells
 #[.int .i64 x_5, .int .i64 x_6, .int .u16 x_7, .int .u16 x_8, .int .u16 x_9,
 .int .u16 x_10]
 159 (0, 0)))
 b_2 (Obj.cells #[.pointer x] 154 (0, 0)))
 x_12 n m (some { block := b_2, off := 0 }) 1 fun (a' : Option Addr) (n' c' : Nat) (h' : Heap) =>
 xsApp Tryz.prog 159 h' x_13 n_1 m_1 (some { block := b, off := 0 }) 1 fun (a'_1 : Option Addr) (n'_1 c'_1 : Nat) (h' : Heap) =>
 atBase f fun (b o : Nat) =>
 h'.can b (o + 5) 1 ∧
 atBase f fun (b_3 o_2 : Nat) =>
 (h'.put b (o + 5) [.slice a' n' c']).can b_3 (o_2 + 6) 1 ∧
 flat_Open.L9 d f t40 (IntKind.i64.wrap (t41 + 1)) c_0 c_1 c_2 c_3 c_4
 ((h'.put b (o + 5) [.slice a' n' c']).put b_3 (o_2 + 6) [.slice a'_1 n'_1 c'_1]) Q) ∧
 (∀ (b_2 : Nat),
 h' b_2 = none →
 (∃ (x_12 : Option Addr),
 ∃ (n : Nat),
 ∃ (m : Nat),
 (upd h' b_2 (Obj.cells #[.pointer x] 154 (0, 0))).cell b (o + 5) = some (.slice x_12 n m) ∧
 (xsApp Tryz.prog 154 (upd h' b_2 (Obj.cells #[.pointer x] 154 (0, 0))) x_12 n m (some { block := b_2, off := 0 }) 1
 fun (a' : Option Addr) (n' c' : Nat) (h' : Heap) =>
 (∃ (x : Option Addr),
 ∃ (n : Nat),
 ∃ (m : Nat),
 h'.cell b_1 (o_1 + 6) = some (.slice x n m) ∧
 ∀ (b : Nat),
 h' b = none →
 xsApp Tryz.prog 159
 (upd h' b
 (Obj.cells
 #[.int .i64 x_5, .int .i64 x_6, .int .u16 x_7, .int .u16 x_8, .int .u16 x_9,
 .int .u16 x_10]
 159 (0, 0)))
 x n m (some { block := b, off := 0 }) 1 fun (a'_1 : Option Addr) (n'_1 c'_1 : Nat) (h' : Heap) =>
 atBase f fun (b o : Nat) =>
 h'.can b (o + 5) 1 ∧
 atBase f fun (b_3 o_2 : Nat) =>
 (h'.put b (o + 5) [.slice a' n' c']).can b_3 (o_2 + 6) 1 ∧
 flat_Open.L9 d f t40 (IntKind.i64.wrap (t41 + 1)) c_0 c_1 c_2 c_3 c_4
 ((h'.put b (o + 5) [.slice a' n' c']).put b_3 (o_2 + 6) [.slice a'_1 n'_1 c'_1]) Q) ∧
 ∀ (b : Nat),
 h' b = none →
 ∃ (x : Option Addr),
 ∃ (n : Nat),
 ∃ (m : Nat),
 (upd h' b
 (Obj.cells
 #[.int .i64 x_5, .int .i64 x_6, .int .u16 x_7, .int .u16 x_8, .int .u16 x_9,
 .int .u16 x_10]
 159 (0, 0))).cell
 b_1 (o_1 + 6) =
 some (.slice x n m) ∧
 xsApp Tryz.prog 159
 (upd h' b
 (Obj.cells
 #[.int .i64 x_5, .int .i64 x_6, .int .u16 x_7, .int .u16 x_8, .int .u16 x_9,
 .int .u16 x_10]
 159 (0, 0)))
 x n m (some { block := b, off := 0 }) 1 fun (a'_1 : Option Addr) (n'_1 c'_1 : Nat) (h' : Heap) =>
 atBase f fun (b o : Nat) =>
 h'.can b (o + 5) 1 ∧
 atBase f fun (b_3 o_2 : Nat) =>
 (h'.put b (o + 5) [.slice a' n' c']).can b_3 (o_2 + 6) 1 ∧
 flat_Open.L9 d f t40 (IntKind.i64.wrap (t41 + 1)) c_0 c_1 c_2 c_3 c_4
 ((h'.put b (o + 5) [.slice a' n' c']).put b_3 (o_2 + 6) [.slice a'_1 n'_1 c'_1]) Q) ∧
 (∃ (x_13 : Option Addr),
 ∃ (n_1 : Nat),
 ∃ (m_1 : Nat),
 (upd h' b_2 (Obj.cells #[.pointer x] 154 (0, 0))).cell b_1 (o_1 + 6) = some (.slice x_13 n_1 m_1) ∧
 (xsApp Tryz.prog 154 (upd h' b_2 (Obj.cells #[.pointer x] 154 (0, 0))) x_12 n m (some { block := b_2, off := 0 }) 1
 fun (a' : Option Addr) (n' c' : Nat) (h' : Heap) =>
 ∀ (b : Nat),
 h' b = none →
 xsApp Tryz.prog 159
 (upd h' b
 (Obj.cells
 #[.int .i64 x_5, .int .i64 x_6, .int .u16 x_7, .int .u16 x_8, .int .u16 x_9,
 .int .u16 x_10]
 159 (0, 0)))
 x_13 n_1 m_1 (some { block := b, off := 0 }) 1 fun (a'_1 : Option Addr) (n'_1 c'_1 : Nat) (h' : Heap) =>
 atBase f fun (b o : Nat) =>
 h'.can b (o + 5) 1 ∧
 atBase f fun (b_3 o_2 : Nat) =>
 (h'.put b (o + 5) [.slice a' n' c']).can b_3 (o_2 + 6) 1 ∧
 flat_Open.L9 d f t40 (IntKind.i64.wrap (t41 + 1)) c_0 c_1 c_2 c_3 c_4
 ((h'.put b (o + 5) [.slice a' n' c']).put b_3 (o_2 + 6) [.slice a'_1 n'_1 c'_1]) Q) ∧
 ∀ (b : Nat),
 upd h' b_2 (Obj.cells #[.pointer x] 154 (0, 0)) b = none →
 xsApp Tryz.prog 154
 (upd (upd h' b_2 (Obj.cells #[.pointer x] 154 (0, 0))) b
 (Obj.cells
 #[.int .i64 x_5, .int .i64 x_6, .int .u16 x_7, .int .u16 x_8, .int .u16 x_9,
 .int .u16 x_10]
 159 (0, 0)))
 x_12 n m (some { block := b_2, off := 0 }) 1 fun (a' : Option Addr) (n' c' : Nat) (h' : Heap) =>
 xsApp Tryz.prog 159 h' x_13 n_1 m_1 (some { block := b, off := 0 }) 1 fun (a'_1 : Option Addr) (n'_1 c'_1 : Nat) (h' : Heap) =>
 atBase f fun (b o : Nat) =>
 h'.can b (o + 5) 1 ∧
 atBase f fun (b_3 o_2 : Nat) =>
 (h'.put b (o + 5) [.slice a' n' c']).can b_3 (o_2 + 6) 1 ∧
 flat_Open.L9 d f t40 (IntKind.i64.wrap (t41 + 1)) c_0 c_1 c_2 c_3 c_4
 ((h'.put b (o + 5) [.slice a' n' c']).put b_3 (o_2 + 6) [.slice a'_1 n'_1 c'_1]) Q) ∧
 ∀ (b : Nat),
 upd h' b_2 (Obj.cells #[.pointer x] 154 (0, 0)) b = none →
 (xsApp Tryz.prog 154
 (upd (upd h' b_2 (Obj.cells #[.pointer x] 154 (0, 0))) b
 (Obj.cells
 #[.int .i64 x_5, .int .i64 x_6, .int .u16 x_7, .int .u16 x_8, .int .u16 x_9,
 .int .u16 x_10]
 159 (0, 0)))
 x_12 n m (some { block := b_2, off := 0 }) 1 fun (a' : Option Addr) (n' c' : Nat) (h' : Heap) =>
 ∃ (x : Option Addr),
 ∃ (n : Nat),
 ∃ (m : Nat),
 h'.cell b_1 (o_1 + 6) = some (.slice x n m) ∧
 xsApp Tryz.prog 159 h' x n m (some { block := b, off := 0 }) 1 fun (a'_1 : Option Addr) (n'_1 c'_1 : Nat) (h' : Heap) =>
 atBase f fun (b o : Nat) =>
 h'.can b (o + 5) 1 ∧
 atBase f fun (b_3 o_2 : Nat) =>
 (h'.put b (o + 5) [.slice a' n' c']).can b_3 (o_2 + 6) 1 ∧
 flat_Open.L9 d f t40 (IntKind.i64.wrap (t41 + 1)) c_0 c_1 c_2 c_3 c_4
 ((h'.put b (o + 5) [.slice a' n' c']).put b_3 (o_2 + 6) [.slice a'_1 n'_1 c'_1]) Q) ∧
 ∃ (x_13 : Option Addr),
 ∃ (n_1 : Nat),
 ∃ (m_1 : Nat),
 (upd (upd h' b_2 (Obj.cells #[.pointer x] 154 (0, 0))) b
 (Obj.cells
 #[.int .i64 x_5, .int .i64 x_6, .int .u16 x_7, .int .u16 x_8, .int .u16 x_9,
 .int .u16 x_10]
 159 (0, 0))).cell
 b_1 (o_1 + 6) =
 some (.slice x_13 n_1 m_1) ∧
 xsApp Tryz.prog 154
 (upd (upd h' b_2 (Obj.cells #[.pointer x] 154 (0, 0))) b
 (Obj.cells
 #[.int .i64 x_5, .int .i64 x_6, .int .u16 x_7, .int .u16 x_8, .int .u16 x_9,
 .int .u16 x_10]
 159 (0, 0)))
 x_12 n m (some { block := b_2, off := 0 }) 1 fun (a' : Option Addr) (n' c' : Nat) (h' : Heap) =>
 xsApp Tryz.prog 159 h' x_13 n_1 m_1 (some { block := b, off := 0 }) 1 fun (a'_1 : Option Addr) (n'_1 c'_1 : Nat) (h' : Heap) =>
 atBase f fun (b o : Nat) =>
 h'.can b (o + 5) 1 ∧
 atBase f fun (b_3 o_2 : Nat) =>
 (h'.put b (o + 5) [.slice a' n' c']).can b_3 (o_2 + 6) 1 ∧
 flat_Open.L9 d f t40 (IntKind.i64.wrap (t41 + 1)) c_0 c_1 c_2 c_3 c_4
 ((h'.put b (o + 5) [.slice a' n' c']).put b_3 (o_2 + 6) [.slice a'_1 n'_1 c'_1]) Q) ∧
 (∃ (x_12 : Option Addr),
 ∃ (n : Nat),
 ∃ (m : Nat),
 (upd h' b_2 (Obj.cells #[.pointer x] 154 (0, 0))).cell b_1 (o_1 + 6) = some (.slice x_12 n m) ∧
 (∃ (x_13 : Option Addr),
 ∃ (n_1 : Nat),
 ∃ (m_1 : Nat),
 (upd h' b_2 (Obj.cells #[.pointer x] 154 (0, 0))).cell b (o + 5) = some (.slice x_13 n_1 m_1) ∧
 (xsApp Tryz.prog 154 (upd h' b_2 (Obj.cells #[.pointer x] 154 (0, 0))) x_13 n_1 m_1 (some { block := b_2, off := 0 }) 1
 fun (a' : Option Addr) (n' c' : Nat) (h' : Heap) =>
 ∀ (b : Nat),
 h' b = none →
 xsApp Tryz.prog 159
 (upd h' b
 (Obj.cells
 #[.int .i64 x_5, .int .i64 x_6, .int .u16 x_7, .int .u16 x_8, .int .u16 x_9,
 .int .u16 x_10]
 159 (0, 0)))
 x_12 n m (some { block := b, off := 0 }) 1 fun (a'_1 : Option Addr) (n'_1 c'_1 : Nat) (h' : Heap) =>
 atBase f fun (b o : Nat) =>
 h'.can b (o + 5) 1 ∧
 atBase f fun (b_3 o_2 : Nat) =>
 (h'.put b (o + 5) [.slice a' n' c']).can b_3 (o_2 + 6) 1 ∧
 flat_Open.L9 d f t40 (IntKind.i64.wrap (t41 + 1)) c_0 c_1 c_2 c_3 c_4
 ((h'.put b (o + 5) [.slice a' n' c']).put b_3 (o_2 + 6) [.slice a'_1 n'_1 c'_1]) Q) ∧
 ∀ (b : Nat),
 upd h' b_2 (Obj.cells #[.pointer x] 154 (0, 0)) b = none →
 xsApp Tryz.prog 154
 (upd (upd h' b_2 (Obj.cells #[.pointer x] 154 (0, 0))) b
 (Obj.cells
 #[.int .i64 x_5, .int .i64 x_6, .int .u16 x_7, .int .u16 x_8, .int .u16 x_9,
 .int .u16 x_10]
 159 (0, 0)))
 x_13 n_1 m_1 (some { block := b_2, off := 0 }) 1 fun (a' : Option Addr) (n' c' : Nat) (h' : Heap) =>
 xsApp Tryz.prog 159 h' x_12 n m (some { block := b, off := 0 }) 1 fun (a'_1 : Option Addr) (n'_1 c'_1 : Nat) (h' : Heap) =>
 atBase f fun (b o : Nat) =>
 h'.can b (o + 5) 1 ∧
 atBase f fun (b_3 o_2 : Nat) =>
 (h'.put b (o + 5) [.slice a' n' c']).can b_3 (o_2 + 6) 1 ∧
 flat_Open.L9 d f t40 (IntKind.i64.wrap (t41 + 1)) c_0 c_1 c_2 c_3 c_4
 ((h'.put b (o + 5) [.slice a' n' c']).put b_3 (o_2 + 6) [.slice a'_1 n'_1 c'_1]) Q) ∧
 ∀ (b_3 : Nat),
 upd h' b_2 (Obj.cells #[.pointer x] 154 (0, 0)) b_3 = none →
 ∃ (x_13 : Option Addr),
 ∃ (n_1 : Nat),
 ∃ (m_1 : Nat),
 (upd (upd h' b_2 (Obj.cells #[.pointer x] 154 (0, 0))) b_3
 (Obj.cells
 #[.int .i64 x_5, .int .i64 x_6, .int .u16 x_7, .int .u16 x_8, .int .u16 x_9,
 .int .u16 x_10]
 159 (0, 0))).cell
 b (o + 5) =
 some (.slice x_13 n_1 m_1) ∧
 xsApp Tryz.prog 154
 (upd (upd h' b_2 (Obj.cells #[.pointer x] 154 (0, 0))) b_3
 (Obj.cells
 #[.int .i64 x_5, .int .i64 x_6, .int .u16 x_7, .int .u16 x_8, .int .u16 x_9,
 .int .u16 x_10]
 159 (0, 0)))
 x_13 n_1 m_1 (some { block := b_2, off := 0 }) 1 fun (a' : Option Addr) (n' c' : Nat) (h' : Heap) =>
 xsApp Tryz.prog 159 h' x_12 n m (some { block := b_3, off := 0 }) 1 fun (a'_1 : Option Addr) (n'_1 c'_1 : Nat) (h' : Heap) =>
 atBase f fun (b o : Nat) =>
 h'.can b (o + 5) 1 ∧
 atBase f fun (b_4 o_2 : Nat) =>
 (h'.put b (o + 5) [.slice a' n' c']).can b_4 (o_2 + 6) 1 ∧
 flat_Open.L9 d f t40 (IntKind.i64.wrap (t41 + 1)) c_0 c_1 c_2 c_3 c_4
 ((h'.put b (o + 5) [.slice a' n' c']).put b_4 (o_2 + 6) [.slice a'_1 n'_1 c'_1]) Q) ∧
 ∀ (b_3 : Nat),
 upd h' b_2 (Obj.cells #[.pointer x] 154 (0, 0)) b_3 = none →
 ∃ (x_12 : Option Addr),
 ∃ (n : Nat),
 ∃ (m : Nat),
 (upd (upd h' b_2 (Obj.cells #[.pointer x] 154 (0, 0))) b_3
 (Obj.cells
 #[.int .i64 x_5, .int .i64 x_6, .int .u16 x_7, .int .u16 x_8, .int .u16 x_9,
 .int .u16 x_10]
 159 (0, 0))).cell
 b (o + 5) =
 some (.slice x_12 n m) ∧
 (xsApp Tryz.prog 154
 (upd (upd h' b_2 (Obj.cells #[.pointer x] 154 (0, 0))) b_3
 (Obj.cells
 #[.int .i64 x_5, .int .i64 x_6, .int .u16 x_7, .int .u16 x_8, .int .u16 x_9,
 .int .u16 x_10]
 159 (0, 0)))
 x_12 n m (some { block := b_2, off := 0 }) 1 fun (a' : Option Addr) (n' c' : Nat) (h' : Heap) =>
 ∃ (x : Option Addr),
 ∃ (n : Nat),
 ∃ (m : Nat),
 h'.cell b_1 (o_1 + 6) = some (.slice x n m) ∧
 xsApp Tryz.prog 159 h' x n m (some { block := b_3, off := 0 }) 1 fun (a'_1 : Option Addr) (n'_1 c'_1 : Nat) (h' : Heap) =>
 atBase f fun (b o : Nat) =>
 h'.can b (o + 5) 1 ∧
 atBase f fun (b_4 o_2 : Nat) =>
 (h'.put b (o + 5) [.slice a' n' c']).can b_4 (o_2 + 6) 1 ∧
 flat_Open.L9 d f t40 (IntKind.i64.wrap (t41 + 1)) c_0 c_1 c_2 c_3 c_4
 ((h'.put b (o + 5) [.slice a' n' c']).put b_4 (o_2 + 6) [.slice a'_1 n'_1 c'_1]) Q) ∧
 ∃ (x_13 : Option Addr),
 ∃ (n_1 : Nat),
 ∃ (m_1 : Nat),
 (upd (upd h' b_2 (Obj.cells #[.pointer x] 154 (0, 0))) b_3
 (Obj.cells
 #[.int .i64 x_5, .int .i64 x_6, .int .u16 x_7, .int .u16 x_8, .int .u16 x_9,
 .int .u16 x_10]
 159 (0, 0))).cell
 b_1 (o_1 + 6) =
 some (.slice x_13 n_1 m_1) ∧
 xsApp Tryz.prog 154
 (upd (upd h' b_2 (Obj.cells #[.pointer x] 154 (0, 0))) b_3
 (Obj.cells
 #[.int .i64 x_5, .int .i64 x_6, .int .u16 x_7, .int .u16 x_8, .int .u16 x_9,
 .int .u16 x_10]
 159 (0, 0)))
 x_12 n m (some { block := b_2, off := 0 }) 1 fun (a' : Option Addr) (n' c' : Nat) (h' : Heap) =>
 xsApp Tryz.prog 159 h' x_13 n_1 m_1 (some { block := b_3, off := 0 }) 1 fun (a'_1 : Option Addr) (n'_1 c'_1 : Nat) (h' : Heap) =>
 atBase f fun (b o : Nat) =>
 h'.can b (o + 5) 1 ∧
 atBase f fun (b_4 o_2 : Nat) =>
 (h'.put b (o + 5) [.slice a' n' c']).can b_4 (o_2 + 6) 1 ∧
 flat_Open.L9 d f t40 (IntKind.i64.wrap (t41 + 1)) c_0 c_1 c_2 c_3 c_4
 ((h'.put b (o + 5) [.slice a' n' c']).put b_4 (o_2 + 6) [.slice a'_1 n'_1 c'_1]) Q) ∧
 (∃ (x_12 : Option Addr),
 ∃ (n : Nat),
 ∃ (m : Nat),
 h'.cell b_1 (o_1 + 6) = some (.slice x_12 n m) ∧
 (∃ (x_13 : Option Addr),
 ∃ (n_1 : Nat),
 ∃ (m_1 : Nat),
 h'.cell b (o + 5) = some (.slice x_13 n_1 m_1) ∧
 (∀ (b : Nat),
 h' b = none →
 (xsApp Tryz.prog 154 (upd h' b (Obj.cells #[.pointer x] 154 (0, 0))) x_13 n_1 m_1 (some { block := b, off := 0 }) 1
 fun (a' : Option Addr) (n' c' : Nat) (h' : Heap) =>
 ∀ (b : Nat),
 h' b = none →
 xsApp Tryz.prog 159
 (upd h' b
 (Obj.cells
 #[.int .i64 x_5, .int .i64 x_6, .int .u16 x_7, .int .u16 x_8, .int .u16 x_9,
 .int .u16 x_10]
 159 (0, 0)))
 x_12 n m (some { block := b, off := 0 }) 1 fun (a'_1 : Option Addr) (n'_1 c'_1 : Nat) (h' : Heap) =>
 atBase f fun (b o : Nat) =>
 h'.can b (o + 5) 1 ∧
 atBase f fun (b_2 o_2 : Nat) =>
 (h'.put b (o + 5) [.slice a' n' c']).can b_2 (o_2 + 6) 1 ∧
 flat_Open.L9 d f t40 (IntKind.i64.wrap (t41 + 1)) c_0 c_1 c_2 c_3 c_4
 ((h'.put b (o + 5) [.slice a' n' c']).put b_2 (o_2 + 6) [.slice a'_1 n'_1 c'_1]) Q) ∧
 ∀ (b_2 : Nat),
 upd h' b (Obj.cells #[.pointer x] 154 (0, 0)) b_2 = none →
 xsApp Tryz.prog 154
 (upd (upd h' b (Obj.cells #[.pointer x] 154 (0, 0))) b_2
 (Obj.cells
 #[.int .i64 x_5, .int .i64 x_6, .int .u16 x_7, .int .u16 x_8, .int .u16 x_9,
 .int .u16 x_10]
 159 (0, 0)))
 x_13 n_1 m_1 (some { block := b, off := 0 }) 1 fun (a' : Option Addr) (n' c' : Nat) (h' : Heap) =>
 xsApp Tryz.prog 159 h' x_12 n m (some { block := b_2, off := 0 }) 1 fun (a'_1 : Option Addr) (n'_1 c'_1 : Nat) (h' : Heap) =>
 atBase f fun (b o : Nat) =>
 h'.can b (o + 5) 1 ∧
 atBase f fun (b_3 o_2 : Nat) =>
 (h'.put b (o + 5) [.slice a' n' c']).can b_3 (o_2 + 6) 1 ∧
 flat_Open.L9 d f t40 (IntKind.i64.wrap (t41 + 1)) c_0 c_1 c_2 c_3 c_4
 ((h'.put b (o + 5) [.slice a' n' c']).put b_3 (o_2 + 6) [.slice a'_1 n'_1 c'_1]) Q) ∧
 ∀ (b : Nat),
 h' b = none →
 ∀ (b_2 : Nat),
 upd h' b
 (Obj.cells
 #[.int .i64 x_5, .int .i64 x_6, .int .u16 x_7, .int .u16 x_8, .int .u16 x_9,
 .int .u16 x_10]
 159 (0, 0))
 b_2 =
 none →
 xsApp Tryz.prog 154
 (upd
 (upd h' b
 (Obj.cells
 #[.int .i64 x_5, .int .i64 x_6, .int .u16 x_7, .int .u16 x_8, .int .u16 x_9,
 .int .u16 x_10]
 159 (0, 0)))
 b_2 (Obj.cells #[.pointer x] 154 (0, 0)))
 x_13 n_1 m_1 (some { block := b_2, off := 0 }) 1 fun (a' : Option Addr) (n' c' : Nat) (h' : Heap) =>
 xsApp Tryz.prog 159 h' x_12 n m (some { block := b, off := 0 }) 1 fun (a'_1 : Option Addr) (n'_1 c'_1 : Nat) (h' : Heap) =>
 atBase f fun (b o : Nat) =>
 h'.can b (o + 5) 1 ∧
 atBase f fun (b_3 o_2 : Nat) =>
 (h'.put b (o + 5) [.slice a' n' c']).can b_3 (o_2 + 6) 1 ∧
 flat_Open.L9 d f t40 (IntKind.i64.wrap (t41 + 1)) c_0 c_1 c_2 c_3 c_4
 ((h'.put b (o + 5) [.slice a' n' c']).put b_3 (o_2 + 6) [.slice a'_1 n'_1 c'_1]) Q) ∧
 (∀ (b_2 : Nat),
 h' b_2 = none →
 (∃ (x_13 : Option Addr),
 ∃ (n_1 : Nat),
 ∃ (m_1 : Nat),
 (upd h' b_2 (Obj.cells #[.pointer x] 154 (0, 0))).cell b (o + 5) = some (.slice x_13 n_1 m_1) ∧
 (xsApp Tryz.prog 154 (upd h' b_2 (Obj.cells #[.pointer x] 154 (0, 0))) x_13 n_1 m_1 (some { block := b_2, off := 0 }) 1
 fun (a' : Option Addr) (n' c' : Nat) (h' : Heap) =>
 ∀ (b : Nat),
 h' b = none →
 xsApp Tryz.prog 159
 (upd h' b
 (Obj.cells
 #[.int .i64 x_5, .int .i64 x_6, .int .u16 x_7, .int .u16 x_8, .int .u16 x_9,
 .int .u16 x_10]
 159 (0, 0)))
 x_12 n m (some { block := b, off := 0 }) 1 fun (a'_1 : Option Addr) (n'_1 c'_1 : Nat) (h' : Heap) =>
 atBase f fun (b o : Nat) =>
 h'.can b (o + 5) 1 ∧
 atBase f fun (b_3 o_2 : Nat) =>
 (h'.put b (o + 5) [.slice a' n' c']).can b_3 (o_2 + 6) 1 ∧
 flat_Open.L9 d f t40 (IntKind.i64.wrap (t41 + 1)) c_0 c_1 c_2 c_3 c_4
 ((h'.put b (o + 5) [.slice a' n' c']).put b_3 (o_2 + 6) [.slice a'_1 n'_1 c'_1]) Q) ∧
 ∀ (b : Nat),
 upd h' b_2 (Obj.cells #[.pointer x] 154 (0, 0)) b = none →
 xsApp Tryz.prog 154
 (upd (upd h' b_2 (Obj.cells #[.pointer x] 154 (0, 0))) b
 (Obj.cells
 #[.int .i64 x_5, .int .i64 x_6, .int .u16 x_7, .int .u16 x_8, .int .u16 x_9,
 .int .u16 x_10]
 159 (0, 0)))
 x_13 n_1 m_1 (some { block := b_2, off := 0 }) 1 fun (a' : Option Addr) (n' c' : Nat) (h' : Heap) =>
 xsApp Tryz.prog 159 h' x_12 n m (some { block := b, off := 0 }) 1 fun (a'_1 : Option Addr) (n'_1 c'_1 : Nat) (h' : Heap) =>
 atBase f fun (b o : Nat) =>
 h'.can b (o + 5) 1 ∧
 atBase f fun (b_3 o_2 : Nat) =>
 (h'.put b (o + 5) [.slice a' n' c']).can b_3 (o_2 + 6) 1 ∧
 flat_Open.L9 d f t40 (IntKind.i64.wrap (t41 + 1)) c_0 c_1 c_2 c_3 c_4
 ((h'.put b (o + 5) [.slice a' n' c']).put b_3 (o_2 + 6) [.slice a'_1 n'_1 c'_1]) Q) ∧
 ∀ (b_3 : Nat),
 upd h' b_2 (Obj.cells #[.pointer x] 154 (0, 0)) b_3 = none →
 ∃ (x_13 : Option Addr),
 ∃ (n_1 : Nat),
 ∃ (m_1 : Nat),
 (upd (upd h' b_2 (Obj.cells #[.pointer x] 154 (0, 0))) b_3
 (Obj.cells
 #[.int .i64 x_5, .int .i64 x_6, .int .u16 x_7, .int .u16 x_8, .int .u16 x_9,
 .int .u16 x_10]
 159 (0, 0))).cell
 b (o + 5) =
 some (.slice x_13 n_1 m_1) ∧
 xsApp Tryz.prog 154
 (upd (upd h' b_2 (Obj.cells #[.pointer x] 154 (0, 0))) b_3
 (Obj.cells
 #[.int .i64 x_5, .int .i64 x_6, .int .u16 x_7, .int .u16 x_8, .int .u16 x_9,
 .int .u16 x_10]
 159 (0, 0)))
 x_13 n_1 m_1 (some { block := b_2, off := 0 }) 1 fun (a' : Option Addr) (n' c' : Nat) (h' : Heap) =>
 xsApp Tryz.prog 159 h' x_12 n m (some { block := b_3, off := 0 }) 1 fun (a'_1 : Option Addr) (n'_1 c'_1 : Nat) (h' : Heap) =>
 atBase f fun (b o : Nat) =>
 h'.can b (o + 5) 1 ∧
 atBase f fun (b_4 o_2 : Nat) =>
 (h'.put b (o + 5) [.slice a' n' c']).can b_4 (o_2 + 6) 1 ∧
 flat_Open.L9 d f t40 (IntKind.i64.wrap (t41 + 1)) c_0 c_1 c_2 c_3 c_4
 ((h'.put b (o + 5) [.slice a' n' c']).put b_4 (o_2 + 6) [.slice a'_1 n'_1 c'_1]) Q) ∧
 ∀ (b_2 : Nat),
 h' b_2 = none →
 (∃ (x_13 : Option Addr),
 ∃ (n_1 : Nat),
 ∃ (m_1 : Nat),
 (upd h' b_2
 (Obj.cells
 #[.int .i64 x_5, .int .i64 x_6, .int .u16 x_7, .int .u16 x_8, .int .u16 x_9,
 .int .u16 x_10]
 159 (0, 0))).cell
 b (o + 5) =
 some (.slice x_13 n_1 m_1) ∧
 ∀ (b : Nat),
 upd h' b_2
 (Obj.cells
 #[.int .i64 x_5, .int .i64 x_6, .int .u16 x_7, .int .u16 x_8, .int .u16 x_9,
 .int .u16 x_10]
 159 (0, 0))
 b =
 none →
 xsApp Tryz.prog 154
 (upd
 (upd h' b_2
 (Obj.cells
 #[.int .i64 x_5, .int .i64 x_6, .int .u16 x_7, .int .u16 x_8, .int .u16 x_9,
 .int .u16 x_10]
 159 (0, 0)))
 b (Obj.cells #[.pointer x] 154 (0, 0)))
 x_13 n_1 m_1 (some { block := b, off := 0 }) 1 fun (a' : Option Addr) (n' c' : Nat) (h' : Heap) =>
 xsApp Tryz.prog 159 h' x_12 n m (some { block := b_2, off := 0 }) 1 fun (a'_1 : Option Addr) (n'_1 c'_1 : Nat) (h' : Heap) =>
 atBase f fun (b o : Nat) =>
 h'.can b (o + 5) 1 ∧
 atBase f fun (b_3 o_2 : Nat) =>
 (h'.put b (o + 5) [.slice a' n' c']).can b_3 (o_2 + 6) 1 ∧
 flat_Open.L9 d f t40 (IntKind.i64.wrap (t41 + 1)) c_0 c_1 c_2 c_3 c_4
 ((h'.put b (o + 5) [.slice a' n' c']).put b_3 (o_2 + 6) [.slice a'_1 n'_1 c'_1]) Q) ∧
 ∀ (b_3 : Nat),
 upd h' b_2
 (Obj.cells
 #[.int .i64 x_5, .int .i64 x_6, .int .u16 x_7, .int .u16 x_8, .int .u16 x_9,
 .int .u16 x_10]
 159 (0, 0))
 b_3 =
 none →
 ∃ (x_13 : Option Addr),
 ∃ (n_1 : Nat),
 ∃ (m_1 : Nat),
 (upd
 (upd h' b_2
 (Obj.cells
 #[.int .i64 x_5, .int .i64 x_6, .int .u16 x_7, .int .u16 x_8, .int .u16 x_9,
 .int .u16 x_10]
 159 (0, 0)))
 b_3 (Obj.cells #[.pointer x] 154 (0, 0))).cell
 b (o + 5) =
 some (.slice x_13 n_1 m_1) ∧
 xsApp Tryz.prog 154
 (upd
 (upd h' b_2
 (Obj.cells
 #[.int .i64 x_5, .int .i64 x_6, .int .u16 x_7, .int .u16 x_8, .int .u16 x_9,
 .int .u16 x_10]
 159 (0, 0)))
 b_3 (Obj.cells #[.pointer x] 154 (0, 0)))
 x_13 n_1 m_1 (some { block := b_3, off := 0 }) 1 fun (a' : Option Addr) (n' c' : Nat) (h' : Heap) =>
 xsApp Tryz.prog 159 h' x_12 n m (some { block := b_2, off := 0 }) 1 fun (a'_1 : Option Addr) (n'_1 c'_1 : Nat) (h' : Heap) =>
 atBase f fun (b o : Nat) =>
 h'.can b (o + 5) 1 ∧
 atBase f fun (b_4 o_2 : Nat) =>
 (h'.put b (o + 5) [.slice a' n' c']).can b_4 (o_2 + 6) 1 ∧
 flat_Open.L9 d f t40 (IntKind.i64.wrap (t41 + 1)) c_0 c_1 c_2 c_3 c_4
 ((h'.put b (o + 5) [.slice a' n' c']).put b_4 (o_2 + 6) [.slice a'_1 n'_1 c'_1]) Q) ∧
 ∀ (b_2 : Nat),
 h' b_2 = none →
 (∃ (x_12 : Option Addr),
 ∃ (n : Nat),
 ∃ (m : Nat),
 (upd h' b_2
 (Obj.cells
 #[.int .i64 x_5, .int .i64 x_6, .int .u16 x_7, .int .u16 x_8, .int .u16 x_9,
 .int .u16 x_10]
 159 (0, 0))).cell
 b (o + 5) =
 some (.slice x_12 n m) ∧
 (∀ (b : Nat),
 upd h' b_2
 (Obj.cells
 #[.int .i64 x_5, .int .i64 x_6, .int .u16 x_7, .int .u16 x_8, .int .u16 x_9,
 .int .u16 x_10]
 159 (0, 0))
 b =
 none →
 (xsApp Tryz.prog 154
 (upd
 (upd h' b_2
 (Obj.cells
 #[.int .i64 x_5, .int .i64 x_6, .int .u16 x_7, .int .u16 x_8, .int .u16 x_9,
 .int .u16 x_10]
 159 (0, 0)))
 b (Obj.cells #[.pointer x] 154 (0, 0)))
 x_12 n m (some { block := b, off := 0 }) 1 fun (a' : Option Addr) (n' c' : Nat) (h' : Heap) =>
 ∃ (x : Option Addr),
 ∃ (n : Nat),
 ∃ (m : Nat),
 h'.cell b_1 (o_1 + 6) = some (.slice x n m) ∧
 xsApp Tryz.prog 159 h' x n m (some { block := b_2, off := 0 }) 1 fun (a'_1 : Option Addr) (n'_1 c'_1 : Nat) (h' : Heap) =>
 atBase f fun (b o : Nat) =>
 h'.can b (o + 5) 1 ∧
 atBase f fun (b_3 o_2 : Nat) =>
 (h'.put b (o + 5) [.slice a' n' c']).can b_3 (o_2 + 6) 1 ∧
 flat_Open.L9 d f t40 (IntKind.i64.wrap (t41 + 1)) c_0 c_1 c_2 c_3 c_4
 ((h'.put b (o + 5) [.slice a' n' c']).put b_3 (o_2 + 6) [.slice a'_1 n'_1 c'_1]) Q) ∧
 ∃ (x_13 : Option Addr),
 ∃ (n_1 : Nat),
 ∃ (m_1 : Nat),
 (upd
 (upd h' b_2
 (Obj.cells
 #[.int .i64 x_5, .int .i64 x_6, .int .u16 x_7, .int .u16 x_8, .int .u16 x_9,
 .int .u16 x_10]
 159 (0, 0)))
 b (Obj.cells #[.pointer x] 154 (0, 0))).cell
 b_1 (o_1 + 6) =
 some (.slice x_13 n_1 m_1) ∧
 xsApp Tryz.prog 154
 (upd
 (upd h' b_2
 (Obj.cells
 #[.int .i64 x_5, .int .i64 x_6, .int .u16 x_7, .int .u16 x_8, .int .u16 x_9,
 .int .u16 x_10]
 159 (0, 0)))
 b (Obj.cells #[.pointer x] 154 (0, 0)))
 x_12 n m (some { block := b, off := 0 }) 1 fun (a' : Option Addr) (n' c' : Nat) (h' : Heap) =>
 xsApp Tryz.prog 159 h' x_13 n_1 m_1 (some { block := b_2, off := 0 }) 1 fun (a'_1 : Option Addr) (n'_1 c'_1 : Nat) (h' : Heap) =>
 atBase f fun (b o : Nat) =>
 h'.can b (o + 5) 1 ∧
 atBase f fun (b_3 o_2 : Nat) =>
 (h'.put b (o + 5) [.slice a' n' c']).can b_3 (o_2 + 6) 1 ∧
 flat_Open.L9 d f t40 (IntKind.i64.wrap (t41 + 1)) c_0 c_1 c_2 c_3 c_4
 ((h'.put b (o + 5) [.slice a' n' c']).put b_3 (o_2 + 6) [.slice a'_1 n'_1 c'_1]) Q) ∧
 ∃ (x_13 : Option Addr),
 ∃ (n_1 : Nat),
 ∃ (m_1 : Nat),
 (upd h' b_2
 (Obj.cells
 #[.int .i64 x_5, .int .i64 x_6, .int .u16 x_7, .int .u16 x_8, .int .u16 x_9,
 .int .u16 x_10]
 159 (0, 0))).cell
 b_1 (o_1 + 6) =
 some (.slice x_13 n_1 m_1) ∧
 ∀ (b : Nat),
 upd h' b_2
 (Obj.cells
 #[.int .i64 x_5, .int .i64 x_6, .int .u16 x_7, .int .u16 x_8, .int .u16 x_9,
 .int .u16 x_10]
 159 (0, 0))
 b =
 none →
 xsApp Tryz.prog 154
 (upd
 (upd h' b_2
 (Obj.cells
 #[.int .i64 x_5, .int .i64 x_6, .int .u16 x_7, .int .u16 x_8, .int .u16 x_9,
 .int .u16 x_10]
 159 (0, 0)))
 b (Obj.cells #[.pointer x] 154 (0, 0)))
 x_12 n m (some { block := b, off := 0 }) 1 fun (a' : Option Addr) (n' c' : Nat) (h' : Heap) =>
 xsApp Tryz.prog 159 h' x_13 n_1 m_1 (some { block := b_2, off := 0 }) 1 fun (a'_1 : Option Addr) (n'_1 c'_1 : Nat) (h' : Heap) =>
 atBase f fun (b o : Nat) =>
 h'.can b (o + 5) 1 ∧
 atBase f fun (b_3 o_2 : Nat) =>
 (h'.put b (o + 5) [.slice a' n' c']).can b_3 (o_2 + 6) 1 ∧
 flat_Open.L9 d f t40 (IntKind.i64.wrap (t41 + 1)) c_0 c_1 c_2 c_3 c_4
 ((h'.put b (o + 5) [.slice a' n' c']).put b_3 (o_2 + 6) [.slice a'_1 n'_1 c'_1]) Q) ∧
 (∀ (b_3 : Nat),
 upd h' b_2
 (Obj.cells
 #[.int .i64 x_5, .int .i64 x_6, .int .u16 x_7, .int .u16 x_8, .int .u16 x_9, .int .u16 x_10]
 159 (0, 0))
 b_3 =
 none →
 ∃ (x_12 : Option Addr),
 ∃ (n : Nat),
 ∃ (m : Nat),
 (upd
 (upd h' b_2
 (Obj.cells
 #[.int .i64 x_5, .int .i64 x_6, .int .u16 x_7, .int .u16 x_8, .int .u16 x_9,
 .int .u16 x_10]
 159 (0, 0)))
 b_3 (Obj.cells #[.pointer x] 154 (0, 0))).cell
 b (o + 5) =
 some (.slice x_12 n m) ∧
 (xsApp Tryz.prog 154
 (upd
 (upd h' b_2
 (Obj.cells
 #[.int .i64 x_5, .int .i64 x_6, .int .u16 x_7, .int .u16 x_8, .int .u16 x_9,
 .int .u16 x_10]
 159 (0, 0)))
 b_3 (Obj.cells #[.pointer x] 154 (0, 0)))
 x_12 n m (some { block := b_3, off := 0 }) 1 fun (a' : Option Addr) (n' c' : Nat) (h' : Heap) =>
 ∃ (x : Option Addr),
 ∃ (n : Nat),
 ∃ (m : Nat),
 h'.cell b_1 (o_1 + 6) = some (.slice x n m) ∧
 xsApp Tryz.prog 159 h' x n m (some { block := b_2, off := 0 }) 1 fun (a'_1 : Option Addr) (n'_1 c'_1 : Nat) (h' : Heap) =>
 atBase f fun (b o : Nat) =>
 h'.can b (o + 5) 1 ∧
 atBase f fun (b_4 o_2 : Nat) =>
 (h'.put b (o + 5) [.slice a' n' c']).can b_4 (o_2 + 6) 1 ∧
 flat_Open.L9 d f t40 (IntKind.i64.wrap (t41 + 1)) c_0 c_1 c_2 c_3 c_4
 ((h'.put b (o + 5) [.slice a' n' c']).put b_4 (o_2 + 6) [.slice a'_1 n'_1 c'_1]) Q) ∧
 ∃ (x_13 : Option Addr),
 ∃ (n_1 : Nat),
 ∃ (m_1 : Nat),
 (upd
 (upd h' b_2
 (Obj.cells
 #[.int .i64 x_5, .int .i64 x_6, .int .u16 x_7, .int .u16 x_8, .int .u16 x_9,
 .int .u16 x_10]
 159 (0, 0)))
 b_3 (Obj.cells #[.pointer x] 154 (0, 0))).cell
 b_1 (o_1 + 6) =
 some (.slice x_13 n_1 m_1) ∧
 xsApp Tryz.prog 154
 (upd
 (upd h' b_2
 (Obj.cells
 #[.int .i64 x_5, .int .i64 x_6, .int .u16 x_7, .int .u16 x_8, .int .u16 x_9,
 .int .u16 x_10]
 159 (0, 0)))
 b_3 (Obj.cells #[.pointer x] 154 (0, 0)))
 x_12 n m (some { block := b_3, off := 0 }) 1 fun (a' : Option Addr) (n' c' : Nat) (h' : Heap) =>
 xsApp Tryz.prog 159 h' x_13 n_1 m_1 (some { block := b_2, off := 0 }) 1 fun (a'_1 : Option Addr) (n'_1 c'_1 : Nat) (h' : Heap) =>
 atBase f fun (b o : Nat) =>
 h'.can b (o + 5) 1 ∧
 atBase f fun (b_4 o_2 : Nat) =>
 (h'.put b (o + 5) [.slice a' n' c']).can b_4 (o_2 + 6) 1 ∧
 flat_Open.L9 d f t40 (IntKind.i64.wrap (t41 + 1)) c_0 c_1 c_2 c_3 c_4
 ((h'.put b (o + 5) [.slice a' n' c']).put b_4 (o_2 + 6) [.slice a'_1 n'_1 c'_1]) Q) ∧
 ∃ (x_12 : Option Addr),
 ∃ (n : Nat),
 ∃ (m : Nat),
 (upd h' b_2
 (Obj.cells
 #[.int .i64 x_5, .int .i64 x_6, .int .u16 x_7, .int .u16 x_8, .int .u16 x_9,
 .int .u16 x_10]
 159 (0, 0))).cell
 b_1 (o_1 + 6) =
 some (.slice x_12 n m) ∧
 (∃ (x_13 : Option Addr),
 ∃ (n_1 : Nat),
 ∃ (m_1 : Nat),
 (upd h' b_2
 (Obj.cells
 #[.int .i64 x_5, .int .i64 x_6, .int .u16 x_7, .int .u16 x_8, .int .u16 x_9,
 .int .u16 x_10]
 159 (0, 0))).cell
 b (o + 5) =
 some (.slice x_13 n_1 m_1) ∧
 ∀ (b : Nat),
 upd h' b_2
 (Obj.cells
 #[.int .i64 x_5, .int .i64 x_6, .int .u16 x_7, .int .u16 x_8, .int .u16 x_9,
 .int .u16 x_10]
 159 (0, 0))
 b =
 none →
 xsApp Tryz.prog 154
 (upd
 (upd h' b_2
 (Obj.cells
 #[.int .i64 x_5, .int .i64 x_6, .int .u16 x_7, .int .u16 x_8, .int .u16 x_9,
 .int .u16 x_10]
 159 (0, 0)))
 b (Obj.cells #[.pointer x] 154 (0, 0)))
 x_13 n_1 m_1 (some { block := b, off := 0 }) 1 fun (a' : Option Addr) (n' c' : Nat) (h' : Heap) =>
 xsApp Tryz.prog 159 h' x_12 n m (some { block := b_2, off := 0 }) 1 fun (a'_1 : Option Addr) (n'_1 c'_1 : Nat) (h' : Heap) =>
 atBase f fun (b o : Nat) =>
 h'.can b (o + 5) 1 ∧
 atBase f fun (b_3 o_2 : Nat) =>
 (h'.put b (o + 5) [.slice a' n' c']).can b_3 (o_2 + 6) 1 ∧
 flat_Open.L9 d f t40 (IntKind.i64.wrap (t41 + 1)) c_0 c_1 c_2 c_3 c_4
 ((h'.put b (o + 5) [.slice a' n' c']).put b_3 (o_2 + 6) [.slice a'_1 n'_1 c'_1]) Q) ∧
 ∀ (b_3 : Nat),
 upd h' b_2
 (Obj.cells
 #[.int .i64 x_5, .int .i64 x_6, .int .u16 x_7, .int .u16 x_8, .int .u16 x_9,
 .int .u16 x_10]
 159 (0, 0))
 b_3 =
 none →
 ∃ (x_13 : Option Addr),
 ∃ (n_1 : Nat),
 ∃ (m_1 : Nat),
 (upd
 (upd h' b_2
 (Obj.cells
 #[.int .i64 x_5, .int .i64 x_6, .int .u16 x_7, .int .u16 x_8, .int .u16 x_9,
 .int .u16 x_10]
 159 (0, 0)))
 b_3 (Obj.cells #[.pointer x] 154 (0, 0))).cell
 b (o + 5) =
 some (.slice x_13 n_1 m_1) ∧
 xsApp Tryz.prog 154
 (upd
 (upd h' b_2
 (Obj.cells
 #[.int .i64 x_5, .int .i64 x_6, .int .u16 x_7, .int .u16 x_8, .int .u16 x_9,
 .int .u16 x_10]
 159 (0, 0)))
 b_3 (Obj.cells #[.pointer x] 154 (0, 0)))
 x_13 n_1 m_1 (some { block := b_3, off := 0 }) 1 fun (a' : Option Addr) (n' c' : Nat) (h' : Heap) =>
 xsApp Tryz.prog 159 h' x_12 n m (some { block := b_2, off := 0 }) 1 fun (a'_1 : Option Addr) (n'_1 c'_1 : Nat) (h' : Heap) =>
 atBase f fun (b o : Nat) =>
 h'.can b (o + 5) 1 ∧
 atBase f fun (b_4 o_2 : Nat) =>
 (h'.put b (o + 5) [.slice a' n' c']).can b_4 (o_2 + 6) 1 ∧
 flat_Open.L9 d f t40 (IntKind.i64.wrap (t41 + 1)) c_0 c_1 c_2 c_3 c_4
 ((h'.put b (o + 5) [.slice a' n' c']).put b_4 (o_2 + 6) [.slice a'_1 n'_1 c'_1]) Q))
 (Q (.tuple #[.pointer f, .int .i64 0]) h)
theorem flat_Open.ok {d : Option Addr} {h : Heap} {Q : Value → Heap → Prop} (hk : flat_Open.wp d h Q) : C Tryz.prog 18 #[.pointer d] h Q :=
 C_of_xs (H := flat_Open.H) (lcuts := flat_Open.lc) (rcuts := flat_Open.rc) (l := [.pointer d]) 2000 mixed Tryz.func18 rfl (by kernel_rfl) (@cast (flat_Open.wp d h Q) _ (by kernel_rfl) hk)
theorem flat_Open.J7.ok {d : Option Addr} {c_0 : Int} {c_1 : Int} {c_2 : Int} {c_3 : Int} {c_4 : Int} {h : Heap} {Q : Value → Heap → Prop} (hk : flat_Open.J7.wp d c_0 c_1 c_2 c_3 c_4 h Q) : flat_Open.J7 d c_0 c_1 c_2 c_3 c_4 h Q :=
 xs_ok (H := flat_Open.H) (lcuts := flat_Open.lc) (rcuts := []) (fn := Tryz.f18) mixed Tryz.func18 2000 _ _ _ (@cast (flat_Open.J7.wp d c_0 c_1 c_2 c_3 c_4 h Q) _ (by kernel_rfl) hk)
theorem flat_Open.L9.ok {d : Option Addr} {f : Option Addr} {t40 : Int} {t41 : Int} {c_0 : Int} {c_1 : Int} {c_2 : Int} {c_3 : Int} {c_4 : Int} {h : Heap} {Q : Value → Heap → Prop} (hk : flat_Open.L9.wp d f t40 t41 c_0 c_1 c_2 c_3 c_4 h Q) : flat_Open.L9 d f t40 t41 c_0 c_1 c_2 c_3 c_4 h Q :=
 xs_ok (H := flat_Open.H) (lcuts := flat_Open.lc) (rcuts := flat_Open.rc) (fn := Tryz.f18) mixed Tryz.func18 2000 _ _ _ (@cast (flat_Open.L9.wp d f t40 t41 c_0 c_1 c_2 c_3 c_4 h Q) _ (by kernel_rfl) hk)

/-! gabion/gabionlaw09.full -/
def gabionlaw09_full.H : Hn := ⟨[], [], [], []⟩
def gabionlaw09_full.lc : List Cut := []
def gabionlaw09_full.rc : List Cut := []
def gabionlaw09_full.wp (s : ByteArray) (h : Heap) (Q : Value → Heap → Prop) : Prop :=
 C Tryz.prog 76 #[.string { data := #[UInt8.ofNat 0] }, .int .i64 64] h fun (r : Value) (h' : Heap) =>
 ∃ (x : ByteArray), r = .string x ∧ (↑(s.size + x.size) : Int) ≤ 9223372036854775807 ∧ ((0 : Int) ≤ 64 ∧ (64 : Int) ≤ (↑(s ++ x).size : Int)) ∧ Q (.string (sext (s ++ x) 0 64)) h'
theorem gabionlaw09_full.ok {s : ByteArray} {h : Heap} {Q : Value → Heap → Prop} (hk : gabionlaw09_full.wp s h Q) : C Tryz.prog 19 #[.string s] h Q :=
 C_of_xs (H := gabionlaw09_full.H) (lcuts := gabionlaw09_full.lc) (rcuts := gabionlaw09_full.rc) (l := [.string s]) 2000 mixed Tryz.func19 rfl (by kernel_rfl) (@cast (gabionlaw09_full.wp s h Q) _ (by kernel_rfl) hk)

/-! (*gabion/flat.Flat).Lines -/
def flat_Flat_Lines.H : Hn := ⟨[], [], [⟨3, .q 0 (.q 1 (.q 2 (.q 3 (.q 5 (.q 6 (.q 7 (.q 8 (.ld 4 3072 (.q 9 (.q 10 (.q 11 (.nil)))))))))))), []⟩], []⟩
def flat_Flat_Lines.lc : List Cut := []
def flat_Flat_Lines.rc : List Cut := []
def flat_Flat_Lines.wp (f : Option Addr) (h : Heap) (Q : Value → Heap → Prop) : Prop :=
 xsIf f.isNone (Q (.int .i64 0) h)
 (atBase f fun (b o : Nat) =>
 atBase f fun (b_1 o_1 : Nat) => ∃ (x : Int), h.cell b (o + 0 + 0) = some (.int .i64 x) ∧ ∃ (x_1 : Int), h.cell b_1 (o_1 + 0 + 1) = some (.int .i64 x_1) ∧ Q (.int .i64 (IntKind.i64.wrap (x * x_1))) h)
theorem flat_Flat_Lines.ok {f : Option Addr} {h : Heap} {Q : Value → Heap → Prop} (hk : flat_Flat_Lines.wp f h Q) : C Tryz.prog 24 #[.pointer f] h Q :=
 C_of_xs (H := flat_Flat_Lines.H) (lcuts := flat_Flat_Lines.lc) (rcuts := flat_Flat_Lines.rc) (l := [.pointer f]) 2000 mixed Tryz.func24 rfl (by kernel_rfl) (@cast (flat_Flat_Lines.wp f h Q) _ (by kernel_rfl) hk)

/-! (*gabion/flat.Flat).Region -/
def flat_Flat_Region.H : Hn := ⟨[], [], [], []⟩
def flat_Flat_Region.lc : List Cut := []
def flat_Flat_Region.rc : List Cut := []
def flat_Flat_Region.wp (f : Option Addr) (l : Int) (h : Heap) (Q : Value → Heap → Prop) : Prop :=
 xsIf (decide (l < 0)) (Q (.int .i64 (-1)) h)
 (C Tryz.prog 24 #[.pointer f] h fun (r : Value) (h' : Heap) =>
 ∃ (x : Int),
 r = .int .i64 x ∧
 xsIf (decide (x ≤ l)) (Q (.int .i64 (-1)) h') (atBase f fun (b o : Nat) => ∃ (x : Int), h'.cell b (o + 0 + 1) = some (.int .i64 x) ∧ x ≠ 0 ∧ Q (.int .i64 (iquo .i64 l x)) h'))
theorem flat_Flat_Region.ok {f : Option Addr} {l : Int} {h : Heap} {Q : Value → Heap → Prop} (hk : flat_Flat_Region.wp f l h Q) : C Tryz.prog 28 #[.pointer f, .int .i64 l] h Q :=
 C_of_xs (H := flat_Flat_Region.H) (lcuts := flat_Flat_Region.lc) (rcuts := flat_Flat_Region.rc) (l := [.pointer f, .int .i64 l]) 2000 mixed Tryz.func28 rfl (by kernel_rfl) (@cast (flat_Flat_Region.wp f l h Q) _ (by kernel_rfl) hk)

/-! (gabion/feistel.Perm).low -/
def feistel_Perm_low.H : Hn := ⟨[], [], [], []⟩
def feistel_Perm_low.lc : List Cut := []
def feistel_Perm_low.rc : List Cut := []
def feistel_Perm_low.wp (p_0 : Int) (p_1 : Int) (p_2 : Int) (p_3 : Int) (p_4 : Int) (p_5 : Int) (h : Heap) (Q : Value → Heap → Prop) : Prop :=
 0 ≤ p_1 ∧ Q (.int .i64 (IntKind.i64.wrap (ishl .i64 1 p_1 - 1))) h
theorem feistel_Perm_low.ok {p_0 : Int} {p_1 : Int} {p_2 : Int} {p_3 : Int} {p_4 : Int} {p_5 : Int} {h : Heap} {Q : Value → Heap → Prop} (hk : feistel_Perm_low.wp p_0 p_1 p_2 p_3 p_4 p_5 h Q) : C Tryz.prog 244 #[.agg #[.int .i64 p_0, .int .i64 p_1, .int .u16 p_2, .int .u16 p_3, .int .u16 p_4, .int .u16 p_5]] h Q :=
 C_of_xs (H := feistel_Perm_low.H) (lcuts := feistel_Perm_low.lc) (rcuts := feistel_Perm_low.rc) (l := [.agg #[.int .i64 p_0, .int .i64 p_1, .int .u16 p_2, .int .u16 p_3, .int .u16 p_4, .int .u16 p_5]]) 2000 mixed Tryz.func244 rfl (by kernel_rfl) (@cast (feistel_Perm_low.wp p_0 p_1 p_2 p_3 p_4 p_5 h Q) _ (by kernel_rfl) hk)

/-! (gabion/feistel.Perm).mix -/
def feistel_Perm_mix.H : Hn := ⟨[], [], [], []⟩
def feistel_Perm_mix.lc : List Cut := []
def feistel_Perm_mix.rc : List Cut := []
def feistel_Perm_mix.wp (p_0 : Int) (p_1 : Int) (p_2 : Int) (p_3 : Int) (p_4 : Int) (p_5 : Int) (x : Int) (k0 : Int) (h : Heap) (Q : Value → Heap → Prop) : Prop :=
 C Tryz.prog 244 #[.agg #[.int .i64 p_0, .int .i64 p_1, .int .u16 p_2, .int .u16 p_3, .int .u16 p_4, .int .u16 p_5]] h
 fun (r : Value) (h' : Heap) =>
 ∃ (x_1 : Int),
 r = .int .i64 x_1 ∧
 Q
 (.int .i64
 (iand .i64
 (IntKind.i64.wrap
 (ixor .u16 (IntKind.u16.wrap (IntKind.u16.wrap (IntKind.u16.wrap (IntKind.u16.wrap x * 40503) + IntKind.u16.wrap (k0 * 52711)) + 12289))
 (ishr .u16 (IntKind.u16.wrap (IntKind.u16.wrap (IntKind.u16.wrap (IntKind.u16.wrap x * 40503) + IntKind.u16.wrap (k0 * 52711)) + 12289)) 7)))
 x_1))
 h'
theorem feistel_Perm_mix.ok {p_0 : Int} {p_1 : Int} {p_2 : Int} {p_3 : Int} {p_4 : Int} {p_5 : Int} {x : Int} {k0 : Int} {h : Heap} {Q : Value → Heap → Prop} (hk : feistel_Perm_mix.wp p_0 p_1 p_2 p_3 p_4 p_5 x k0 h Q) : C Tryz.prog 245 #[.agg #[.int .i64 p_0, .int .i64 p_1, .int .u16 p_2, .int .u16 p_3, .int .u16 p_4, .int .u16 p_5], .int .i64 x, .int .u16 k0] h Q :=
 C_of_xs (H := feistel_Perm_mix.H) (lcuts := feistel_Perm_mix.lc) (rcuts := feistel_Perm_mix.rc) (l := [.agg #[.int .i64 p_0, .int .i64 p_1, .int .u16 p_2, .int .u16 p_3, .int .u16 p_4, .int .u16 p_5], .int .i64 x, .int .u16 k0]) 2000 mixed Tryz.func245 rfl (by kernel_rfl) (@cast (feistel_Perm_mix.wp p_0 p_1 p_2 p_3 p_4 p_5 x k0 h Q) _ (by kernel_rfl) hk)

/-! (gabion/feistel.Perm).turn -/
def feistel_Perm_turn.H : Hn := ⟨[], [], [⟨1, .q 0 (.q 1 (.q 2 (.q 3 (.q 4 (.q 5 (.q 6 (.q 7 (.q 8 (.q 9 (.nil)))))))))), []⟩], []⟩
def feistel_Perm_turn.lc : List Cut := [⟨3, [2, 5, 6, 18, 19], [2]⟩]
def feistel_Perm_turn.rc : List Cut := []
def feistel_Perm_turn.L3 (l : Int) (r0 : Int) (t18_0 : Int) (t18_1 : Int) (t18_2 : Int) (t18_3 : Int) (t19 : Int) (p_2_0 : Int) (p_2_1 : Int) (p_2_2 : Int) (p_2_3 : Int) (p_2_4 : Int) (p_2_5 : Int) (h : Heap) (Q : Value → Heap → Prop) : Prop :=
 TW Tryz.prog 211 36 [.code (cAt (bodyOf Tryz.f211) [1, 1, 0, 1, 0, 0]), .inLoop (cAt (bodyOf Tryz.f211) [1, 1, 0, 1, 0, 0]), .inBlock 0, .code (cAt (bodyOf Tryz.f211) [1, 1, 1])] ⟨[(2, .p 2 0), (5, .v (.int .i64 l)), (6, .v (.int .i64 r0)), (18, .v (.agg #[.int .u16 t18_0, .int .u16 t18_1, .int .u16 t18_2, .int .u16 t18_3])), (19, .v (.int .i64 t19))], [(2, [.int .i64 p_2_0, .int .i64 p_2_1, .int .u16 p_2_2, .int .u16 p_2_3, .int .u16 p_2_4, .int .u16 p_2_5])]⟩ h Q
def feistel_Perm_turn.wp (p_0 : Int) (p_1 : Int) (p_2 : Int) (p_3 : Int) (p_4 : Int) (p_5 : Int) (n : Int) (h : Heap) (Q : Value → Heap → Prop) : Prop :=
 0 ≤ p_1 ∧
 C Tryz.prog 244 #[.agg #[.int .i64 p_0, .int .i64 p_1, .int .u16 p_2, .int .u16 p_3, .int .u16 p_4, .int .u16 p_5]] h
 fun (r : Value) (h' : Heap) => ∃ (x : Int), r = .int .i64 x ∧ feistel_Perm_turn.L3 (ishr .i64 n p_1) (iand .i64 n x) p_2 p_3 p_4 p_5 0 p_0 p_1 p_2 p_3 p_4 p_5 h' Q
def feistel_Perm_turn.L3.wp (l : Int) (r0 : Int) (t18_0 : Int) (t18_1 : Int) (t18_2 : Int) (t18_3 : Int) (t19 : Int) (p_2_0 : Int) (p_2_1 : Int) (p_2_2 : Int) (p_2_3 : Int) (p_2_4 : Int) (p_2_5 : Int) (h : Heap) (Q : Value → Heap → Prop) : Prop :=
 xsIf (decide (t19 < 4))
 ((0 ≤ t19 ∧ t19 < (↑4 : Int)) ∧
 ∃ (x : Int),
 lget [.int .u16 t18_0, .int .u16 t18_1, .int .u16 t18_2, .int .u16 t18_3] (t19.toNat * 1) = some (.int .u16 x) ∧
 C Tryz.prog 245
 #[.agg #[.int .i64 p_2_0, .int .i64 p_2_1, .int .u16 p_2_2, .int .u16 p_2_3, .int .u16 p_2_4, .int .u16 p_2_5], .int .i64 r0,
 .int .u16 x]
 h fun (r : Value) (h' : Heap) => ∃ (x : Int), r = .int .i64 x ∧ feistel_Perm_turn.L3 r0 (ixor .i64 l x) t18_0 t18_1 t18_2 t18_3 (IntKind.i64.wrap (t19 + 1)) p_2_0 p_2_1 p_2_2 p_2_3 p_2_4 p_2_5 h' Q)
 (0 ≤ p_2_1 ∧ Q (.int .i64 (ior .i64 (ishl .i64 l p_2_1) r0)) h)
theorem feistel_Perm_turn.ok {p_0 : Int} {p_1 : Int} {p_2 : Int} {p_3 : Int} {p_4 : Int} {p_5 : Int} {n : Int} {h : Heap} {Q : Value → Heap → Prop} (hk : feistel_Perm_turn.wp p_0 p_1 p_2 p_3 p_4 p_5 n h Q) : C Tryz.prog 211 #[.agg #[.int .i64 p_0, .int .i64 p_1, .int .u16 p_2, .int .u16 p_3, .int .u16 p_4, .int .u16 p_5], .int .i64 n] h Q :=
 C_of_xs (H := feistel_Perm_turn.H) (lcuts := feistel_Perm_turn.lc) (rcuts := feistel_Perm_turn.rc) (l := [.agg #[.int .i64 p_0, .int .i64 p_1, .int .u16 p_2, .int .u16 p_3, .int .u16 p_4, .int .u16 p_5], .int .i64 n]) 2000 mixed Tryz.func211 rfl (by kernel_rfl) (@cast (feistel_Perm_turn.wp p_0 p_1 p_2 p_3 p_4 p_5 n h Q) _ (by kernel_rfl) hk)
theorem feistel_Perm_turn.L3.ok {l : Int} {r0 : Int} {t18_0 : Int} {t18_1 : Int} {t18_2 : Int} {t18_3 : Int} {t19 : Int} {p_2_0 : Int} {p_2_1 : Int} {p_2_2 : Int} {p_2_3 : Int} {p_2_4 : Int} {p_2_5 : Int} {h : Heap} {Q : Value → Heap → Prop} (hk : feistel_Perm_turn.L3.wp l r0 t18_0 t18_1 t18_2 t18_3 t19 p_2_0 p_2_1 p_2_2 p_2_3 p_2_4 p_2_5 h Q) : feistel_Perm_turn.L3 l r0 t18_0 t18_1 t18_2 t18_3 t19 p_2_0 p_2_1 p_2_2 p_2_3 p_2_4 p_2_5 h Q :=
 xs_ok (H := feistel_Perm_turn.H) (lcuts := feistel_Perm_turn.lc) (rcuts := feistel_Perm_turn.rc) (fn := Tryz.f211) mixed Tryz.func211 2000 _ _ _ (@cast (feistel_Perm_turn.L3.wp l r0 t18_0 t18_1 t18_2 t18_3 t19 p_2_0 p_2_1 p_2_2 p_2_3 p_2_4 p_2_5 h Q) _ (by kernel_rfl) hk)

/-! (gabion/feistel.Perm).walk -/
def feistel_Perm_walk.H : Hn := ⟨[], [], [], []⟩
def feistel_Perm_walk.lc : List Cut := [⟨4, [1, 2, 3], [3]⟩]
def feistel_Perm_walk.rc : List Cut := []
def feistel_Perm_walk.L4 (i : Int) (step : Nat) (step_a : Array Value) (step_c : Array Value) (p_3_0 : Int) (p_3_1 : Int) (p_3_2 : Int) (p_3_3 : Int) (p_3_4 : Int) (p_3_5 : Int) (h : Heap) (Q : Value → Heap → Prop) : Prop :=
 TW Tryz.prog 210 26 [.code (cAt (bodyOf Tryz.f210) [1, 1, 0, 1, 0, 0]), .inLoop (cAt (bodyOf Tryz.f210) [1, 1, 0, 1, 0, 0]), .inBlock 0, .code (cAt (bodyOf Tryz.f210) [1, 1, 1])] ⟨[(1, .v (.int .i64 i)), (2, .v (.func (.func step) step_a step_c)), (3, .p 3 0)], [(3, [.int .i64 p_3_0, .int .i64 p_3_1, .int .u16 p_3_2, .int .u16 p_3_3, .int .u16 p_3_4, .int .u16 p_3_5])]⟩ h Q
def feistel_Perm_walk.wp (p_0 : Int) (p_1 : Int) (p_2 : Int) (p_3 : Int) (p_4 : Int) (p_5 : Int) (i : Int) (step : Nat) (step_a : Array Value) (step_c : Array Value) (h : Heap) (Q : Value → Heap → Prop) : Prop :=
 xsIf (decide (i < 0)) (Q (.int .i64 (-1)) h)
 (xsIf (decide (p_0 ≤ i)) (Q (.int .i64 (-1)) h)
 (xsIf (goOk Tryz.prog step)
 (C Tryz.prog step (List.toArray (step_a.toList ++ [.int .i64 i] ++ step_c.toList)) h fun (r : Value) (h' : Heap) =>
 ∃ (x : Int), r = .int .i64 x ∧ feistel_Perm_walk.L4 x step step_a step_c p_0 p_1 p_2 p_3 p_4 p_5 h' Q)
 False))
def feistel_Perm_walk.L4.wp (i : Int) (step : Nat) (step_a : Array Value) (step_c : Array Value) (p_3_0 : Int) (p_3_1 : Int) (p_3_2 : Int) (p_3_3 : Int) (p_3_4 : Int) (p_3_5 : Int) (h : Heap) (Q : Value → Heap → Prop) : Prop :=
 xsIf (decide (p_3_0 ≤ i))
 (xsIf (goOk Tryz.prog step)
 (C Tryz.prog step (List.toArray (step_a.toList ++ [.int .i64 i] ++ step_c.toList)) h fun (r : Value) (h' : Heap) =>
 ∃ (x : Int), r = .int .i64 x ∧ feistel_Perm_walk.L4 x step step_a step_c p_3_0 p_3_1 p_3_2 p_3_3 p_3_4 p_3_5 h' Q)
 False)
 (Q (.int .i64 i) h)
theorem feistel_Perm_walk.ok {p_0 : Int} {p_1 : Int} {p_2 : Int} {p_3 : Int} {p_4 : Int} {p_5 : Int} {i : Int} {step : Nat} {step_a : Array Value} {step_c : Array Value} {h : Heap} {Q : Value → Heap → Prop} (hk : feistel_Perm_walk.wp p_0 p_1 p_2 p_3 p_4 p_5 i step step_a step_c h Q) : C Tryz.prog 210 #[.agg #[.int .i64 p_0, .int .i64 p_1, .int .u16 p_2, .int .u16 p_3, .int .u16 p_4, .int .u16 p_5], .int .i64 i, .func (.func step) step_a step_c] h Q :=
 C_of_xs (H := feistel_Perm_walk.H) (lcuts := feistel_Perm_walk.lc) (rcuts := feistel_Perm_walk.rc) (l := [.agg #[.int .i64 p_0, .int .i64 p_1, .int .u16 p_2, .int .u16 p_3, .int .u16 p_4, .int .u16 p_5], .int .i64 i, .func (.func step) step_a step_c]) 2000 mixed Tryz.func210 rfl (by kernel_rfl) (@cast (feistel_Perm_walk.wp p_0 p_1 p_2 p_3 p_4 p_5 i step step_a step_c h Q) _ (by kernel_rfl) hk)
theorem feistel_Perm_walk.L4.ok {i : Int} {step : Nat} {step_a : Array Value} {step_c : Array Value} {p_3_0 : Int} {p_3_1 : Int} {p_3_2 : Int} {p_3_3 : Int} {p_3_4 : Int} {p_3_5 : Int} {h : Heap} {Q : Value → Heap → Prop} (hk : feistel_Perm_walk.L4.wp i step step_a step_c p_3_0 p_3_1 p_3_2 p_3_3 p_3_4 p_3_5 h Q) : feistel_Perm_walk.L4 i step step_a step_c p_3_0 p_3_1 p_3_2 p_3_3 p_3_4 p_3_5 h Q :=
 xs_ok (H := feistel_Perm_walk.H) (lcuts := feistel_Perm_walk.lc) (rcuts := feistel_Perm_walk.rc) (fn := Tryz.f210) mixed Tryz.func210 2000 _ _ _ (@cast (feistel_Perm_walk.L4.wp i step step_a step_c p_3_0 p_3_1 p_3_2 p_3_3 p_3_4 p_3_5 h Q) _ (by kernel_rfl) hk)

/-! (gabion/feistel.Perm).To -/
def feistel_Perm_To.H : Hn := ⟨[], [], [], []⟩
def feistel_Perm_To.lc : List Cut := []
def feistel_Perm_To.rc : List Cut := []
def feistel_Perm_To.wp (p_0 : Int) (p_1 : Int) (p_2 : Int) (p_3 : Int) (p_4 : Int) (p_5 : Int) (i : Int) (h : Heap) (Q : Value → Heap → Prop) : Prop :=
 C Tryz.prog 210
 #[.agg #[.int .i64 p_0, .int .i64 p_1, .int .u16 p_2, .int .u16 p_3, .int .u16 p_4, .int .u16 p_5], .int .i64 i,
 .func (Fn.func 211) #[.agg #[.int .i64 p_0, .int .i64 p_1, .int .u16 p_2, .int .u16 p_3, .int .u16 p_4, .int .u16 p_5]]
 #[]]
 h fun (r : Value) (h' : Heap) => ∃ (x : Int), r = .int .i64 x ∧ Q (.int .i64 x) h'
theorem feistel_Perm_To.ok {p_0 : Int} {p_1 : Int} {p_2 : Int} {p_3 : Int} {p_4 : Int} {p_5 : Int} {i : Int} {h : Heap} {Q : Value → Heap → Prop} (hk : feistel_Perm_To.wp p_0 p_1 p_2 p_3 p_4 p_5 i h Q) : C Tryz.prog 158 #[.agg #[.int .i64 p_0, .int .i64 p_1, .int .u16 p_2, .int .u16 p_3, .int .u16 p_4, .int .u16 p_5], .int .i64 i] h Q :=
 C_of_xs (H := feistel_Perm_To.H) (lcuts := feistel_Perm_To.lc) (rcuts := feistel_Perm_To.rc) (l := [.agg #[.int .i64 p_0, .int .i64 p_1, .int .u16 p_2, .int .u16 p_3, .int .u16 p_4, .int .u16 p_5], .int .i64 i]) 2000 mixed Tryz.func158 rfl (by kernel_rfl) (@cast (feistel_Perm_To.wp p_0 p_1 p_2 p_3 p_4 p_5 i h Q) _ (by kernel_rfl) hk)

/-! (*gabion/flat.Flat).place -/
def flat_Flat_place.H : Hn := ⟨[], [], [⟨6, .q 0 (.q 1 (.q 2 (.q 4 (.q 7 (.q 8 (.q 9 (.q 11 (.q 14 (.q 15 (.q 16 (.q 17 (.q 18 (.ld 19 32505856 (.q 20 (.ld 10 31469568 (.q 12 (.ld 13 31457280 (.br 3 (.q 5 (.br 6 (.q 21 (.q 22 (.q 23 (.q 24 (.nil))))) (.one 21 (.q 6 (.q 22 (.q 23 (.q 24 (.nil)))))))) (.one 21 (.q 3 (.q 5 (.q 6 (.q 22 (.q 23 (.q 24 (.nil)))))))))))))))))))))))))), []⟩], []⟩
def flat_Flat_place.lc : List Cut := []
def flat_Flat_place.rc : List Cut := []
def flat_Flat_place.wp (f : Option Addr) (l : Int) (h : Heap) (Q : Value → Heap → Prop) : Prop :=
 C Tryz.prog 28 #[.pointer f, .int .i64 l] h fun (r : Value) (h' : Heap) =>
 ∃ (x : Int),
 r = .int .i64 x ∧
 xsIf f.isNone (Q (.tuple #[.pointer none, .int .i64 0, .int .i64 1]) h')
 (xsIf (decide (x < 0)) (Q (.tuple #[.pointer none, .int .i64 0, .int .i64 3]) h')
 (atBase f fun (b o : Nat) =>
 atBase f fun (b_1 o_1 : Nat) =>
 atBase f fun (b_2 o_2 : Nat) =>
 ∃ (x_1 : Int),
 h'.cell b_2 (o_2 + 0 + 1) = some (.int .i64 x_1) ∧
 x_1 ≠ 0 ∧
 ∃ (x_2 : Option Addr),
 ∃ (n : Nat),
 ∃ (m : Nat),
 h'.cell b_1 (o_1 + 6) = some (.slice x_2 n m) ∧
 (0 ≤ x ∧ x < (↑n : Int)) ∧
 atBase x_2 fun (b_3 o_3 : Nat) =>
 ∃ (x_3 : Int),
 h'.cell b_3 (o_3 + x.toNat * 6) = some (.int .i64 x_3) ∧
 ∃ (x_4 : Int),
 h'.cell b_3 (o_3 + x.toNat * 6 + 1) = some (.int .i64 x_4) ∧
 ∃ (x_5 : Int),
 h'.cell b_3 (o_3 + x.toNat * 6 + 1 + 1) = some (.int .u16 x_5) ∧
 ∃ (x_6 : Int),
 h'.cell b_3 (o_3 + x.toNat * 6 + 1 + 1 + 1) = some (.int .u16 x_6) ∧
 ∃ (x_7 : Int),
 h'.cell b_3 (o_3 + x.toNat * 6 + 1 + 1 + 1 + 1) = some (.int .u16 x_7) ∧
 ∃ (x_8 : Int),
 h'.cell b_3 (o_3 + x.toNat * 6 + 1 + 1 + 1 + 1 + 1) = some (.int .u16 x_8) ∧
 (∃ (x_9 : Option Addr),
 ∃ (n : Nat),
 ∃ (m : Nat),
 h'.cell b (o + 5) = some (.slice x_9 n m) ∧
 (0 ≤ x ∧ x < (↑n : Int)) ∧
 atBase x_9 fun (b o : Nat) =>
 (∃ (x_10 : Option Addr),
 h'.cell b (o + x.toNat * 1) = some (.pointer x_10) ∧
 C Tryz.prog 158
 #[.agg
 #[.int .i64 x_3, .int .i64 x_4, .int .u16 x_5, .int .u16 x_6, .int .u16 x_7,
 .int .u16 x_8],
 .int .i64 (irem l x_1)]
 h' fun (r : Value) (h' : Heap) =>
 ∃ (x : Int), r = .int .i64 x ∧ Q (.tuple #[.pointer x_10, .int .i64 x, .int .i64 0]) h') ∧
 C Tryz.prog 158
 #[.agg
 #[.int .i64 x_3, .int .i64 x_4, .int .u16 x_5, .int .u16 x_6, .int .u16 x_7,
 .int .u16 x_8],
 .int .i64 (irem l x_1)]
 h' fun (r : Value) (h' : Heap) =>
 ∃ (x_10 : Int),
 r = .int .i64 x_10 ∧
 ∃ (x_11 : Option Addr),
 h'.cell b (o + x.toNat * 1) = some (.pointer x_11) ∧
 Q (.tuple #[.pointer x_11, .int .i64 x_10, .int .i64 0]) h') ∧
 C Tryz.prog 158
 #[.agg
 #[.int .i64 x_3, .int .i64 x_4, .int .u16 x_5, .int .u16 x_6, .int .u16 x_7, .int .u16 x_8],
 .int .i64 (irem l x_1)]
 h' fun (r : Value) (h' : Heap) =>
 ∃ (x_9 : Int),
 r = .int .i64 x_9 ∧
 ∃ (x_10 : Option Addr),
 ∃ (n : Nat),
 ∃ (m : Nat),
 h'.cell b (o + 5) = some (.slice x_10 n m) ∧
 (0 ≤ x ∧ x < (↑n : Int)) ∧
 atBase x_10 fun (b o : Nat) =>
 ∃ (x_11 : Option Addr),
 h'.cell b (o + x.toNat * 1) = some (.pointer x_11) ∧
 Q (.tuple #[.pointer x_11, .int .i64 x_9, .int .i64 0]) h'))
theorem flat_Flat_place.ok {f : Option Addr} {l : Int} {h : Heap} {Q : Value → Heap → Prop} (hk : flat_Flat_place.wp f l h Q) : C Tryz.prog 84 #[.pointer f, .int .i64 l] h Q :=
 C_of_xs (H := flat_Flat_place.H) (lcuts := flat_Flat_place.lc) (rcuts := flat_Flat_place.rc) (l := [.pointer f, .int .i64 l]) 2000 mixed Tryz.func84 rfl (by kernel_rfl) (@cast (flat_Flat_place.wp f l h Q) _ (by kernel_rfl) hk)

/-! (*gabion/spare.Bank).Write -/
def spare_Bank_Write.H : Hn := ⟨[], [], [], []⟩
def spare_Bank_Write.lc : List Cut := []
def spare_Bank_Write.rc : List Cut := []
def spare_Bank_Write.wp (b : Option Addr) (i : Int) (s : ByteArray) (h : Heap) (Q : Value → Heap → Prop) : Prop :=
 C Tryz.prog 164 #[.pointer b, .int .i64 i] h fun (r : Value) (h' : Heap) =>
 ∃ (x : Int),
 ∃ (x_1 : Int),
 r = .tuple #[.int .i64 x, .int .i64 x_1] ∧
 xsIf (decide (x_1 = 1)) (Q (.int .i64 x_1) h')
 (xsIf (decide ((↑s.size : Int) ≠ 64)) (Q (.int .i64 2) h')
 (xsIf (decide (x_1 ≠ 0)) (Q (.int .i64 x_1) h')
 (atBase b fun (b_1 o : Nat) =>
 ∃ (x_2 : Option Addr),
 h'.cell b_1 (o + 0) = some (.pointer x_2) ∧
 C Tryz.prog 75 #[.pointer x_2, .int .i64 x, .string s] h' fun (r : Value) (h' : Heap) =>
 ∃ (x_3 : Int),
 r = .int .i64 x_3 ∧
 xsIf (decide (x_3 ≠ 0)) (Q (.int .i64 x_3) h')
 (atBase b fun (b_2 o : Nat) =>
 ∃ (x_4 : Option Addr),
 h'.cell b_2 (o + 0) = some (.pointer x_4) ∧
 C Tryz.prog 101 #[.pointer x_4, .int .i64 x, .string s] h' fun (r : Value) (h' : Heap) =>
 ∃ (x : Bool),
 r = .bool x ∧
 xsIf x (Q (.int .i64 0) h')
 (C Tryz.prog 207 #[.pointer b, .int .i64 i, .string s] h' fun (r : Value) (h' : Heap) =>
 ∃ (x : Int), r = .int .i64 x ∧ Q (.int .i64 x) h')))))
theorem spare_Bank_Write.ok {b : Option Addr} {i : Int} {s : ByteArray} {h : Heap} {Q : Value → Heap → Prop} (hk : spare_Bank_Write.wp b i s h Q) : C Tryz.prog 161 #[.pointer b, .int .i64 i, .string s] h Q :=
 C_of_xs (H := spare_Bank_Write.H) (lcuts := spare_Bank_Write.lc) (rcuts := spare_Bank_Write.rc) (l := [.pointer b, .int .i64 i, .string s]) 2000 mixed Tryz.func161 rfl (by kernel_rfl) (@cast (spare_Bank_Write.wp b i s h Q) _ (by kernel_rfl) hk)

/-! (*gabion/ring.Ring).Write$1 -/
def ring_Ring_Write_1.H : Hn := ⟨[], [], [⟨1, .q 4 (.ld 0 206 (.q 1 (.q 2 (.ld 3 192 (.q 5 (.q 6 (.q 7 (.nil)))))))), []⟩], []⟩
def ring_Ring_Write_1.lc : List Cut := []
def ring_Ring_Write_1.rc : List Cut := []
def ring_Ring_Write_1.wp (slot : Int) (t1 : Nat) (t2 : Nat) (h : Heap) (Q : Value → Heap → Prop) : Prop :=
 ∃ (x : Option Addr),
 h.cell t1 0 = some (.pointer x) ∧
 atBase x fun (b o : Nat) =>
 ∃ (x : Option Addr),
 h.cell b (o + 4) = some (.pointer x) ∧
 ∃ (x_1 : ByteArray),
 h.cell t2 0 = some (.string x_1) ∧
 C Tryz.prog 161 #[.pointer x, .int .i64 slot, .string x_1] h fun (r : Value) (h' : Heap) => ∃ (x : Int), r = .int .i64 x ∧ Q (.int .i64 x) h'
theorem ring_Ring_Write_1.ok {slot : Int} {t1 : Nat} {t2 : Nat} {h : Heap} {Q : Value → Heap → Prop} (hk : ring_Ring_Write_1.wp slot t1 t2 h Q) : C Tryz.prog 160 #[.int .i64 slot, .pointer (some ⟨t1, 0, none⟩), .pointer (some ⟨t2, 0, none⟩)] h Q :=
 C_of_xs (H := ring_Ring_Write_1.H) (lcuts := ring_Ring_Write_1.lc) (rcuts := ring_Ring_Write_1.rc) (l := [.int .i64 slot, .pointer (some ⟨t1, 0, none⟩), .pointer (some ⟨t2, 0, none⟩)]) 2000 mixed Tryz.func160 rfl (by kernel_rfl) (@cast (ring_Ring_Write_1.wp slot t1 t2 h Q) _ (by kernel_rfl) hk)

/-! (gabion/gap.State).Slot -/
def gap_State_Slot.H : Hn := ⟨[], [], [], []⟩
def gap_State_Slot.lc : List Cut := []
def gap_State_Slot.rc : List Cut := [⟨3, [1, 2, 3], [3]⟩]
def gap_State_Slot.J3 (n : Int) (i : Int) (s_3_0 : Int) (s_3_1 : Int) (s_3_2 : Int) (h : Heap) (Q : Value → Heap → Prop) : Prop :=
 TW Tryz.prog 213 34 [.code (cAt (bodyOf Tryz.f213) [1, 1, 0]), .code (cAt (bodyOf Tryz.f213) [1, 1, 1])] ⟨[(1, .v (.int .i64 n)), (2, .v (.int .i64 i)), (3, .p 3 0)], [(3, [.int .i64 s_3_0, .int .i64 s_3_1, .int .u32 s_3_2])]⟩ h Q
def gap_State_Slot.wp (s_0 : Int) (s_1 : Int) (s_2 : Int) (n : Int) (i : Int) (h : Heap) (Q : Value → Heap → Prop) : Prop :=
 C Tryz.prog 156 #[.agg #[.int .i64 s_0, .int .i64 s_1, .int .u32 s_2], .int .i64 n] h fun (r : Value) (h' : Heap) =>
 ∃ (x : Bool),
 r = .bool x ∧ xsIf (!x) (Q (.int .i64 (-1)) h') (xsIf (decide (i < 0)) (Q (.int .i64 (-1)) h') (xsIf (decide (n ≤ i)) (Q (.int .i64 (-1)) h') (gap_State_Slot.J3 n i s_0 s_1 s_2 h' Q)))
def gap_State_Slot.J3.wp (n : Int) (i : Int) (s_3_0 : Int) (s_3_1 : Int) (s_3_2 : Int) (h : Heap) (Q : Value → Heap → Prop) : Prop :=
 n ≠ 0 ∧ xsIf (decide (s_3_1 ≤ irem (IntKind.i64.wrap (i + s_3_0)) n)) (Q (.int .i64 (IntKind.i64.wrap (irem (IntKind.i64.wrap (i + s_3_0)) n + 1))) h) (Q (.int .i64 (irem (IntKind.i64.wrap (i + s_3_0)) n)) h)
theorem gap_State_Slot.ok {s_0 : Int} {s_1 : Int} {s_2 : Int} {n : Int} {i : Int} {h : Heap} {Q : Value → Heap → Prop} (hk : gap_State_Slot.wp s_0 s_1 s_2 n i h Q) : C Tryz.prog 213 #[.agg #[.int .i64 s_0, .int .i64 s_1, .int .u32 s_2], .int .i64 n, .int .i64 i] h Q :=
 C_of_xs (H := gap_State_Slot.H) (lcuts := gap_State_Slot.lc) (rcuts := gap_State_Slot.rc) (l := [.agg #[.int .i64 s_0, .int .i64 s_1, .int .u32 s_2], .int .i64 n, .int .i64 i]) 2000 mixed Tryz.func213 rfl (by kernel_rfl) (@cast (gap_State_Slot.wp s_0 s_1 s_2 n i h Q) _ (by kernel_rfl) hk)
theorem gap_State_Slot.J3.ok {n : Int} {i : Int} {s_3_0 : Int} {s_3_1 : Int} {s_3_2 : Int} {h : Heap} {Q : Value → Heap → Prop} (hk : gap_State_Slot.J3.wp n i s_3_0 s_3_1 s_3_2 h Q) : gap_State_Slot.J3 n i s_3_0 s_3_1 s_3_2 h Q :=
 xs_ok (H := gap_State_Slot.H) (lcuts := gap_State_Slot.lc) (rcuts := []) (fn := Tryz.f213) mixed Tryz.func213 2000 _ _ _ (@cast (gap_State_Slot.J3.wp n i s_3_0 s_3_1 s_3_2 h Q) _ (by kernel_rfl) hk)

/-! (*gabion/ring.Ring).slot -/
def ring_Ring_slot.H : Hn := ⟨[], [], [⟨5, .q 0 (.q 1 (.q 2 (.q 4 (.q 5 (.q 6 (.q 7 (.q 9 (.ld 3 7168 (.q 8 (.q 10 (.q 11 (.q 12 (.nil))))))))))))), []⟩], []⟩
def ring_Ring_slot.lc : List Cut := []
def ring_Ring_slot.rc : List Cut := []
def ring_Ring_slot.wp (r0 : Option Addr) (i : Int) (h : Heap) (Q : Value → Heap → Prop) : Prop :=
 xsIf r0.isNone (Q (.tuple #[.int .i64 0, .int .i64 1]) h)
 (xsIf (decide (i < 0)) (Q (.tuple #[.int .i64 0, .int .i64 3]) h)
 (atBase r0 fun (b o : Nat) =>
 ∃ (x : Int),
 h.cell b (o + 0 + 1) = some (.int .i64 x) ∧
 xsIf (decide (x ≤ i)) (Q (.tuple #[.int .i64 0, .int .i64 3]) h)
 (atBase r0 fun (b o : Nat) =>
 atBase r0 fun (b_1 o_1 : Nat) =>
 ∃ (x : Int),
 h.cell b (o + 5) = some (.int .i64 x) ∧
 ∃ (x_1 : Int),
 h.cell b (o + 5 + 1) = some (.int .i64 x_1) ∧
 ∃ (x_2 : Int),
 h.cell b (o + 5 + 1 + 1) = some (.int .u32 x_2) ∧
 ∃ (x_3 : Int),
 h.cell b_1 (o_1 + 0 + 1) = some (.int .i64 x_3) ∧
 C Tryz.prog 213 #[.agg #[.int .i64 x, .int .i64 x_1, .int .u32 x_2], .int .i64 x_3, .int .i64 i] h
 fun (r : Value) (h' : Heap) => ∃ (x : Int), r = .int .i64 x ∧ Q (.tuple #[.int .i64 x, .int .i64 0]) h')))
theorem ring_Ring_slot.ok {r0 : Option Addr} {i : Int} {h : Heap} {Q : Value → Heap → Prop} (hk : ring_Ring_slot.wp r0 i h Q) : C Tryz.prog 163 #[.pointer r0, .int .i64 i] h Q :=
 C_of_xs (H := ring_Ring_slot.H) (lcuts := ring_Ring_slot.lc) (rcuts := ring_Ring_slot.rc) (l := [.pointer r0, .int .i64 i]) 2000 mixed Tryz.func163 rfl (by kernel_rfl) (@cast (ring_Ring_slot.wp r0 i h Q) _ (by kernel_rfl) hk)

/-! (gabion/gap.State).Next -/
def gap_State_Next.H : Hn := ⟨[], [], [⟨5, .q 0 (.q 1 (.q 2 (.q 3 (.q 4 (.q 5 (.q 6 (.q 7 (.q 8 (.nil))))))))), [4]⟩], []⟩
def gap_State_Next.lc : List Cut := []
def gap_State_Next.rc : List Cut := []
def gap_State_Next.wp (s_0 : Int) (s_1 : Int) (s_2 : Int) (n : Int) (h : Heap) (Q : Value → Heap → Prop) : Prop :=
 C Tryz.prog 156 #[.agg #[.int .i64 s_0, .int .i64 s_1, .int .u32 s_2], .int .i64 n] h fun (r : Value) (h' : Heap) =>
 ∃ (x : Bool),
 r = .bool x ∧
 xsIf (!x) (Q (.tuple #[.agg #[.int .i64 0, .int .i64 0, .int .u32 0], .int .i64 0, .int .i64 0]) h')
 (xsIf (decide (0 < s_1))
 (Q
 (.tuple
 #[.agg #[.int .i64 s_0, .int .i64 (IntKind.i64.wrap (s_1 - 1)), .int .u32 (IntKind.u32.wrap (s_2 + 1))], .int .i64 (IntKind.i64.wrap (s_1 - 1)),
 .int .i64 s_1])
 h')
 (n ≠ 0 ∧
 Q
 (.tuple
 #[.agg #[.int .i64 (irem (IntKind.i64.wrap (s_0 + 1)) n), .int .i64 n, .int .u32 (IntKind.u32.wrap (s_2 + 1))], .int .i64 n, .int .i64 0])
 h'))
theorem gap_State_Next.ok {s_0 : Int} {s_1 : Int} {s_2 : Int} {n : Int} {h : Heap} {Q : Value → Heap → Prop} (hk : gap_State_Next.wp s_0 s_1 s_2 n h Q) : C Tryz.prog 246 #[.agg #[.int .i64 s_0, .int .i64 s_1, .int .u32 s_2], .int .i64 n] h Q :=
 C_of_xs (H := gap_State_Next.H) (lcuts := gap_State_Next.lc) (rcuts := gap_State_Next.rc) (l := [.agg #[.int .i64 s_0, .int .i64 s_1, .int .u32 s_2], .int .i64 n]) 2000 mixed Tryz.func246 rfl (by kernel_rfl) (@cast (gap_State_Next.wp s_0 s_1 s_2 n h Q) _ (by kernel_rfl) hk)

/-! (*gabion/ring.Ring).move -/
def ring_Ring_move.H : Hn := ⟨[], [], [⟨1, .q 0 (.q 1 (.q 2 (.q 4 (.q 5 (.q 6 (.q 7 (.ld 3 245248 (.ld 8 245248 (.br 9 (.q 10 (.q 11 (.q 12 (.q 13 (.q 14 (.q 15 (.q 16 (.q 17 (.nil))))))))) (.one 14 (.q 9 (.q 10 (.q 11 (.q 12 (.q 13 (.q 15 (.q 16 (.q 17 (.nil))))))))))))))))))), [3]⟩, ⟨8, .q 0 (.q 1 (.q 2 (.q 4 (.q 5 (.q 6 (.q 9 (.ld 7 7424 (.br 3 (.q 8 (.q 10 (.q 11 (.q 12 (.nil))))) (.one 8 (.br 3 (.q 10 (.q 11 (.q 12 (.nil)))) (.one 10 (.q 3 (.q 11 (.q 12 (.nil))))))))))))))), []⟩], []⟩
def ring_Ring_move.lc : List Cut := []
def ring_Ring_move.rc : List Cut := []
def ring_Ring_move.wp (r0 : Option Addr) (h : Heap) (Q : Value → Heap → Prop) : Prop :=
 atBase r0 fun (b o : Nat) =>
 atBase r0 fun (b_1 o_1 : Nat) =>
 ∃ (x : Int),
 h.cell b (o + 5) = some (.int .i64 x) ∧
 ∃ (x_1 : Int),
 h.cell b (o + 5 + 1) = some (.int .i64 x_1) ∧
 ∃ (x_2 : Int),
 h.cell b (o + 5 + 1 + 1) = some (.int .u32 x_2) ∧
 ∃ (x_3 : Int),
 h.cell b_1 (o_1 + 0 + 1) = some (.int .i64 x_3) ∧
 (C Tryz.prog 246 #[.agg #[.int .i64 x, .int .i64 x_1, .int .u32 x_2], .int .i64 x_3] h fun (r : Value) (h' : Heap) =>
 ∃ (x : Int),
 ∃ (x_4 : Int),
 ∃ (x_5 : Int),
 ∃ (x_6 : Int),
 ∃ (x_7 : Int),
 r = .tuple #[.agg #[.int .i64 x, .int .i64 x_4, .int .u32 x_5], .int .i64 x_6, .int .i64 x_7] ∧
 atBase r0 fun (b o : Nat) =>
 ∃ (x_8 : Option Addr),
 h'.cell b (o + 4) = some (.pointer x_8) ∧
 C Tryz.prog 154 #[.pointer x_8, .int .i64 x_6] h' fun (r : Value) (h' : Heap) =>
 ∃ (x_9 : ByteArray),
 ∃ (x_10 : Int),
 r = .tuple #[.string x_9, .int .i64 x_10] ∧
 xsIf (decide (x_10 ≠ 0)) (Q (.int .i64 x_10) h')
 (atBase r0 fun (b o : Nat) =>
 ∃ (x_11 : Option Addr),
 h'.cell b (o + 4) = some (.pointer x_11) ∧
 C Tryz.prog 161 #[.pointer x_11, .int .i64 x_7, .string x_9] h' fun (r : Value) (h' : Heap) =>
 ∃ (x_12 : Int),
 r = .int .i64 x_12 ∧
 xsIf (decide (x_12 ≠ 0)) (Q (.int .i64 x_12) h')
 (atBase r0 fun (b o : Nat) =>
 atBase r0 fun (b_2 o_2 : Nat) =>
 ∃ (x_13 : Int),
 h'.cell b_2 (o_2 + 0) = some (.int .i64 x_13) ∧
 ∃ (x_14 : Int),
 h'.cell b_2 (o_2 + 0 + 1) = some (.int .i64 x_14) ∧
 ∃ (x_15 : Int),
 h'.cell b_2 (o_2 + 0 + 1 + 1) = some (.int .i64 x_15) ∧
 ∃ (x_16 : Int),
 h'.cell b_2 (o_2 + 0 + 1 + 1 + 1) = some (.int .i64 x_16) ∧
 (∃ (x_17 : Option Addr),
 h'.cell b (o + 4) = some (.pointer x_17) ∧
 C Tryz.prog 131
 #[.agg #[.int .i64 x_13, .int .i64 x_14, .int .i64 x_15, .int .i64 x_16]]
 h' fun (r : Value) (h' : Heap) =>
 ∃ (x_18 : Int),
 r = .int .i64 x_18 ∧
 C Tryz.prog 148 #[.agg #[.int .i64 x, .int .i64 x_4, .int .u32 x_5]] h'
 fun (r : Value) (h' : Heap) =>
 ∃ (x_19 : Int),
 r = .int .u64 x_19 ∧
 C Tryz.prog 146 #[.pointer x_17, .int .i64 x_18, .int .i64 0, .int .u64 x_19] h'
 fun (r : Value) (h' : Heap) =>
 ∃ (x_20 : Int),
 r = .int .i64 x_20 ∧
 xsIf (decide (x_20 ≠ 0)) (Q (.int .i64 x_20) h')
 (atBase r0 fun (b o : Nat) =>
 h'.can b (o + 5) 3 ∧
 atBase r0 fun (b_3 o_3 : Nat) =>
 (h'.put b (o + 5) [.int .i64 x, .int .i64 x_4, .int .u32 x_5]).can b_3 (o_3 + 8) 1 ∧
 Q (.int .i64 0)
 ((h'.put b (o + 5) [.int .i64 x, .int .i64 x_4, .int .u32 x_5]).put b_3 (o_3 + 8)
 [.int .i64 0]))) ∧
 C Tryz.prog 131
 #[.agg #[.int .i64 x_13, .int .i64 x_14, .int .i64 x_15, .int .i64 x_16]]
 h' fun (r : Value) (h' : Heap) =>
 ∃ (x_17 : Int),
 r = .int .i64 x_17 ∧
 (∃ (x_18 : Option Addr),
 h'.cell b (o + 4) = some (.pointer x_18) ∧
 C Tryz.prog 148 #[.agg #[.int .i64 x, .int .i64 x_4, .int .u32 x_5]] h'
 fun (r : Value) (h' : Heap) =>
 ∃ (x_19 : Int),
 r = .int .u64 x_19 ∧
 C Tryz.prog 146 #[.pointer x_18, .int .i64 x_17, .int .i64 0, .int .u64 x_19] h'
 fun (r : Value) (h' : Heap) =>
 ∃ (x_20 : Int),
 r = .int .i64 x_20 ∧
 xsIf (decide (x_20 ≠ 0)) (Q (.int .i64 x_20) h')
 (atBase r0 fun (b o : Nat) =>
 h'.can b (o + 5) 3 ∧
 atBase r0 fun (b_3 o_3 : Nat) =>
 (h'.put b (o + 5) [.int .i64 x, .int .i64 x_4, .int .u32 x_5]).can b_3 (o_3 + 8) 1 ∧
 Q (.int .i64 0)
 ((h'.put b (o + 5) [.int .i64 x, .int .i64 x_4, .int .u32 x_5]).put b_3
 (o_3 + 8) [.int .i64 0]))) ∧
 C Tryz.prog 148 #[.agg #[.int .i64 x, .int .i64 x_4, .int .u32 x_5]] h'
 fun (r : Value) (h' : Heap) =>
 ∃ (x_18 : Int),
 r = .int .u64 x_18 ∧
 ∃ (x_19 : Option Addr),
 h'.cell b (o + 4) = some (.pointer x_19) ∧
 C Tryz.prog 146 #[.pointer x_19, .int .i64 x_17, .int .i64 0, .int .u64 x_18] h'
 fun (r : Value) (h' : Heap) =>
 ∃ (x_20 : Int),
 r = .int .i64 x_20 ∧
 xsIf (decide (x_20 ≠ 0)) (Q (.int .i64 x_20) h')
 (atBase r0 fun (b o : Nat) =>
 h'.can b (o + 5) 3 ∧
 atBase r0 fun (b_3 o_3 : Nat) =>
 (h'.put b (o + 5) [.int .i64 x, .int .i64 x_4, .int .u32 x_5]).can b_3 (o_3 + 8) 1 ∧
 Q (.int .i64 0)
 ((h'.put b (o + 5) [.int .i64 x, .int .i64 x_4, .int .u32 x_5]).put b_3
 (o_3 + 8) [.int .i64 0]))))) ∧
 C Tryz.prog 246 #[.agg #[.int .i64 x, .int .i64 x_1, .int .u32 x_2], .int .i64 x_3] h fun (r : Value) (h' : Heap) =>
 ∃ (x : Int),
 ∃ (x_4 : Int),
 ∃ (x_5 : Int),
 ∃ (x_6 : Int),
 ∃ (x_7 : Int),
 r = .tuple #[.agg #[.int .i64 x, .int .i64 x_4, .int .u32 x_5], .int .i64 x_6, .int .i64 x_7] ∧
 atBase r0 fun (b o : Nat) =>
 ∃ (x_8 : Option Addr),
 h'.cell b (o + 4) = some (.pointer x_8) ∧
 C Tryz.prog 154 #[.pointer x_8, .int .i64 x_6] h' fun (r : Value) (h' : Heap) =>
 ∃ (x_9 : ByteArray),
 ∃ (x_10 : Int),
 r = .tuple #[.string x_9, .int .i64 x_10] ∧
 xsIf (decide (x_10 ≠ 0)) (Q (.int .i64 x_10) h')
 (atBase r0 fun (b o : Nat) =>
 ∃ (x_11 : Option Addr),
 h'.cell b (o + 4) = some (.pointer x_11) ∧
 C Tryz.prog 161 #[.pointer x_11, .int .i64 x_7, .string x_9] h' fun (r : Value) (h' : Heap) =>
 ∃ (x_12 : Int),
 r = .int .i64 x_12 ∧
 xsIf (decide (x_12 ≠ 0)) (Q (.int .i64 x_12) h')
 (atBase r0 fun (b o : Nat) =>
 atBase r0 fun (b_2 o_2 : Nat) =>
 ∃ (x_13 : Int),
 h'.cell b_2 (o_2 + 0) = some (.int .i64 x_13) ∧
 ∃ (x_14 : Int),
 h'.cell b_2 (o_2 + 0 + 1) = some (.int .i64 x_14) ∧
 ∃ (x_15 : Int),
 h'.cell b_2 (o_2 + 0 + 1 + 1) = some (.int .i64 x_15) ∧
 ∃ (x_16 : Int),
 h'.cell b_2 (o_2 + 0 + 1 + 1 + 1) = some (.int .i64 x_16) ∧
 (∃ (x_17 : Option Addr),
 h'.cell b (o + 4) = some (.pointer x_17) ∧
 C Tryz.prog 131
 #[.agg #[.int .i64 x_13, .int .i64 x_14, .int .i64 x_15, .int .i64 x_16]]
 h' fun (r : Value) (h' : Heap) =>
 ∃ (x_18 : Int),
 r = .int .i64 x_18 ∧
 C Tryz.prog 148 #[.agg #[.int .i64 x, .int .i64 x_4, .int .u32 x_5]] h'
 fun (r : Value) (h' : Heap) =>
 ∃ (x_19 : Int),
 r = .int .u64 x_19 ∧
 C Tryz.prog 146 #[.pointer x_17, .int .i64 x_18, .int .i64 0, .int .u64 x_19] h'
 fun (r : Value) (h' : Heap) =>
 ∃ (x_20 : Int),
 r = .int .i64 x_20 ∧
 xsIf (decide (x_20 ≠ 0)) (Q (.int .i64 x_20) h')
 (atBase r0 fun (b o : Nat) =>
 h'.can b (o + 5) 3 ∧
 atBase r0 fun (b_3 o_3 : Nat) =>
 (h'.put b (o + 5) [.int .i64 x, .int .i64 x_4, .int .u32 x_5]).can b_3 (o_3 + 8) 1 ∧
 Q (.int .i64 0)
 ((h'.put b (o + 5) [.int .i64 x, .int .i64 x_4, .int .u32 x_5]).put b_3 (o_3 + 8)
 [.int .i64 0]))) ∧
 C Tryz.prog 131
 #[.agg #[.int .i64 x_13, .int .i64 x_14, .int .i64 x_15, .int .i64 x_16]]
 h' fun (r : Value) (h' : Heap) =>
 ∃ (x_17 : Int),
 r = .int .i64 x_17 ∧
 (∃ (x_18 : Option Addr),
 h'.cell b (o + 4) = some (.pointer x_18) ∧
 C Tryz.prog 148 #[.agg #[.int .i64 x, .int .i64 x_4, .int .u32 x_5]] h'
 fun (r : Value) (h' : Heap) =>
 ∃ (x_19 : Int),
 r = .int .u64 x_19 ∧
 C Tryz.prog 146 #[.pointer x_18, .int .i64 x_17, .int .i64 0, .int .u64 x_19] h'
 fun (r : Value) (h' : Heap) =>
 ∃ (x_20 : Int),
 r = .int .i64 x_20 ∧
 xsIf (decide (x_20 ≠ 0)) (Q (.int .i64 x_20) h')
 (atBase r0 fun (b o : Nat) =>
 h'.can b (o + 5) 3 ∧
 atBase r0 fun (b_3 o_3 : Nat) =>
 (h'.put b (o + 5) [.int .i64 x, .int .i64 x_4, .int .u32 x_5]).can b_3 (o_3 + 8) 1 ∧
 Q (.int .i64 0)
 ((h'.put b (o + 5) [.int .i64 x, .int .i64 x_4, .int .u32 x_5]).put b_3
 (o_3 + 8) [.int .i64 0]))) ∧
 C Tryz.prog 148 #[.agg #[.int .i64 x, .int .i64 x_4, .int .u32 x_5]] h'
 fun (r : Value) (h' : Heap) =>
 ∃ (x_18 : Int),
 r = .int .u64 x_18 ∧
 ∃ (x_19 : Option Addr),
 h'.cell b (o + 4) = some (.pointer x_19) ∧
 C Tryz.prog 146 #[.pointer x_19, .int .i64 x_17, .int .i64 0, .int .u64 x_18] h'
 fun (r : Value) (h' : Heap) =>
 ∃ (x_20 : Int),
 r = .int .i64 x_20 ∧
 xsIf (decide (x_20 ≠ 0)) (Q (.int .i64 x_20) h')
 (atBase r0 fun (b o : Nat) =>
 h'.can b (o + 5) 3 ∧
 atBase r0 fun (b_3 o_3 : Nat) =>
 (h'.put b (o + 5) [.int .i64 x, .int .i64 x_4, .int .u32 x_5]).can b_3 (o_3 + 8) 1 ∧
 Q (.int .i64 0)
 ((h'.put b (o + 5) [.int .i64 x, .int .i64 x_4, .int .u32 x_5]).put b_3
 (o_3 + 8) [.int .i64 0]))))
theorem ring_Ring_move.ok {r0 : Option Addr} {h : Heap} {Q : Value → Heap → Prop} (hk : ring_Ring_move.wp r0 h Q) : C Tryz.prog 212 #[.pointer r0] h Q :=
 C_of_xs (H := ring_Ring_move.H) (lcuts := ring_Ring_move.lc) (rcuts := ring_Ring_move.rc) (l := [.pointer r0]) 2000 mixed Tryz.func212 rfl (by kernel_rfl) (@cast (ring_Ring_move.wp r0 h Q) _ (by kernel_rfl) hk)

/-! (*gabion/ring.Ring).write -/
def ring_Ring_write.H : Hn := ⟨[], [], [⟨4, .q 0 (.q 1 (.q 2 (.q 4 (.q 5 (.q 6 (.q 7 (.ld 3 512 (.q 8 (.q 9 (.nil)))))))))), []⟩], []⟩
def ring_Ring_write.lc : List Cut := []
def ring_Ring_write.rc : List Cut := [⟨8, [0, 1, 2], []⟩]
def ring_Ring_write.J8 (r0 : Option Addr) (i : Int) (f : Nat) (f_a : Array Value) (f_c : Array Value) (h : Heap) (Q : Value → Heap → Prop) : Prop :=
 TW Tryz.prog 159 56 [.code (cAt (bodyOf Tryz.f159) [1, 1, 1, 0]), .code (cAt (bodyOf Tryz.f159) [1, 1, 1, 1])] ⟨[(0, .v (.pointer r0)), (1, .v (.int .i64 i)), (2, .v (.func (.func f) f_a f_c))], []⟩ h Q
def ring_Ring_write.wp (r0 : Option Addr) (i : Int) (f : Nat) (f_a : Array Value) (f_c : Array Value) (h : Heap) (Q : Value → Heap → Prop) : Prop :=
 C Tryz.prog 163 #[.pointer r0, .int .i64 i] h fun (r : Value) (h' : Heap) =>
 ∃ (x : Int),
 ∃ (x_1 : Int),
 r = .tuple #[.int .i64 x, .int .i64 x_1] ∧
 xsIf (decide (x_1 ≠ 0)) (Q (.int .i64 x_1) h')
 (atBase r0 fun (b o : Nat) =>
 atBase r0 fun (b_1 o_1 : Nat) =>
 ∃ (x : Int),
 h'.cell b (o + 8) = some (.int .i64 x) ∧
 ∃ (x_2 : Int),
 h'.cell b_1 (o_1 + 0 + 3) = some (.int .i64 x_2) ∧
 xsIf (decide (x_2 ≤ x))
 (C Tryz.prog 212 #[.pointer r0] h' fun (r : Value) (h' : Heap) =>
 ∃ (x : Int), r = .int .i64 x ∧ xsIf (decide (x ≠ 0)) (Q (.int .i64 x) h') (ring_Ring_write.J8 r0 i f f_a f_c h' Q))
 (ring_Ring_write.J8 r0 i f f_a f_c h' Q))
def ring_Ring_write.J8.wp (r0 : Option Addr) (i : Int) (f : Nat) (f_a : Array Value) (f_c : Array Value) (h : Heap) (Q : Value → Heap → Prop) : Prop :=
 C Tryz.prog 163 #[.pointer r0, .int .i64 i] h fun (r : Value) (h' : Heap) =>
 ∃ (x : Int),
 ∃ (x_1 : Int),
 r = .tuple #[.int .i64 x, .int .i64 x_1] ∧
 xsIf (goOk Tryz.prog f)
 (C Tryz.prog f (List.toArray (f_a.toList ++ [.int .i64 x] ++ f_c.toList)) h' fun (r : Value) (h' : Heap) =>
 ∃ (x : Int),
 r = .int .i64 x ∧
 xsIf (decide (x = 0))
 (atBase r0 fun (b o : Nat) =>
 ∃ (x_2 : Int), h'.cell b (o + 8) = some (.int .i64 x_2) ∧ atBase r0 fun (b o : Nat) => h'.can b (o + 8) 1 ∧ Q (.int .i64 x) (h'.put b (o + 8) [.int .i64 (IntKind.i64.wrap (x_2 + 1))]))
 (Q (.int .i64 x) h'))
 False
theorem ring_Ring_write.ok {r0 : Option Addr} {i : Int} {f : Nat} {f_a : Array Value} {f_c : Array Value} {h : Heap} {Q : Value → Heap → Prop} (hk : ring_Ring_write.wp r0 i f f_a f_c h Q) : C Tryz.prog 159 #[.pointer r0, .int .i64 i, .func (.func f) f_a f_c] h Q :=
 C_of_xs (H := ring_Ring_write.H) (lcuts := ring_Ring_write.lc) (rcuts := ring_Ring_write.rc) (l := [.pointer r0, .int .i64 i, .func (.func f) f_a f_c]) 2000 mixed Tryz.func159 rfl (by kernel_rfl) (@cast (ring_Ring_write.wp r0 i f f_a f_c h Q) _ (by kernel_rfl) hk)
theorem ring_Ring_write.J8.ok {r0 : Option Addr} {i : Int} {f : Nat} {f_a : Array Value} {f_c : Array Value} {h : Heap} {Q : Value → Heap → Prop} (hk : ring_Ring_write.J8.wp r0 i f f_a f_c h Q) : ring_Ring_write.J8 r0 i f f_a f_c h Q :=
 xs_ok (H := ring_Ring_write.H) (lcuts := ring_Ring_write.lc) (rcuts := []) (fn := Tryz.f159) mixed Tryz.func159 2000 _ _ _ (@cast (ring_Ring_write.J8.wp r0 i f f_a f_c h Q) _ (by kernel_rfl) hk)

/-! (*gabion/ring.Ring).Write -/
def ring_Ring_Write.H : Hn := ⟨[3, 5], [], [], []⟩
def ring_Ring_Write.lc : List Cut := []
def ring_Ring_Write.rc : List Cut := []
def ring_Ring_Write.wp (r0 : Option Addr) (i : Int) (s : ByteArray) (h : Heap) (Q : Value → Heap → Prop) : Prop :=
 ∀ (b : Nat),
 h b = none →
 ∀ (b_1 : Nat),
 upd h b (Obj.cells #[.pointer r0] 154 (0, 0)) b_1 = none →
 ∃ (x : Option Addr),
 (upd (upd h b (Obj.cells #[.pointer r0] 154 (0, 0))) b_1 (Obj.cells #[.string s] 9 (0, 0))).cell b 0 = some (.pointer x) ∧
 xsIf (!x.isNone)
 (∃ (x : ByteArray),
 (upd (upd h b (Obj.cells #[.pointer r0] 154 (0, 0))) b_1 (Obj.cells #[.string s] 9 (0, 0))).cell b_1 0 = some (.string x) ∧
 xsIf (decide ((↑x.size : Int) ≠ 64)) (Q (.int .i64 2) (upd (upd h b (Obj.cells #[.pointer r0] 154 (0, 0))) b_1 (Obj.cells #[.string s] 9 (0, 0))))
 (∃ (x : Option Addr),
 (upd (upd h b (Obj.cells #[.pointer r0] 154 (0, 0))) b_1 (Obj.cells #[.string s] 9 (0, 0))).cell b 0 = some (.pointer x) ∧
 C Tryz.prog 159
 #[.pointer x, .int .i64 i, .func (Fn.func 160) #[] #[.pointer (some { block := b, off := 0 }), .pointer (some { block := b_1, off := 0 })]]
 (upd (upd h b (Obj.cells #[.pointer r0] 154 (0, 0))) b_1 (Obj.cells #[.string s] 9 (0, 0))) fun (r : Value) (h' : Heap) =>
 ∃ (x : Int), r = .int .i64 x ∧ Q (.int .i64 x) h'))
 (∃ (x : Option Addr),
 (upd (upd h b (Obj.cells #[.pointer r0] 154 (0, 0))) b_1 (Obj.cells #[.string s] 9 (0, 0))).cell b 0 = some (.pointer x) ∧
 C Tryz.prog 159
 #[.pointer x, .int .i64 i, .func (Fn.func 160) #[] #[.pointer (some { block := b, off := 0 }), .pointer (some { block := b_1, off := 0 })]]
 (upd (upd h b (Obj.cells #[.pointer r0] 154 (0, 0))) b_1 (Obj.cells #[.string s] 9 (0, 0))) fun (r : Value) (h' : Heap) =>
 ∃ (x : Int), r = .int .i64 x ∧ Q (.int .i64 x) h')
theorem ring_Ring_Write.ok {r0 : Option Addr} {i : Int} {s : ByteArray} {h : Heap} {Q : Value → Heap → Prop} (hk : ring_Ring_Write.wp r0 i s h Q) : C Tryz.prog 85 #[.pointer r0, .int .i64 i, .string s] h Q :=
 C_of_xs (H := ring_Ring_Write.H) (lcuts := ring_Ring_Write.lc) (rcuts := ring_Ring_Write.rc) (l := [.pointer r0, .int .i64 i, .string s]) 2000 mixed Tryz.func85 rfl (by kernel_rfl) (@cast (ring_Ring_Write.wp r0 i s h Q) _ (by kernel_rfl) hk)

/-! (*gabion/flat.Flat).Write -/
def flat_Flat_Write.H : Hn := ⟨[], [], [], []⟩
def flat_Flat_Write.lc : List Cut := []
def flat_Flat_Write.rc : List Cut := []
def flat_Flat_Write.wp (f : Option Addr) (l : Int) (s : ByteArray) (h : Heap) (Q : Value → Heap → Prop) : Prop :=
 C Tryz.prog 84 #[.pointer f, .int .i64 l] h fun (r : Value) (h' : Heap) =>
 ∃ (x : Option Addr),
 ∃ (x_1 : Int),
 ∃ (x_2 : Int),
 r = .tuple #[.pointer x, .int .i64 x_1, .int .i64 x_2] ∧
 xsIf (decide (x_2 = 1)) (Q (.int .i64 x_2) h')
 (xsIf (decide ((↑s.size : Int) ≠ 64)) (Q (.int .i64 2) h')
 (xsIf (decide (x_2 ≠ 0)) (Q (.int .i64 x_2) h')
 (C Tryz.prog 85 #[.pointer x, .int .i64 x_1, .string s] h' fun (r : Value) (h' : Heap) => ∃ (x : Int), r = .int .i64 x ∧ Q (.int .i64 x) h')))
theorem flat_Flat_Write.ok {f : Option Addr} {l : Int} {s : ByteArray} {h : Heap} {Q : Value → Heap → Prop} (hk : flat_Flat_Write.wp f l s h Q) : C Tryz.prog 20 #[.pointer f, .int .i64 l, .string s] h Q :=
 C_of_xs (H := flat_Flat_Write.H) (lcuts := flat_Flat_Write.lc) (rcuts := flat_Flat_Write.rc) (l := [.pointer f, .int .i64 l, .string s]) 2000 mixed Tryz.func20 rfl (by kernel_rfl) (@cast (flat_Flat_Write.wp f l s h Q) _ (by kernel_rfl) hk)

/-! (*gabion/ring.Ring).WriteWord$1 -/
/-! (*gabion/ring.Ring).WriteWord -/
/-! (*gabion/flat.Flat).WriteWord -/
def flat_Flat_WriteWord.H : Hn := ⟨[], [], [], []⟩
def flat_Flat_WriteWord.lc : List Cut := []
def flat_Flat_WriteWord.rc : List Cut := []
def flat_Flat_WriteWord.wp (f : Option Addr) (l : Int) (k0 : Int) (v : Int) (h : Heap) (Q : Value → Heap → Prop) : Prop :=
 C Tryz.prog 84 #[.pointer f, .int .i64 l] h fun (r : Value) (h' : Heap) =>
 ∃ (x : Option Addr),
 ∃ (x_1 : Int),
 ∃ (x_2 : Int),
 r = .tuple #[.pointer x, .int .i64 x_1, .int .i64 x_2] ∧
 xsIf (decide (x_2 = 1)) (Q (.int .i64 x_2) h')
 (xsIf (decide (k0 < 0)) (Q (.int .i64 2) h')
 (xsIf (decide (8 ≤ k0)) (Q (.int .i64 2) h')
 (xsIf (decide (x_2 ≠ 0)) (Q (.int .i64 x_2) h')
 (C Tryz.prog 86 #[.pointer x, .int .i64 x_1, .int .i64 k0, .int .u64 v] h' fun (r : Value) (h' : Heap) =>
 ∃ (x : Int), r = .int .i64 x ∧ Q (.int .i64 x) h'))))
theorem flat_Flat_WriteWord.ok {f : Option Addr} {l : Int} {k0 : Int} {v : Int} {h : Heap} {Q : Value → Heap → Prop} (hk : flat_Flat_WriteWord.wp f l k0 v h Q) : C Tryz.prog 21 #[.pointer f, .int .i64 l, .int .i64 k0, .int .u64 v] h Q :=
 C_of_xs (H := flat_Flat_WriteWord.H) (lcuts := flat_Flat_WriteWord.lc) (rcuts := flat_Flat_WriteWord.rc) (l := [.pointer f, .int .i64 l, .int .i64 k0, .int .u64 v]) 2000 mixed Tryz.func21 rfl (by kernel_rfl) (@cast (flat_Flat_WriteWord.wp f l k0 v h Q) _ (by kernel_rfl) hk)

/-! (*gabion/ring.Ring).Read -/
def ring_Ring_Read.H : Hn := ⟨[], [], [], []⟩
def ring_Ring_Read.lc : List Cut := []
def ring_Ring_Read.rc : List Cut := []
def ring_Ring_Read.wp (r0 : Option Addr) (i : Int) (h : Heap) (Q : Value → Heap → Prop) : Prop :=
 C Tryz.prog 163 #[.pointer r0, .int .i64 i] h fun (r : Value) (h' : Heap) =>
 ∃ (x : Int),
 ∃ (x_1 : Int),
 r = .tuple #[.int .i64 x, .int .i64 x_1] ∧
 xsIf (decide (x_1 ≠ 0)) (Q (.tuple #[.string { data := #[] }, .int .i64 x_1]) h')
 (atBase r0 fun (b o : Nat) =>
 ∃ (x_2 : Option Addr),
 h'.cell b (o + 4) = some (.pointer x_2) ∧
 C Tryz.prog 154 #[.pointer x_2, .int .i64 x] h' fun (r : Value) (h' : Heap) =>
 ∃ (x : ByteArray), ∃ (x_3 : Int), r = .tuple #[.string x, .int .i64 x_3] ∧ Q (.tuple #[.string x, .int .i64 x_3]) h')
theorem ring_Ring_Read.ok {r0 : Option Addr} {i : Int} {h : Heap} {Q : Value → Heap → Prop} (hk : ring_Ring_Read.wp r0 i h Q) : C Tryz.prog 87 #[.pointer r0, .int .i64 i] h Q :=
 C_of_xs (H := ring_Ring_Read.H) (lcuts := ring_Ring_Read.lc) (rcuts := ring_Ring_Read.rc) (l := [.pointer r0, .int .i64 i]) 2000 mixed Tryz.func87 rfl (by kernel_rfl) (@cast (ring_Ring_Read.wp r0 i h Q) _ (by kernel_rfl) hk)

/-! (*gabion/flat.Flat).Read -/
def flat_Flat_Read.H : Hn := ⟨[], [], [], []⟩
def flat_Flat_Read.lc : List Cut := []
def flat_Flat_Read.rc : List Cut := []
def flat_Flat_Read.wp (f : Option Addr) (l : Int) (h : Heap) (Q : Value → Heap → Prop) : Prop :=
 C Tryz.prog 84 #[.pointer f, .int .i64 l] h fun (r : Value) (h' : Heap) =>
 ∃ (x : Option Addr),
 ∃ (x_1 : Int),
 ∃ (x_2 : Int),
 r = .tuple #[.pointer x, .int .i64 x_1, .int .i64 x_2] ∧
 xsIf (decide (x_2 ≠ 0)) (Q (.tuple #[.string { data := #[] }, .int .i64 x_2]) h')
 (C Tryz.prog 87 #[.pointer x, .int .i64 x_1] h' fun (r : Value) (h' : Heap) =>
 ∃ (x : ByteArray), ∃ (x_3 : Int), r = .tuple #[.string x, .int .i64 x_3] ∧ Q (.tuple #[.string x, .int .i64 x_3]) h')
theorem flat_Flat_Read.ok {f : Option Addr} {l : Int} {h : Heap} {Q : Value → Heap → Prop} (hk : flat_Flat_Read.wp f l h Q) : C Tryz.prog 22 #[.pointer f, .int .i64 l] h Q :=
 C_of_xs (H := flat_Flat_Read.H) (lcuts := flat_Flat_Read.lc) (rcuts := flat_Flat_Read.rc) (l := [.pointer f, .int .i64 l]) 2000 mixed Tryz.func22 rfl (by kernel_rfl) (@cast (flat_Flat_Read.wp f l h Q) _ (by kernel_rfl) hk)

/-! (*gabion/flat.Flat).Config -/
def flat_Flat_Config.H : Hn := ⟨[], [], [], []⟩
def flat_Flat_Config.lc : List Cut := []
def flat_Flat_Config.rc : List Cut := []
def flat_Flat_Config.wp (f : Option Addr) (h : Heap) (Q : Value → Heap → Prop) : Prop :=
 xsIf f.isNone (Q (.agg #[.int .i64 0, .int .i64 0, .int .i64 0, .int .i64 0, .int .u64 0]) h)
 (atBase f fun (b o : Nat) =>
 ∃ (x : Int),
 h.cell b (o + 0) = some (.int .i64 x) ∧
 ∃ (x_1 : Int),
 h.cell b (o + 0 + 1) = some (.int .i64 x_1) ∧
 ∃ (x_2 : Int),
 h.cell b (o + 0 + 1 + 1) = some (.int .i64 x_2) ∧
 ∃ (x_3 : Int),
 h.cell b (o + 0 + 1 + 1 + 1) = some (.int .i64 x_3) ∧
 ∃ (x_4 : Int),
 h.cell b (o + 0 + 1 + 1 + 1 + 1) = some (.int .u64 x_4) ∧
 Q (.agg #[.int .i64 x, .int .i64 x_1, .int .i64 x_2, .int .i64 x_3, .int .u64 x_4]) h)
theorem flat_Flat_Config.ok {f : Option Addr} {h : Heap} {Q : Value → Heap → Prop} (hk : flat_Flat_Config.wp f h Q) : C Tryz.prog 36 #[.pointer f] h Q :=
 C_of_xs (H := flat_Flat_Config.H) (lcuts := flat_Flat_Config.lc) (rcuts := flat_Flat_Config.rc) (l := [.pointer f]) 2000 mixed Tryz.func36 rfl (by kernel_rfl) (@cast (flat_Flat_Config.wp f h Q) _ (by kernel_rfl) hk)

/-! gabion/gabionlaw09.wakes -/
def gabionlaw09_wakes.H : Hn := ⟨[], [], [⟨5, .q 0 (.q 1 (.q 2 (.q 3 (.q 4 (.q 5 (.q 6 (.q 7 (.q 8 (.q 9 (.q 10 (.q 11 (.q 12 (.q 13 (.q 14 (.q 15 (.q 16 (.q 17 (.q 18 (.q 19 (.q 20 (.q 21 (.q 23 (.q 22 (.q 24 (.q 25 (.nil)))))))))))))))))))))))))), []⟩], []⟩
def gabionlaw09_wakes.lc : List Cut := []
def gabionlaw09_wakes.rc : List Cut := [⟨7, [5], []⟩]
def gabionlaw09_wakes.J7 (l : Option Addr) (h : Heap) (Q : Value → Heap → Prop) : Prop :=
 TW Tryz.prog 23 85 [.code (cAt (bodyOf Tryz.f23) [1, 1, 1, 1, 1, 1, 0]), .code (cAt (bodyOf Tryz.f23) [1, 1, 1, 1, 1, 1, 1])] ⟨[(5, .v (.pointer l))], []⟩ h Q
def gabionlaw09_wakes.wp  (h : Heap) (Q : Value → Heap → Prop) : Prop :=
 C Tryz.prog 15 #[.int .i64 13] h fun (r : Value) (h' : Heap) =>
 ∃ (x : Option Addr),
 ∃ (x_1 : Int),
 r = .tuple #[.pointer x, .int .i64 x_1] ∧
 C Tryz.prog 17 #[.pointer x, .agg #[.int .i64 2, .int .i64 4, .int .i64 0, .int .i64 3, .int .u64 77]] h' fun (r : Value) (h' : Heap) =>
 ∃ (x_2 : Int),
 r = .int .i64 x_2 ∧
 C Tryz.prog 18 #[.pointer x] h' fun (r : Value) (h' : Heap) =>
 ∃ (x : Option Addr),
 ∃ (x_3 : Int),
 r = .tuple #[.pointer x, .int .i64 x_3] ∧
 xsIf (decide (x_1 ≠ 0)) (Q (.bool false) h')
 (xsIf (decide (x_2 ≠ 0)) (Q (.bool false) h')
 (xsIf (decide (x_3 ≠ 0)) (Q (.bool false) h')
 (C Tryz.prog 24 #[.pointer x] h' fun (r : Value) (h' : Heap) =>
 ∃ (x_4 : Int),
 r = .int .i64 x_4 ∧
 xsIf (decide (x_4 ≠ 8)) (Q (.bool false) h')
 (C Tryz.prog 16 #[.agg #[.int .i64 2, .int .i64 4, .int .i64 0, .int .i64 3, .int .u64 77]] h'
 fun (r : Value) (h' : Heap) =>
 ∃ (x_5 : Int),
 r = .int .i64 x_5 ∧
 xsIf (decide (x_5 ≠ 13)) (Q (.bool false) h')
 (C Tryz.prog 36 #[.pointer x] h' fun (r : Value) (h' : Heap) =>
 ∃ (x_6 : Int),
 ∃ (x_7 : Int),
 ∃ (x_8 : Int),
 ∃ (x_9 : Int),
 ∃ (x_10 : Int),
 r = .agg #[.int .i64 x_6, .int .i64 x_7, .int .i64 x_8, .int .i64 x_9, .int .u64 x_10] ∧
 xsIf (!(decide (x_6 = 2) && (decide (x_7 = 4) && (decide (x_8 = 0) && (decide (x_9 = 3) && (decide (x_10 = 77) && true)))))) (Q (.bool false) h')
 (gabionlaw09_wakes.J7 x h' Q))))))
def gabionlaw09_wakes.J7.wp (l : Option Addr) (h : Heap) (Q : Value → Heap → Prop) : Prop :=
 C Tryz.prog 19 #[.string { data := #[UInt8.ofNat 120] }] h fun (r : Value) (h' : Heap) =>
 ∃ (x : ByteArray),
 r = .string x ∧
 C Tryz.prog 20 #[.pointer l, .int .i64 5, .string x] h' fun (r : Value) (h' : Heap) =>
 ∃ (x : Int),
 r = .int .i64 x ∧
 C Tryz.prog 22 #[.pointer l, .int .i64 5] h' fun (r : Value) (h' : Heap) =>
 ∃ (x_1 : ByteArray),
 ∃ (x_2 : Int),
 r = .tuple #[.string x_1, .int .i64 x_2] ∧
 C Tryz.prog 22 #[.pointer l, .int .i64 4] h' fun (r : Value) (h' : Heap) =>
 ∃ (x_3 : ByteArray),
 ∃ (x_4 : Int),
 r = .tuple #[.string x_3, .int .i64 x_4] ∧
 xsIf (decide (x = 0))
 (xsIf (decide (x_2 = 0))
 (C Tryz.prog 19 #[.string { data := #[UInt8.ofNat 120] }] h' fun (r : Value) (h' : Heap) =>
 ∃ (x : ByteArray),
 r = .string x ∧
 xsIf (decide (x_1 = x))
 (C Tryz.prog 19 #[.string { data := #[] }] h' fun (r : Value) (h' : Heap) =>
 ∃ (x : ByteArray),
 r = .string x ∧
 xsIf (decide (x_3 = x))
 (C Tryz.prog 28 #[.pointer l, .int .i64 5] h' fun (r : Value) (h' : Heap) => ∃ (x : Int), r = .int .i64 x ∧ Q (.bool (decide (x = 1))) h')
 (Q (.bool false) h'))
 (Q (.bool false) h'))
 (Q (.bool false) h'))
 (Q (.bool false) h')
theorem gabionlaw09_wakes.ok {h : Heap} {Q : Value → Heap → Prop} (hk : gabionlaw09_wakes.wp h Q) : C Tryz.prog 23 #[] h Q :=
 C_of_xs (H := gabionlaw09_wakes.H) (lcuts := gabionlaw09_wakes.lc) (rcuts := gabionlaw09_wakes.rc) (l := []) 2000 mixed Tryz.func23 rfl (by kernel_rfl) (@cast (gabionlaw09_wakes.wp h Q) _ (by kernel_rfl) hk)
theorem gabionlaw09_wakes.J7.ok {l : Option Addr} {h : Heap} {Q : Value → Heap → Prop} (hk : gabionlaw09_wakes.J7.wp l h Q) : gabionlaw09_wakes.J7 l h Q :=
 xs_ok (H := gabionlaw09_wakes.H) (lcuts := gabionlaw09_wakes.lc) (rcuts := []) (fn := Tryz.f23) mixed Tryz.func23 2000 _ _ _ (@cast (gabionlaw09_wakes.J7.wp l h Q) _ (by kernel_rfl) hk)
end Go.Gb
