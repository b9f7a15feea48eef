/- Own text for the seat: W1. -/
import Derived.Test.YtbphidfhcijbhaaA8
import Derived.Test.YtbphidfhcijbhaaProg
set_option linter.unusedVariables false
set_option linter.unusedSimpArgs false
set_option linter.unnecessarySimpa false
set_option linter.deprecated false
set_option maxRecDepth 100000
namespace Go.Gb
open Go.Proofs
theorem mixed : Try.prog.follows .mixedOrders = true := by kernel_rfl

/-! gabion/pm.New -/
def pm_New.H : Hn := ⟨[19], [], [⟨3, .q 0 (.q 1 (.q 4 (.q 6 (.br 2 (.br 3 (.br 5 (.q 7 (.q 8 (.q 9 (.q 10 (.q 11 (.nil)))))) (.one 7 (.q 5 (.q 8 (.q 9 (.q 10 (.q 11 (.nil)))))))) (.br 5 (.br 3 (.q 7 (.q 8 (.q 9 (.q 10 (.q 11 (.nil)))))) (.one 7 (.q 3 (.q 8 (.q 9 (.q 10 (.q 11 (.nil)))))))) (.one 7 (.br 3 (.q 5 (.q 8 (.q 9 (.q 10 (.q 11 (.nil)))))) (.one 5 (.q 3 (.q 8 (.q 9 (.q 10 (.q 11 (.nil))))))))))) (.br 3 (.br 2 (.br 5 (.q 7 (.q 8 (.q 9 (.q 10 (.q 11 (.nil)))))) (.one 7 (.q 5 (.q 8 (.q 9 (.q 10 (.q 11 (.nil)))))))) (.br 5 (.br 2 (.q 7 (.q 8 (.q 9 (.q 10 (.q 11 (.nil)))))) (.one 7 (.q 2 (.q 8 (.q 9 (.q 10 (.q 11 (.nil)))))))) (.one 7 (.br 2 (.q 5 (.q 8 (.q 9 (.q 10 (.q 11 (.nil)))))) (.one 5 (.q 2 (.q 8 (.q 9 (.q 10 (.q 11 (.nil))))))))))) (.br 5 (.br 2 (.br 3 (.q 7 (.q 8 (.q 9 (.q 10 (.q 11 (.nil)))))) (.one 7 (.q 3 (.q 8 (.q 9 (.q 10 (.q 11 (.nil)))))))) (.br 3 (.br 2 (.q 7 (.q 8 (.q 9 (.q 10 (.q 11 (.nil)))))) (.one 7 (.q 2 (.q 8 (.q 9 (.q 10 (.q 11 (.nil)))))))) (.one 7 (.br 2 (.q 3 (.q 8 (.q 9 (.q 10 (.q 11 (.nil)))))) (.one 3 (.q 2 (.q 8 (.q 9 (.q 10 (.q 11 (.nil))))))))))) (.one 7 (.br 2 (.br 3 (.q 5 (.q 8 (.q 9 (.q 10 (.q 11 (.nil)))))) (.one 5 (.q 3 (.q 8 (.q 9 (.q 10 (.q 11 (.nil)))))))) (.br 3 (.br 2 (.q 5 (.q 8 (.q 9 (.q 10 (.q 11 (.nil)))))) (.one 5 (.q 2 (.q 8 (.q 9 (.q 10 (.q 11 (.nil)))))))) (.one 5 (.br 2 (.q 3 (.q 8 (.q 9 (.q 10 (.q 11 (.nil)))))) (.one 3 (.q 2 (.q 8 (.q 9 (.q 10 (.q 11 (.nil)))))))))))))))))), [19]⟩], []⟩
def pm_New.lc : List Cut := []
def pm_New.rc : List Cut := []
def pm_New.wp (lines : Int) (h : Heap) (Q : Value → Heap → Prop) : Prop :=
  xsIf (decide (lines < 1)) (Q (Value.tuple #[Value.pointer none, Value.int IntKind.i64 2]) h)
    (xsIf (decide (8192 < lines)) (Q (Value.tuple #[Value.pointer none, Value.int IntKind.i64 2]) h)
      ((xsMk Try.prog 22 h (IntKind.i64.wrap (lines * 8)) (IntKind.i64.wrap (lines * 8)) fun (a : Option Addr) (n' c' : Nat) (h' : Heap) =>
          (∀ (b : Nat),
              h' b = none →
                (xsMk Try.prog 3 (upd h' b (Obj.map #[] 0)) lines lines fun (a_2 : Option Addr) (n'_1 c'_1 : Nat) (h' : Heap) =>
                    xsMk Try.prog 4 h' lines lines fun (a_3 : Option Addr) (n'_2 c'_2 : Nat) (h' : Heap) =>
                      ∀ (b_1 : Nat),
                        h' b_1 = none →
                          Q (Value.tuple #[Value.pointer (some { block := b_1, off := 0 }), Value.int IntKind.i64 0])
                            (upd h' b_1
                              (Obj.cells #[Value.slice a n' c', Value.map (some b), Value.slice a_2 n'_1 c'_1, Value.slice a_3 n'_2 c'_2, Value.int IntKind.i64 0, Value.bool false, Value.int IntKind.i64 0] 88 (0, 0)))) ∧
                  xsMk Try.prog 4 (upd h' b (Obj.map #[] 0)) lines lines fun (a_2 : Option Addr) (n'_1 c'_1 : Nat) (h' : Heap) =>
                    xsMk Try.prog 3 h' lines lines fun (a_3 : Option Addr) (n'_2 c'_2 : Nat) (h' : Heap) =>
                      ∀ (b_1 : Nat),
                        h' b_1 = none →
                          Q (Value.tuple #[Value.pointer (some { block := b_1, off := 0 }), Value.int IntKind.i64 0])
                            (upd h' b_1
                              (Obj.cells #[Value.slice a n' c', Value.map (some b), Value.slice a_3 n'_2 c'_2, Value.slice a_2 n'_1 c'_1, Value.int IntKind.i64 0, Value.bool false, Value.int IntKind.i64 0] 88 (0, 0)))) ∧
            (xsMk Try.prog 3 h' lines lines fun (a_1 : Option Addr) (n'_1 c'_1 : Nat) (h' : Heap) =>
                (∀ (b : Nat),
                    h' b = none →
                      xsMk Try.prog 4 (upd h' b (Obj.map #[] 0)) lines lines fun (a_3 : Option Addr) (n'_2 c'_2 : Nat) (h' : Heap) =>
                        ∀ (b_1 : Nat),
                          h' b_1 = none →
                            Q (Value.tuple #[Value.pointer (some { block := b_1, off := 0 }), Value.int IntKind.i64 0])
                              (upd h' b_1
                                (Obj.cells #[Value.slice a n' c', Value.map (some b), Value.slice a_1 n'_1 c'_1, Value.slice a_3 n'_2 c'_2, Value.int IntKind.i64 0, Value.bool false, Value.int IntKind.i64 0] 88 (0, 0)))) ∧
                  xsMk Try.prog 4 h' lines lines fun (a_2 : Option Addr) (n'_2 c'_2 : Nat) (h' : Heap) =>
                    ∀ (b : Nat),
                      h' b = none →
                        ∀ (b_1 : Nat),
                          upd h' b (Obj.map #[] 0) b_1 = none →
                            Q (Value.tuple #[Value.pointer (some { block := b_1, off := 0 }), Value.int IntKind.i64 0])
                              (upd (upd h' b (Obj.map #[] 0)) b_1
                                (Obj.cells #[Value.slice a n' c', Value.map (some b), Value.slice a_1 n'_1 c'_1, Value.slice a_2 n'_2 c'_2, Value.int IntKind.i64 0, Value.bool false, Value.int IntKind.i64 0] 88 (0, 0)))) ∧
              xsMk Try.prog 4 h' lines lines fun (a_1 : Option Addr) (n'_1 c'_1 : Nat) (h' : Heap) =>
                (∀ (b : Nat),
                    h' b = none →
                      xsMk Try.prog 3 (upd h' b (Obj.map #[] 0)) lines lines fun (a_3 : Option Addr) (n'_2 c'_2 : Nat) (h' : Heap) =>
                        ∀ (b_1 : Nat),
                          h' b_1 = none →
                            Q (Value.tuple #[Value.pointer (some { block := b_1, off := 0 }), Value.int IntKind.i64 0])
                              (upd h' b_1
                                (Obj.cells #[Value.slice a n' c', Value.map (some b), Value.slice a_3 n'_2 c'_2, Value.slice a_1 n'_1 c'_1, Value.int IntKind.i64 0, Value.bool false, Value.int IntKind.i64 0] 88 (0, 0)))) ∧
                  xsMk Try.prog 3 h' lines lines fun (a_2 : Option Addr) (n'_2 c'_2 : Nat) (h' : Heap) =>
                    ∀ (b : Nat),
                      h' b = none →
                        ∀ (b_1 : Nat),
                          upd h' b (Obj.map #[] 0) b_1 = none →
                            Q (Value.tuple #[Value.pointer (some { block := b_1, off := 0 }), Value.int IntKind.i64 0])
                              (upd (upd h' b (Obj.map #[] 0)) b_1
                                (Obj.cells #[Value.slice a n' c', Value.map (some b), Value.slice a_2 n'_2 c'_2, Value.slice a_1 n'_1 c'_1, Value.int IntKind.i64 0, Value.bool false, Value.int IntKind.i64 0] 88 (0, 0)))) ∧
        (∀ (b : Nat),
            h b = none →
              (xsMk Try.prog 22 (upd h b (Obj.map #[] 0)) (IntKind.i64.wrap (lines * 8)) (IntKind.i64.wrap (lines * 8)) fun (a : Option Addr) (n' c' : Nat) (h' : Heap) =>
                  (xsMk Try.prog 3 h' lines lines fun (a_1 : Option Addr) (n'_1 c'_1 : Nat) (h' : Heap) =>
                      xsMk Try.prog 4 h' lines lines fun (a_2 : Option Addr) (n'_2 c'_2 : Nat) (h' : Heap) =>
                        ∀ (b_1 : Nat),
                          h' b_1 = none →
                            Q (Value.tuple #[Value.pointer (some { block := b_1, off := 0 }), Value.int IntKind.i64 0])
                              (upd h' b_1
                                (Obj.cells #[Value.slice a n' c', Value.map (some b), Value.slice a_1 n'_1 c'_1, Value.slice a_2 n'_2 c'_2, Value.int IntKind.i64 0, Value.bool false, Value.int IntKind.i64 0] 88 (0, 0)))) ∧
                    xsMk Try.prog 4 h' lines lines fun (a_1 : Option Addr) (n'_1 c'_1 : Nat) (h' : Heap) =>
                      xsMk Try.prog 3 h' lines lines fun (a_2 : Option Addr) (n'_2 c'_2 : Nat) (h' : Heap) =>
                        ∀ (b_1 : Nat),
                          h' b_1 = none →
                            Q (Value.tuple #[Value.pointer (some { block := b_1, off := 0 }), Value.int IntKind.i64 0])
                              (upd h' b_1
                                (Obj.cells #[Value.slice a n' c', Value.map (some b), Value.slice a_2 n'_2 c'_2, Value.slice a_1 n'_1 c'_1, Value.int IntKind.i64 0, Value.bool false, Value.int IntKind.i64 0] 88 (0, 0)))) ∧
                (xsMk Try.prog 3 (upd h b (Obj.map #[] 0)) lines lines fun (a : Option Addr) (n' c' : Nat) (h' : Heap) =>
                    (xsMk Try.prog 22 h' (IntKind.i64.wrap (lines * 8)) (IntKind.i64.wrap (lines * 8)) fun (a_1 : Option Addr) (n'_1 c'_1 : Nat) (h' : Heap) =>
                        xsMk Try.prog 4 h' lines lines fun (a_2 : Option Addr) (n'_2 c'_2 : Nat) (h' : Heap) =>
                          ∀ (b_1 : Nat),
                            h' b_1 = none →
                              Q (Value.tuple #[Value.pointer (some { block := b_1, off := 0 }), Value.int IntKind.i64 0])
                                (upd h' b_1
                                  (Obj.cells #[Value.slice a_1 n'_1 c'_1, Value.map (some b), Value.slice a n' c', Value.slice a_2 n'_2 c'_2, Value.int IntKind.i64 0, Value.bool false, Value.int IntKind.i64 0] 88 (0, 0)))) ∧
                      xsMk Try.prog 4 h' lines lines fun (a_1 : Option Addr) (n'_1 c'_1 : Nat) (h' : Heap) =>
                        xsMk Try.prog 22 h' (IntKind.i64.wrap (lines * 8)) (IntKind.i64.wrap (lines * 8)) fun (a_2 : Option Addr) (n'_2 c'_2 : Nat) (h' : Heap) =>
                          ∀ (b_1 : Nat),
                            h' b_1 = none →
                              Q (Value.tuple #[Value.pointer (some { block := b_1, off := 0 }), Value.int IntKind.i64 0])
                                (upd h' b_1
                                  (Obj.cells #[Value.slice a_2 n'_2 c'_2, Value.map (some b), Value.slice a n' c', Value.slice a_1 n'_1 c'_1, Value.int IntKind.i64 0, Value.bool false, Value.int IntKind.i64 0] 88 (0, 0)))) ∧
                  xsMk Try.prog 4 (upd h b (Obj.map #[] 0)) lines lines fun (a : Option Addr) (n' c' : Nat) (h' : Heap) =>
                    (xsMk Try.prog 22 h' (IntKind.i64.wrap (lines * 8)) (IntKind.i64.wrap (lines * 8)) fun (a_1 : Option Addr) (n'_1 c'_1 : Nat) (h' : Heap) =>
                        xsMk Try.prog 3 h' lines lines fun (a_2 : Option Addr) (n'_2 c'_2 : Nat) (h' : Heap) =>
                          ∀ (b_1 : Nat),
                            h' b_1 = none →
                              Q (Value.tuple #[Value.pointer (some { block := b_1, off := 0 }), Value.int IntKind.i64 0])
                                (upd h' b_1
                                  (Obj.cells #[Value.slice a_1 n'_1 c'_1, Value.map (some b), Value.slice a_2 n'_2 c'_2, Value.slice a n' c', Value.int IntKind.i64 0, Value.bool false, Value.int IntKind.i64 0] 88 (0, 0)))) ∧
                      xsMk Try.prog 3 h' lines lines fun (a_1 : Option Addr) (n'_1 c'_1 : Nat) (h' : Heap) =>
                        xsMk Try.prog 22 h' (IntKind.i64.wrap (lines * 8)) (IntKind.i64.wrap (lines * 8)) fun (a_2 : Option Addr) (n'_2 c'_2 : Nat) (h' : Heap) =>
                          ∀ (b_1 : Nat),
                            h' b_1 = none →
                              Q (Value.tuple #[Value.pointer (some { block := b_1, off := 0 }), Value.int IntKind.i64 0])
                                (upd h' b_1
                                  (Obj.cells #[Value.slice a_2 n'_2 c'_2, Value.map (some b), Value.slice a_1 n'_1 c'_1, Value.slice a n' c', Value.int IntKind.i64 0, Value.bool false, Value.int IntKind.i64 0] 88 (0, 0)))) ∧
          (xsMk Try.prog 3 h lines lines fun (a : Option Addr) (n' c' : Nat) (h' : Heap) =>
              (xsMk Try.prog 22 h' (IntKind.i64.wrap (lines * 8)) (IntKind.i64.wrap (lines * 8)) fun (a_1 : Option Addr) (n'_1 c'_1 : Nat) (h' : Heap) =>
                  (∀ (b : Nat),
                      h' b = none →
                        xsMk Try.prog 4 (upd h' b (Obj.map #[] 0)) lines lines fun (a_3 : Option Addr) (n'_2 c'_2 : Nat) (h' : Heap) =>
                          ∀ (b_1 : Nat),
                            h' b_1 = none →
                              Q (Value.tuple #[Value.pointer (some { block := b_1, off := 0 }), Value.int IntKind.i64 0])
                                (upd h' b_1
                                  (Obj.cells #[Value.slice a_1 n'_1 c'_1, Value.map (some b), Value.slice a n' c', Value.slice a_3 n'_2 c'_2, Value.int IntKind.i64 0, Value.bool false, Value.int IntKind.i64 0] 88 (0, 0)))) ∧
                    xsMk Try.prog 4 h' lines lines fun (a_2 : Option Addr) (n'_2 c'_2 : Nat) (h' : Heap) =>
                      ∀ (b : Nat),
                        h' b = none →
                          ∀ (b_1 : Nat),
                            upd h' b (Obj.map #[] 0) b_1 = none →
                              Q (Value.tuple #[Value.pointer (some { block := b_1, off := 0 }), Value.int IntKind.i64 0])
                                (upd (upd h' b (Obj.map #[] 0)) b_1
                                  (Obj.cells #[Value.slice a_1 n'_1 c'_1, Value.map (some b), Value.slice a n' c', Value.slice a_2 n'_2 c'_2, Value.int IntKind.i64 0, Value.bool false, Value.int IntKind.i64 0] 88 (0, 0)))) ∧
                (∀ (b : Nat),
                    h' b = none →
                      (xsMk Try.prog 22 (upd h' b (Obj.map #[] 0)) (IntKind.i64.wrap (lines * 8)) (IntKind.i64.wrap (lines * 8)) fun (a_2 : Option Addr) (n'_1 c'_1 : Nat) (h' : Heap) =>
                          xsMk Try.prog 4 h' lines lines fun (a_3 : Option Addr) (n'_2 c'_2 : Nat) (h' : Heap) =>
                            ∀ (b_1 : Nat),
                              h' b_1 = none →
                                Q (Value.tuple #[Value.pointer (some { block := b_1, off := 0 }), Value.int IntKind.i64 0])
                                  (upd h' b_1
                                    (Obj.cells #[Value.slice a_2 n'_1 c'_1, Value.map (some b), Value.slice a n' c', Value.slice a_3 n'_2 c'_2, Value.int IntKind.i64 0, Value.bool false, Value.int IntKind.i64 0] 88 (0, 0)))) ∧
                        xsMk Try.prog 4 (upd h' b (Obj.map #[] 0)) lines lines fun (a_2 : Option Addr) (n'_1 c'_1 : Nat) (h' : Heap) =>
                          xsMk Try.prog 22 h' (IntKind.i64.wrap (lines * 8)) (IntKind.i64.wrap (lines * 8)) fun (a_3 : Option Addr) (n'_2 c'_2 : Nat) (h' : Heap) =>
                            ∀ (b_1 : Nat),
                              h' b_1 = none →
                                Q (Value.tuple #[Value.pointer (some { block := b_1, off := 0 }), Value.int IntKind.i64 0])
                                  (upd h' b_1
                                    (Obj.cells #[Value.slice a_3 n'_2 c'_2, Value.map (some b), Value.slice a n' c', Value.slice a_2 n'_1 c'_1, Value.int IntKind.i64 0, Value.bool false, Value.int IntKind.i64 0] 88 (0, 0)))) ∧
                  xsMk Try.prog 4 h' lines lines fun (a_1 : Option Addr) (n'_1 c'_1 : Nat) (h' : Heap) =>
                    (xsMk Try.prog 22 h' (IntKind.i64.wrap (lines * 8)) (IntKind.i64.wrap (lines * 8)) fun (a_2 : Option Addr) (n'_2 c'_2 : Nat) (h' : Heap) =>
                        ∀ (b : Nat),
                          h' b = none →
                            ∀ (b_1 : Nat),
                              upd h' b (Obj.map #[] 0) b_1 = none →
                                Q (Value.tuple #[Value.pointer (some { block := b_1, off := 0 }), Value.int IntKind.i64 0])
                                  (upd (upd h' b (Obj.map #[] 0)) b_1
                                    (Obj.cells #[Value.slice a_2 n'_2 c'_2, Value.map (some b), Value.slice a n' c', Value.slice a_1 n'_1 c'_1, Value.int IntKind.i64 0, Value.bool false, Value.int IntKind.i64 0] 88 (0, 0)))) ∧
                      ∀ (b : Nat),
                        h' b = none →
                          xsMk Try.prog 22 (upd h' b (Obj.map #[] 0)) (IntKind.i64.wrap (lines * 8)) (IntKind.i64.wrap (lines * 8)) fun (a_3 : Option Addr) (n'_2 c'_2 : Nat) (h' : Heap) =>
                            ∀ (b_1 : Nat),
                              h' b_1 = none →
                                Q (Value.tuple #[Value.pointer (some { block := b_1, off := 0 }), Value.int IntKind.i64 0])
                                  (upd h' b_1
                                    (Obj.cells #[Value.slice a_3 n'_2 c'_2, Value.map (some b), Value.slice a n' c', Value.slice a_1 n'_1 c'_1, Value.int IntKind.i64 0, Value.bool false, Value.int IntKind.i64 0] 88 (0, 0)))) ∧
            xsMk Try.prog 4 h lines lines fun (a : Option Addr) (n' c' : Nat) (h' : Heap) =>
              (xsMk Try.prog 22 h' (IntKind.i64.wrap (lines * 8)) (IntKind.i64.wrap (lines * 8)) fun (a_1 : Option Addr) (n'_1 c'_1 : Nat) (h' : Heap) =>
                  (∀ (b : Nat),
                      h' b = none →
                        xsMk Try.prog 3 (upd h' b (Obj.map #[] 0)) lines lines fun (a_3 : Option Addr) (n'_2 c'_2 : Nat) (h' : Heap) =>
                          ∀ (b_1 : Nat),
                            h' b_1 = none →
                              Q (Value.tuple #[Value.pointer (some { block := b_1, off := 0 }), Value.int IntKind.i64 0])
                                (upd h' b_1
                                  (Obj.cells #[Value.slice a_1 n'_1 c'_1, Value.map (some b), Value.slice a_3 n'_2 c'_2, Value.slice a n' c', Value.int IntKind.i64 0, Value.bool false, Value.int IntKind.i64 0] 88 (0, 0)))) ∧
                    xsMk Try.prog 3 h' lines lines fun (a_2 : Option Addr) (n'_2 c'_2 : Nat) (h' : Heap) =>
                      ∀ (b : Nat),
                        h' b = none →
                          ∀ (b_1 : Nat),
                            upd h' b (Obj.map #[] 0) b_1 = none →
                              Q (Value.tuple #[Value.pointer (some { block := b_1, off := 0 }), Value.int IntKind.i64 0])
                                (upd (upd h' b (Obj.map #[] 0)) b_1
                                  (Obj.cells #[Value.slice a_1 n'_1 c'_1, Value.map (some b), Value.slice a_2 n'_2 c'_2, Value.slice a n' c', Value.int IntKind.i64 0, Value.bool false, Value.int IntKind.i64 0] 88 (0, 0)))) ∧
                (∀ (b : Nat),
                    h' b = none →
                      (xsMk Try.prog 22 (upd h' b (Obj.map #[] 0)) (IntKind.i64.wrap (lines * 8)) (IntKind.i64.wrap (lines * 8)) fun (a_2 : Option Addr) (n'_1 c'_1 : Nat) (h' : Heap) =>
                          xsMk Try.prog 3 h' lines lines fun (a_3 : Option Addr) (n'_2 c'_2 : Nat) (h' : Heap) =>
                            ∀ (b_1 : Nat),
                              h' b_1 = none →
                                Q (Value.tuple #[Value.pointer (some { block := b_1, off := 0 }), Value.int IntKind.i64 0])
                                  (upd h' b_1
                                    (Obj.cells #[Value.slice a_2 n'_1 c'_1, Value.map (some b), Value.slice a_3 n'_2 c'_2, Value.slice a n' c', Value.int IntKind.i64 0, Value.bool false, Value.int IntKind.i64 0] 88 (0, 0)))) ∧
                        xsMk Try.prog 3 (upd h' b (Obj.map #[] 0)) lines lines fun (a_2 : Option Addr) (n'_1 c'_1 : Nat) (h' : Heap) =>
                          xsMk Try.prog 22 h' (IntKind.i64.wrap (lines * 8)) (IntKind.i64.wrap (lines * 8)) fun (a_3 : Option Addr) (n'_2 c'_2 : Nat) (h' : Heap) =>
                            ∀ (b_1 : Nat),
                              h' b_1 = none →
                                Q (Value.tuple #[Value.pointer (some { block := b_1, off := 0 }), Value.int IntKind.i64 0])
                                  (upd h' b_1
                                    (Obj.cells #[Value.slice a_3 n'_2 c'_2, Value.map (some b), Value.slice a_2 n'_1 c'_1, Value.slice a n' c', Value.int IntKind.i64 0, Value.bool false, Value.int IntKind.i64 0] 88 (0, 0)))) ∧
                  xsMk Try.prog 3 h' lines lines fun (a_1 : Option Addr) (n'_1 c'_1 : Nat) (h' : Heap) =>
                    (xsMk Try.prog 22 h' (IntKind.i64.wrap (lines * 8)) (IntKind.i64.wrap (lines * 8)) fun (a_2 : Option Addr) (n'_2 c'_2 : Nat) (h' : Heap) =>
                        ∀ (b : Nat),
                          h' b = none →
                            ∀ (b_1 : Nat),
                              upd h' b (Obj.map #[] 0) b_1 = none →
                                Q (Value.tuple #[Value.pointer (some { block := b_1, off := 0 }), Value.int IntKind.i64 0])
                                  (upd (upd h' b (Obj.map #[] 0)) b_1
                                    (Obj.cells #[Value.slice a_2 n'_2 c'_2, Value.map (some b), Value.slice a_1 n'_1 c'_1, Value.slice a n' c', Value.int IntKind.i64 0, Value.bool false, Value.int IntKind.i64 0] 88 (0, 0)))) ∧
                      ∀ (b : Nat),
                        h' b = none →
                          xsMk Try.prog 22 (upd h' b (Obj.map #[] 0)) (IntKind.i64.wrap (lines * 8)) (IntKind.i64.wrap (lines * 8)) fun (a_3 : Option Addr) (n'_2 c'_2 : Nat) (h' : Heap) =>
                            ∀ (b_1 : Nat),
                              h' b_1 = none →
                                Q (Value.tuple #[Value.pointer (some { block := b_1, off := 0 }), Value.int IntKind.i64 0])
                                  (upd h' b_1
                                    (Obj.cells #[Value.slice a_3 n'_2 c'_2, Value.map (some b), Value.slice a_1 n'_1 c'_1, Value.slice a n' c', Value.int IntKind.i64 0, Value.bool false, Value.int IntKind.i64 0] 88 (0, 0)))))
theorem pm_New.ok {lines : Int} {h : Heap} {Q : Value → Heap → Prop} (hk : pm_New.wp lines h Q) : C Try.prog 12 #[.int .i64 lines] h Q :=
  C_of_xs (H := pm_New.H) (lcuts := pm_New.lc) (rcuts := pm_New.rc) (l := [.int .i64 lines]) 2000 mixed Try.func12 rfl (by kernel_rfl) (Eq.mp (by kernel_rfl) hk)

/-! (*gabion/pm.Device).Lines -/
def pm_Device_Lines.H : Hn := ⟨[], [], [], []⟩
def pm_Device_Lines.lc : List Cut := []
def pm_Device_Lines.rc : List Cut := []
def pm_Device_Lines.wp (d : Option Addr) (h : Heap) (Q : Value → Heap → Prop) : Prop :=
  xsIf d.isNone (Q (Value.int IntKind.i64 0) h) (atBase d fun (b o : Nat) => ∃ (x : Option Addr), ∃ (n : Nat), ∃ (m : Nat), h.cell b (o + 2) = some (Value.slice x n m) ∧ Q (Value.int IntKind.i64 (↑n : Int)) h)
theorem pm_Device_Lines.ok {d : Option Addr} {h : Heap} {Q : Value → Heap → Prop} (hk : pm_Device_Lines.wp d h Q) : C Try.prog 43 #[.pointer d] h Q :=
  C_of_xs (H := pm_Device_Lines.H) (lcuts := pm_Device_Lines.lc) (rcuts := pm_Device_Lines.rc) (l := [.pointer d]) 2000 mixed Try.func43 rfl (by kernel_rfl) (Eq.mp (by kernel_rfl) hk)

/-! (*gabion/pm.Device).words -/
def pm_Device_words.H : Hn := ⟨[], [], [], []⟩
def pm_Device_words.lc : List Cut := []
def pm_Device_words.rc : List Cut := []
def pm_Device_words.wp (d : Option Addr) (h : Heap) (Q : Value → Heap → Prop) : Prop :=
  C Try.prog 43 #[Value.pointer d] h fun (r : Value) (h' : Heap) => ∃ (x : Int), r = Value.int IntKind.i64 x ∧ Q (Value.int IntKind.i64 (IntKind.i64.wrap (x * 8))) h'
theorem pm_Device_words.ok {d : Option Addr} {h : Heap} {Q : Value → Heap → Prop} (hk : pm_Device_words.wp d h Q) : C Try.prog 45 #[.pointer d] h Q :=
  C_of_xs (H := pm_Device_words.H) (lcuts := pm_Device_words.lc) (rcuts := pm_Device_words.rc) (l := [.pointer d]) 2000 mixed Try.func45 rfl (by kernel_rfl) (Eq.mp (by kernel_rfl) hk)

/-! (*gabion/pm.Device).Store$1 -/
def pm_Device_Store_1.H : Hn := ⟨[], [], [⟨0, .ld 5 192 (.q 6 (.ld 0 142 (.q 1 (.q 2 (.ld 3 128 (.q 4 (.q 7 (.nil)))))))), []⟩], []⟩
def pm_Device_Store_1.lc : List Cut := []
def pm_Device_Store_1.rc : List Cut := []
def pm_Device_Store_1.wp (t0 : Nat) (t1 : Nat) (t2 : Nat) (h : Heap) (Q : Value → Heap → Prop) : Prop :=
  ∃ (x : Int),
    h.cell t0 0 = some (Value.int IntKind.u64 x) ∧
      ∃ (x_1 : Option Addr),
        h.cell t1 0 = some (Value.pointer x_1) ∧
          atBase x_1 fun (b o : Nat) =>
            ∃ (x_2 : Option Nat),
              h.cell b (o + 1) = some (Value.map x_2) ∧
                ∃ (x_3 : Int),
                  h.cell t2 0 = some (Value.int IntKind.i64 x_3) ∧
                    atMap x_2 fun (r : Nat) =>
                      ∃ (l : List (Int × Value × Nat)),
                        ∃ (c : Nat),
                          h r = some (mapO (Value.int IntKind.i64) l c) ∧
                            (∀ (j : Nat) (v : Value) (b : Nat),
                                mnth l j = some (x_3, v, b) → Q (Value.tuple #[]) (upd h r (mapO (Value.int IntKind.i64) (mset l j (x_3, Value.agg #[Value.int IntKind.u64 x, Value.bool false], b)) c))) ∧
                              ((∀ (j : Nat) (v : Value) (b : Nat), ¬mnth l j = some (x_3, v, b)) →
                                Q (Value.tuple #[]) (upd h r (mapO (Value.int IntKind.i64) (madd l (x_3, Value.agg #[Value.int IntKind.u64 x, Value.bool false], c)) (c + 1))))
theorem pm_Device_Store_1.ok {t0 : Nat} {t1 : Nat} {t2 : Nat} {h : Heap} {Q : Value → Heap → Prop} (hk : pm_Device_Store_1.wp t0 t1 t2 h Q) : C Try.prog 46 #[.pointer (some ⟨t0, 0, none⟩), .pointer (some ⟨t1, 0, none⟩), .pointer (some ⟨t2, 0, none⟩)] h Q :=
  C_of_xs (H := pm_Device_Store_1.H) (lcuts := pm_Device_Store_1.lc) (rcuts := pm_Device_Store_1.rc) (l := [.pointer (some ⟨t0, 0, none⟩), .pointer (some ⟨t1, 0, none⟩), .pointer (some ⟨t2, 0, none⟩)]) 2000 mixed Try.func46 rfl (by kernel_rfl) (Eq.mp (by kernel_rfl) hk)

/-! (*gabion/pm.Device).ready -/
def pm_Device_ready.H : Hn := ⟨[], [], [], []⟩
def pm_Device_ready.lc : List Cut := []
def pm_Device_ready.rc : List Cut := []
def pm_Device_ready.wp (d : Option Addr) (at0 : Int) (of0 : Int) (h : Heap) (Q : Value → Heap → Prop) : Prop :=
  xsIf d.isNone (Q (Value.int IntKind.i64 1) h)
    (atBase d fun (b o : Nat) =>
      ∃ (x : Bool),
        h.cell b (o + 5) = some (Value.bool x) ∧ xsIf x (Q (Value.int IntKind.i64 6) h) (xsIf (decide (at0 < 0)) (Q (Value.int IntKind.i64 3) h) (xsIf (decide (of0 ≤ at0)) (Q (Value.int IntKind.i64 3) h) (Q (Value.int IntKind.i64 0) h))))
theorem pm_Device_ready.ok {d : Option Addr} {at0 : Int} {of0 : Int} {h : Heap} {Q : Value → Heap → Prop} (hk : pm_Device_ready.wp d at0 of0 h Q) : C Try.prog 54 #[.pointer d, .int .i64 at0, .int .i64 of0] h Q :=
  C_of_xs (H := pm_Device_ready.H) (lcuts := pm_Device_ready.lc) (rcuts := pm_Device_ready.rc) (l := [.pointer d, .int .i64 at0, .int .i64 of0]) 2000 mixed Try.func54 rfl (by kernel_rfl) (Eq.mp (by kernel_rfl) hk)

/-! (*gabion/pm.Device).burn -/
def pm_Device_burn.H : Hn := ⟨[], [], [], []⟩
def pm_Device_burn.lc : List Cut := []
def pm_Device_burn.rc : List Cut := []
def pm_Device_burn.wp (d : Option Addr) (h : Heap) (Q : Value → Heap → Prop) : Prop :=
  atBase d fun (b o : Nat) =>
    ∃ (x : Int),
      h.cell b (o + 4) = some (Value.int IntKind.i64 x) ∧
        xsIf (decide (0 < x))
          (atBase d fun (b o : Nat) =>
            ∃ (x : Int),
              h.cell b (o + 4) = some (Value.int IntKind.i64 x) ∧
                atBase d fun (b o : Nat) =>
                  h.can b (o + 4) 1 ∧
                    atBase d fun (b_1 o_1 : Nat) =>
                      ∃ (x_1 : Int),
                        (h.put b (o + 4) [Value.int IntKind.i64 (IntKind.i64.wrap (x - 1))]).cell b_1 (o_1 + 4) = some (Value.int IntKind.i64 x_1) ∧
                          xsIf (decide (x_1 = 0))
                            (atBase d fun (b_2 o_2 : Nat) =>
                              (h.put b (o + 4) [Value.int IntKind.i64 (IntKind.i64.wrap (x - 1))]).can b_2 (o_2 + 5) 1 ∧
                                Q (Value.int IntKind.i64 6) ((h.put b (o + 4) [Value.int IntKind.i64 (IntKind.i64.wrap (x - 1))]).put b_2 (o_2 + 5) [Value.bool true]))
                            (atBase d fun (b_2 o_2 : Nat) =>
                              ∃ (x_2 : Int),
                                (h.put b (o + 4) [Value.int IntKind.i64 (IntKind.i64.wrap (x - 1))]).cell b_2 (o_2 + 6) = some (Value.int IntKind.i64 x_2) ∧
                                  atBase d fun (b_3 o_3 : Nat) =>
                                    (h.put b (o + 4) [Value.int IntKind.i64 (IntKind.i64.wrap (x - 1))]).can b_3 (o_3 + 6) 1 ∧
                                      Q (Value.int IntKind.i64 0) ((h.put b (o + 4) [Value.int IntKind.i64 (IntKind.i64.wrap (x - 1))]).put b_3 (o_3 + 6) [Value.int IntKind.i64 (IntKind.i64.wrap (x_2 + 1))])))
          (atBase d fun (b o : Nat) =>
            ∃ (x : Int), h.cell b (o + 6) = some (Value.int IntKind.i64 x) ∧ atBase d fun (b o : Nat) => h.can b (o + 6) 1 ∧ Q (Value.int IntKind.i64 0) (h.put b (o + 6) [Value.int IntKind.i64 (IntKind.i64.wrap (x + 1))]))
theorem pm_Device_burn.ok {d : Option Addr} {h : Heap} {Q : Value → Heap → Prop} (hk : pm_Device_burn.wp d h Q) : C Try.prog 70 #[.pointer d] h Q :=
  C_of_xs (H := pm_Device_burn.H) (lcuts := pm_Device_burn.lc) (rcuts := pm_Device_burn.rc) (l := [.pointer d]) 2000 mixed Try.func70 rfl (by kernel_rfl) (Eq.mp (by kernel_rfl) hk)

/-! (*gabion/pm.Device).do -/
def pm_Device_do.H : Hn := ⟨[], [], [], []⟩
def pm_Device_do.lc : List Cut := []
def pm_Device_do.rc : List Cut := []
def pm_Device_do.wp (d : Option Addr) (at0 : Int) (of0 : Int) (f : Nat) (f_a : Array Value) (f_c : Array Value) (h : Heap) (Q : Value → Heap → Prop) : Prop :=
  C Try.prog 54 #[Value.pointer d, Value.int IntKind.i64 at0, Value.int IntKind.i64 of0] h fun (r : Value) (h' : Heap) =>
    ∃ (x : Int),
      r = Value.int IntKind.i64 x ∧
        xsIf (decide (x ≠ 0)) (Q (Value.int IntKind.i64 x) h')
          (C Try.prog 70 #[Value.pointer d] h' fun (r : Value) (h' : Heap) =>
            ∃ (x : Int),
              r = Value.int IntKind.i64 x ∧
                xsIf (decide (x ≠ 0)) (Q (Value.int IntKind.i64 x) h') (xsIf (goOk Try.prog f) (C Try.prog f (List.toArray (f_a.toList ++ [] ++ f_c.toList)) h' fun (r : Value) (h' : Heap) => Q (Value.int IntKind.i64 0) h') False))
theorem pm_Device_do.ok {d : Option Addr} {at0 : Int} {of0 : Int} {f : Nat} {f_a : Array Value} {f_c : Array Value} {h : Heap} {Q : Value → Heap → Prop} (hk : pm_Device_do.wp d at0 of0 f f_a f_c h Q) : C Try.prog 44 #[.pointer d, .int .i64 at0, .int .i64 of0, .func (.func f) f_a f_c] h Q :=
  C_of_xs (H := pm_Device_do.H) (lcuts := pm_Device_do.lc) (rcuts := pm_Device_do.rc) (l := [.pointer d, .int .i64 at0, .int .i64 of0, .func (.func f) f_a f_c]) 2000 mixed Try.func44 rfl (by kernel_rfl) (Eq.mp (by kernel_rfl) hk)

/-! (*gabion/pm.Device).Store -/
def pm_Device_Store.H : Hn := ⟨[3, 4, 5], [], [⟨1, .q 4 (.ld 2 104 (.br 0 (.br 1 (.q 3 (.q 5 (.q 6 (.nil)))) (.one 3 (.q 1 (.q 5 (.q 6 (.nil)))))) (.br 1 (.br 0 (.q 3 (.q 5 (.q 6 (.nil)))) (.one 3 (.q 0 (.q 5 (.q 6 (.nil)))))) (.one 3 (.ld 0 96 (.q 1 (.q 5 (.q 6 (.nil))))))))), []⟩], []⟩
def pm_Device_Store.lc : List Cut := []
def pm_Device_Store.rc : List Cut := []
def pm_Device_Store.wp (d : Option Addr) (word : Int) (v : Int) (h : Heap) (Q : Value → Heap → Prop) : Prop :=
  ∀ (b : Nat),
    h b = none →
      ∀ (b_1 : Nat),
        upd h b (Obj.cells #[Value.pointer d] 27 (0, 0)) b_1 = none →
          ∀ (b_2 : Nat),
            upd (upd h b (Obj.cells #[Value.pointer d] 27 (0, 0))) b_1 (Obj.cells #[Value.int IntKind.i64 word] 3 (0, 0)) b_2 = none →
              ∃ (x : Option Addr),
                (upd (upd (upd h b (Obj.cells #[Value.pointer d] 27 (0, 0))) b_1 (Obj.cells #[Value.int IntKind.i64 word] 3 (0, 0))) b_2 (Obj.cells #[Value.int IntKind.u64 v] 22 (0, 0))).cell b 0 =
                    some (Value.pointer x) ∧
                  (∃ (x_1 : Option Addr),
                      (upd (upd (upd h b (Obj.cells #[Value.pointer d] 27 (0, 0))) b_1 (Obj.cells #[Value.int IntKind.i64 word] 3 (0, 0))) b_2 (Obj.cells #[Value.int IntKind.u64 v] 22 (0, 0))).cell b 0 =
                          some (Value.pointer x_1) ∧
                        (∃ (x_2 : Int),
                            (upd (upd (upd h b (Obj.cells #[Value.pointer d] 27 (0, 0))) b_1 (Obj.cells #[Value.int IntKind.i64 word] 3 (0, 0))) b_2 (Obj.cells #[Value.int IntKind.u64 v] 22 (0, 0))).cell
                                  b_1 0 =
                                some (Value.int IntKind.i64 x_2) ∧
                              C Try.prog 45 #[Value.pointer x]
                                (upd (upd (upd h b (Obj.cells #[Value.pointer d] 27 (0, 0))) b_1 (Obj.cells #[Value.int IntKind.i64 word] 3 (0, 0))) b_2 (Obj.cells #[Value.int IntKind.u64 v] 22 (0, 0)))
                                fun (r : Value) (h' : Heap) =>
                                ∃ (x : Int),
                                  r = Value.int IntKind.i64 x ∧
                                    C Try.prog 44
                                      #[Value.pointer x_1, Value.int IntKind.i64 x_2, Value.int IntKind.i64 x,
                                            Value.func (Fn.func 46) #[]
                                              #[Value.pointer (some { block := b_2, off := 0 }), Value.pointer (some { block := b, off := 0 }), Value.pointer (some { block := b_1, off := 0 })]]
                                      h' fun (r : Value) (h' : Heap) => ∃ (x : Int), r = Value.int IntKind.i64 x ∧ Q (Value.int IntKind.i64 x) h') ∧
                          C Try.prog 45 #[Value.pointer x]
                            (upd (upd (upd h b (Obj.cells #[Value.pointer d] 27 (0, 0))) b_1 (Obj.cells #[Value.int IntKind.i64 word] 3 (0, 0))) b_2 (Obj.cells #[Value.int IntKind.u64 v] 22 (0, 0)))
                            fun (r : Value) (h' : Heap) =>
                            ∃ (x : Int),
                              r = Value.int IntKind.i64 x ∧
                                ∃ (x_2 : Int),
                                  h'.cell b_1 0 = some (Value.int IntKind.i64 x_2) ∧
                                    C Try.prog 44
                                      #[Value.pointer x_1, Value.int IntKind.i64 x_2, Value.int IntKind.i64 x,
                                            Value.func (Fn.func 46) #[]
                                              #[Value.pointer (some { block := b_2, off := 0 }), Value.pointer (some { block := b, off := 0 }), Value.pointer (some { block := b_1, off := 0 })]]
                                      h' fun (r : Value) (h' : Heap) => ∃ (x : Int), r = Value.int IntKind.i64 x ∧ Q (Value.int IntKind.i64 x) h') ∧
                    (∃ (x_1 : Int),
                        (upd (upd (upd h b (Obj.cells #[Value.pointer d] 27 (0, 0))) b_1 (Obj.cells #[Value.int IntKind.i64 word] 3 (0, 0))) b_2 (Obj.cells #[Value.int IntKind.u64 v] 22 (0, 0))).cell b_1
                              0 =
                            some (Value.int IntKind.i64 x_1) ∧
                          (∃ (x_2 : Option Addr),
                              (upd (upd (upd h b (Obj.cells #[Value.pointer d] 27 (0, 0))) b_1 (Obj.cells #[Value.int IntKind.i64 word] 3 (0, 0))) b_2
                                        (Obj.cells #[Value.int IntKind.u64 v] 22 (0, 0))).cell
                                    b 0 =
                                  some (Value.pointer x_2) ∧
                                C Try.prog 45 #[Value.pointer x]
                                  (upd (upd (upd h b (Obj.cells #[Value.pointer d] 27 (0, 0))) b_1 (Obj.cells #[Value.int IntKind.i64 word] 3 (0, 0))) b_2
                                    (Obj.cells #[Value.int IntKind.u64 v] 22 (0, 0)))
                                  fun (r : Value) (h' : Heap) =>
                                  ∃ (x : Int),
                                    r = Value.int IntKind.i64 x ∧
                                      C Try.prog 44
                                        #[Value.pointer x_2, Value.int IntKind.i64 x_1, Value.int IntKind.i64 x,
                                              Value.func (Fn.func 46) #[]
                                                #[Value.pointer (some { block := b_2, off := 0 }), Value.pointer (some { block := b, off := 0 }), Value.pointer (some { block := b_1, off := 0 })]]
                                        h' fun (r : Value) (h' : Heap) => ∃ (x : Int), r = Value.int IntKind.i64 x ∧ Q (Value.int IntKind.i64 x) h') ∧
                            C Try.prog 45 #[Value.pointer x]
                              (upd (upd (upd h b (Obj.cells #[Value.pointer d] 27 (0, 0))) b_1 (Obj.cells #[Value.int IntKind.i64 word] 3 (0, 0))) b_2 (Obj.cells #[Value.int IntKind.u64 v] 22 (0, 0)))
                              fun (r : Value) (h' : Heap) =>
                              ∃ (x : Int),
                                r = Value.int IntKind.i64 x ∧
                                  ∃ (x_2 : Option Addr),
                                    h'.cell b 0 = some (Value.pointer x_2) ∧
                                      C Try.prog 44
                                        #[Value.pointer x_2, Value.int IntKind.i64 x_1, Value.int IntKind.i64 x,
                                              Value.func (Fn.func 46) #[]
                                                #[Value.pointer (some { block := b_2, off := 0 }), Value.pointer (some { block := b, off := 0 }), Value.pointer (some { block := b_1, off := 0 })]]
                                        h' fun (r : Value) (h' : Heap) => ∃ (x : Int), r = Value.int IntKind.i64 x ∧ Q (Value.int IntKind.i64 x) h') ∧
                      C Try.prog 45 #[Value.pointer x]
                        (upd (upd (upd h b (Obj.cells #[Value.pointer d] 27 (0, 0))) b_1 (Obj.cells #[Value.int IntKind.i64 word] 3 (0, 0))) b_2 (Obj.cells #[Value.int IntKind.u64 v] 22 (0, 0)))
                        fun (r : Value) (h' : Heap) =>
                        ∃ (x : Int),
                          r = Value.int IntKind.i64 x ∧
                            ∃ (x_1 : Option Addr),
                              h'.cell b 0 = some (Value.pointer x_1) ∧
                                ∃ (x_2 : Int),
                                  h'.cell b_1 0 = some (Value.int IntKind.i64 x_2) ∧
                                    C Try.prog 44
                                      #[Value.pointer x_1, Value.int IntKind.i64 x_2, Value.int IntKind.i64 x,
                                            Value.func (Fn.func 46) #[]
                                              #[Value.pointer (some { block := b_2, off := 0 }), Value.pointer (some { block := b, off := 0 }), Value.pointer (some { block := b_1, off := 0 })]]
                                      h' fun (r : Value) (h' : Heap) => ∃ (x : Int), r = Value.int IntKind.i64 x ∧ Q (Value.int IntKind.i64 x) h'
theorem pm_Device_Store.ok {d : Option Addr} {word : Int} {v : Int} {h : Heap} {Q : Value → Heap → Prop} (hk : pm_Device_Store.wp d word v h Q) : C Try.prog 14 #[.pointer d, .int .i64 word, .int .u64 v] h Q :=
  C_of_xs (H := pm_Device_Store.H) (lcuts := pm_Device_Store.lc) (rcuts := pm_Device_Store.rc) (l := [.pointer d, .int .i64 word, .int .u64 v]) 2000 mixed Try.func14 rfl (by kernel_rfl) (Eq.mp (by kernel_rfl) hk)

/-! (*gabion/pm.Device).Flush$1 -/
def pm_Device_Flush_1.H : Hn := ⟨[], [], [⟨3, .q 6 (.ld 4 28576 (.q 5 (.q 7 (.ld 0 28430 (.q 1 (.q 2 (.ld 3 28416 (.br 8 (.q 9 (.q 10 (.q 11 (.q 12 (.q 13 (.q 14 (.nil))))))) (.one 12 (.q 8 (.q 9 (.q 10 (.q 11 (.q 13 (.q 14 (.nil)))))))))))))))), [3]⟩, ⟨6, .q 6 (.q 8 (.ld 4 672 (.q 5 (.q 7 (.q 0 (.q 1 (.q 2 (.q 3 (.q 9 (.nil)))))))))), []⟩], []⟩
def pm_Device_Flush_1.lc : List Cut := [⟨1, [0, 1, 5], []⟩]
def pm_Device_Flush_1.rc : List Cut := []
def pm_Device_Flush_1.L1 (t0 : Nat) (t1 : Nat) (t5 : Int) (h : Heap) (Q : Value → Heap → Prop) : Prop :=
  TW Try.prog 47 32 [.code (cAt (bodyOf Try.f47) [1, 0, 0]), .inLoop (cAt (bodyOf Try.f47) [1, 0, 0]), .inBlock 0] ⟨[(0, .v (.pointer (some ⟨t0, 0, none⟩))), (1, .v (.pointer (some ⟨t1, 0, none⟩))), (5, .v (.int .i64 t5))], []⟩ h Q
def pm_Device_Flush_1.wp (t0 : Nat) (t1 : Nat) (h : Heap) (Q : Value → Heap → Prop) : Prop :=
  pm_Device_Flush_1.L1 t0 t1 0 h Q
def pm_Device_Flush_1.L1.wp (t0 : Nat) (t1 : Nat) (t5 : Int) (h : Heap) (Q : Value → Heap → Prop) : Prop :=
  xsIf (decide (t5 < 8))
    (∃ (x : Int),
      h.cell t1 0 = some (Value.int IntKind.i64 x) ∧
        ∃ (x_1 : Option Addr),
          h.cell t0 0 = some (Value.pointer x_1) ∧
            atBase x_1 fun (b o : Nat) =>
              ∃ (x_2 : Option Nat),
                h.cell b (o + 1) = some (Value.map x_2) ∧
                  (atMap x_2 fun (r : Nat) =>
                      ∃ (l : List (Int × Value × Nat)),
                        ∃ (c : Nat),
                          h r = some (mapO (Value.int IntKind.i64) l c) ∧
                            (∀ (j : Nat) (v : Value) (b : Nat),
                                mnth l j = some (IntKind.i64.wrap (IntKind.i64.wrap (x * 8) + t5), v, b) →
                                  ∃ (x : Int),
                                    ∃ (x_3 : Bool),
                                      v = Value.agg #[Value.int IntKind.u64 x, Value.bool x_3] ∧
                                        ∃ (x_4 : Int),
                                          h.cell t1 0 = some (Value.int IntKind.i64 x_4) ∧
                                            ∃ (x_5 : Option Addr),
                                              h.cell t0 0 = some (Value.pointer x_5) ∧
                                                atBase x_5 fun (b o : Nat) =>
                                                  ∃ (x_6 : Option Nat),
                                                    h.cell b (o + 1) = some (Value.map x_6) ∧
                                                      atMap x_6 fun (r : Nat) =>
                                                        ∃ (l : List (Int × Value × Nat)),
                                                          ∃ (c : Nat),
                                                            h r = some (mapO (Value.int IntKind.i64) l c) ∧
                                                              (∀ (j : Nat) (v : Value) (b : Nat),
                                                                  mnth l j = some (IntKind.i64.wrap (IntKind.i64.wrap (x_4 * 8) + t5), v, b) →
                                                                    pm_Device_Flush_1.L1 t0 t1 (IntKind.i64.wrap (t5 + 1))
                                                                      (upd h r (mapO (Value.int IntKind.i64) (mset l j (IntKind.i64.wrap (IntKind.i64.wrap (x_4 * 8) + t5), Value.agg #[Value.int IntKind.u64 x, Value.bool true], b)) c)) Q) ∧
                                                                ((∀ (j : Nat) (v : Value) (b : Nat), ¬mnth l j = some (IntKind.i64.wrap (IntKind.i64.wrap (x_4 * 8) + t5), v, b)) →
                                                                  pm_Device_Flush_1.L1 t0 t1 (IntKind.i64.wrap (t5 + 1))
                                                                    (upd h r (mapO (Value.int IntKind.i64) (madd l (IntKind.i64.wrap (IntKind.i64.wrap (x_4 * 8) + t5), Value.agg #[Value.int IntKind.u64 x, Value.bool true], c)) (c + 1))) Q)) ∧
                              ((∀ (j : Nat) (v : Value) (b : Nat), ¬mnth l j = some (IntKind.i64.wrap (IntKind.i64.wrap (x * 8) + t5), v, b)) → pm_Device_Flush_1.L1 t0 t1 (IntKind.i64.wrap (t5 + 1)) h Q)) ∧
                    atMap x_2 fun (r : Nat) =>
                      ∃ (l : List (Int × Value × Nat)),
                        ∃ (c : Nat),
                          h r = some (mapO (Value.int IntKind.i64) l c) ∧
                            (∀ (j : Nat) (v : Value) (b : Nat),
                                mnth l j = some (IntKind.i64.wrap (IntKind.i64.wrap (x * 8) + t5), v, b) →
                                  ∃ (x : Int),
                                    ∃ (x_3 : Bool),
                                      v = Value.agg #[Value.int IntKind.u64 x, Value.bool x_3] ∧
                                        ∃ (x_4 : Int),
                                          h.cell t1 0 = some (Value.int IntKind.i64 x_4) ∧
                                            ∃ (x_5 : Option Addr),
                                              h.cell t0 0 = some (Value.pointer x_5) ∧
                                                atBase x_5 fun (b o : Nat) =>
                                                  ∃ (x_6 : Option Nat),
                                                    h.cell b (o + 1) = some (Value.map x_6) ∧
                                                      atMap x_6 fun (r : Nat) =>
                                                        ∃ (l : List (Int × Value × Nat)),
                                                          ∃ (c : Nat),
                                                            h r = some (mapO (Value.int IntKind.i64) l c) ∧
                                                              (∀ (j : Nat) (v : Value) (b : Nat),
                                                                  mnth l j = some (IntKind.i64.wrap (IntKind.i64.wrap (x_4 * 8) + t5), v, b) →
                                                                    pm_Device_Flush_1.L1 t0 t1 (IntKind.i64.wrap (t5 + 1))
                                                                      (upd h r (mapO (Value.int IntKind.i64) (mset l j (IntKind.i64.wrap (IntKind.i64.wrap (x_4 * 8) + t5), Value.agg #[Value.int IntKind.u64 x, Value.bool true], b)) c)) Q) ∧
                                                                ((∀ (j : Nat) (v : Value) (b : Nat), ¬mnth l j = some (IntKind.i64.wrap (IntKind.i64.wrap (x_4 * 8) + t5), v, b)) →
                                                                  pm_Device_Flush_1.L1 t0 t1 (IntKind.i64.wrap (t5 + 1))
                                                                    (upd h r (mapO (Value.int IntKind.i64) (madd l (IntKind.i64.wrap (IntKind.i64.wrap (x_4 * 8) + t5), Value.agg #[Value.int IntKind.u64 x, Value.bool true], c)) (c + 1))) Q)) ∧
                              ((∀ (j : Nat) (v : Value) (b : Nat), ¬mnth l j = some (IntKind.i64.wrap (IntKind.i64.wrap (x * 8) + t5), v, b)) → pm_Device_Flush_1.L1 t0 t1 (IntKind.i64.wrap (t5 + 1)) h Q))
    (Q (Value.tuple #[]) h)
theorem pm_Device_Flush_1.ok {t0 : Nat} {t1 : Nat} {h : Heap} {Q : Value → Heap → Prop} (hk : pm_Device_Flush_1.wp t0 t1 h Q) : C Try.prog 47 #[.pointer (some ⟨t0, 0, none⟩), .pointer (some ⟨t1, 0, none⟩)] h Q :=
  C_of_xs (H := pm_Device_Flush_1.H) (lcuts := pm_Device_Flush_1.lc) (rcuts := pm_Device_Flush_1.rc) (l := [.pointer (some ⟨t0, 0, none⟩), .pointer (some ⟨t1, 0, none⟩)]) 2000 mixed Try.func47 rfl (by kernel_rfl) (Eq.mp (by kernel_rfl) hk)
theorem pm_Device_Flush_1.L1.ok {t0 : Nat} {t1 : Nat} {t5 : Int} {h : Heap} {Q : Value → Heap → Prop} (hk : pm_Device_Flush_1.L1.wp t0 t1 t5 h Q) : pm_Device_Flush_1.L1 t0 t1 t5 h Q :=
  xs_ok (H := pm_Device_Flush_1.H) (lcuts := pm_Device_Flush_1.lc) (rcuts := pm_Device_Flush_1.rc) (fn := Try.f47) mixed Try.func47 2000 _ _ _ (Eq.mp (by kernel_rfl) hk)

/-! (*gabion/pm.Device).Flush -/
def pm_Device_Flush.H : Hn := ⟨[2, 3], [], [⟨1, .q 4 (.ld 2 104 (.br 0 (.br 1 (.q 3 (.q 5 (.q 6 (.nil)))) (.one 3 (.q 1 (.q 5 (.q 6 (.nil)))))) (.br 1 (.br 0 (.q 3 (.q 5 (.q 6 (.nil)))) (.one 3 (.q 0 (.q 5 (.q 6 (.nil)))))) (.one 3 (.ld 0 96 (.q 1 (.q 5 (.q 6 (.nil))))))))), []⟩], []⟩
def pm_Device_Flush.lc : List Cut := []
def pm_Device_Flush.rc : List Cut := []
def pm_Device_Flush.wp (d : Option Addr) (line : Int) (h : Heap) (Q : Value → Heap → Prop) : Prop :=
  ∀ (b : Nat),
    h b = none →
      ∀ (b_1 : Nat),
        upd h b (Obj.cells #[Value.pointer d] 27 (0, 0)) b_1 = none →
          ∃ (x : Option Addr),
            (upd (upd h b (Obj.cells #[Value.pointer d] 27 (0, 0))) b_1 (Obj.cells #[Value.int IntKind.i64 line] 3 (0, 0))).cell b 0 = some (Value.pointer x) ∧
              (∃ (x_1 : Option Addr),
                  (upd (upd h b (Obj.cells #[Value.pointer d] 27 (0, 0))) b_1 (Obj.cells #[Value.int IntKind.i64 line] 3 (0, 0))).cell b 0 = some (Value.pointer x_1) ∧
                    (∃ (x_2 : Int),
                        (upd (upd h b (Obj.cells #[Value.pointer d] 27 (0, 0))) b_1 (Obj.cells #[Value.int IntKind.i64 line] 3 (0, 0))).cell b_1 0 = some (Value.int IntKind.i64 x_2) ∧
                          C Try.prog 43 #[Value.pointer x] (upd (upd h b (Obj.cells #[Value.pointer d] 27 (0, 0))) b_1 (Obj.cells #[Value.int IntKind.i64 line] 3 (0, 0))) fun (r : Value) (h' : Heap) =>
                            ∃ (x : Int),
                              r = Value.int IntKind.i64 x ∧
                                C Try.prog 44
                                  #[Value.pointer x_1, Value.int IntKind.i64 x_2, Value.int IntKind.i64 x,
                                        Value.func (Fn.func 47) #[] #[Value.pointer (some { block := b, off := 0 }), Value.pointer (some { block := b_1, off := 0 })]]
                                  h' fun (r : Value) (h' : Heap) => ∃ (x : Int), r = Value.int IntKind.i64 x ∧ Q (Value.int IntKind.i64 x) h') ∧
                      C Try.prog 43 #[Value.pointer x] (upd (upd h b (Obj.cells #[Value.pointer d] 27 (0, 0))) b_1 (Obj.cells #[Value.int IntKind.i64 line] 3 (0, 0))) fun (r : Value) (h' : Heap) =>
                        ∃ (x : Int),
                          r = Value.int IntKind.i64 x ∧
                            ∃ (x_2 : Int),
                              h'.cell b_1 0 = some (Value.int IntKind.i64 x_2) ∧
                                C Try.prog 44
                                  #[Value.pointer x_1, Value.int IntKind.i64 x_2, Value.int IntKind.i64 x,
                                        Value.func (Fn.func 47) #[] #[Value.pointer (some { block := b, off := 0 }), Value.pointer (some { block := b_1, off := 0 })]]
                                  h' fun (r : Value) (h' : Heap) => ∃ (x : Int), r = Value.int IntKind.i64 x ∧ Q (Value.int IntKind.i64 x) h') ∧
                (∃ (x_1 : Int),
                    (upd (upd h b (Obj.cells #[Value.pointer d] 27 (0, 0))) b_1 (Obj.cells #[Value.int IntKind.i64 line] 3 (0, 0))).cell b_1 0 = some (Value.int IntKind.i64 x_1) ∧
                      (∃ (x_2 : Option Addr),
                          (upd (upd h b (Obj.cells #[Value.pointer d] 27 (0, 0))) b_1 (Obj.cells #[Value.int IntKind.i64 line] 3 (0, 0))).cell b 0 = some (Value.pointer x_2) ∧
                            C Try.prog 43 #[Value.pointer x] (upd (upd h b (Obj.cells #[Value.pointer d] 27 (0, 0))) b_1 (Obj.cells #[Value.int IntKind.i64 line] 3 (0, 0))) fun (r : Value) (h' : Heap) =>
                              ∃ (x : Int),
                                r = Value.int IntKind.i64 x ∧
                                  C Try.prog 44
                                    #[Value.pointer x_2, Value.int IntKind.i64 x_1, Value.int IntKind.i64 x,
                                          Value.func (Fn.func 47) #[] #[Value.pointer (some { block := b, off := 0 }), Value.pointer (some { block := b_1, off := 0 })]]
                                    h' fun (r : Value) (h' : Heap) => ∃ (x : Int), r = Value.int IntKind.i64 x ∧ Q (Value.int IntKind.i64 x) h') ∧
                        C Try.prog 43 #[Value.pointer x] (upd (upd h b (Obj.cells #[Value.pointer d] 27 (0, 0))) b_1 (Obj.cells #[Value.int IntKind.i64 line] 3 (0, 0))) fun (r : Value) (h' : Heap) =>
                          ∃ (x : Int),
                            r = Value.int IntKind.i64 x ∧
                              ∃ (x_2 : Option Addr),
                                h'.cell b 0 = some (Value.pointer x_2) ∧
                                  C Try.prog 44
                                    #[Value.pointer x_2, Value.int IntKind.i64 x_1, Value.int IntKind.i64 x,
                                          Value.func (Fn.func 47) #[] #[Value.pointer (some { block := b, off := 0 }), Value.pointer (some { block := b_1, off := 0 })]]
                                    h' fun (r : Value) (h' : Heap) => ∃ (x : Int), r = Value.int IntKind.i64 x ∧ Q (Value.int IntKind.i64 x) h') ∧
                  C Try.prog 43 #[Value.pointer x] (upd (upd h b (Obj.cells #[Value.pointer d] 27 (0, 0))) b_1 (Obj.cells #[Value.int IntKind.i64 line] 3 (0, 0))) fun (r : Value) (h' : Heap) =>
                    ∃ (x : Int),
                      r = Value.int IntKind.i64 x ∧
                        ∃ (x_1 : Option Addr),
                          h'.cell b 0 = some (Value.pointer x_1) ∧
                            ∃ (x_2 : Int),
                              h'.cell b_1 0 = some (Value.int IntKind.i64 x_2) ∧
                                C Try.prog 44
                                  #[Value.pointer x_1, Value.int IntKind.i64 x_2, Value.int IntKind.i64 x,
                                        Value.func (Fn.func 47) #[] #[Value.pointer (some { block := b, off := 0 }), Value.pointer (some { block := b_1, off := 0 })]]
                                  h' fun (r : Value) (h' : Heap) => ∃ (x : Int), r = Value.int IntKind.i64 x ∧ Q (Value.int IntKind.i64 x) h'
theorem pm_Device_Flush.ok {d : Option Addr} {line : Int} {h : Heap} {Q : Value → Heap → Prop} (hk : pm_Device_Flush.wp d line h Q) : C Try.prog 15 #[.pointer d, .int .i64 line] h Q :=
  C_of_xs (H := pm_Device_Flush.H) (lcuts := pm_Device_Flush.lc) (rcuts := pm_Device_Flush.rc) (l := [.pointer d, .int .i64 line]) 2000 mixed Try.func15 rfl (by kernel_rfl) (Eq.mp (by kernel_rfl) hk)

/-! maps.Keys[map[int]gabion/pm.cell,int,gabion/pm.cell] -/
def maps_Keys_map_int_pm_cell_int_pm_cell.H : Hn := ⟨[1], [], [], []⟩
def maps_Keys_map_int_pm_cell_int_pm_cell.lc : List Cut := []
def maps_Keys_map_int_pm_cell_int_pm_cell.rc : List Cut := []
def maps_Keys_map_int_pm_cell_int_pm_cell.wp (m : Option Nat) (h : Heap) (Q : Value → Heap → Prop) : Prop :=
  ∀ (b : Nat), h b = none → Q (Value.func (Fn.func 74) #[] #[Value.pointer (some { block := b, off := 0 })]) (upd h b (Obj.cells #[Value.map m] 86 (0, 0)))
theorem maps_Keys_map_int_pm_cell_int_pm_cell.ok {m : Option Nat} {h : Heap} {Q : Value → Heap → Prop} (hk : maps_Keys_map_int_pm_cell_int_pm_cell.wp m h Q) : C Try.prog 53 #[.map m] h Q :=
  C_of_xs (H := maps_Keys_map_int_pm_cell_int_pm_cell.H) (lcuts := maps_Keys_map_int_pm_cell_int_pm_cell.lc) (rcuts := maps_Keys_map_int_pm_cell_int_pm_cell.rc) (l := [.map m]) 2000 mixed Try.func53 rfl (by kernel_rfl) (Eq.mp (by kernel_rfl) hk)

/-! (*gabion/pm.Device).Pending -/
def pm_Device_Pending.H : Hn := ⟨[], [], [], []⟩
def pm_Device_Pending.lc : List Cut := []
def pm_Device_Pending.rc : List Cut := []
def pm_Device_Pending.wp (d : Option Addr) (h : Heap) (Q : Value → Heap → Prop) : Prop :=
  xsIf d.isNone (Q (Value.slice none 0 0) h)
    (atBase d fun (b o : Nat) =>
      ∃ (x : Option Nat),
        h.cell b (o + 1) = some (Value.map x) ∧
          C Try.prog 53 #[Value.map x] h fun (r : Value) (h' : Heap) =>
            ∃ (x : Value), r = x ∧ C Try.prog 52 #[x] h' fun (r : Value) (h' : Heap) => ∃ (x : Option Addr), ∃ (n : Nat), ∃ (m : Nat), r = Value.slice x n m ∧ Q (Value.slice x n m) h')
theorem pm_Device_Pending.ok {d : Option Addr} {h : Heap} {Q : Value → Heap → Prop} (hk : pm_Device_Pending.wp d h Q) : C Try.prog 17 #[.pointer d] h Q :=
  C_of_xs (H := pm_Device_Pending.H) (lcuts := pm_Device_Pending.lc) (rcuts := pm_Device_Pending.rc) (l := [.pointer d]) 2000 mixed Try.func17 rfl (by kernel_rfl) (Eq.mp (by kernel_rfl) hk)

/-! (*gabion/pm.Device).last -/
def pm_Device_last.H : Hn := ⟨[], [], [⟨6, .q 0 (.q 1 (.q 2 (.q 4 (.q 5 (.q 6 (.q 7 (.q 9 (.ld 8 15360 (.br 3 (.q 10 (.q 11 (.q 12 (.q 13 (.nil))))) (.one 10 (.q 11 (.q 3 (.q 12 (.q 13 (.nil))))))))))))))), []⟩], [(48, 116)]⟩
def pm_Device_last.lc : List Cut := [⟨2, [0, 4, 10, 11, 12], []⟩, ⟨11, [0, 48], []⟩]
def pm_Device_last.rc : List Cut := [⟨7, [0, 4, 6, 7, 10, 11, 12], []⟩]
def pm_Device_last.L2 (d : Option Addr) (worn : Option Nat) (t10 : Option Addr) (t10_n : Nat) (t10_c : Nat) (t11 : Int) (t12 : Int) (h : Heap) (Q : Value → Heap → Prop) : Prop :=
  TW Try.prog 49 62 [.code (cAt (bodyOf Try.f49) [1, 0, 1, 0, 0]), .inLoop (cAt (bodyOf Try.f49) [1, 0, 1, 0, 0]), .inBlock 0, .code (cAt (bodyOf Try.f49) [1, 1])] ⟨[(0, .v (.pointer d)), (4, .v (.map worn)), (10, .v (.slice t10 t10_n t10_c)), (11, .v (.int .i64 t11)), (12, .v (.int .i64 t12))], []⟩ h Q
def pm_Device_last.J7 (d : Option Addr) (worn : Option Nat) (w : Int) (line_7 : Int) (t10 : Option Addr) (t10_n : Nat) (t10_c : Nat) (t11 : Int) (t12 : Int) (h : Heap) (Q : Value → Heap → Prop) : Prop :=
  TW Try.prog 49 62 [.code (cAt (bodyOf Try.f49) [1, 0, 1, 0, 0, 1, 1, 0, 0, 1, 1, 1, 0]), .code (cAt (bodyOf Try.f49) [1, 0, 1, 0, 0, 1, 1, 0, 0, 1, 1, 1, 1]), .inBlock 1, .code (cAt (bodyOf Try.f49) [1, 0, 1, 0, 0, 1, 1, 1]), .inLoop (cAt (bodyOf Try.f49) [1, 0, 1, 0, 0]), .inBlock 0, .code (cAt (bodyOf Try.f49) [1, 1])] ⟨[(0, .v (.pointer d)), (4, .v (.map worn)), (6, .v (.int .i64 w)), (7, .v (.int .i64 line_7)), (10, .v (.slice t10 t10_n t10_c)), (11, .v (.int .i64 t11)), (12, .v (.int .i64 t12))], []⟩ h Q
def pm_Device_last.L11 (d : Option Addr) (t48 : Nat) (h : Heap) (Q : Value → Heap → Prop) : Prop :=
  TW Try.prog 49 62 [.code (cAt (bodyOf Try.f49) [1, 1, 1, 0, 0]), .inLoop (cAt (bodyOf Try.f49) [1, 1, 1, 0, 0]), .inBlock 2] ⟨[(0, .v (.pointer d)), (48, .v (.pointer (some ⟨t48, 0, none⟩)))], []⟩ h Q
def pm_Device_last.wp (d : Option Addr) (words : Option Addr) (words_n : Nat) (words_c : Nat) (h : Heap) (Q : Value → Heap → Prop) : Prop :=
  ∀ (b : Nat), h b = none → pm_Device_last.L2 d (some b) words words_n words_c (↑words_n : Int) 0 (upd h b (Obj.map #[] 0)) Q
def pm_Device_last.L2.wp (d : Option Addr) (worn : Option Nat) (t10 : Option Addr) (t10_n : Nat) (t10_c : Nat) (t11 : Int) (t12 : Int) (h : Heap) (Q : Value → Heap → Prop) : Prop :=
  xsIf (decide (t12 < t11))
    ((0 ≤ t12 ∧ t12 < (↑t10_n : Int)) ∧
      atBase t10 fun (b o : Nat) =>
        ∃ (x : Int),
          h.cell b (o + t12.toNat * 1) = some (Value.int IntKind.i64 x) ∧
            atBase d fun (b o : Nat) =>
              ∃ (x_1 : Option Addr),
                ∃ (n : Nat),
                  ∃ (m : Nat),
                    h.cell b (o + 3) = some (Value.slice x_1 n m) ∧
                      (0 ≤ iquo IntKind.i64 x 8 ∧ iquo IntKind.i64 x 8 < (↑n : Int)) ∧
                        atBase x_1 fun (b o : Nat) =>
                          ∃ (x_2 : Bool),
                            h.cell b (o + (iquo IntKind.i64 x 8).toNat * 1) = some (Value.bool x_2) ∧
                              xsIf (!x_2)
                                (atBase d fun (b o : Nat) =>
                                  atBase d fun (b_1 o_1 : Nat) =>
                                    ∃ (x_3 : Option Nat),
                                      h.cell b_1 (o_1 + 1) = some (Value.map x_3) ∧
                                        (∃ (x_4 : Option Addr),
                                            ∃ (n : Nat),
                                              ∃ (m : Nat),
                                                h.cell b (o + 0) = some (Value.slice x_4 n m) ∧
                                                  atMap x_3 fun (r : Nat) =>
                                                    ∃ (l : List (Int × Value × Nat)),
                                                      ∃ (c : Nat),
                                                        h r = some (mapO (Value.int IntKind.i64) l c) ∧
                                                          (∀ (j : Nat) (v : Value) (b : Nat),
                                                              mnth l j = some (x, v, b) →
                                                                ∃ (x_5 : Int),
                                                                  ∃ (x_6 : Bool),
                                                                    v = Value.agg #[Value.int IntKind.u64 x_5, Value.bool x_6] ∧
                                                                      (0 ≤ x ∧ x < (↑n : Int)) ∧
                                                                        atBase x_4 fun (b o : Nat) =>
                                                                          h.can b (o + x.toNat * 1) 1 ∧ pm_Device_last.J7 d worn x (iquo IntKind.i64 x 8) t10 t10_n t10_c t11 t12 (h.put b (o + x.toNat * 1) [Value.int IntKind.u64 x_5]) Q) ∧
                                                            ((∀ (j : Nat) (v : Value) (b : Nat), ¬mnth l j = some (x, v, b)) →
                                                              (0 ≤ x ∧ x < (↑n : Int)) ∧
                                                                atBase x_4 fun (b o : Nat) =>
                                                                  h.can b (o + x.toNat * 1) 1 ∧ pm_Device_last.J7 d worn x (iquo IntKind.i64 x 8) t10 t10_n t10_c t11 t12 (h.put b (o + x.toNat * 1) [Value.int IntKind.u64 0]) Q)) ∧
                                          atMap x_3 fun (r : Nat) =>
                                            ∃ (l : List (Int × Value × Nat)),
                                              ∃ (c : Nat),
                                                h r = some (mapO (Value.int IntKind.i64) l c) ∧
                                                  (∀ (j : Nat) (v : Value) (b_2 : Nat),
                                                      mnth l j = some (x, v, b_2) →
                                                        ∃ (x_4 : Int),
                                                          ∃ (x_5 : Bool),
                                                            v = Value.agg #[Value.int IntKind.u64 x_4, Value.bool x_5] ∧
                                                              ∃ (x_6 : Option Addr),
                                                                ∃ (n : Nat),
                                                                  ∃ (m : Nat),
                                                                    h.cell b (o + 0) = some (Value.slice x_6 n m) ∧
                                                                      (0 ≤ x ∧ x < (↑n : Int)) ∧
                                                                        atBase x_6 fun (b o : Nat) =>
                                                                          h.can b (o + x.toNat * 1) 1 ∧ pm_Device_last.J7 d worn x (iquo IntKind.i64 x 8) t10 t10_n t10_c t11 t12 (h.put b (o + x.toNat * 1) [Value.int IntKind.u64 x_4]) Q) ∧
                                                    ((∀ (j : Nat) (v : Value) (b : Nat), ¬mnth l j = some (x, v, b)) →
                                                      ∃ (x_4 : Option Addr),
                                                        ∃ (n : Nat),
                                                          ∃ (m : Nat),
                                                            h.cell b (o + 0) = some (Value.slice x_4 n m) ∧
                                                              (0 ≤ x ∧ x < (↑n : Int)) ∧
                                                                atBase x_4 fun (b o : Nat) =>
                                                                  h.can b (o + x.toNat * 1) 1 ∧ pm_Device_last.J7 d worn x (iquo IntKind.i64 x 8) t10 t10_n t10_c t11 t12 (h.put b (o + x.toNat * 1) [Value.int IntKind.u64 0]) Q))
                                (pm_Device_last.J7 d worn x (iquo IntKind.i64 x 8) t10 t10_n t10_c t11 t12 h Q))
    (atMap worn fun (r : Nat) => ∃ (l : List (Int × Value × Nat)), ∃ (c : Nat), h r = some (mapO (Value.int IntKind.i64) l c) ∧ ∀ (b : Nat), h b = none → pm_Device_last.L11 d b (upd h b (iterO r c [] c)) Q)
def pm_Device_last.J7.wp (d : Option Addr) (worn : Option Nat) (w : Int) (line_7 : Int) (t10 : Option Addr) (t10_n : Nat) (t10_c : Nat) (t11 : Int) (t12 : Int) (h : Heap) (Q : Value → Heap → Prop) : Prop :=
  atBase d fun (b o : Nat) =>
    ∃ (x : Option Nat),
      h.cell b (o + 1) = some (Value.map x) ∧
        atMap x fun (r : Nat) =>
          ∃ (l : List (Int × Value × Nat)),
            ∃ (c : Nat),
              h r = some (mapO (Value.int IntKind.i64) l c) ∧
                (∀ (j : Nat) (v : Value) (b : Nat),
                    mnth l j = some (w, v, b) →
                      atMap worn fun (r_1 : Nat) =>
                        ∃ (l_1 : List (Int × Value × Nat)),
                          ∃ (c_1 : Nat),
                            upd h r (mapO (Value.int IntKind.i64) (mdel l j) c) r_1 = some (mapO (Value.int IntKind.i64) l_1 c_1) ∧
                              (∀ (j_1 : Nat) (v : Value) (b : Nat),
                                  mnth l_1 j_1 = some (line_7, v, b) →
                                    pm_Device_last.L2 d worn t10 t10_n t10_c t11 (IntKind.i64.wrap (t12 + 1))
                                      (upd (upd h r (mapO (Value.int IntKind.i64) (mdel l j) c)) r_1 (mapO (Value.int IntKind.i64) (mset l_1 j_1 (line_7, Value.bool true, b)) c_1)) Q) ∧
                                ((∀ (j : Nat) (v : Value) (b : Nat), ¬mnth l_1 j = some (line_7, v, b)) →
                                  pm_Device_last.L2 d worn t10 t10_n t10_c t11 (IntKind.i64.wrap (t12 + 1))
                                    (upd (upd h r (mapO (Value.int IntKind.i64) (mdel l j) c)) r_1 (mapO (Value.int IntKind.i64) (madd l_1 (line_7, Value.bool true, c_1)) (c_1 + 1))) Q)) ∧
                  ((∀ (j : Nat) (v : Value) (b : Nat), ¬mnth l j = some (w, v, b)) →
                    atMap worn fun (r_1 : Nat) =>
                      ∃ (l_1 : List (Int × Value × Nat)),
                        ∃ (c_1 : Nat),
                          upd h r (mapO (Value.int IntKind.i64) l c) r_1 = some (mapO (Value.int IntKind.i64) l_1 c_1) ∧
                            (∀ (j : Nat) (v : Value) (b : Nat),
                                mnth l_1 j = some (line_7, v, b) →
                                  pm_Device_last.L2 d worn t10 t10_n t10_c t11 (IntKind.i64.wrap (t12 + 1)) (upd (upd h r (mapO (Value.int IntKind.i64) l c)) r_1 (mapO (Value.int IntKind.i64) (mset l_1 j (line_7, Value.bool true, b)) c_1))
                                    Q) ∧
                              ((∀ (j : Nat) (v : Value) (b : Nat), ¬mnth l_1 j = some (line_7, v, b)) →
                                pm_Device_last.L2 d worn t10 t10_n t10_c t11 (IntKind.i64.wrap (t12 + 1))
                                  (upd (upd h r (mapO (Value.int IntKind.i64) l c)) r_1 (mapO (Value.int IntKind.i64) (madd l_1 (line_7, Value.bool true, c_1)) (c_1 + 1))) Q))
def pm_Device_last.L11.wp (d : Option Addr) (t48 : Nat) (h : Heap) (Q : Value → Heap → Prop) : Prop :=
  atBase (some { block := t48, off := 0 }) fun (b o : Nat) =>
    o = 0 ∧
      ∃ (r : Nat),
        ∃ (since : Nat),
          ∃ (c0 : Nat),
            ∃ (seen : List Nat),
              h b = some (iterO r since seen c0) ∧
                ∃ (l : List (Int × Value × Nat)),
                  ∃ (c : Nat),
                    h r = some (mapO (Value.int IntKind.i64) l c) ∧
                      (∀ (j : Nat) (n : Int) (v : Value) (b' : Nat), mnth l j = some (n, v, b') → b' < since) ∧
                        since ≤ c0 ∧
                          (∀ (j : Nat) (n : Int) (v : Value) (b' : Nat),
                              mnth l j = some (n, v, b') →
                                List.elem b' seen = false →
                                  ∃ (x : Bool),
                                    v = Value.bool x ∧
                                      atBase (some { block := t48, off := 0 }) fun (b_1 o : Nat) =>
                                        o = 0 ∧
                                          ∃ (r_1 : Nat),
                                            ∃ (since_1 : Nat),
                                              ∃ (c_1 : Nat),
                                                ∃ (seen_1 : List Nat),
                                                  ∃ (l : List (Int × Value × Nat)),
                                                    ∃ (j : Nat),
                                                      ∃ (n : Int),
                                                        ∃ (v : Value),
                                                          ∃ (b'_1 : Nat),
                                                            upd h b (iterO r since (snoc seen b') c) b_1 = some (iterO r_1 since_1 (snoc seen_1 b'_1) c_1) ∧
                                                              upd h b (iterO r since (snoc seen b') c) r_1 = some (mapO (Value.int IntKind.i64) l c_1) ∧
                                                                mnth l j = some (n, v, b'_1) ∧
                                                                  (∀ (i : Nat) (n2 : Int) (v2 : Value), mnth l i = some (n2, v2, b'_1) → i = j) ∧
                                                                    ∃ (x : Bool),
                                                                      v = Value.bool x ∧
                                                                        atBase d fun (b_2 o : Nat) =>
                                                                          ∃ (x : Option Addr),
                                                                            ∃ (n_1 : Nat),
                                                                              ∃ (m : Nat),
                                                                                (upd h b (iterO r since (snoc seen b') c)).cell b_2 (o + 2) = some (Value.slice x n_1 m) ∧
                                                                                  (0 ≤ n ∧ n < (↑n_1 : Int)) ∧
                                                                                    atBase x fun (b_3 o : Nat) =>
                                                                                      ∃ (x_1 : Int),
                                                                                        (upd h b (iterO r since (snoc seen b') c)).cell b_3 (o + n.toNat * 1) = some (Value.int IntKind.i64 x_1) ∧
                                                                                          (0 ≤ n ∧ n < (↑n_1 : Int)) ∧
                                                                                            atBase x fun (b_4 o : Nat) =>
                                                                                              (upd h b (iterO r since (snoc seen b') c)).can b_4 (o + n.toNat * 1) 1 ∧
                                                                                                pm_Device_last.L11 d t48
                                                                                                  ((upd h b (iterO r since (snoc seen b') c)).put b_4 (o + n.toNat * 1) [Value.int IntKind.i64 (IntKind.i64.wrap (x_1 + 1))]) Q) ∧
                            ((∀ (j : Nat) (n : Int) (v : Value) (b' : Nat), mnth l j = some (n, v, b') → List.elem b' seen = true) → Q (Value.tuple #[]) h)
theorem pm_Device_last.ok {d : Option Addr} {words : Option Addr} {words_n : Nat} {words_c : Nat} {h : Heap} {Q : Value → Heap → Prop} (hk : pm_Device_last.wp d words words_n words_c h Q) : C Try.prog 49 #[.pointer d, .slice words words_n words_c] h Q :=
  C_of_xs (H := pm_Device_last.H) (lcuts := pm_Device_last.lc) (rcuts := pm_Device_last.rc) (l := [.pointer d, .slice words words_n words_c]) 2000 mixed Try.func49 rfl (by kernel_rfl) (Eq.mp (by kernel_rfl) hk)
theorem pm_Device_last.L2.ok {d : Option Addr} {worn : Option Nat} {t10 : Option Addr} {t10_n : Nat} {t10_c : Nat} {t11 : Int} {t12 : Int} {h : Heap} {Q : Value → Heap → Prop} (hk : pm_Device_last.L2.wp d worn t10 t10_n t10_c t11 t12 h Q) : pm_Device_last.L2 d worn t10 t10_n t10_c t11 t12 h Q :=
  xs_ok (H := pm_Device_last.H) (lcuts := pm_Device_last.lc) (rcuts := pm_Device_last.rc) (fn := Try.f49) mixed Try.func49 2000 _ _ _ (Eq.mp (by kernel_rfl) hk)
theorem pm_Device_last.J7.ok {d : Option Addr} {worn : Option Nat} {w : Int} {line_7 : Int} {t10 : Option Addr} {t10_n : Nat} {t10_c : Nat} {t11 : Int} {t12 : Int} {h : Heap} {Q : Value → Heap → Prop} (hk : pm_Device_last.J7.wp d worn w line_7 t10 t10_n t10_c t11 t12 h Q) : pm_Device_last.J7 d worn w line_7 t10 t10_n t10_c t11 t12 h Q :=
  xs_ok (H := pm_Device_last.H) (lcuts := pm_Device_last.lc) (rcuts := []) (fn := Try.f49) mixed Try.func49 2000 _ _ _ (Eq.mp (by kernel_rfl) hk)
theorem pm_Device_last.L11.ok {d : Option Addr} {t48 : Nat} {h : Heap} {Q : Value → Heap → Prop} (hk : pm_Device_last.L11.wp d t48 h Q) : pm_Device_last.L11 d t48 h Q :=
  xs_ok (H := pm_Device_last.H) (lcuts := pm_Device_last.lc) (rcuts := pm_Device_last.rc) (fn := Try.f49) mixed Try.func49 2000 _ _ _ (Eq.mp (by kernel_rfl) hk)

/-! (*gabion/pm.Device).Boot -/
def pm_Device_Boot.H : Hn := ⟨[], [], [], []⟩
def pm_Device_Boot.lc : List Cut := [⟨3, [0, 1, 4, 10, 11, 12], []⟩]
def pm_Device_Boot.rc : List Cut := [⟨7, [0, 1, 4, 10, 11, 12], []⟩]
def pm_Device_Boot.L3 (d : Option Addr) (keep : Option Addr) (keep_n : Nat) (keep_c : Nat) (kept : Option Addr) (kept_n : Nat) (kept_c : Nat) (t10 : Option Addr) (t10_n : Nat) (t10_c : Nat) (t11 : Int) (t12 : Int) (h : Heap) (Q : Value → Heap → Prop) : Prop :=
  TW Try.prog 18 45 [.code (cAt (bodyOf Try.f18) [1, 1, 0, 1, 0, 0]), .inLoop (cAt (bodyOf Try.f18) [1, 1, 0, 1, 0, 0]), .inBlock 0, .code (cAt (bodyOf Try.f18) [1, 1, 1])] ⟨[(0, .v (.pointer d)), (1, .v (.slice keep keep_n keep_c)), (4, .v (.slice kept kept_n kept_c)), (10, .v (.slice t10 t10_n t10_c)), (11, .v (.int .i64 t11)), (12, .v (.int .i64 t12))], []⟩ h Q
def pm_Device_Boot.J7 (d : Option Addr) (keep : Option Addr) (keep_n : Nat) (keep_c : Nat) (kept : Option Addr) (kept_n : Nat) (kept_c : Nat) (t10 : Option Addr) (t10_n : Nat) (t10_c : Nat) (t11 : Int) (t12 : Int) (h : Heap) (Q : Value → Heap → Prop) : Prop :=
  TW Try.prog 18 45 [.code (cAt (bodyOf Try.f18) [1, 1, 0, 1, 0, 0, 1, 1, 1]), .inLoop (cAt (bodyOf Try.f18) [1, 1, 0, 1, 0, 0]), .inBlock 0, .code (cAt (bodyOf Try.f18) [1, 1, 1])] ⟨[(0, .v (.pointer d)), (1, .v (.slice keep keep_n keep_c)), (4, .v (.slice kept kept_n kept_c)), (10, .v (.slice t10 t10_n t10_c)), (11, .v (.int .i64 t11)), (12, .v (.int .i64 t12))], []⟩ h Q
def pm_Device_Boot.wp (d : Option Addr) (keep : Option Addr) (keep_n : Nat) (keep_c : Nat) (h : Heap) (Q : Value → Heap → Prop) : Prop :=
  xsIf d.isNone (Q (Value.tuple #[]) h)
    (C Try.prog 17 #[Value.pointer d] h fun (r : Value) (h' : Heap) => ∃ (x : Option Addr), ∃ (n : Nat), ∃ (m : Nat), r = Value.slice x n m ∧ pm_Device_Boot.L3 d keep keep_n keep_c none 0 0 x n m (↑n : Int) 0 h' Q)
def pm_Device_Boot.L3.wp (d : Option Addr) (keep : Option Addr) (keep_n : Nat) (keep_c : Nat) (kept : Option Addr) (kept_n : Nat) (kept_c : Nat) (t10 : Option Addr) (t10_n : Nat) (t10_c : Nat) (t11 : Int) (t12 : Int) (h : Heap) (Q : Value → Heap → Prop) : Prop :=
  xsIf (decide (t12 < t11))
    ((0 ≤ t12 ∧ t12 < (↑t10_n : Int)) ∧
      atBase t10 fun (b o : Nat) =>
        ∃ (x : Int),
          h.cell b (o + t12.toNat * 1) = some (Value.int IntKind.i64 x) ∧
            xsIf (decide (t12 < (↑keep_n : Int)))
              ((0 ≤ t12 ∧ t12 < (↑keep_n : Int)) ∧
                atBase keep fun (b o : Nat) =>
                  ∃ (x_1 : Bool),
                    h.cell b (o + t12.toNat * 1) = some (Value.bool x_1) ∧
                      xsIf x_1
                        (∀ (b : Nat),
                          h b = none →
                            xsApp Try.prog 3 (upd h b (Obj.cells #[Value.int IntKind.i64 x] 3 (0, 0))) kept kept_n kept_c (some { block := b, off := 0 }) 1 fun (a' : Option Addr) (n' c' : Nat) (h' : Heap) =>
                              pm_Device_Boot.J7 d keep keep_n keep_c a' n' c' t10 t10_n t10_c t11 t12 h' Q)
                        (pm_Device_Boot.J7 d keep keep_n keep_c kept kept_n kept_c t10 t10_n t10_c t11 t12 h Q))
              (pm_Device_Boot.J7 d keep keep_n keep_c kept kept_n kept_c t10 t10_n t10_c t11 t12 h Q))
    (C Try.prog 49 #[Value.pointer d, Value.slice kept kept_n kept_c] h fun (r : Value) (h' : Heap) =>
      atBase d fun (b o : Nat) =>
        ∃ (x : Option Nat),
          h'.cell b (o + 1) = some (Value.map x) ∧
            atMap x fun (r : Nat) =>
              ∃ (l : List (Int × Value × Nat)),
                ∃ (c : Nat),
                  h' r = some (mapO (Value.int IntKind.i64) l c) ∧
                    atBase d fun (b o : Nat) =>
                      (upd h' r (mapO (Value.int IntKind.i64) [] c)).can b (o + 5) 1 ∧
                        atBase d fun (b_1 o_1 : Nat) =>
                          ((upd h' r (mapO (Value.int IntKind.i64) [] c)).put b (o + 5) [Value.bool false]).can b_1 (o_1 + 4) 1 ∧
                            Q (Value.tuple #[]) (((upd h' r (mapO (Value.int IntKind.i64) [] c)).put b (o + 5) [Value.bool false]).put b_1 (o_1 + 4) [Value.int IntKind.i64 0]))
def pm_Device_Boot.J7.wp (d : Option Addr) (keep : Option Addr) (keep_n : Nat) (keep_c : Nat) (kept : Option Addr) (kept_n : Nat) (kept_c : Nat) (t10 : Option Addr) (t10_n : Nat) (t10_c : Nat) (t11 : Int) (t12 : Int) (h : Heap) (Q : Value → Heap → Prop) : Prop :=
  pm_Device_Boot.L3 d keep keep_n keep_c kept kept_n kept_c t10 t10_n t10_c t11 (IntKind.i64.wrap (t12 + 1)) h Q
theorem pm_Device_Boot.ok {d : Option Addr} {keep : Option Addr} {keep_n : Nat} {keep_c : Nat} {h : Heap} {Q : Value → Heap → Prop} (hk : pm_Device_Boot.wp d keep keep_n keep_c h Q) : C Try.prog 18 #[.pointer d, .slice keep keep_n keep_c] h Q :=
  C_of_xs (H := pm_Device_Boot.H) (lcuts := pm_Device_Boot.lc) (rcuts := pm_Device_Boot.rc) (l := [.pointer d, .slice keep keep_n keep_c]) 2000 mixed Try.func18 rfl (by kernel_rfl) (Eq.mp (by kernel_rfl) hk)
theorem pm_Device_Boot.L3.ok {d : Option Addr} {keep : Option Addr} {keep_n : Nat} {keep_c : Nat} {kept : Option Addr} {kept_n : Nat} {kept_c : Nat} {t10 : Option Addr} {t10_n : Nat} {t10_c : Nat} {t11 : Int} {t12 : Int} {h : Heap} {Q : Value → Heap → Prop} (hk : pm_Device_Boot.L3.wp d keep keep_n keep_c kept kept_n kept_c t10 t10_n t10_c t11 t12 h Q) : pm_Device_Boot.L3 d keep keep_n keep_c kept kept_n kept_c t10 t10_n t10_c t11 t12 h Q :=
  xs_ok (H := pm_Device_Boot.H) (lcuts := pm_Device_Boot.lc) (rcuts := pm_Device_Boot.rc) (fn := Try.f18) mixed Try.func18 2000 _ _ _ (Eq.mp (by kernel_rfl) hk)
theorem pm_Device_Boot.J7.ok {d : Option Addr} {keep : Option Addr} {keep_n : Nat} {keep_c : Nat} {kept : Option Addr} {kept_n : Nat} {kept_c : Nat} {t10 : Option Addr} {t10_n : Nat} {t10_c : Nat} {t11 : Int} {t12 : Int} {h : Heap} {Q : Value → Heap → Prop} (hk : pm_Device_Boot.J7.wp d keep keep_n keep_c kept kept_n kept_c t10 t10_n t10_c t11 t12 h Q) : pm_Device_Boot.J7 d keep keep_n keep_c kept kept_n kept_c t10 t10_n t10_c t11 t12 h Q :=
  xs_ok (H := pm_Device_Boot.H) (lcuts := pm_Device_Boot.lc) (rcuts := []) (fn := Try.f18) mixed Try.func18 2000 _ _ _ (Eq.mp (by kernel_rfl) hk)

/-! (*gabion/pm.Device).Load -/
def pm_Device_Load.H : Hn := ⟨[], [], [], []⟩
def pm_Device_Load.lc : List Cut := []
def pm_Device_Load.rc : List Cut := []
def pm_Device_Load.wp (d : Option Addr) (word : Int) (h : Heap) (Q : Value → Heap → Prop) : Prop :=
  C Try.prog 45 #[Value.pointer d] h fun (r : Value) (h' : Heap) =>
    ∃ (x : Int),
      r = Value.int IntKind.i64 x ∧
        C Try.prog 54 #[Value.pointer d, Value.int IntKind.i64 word, Value.int IntKind.i64 x] h' fun (r : Value) (h' : Heap) =>
          ∃ (x : Int),
            r = Value.int IntKind.i64 x ∧
              xsIf (decide (x ≠ 0)) (Q (Value.tuple #[Value.int IntKind.u64 0, Value.int IntKind.i64 x]) h')
                (atBase d fun (b o : Nat) =>
                  ∃ (x : Option Nat),
                    h'.cell b (o + 1) = some (Value.map x) ∧
                      atMap x fun (r : Nat) =>
                        ∃ (l : List (Int × Value × Nat)),
                          ∃ (c : Nat),
                            h' r = some (mapO (Value.int IntKind.i64) l c) ∧
                              (∀ (j : Nat) (v : Value) (b : Nat),
                                  mnth l j = some (word, v, b) →
                                    ∃ (x : Int), ∃ (x_1 : Bool), v = Value.agg #[Value.int IntKind.u64 x, Value.bool x_1] ∧ Q (Value.tuple #[Value.int IntKind.u64 x, Value.int IntKind.i64 0]) h') ∧
                                ((∀ (j : Nat) (v : Value) (b : Nat), ¬mnth l j = some (word, v, b)) →
                                  atBase d fun (b o : Nat) =>
                                    ∃ (x : Option Addr),
                                      ∃ (n : Nat),
                                        ∃ (m : Nat),
                                          h'.cell b (o + 0) = some (Value.slice x n m) ∧
                                            (0 ≤ word ∧ word < (↑n : Int)) ∧
                                              atBase x fun (b o : Nat) => ∃ (x : Int), h'.cell b (o + word.toNat * 1) = some (Value.int IntKind.u64 x) ∧ Q (Value.tuple #[Value.int IntKind.u64 x, Value.int IntKind.i64 0]) h'))
theorem pm_Device_Load.ok {d : Option Addr} {word : Int} {h : Heap} {Q : Value → Heap → Prop} (hk : pm_Device_Load.wp d word h Q) : C Try.prog 19 #[.pointer d, .int .i64 word] h Q :=
  C_of_xs (H := pm_Device_Load.H) (lcuts := pm_Device_Load.lc) (rcuts := pm_Device_Load.rc) (l := [.pointer d, .int .i64 word]) 2000 mixed Try.func19 rfl (by kernel_rfl) (Eq.mp (by kernel_rfl) hk)

/-! (*gabion/pm.Device).Fence$1$1 -/
def pm_Device_Fence_1_1.H : Hn := ⟨[], [], [], []⟩
def pm_Device_Fence_1_1.lc : List Cut := []
def pm_Device_Fence_1_1.rc : List Cut := []
def pm_Device_Fence_1_1.wp (w : Int) (t1 : Nat) (h : Heap) (Q : Value → Heap → Prop) : Prop :=
  ∃ (x : Option Addr),
    h.cell t1 0 = some (Value.pointer x) ∧
      atBase x fun (b o : Nat) =>
        ∃ (x : Option Nat),
          h.cell b (o + 1) = some (Value.map x) ∧
            atMap x fun (r : Nat) =>
              ∃ (l : List (Int × Value × Nat)),
                ∃ (c : Nat),
                  h r = some (mapO (Value.int IntKind.i64) l c) ∧
                    (∀ (j : Nat) (v : Value) (b : Nat), mnth l j = some (w, v, b) → ∃ (x : Int), ∃ (x_1 : Bool), v = Value.agg #[Value.int IntKind.u64 x, Value.bool x_1] ∧ Q (Value.bool !x_1) h) ∧
                      ((∀ (j : Nat) (v : Value) (b : Nat), ¬mnth l j = some (w, v, b)) → Q (Value.bool true) h)
theorem pm_Device_Fence_1_1.ok {w : Int} {t1 : Nat} {h : Heap} {Q : Value → Heap → Prop} (hk : pm_Device_Fence_1_1.wp w t1 h Q) : C Try.prog 51 #[.int .i64 w, .pointer (some ⟨t1, 0, none⟩)] h Q :=
  C_of_xs (H := pm_Device_Fence_1_1.H) (lcuts := pm_Device_Fence_1_1.lc) (rcuts := pm_Device_Fence_1_1.rc) (l := [.int .i64 w, .pointer (some ⟨t1, 0, none⟩)]) 2000 mixed Try.func51 rfl (by kernel_rfl) (Eq.mp (by kernel_rfl) hk)

/-! slices.IndexFunc[[]int,int] -/
def slices_IndexFunc_int_int.H : Hn := ⟨[], [], [], []⟩
def slices_IndexFunc_int_int.lc : List Cut := [⟨2, [0, 1, 7, 8], []⟩]
def slices_IndexFunc_int_int.rc : List Cut := []
def slices_IndexFunc_int_int.L2 (s : Option Addr) (s_n : Nat) (s_c : Nat) (f : Nat) (f_a : Array Value) (f_c : Array Value) (t7 : Int) (t8 : Int) (h : Heap) (Q : Value → Heap → Prop) : Prop :=
  TW Try.prog 71 19 [.code (cAt (bodyOf Try.f71) [1, 0, 1, 0, 0]), .inLoop (cAt (bodyOf Try.f71) [1, 0, 1, 0, 0]), .inBlock 0, .code (cAt (bodyOf Try.f71) [1, 1])] ⟨[(0, .v (.slice s s_n s_c)), (1, .v (.func (.func f) f_a f_c)), (7, .v (.int .i64 t7)), (8, .v (.int .i64 t8))], []⟩ h Q
def slices_IndexFunc_int_int.wp (s : Option Addr) (s_n : Nat) (s_c : Nat) (f : Nat) (f_a : Array Value) (f_c : Array Value) (h : Heap) (Q : Value → Heap → Prop) : Prop :=
  slices_IndexFunc_int_int.L2 s s_n s_c f f_a f_c (↑s_n : Int) 0 h Q
def slices_IndexFunc_int_int.L2.wp (s : Option Addr) (s_n : Nat) (s_c : Nat) (f : Nat) (f_a : Array Value) (f_c : Array Value) (t7 : Int) (t8 : Int) (h : Heap) (Q : Value → Heap → Prop) : Prop :=
  xsIf (decide (t8 < t7))
    ((0 ≤ t8 ∧ t8 < (↑s_n : Int)) ∧
      atBase s fun (b o : Nat) =>
        ∃ (x : Int),
          h.cell b (o + t8.toNat * 1) = some (Value.int IntKind.i64 x) ∧
            xsIf (goOk Try.prog f)
              (C Try.prog f (List.toArray (f_a.toList ++ [Value.int IntKind.i64 x] ++ f_c.toList)) h fun (r : Value) (h' : Heap) =>
                ∃ (x : Bool), r = Value.bool x ∧ xsIf x (Q (Value.int IntKind.i64 t8) h') (slices_IndexFunc_int_int.L2 s s_n s_c f f_a f_c t7 (IntKind.i64.wrap (t8 + 1)) h' Q))
              False)
    (Q (Value.int IntKind.i64 (-1)) h)
theorem slices_IndexFunc_int_int.ok {s : Option Addr} {s_n : Nat} {s_c : Nat} {f : Nat} {f_a : Array Value} {f_c : Array Value} {h : Heap} {Q : Value → Heap → Prop} (hk : slices_IndexFunc_int_int.wp s s_n s_c f f_a f_c h Q) : C Try.prog 71 #[.slice s s_n s_c, .func (.func f) f_a f_c] h Q :=
  C_of_xs (H := slices_IndexFunc_int_int.H) (lcuts := slices_IndexFunc_int_int.lc) (rcuts := slices_IndexFunc_int_int.rc) (l := [.slice s s_n s_c, .func (.func f) f_a f_c]) 2000 mixed Try.func71 rfl (by kernel_rfl) (Eq.mp (by kernel_rfl) hk)
theorem slices_IndexFunc_int_int.L2.ok {s : Option Addr} {s_n : Nat} {s_c : Nat} {f : Nat} {f_a : Array Value} {f_c : Array Value} {t7 : Int} {t8 : Int} {h : Heap} {Q : Value → Heap → Prop} (hk : slices_IndexFunc_int_int.L2.wp s s_n s_c f f_a f_c t7 t8 h Q) : slices_IndexFunc_int_int.L2 s s_n s_c f f_a f_c t7 t8 h Q :=
  xs_ok (H := slices_IndexFunc_int_int.H) (lcuts := slices_IndexFunc_int_int.lc) (rcuts := slices_IndexFunc_int_int.rc) (fn := Try.f71) mixed Try.func71 2000 _ _ _ (Eq.mp (by kernel_rfl) hk)

/-! slices.DeleteFunc[[]int,int] -/
def slices_DeleteFunc_int_int.H : Hn := ⟨[], [], [], []⟩
def slices_DeleteFunc_int_int.lc : List Cut := [⟨5, [0, 1, 5, 6], []⟩]
def slices_DeleteFunc_int_int.rc : List Cut := []
def slices_DeleteFunc_int_int.L5 (s : Option Addr) (s_n : Nat) (s_c : Nat) (del : Nat) (del_a : Array Value) (del_c : Array Value) (i : Int) (j : Int) (h : Heap) (Q : Value → Heap → Prop) : Prop :=
  TW Try.prog 50 42 [.code (cAt (bodyOf Try.f50) [1, 1, 1, 0, 1, 0, 0]), .inLoop (cAt (bodyOf Try.f50) [1, 1, 1, 0, 1, 0, 0]), .inBlock 0, .code (cAt (bodyOf Try.f50) [1, 1, 1, 1])] ⟨[(0, .v (.slice s s_n s_c)), (1, .v (.func (.func del) del_a del_c)), (5, .v (.int .i64 i)), (6, .v (.int .i64 j))], []⟩ h Q
def slices_DeleteFunc_int_int.wp (s : Option Addr) (s_n : Nat) (s_c : Nat) (del : Nat) (del_a : Array Value) (del_c : Array Value) (h : Heap) (Q : Value → Heap → Prop) : Prop :=
  C Try.prog 71 #[Value.slice s s_n s_c, Value.func (Fn.func del) del_a del_c] h fun (r : Value) (h' : Heap) =>
    ∃ (x : Int), r = Value.int IntKind.i64 x ∧ xsIf (decide (x = -1)) (Q (Value.slice s s_n s_c) h') (slices_DeleteFunc_int_int.L5 s s_n s_c del del_a del_c x (IntKind.i64.wrap (x + 1)) h' Q)
def slices_DeleteFunc_int_int.L5.wp (s : Option Addr) (s_n : Nat) (s_c : Nat) (del : Nat) (del_a : Array Value) (del_c : Array Value) (i : Int) (j : Int) (h : Heap) (Q : Value → Heap → Prop) : Prop :=
  xsIf (decide (j < (↑s_n : Int)))
    ((0 ≤ j ∧ j < (↑s_n : Int)) ∧
      atBase s fun (b o : Nat) =>
        ∃ (x : Int),
          h.cell b (o + j.toNat * 1) = some (Value.int IntKind.i64 x) ∧
            xsIf (goOk Try.prog del)
              (C Try.prog del (List.toArray (del_a.toList ++ [Value.int IntKind.i64 x] ++ del_c.toList)) h fun (r : Value) (h' : Heap) =>
                ∃ (x_1 : Bool),
                  r = Value.bool x_1 ∧
                    xsIf (!x_1)
                      ((0 ≤ i ∧ i < (↑s_n : Int)) ∧
                        atBase s fun (b o : Nat) =>
                          h'.can b (o + i.toNat * 1) 1 ∧ slices_DeleteFunc_int_int.L5 s s_n s_c del del_a del_c (IntKind.i64.wrap (i + 1)) (IntKind.i64.wrap (j + 1)) (h'.put b (o + i.toNat * 1) [Value.int IntKind.i64 x]) Q)
                      (slices_DeleteFunc_int_int.L5 s s_n s_c del del_a del_c i (IntKind.i64.wrap (j + 1)) h' Q))
              False)
    ((0 ≤ i ∧ i ≤ (↑s_n : Int)) ∧
      (((↑s_n : Int) - i).toNat = 0 → (0 ≤ i ∧ i ≤ (↑s_c : Int)) ∧ Q (Value.slice (slBase s (↑s_c : Int) 0 1) (i - 0).toNat ((↑s_c : Int) - 0).toNat) h) ∧
        (0 < ((↑s_n : Int) - i).toNat →
          atBase (slBase s (↑s_c : Int) i 1) fun (b o : Nat) =>
            h.can b o (((↑s_n : Int) - i).toNat * 1) ∧ (0 ≤ i ∧ i ≤ (↑s_c : Int)) ∧ Q (Value.slice (slBase s (↑s_c : Int) 0 1) (i - 0).toNat ((↑s_c : Int) - 0).toNat) (h.put b o (zeros Try.prog 3 ((↑s_n : Int) - i).toNat))))
theorem slices_DeleteFunc_int_int.ok {s : Option Addr} {s_n : Nat} {s_c : Nat} {del : Nat} {del_a : Array Value} {del_c : Array Value} {h : Heap} {Q : Value → Heap → Prop} (hk : slices_DeleteFunc_int_int.wp s s_n s_c del del_a del_c h Q) : C Try.prog 50 #[.slice s s_n s_c, .func (.func del) del_a del_c] h Q :=
  C_of_xs (H := slices_DeleteFunc_int_int.H) (lcuts := slices_DeleteFunc_int_int.lc) (rcuts := slices_DeleteFunc_int_int.rc) (l := [.slice s s_n s_c, .func (.func del) del_a del_c]) 2000 mixed Try.func50 rfl (by kernel_rfl) (Eq.mp (by kernel_rfl) hk)
theorem slices_DeleteFunc_int_int.L5.ok {s : Option Addr} {s_n : Nat} {s_c : Nat} {del : Nat} {del_a : Array Value} {del_c : Array Value} {i : Int} {j : Int} {h : Heap} {Q : Value → Heap → Prop} (hk : slices_DeleteFunc_int_int.L5.wp s s_n s_c del del_a del_c i j h Q) : slices_DeleteFunc_int_int.L5 s s_n s_c del del_a del_c i j h Q :=
  xs_ok (H := slices_DeleteFunc_int_int.H) (lcuts := slices_DeleteFunc_int_int.lc) (rcuts := slices_DeleteFunc_int_int.rc) (fn := Try.f50) mixed Try.func50 2000 _ _ _ (Eq.mp (by kernel_rfl) hk)

/-! (*gabion/pm.Device).Fence$1 -/
def pm_Device_Fence_1.H : Hn := ⟨[], [], [⟨0, .q 3 (.ld 1 52 (.br 0 (.q 2 (.q 4 (.q 5 (.nil)))) (.one 2 (.br 0 (.q 4 (.q 5 (.nil))) (.one 4 (.q 0 (.q 5 (.nil)))))))), []⟩], []⟩
def pm_Device_Fence_1.lc : List Cut := []
def pm_Device_Fence_1.rc : List Cut := []
def pm_Device_Fence_1.wp (t0 : Nat) (h : Heap) (Q : Value → Heap → Prop) : Prop :=
  ∃ (x : Option Addr),
    h.cell t0 0 = some (Value.pointer x) ∧
      (∃ (x_1 : Option Addr),
          h.cell t0 0 = some (Value.pointer x_1) ∧
            C Try.prog 17 #[Value.pointer x] h fun (r : Value) (h' : Heap) =>
              ∃ (x : Option Addr),
                ∃ (n : Nat),
                  ∃ (m : Nat),
                    r = Value.slice x n m ∧
                      C Try.prog 50 #[Value.slice x n m, Value.func (Fn.func 51) #[] #[Value.pointer (some { block := t0, off := 0 })]] h' fun (r : Value) (h' : Heap) =>
                        ∃ (x : Option Addr), ∃ (n : Nat), ∃ (m : Nat), r = Value.slice x n m ∧ C Try.prog 49 #[Value.pointer x_1, Value.slice x n m] h' fun (r : Value) (h' : Heap) => Q (Value.tuple #[]) h') ∧
        C Try.prog 17 #[Value.pointer x] h fun (r : Value) (h' : Heap) =>
          ∃ (x : Option Addr),
            ∃ (n : Nat),
              ∃ (m : Nat),
                r = Value.slice x n m ∧
                  (∃ (x_1 : Option Addr),
                      h'.cell t0 0 = some (Value.pointer x_1) ∧
                        C Try.prog 50 #[Value.slice x n m, Value.func (Fn.func 51) #[] #[Value.pointer (some { block := t0, off := 0 })]] h' fun (r : Value) (h' : Heap) =>
                          ∃ (x : Option Addr), ∃ (n : Nat), ∃ (m : Nat), r = Value.slice x n m ∧ C Try.prog 49 #[Value.pointer x_1, Value.slice x n m] h' fun (r : Value) (h' : Heap) => Q (Value.tuple #[]) h') ∧
                    C Try.prog 50 #[Value.slice x n m, Value.func (Fn.func 51) #[] #[Value.pointer (some { block := t0, off := 0 })]] h' fun (r : Value) (h' : Heap) =>
                      ∃ (x : Option Addr),
                        ∃ (n : Nat),
                          ∃ (m : Nat),
                            r = Value.slice x n m ∧
                              ∃ (x_1 : Option Addr), h'.cell t0 0 = some (Value.pointer x_1) ∧ C Try.prog 49 #[Value.pointer x_1, Value.slice x n m] h' fun (r : Value) (h' : Heap) => Q (Value.tuple #[]) h'
theorem pm_Device_Fence_1.ok {t0 : Nat} {h : Heap} {Q : Value → Heap → Prop} (hk : pm_Device_Fence_1.wp t0 h Q) : C Try.prog 48 #[.pointer (some ⟨t0, 0, none⟩)] h Q :=
  C_of_xs (H := pm_Device_Fence_1.H) (lcuts := pm_Device_Fence_1.lc) (rcuts := pm_Device_Fence_1.rc) (l := [.pointer (some ⟨t0, 0, none⟩)]) 2000 mixed Try.func48 rfl (by kernel_rfl) (Eq.mp (by kernel_rfl) hk)

/-! (*gabion/pm.Device).Fence -/
def pm_Device_Fence.H : Hn := ⟨[1], [], [], []⟩
def pm_Device_Fence.lc : List Cut := []
def pm_Device_Fence.rc : List Cut := []
def pm_Device_Fence.wp (d : Option Addr) (h : Heap) (Q : Value → Heap → Prop) : Prop :=
  ∀ (b : Nat),
    h b = none →
      ∃ (x : Option Addr),
        (upd h b (Obj.cells #[Value.pointer d] 27 (0, 0))).cell b 0 = some (Value.pointer x) ∧
          C Try.prog 44 #[Value.pointer x, Value.int IntKind.i64 0, Value.int IntKind.i64 1, Value.func (Fn.func 48) #[] #[Value.pointer (some { block := b, off := 0 })]]
            (upd h b (Obj.cells #[Value.pointer d] 27 (0, 0))) fun (r : Value) (h' : Heap) => ∃ (x : Int), r = Value.int IntKind.i64 x ∧ Q (Value.int IntKind.i64 x) h'
theorem pm_Device_Fence.ok {d : Option Addr} {h : Heap} {Q : Value → Heap → Prop} (hk : pm_Device_Fence.wp d h Q) : C Try.prog 16 #[.pointer d] h Q :=
  C_of_xs (H := pm_Device_Fence.H) (lcuts := pm_Device_Fence.lc) (rcuts := pm_Device_Fence.rc) (l := [.pointer d]) 2000 mixed Try.func16 rfl (by kernel_rfl) (Eq.mp (by kernel_rfl) hk)

/-! (*gabion/pm.Device).Media -/
def pm_Device_Media.H : Hn := ⟨[], [], [], []⟩
def pm_Device_Media.lc : List Cut := []
def pm_Device_Media.rc : List Cut := []
def pm_Device_Media.wp (d : Option Addr) (word : Int) (h : Heap) (Q : Value → Heap → Prop) : Prop :=
  xsIf (decide (word < 0)) (Q (Value.int IntKind.u64 0) h)
    (C Try.prog 45 #[Value.pointer d] h fun (r : Value) (h' : Heap) =>
      ∃ (x : Int),
        r = Value.int IntKind.i64 x ∧
          xsIf (decide (x ≤ word)) (Q (Value.int IntKind.u64 0) h')
            (atBase d fun (b o : Nat) =>
              ∃ (x : Option Addr),
                ∃ (n : Nat),
                  ∃ (m : Nat),
                    h'.cell b (o + 0) = some (Value.slice x n m) ∧ (0 ≤ word ∧ word < (↑n : Int)) ∧ atBase x fun (b o : Nat) => ∃ (x : Int), h'.cell b (o + word.toNat * 1) = some (Value.int IntKind.u64 x) ∧ Q (Value.int IntKind.u64 x) h'))
theorem pm_Device_Media.ok {d : Option Addr} {word : Int} {h : Heap} {Q : Value → Heap → Prop} (hk : pm_Device_Media.wp d word h Q) : C Try.prog 20 #[.pointer d, .int .i64 word] h Q :=
  C_of_xs (H := pm_Device_Media.H) (lcuts := pm_Device_Media.lc) (rcuts := pm_Device_Media.rc) (l := [.pointer d, .int .i64 word]) 2000 mixed Try.func20 rfl (by kernel_rfl) (Eq.mp (by kernel_rfl) hk)

/-! (*gabion/pm.Device).is -/
def pm_Device_is.H : Hn := ⟨[], [], [], []⟩
def pm_Device_is.lc : List Cut := []
def pm_Device_is.rc : List Cut := []
def pm_Device_is.wp (d : Option Addr) (line : Int) (h : Heap) (Q : Value → Heap → Prop) : Prop :=
  xsIf (decide (0 ≤ line)) (C Try.prog 43 #[Value.pointer d] h fun (r : Value) (h' : Heap) => ∃ (x : Int), r = Value.int IntKind.i64 x ∧ Q (Value.bool (decide (line < x))) h') (Q (Value.bool false) h)
theorem pm_Device_is.ok {d : Option Addr} {line : Int} {h : Heap} {Q : Value → Heap → Prop} (hk : pm_Device_is.wp d line h Q) : C Try.prog 55 #[.pointer d, .int .i64 line] h Q :=
  C_of_xs (H := pm_Device_is.H) (lcuts := pm_Device_is.lc) (rcuts := pm_Device_is.rc) (l := [.pointer d, .int .i64 line]) 2000 mixed Try.func55 rfl (by kernel_rfl) (Eq.mp (by kernel_rfl) hk)

/-! (*gabion/pm.Device).Wear -/
def pm_Device_Wear.H : Hn := ⟨[], [], [], []⟩
def pm_Device_Wear.lc : List Cut := []
def pm_Device_Wear.rc : List Cut := []
def pm_Device_Wear.wp (d : Option Addr) (line : Int) (h : Heap) (Q : Value → Heap → Prop) : Prop :=
  C Try.prog 55 #[Value.pointer d, Value.int IntKind.i64 line] h fun (r : Value) (h' : Heap) =>
    ∃ (x : Bool),
      r = Value.bool x ∧
        xsIf (!x) (Q (Value.int IntKind.i64 0) h')
          (atBase d fun (b o : Nat) =>
            ∃ (x : Option Addr),
              ∃ (n : Nat),
                ∃ (m : Nat),
                  h'.cell b (o + 2) = some (Value.slice x n m) ∧ (0 ≤ line ∧ line < (↑n : Int)) ∧ atBase x fun (b o : Nat) => ∃ (x : Int), h'.cell b (o + line.toNat * 1) = some (Value.int IntKind.i64 x) ∧ Q (Value.int IntKind.i64 x) h')
theorem pm_Device_Wear.ok {d : Option Addr} {line : Int} {h : Heap} {Q : Value → Heap → Prop} (hk : pm_Device_Wear.wp d line h Q) : C Try.prog 21 #[.pointer d, .int .i64 line] h Q :=
  C_of_xs (H := pm_Device_Wear.H) (lcuts := pm_Device_Wear.lc) (rcuts := pm_Device_Wear.rc) (l := [.pointer d, .int .i64 line]) 2000 mixed Try.func21 rfl (by kernel_rfl) (Eq.mp (by kernel_rfl) hk)

/-! gabion/gabionlaw03.wakes -/
def gabionlaw03_wakes.H : Hn := ⟨[], [], [], []⟩
def gabionlaw03_wakes.lc : List Cut := []
def gabionlaw03_wakes.rc : List Cut := [⟨4, [1], []⟩]
def gabionlaw03_wakes.J4 (d : Option Addr) (h : Heap) (Q : Value → Heap → Prop) : Prop :=
  TW Try.prog 13 68 [.code (cAt (bodyOf Try.f13) [1, 1, 1, 0]), .code (cAt (bodyOf Try.f13) [1, 1, 1, 1])] ⟨[(1, .v (.pointer d))], []⟩ h Q
def gabionlaw03_wakes.wp  (h : Heap) (Q : Value → Heap → Prop) : Prop :=
  C Try.prog 12 #[Value.int IntKind.i64 2] h fun (r : Value) (h' : Heap) =>
    ∃ (x : Option Addr),
      ∃ (x_1 : Int),
        r = Value.tuple #[Value.pointer x, Value.int IntKind.i64 x_1] ∧
          xsIf (decide (x_1 ≠ 0)) (Q (Value.bool false) h')
            (xsIf x.isNone (Q (Value.bool false) h')
              (C Try.prog 14 #[Value.pointer x, Value.int IntKind.i64 0, Value.int IntKind.u64 7] h' fun (r : Value) (h' : Heap) =>
                ∃ (x_2 : Int),
                  r = Value.int IntKind.i64 x_2 ∧
                    xsIf (decide (x_2 ≠ 0)) (Q (Value.bool false) h')
                      (C Try.prog 15 #[Value.pointer x, Value.int IntKind.i64 0] h' fun (r : Value) (h' : Heap) =>
                        ∃ (x_3 : Int), r = Value.int IntKind.i64 x_3 ∧ xsIf (decide (x_3 ≠ 0)) (Q (Value.bool false) h') (gabionlaw03_wakes.J4 x h' Q))))
def gabionlaw03_wakes.J4.wp (d : Option Addr) (h : Heap) (Q : Value → Heap → Prop) : Prop :=
  C Try.prog 18 #[Value.pointer d, Value.slice none 0 0] h fun (r : Value) (h' : Heap) =>
    C Try.prog 19 #[Value.pointer d, Value.int IntKind.i64 0] h' fun (r : Value) (h' : Heap) =>
      ∃ (x : Int),
        ∃ (x_1 : Int),
          r = Value.tuple #[Value.int IntKind.u64 x, Value.int IntKind.i64 x_1] ∧
            C Try.prog 14 #[Value.pointer d, Value.int IntKind.i64 0, Value.int IntKind.u64 7] h' fun (r : Value) (h' : Heap) =>
              ∃ (x_2 : Int),
                r = Value.int IntKind.i64 x_2 ∧
                  C Try.prog 15 #[Value.pointer d, Value.int IntKind.i64 0] h' fun (r : Value) (h' : Heap) =>
                    ∃ (x_3 : Int),
                      r = Value.int IntKind.i64 x_3 ∧
                        C Try.prog 16 #[Value.pointer d] h' fun (r : Value) (h' : Heap) =>
                          ∃ (x_4 : Int),
                            r = Value.int IntKind.i64 x_4 ∧
                              C Try.prog 18 #[Value.pointer d, Value.slice none 0 0] h' fun (r : Value) (h' : Heap) =>
                                C Try.prog 19 #[Value.pointer d, Value.int IntKind.i64 0] h' fun (r : Value) (h' : Heap) =>
                                  ∃ (x_5 : Int),
                                    ∃ (x_6 : Int),
                                      r = Value.tuple #[Value.int IntKind.u64 x_5, Value.int IntKind.i64 x_6] ∧
                                        xsIf (decide (x = 0))
                                          (xsIf (decide (x_5 = 7))
                                            (C Try.prog 20 #[Value.pointer d, Value.int IntKind.i64 0] h' fun (r : Value) (h' : Heap) =>
                                              ∃ (x : Int),
                                                r = Value.int IntKind.u64 x ∧
                                                  xsIf (decide (x = 7))
                                                    (C Try.prog 21 #[Value.pointer d, Value.int IntKind.i64 0] h' fun (r : Value) (h' : Heap) =>
                                                      ∃ (x : Int),
                                                        r = Value.int IntKind.i64 x ∧
                                                          xsIf (decide (x = 1)) (C Try.prog 43 #[Value.pointer d] h' fun (r : Value) (h' : Heap) => ∃ (x : Int), r = Value.int IntKind.i64 x ∧ Q (Value.bool (decide (x = 2))) h')
                                                            (Q (Value.bool false) h'))
                                                    (Q (Value.bool false) h'))
                                            (Q (Value.bool false) h'))
                                          (Q (Value.bool false) h')
theorem gabionlaw03_wakes.ok {h : Heap} {Q : Value → Heap → Prop} (hk : gabionlaw03_wakes.wp h Q) : C Try.prog 13 #[] h Q :=
  C_of_xs (H := gabionlaw03_wakes.H) (lcuts := gabionlaw03_wakes.lc) (rcuts := gabionlaw03_wakes.rc) (l := []) 2000 mixed Try.func13 rfl (by kernel_rfl) (Eq.mp (by kernel_rfl) hk)
theorem gabionlaw03_wakes.J4.ok {d : Option Addr} {h : Heap} {Q : Value → Heap → Prop} (hk : gabionlaw03_wakes.J4.wp d h Q) : gabionlaw03_wakes.J4 d h Q :=
  xs_ok (H := gabionlaw03_wakes.H) (lcuts := gabionlaw03_wakes.lc) (rcuts := []) (fn := Try.f13) mixed Try.func13 2000 _ _ _ (Eq.mp (by kernel_rfl) hk)

/-! gabion/gabionlaw03.PmLasts -/
def gabionlaw03_PmLasts.H : Hn := ⟨[], [3, 7, 8], [⟨1, .q 0 (.q 1 (.q 2 (.q 3 (.br 4 (.q 5 (.q 6 (.q 7 (.nil)))) (.one 5 (.q 4 (.q 6 (.q 7 (.nil))))))))), [7, 8]⟩], []⟩
def gabionlaw03_PmLasts.lc : List Cut := [⟨6, [1, 5, 7, 8, 9, 39, 40], [5, 7, 8]⟩, ⟨15, [1, 5, 7, 8, 9, 62, 63], [5, 7, 8]⟩, ⟨20, [1, 7, 8, 9, 72, 73], [7, 8]⟩, ⟨27, [1, 7, 8, 9, 85], [7, 8]⟩]
def gabionlaw03_PmLasts.rc : List Cut := [⟨5, [1, 5, 7, 8, 9], [5, 7, 8]⟩, ⟨14, [1, 5, 7, 8, 9], [5, 7, 8]⟩, ⟨24, [1, 7, 8, 9, 72, 73], [7, 8]⟩, ⟨32, [1, 7, 8, 9, 17, 18, 85], [7, 8]⟩]
def gabionlaw03_PmLasts.J5 (keep : Option Addr) (keep_n : Nat) (keep_c : Nat) (d : Option Addr) (flush_5_0 : Bool) (flush_5_1 : Bool) (a : List Value) (b : List Value) (h : Heap) (Q : Value → Heap → Prop) : Prop :=
  TW Try.prog 3 129 [.code (cAt (bodyOf Try.f3) [1, 1, 1, 1, 0, 0]), .code (cAt (bodyOf Try.f3) [1, 1, 1, 1, 0, 1]), .code (cAt (bodyOf Try.f3) [1, 1, 1, 1, 1])] ⟨[(1, .v (.slice keep keep_n keep_c)), (5, .p 5 0), (7, .p 7 0), (8, .p 8 0), (9, .v (.pointer d))], [(5, [.bool flush_5_0, .bool flush_5_1]), (7, a), (8, b)]⟩ h Q
def gabionlaw03_PmLasts.L6 (keep : Option Addr) (keep_n : Nat) (keep_c : Nat) (d : Option Addr) (t39 : List Value) (t40 : Int) (flush_5_0 : Bool) (flush_5_1 : Bool) (a : List Value) (b : List Value) (h : Heap) (Q : Value → Heap → Prop) : Prop :=
  TW Try.prog 3 129 [.code (cAt (bodyOf Try.f3) [1, 1, 1, 1, 0, 1, 0, 0]), .inLoop (cAt (bodyOf Try.f3) [1, 1, 1, 1, 0, 1, 0, 0]), .inBlock 0, .code (cAt (bodyOf Try.f3) [1, 1, 1, 1, 1])] ⟨[(1, .v (.slice keep keep_n keep_c)), (5, .p 5 0), (7, .p 7 0), (8, .p 8 0), (9, .v (.pointer d)), (39, .v (.agg t39.toArray)), (40, .v (.int .i64 t40))], [(5, [.bool flush_5_0, .bool flush_5_1]), (7, a), (8, b)]⟩ h Q
def gabionlaw03_PmLasts.J14 (keep : Option Addr) (keep_n : Nat) (keep_c : Nat) (d : Option Addr) (flush_5_0 : Bool) (flush_5_1 : Bool) (a : List Value) (b : List Value) (h : Heap) (Q : Value → Heap → Prop) : Prop :=
  TW Try.prog 3 129 [.code (cAt (bodyOf Try.f3) [1, 1, 1, 1, 1, 1, 1, 1, 0, 0]), .code (cAt (bodyOf Try.f3) [1, 1, 1, 1, 1, 1, 1, 1, 0, 1]), .code (cAt (bodyOf Try.f3) [1, 1, 1, 1, 1, 1, 1, 1, 1])] ⟨[(1, .v (.slice keep keep_n keep_c)), (5, .p 5 0), (7, .p 7 0), (8, .p 8 0), (9, .v (.pointer d))], [(5, [.bool flush_5_0, .bool flush_5_1]), (7, a), (8, b)]⟩ h Q
def gabionlaw03_PmLasts.L15 (keep : Option Addr) (keep_n : Nat) (keep_c : Nat) (d : Option Addr) (t62 : List Value) (t63 : Int) (flush_5_0 : Bool) (flush_5_1 : Bool) (a : List Value) (b : List Value) (h : Heap) (Q : Value → Heap → Prop) : Prop :=
  TW Try.prog 3 129 [.code (cAt (bodyOf Try.f3) [1, 1, 1, 1, 1, 1, 1, 1, 0, 1, 0, 0]), .inLoop (cAt (bodyOf Try.f3) [1, 1, 1, 1, 1, 1, 1, 1, 0, 1, 0, 0]), .inBlock 2, .code (cAt (bodyOf Try.f3) [1, 1, 1, 1, 1, 1, 1, 1, 1])] ⟨[(1, .v (.slice keep keep_n keep_c)), (5, .p 5 0), (7, .p 7 0), (8, .p 8 0), (9, .v (.pointer d)), (62, .v (.agg t62.toArray)), (63, .v (.int .i64 t63))], [(5, [.bool flush_5_0, .bool flush_5_1]), (7, a), (8, b)]⟩ h Q
def gabionlaw03_PmLasts.L20 (keep : Option Addr) (keep_n : Nat) (keep_c : Nat) (d : Option Addr) (t72_0 : Bool) (t72_1 : Bool) (t73 : Int) (a : List Value) (b : List Value) (h : Heap) (Q : Value → Heap → Prop) : Prop :=
  TW Try.prog 3 129 [.code (cAt (bodyOf Try.f3) [1, 1, 1, 1, 1, 1, 1, 1, 1, 0, 1, 0, 0]), .inLoop (cAt (bodyOf Try.f3) [1, 1, 1, 1, 1, 1, 1, 1, 1, 0, 1, 0, 0]), .inBlock 4, .code (cAt (bodyOf Try.f3) [1, 1, 1, 1, 1, 1, 1, 1, 1, 1])] ⟨[(1, .v (.slice keep keep_n keep_c)), (7, .p 7 0), (8, .p 8 0), (9, .v (.pointer d)), (72, .v (.agg #[.bool t72_0, .bool t72_1])), (73, .v (.int .i64 t73))], [(7, a), (8, b)]⟩ h Q
def gabionlaw03_PmLasts.J24 (keep : Option Addr) (keep_n : Nat) (keep_c : Nat) (d : Option Addr) (t72_0 : Bool) (t72_1 : Bool) (t73 : Int) (a : List Value) (b : List Value) (h : Heap) (Q : Value → Heap → Prop) : Prop :=
  TW Try.prog 3 129 [.code (cAt (bodyOf Try.f3) [1, 1, 1, 1, 1, 1, 1, 1, 1, 0, 1, 0, 0, 1, 1, 1]), .inLoop (cAt (bodyOf Try.f3) [1, 1, 1, 1, 1, 1, 1, 1, 1, 0, 1, 0, 0]), .inBlock 4, .code (cAt (bodyOf Try.f3) [1, 1, 1, 1, 1, 1, 1, 1, 1, 1])] ⟨[(1, .v (.slice keep keep_n keep_c)), (7, .p 7 0), (8, .p 8 0), (9, .v (.pointer d)), (72, .v (.agg #[.bool t72_0, .bool t72_1])), (73, .v (.int .i64 t73))], [(7, a), (8, b)]⟩ h Q
def gabionlaw03_PmLasts.L27 (keep : Option Addr) (keep_n : Nat) (keep_c : Nat) (d : Option Addr) (t85 : Int) (a : List Value) (b : List Value) (h : Heap) (Q : Value → Heap → Prop) : Prop :=
  TW Try.prog 3 129 [.code (cAt (bodyOf Try.f3) [1, 1, 1, 1, 1, 1, 1, 1, 1, 1, 1, 0, 1, 0, 0]), .inLoop (cAt (bodyOf Try.f3) [1, 1, 1, 1, 1, 1, 1, 1, 1, 1, 1, 0, 1, 0, 0]), .inBlock 6, .code (cAt (bodyOf Try.f3) [1, 1, 1, 1, 1, 1, 1, 1, 1, 1, 1, 1])] ⟨[(1, .v (.slice keep keep_n keep_c)), (7, .p 7 0), (8, .p 8 0), (9, .v (.pointer d)), (85, .v (.int .i64 t85))], [(7, a), (8, b)]⟩ h Q
def gabionlaw03_PmLasts.J32 (keep : Option Addr) (keep_n : Nat) (keep_c : Nat) (d : Option Addr) (i_17 : Int) (want : Int) (t85 : Int) (a : List Value) (b : List Value) (h : Heap) (Q : Value → Heap → Prop) : Prop :=
  TW Try.prog 3 129 [.code (cAt (bodyOf Try.f3) [1, 1, 1, 1, 1, 1, 1, 1, 1, 1, 1, 0, 1, 0, 0, 1, 1, 0, 0, 1, 1, 1, 0]), .code (cAt (bodyOf Try.f3) [1, 1, 1, 1, 1, 1, 1, 1, 1, 1, 1, 0, 1, 0, 0, 1, 1, 0, 0, 1, 1, 1, 1]), .inBlock 7, .code (cAt (bodyOf Try.f3) [1, 1, 1, 1, 1, 1, 1, 1, 1, 1, 1, 0, 1, 0, 0, 1, 1, 1]), .inLoop (cAt (bodyOf Try.f3) [1, 1, 1, 1, 1, 1, 1, 1, 1, 1, 1, 0, 1, 0, 0]), .inBlock 6, .code (cAt (bodyOf Try.f3) [1, 1, 1, 1, 1, 1, 1, 1, 1, 1, 1, 1])] ⟨[(1, .v (.slice keep keep_n keep_c)), (7, .p 7 0), (8, .p 8 0), (9, .v (.pointer d)), (17, .v (.int .i64 i_17)), (18, .v (.int .u64 want)), (85, .v (.int .i64 t85))], [(7, a), (8, b)]⟩ h Q
def gabionlaw03_PmLasts.wp (x : List Value) (keep : Option Addr) (keep_n : Nat) (keep_c : Nat) (flush_0 : Bool) (flush_1 : Bool) (h : Heap) (Q : Value → Heap → Prop) : Prop :=
  16 ≤ x.length ∧
    32 ≤ x.length ∧
      xsIf ((List.toArray (lsub x 0 16)).size.beq 16)
          (xsIf (oneCells (lsub x 0 16))
            (16 ≤ 16 ∧
              xsIf ((List.toArray (lsub x 16 16)).size.beq 16)
                (xsIf (oneCells (lsub x 16 16))
                  (16 ≤ 16 ∧
                    C Try.prog 12 #[Value.int IntKind.i64 2] h fun (r : Value) (h' : Heap) =>
                      ∃ (x_1 : Option Addr),
                        ∃ (x_2 : Int),
                          r = Value.tuple #[Value.pointer x_1, Value.int IntKind.i64 x_2] ∧
                            C Try.prog 13 #[] h' fun (r : Value) (h' : Heap) =>
                              ∃ (x_3 : Bool),
                                r = Value.bool x_3 ∧
                                  xsIf (!x_3) (Q (Value.bool false) h')
                                    (xsIf (decide (x_2 ≠ 0)) (Q (Value.bool false) h')
                                      (xsIf x_1.isNone (Q (Value.bool false) h')
                                        (gabionlaw03_PmLasts.J5 keep keep_n keep_c x_1 flush_0 flush_1
                                          (lput
                                            [Value.int IntKind.u64 0, Value.int IntKind.u64 0, Value.int IntKind.u64 0, Value.int IntKind.u64 0, Value.int IntKind.u64 0, Value.int IntKind.u64 0, Value.int IntKind.u64 0,
                                              Value.int IntKind.u64 0, Value.int IntKind.u64 0, Value.int IntKind.u64 0, Value.int IntKind.u64 0, Value.int IntKind.u64 0, Value.int IntKind.u64 0, Value.int IntKind.u64 0,
                                              Value.int IntKind.u64 0, Value.int IntKind.u64 0]
                                            0 (lsub x 0 16))
                                          (lput
                                            [Value.int IntKind.u64 0, Value.int IntKind.u64 0, Value.int IntKind.u64 0, Value.int IntKind.u64 0, Value.int IntKind.u64 0, Value.int IntKind.u64 0, Value.int IntKind.u64 0,
                                              Value.int IntKind.u64 0, Value.int IntKind.u64 0, Value.int IntKind.u64 0, Value.int IntKind.u64 0, Value.int IntKind.u64 0, Value.int IntKind.u64 0, Value.int IntKind.u64 0,
                                              Value.int IntKind.u64 0, Value.int IntKind.u64 0]
                                            0 (lsub x 16 16))
                                          h' Q))))
                  False)
                False)
            False)
          False ∧
        xsIf ((List.toArray (lsub x 0 16)).size.beq 16)
          (xsIf (oneCells (lsub x 0 16))
            (16 ≤ 16 ∧
              xsIf ((List.toArray (lsub x 16 16)).size.beq 16)
                (xsIf (oneCells (lsub x 16 16))
                  (16 ≤ 16 ∧
                    C Try.prog 12 #[Value.int IntKind.i64 2] h fun (r : Value) (h' : Heap) =>
                      ∃ (x_1 : Option Addr),
                        ∃ (x_2 : Int),
                          r = Value.tuple #[Value.pointer x_1, Value.int IntKind.i64 x_2] ∧
                            C Try.prog 13 #[] h' fun (r : Value) (h' : Heap) =>
                              ∃ (x_3 : Bool),
                                r = Value.bool x_3 ∧
                                  xsIf (!x_3) (Q (Value.bool false) h')
                                    (xsIf (decide (x_2 ≠ 0)) (Q (Value.bool false) h')
                                      (xsIf x_1.isNone (Q (Value.bool false) h')
                                        (gabionlaw03_PmLasts.J5 keep keep_n keep_c x_1 flush_0 flush_1
                                          (lput
                                            [Value.int IntKind.u64 0, Value.int IntKind.u64 0, Value.int IntKind.u64 0, Value.int IntKind.u64 0, Value.int IntKind.u64 0, Value.int IntKind.u64 0, Value.int IntKind.u64 0,
                                              Value.int IntKind.u64 0, Value.int IntKind.u64 0, Value.int IntKind.u64 0, Value.int IntKind.u64 0, Value.int IntKind.u64 0, Value.int IntKind.u64 0, Value.int IntKind.u64 0,
                                              Value.int IntKind.u64 0, Value.int IntKind.u64 0]
                                            0 (lsub x 0 16))
                                          (lput
                                            [Value.int IntKind.u64 0, Value.int IntKind.u64 0, Value.int IntKind.u64 0, Value.int IntKind.u64 0, Value.int IntKind.u64 0, Value.int IntKind.u64 0, Value.int IntKind.u64 0,
                                              Value.int IntKind.u64 0, Value.int IntKind.u64 0, Value.int IntKind.u64 0, Value.int IntKind.u64 0, Value.int IntKind.u64 0, Value.int IntKind.u64 0, Value.int IntKind.u64 0,
                                              Value.int IntKind.u64 0, Value.int IntKind.u64 0]
                                            0 (lsub x 16 16))
                                          h' Q))))
                  False)
                False)
            False)
          False
def gabionlaw03_PmLasts.J5.wp (keep : Option Addr) (keep_n : Nat) (keep_c : Nat) (d : Option Addr) (flush_5_0 : Bool) (flush_5_1 : Bool) (a : List Value) (b : List Value) (h : Heap) (Q : Value → Heap → Prop) : Prop :=
  16 ≤ a.length ∧ gabionlaw03_PmLasts.L6 keep keep_n keep_c d (lsub a 0 16) 0 flush_5_0 flush_5_1 a b h Q
def gabionlaw03_PmLasts.L6.wp (keep : Option Addr) (keep_n : Nat) (keep_c : Nat) (d : Option Addr) (t39 : List Value) (t40 : Int) (flush_5_0 : Bool) (flush_5_1 : Bool) (a : List Value) (b : List Value) (h : Heap) (Q : Value → Heap → Prop) : Prop :=
  xsIf (decide (t40 < 16))
    ((0 ≤ t40 ∧ t40 < (↑16 : Int)) ∧
      ∃ (x : Int),
        lget t39 (t40.toNat * 1) = some (Value.int IntKind.u64 x) ∧
          C Try.prog 14 #[Value.pointer d, Value.int IntKind.i64 t40, Value.int IntKind.u64 x] h fun (r : Value) (h' : Heap) =>
            ∃ (x : Int), r = Value.int IntKind.i64 x ∧ gabionlaw03_PmLasts.L6 keep keep_n keep_c d t39 (IntKind.i64.wrap (t40 + 1)) flush_5_0 flush_5_1 a b h' Q)
    (C Try.prog 15 #[Value.pointer d, Value.int IntKind.i64 0] h fun (r : Value) (h' : Heap) =>
      ∃ (x : Int),
        r = Value.int IntKind.i64 x ∧
          C Try.prog 15 #[Value.pointer d, Value.int IntKind.i64 1] h' fun (r : Value) (h' : Heap) =>
            ∃ (x : Int),
              r = Value.int IntKind.i64 x ∧
                C Try.prog 16 #[Value.pointer d] h' fun (r : Value) (h' : Heap) =>
                  ∃ (x : Int),
                    r = Value.int IntKind.i64 x ∧
                      xsIf (decide (x ≠ 0)) (Q (Value.bool false) h')
                        (C Try.prog 17 #[Value.pointer d] h' fun (r : Value) (h' : Heap) =>
                          ∃ (x : Option Addr), ∃ (n : Nat), ∃ (m : Nat), r = Value.slice x n m ∧ xsIf (decide ((↑n : Int) ≠ 0)) (Q (Value.bool false) h') (gabionlaw03_PmLasts.J14 keep keep_n keep_c d flush_5_0 flush_5_1 a b h' Q)))
def gabionlaw03_PmLasts.J14.wp (keep : Option Addr) (keep_n : Nat) (keep_c : Nat) (d : Option Addr) (flush_5_0 : Bool) (flush_5_1 : Bool) (a : List Value) (b : List Value) (h : Heap) (Q : Value → Heap → Prop) : Prop :=
  16 ≤ b.length ∧ gabionlaw03_PmLasts.L15 keep keep_n keep_c d (lsub b 0 16) 0 flush_5_0 flush_5_1 a b h Q
def gabionlaw03_PmLasts.L15.wp (keep : Option Addr) (keep_n : Nat) (keep_c : Nat) (d : Option Addr) (t62 : List Value) (t63 : Int) (flush_5_0 : Bool) (flush_5_1 : Bool) (a : List Value) (b : List Value) (h : Heap) (Q : Value → Heap → Prop) : Prop :=
  xsIf (decide (t63 < 16))
    ((0 ≤ t63 ∧ t63 < (↑16 : Int)) ∧
      ∃ (x : Int),
        lget t62 (t63.toNat * 1) = some (Value.int IntKind.u64 x) ∧
          C Try.prog 14 #[Value.pointer d, Value.int IntKind.i64 t63, Value.int IntKind.u64 x] h fun (r : Value) (h' : Heap) =>
            ∃ (x : Int), r = Value.int IntKind.i64 x ∧ gabionlaw03_PmLasts.L15 keep keep_n keep_c d t62 (IntKind.i64.wrap (t63 + 1)) flush_5_0 flush_5_1 a b h' Q)
    (gabionlaw03_PmLasts.L20 keep keep_n keep_c d flush_5_0 flush_5_1 0 a b h Q)
def gabionlaw03_PmLasts.L20.wp (keep : Option Addr) (keep_n : Nat) (keep_c : Nat) (d : Option Addr) (t72_0 : Bool) (t72_1 : Bool) (t73 : Int) (a : List Value) (b : List Value) (h : Heap) (Q : Value → Heap → Prop) : Prop :=
  xsIf (decide (t73 < 2))
    ((0 ≤ t73 ∧ t73 < (↑2 : Int)) ∧
      ∃ (x : Bool),
        lget [Value.bool t72_0, Value.bool t72_1] (t73.toNat * 1) = some (Value.bool x) ∧
          xsIf x (C Try.prog 15 #[Value.pointer d, Value.int IntKind.i64 t73] h fun (r : Value) (h' : Heap) => ∃ (x : Int), r = Value.int IntKind.i64 x ∧ gabionlaw03_PmLasts.J24 keep keep_n keep_c d t72_0 t72_1 t73 a b h' Q)
            (gabionlaw03_PmLasts.J24 keep keep_n keep_c d t72_0 t72_1 t73 a b h Q))
    (C Try.prog 18 #[Value.pointer d, Value.slice keep keep_n keep_c] h fun (r : Value) (h' : Heap) => gabionlaw03_PmLasts.L27 keep keep_n keep_c d 0 a b h' Q)
def gabionlaw03_PmLasts.J24.wp (keep : Option Addr) (keep_n : Nat) (keep_c : Nat) (d : Option Addr) (t72_0 : Bool) (t72_1 : Bool) (t73 : Int) (a : List Value) (b : List Value) (h : Heap) (Q : Value → Heap → Prop) : Prop :=
  gabionlaw03_PmLasts.L20 keep keep_n keep_c d t72_0 t72_1 (IntKind.i64.wrap (t73 + 1)) a b h Q
def gabionlaw03_PmLasts.L27.wp (keep : Option Addr) (keep_n : Nat) (keep_c : Nat) (d : Option Addr) (t85 : Int) (a : List Value) (b : List Value) (h : Heap) (Q : Value → Heap → Prop) : Prop :=
  xsIf (decide (t85 < 16))
    ((0 ≤ t85 ∧ t85 < (↑16 : Int)) ∧
      ∃ (x : Int),
        lget a (0 + t85.toNat * 1) = some (Value.int IntKind.u64 x) ∧
          xsIf (decide (t85 < (↑keep_n : Int)))
            ((0 ≤ t85 ∧ t85 < (↑keep_n : Int)) ∧
              atBase keep fun (b_1 o : Nat) =>
                ∃ (x_1 : Bool),
                  h.cell b_1 (o + t85.toNat * 1) = some (Value.bool x_1) ∧
                    xsIf x_1 ((0 ≤ t85 ∧ t85 < (↑16 : Int)) ∧ ∃ (x : Int), lget b (0 + t85.toNat * 1) = some (Value.int IntKind.u64 x) ∧ gabionlaw03_PmLasts.J32 keep keep_n keep_c d t85 x t85 a b h Q)
                      (gabionlaw03_PmLasts.J32 keep keep_n keep_c d t85 x t85 a b h Q))
            (gabionlaw03_PmLasts.J32 keep keep_n keep_c d t85 x t85 a b h Q))
    (C Try.prog 17 #[Value.pointer d] h fun (r : Value) (h' : Heap) => ∃ (x : Option Addr), ∃ (n : Nat), ∃ (m : Nat), r = Value.slice x n m ∧ Q (Value.bool (decide ((↑n : Int) = 0))) h')
def gabionlaw03_PmLasts.J32.wp (keep : Option Addr) (keep_n : Nat) (keep_c : Nat) (d : Option Addr) (i_17 : Int) (want : Int) (t85 : Int) (a : List Value) (b : List Value) (h : Heap) (Q : Value → Heap → Prop) : Prop :=
  C Try.prog 19 #[Value.pointer d, Value.int IntKind.i64 i_17] h fun (r : Value) (h' : Heap) =>
    ∃ (x : Int),
      ∃ (x_1 : Int),
        r = Value.tuple #[Value.int IntKind.u64 x, Value.int IntKind.i64 x_1] ∧
          xsIf (decide (x_1 ≠ 0)) (Q (Value.bool false) h')
            (xsIf (decide (x ≠ want)) (Q (Value.bool false) h')
              (C Try.prog 20 #[Value.pointer d, Value.int IntKind.i64 i_17] h' fun (r : Value) (h' : Heap) =>
                ∃ (x : Int), r = Value.int IntKind.u64 x ∧ xsIf (decide (x ≠ want)) (Q (Value.bool false) h') (gabionlaw03_PmLasts.L27 keep keep_n keep_c d (IntKind.i64.wrap (t85 + 1)) a b h' Q)))
theorem gabionlaw03_PmLasts.ok {x : List Value} {keep : Option Addr} {keep_n : Nat} {keep_c : Nat} {flush_0 : Bool} {flush_1 : Bool} {h : Heap} {Q : Value → Heap → Prop} (hk : gabionlaw03_PmLasts.wp x keep keep_n keep_c flush_0 flush_1 h Q) : C Try.prog 3 #[.agg x.toArray, .slice keep keep_n keep_c, .agg #[.bool flush_0, .bool flush_1]] h Q :=
  C_of_xs (H := gabionlaw03_PmLasts.H) (lcuts := gabionlaw03_PmLasts.lc) (rcuts := gabionlaw03_PmLasts.rc) (l := [.agg x.toArray, .slice keep keep_n keep_c, .agg #[.bool flush_0, .bool flush_1]]) 2000 mixed Try.func3 rfl (by kernel_rfl) (Eq.mp (by kernel_rfl) hk)
theorem gabionlaw03_PmLasts.J5.ok {keep : Option Addr} {keep_n : Nat} {keep_c : Nat} {d : Option Addr} {flush_5_0 : Bool} {flush_5_1 : Bool} {a : List Value} {b : List Value} {h : Heap} {Q : Value → Heap → Prop} (hk : gabionlaw03_PmLasts.J5.wp keep keep_n keep_c d flush_5_0 flush_5_1 a b h Q) : gabionlaw03_PmLasts.J5 keep keep_n keep_c d flush_5_0 flush_5_1 a b h Q :=
  xs_ok (H := gabionlaw03_PmLasts.H) (lcuts := gabionlaw03_PmLasts.lc) (rcuts := [⟨14, [1, 5, 7, 8, 9], [5, 7, 8]⟩, ⟨24, [1, 7, 8, 9, 72, 73], [7, 8]⟩, ⟨32, [1, 7, 8, 9, 17, 18, 85], [7, 8]⟩]) (fn := Try.f3) mixed Try.func3 2000 _ _ _ (Eq.mp (by kernel_rfl) hk)
theorem gabionlaw03_PmLasts.L6.ok {keep : Option Addr} {keep_n : Nat} {keep_c : Nat} {d : Option Addr} {t39 : List Value} {t40 : Int} {flush_5_0 : Bool} {flush_5_1 : Bool} {a : List Value} {b : List Value} {h : Heap} {Q : Value → Heap → Prop} (hk : gabionlaw03_PmLasts.L6.wp keep keep_n keep_c d t39 t40 flush_5_0 flush_5_1 a b h Q) : gabionlaw03_PmLasts.L6 keep keep_n keep_c d t39 t40 flush_5_0 flush_5_1 a b h Q :=
  xs_ok (H := gabionlaw03_PmLasts.H) (lcuts := gabionlaw03_PmLasts.lc) (rcuts := gabionlaw03_PmLasts.rc) (fn := Try.f3) mixed Try.func3 2000 _ _ _ (Eq.mp (by kernel_rfl) hk)
theorem gabionlaw03_PmLasts.J14.ok {keep : Option Addr} {keep_n : Nat} {keep_c : Nat} {d : Option Addr} {flush_5_0 : Bool} {flush_5_1 : Bool} {a : List Value} {b : List Value} {h : Heap} {Q : Value → Heap → Prop} (hk : gabionlaw03_PmLasts.J14.wp keep keep_n keep_c d flush_5_0 flush_5_1 a b h Q) : gabionlaw03_PmLasts.J14 keep keep_n keep_c d flush_5_0 flush_5_1 a b h Q :=
  xs_ok (H := gabionlaw03_PmLasts.H) (lcuts := gabionlaw03_PmLasts.lc) (rcuts := [⟨5, [1, 5, 7, 8, 9], [5, 7, 8]⟩, ⟨24, [1, 7, 8, 9, 72, 73], [7, 8]⟩, ⟨32, [1, 7, 8, 9, 17, 18, 85], [7, 8]⟩]) (fn := Try.f3) mixed Try.func3 2000 _ _ _ (Eq.mp (by kernel_rfl) hk)
theorem gabionlaw03_PmLasts.L15.ok {keep : Option Addr} {keep_n : Nat} {keep_c : Nat} {d : Option Addr} {t62 : List Value} {t63 : Int} {flush_5_0 : Bool} {flush_5_1 : Bool} {a : List Value} {b : List Value} {h : Heap} {Q : Value → Heap → Prop} (hk : gabionlaw03_PmLasts.L15.wp keep keep_n keep_c d t62 t63 flush_5_0 flush_5_1 a b h Q) : gabionlaw03_PmLasts.L15 keep keep_n keep_c d t62 t63 flush_5_0 flush_5_1 a b h Q :=
  xs_ok (H := gabionlaw03_PmLasts.H) (lcuts := gabionlaw03_PmLasts.lc) (rcuts := gabionlaw03_PmLasts.rc) (fn := Try.f3) mixed Try.func3 2000 _ _ _ (Eq.mp (by kernel_rfl) hk)
theorem gabionlaw03_PmLasts.L20.ok {keep : Option Addr} {keep_n : Nat} {keep_c : Nat} {d : Option Addr} {t72_0 : Bool} {t72_1 : Bool} {t73 : Int} {a : List Value} {b : List Value} {h : Heap} {Q : Value → Heap → Prop} (hk : gabionlaw03_PmLasts.L20.wp keep keep_n keep_c d t72_0 t72_1 t73 a b h Q) : gabionlaw03_PmLasts.L20 keep keep_n keep_c d t72_0 t72_1 t73 a b h Q :=
  xs_ok (H := gabionlaw03_PmLasts.H) (lcuts := gabionlaw03_PmLasts.lc) (rcuts := gabionlaw03_PmLasts.rc) (fn := Try.f3) mixed Try.func3 2000 _ _ _ (Eq.mp (by kernel_rfl) hk)
theorem gabionlaw03_PmLasts.J24.ok {keep : Option Addr} {keep_n : Nat} {keep_c : Nat} {d : Option Addr} {t72_0 : Bool} {t72_1 : Bool} {t73 : Int} {a : List Value} {b : List Value} {h : Heap} {Q : Value → Heap → Prop} (hk : gabionlaw03_PmLasts.J24.wp keep keep_n keep_c d t72_0 t72_1 t73 a b h Q) : gabionlaw03_PmLasts.J24 keep keep_n keep_c d t72_0 t72_1 t73 a b h Q :=
  xs_ok (H := gabionlaw03_PmLasts.H) (lcuts := gabionlaw03_PmLasts.lc) (rcuts := [⟨5, [1, 5, 7, 8, 9], [5, 7, 8]⟩, ⟨14, [1, 5, 7, 8, 9], [5, 7, 8]⟩, ⟨32, [1, 7, 8, 9, 17, 18, 85], [7, 8]⟩]) (fn := Try.f3) mixed Try.func3 2000 _ _ _ (Eq.mp (by kernel_rfl) hk)
theorem gabionlaw03_PmLasts.L27.ok {keep : Option Addr} {keep_n : Nat} {keep_c : Nat} {d : Option Addr} {t85 : Int} {a : List Value} {b : List Value} {h : Heap} {Q : Value → Heap → Prop} (hk : gabionlaw03_PmLasts.L27.wp keep keep_n keep_c d t85 a b h Q) : gabionlaw03_PmLasts.L27 keep keep_n keep_c d t85 a b h Q :=
  xs_ok (H := gabionlaw03_PmLasts.H) (lcuts := gabionlaw03_PmLasts.lc) (rcuts := gabionlaw03_PmLasts.rc) (fn := Try.f3) mixed Try.func3 2000 _ _ _ (Eq.mp (by kernel_rfl) hk)
theorem gabionlaw03_PmLasts.J32.ok {keep : Option Addr} {keep_n : Nat} {keep_c : Nat} {d : Option Addr} {i_17 : Int} {want : Int} {t85 : Int} {a : List Value} {b : List Value} {h : Heap} {Q : Value → Heap → Prop} (hk : gabionlaw03_PmLasts.J32.wp keep keep_n keep_c d i_17 want t85 a b h Q) : gabionlaw03_PmLasts.J32 keep keep_n keep_c d i_17 want t85 a b h Q :=
  xs_ok (H := gabionlaw03_PmLasts.H) (lcuts := gabionlaw03_PmLasts.lc) (rcuts := [⟨5, [1, 5, 7, 8, 9], [5, 7, 8]⟩, ⟨14, [1, 5, 7, 8, 9], [5, 7, 8]⟩, ⟨24, [1, 7, 8, 9, 72, 73], [7, 8]⟩]) (fn := Try.f3) mixed Try.func3 2000 _ _ _ (Eq.mp (by kernel_rfl) hk)

/-! gabion/gabionlaw03.PmWears -/
def gabionlaw03_PmWears.H : Hn := ⟨[], [5, 6], [⟨38, .q 0 (.q 2 (.q 3 (.q 1 (.q 4 (.q 5 (.q 6 (.q 8 (.q 9 (.q 7 (.q 10 (.q 11 (.q 12 (.q 13 (.q 15 (.q 16 (.q 14 (.q 17 (.q 18 (.q 19 (.nil)))))))))))))))))))), []⟩], []⟩
def gabionlaw03_PmWears.lc : List Cut := [⟨7, [3, 5, 6, 32, 33, 34], [5, 6]⟩, ⟨33, [3, 5, 6, 9, 10, 32, 33, 34], [5, 6]⟩, ⟨13, [3, 5, 6, 32, 33, 34, 46], [5, 6]⟩, ⟨17, [3, 5, 6, 11, 12, 13, 32, 33, 34, 46], [5, 6]⟩]
def gabionlaw03_PmWears.rc : List Cut := [⟨4, [0, 3], []⟩, ⟨27, [3, 5, 6, 8, 9, 32, 33, 34], [5, 6]⟩, ⟨31, [3, 5, 6, 9, 32, 33, 34], [5, 6]⟩, ⟨18, [3, 5, 6, 11, 12, 13, 32, 33, 34, 46], [5, 6]⟩, ⟨23, [3, 5, 6, 32, 33, 34, 46], [5, 6]⟩, ⟨37, [3, 5, 6, 32, 33, 34], [5, 6]⟩]
def gabionlaw03_PmWears.J4 (l : Option Addr) (l_n : Nat) (l_c : Nat) (d : Option Addr) (h : Heap) (Q : Value → Heap → Prop) : Prop :=
  TW Try.prog 4 131 [.code (cAt (bodyOf Try.f4) [1, 1, 1, 0]), .code (cAt (bodyOf Try.f4) [1, 1, 1, 1])] ⟨[(0, .v (.slice l l_n l_c)), (3, .v (.pointer d))], []⟩ h Q
def gabionlaw03_PmWears.L7 (d : Option Addr) (t32 : Option Addr) (t32_n : Nat) (t32_c : Nat) (t33 : Int) (t34 : Int) (want : List Value) (words : List Value) (h : Heap) (Q : Value → Heap → Prop) : Prop :=
  TW Try.prog 4 131 [.code (cAt (bodyOf Try.f4) [1, 1, 1, 1, 1, 0, 1, 0, 0]), .inLoop (cAt (bodyOf Try.f4) [1, 1, 1, 1, 1, 0, 1, 0, 0]), .inBlock 0, .code (cAt (bodyOf Try.f4) [1, 1, 1, 1, 1, 1])] ⟨[(3, .v (.pointer d)), (5, .p 5 0), (6, .p 6 0), (32, .v (.slice t32 t32_n t32_c)), (33, .v (.int .i64 t33)), (34, .v (.int .i64 t34))], [(5, want), (6, words)]⟩ h Q
def gabionlaw03_PmWears.J27 (d : Option Addr) (x : Int) (w : Int) (t32 : Option Addr) (t32_n : Nat) (t32_c : Nat) (t33 : Int) (t34 : Int) (want : List Value) (words : List Value) (h : Heap) (Q : Value → Heap → Prop) : Prop :=
  TW Try.prog 4 131 [.code (cAt (bodyOf Try.f4) [1, 1, 1, 1, 1, 0, 1, 0, 0, 1, 1, 0, 0, 1, 1, 1, 0, 1, 0, 0]), .code (cAt (bodyOf Try.f4) [1, 1, 1, 1, 1, 0, 1, 0, 0, 1, 1, 0, 0, 1, 1, 1, 0, 1, 0, 1]), .inBlock 2, .inBlock 1, .code (cAt (bodyOf Try.f4) [1, 1, 1, 1, 1, 0, 1, 0, 0, 1, 1, 1]), .inLoop (cAt (bodyOf Try.f4) [1, 1, 1, 1, 1, 0, 1, 0, 0]), .inBlock 0, .code (cAt (bodyOf Try.f4) [1, 1, 1, 1, 1, 1])] ⟨[(3, .v (.pointer d)), (5, .p 5 0), (6, .p 6 0), (8, .v (.int .u8 x)), (9, .v (.int .i64 w)), (32, .v (.slice t32 t32_n t32_c)), (33, .v (.int .i64 t33)), (34, .v (.int .i64 t34))], [(5, want), (6, words)]⟩ h Q
def gabionlaw03_PmWears.J31 (d : Option Addr) (w : Int) (t32 : Option Addr) (t32_n : Nat) (t32_c : Nat) (t33 : Int) (t34 : Int) (want : List Value) (words : List Value) (h : Heap) (Q : Value → Heap → Prop) : Prop :=
  TW Try.prog 4 131 [.code (cAt (bodyOf Try.f4) [1, 1, 1, 1, 1, 0, 1, 0, 0, 1, 1, 0, 0, 1, 1, 1, 0, 1, 1, 1, 0, 0]), .code (cAt (bodyOf Try.f4) [1, 1, 1, 1, 1, 0, 1, 0, 0, 1, 1, 0, 0, 1, 1, 1, 0, 1, 1, 1, 0, 1]), .inBlock 2, .inBlock 1, .code (cAt (bodyOf Try.f4) [1, 1, 1, 1, 1, 0, 1, 0, 0, 1, 1, 1]), .inLoop (cAt (bodyOf Try.f4) [1, 1, 1, 1, 1, 0, 1, 0, 0]), .inBlock 0, .code (cAt (bodyOf Try.f4) [1, 1, 1, 1, 1, 1])] ⟨[(3, .v (.pointer d)), (5, .p 5 0), (6, .p 6 0), (9, .v (.int .i64 w)), (32, .v (.slice t32 t32_n t32_c)), (33, .v (.int .i64 t33)), (34, .v (.int .i64 t34))], [(5, want), (6, words)]⟩ h Q
def gabionlaw03_PmWears.L33 (d : Option Addr) (w : Int) (k0_10 : Int) (t32 : Option Addr) (t32_n : Nat) (t32_c : Nat) (t33 : Int) (t34 : Int) (want : List Value) (words : List Value) (h : Heap) (Q : Value → Heap → Prop) : Prop :=
  TW Try.prog 4 131 [.code (cAt (bodyOf Try.f4) [1, 1, 1, 1, 1, 0, 1, 0, 0, 1, 1, 0, 0, 1, 1, 1, 0, 1, 1, 1, 0, 1, 1, 0, 0]), .inLoop (cAt (bodyOf Try.f4) [1, 1, 1, 1, 1, 0, 1, 0, 0, 1, 1, 0, 0, 1, 1, 1, 0, 1, 1, 1, 0, 1, 1, 0, 0]), .inBlock 7, .inBlock 2, .inBlock 1, .code (cAt (bodyOf Try.f4) [1, 1, 1, 1, 1, 0, 1, 0, 0, 1, 1, 1]), .inLoop (cAt (bodyOf Try.f4) [1, 1, 1, 1, 1, 0, 1, 0, 0]), .inBlock 0, .code (cAt (bodyOf Try.f4) [1, 1, 1, 1, 1, 1])] ⟨[(3, .v (.pointer d)), (5, .p 5 0), (6, .p 6 0), (9, .v (.int .i64 w)), (10, .v (.int .i64 k0_10)), (32, .v (.slice t32 t32_n t32_c)), (33, .v (.int .i64 t33)), (34, .v (.int .i64 t34))], [(5, want), (6, words)]⟩ h Q
def gabionlaw03_PmWears.L13 (d : Option Addr) (t32 : Option Addr) (t32_n : Nat) (t32_c : Nat) (t33 : Int) (t34 : Int) (t46 : Int) (want : List Value) (words : List Value) (h : Heap) (Q : Value → Heap → Prop) : Prop :=
  TW Try.prog 4 131 [.code (cAt (bodyOf Try.f4) [1, 1, 1, 1, 1, 0, 1, 0, 0, 1, 1, 0, 0, 1, 1, 1, 0, 1, 1, 1, 1, 1, 1, 0, 0]), .inLoop (cAt (bodyOf Try.f4) [1, 1, 1, 1, 1, 0, 1, 0, 0, 1, 1, 0, 0, 1, 1, 1, 0, 1, 1, 1, 1, 1, 1, 0, 0]), .inBlock 3, .inBlock 2, .inBlock 1, .code (cAt (bodyOf Try.f4) [1, 1, 1, 1, 1, 0, 1, 0, 0, 1, 1, 1]), .inLoop (cAt (bodyOf Try.f4) [1, 1, 1, 1, 1, 0, 1, 0, 0]), .inBlock 0, .code (cAt (bodyOf Try.f4) [1, 1, 1, 1, 1, 1])] ⟨[(3, .v (.pointer d)), (5, .p 5 0), (6, .p 6 0), (32, .v (.slice t32 t32_n t32_c)), (33, .v (.int .i64 t33)), (34, .v (.int .i64 t34)), (46, .v (.int .i64 t46))], [(5, want), (6, words)]⟩ h Q
def gabionlaw03_PmWears.L17 (d : Option Addr) (line : Int) (some : Bool) (k0_13 : Int) (t32 : Option Addr) (t32_n : Nat) (t32_c : Nat) (t33 : Int) (t34 : Int) (t46 : Int) (want : List Value) (words : List Value) (h : Heap) (Q : Value → Heap → Prop) : Prop :=
  TW Try.prog 4 131 [.code (cAt (bodyOf Try.f4) [1, 1, 1, 1, 1, 0, 1, 0, 0, 1, 1, 0, 0, 1, 1, 1, 0, 1, 1, 1, 1, 1, 1, 0, 0, 1, 1, 0, 0, 1, 1, 0, 1, 0, 0]), .inLoop (cAt (bodyOf Try.f4) [1, 1, 1, 1, 1, 0, 1, 0, 0, 1, 1, 0, 0, 1, 1, 1, 0, 1, 1, 1, 1, 1, 1, 0, 0, 1, 1, 0, 0, 1, 1, 0, 1, 0, 0]), .inBlock 5, .code (cAt (bodyOf Try.f4) [1, 1, 1, 1, 1, 0, 1, 0, 0, 1, 1, 0, 0, 1, 1, 1, 0, 1, 1, 1, 1, 1, 1, 0, 0, 1, 1, 0, 0, 1, 1, 1]), .inBlock 4, .code (cAt (bodyOf Try.f4) [1, 1, 1, 1, 1, 0, 1, 0, 0, 1, 1, 0, 0, 1, 1, 1, 0, 1, 1, 1, 1, 1, 1, 0, 0, 1, 1, 1]), .inLoop (cAt (bodyOf Try.f4) [1, 1, 1, 1, 1, 0, 1, 0, 0, 1, 1, 0, 0, 1, 1, 1, 0, 1, 1, 1, 1, 1, 1, 0, 0]), .inBlock 3, .inBlock 2, .inBlock 1, .code (cAt (bodyOf Try.f4) [1, 1, 1, 1, 1, 0, 1, 0, 0, 1, 1, 1]), .inLoop (cAt (bodyOf Try.f4) [1, 1, 1, 1, 1, 0, 1, 0, 0]), .inBlock 0, .code (cAt (bodyOf Try.f4) [1, 1, 1, 1, 1, 1])] ⟨[(3, .v (.pointer d)), (5, .p 5 0), (6, .p 6 0), (11, .v (.int .i64 line)), (12, .v (.bool some)), (13, .v (.int .i64 k0_13)), (32, .v (.slice t32 t32_n t32_c)), (33, .v (.int .i64 t33)), (34, .v (.int .i64 t34)), (46, .v (.int .i64 t46))], [(5, want), (6, words)]⟩ h Q
def gabionlaw03_PmWears.J18 (d : Option Addr) (line : Int) (some : Bool) (k0_13 : Int) (t32 : Option Addr) (t32_n : Nat) (t32_c : Nat) (t33 : Int) (t34 : Int) (t46 : Int) (want : List Value) (words : List Value) (h : Heap) (Q : Value → Heap → Prop) : Prop :=
  TW Try.prog 4 131 [.code (cAt (bodyOf Try.f4) [1, 1, 1, 1, 1, 0, 1, 0, 0, 1, 1, 0, 0, 1, 1, 1, 0, 1, 1, 1, 1, 1, 1, 0, 0, 1, 1, 0, 0, 1, 1, 0, 1, 0, 0, 1, 1]), .inLoop (cAt (bodyOf Try.f4) [1, 1, 1, 1, 1, 0, 1, 0, 0, 1, 1, 0, 0, 1, 1, 1, 0, 1, 1, 1, 1, 1, 1, 0, 0, 1, 1, 0, 0, 1, 1, 0, 1, 0, 0]), .inBlock 5, .code (cAt (bodyOf Try.f4) [1, 1, 1, 1, 1, 0, 1, 0, 0, 1, 1, 0, 0, 1, 1, 1, 0, 1, 1, 1, 1, 1, 1, 0, 0, 1, 1, 0, 0, 1, 1, 1]), .inBlock 4, .code (cAt (bodyOf Try.f4) [1, 1, 1, 1, 1, 0, 1, 0, 0, 1, 1, 0, 0, 1, 1, 1, 0, 1, 1, 1, 1, 1, 1, 0, 0, 1, 1, 1]), .inLoop (cAt (bodyOf Try.f4) [1, 1, 1, 1, 1, 0, 1, 0, 0, 1, 1, 0, 0, 1, 1, 1, 0, 1, 1, 1, 1, 1, 1, 0, 0]), .inBlock 3, .inBlock 2, .inBlock 1, .code (cAt (bodyOf Try.f4) [1, 1, 1, 1, 1, 0, 1, 0, 0, 1, 1, 1]), .inLoop (cAt (bodyOf Try.f4) [1, 1, 1, 1, 1, 0, 1, 0, 0]), .inBlock 0, .code (cAt (bodyOf Try.f4) [1, 1, 1, 1, 1, 1])] ⟨[(3, .v (.pointer d)), (5, .p 5 0), (6, .p 6 0), (11, .v (.int .i64 line)), (12, .v (.bool some)), (13, .v (.int .i64 k0_13)), (32, .v (.slice t32 t32_n t32_c)), (33, .v (.int .i64 t33)), (34, .v (.int .i64 t34)), (46, .v (.int .i64 t46))], [(5, want), (6, words)]⟩ h Q
def gabionlaw03_PmWears.J23 (d : Option Addr) (t32 : Option Addr) (t32_n : Nat) (t32_c : Nat) (t33 : Int) (t34 : Int) (t46 : Int) (want : List Value) (words : List Value) (h : Heap) (Q : Value → Heap → Prop) : Prop :=
  TW Try.prog 4 131 [.code (cAt (bodyOf Try.f4) [1, 1, 1, 1, 1, 0, 1, 0, 0, 1, 1, 0, 0, 1, 1, 1, 0, 1, 1, 1, 1, 1, 1, 0, 0, 1, 1, 1]), .inLoop (cAt (bodyOf Try.f4) [1, 1, 1, 1, 1, 0, 1, 0, 0, 1, 1, 0, 0, 1, 1, 1, 0, 1, 1, 1, 1, 1, 1, 0, 0]), .inBlock 3, .inBlock 2, .inBlock 1, .code (cAt (bodyOf Try.f4) [1, 1, 1, 1, 1, 0, 1, 0, 0, 1, 1, 1]), .inLoop (cAt (bodyOf Try.f4) [1, 1, 1, 1, 1, 0, 1, 0, 0]), .inBlock 0, .code (cAt (bodyOf Try.f4) [1, 1, 1, 1, 1, 1])] ⟨[(3, .v (.pointer d)), (5, .p 5 0), (6, .p 6 0), (32, .v (.slice t32 t32_n t32_c)), (33, .v (.int .i64 t33)), (34, .v (.int .i64 t34)), (46, .v (.int .i64 t46))], [(5, want), (6, words)]⟩ h Q
def gabionlaw03_PmWears.J37 (d : Option Addr) (t32 : Option Addr) (t32_n : Nat) (t32_c : Nat) (t33 : Int) (t34 : Int) (want : List Value) (words : List Value) (h : Heap) (Q : Value → Heap → Prop) : Prop :=
  TW Try.prog 4 131 [.code (cAt (bodyOf Try.f4) [1, 1, 1, 1, 1, 0, 1, 0, 0, 1, 1, 1]), .inLoop (cAt (bodyOf Try.f4) [1, 1, 1, 1, 1, 0, 1, 0, 0]), .inBlock 0, .code (cAt (bodyOf Try.f4) [1, 1, 1, 1, 1, 1])] ⟨[(3, .v (.pointer d)), (5, .p 5 0), (6, .p 6 0), (32, .v (.slice t32 t32_n t32_c)), (33, .v (.int .i64 t33)), (34, .v (.int .i64 t34))], [(5, want), (6, words)]⟩ h Q
def gabionlaw03_PmWears.wp (l : Option Addr) (l_n : Nat) (l_c : Nat) (h : Heap) (Q : Value → Heap → Prop) : Prop :=
  C Try.prog 12 #[Value.int IntKind.i64 3] h fun (r : Value) (h' : Heap) =>
    ∃ (x : Option Addr),
      ∃ (x_1 : Int),
        r = Value.tuple #[Value.pointer x, Value.int IntKind.i64 x_1] ∧
          C Try.prog 13 #[] h' fun (r : Value) (h' : Heap) =>
            ∃ (x_2 : Bool), r = Value.bool x_2 ∧ xsIf (!x_2) (Q (Value.bool false) h') (xsIf (decide (x_1 ≠ 0)) (Q (Value.bool false) h') (xsIf x.isNone (Q (Value.bool false) h') (gabionlaw03_PmWears.J4 l l_n l_c x h' Q)))
def gabionlaw03_PmWears.J4.wp (l : Option Addr) (l_n : Nat) (l_c : Nat) (d : Option Addr) (h : Heap) (Q : Value → Heap → Prop) : Prop :=
  (0 ≤ imin (↑l_n : Int) 80 ∧ imin (↑l_n : Int) 80 ≤ (↑l_c : Int)) ∧
    gabionlaw03_PmWears.L7 d (slBase l (↑l_c : Int) 0 1) (imin (↑l_n : Int) 80 - 0).toNat ((↑l_c : Int) - 0).toNat (↑(imin (↑l_n : Int) 80 - 0).toNat : Int) 0 [Value.int IntKind.i64 0, Value.int IntKind.i64 0, Value.int IntKind.i64 0]
      [Value.int IntKind.u8 0, Value.int IntKind.u8 0, Value.int IntKind.u8 0, Value.int IntKind.u8 0, Value.int IntKind.u8 0, Value.int IntKind.u8 0, Value.int IntKind.u8 0, Value.int IntKind.u8 0, Value.int IntKind.u8 0,
        Value.int IntKind.u8 0, Value.int IntKind.u8 0, Value.int IntKind.u8 0, Value.int IntKind.u8 0, Value.int IntKind.u8 0, Value.int IntKind.u8 0, Value.int IntKind.u8 0, Value.int IntKind.u8 0, Value.int IntKind.u8 0,
        Value.int IntKind.u8 0, Value.int IntKind.u8 0, Value.int IntKind.u8 0, Value.int IntKind.u8 0, Value.int IntKind.u8 0, Value.int IntKind.u8 0]
      h Q
def gabionlaw03_PmWears.L7.wp (d : Option Addr) (t32 : Option Addr) (t32_n : Nat) (t32_c : Nat) (t33 : Int) (t34 : Int) (want : List Value) (words : List Value) (h : Heap) (Q : Value → Heap → Prop) : Prop :=
  xsIf (decide (t34 < t33))
    ((0 ≤ t34 ∧ t34 < (↑t32_n : Int)) ∧
      atBase t32 fun (b o : Nat) =>
        ∃ (x : Int),
          h.cell b (o + t34.toNat * 1) = some (Value.int IntKind.u8 x) ∧
            xsIf (decide (irem (iquo IntKind.u8 x 24) 6 = 0))
              (xsIf (decide (irem (iquo IntKind.u8 x 24) 6 = 0)) (gabionlaw03_PmWears.J27 d x (irem (IntKind.i64.wrap x) 24) t32 t32_n t32_c t33 t34 want words h Q)
                (xsIf (decide (irem (iquo IntKind.u8 x 24) 6 = 3))
                  (xsIf (decide (irem (iquo IntKind.u8 x 24) 6 = 3)) (gabionlaw03_PmWears.J31 d (irem (IntKind.i64.wrap x) 24) t32 t32_n t32_c t33 t34 want words h Q)
                    (C Try.prog 16 #[Value.pointer d] h fun (r : Value) (h' : Heap) => ∃ (x : Int), r = Value.int IntKind.i64 x ∧ gabionlaw03_PmWears.L13 d t32 t32_n t32_c t33 t34 0 want words h' Q))
                  (xsIf (decide (irem (iquo IntKind.u8 x 24) 6 = 4)) (gabionlaw03_PmWears.J31 d (irem (IntKind.i64.wrap x) 24) t32 t32_n t32_c t33 t34 want words h Q)
                    (C Try.prog 16 #[Value.pointer d] h fun (r : Value) (h' : Heap) => ∃ (x : Int), r = Value.int IntKind.i64 x ∧ gabionlaw03_PmWears.L13 d t32 t32_n t32_c t33 t34 0 want words h' Q))))
              (xsIf (decide (irem (iquo IntKind.u8 x 24) 6 = 1))
                (xsIf (decide (irem (iquo IntKind.u8 x 24) 6 = 1)) (gabionlaw03_PmWears.J27 d x (irem (IntKind.i64.wrap x) 24) t32 t32_n t32_c t33 t34 want words h Q)
                  (xsIf (decide (irem (iquo IntKind.u8 x 24) 6 = 3))
                    (xsIf (decide (irem (iquo IntKind.u8 x 24) 6 = 3)) (gabionlaw03_PmWears.J31 d (irem (IntKind.i64.wrap x) 24) t32 t32_n t32_c t33 t34 want words h Q)
                      (C Try.prog 16 #[Value.pointer d] h fun (r : Value) (h' : Heap) => ∃ (x : Int), r = Value.int IntKind.i64 x ∧ gabionlaw03_PmWears.L13 d t32 t32_n t32_c t33 t34 0 want words h' Q))
                    (xsIf (decide (irem (iquo IntKind.u8 x 24) 6 = 4)) (gabionlaw03_PmWears.J31 d (irem (IntKind.i64.wrap x) 24) t32 t32_n t32_c t33 t34 want words h Q)
                      (C Try.prog 16 #[Value.pointer d] h fun (r : Value) (h' : Heap) => ∃ (x : Int), r = Value.int IntKind.i64 x ∧ gabionlaw03_PmWears.L13 d t32 t32_n t32_c t33 t34 0 want words h' Q))))
                (xsIf (decide (irem (iquo IntKind.u8 x 24) 6 = 2)) (gabionlaw03_PmWears.J27 d x (irem (IntKind.i64.wrap x) 24) t32 t32_n t32_c t33 t34 want words h Q)
                  (xsIf (decide (irem (iquo IntKind.u8 x 24) 6 = 3))
                    (xsIf (decide (irem (iquo IntKind.u8 x 24) 6 = 3)) (gabionlaw03_PmWears.J31 d (irem (IntKind.i64.wrap x) 24) t32 t32_n t32_c t33 t34 want words h Q)
                      (C Try.prog 16 #[Value.pointer d] h fun (r : Value) (h' : Heap) => ∃ (x : Int), r = Value.int IntKind.i64 x ∧ gabionlaw03_PmWears.L13 d t32 t32_n t32_c t33 t34 0 want words h' Q))
                    (xsIf (decide (irem (iquo IntKind.u8 x 24) 6 = 4)) (gabionlaw03_PmWears.J31 d (irem (IntKind.i64.wrap x) 24) t32 t32_n t32_c t33 t34 want words h Q)
                      (C Try.prog 16 #[Value.pointer d] h fun (r : Value) (h' : Heap) => ∃ (x : Int), r = Value.int IntKind.i64 x ∧ gabionlaw03_PmWears.L13 d t32 t32_n t32_c t33 t34 0 want words h' Q))))))
    (∃ (x : Int),
      lget want 0 = some (Value.int IntKind.i64 x) ∧
        C Try.prog 21 #[Value.pointer d, Value.int IntKind.i64 0] h fun (r : Value) (h' : Heap) =>
          ∃ (x_1 : Int),
            r = Value.int IntKind.i64 x_1 ∧
              xsIf (decide (x_1 = x))
                (∃ (x : Int),
                  lget want 1 = some (Value.int IntKind.i64 x) ∧
                    C Try.prog 21 #[Value.pointer d, Value.int IntKind.i64 1] h' fun (r : Value) (h' : Heap) =>
                      ∃ (x_2 : Int),
                        r = Value.int IntKind.i64 x_2 ∧
                          xsIf (decide (x_2 = x))
                            (∃ (x : Int),
                              lget want 2 = some (Value.int IntKind.i64 x) ∧
                                C Try.prog 21 #[Value.pointer d, Value.int IntKind.i64 2] h' fun (r : Value) (h' : Heap) => ∃ (x_3 : Int), r = Value.int IntKind.i64 x_3 ∧ Q (Value.bool (decide (x_3 = x))) h')
                            (Q (Value.bool false) h'))
                (Q (Value.bool false) h'))
def gabionlaw03_PmWears.J27.wp (d : Option Addr) (x : Int) (w : Int) (t32 : Option Addr) (t32_n : Nat) (t32_c : Nat) (t33 : Int) (t34 : Int) (want : List Value) (words : List Value) (h : Heap) (Q : Value → Heap → Prop) : Prop :=
  C Try.prog 14 #[Value.pointer d, Value.int IntKind.i64 w, Value.int IntKind.u64 (IntKind.u64.wrap x)] h fun (r : Value) (h' : Heap) =>
    ∃ (x : Int), r = Value.int IntKind.i64 x ∧ (0 ≤ w ∧ w < (↑24 : Int)) ∧ 0 + w.toNat * 1 + 1 ≤ words.length ∧ gabionlaw03_PmWears.J37 d t32 t32_n t32_c t33 t34 want (lput words (0 + w.toNat * 1) [Value.int IntKind.u8 1]) h' Q
def gabionlaw03_PmWears.J31.wp (d : Option Addr) (w : Int) (t32 : Option Addr) (t32_n : Nat) (t32_c : Nat) (t33 : Int) (t34 : Int) (want : List Value) (words : List Value) (h : Heap) (Q : Value → Heap → Prop) : Prop :=
  C Try.prog 15 #[Value.pointer d, Value.int IntKind.i64 (iquo IntKind.i64 w 8)] h fun (r : Value) (h' : Heap) =>
    ∃ (x : Int), r = Value.int IntKind.i64 x ∧ gabionlaw03_PmWears.L33 d w (IntKind.i64.wrap (iquo IntKind.i64 w 8 * 8)) t32 t32_n t32_c t33 t34 want words h' Q
def gabionlaw03_PmWears.L33.wp (d : Option Addr) (w : Int) (k0_10 : Int) (t32 : Option Addr) (t32_n : Nat) (t32_c : Nat) (t33 : Int) (t34 : Int) (want : List Value) (words : List Value) (h : Heap) (Q : Value → Heap → Prop) : Prop :=
  xsIf (decide (k0_10 < IntKind.i64.wrap (IntKind.i64.wrap (iquo IntKind.i64 w 8 * 8) + 8)))
    ((0 ≤ k0_10 ∧ k0_10 < (↑24 : Int)) ∧
      ∃ (x : Int),
        lget words (0 + k0_10.toNat * 1) = some (Value.int IntKind.u8 x) ∧
          (0 ≤ k0_10 ∧ k0_10 < (↑24 : Int)) ∧
            0 + k0_10.toNat * 1 + 1 ≤ words.length ∧
              (0 ≤ k0_10 ∧ k0_10 < (↑24 : Int)) ∧
                ∃ (x_1 : Int),
                  lget (lput words (0 + k0_10.toNat * 1) [Value.int IntKind.u8 (IntKind.u8.wrap (x * 2))]) (0 + k0_10.toNat * 1) = some (Value.int IntKind.u8 x_1) ∧
                    (0 ≤ k0_10 ∧ k0_10 < (↑24 : Int)) ∧
                      0 + k0_10.toNat * 1 + 1 ≤ (lput words (0 + k0_10.toNat * 1) [Value.int IntKind.u8 (IntKind.u8.wrap (x * 2))]).length ∧
                        gabionlaw03_PmWears.L33 d w (IntKind.i64.wrap (k0_10 + 1)) t32 t32_n t32_c t33 t34 want
                          (lput (lput words (0 + k0_10.toNat * 1) [Value.int IntKind.u8 (IntKind.u8.wrap (x * 2))]) (0 + k0_10.toNat * 1) [Value.int IntKind.u8 (imin x_1 2)]) h Q)
    (gabionlaw03_PmWears.J37 d t32 t32_n t32_c t33 t34 want words h Q)
def gabionlaw03_PmWears.L13.wp (d : Option Addr) (t32 : Option Addr) (t32_n : Nat) (t32_c : Nat) (t33 : Int) (t34 : Int) (t46 : Int) (want : List Value) (words : List Value) (h : Heap) (Q : Value → Heap → Prop) : Prop :=
  xsIf (decide (t46 < 3)) (gabionlaw03_PmWears.L17 d t46 false (IntKind.i64.wrap (8 * t46)) t32 t32_n t32_c t33 t34 t46 want words h Q) (gabionlaw03_PmWears.J37 d t32 t32_n t32_c t33 t34 want words h Q)
def gabionlaw03_PmWears.L17.wp (d : Option Addr) (line : Int) (some : Bool) (k0_13 : Int) (t32 : Option Addr) (t32_n : Nat) (t32_c : Nat) (t33 : Int) (t34 : Int) (t46 : Int) (want : List Value) (words : List Value) (h : Heap) (Q : Value → Heap → Prop) : Prop :=
  xsIf (decide (k0_13 < IntKind.i64.wrap (IntKind.i64.wrap (8 * line) + 8)))
    ((0 ≤ k0_13 ∧ k0_13 < (↑24 : Int)) ∧
      ∃ (x : Int),
        lget words (0 + k0_13.toNat * 1) = Option.some (Value.int IntKind.u8 x) ∧
          xsIf (decide (x = 2))
            ((0 ≤ k0_13 ∧ k0_13 < (↑24 : Int)) ∧ 0 + k0_13.toNat * 1 + 1 ≤ words.length ∧ gabionlaw03_PmWears.J18 d line true k0_13 t32 t32_n t32_c t33 t34 t46 want (lput words (0 + k0_13.toNat * 1) [Value.int IntKind.u8 0]) h Q)
            (gabionlaw03_PmWears.J18 d line some k0_13 t32 t32_n t32_c t33 t34 t46 want words h Q))
    (xsIf some
      ((0 ≤ line ∧ line < (↑3 : Int)) ∧
        ∃ (x : Int),
          lget want (0 + line.toNat * 1) = Option.some (Value.int IntKind.i64 x) ∧
            (0 ≤ line ∧ line < (↑3 : Int)) ∧ 0 + line.toNat * 1 + 1 ≤ want.length ∧ gabionlaw03_PmWears.J23 d t32 t32_n t32_c t33 t34 t46 (lput want (0 + line.toNat * 1) [Value.int IntKind.i64 (IntKind.i64.wrap (x + 1))]) words h Q)
      (gabionlaw03_PmWears.J23 d t32 t32_n t32_c t33 t34 t46 want words h Q))
def gabionlaw03_PmWears.J18.wp (d : Option Addr) (line : Int) (some : Bool) (k0_13 : Int) (t32 : Option Addr) (t32_n : Nat) (t32_c : Nat) (t33 : Int) (t34 : Int) (t46 : Int) (want : List Value) (words : List Value) (h : Heap) (Q : Value → Heap → Prop) : Prop :=
  gabionlaw03_PmWears.L17 d line some (IntKind.i64.wrap (k0_13 + 1)) t32 t32_n t32_c t33 t34 t46 want words h Q
def gabionlaw03_PmWears.J23.wp (d : Option Addr) (t32 : Option Addr) (t32_n : Nat) (t32_c : Nat) (t33 : Int) (t34 : Int) (t46 : Int) (want : List Value) (words : List Value) (h : Heap) (Q : Value → Heap → Prop) : Prop :=
  gabionlaw03_PmWears.L13 d t32 t32_n t32_c t33 t34 (IntKind.i64.wrap (t46 + 1)) want words h Q
def gabionlaw03_PmWears.J37.wp (d : Option Addr) (t32 : Option Addr) (t32_n : Nat) (t32_c : Nat) (t33 : Int) (t34 : Int) (want : List Value) (words : List Value) (h : Heap) (Q : Value → Heap → Prop) : Prop :=
  gabionlaw03_PmWears.L7 d t32 t32_n t32_c t33 (IntKind.i64.wrap (t34 + 1)) want words h Q
theorem gabionlaw03_PmWears.ok {l : Option Addr} {l_n : Nat} {l_c : Nat} {h : Heap} {Q : Value → Heap → Prop} (hk : gabionlaw03_PmWears.wp l l_n l_c h Q) : C Try.prog 4 #[.slice l l_n l_c] h Q :=
  C_of_xs (H := gabionlaw03_PmWears.H) (lcuts := gabionlaw03_PmWears.lc) (rcuts := gabionlaw03_PmWears.rc) (l := [.slice l l_n l_c]) 2000 mixed Try.func4 rfl (by kernel_rfl) (Eq.mp (by kernel_rfl) hk)
theorem gabionlaw03_PmWears.J4.ok {l : Option Addr} {l_n : Nat} {l_c : Nat} {d : Option Addr} {h : Heap} {Q : Value → Heap → Prop} (hk : gabionlaw03_PmWears.J4.wp l l_n l_c d h Q) : gabionlaw03_PmWears.J4 l l_n l_c d h Q :=
  xs_ok (H := gabionlaw03_PmWears.H) (lcuts := gabionlaw03_PmWears.lc) (rcuts := [⟨27, [3, 5, 6, 8, 9, 32, 33, 34], [5, 6]⟩, ⟨31, [3, 5, 6, 9, 32, 33, 34], [5, 6]⟩, ⟨18, [3, 5, 6, 11, 12, 13, 32, 33, 34, 46], [5, 6]⟩, ⟨23, [3, 5, 6, 32, 33, 34, 46], [5, 6]⟩, ⟨37, [3, 5, 6, 32, 33, 34], [5, 6]⟩]) (fn := Try.f4) mixed Try.func4 2000 _ _ _ (Eq.mp (by kernel_rfl) hk)
theorem gabionlaw03_PmWears.L7.ok {d : Option Addr} {t32 : Option Addr} {t32_n : Nat} {t32_c : Nat} {t33 : Int} {t34 : Int} {want : List Value} {words : List Value} {h : Heap} {Q : Value → Heap → Prop} (hk : gabionlaw03_PmWears.L7.wp d t32 t32_n t32_c t33 t34 want words h Q) : gabionlaw03_PmWears.L7 d t32 t32_n t32_c t33 t34 want words h Q :=
  xs_ok (H := gabionlaw03_PmWears.H) (lcuts := gabionlaw03_PmWears.lc) (rcuts := gabionlaw03_PmWears.rc) (fn := Try.f4) mixed Try.func4 2000 _ _ _ (Eq.mp (by kernel_rfl) hk)
theorem gabionlaw03_PmWears.J27.ok {d : Option Addr} {x : Int} {w : Int} {t32 : Option Addr} {t32_n : Nat} {t32_c : Nat} {t33 : Int} {t34 : Int} {want : List Value} {words : List Value} {h : Heap} {Q : Value → Heap → Prop} (hk : gabionlaw03_PmWears.J27.wp d x w t32 t32_n t32_c t33 t34 want words h Q) : gabionlaw03_PmWears.J27 d x w t32 t32_n t32_c t33 t34 want words h Q :=
  xs_ok (H := gabionlaw03_PmWears.H) (lcuts := gabionlaw03_PmWears.lc) (rcuts := [⟨4, [0, 3], []⟩, ⟨31, [3, 5, 6, 9, 32, 33, 34], [5, 6]⟩, ⟨18, [3, 5, 6, 11, 12, 13, 32, 33, 34, 46], [5, 6]⟩, ⟨23, [3, 5, 6, 32, 33, 34, 46], [5, 6]⟩, ⟨37, [3, 5, 6, 32, 33, 34], [5, 6]⟩]) (fn := Try.f4) mixed Try.func4 2000 _ _ _ (Eq.mp (by kernel_rfl) hk)
theorem gabionlaw03_PmWears.J31.ok {d : Option Addr} {w : Int} {t32 : Option Addr} {t32_n : Nat} {t32_c : Nat} {t33 : Int} {t34 : Int} {want : List Value} {words : List Value} {h : Heap} {Q : Value → Heap → Prop} (hk : gabionlaw03_PmWears.J31.wp d w t32 t32_n t32_c t33 t34 want words h Q) : gabionlaw03_PmWears.J31 d w t32 t32_n t32_c t33 t34 want words h Q :=
  xs_ok (H := gabionlaw03_PmWears.H) (lcuts := gabionlaw03_PmWears.lc) (rcuts := [⟨4, [0, 3], []⟩, ⟨27, [3, 5, 6, 8, 9, 32, 33, 34], [5, 6]⟩, ⟨18, [3, 5, 6, 11, 12, 13, 32, 33, 34, 46], [5, 6]⟩, ⟨23, [3, 5, 6, 32, 33, 34, 46], [5, 6]⟩, ⟨37, [3, 5, 6, 32, 33, 34], [5, 6]⟩]) (fn := Try.f4) mixed Try.func4 2000 _ _ _ (Eq.mp (by kernel_rfl) hk)
theorem gabionlaw03_PmWears.L33.ok {d : Option Addr} {w : Int} {k0_10 : Int} {t32 : Option Addr} {t32_n : Nat} {t32_c : Nat} {t33 : Int} {t34 : Int} {want : List Value} {words : List Value} {h : Heap} {Q : Value → Heap → Prop} (hk : gabionlaw03_PmWears.L33.wp d w k0_10 t32 t32_n t32_c t33 t34 want words h Q) : gabionlaw03_PmWears.L33 d w k0_10 t32 t32_n t32_c t33 t34 want words h Q :=
  xs_ok (H := gabionlaw03_PmWears.H) (lcuts := gabionlaw03_PmWears.lc) (rcuts := gabionlaw03_PmWears.rc) (fn := Try.f4) mixed Try.func4 2000 _ _ _ (Eq.mp (by kernel_rfl) hk)
theorem gabionlaw03_PmWears.L13.ok {d : Option Addr} {t32 : Option Addr} {t32_n : Nat} {t32_c : Nat} {t33 : Int} {t34 : Int} {t46 : Int} {want : List Value} {words : List Value} {h : Heap} {Q : Value → Heap → Prop} (hk : gabionlaw03_PmWears.L13.wp d t32 t32_n t32_c t33 t34 t46 want words h Q) : gabionlaw03_PmWears.L13 d t32 t32_n t32_c t33 t34 t46 want words h Q :=
  xs_ok (H := gabionlaw03_PmWears.H) (lcuts := gabionlaw03_PmWears.lc) (rcuts := gabionlaw03_PmWears.rc) (fn := Try.f4) mixed Try.func4 2000 _ _ _ (Eq.mp (by kernel_rfl) hk)
theorem gabionlaw03_PmWears.L17.ok {d : Option Addr} {line : Int} {some : Bool} {k0_13 : Int} {t32 : Option Addr} {t32_n : Nat} {t32_c : Nat} {t33 : Int} {t34 : Int} {t46 : Int} {want : List Value} {words : List Value} {h : Heap} {Q : Value → Heap → Prop} (hk : gabionlaw03_PmWears.L17.wp d line some k0_13 t32 t32_n t32_c t33 t34 t46 want words h Q) : gabionlaw03_PmWears.L17 d line some k0_13 t32 t32_n t32_c t33 t34 t46 want words h Q :=
  xs_ok (H := gabionlaw03_PmWears.H) (lcuts := gabionlaw03_PmWears.lc) (rcuts := gabionlaw03_PmWears.rc) (fn := Try.f4) mixed Try.func4 2000 _ _ _ (Eq.mp (by kernel_rfl) hk)
theorem gabionlaw03_PmWears.J18.ok {d : Option Addr} {line : Int} {some : Bool} {k0_13 : Int} {t32 : Option Addr} {t32_n : Nat} {t32_c : Nat} {t33 : Int} {t34 : Int} {t46 : Int} {want : List Value} {words : List Value} {h : Heap} {Q : Value → Heap → Prop} (hk : gabionlaw03_PmWears.J18.wp d line some k0_13 t32 t32_n t32_c t33 t34 t46 want words h Q) : gabionlaw03_PmWears.J18 d line some k0_13 t32 t32_n t32_c t33 t34 t46 want words h Q :=
  xs_ok (H := gabionlaw03_PmWears.H) (lcuts := gabionlaw03_PmWears.lc) (rcuts := [⟨4, [0, 3], []⟩, ⟨27, [3, 5, 6, 8, 9, 32, 33, 34], [5, 6]⟩, ⟨31, [3, 5, 6, 9, 32, 33, 34], [5, 6]⟩, ⟨23, [3, 5, 6, 32, 33, 34, 46], [5, 6]⟩, ⟨37, [3, 5, 6, 32, 33, 34], [5, 6]⟩]) (fn := Try.f4) mixed Try.func4 2000 _ _ _ (Eq.mp (by kernel_rfl) hk)
theorem gabionlaw03_PmWears.J23.ok {d : Option Addr} {t32 : Option Addr} {t32_n : Nat} {t32_c : Nat} {t33 : Int} {t34 : Int} {t46 : Int} {want : List Value} {words : List Value} {h : Heap} {Q : Value → Heap → Prop} (hk : gabionlaw03_PmWears.J23.wp d t32 t32_n t32_c t33 t34 t46 want words h Q) : gabionlaw03_PmWears.J23 d t32 t32_n t32_c t33 t34 t46 want words h Q :=
  xs_ok (H := gabionlaw03_PmWears.H) (lcuts := gabionlaw03_PmWears.lc) (rcuts := [⟨4, [0, 3], []⟩, ⟨27, [3, 5, 6, 8, 9, 32, 33, 34], [5, 6]⟩, ⟨31, [3, 5, 6, 9, 32, 33, 34], [5, 6]⟩, ⟨18, [3, 5, 6, 11, 12, 13, 32, 33, 34, 46], [5, 6]⟩, ⟨37, [3, 5, 6, 32, 33, 34], [5, 6]⟩]) (fn := Try.f4) mixed Try.func4 2000 _ _ _ (Eq.mp (by kernel_rfl) hk)
theorem gabionlaw03_PmWears.J37.ok {d : Option Addr} {t32 : Option Addr} {t32_n : Nat} {t32_c : Nat} {t33 : Int} {t34 : Int} {want : List Value} {words : List Value} {h : Heap} {Q : Value → Heap → Prop} (hk : gabionlaw03_PmWears.J37.wp d t32 t32_n t32_c t33 t34 want words h Q) : gabionlaw03_PmWears.J37 d t32 t32_n t32_c t33 t34 want words h Q :=
  xs_ok (H := gabionlaw03_PmWears.H) (lcuts := gabionlaw03_PmWears.lc) (rcuts := [⟨4, [0, 3], []⟩, ⟨27, [3, 5, 6, 8, 9, 32, 33, 34], [5, 6]⟩, ⟨31, [3, 5, 6, 9, 32, 33, 34], [5, 6]⟩, ⟨18, [3, 5, 6, 11, 12, 13, 32, 33, 34, 46], [5, 6]⟩, ⟨23, [3, 5, 6, 32, 33, 34, 46], [5, 6]⟩]) (fn := Try.f4) mixed Try.func4 2000 _ _ _ (Eq.mp (by kernel_rfl) hk)

/-! gabion/gabionref03.New -/
def gabionref03_New.H : Hn := ⟨[11], [], [⟨1, .q 0 (.q 1 (.q 3 (.q 5 (.br 2 (.br 4 (.q 6 (.q 7 (.q 8 (.q 9 (.nil))))) (.one 6 (.q 4 (.q 7 (.q 8 (.q 9 (.nil))))))) (.br 4 (.br 2 (.q 6 (.q 7 (.q 8 (.q 9 (.nil))))) (.one 6 (.q 2 (.q 7 (.q 8 (.q 9 (.nil))))))) (.one 6 (.br 2 (.q 4 (.q 7 (.q 8 (.q 9 (.nil))))) (.one 4 (.q 2 (.q 7 (.q 8 (.q 9 (.nil))))))))))))), [11]⟩], []⟩
def gabionref03_New.lc : List Cut := []
def gabionref03_New.rc : List Cut := []
def gabionref03_New.wp (lines : Int) (h : Heap) (Q : Value → Heap → Prop) : Prop :=
  (xsMk Try.prog 106 h (IntKind.i64.wrap (8 * lines)) (IntKind.i64.wrap (8 * lines)) fun (a : Option Addr) (n' c' : Nat) (h' : Heap) =>
      (xsMk Try.prog 3 h' lines lines fun (a_1 : Option Addr) (n'_1 c'_1 : Nat) (h' : Heap) =>
          xsMk Try.prog 4 h' lines lines fun (a_2 : Option Addr) (n'_2 c'_2 : Nat) (h' : Heap) =>
            ∀ (b : Nat),
              h' b = none →
                Q (Value.pointer (some { block := b, off := 0 }))
                  (upd h' b (Obj.cells #[Value.slice a n' c', Value.slice a_1 n'_1 c'_1, Value.slice a_2 n'_2 c'_2, Value.int IntKind.i64 0, Value.bool false, Value.int IntKind.i64 0] 78 (0, 0)))) ∧
        xsMk Try.prog 4 h' lines lines fun (a_1 : Option Addr) (n'_1 c'_1 : Nat) (h' : Heap) =>
          xsMk Try.prog 3 h' lines lines fun (a_2 : Option Addr) (n'_2 c'_2 : Nat) (h' : Heap) =>
            ∀ (b : Nat),
              h' b = none →
                Q (Value.pointer (some { block := b, off := 0 }))
                  (upd h' b (Obj.cells #[Value.slice a n' c', Value.slice a_2 n'_2 c'_2, Value.slice a_1 n'_1 c'_1, Value.int IntKind.i64 0, Value.bool false, Value.int IntKind.i64 0] 78 (0, 0)))) ∧
    (xsMk Try.prog 3 h lines lines fun (a : Option Addr) (n' c' : Nat) (h' : Heap) =>
        (xsMk Try.prog 106 h' (IntKind.i64.wrap (8 * lines)) (IntKind.i64.wrap (8 * lines)) fun (a_1 : Option Addr) (n'_1 c'_1 : Nat) (h' : Heap) =>
            xsMk Try.prog 4 h' lines lines fun (a_2 : Option Addr) (n'_2 c'_2 : Nat) (h' : Heap) =>
              ∀ (b : Nat),
                h' b = none →
                  Q (Value.pointer (some { block := b, off := 0 }))
                    (upd h' b (Obj.cells #[Value.slice a_1 n'_1 c'_1, Value.slice a n' c', Value.slice a_2 n'_2 c'_2, Value.int IntKind.i64 0, Value.bool false, Value.int IntKind.i64 0] 78 (0, 0)))) ∧
          xsMk Try.prog 4 h' lines lines fun (a_1 : Option Addr) (n'_1 c'_1 : Nat) (h' : Heap) =>
            xsMk Try.prog 106 h' (IntKind.i64.wrap (8 * lines)) (IntKind.i64.wrap (8 * lines)) fun (a_2 : Option Addr) (n'_2 c'_2 : Nat) (h' : Heap) =>
              ∀ (b : Nat),
                h' b = none →
                  Q (Value.pointer (some { block := b, off := 0 }))
                    (upd h' b (Obj.cells #[Value.slice a_2 n'_2 c'_2, Value.slice a n' c', Value.slice a_1 n'_1 c'_1, Value.int IntKind.i64 0, Value.bool false, Value.int IntKind.i64 0] 78 (0, 0)))) ∧
      xsMk Try.prog 4 h lines lines fun (a : Option Addr) (n' c' : Nat) (h' : Heap) =>
        (xsMk Try.prog 106 h' (IntKind.i64.wrap (8 * lines)) (IntKind.i64.wrap (8 * lines)) fun (a_1 : Option Addr) (n'_1 c'_1 : Nat) (h' : Heap) =>
            xsMk Try.prog 3 h' lines lines fun (a_2 : Option Addr) (n'_2 c'_2 : Nat) (h' : Heap) =>
              ∀ (b : Nat),
                h' b = none →
                  Q (Value.pointer (some { block := b, off := 0 }))
                    (upd h' b (Obj.cells #[Value.slice a_1 n'_1 c'_1, Value.slice a_2 n'_2 c'_2, Value.slice a n' c', Value.int IntKind.i64 0, Value.bool false, Value.int IntKind.i64 0] 78 (0, 0)))) ∧
          xsMk Try.prog 3 h' lines lines fun (a_1 : Option Addr) (n'_1 c'_1 : Nat) (h' : Heap) =>
            xsMk Try.prog 106 h' (IntKind.i64.wrap (8 * lines)) (IntKind.i64.wrap (8 * lines)) fun (a_2 : Option Addr) (n'_2 c'_2 : Nat) (h' : Heap) =>
              ∀ (b : Nat),
                h' b = none →
                  Q (Value.pointer (some { block := b, off := 0 }))
                    (upd h' b (Obj.cells #[Value.slice a_2 n'_2 c'_2, Value.slice a_1 n'_1 c'_1, Value.slice a n' c', Value.int IntKind.i64 0, Value.bool false, Value.int IntKind.i64 0] 78 (0, 0)))
theorem gabionref03_New.ok {lines : Int} {h : Heap} {Q : Value → Heap → Prop} (hk : gabionref03_New.wp lines h Q) : C Try.prog 22 #[.int .i64 lines] h Q :=
  C_of_xs (H := gabionref03_New.H) (lcuts := gabionref03_New.lc) (rcuts := gabionref03_New.rc) (l := [.int .i64 lines]) 2000 mixed Try.func22 rfl (by kernel_rfl) (Eq.mp (by kernel_rfl) hk)

/-! gabion/gabionref03.begin -/
def gabionref03_begin.H : Hn := ⟨[], [], [], []⟩
def gabionref03_begin.lc : List Cut := []
def gabionref03_begin.rc : List Cut := [⟨5, [0], []⟩]
def gabionref03_begin.J5 (d : Option Addr) (h : Heap) (Q : Value → Heap → Prop) : Prop :=
  TW Try.prog 75 50 [.code (cAt (bodyOf Try.f75) [1, 1, 1, 0, 0]), .code (cAt (bodyOf Try.f75) [1, 1, 1, 0, 1]), .code (cAt (bodyOf Try.f75) [1, 1, 1, 1])] ⟨[(0, .v (.pointer d))], []⟩ h Q
def gabionref03_begin.wp (d : Option Addr) (at0 : Int) (of0 : Int) (h : Heap) (Q : Value → Heap → Prop) : Prop :=
  atBase d fun (b o : Nat) =>
    ∃ (x : Bool),
      h.cell b (o + 4) = some (Value.bool x) ∧ xsIf x (Q (Value.int IntKind.i64 6) h) (xsIf (decide (at0 < 0)) (Q (Value.int IntKind.i64 3) h) (xsIf (decide (of0 ≤ at0)) (Q (Value.int IntKind.i64 3) h) (gabionref03_begin.J5 d h Q)))
def gabionref03_begin.J5.wp (d : Option Addr) (h : Heap) (Q : Value → Heap → Prop) : Prop :=
  atBase d fun (b o : Nat) =>
    ∃ (x : Int),
      h.cell b (o + 3) = some (Value.int IntKind.i64 x) ∧
        xsIf (decide (x = 1))
          (atBase d fun (b o : Nat) =>
            h.can b (o + 3) 1 ∧ atBase d fun (b_1 o_1 : Nat) => (h.put b (o + 3) [Value.int IntKind.i64 0]).can b_1 (o_1 + 4) 1 ∧ Q (Value.int IntKind.i64 6) ((h.put b (o + 3) [Value.int IntKind.i64 0]).put b_1 (o_1 + 4) [Value.bool true]))
          (atBase d fun (b o : Nat) =>
            ∃ (x : Int),
              h.cell b (o + 3) = some (Value.int IntKind.i64 x) ∧
                xsIf (decide (1 < x))
                  (atBase d fun (b o : Nat) =>
                    ∃ (x : Int),
                      h.cell b (o + 3) = some (Value.int IntKind.i64 x) ∧
                        atBase d fun (b o : Nat) =>
                          h.can b (o + 3) 1 ∧
                            atBase d fun (b_1 o_1 : Nat) =>
                              ∃ (x_1 : Int),
                                (h.put b (o + 3) [Value.int IntKind.i64 (IntKind.i64.wrap (x - 1))]).cell b_1 (o_1 + 5) = some (Value.int IntKind.i64 x_1) ∧
                                  atBase d fun (b_2 o_2 : Nat) =>
                                    (h.put b (o + 3) [Value.int IntKind.i64 (IntKind.i64.wrap (x - 1))]).can b_2 (o_2 + 5) 1 ∧
                                      Q (Value.int IntKind.i64 0) ((h.put b (o + 3) [Value.int IntKind.i64 (IntKind.i64.wrap (x - 1))]).put b_2 (o_2 + 5) [Value.int IntKind.i64 (IntKind.i64.wrap (x_1 + 1))]))
                  (atBase d fun (b o : Nat) =>
                    ∃ (x : Int), h.cell b (o + 5) = some (Value.int IntKind.i64 x) ∧ atBase d fun (b o : Nat) => h.can b (o + 5) 1 ∧ Q (Value.int IntKind.i64 0) (h.put b (o + 5) [Value.int IntKind.i64 (IntKind.i64.wrap (x + 1))])))
theorem gabionref03_begin.ok {d : Option Addr} {at0 : Int} {of0 : Int} {h : Heap} {Q : Value → Heap → Prop} (hk : gabionref03_begin.wp d at0 of0 h Q) : C Try.prog 75 #[.pointer d, .int .i64 at0, .int .i64 of0] h Q :=
  C_of_xs (H := gabionref03_begin.H) (lcuts := gabionref03_begin.lc) (rcuts := gabionref03_begin.rc) (l := [.pointer d, .int .i64 at0, .int .i64 of0]) 2000 mixed Try.func75 rfl (by kernel_rfl) (Eq.mp (by kernel_rfl) hk)
theorem gabionref03_begin.J5.ok {d : Option Addr} {h : Heap} {Q : Value → Heap → Prop} (hk : gabionref03_begin.J5.wp d h Q) : gabionref03_begin.J5 d h Q :=
  xs_ok (H := gabionref03_begin.H) (lcuts := gabionref03_begin.lc) (rcuts := []) (fn := Try.f75) mixed Try.func75 2000 _ _ _ (Eq.mp (by kernel_rfl) hk)

/-! gabion/gabionref03.Store -/
def gabionref03_Store.H : Hn := ⟨[], [], [], []⟩
def gabionref03_Store.lc : List Cut := []
def gabionref03_Store.rc : List Cut := []
def gabionref03_Store.wp (d : Option Addr) (word : Int) (v : Int) (h : Heap) (Q : Value → Heap → Prop) : Prop :=
  atBase d fun (b o : Nat) =>
    ∃ (x : Option Addr),
      ∃ (n : Nat),
        ∃ (m : Nat),
          h.cell b (o + 0) = some (Value.slice x n m) ∧
            C Try.prog 75 #[Value.pointer d, Value.int IntKind.i64 word, Value.int IntKind.i64 (↑n : Int)] h fun (r : Value) (h' : Heap) =>
              ∃ (x : Int),
                r = Value.int IntKind.i64 x ∧
                  xsIf (decide (x = 0))
                    (atBase d fun (b o : Nat) =>
                      ∃ (x_1 : Option Addr),
                        ∃ (n : Nat),
                          ∃ (m : Nat),
                            h'.cell b (o + 0) = some (Value.slice x_1 n m) ∧
                              (0 ≤ word ∧ word < (↑n : Int)) ∧
                                atBase x_1 fun (b o : Nat) =>
                                  h'.can b (o + word.toNat * 4 + 1) 1 ∧
                                    atBase d fun (b_1 o_1 : Nat) =>
                                      ∃ (x_2 : Option Addr),
                                        ∃ (n : Nat),
                                          ∃ (m : Nat),
                                            (h'.put b (o + word.toNat * 4 + 1) [Value.bool true]).cell b_1 (o_1 + 0) = some (Value.slice x_2 n m) ∧
                                              (0 ≤ word ∧ word < (↑n : Int)) ∧
                                                atBase x_2 fun (b_2 o_2 : Nat) =>
                                                  (h'.put b (o + word.toNat * 4 + 1) [Value.bool true]).can b_2 (o_2 + word.toNat * 4 + 2) 1 ∧
                                                    atBase d fun (b_3 o_3 : Nat) =>
                                                      ∃ (x_3 : Option Addr),
                                                        ∃ (n : Nat),
                                                          ∃ (m : Nat),
                                                            ((h'.put b (o + word.toNat * 4 + 1) [Value.bool true]).put b_2 (o_2 + word.toNat * 4 + 2) [Value.int IntKind.u64 v]).cell b_3 (o_3 + 0) = some (Value.slice x_3 n m) ∧
                                                              (0 ≤ word ∧ word < (↑n : Int)) ∧
                                                                atBase x_3 fun (b_4 o_4 : Nat) =>
                                                                  ((h'.put b (o + word.toNat * 4 + 1) [Value.bool true]).put b_2 (o_2 + word.toNat * 4 + 2) [Value.int IntKind.u64 v]).can b_4 (o_4 + word.toNat * 4 + 3) 1 ∧
                                                                    Q (Value.int IntKind.i64 x)
                                                                      (((h'.put b (o + word.toNat * 4 + 1) [Value.bool true]).put b_2 (o_2 + word.toNat * 4 + 2) [Value.int IntKind.u64 v]).put b_4 (o_4 + word.toNat * 4 + 3)
                                                                        [Value.bool false]))
                    (Q (Value.int IntKind.i64 x) h')
theorem gabionref03_Store.ok {d : Option Addr} {word : Int} {v : Int} {h : Heap} {Q : Value → Heap → Prop} (hk : gabionref03_Store.wp d word v h Q) : C Try.prog 56 #[.pointer d, .int .i64 word, .int .u64 v] h Q :=
  C_of_xs (H := gabionref03_Store.H) (lcuts := gabionref03_Store.lc) (rcuts := gabionref03_Store.rc) (l := [.pointer d, .int .i64 word, .int .u64 v]) 2000 mixed Try.func56 rfl (by kernel_rfl) (Eq.mp (by kernel_rfl) hk)

/-! gabion/gabionref03.Flush -/
def gabionref03_Flush.H : Hn := ⟨[], [], [⟨5, .q 0 (.q 1 (.q 2 (.q 4 (.q 5 (.q 6 (.q 7 (.q 8 (.q 9 (.q 10 (.q 12 (.q 13 (.q 14 (.q 15 (.ld 3 3670016 (.q 11 (.q 16 (.q 17 (.q 18 (.q 19 (.q 20 (.q 21 (.nil)))))))))))))))))))))), []⟩], []⟩
def gabionref03_Flush.lc : List Cut := [⟨3, [0, 1, 5, 6], []⟩]
def gabionref03_Flush.rc : List Cut := [⟨5, [0, 1, 5, 6], []⟩]
def gabionref03_Flush.L3 (d : Option Addr) (line : Int) (e : Int) (k0 : Int) (h : Heap) (Q : Value → Heap → Prop) : Prop :=
  TW Try.prog 57 45 [.code (cAt (bodyOf Try.f57) [1, 1, 0, 1, 0, 0]), .inLoop (cAt (bodyOf Try.f57) [1, 1, 0, 1, 0, 0]), .inBlock 0, .code (cAt (bodyOf Try.f57) [1, 1, 1])] ⟨[(0, .v (.pointer d)), (1, .v (.int .i64 line)), (5, .v (.int .i64 e)), (6, .v (.int .i64 k0))], []⟩ h Q
def gabionref03_Flush.J5 (d : Option Addr) (line : Int) (e : Int) (k0 : Int) (h : Heap) (Q : Value → Heap → Prop) : Prop :=
  TW Try.prog 57 45 [.code (cAt (bodyOf Try.f57) [1, 1, 0, 1, 0, 0, 1, 0, 0]), .inBlock 1, .code (cAt (bodyOf Try.f57) [1, 1, 0, 1, 0, 0, 1, 1]), .inLoop (cAt (bodyOf Try.f57) [1, 1, 0, 1, 0, 0]), .inBlock 0, .code (cAt (bodyOf Try.f57) [1, 1, 1])] ⟨[(0, .v (.pointer d)), (1, .v (.int .i64 line)), (5, .v (.int .i64 e)), (6, .v (.int .i64 k0))], []⟩ h Q
def gabionref03_Flush.wp (d : Option Addr) (line : Int) (h : Heap) (Q : Value → Heap → Prop) : Prop :=
  atBase d fun (b o : Nat) =>
    ∃ (x : Option Addr),
      ∃ (n : Nat),
        ∃ (m : Nat),
          h.cell b (o + 1) = some (Value.slice x n m) ∧
            C Try.prog 75 #[Value.pointer d, Value.int IntKind.i64 line, Value.int IntKind.i64 (↑n : Int)] h fun (r : Value) (h' : Heap) => ∃ (x : Int), r = Value.int IntKind.i64 x ∧ gabionref03_Flush.L3 d line x 0 h' Q
def gabionref03_Flush.L3.wp (d : Option Addr) (line : Int) (e : Int) (k0 : Int) (h : Heap) (Q : Value → Heap → Prop) : Prop :=
  xsIf (decide (k0 < 8)) (xsIf (decide (e = 0)) (gabionref03_Flush.J5 d line e k0 h Q) (Q (Value.int IntKind.i64 e) h)) (Q (Value.int IntKind.i64 e) h)
def gabionref03_Flush.J5.wp (d : Option Addr) (line : Int) (e : Int) (k0 : Int) (h : Heap) (Q : Value → Heap → Prop) : Prop :=
  atBase d fun (b o : Nat) =>
    atBase d fun (b_1 o_1 : Nat) =>
      ∃ (x : Option Addr),
        ∃ (n : Nat),
          ∃ (m : Nat),
            h.cell b (o + 0) = some (Value.slice x n m) ∧
              ∃ (x_1 : Option Addr),
                ∃ (n_1 : Nat),
                  ∃ (m : Nat),
                    h.cell b_1 (o_1 + 0) = some (Value.slice x_1 n_1 m) ∧
                      (0 ≤ IntKind.i64.wrap (IntKind.i64.wrap (8 * line) + k0) ∧ IntKind.i64.wrap (IntKind.i64.wrap (8 * line) + k0) < (↑n_1 : Int)) ∧
                        atBase x_1 fun (b o : Nat) =>
                          ∃ (x_2 : Bool),
                            h.cell b (o + (IntKind.i64.wrap (IntKind.i64.wrap (8 * line) + k0)).toNat * 4 + 1) = some (Value.bool x_2) ∧
                              (0 ≤ IntKind.i64.wrap (IntKind.i64.wrap (8 * line) + k0) ∧ IntKind.i64.wrap (IntKind.i64.wrap (8 * line) + k0) < (↑n : Int)) ∧
                                atBase x fun (b o : Nat) =>
                                  h.can b (o + (IntKind.i64.wrap (IntKind.i64.wrap (8 * line) + k0)).toNat * 4 + 3) 1 ∧
                                    gabionref03_Flush.L3 d line e (IntKind.i64.wrap (k0 + 1)) (h.put b (o + (IntKind.i64.wrap (IntKind.i64.wrap (8 * line) + k0)).toNat * 4 + 3) [Value.bool x_2]) Q
theorem gabionref03_Flush.ok {d : Option Addr} {line : Int} {h : Heap} {Q : Value → Heap → Prop} (hk : gabionref03_Flush.wp d line h Q) : C Try.prog 57 #[.pointer d, .int .i64 line] h Q :=
  C_of_xs (H := gabionref03_Flush.H) (lcuts := gabionref03_Flush.lc) (rcuts := gabionref03_Flush.rc) (l := [.pointer d, .int .i64 line]) 2000 mixed Try.func57 rfl (by kernel_rfl) (Eq.mp (by kernel_rfl) hk)
theorem gabionref03_Flush.L3.ok {d : Option Addr} {line : Int} {e : Int} {k0 : Int} {h : Heap} {Q : Value → Heap → Prop} (hk : gabionref03_Flush.L3.wp d line e k0 h Q) : gabionref03_Flush.L3 d line e k0 h Q :=
  xs_ok (H := gabionref03_Flush.H) (lcuts := gabionref03_Flush.lc) (rcuts := gabionref03_Flush.rc) (fn := Try.f57) mixed Try.func57 2000 _ _ _ (Eq.mp (by kernel_rfl) hk)
theorem gabionref03_Flush.J5.ok {d : Option Addr} {line : Int} {e : Int} {k0 : Int} {h : Heap} {Q : Value → Heap → Prop} (hk : gabionref03_Flush.J5.wp d line e k0 h Q) : gabionref03_Flush.J5 d line e k0 h Q :=
  xs_ok (H := gabionref03_Flush.H) (lcuts := gabionref03_Flush.lc) (rcuts := []) (fn := Try.f57) mixed Try.func57 2000 _ _ _ (Eq.mp (by kernel_rfl) hk)

/-! gabion/gabionref03.last -/
def gabionref03_last.H : Hn := ⟨[], [], [⟨10, .q 0 (.q 1 (.q 2 (.q 4 (.q 5 (.q 6 (.q 7 (.q 9 (.ld 3 57344 (.q 8 (.q 10 (.q 11 (.q 12 (.q 13 (.q 14 (.q 15 (.nil)))))))))))))))), []⟩], []⟩
def gabionref03_last.lc : List Cut := [⟨1, [0, 1, 4], []⟩, ⟨5, [0, 1, 4, 5, 6], []⟩]
def gabionref03_last.rc : List Cut := [⟨11, [0, 1, 4, 5, 6], []⟩, ⟨6, [0, 1, 4, 5, 6], []⟩]
def gabionref03_last.L1 (d : Option Addr) (chosen : Option Addr) (chosen_n : Nat) (chosen_c : Nat) (i : Int) (h : Heap) (Q : Value → Heap → Prop) : Prop :=
  TW Try.prog 69 70 [.code (cAt (bodyOf Try.f69) [1, 0, 0]), .inLoop (cAt (bodyOf Try.f69) [1, 0, 0]), .inBlock 0] ⟨[(0, .v (.pointer d)), (1, .v (.slice chosen chosen_n chosen_c)), (4, .v (.int .i64 i))], []⟩ h Q
def gabionref03_last.L5 (d : Option Addr) (chosen : Option Addr) (chosen_n : Nat) (chosen_c : Nat) (i : Int) (some : Bool) (k0 : Int) (h : Heap) (Q : Value → Heap → Prop) : Prop :=
  TW Try.prog 69 70 [.code (cAt (bodyOf Try.f69) [1, 0, 0, 1, 0, 0, 1, 0, 1, 0, 0]), .inLoop (cAt (bodyOf Try.f69) [1, 0, 0, 1, 0, 0, 1, 0, 1, 0, 0]), .inBlock 2, .code (cAt (bodyOf Try.f69) [1, 0, 0, 1, 0, 0, 1, 1]), .inBlock 1, .code (cAt (bodyOf Try.f69) [1, 0, 0, 1, 1]), .inLoop (cAt (bodyOf Try.f69) [1, 0, 0]), .inBlock 0] ⟨[(0, .v (.pointer d)), (1, .v (.slice chosen chosen_n chosen_c)), (4, .v (.int .i64 i)), (5, .v (.bool some)), (6, .v (.int .i64 k0))], []⟩ h Q
def gabionref03_last.J11 (d : Option Addr) (chosen : Option Addr) (chosen_n : Nat) (chosen_c : Nat) (i : Int) (some : Bool) (k0 : Int) (h : Heap) (Q : Value → Heap → Prop) : Prop :=
  TW Try.prog 69 70 [.code (cAt (bodyOf Try.f69) [1, 0, 0, 1, 0, 0, 1, 0, 1, 0, 0, 1, 0, 0, 1, 1, 1]), .inBlock 3, .code (cAt (bodyOf Try.f69) [1, 0, 0, 1, 0, 0, 1, 0, 1, 0, 0, 1, 1]), .inLoop (cAt (bodyOf Try.f69) [1, 0, 0, 1, 0, 0, 1, 0, 1, 0, 0]), .inBlock 2, .code (cAt (bodyOf Try.f69) [1, 0, 0, 1, 0, 0, 1, 1]), .inBlock 1, .code (cAt (bodyOf Try.f69) [1, 0, 0, 1, 1]), .inLoop (cAt (bodyOf Try.f69) [1, 0, 0]), .inBlock 0] ⟨[(0, .v (.pointer d)), (1, .v (.slice chosen chosen_n chosen_c)), (4, .v (.int .i64 i)), (5, .v (.bool some)), (6, .v (.int .i64 k0))], []⟩ h Q
def gabionref03_last.J6 (d : Option Addr) (chosen : Option Addr) (chosen_n : Nat) (chosen_c : Nat) (i : Int) (some : Bool) (k0 : Int) (h : Heap) (Q : Value → Heap → Prop) : Prop :=
  TW Try.prog 69 70 [.code (cAt (bodyOf Try.f69) [1, 0, 0, 1, 0, 0, 1, 0, 1, 0, 0, 1, 1]), .inLoop (cAt (bodyOf Try.f69) [1, 0, 0, 1, 0, 0, 1, 0, 1, 0, 0]), .inBlock 2, .code (cAt (bodyOf Try.f69) [1, 0, 0, 1, 0, 0, 1, 1]), .inBlock 1, .code (cAt (bodyOf Try.f69) [1, 0, 0, 1, 1]), .inLoop (cAt (bodyOf Try.f69) [1, 0, 0]), .inBlock 0] ⟨[(0, .v (.pointer d)), (1, .v (.slice chosen chosen_n chosen_c)), (4, .v (.int .i64 i)), (5, .v (.bool some)), (6, .v (.int .i64 k0))], []⟩ h Q
def gabionref03_last.wp (d : Option Addr) (chosen : Option Addr) (chosen_n : Nat) (chosen_c : Nat) (h : Heap) (Q : Value → Heap → Prop) : Prop :=
  gabionref03_last.L1 d chosen chosen_n chosen_c 0 h Q
def gabionref03_last.L1.wp (d : Option Addr) (chosen : Option Addr) (chosen_n : Nat) (chosen_c : Nat) (i : Int) (h : Heap) (Q : Value → Heap → Prop) : Prop :=
  atBase d fun (b o : Nat) =>
    ∃ (x : Option Addr),
      ∃ (n : Nat), ∃ (m : Nat), h.cell b (o + 1) = some (Value.slice x n m) ∧ xsIf (decide (i < (↑n : Int))) (gabionref03_last.L5 d chosen chosen_n chosen_c i false (IntKind.i64.wrap (8 * i)) h Q) (Q (Value.tuple #[]) h)
def gabionref03_last.L5.wp (d : Option Addr) (chosen : Option Addr) (chosen_n : Nat) (chosen_c : Nat) (i : Int) (some : Bool) (k0 : Int) (h : Heap) (Q : Value → Heap → Prop) : Prop :=
  xsIf (decide (k0 < IntKind.i64.wrap (IntKind.i64.wrap (8 * i) + 8)))
    ((0 ≤ k0 ∧ k0 < (↑chosen_n : Int)) ∧
      atBase chosen fun (b o : Nat) =>
        ∃ (x : Bool),
          h.cell b (o + k0.toNat * 1) = Option.some (Value.bool x) ∧
            xsIf (!x) (gabionref03_last.J6 d chosen chosen_n chosen_c i some k0 h Q)
              (atBase d fun (b o : Nat) =>
                ∃ (x : Option Addr),
                  ∃ (n : Nat),
                    ∃ (m : Nat),
                      h.cell b (o + 2) = Option.some (Value.slice x n m) ∧
                        (0 ≤ i ∧ i < (↑n : Int)) ∧
                          atBase x fun (b o : Nat) =>
                            ∃ (x : Bool),
                              h.cell b (o + i.toNat * 1) = Option.some (Value.bool x) ∧
                                xsIf (!x)
                                  (atBase d fun (b o : Nat) =>
                                    atBase d fun (b_1 o_1 : Nat) =>
                                      ∃ (x : Option Addr),
                                        ∃ (n : Nat),
                                          ∃ (m : Nat),
                                            h.cell b (o + 0) = Option.some (Value.slice x n m) ∧
                                              ∃ (x_1 : Option Addr),
                                                ∃ (n_1 : Nat),
                                                  ∃ (m : Nat),
                                                    h.cell b_1 (o_1 + 0) = Option.some (Value.slice x_1 n_1 m) ∧
                                                      (0 ≤ k0 ∧ k0 < (↑n_1 : Int)) ∧
                                                        atBase x_1 fun (b o : Nat) =>
                                                          ∃ (x_2 : Int),
                                                            h.cell b (o + k0.toNat * 4 + 2) = Option.some (Value.int IntKind.u64 x_2) ∧
                                                              (0 ≤ k0 ∧ k0 < (↑n : Int)) ∧
                                                                atBase x fun (b o : Nat) =>
                                                                  h.can b (o + k0.toNat * 4 + 0) 1 ∧ gabionref03_last.J11 d chosen chosen_n chosen_c i true k0 (h.put b (o + k0.toNat * 4 + 0) [Value.int IntKind.u64 x_2]) Q)
                                  (gabionref03_last.J11 d chosen chosen_n chosen_c i true k0 h Q)))
    (xsIf some
      (atBase d fun (b o : Nat) =>
        ∃ (x : Option Addr),
          ∃ (n : Nat),
            ∃ (m : Nat),
              h.cell b (o + 1) = Option.some (Value.slice x n m) ∧
                (0 ≤ i ∧ i < (↑n : Int)) ∧
                  atBase x fun (b o : Nat) =>
                    ∃ (x_1 : Int),
                      h.cell b (o + i.toNat * 1) = Option.some (Value.int IntKind.i64 x_1) ∧
                        (0 ≤ i ∧ i < (↑n : Int)) ∧
                          atBase x fun (b o : Nat) => h.can b (o + i.toNat * 1) 1 ∧ gabionref03_last.L1 d chosen chosen_n chosen_c (IntKind.i64.wrap (i + 1)) (h.put b (o + i.toNat * 1) [Value.int IntKind.i64 (IntKind.i64.wrap (x_1 + 1))]) Q)
      (gabionref03_last.L1 d chosen chosen_n chosen_c (IntKind.i64.wrap (i + 1)) h Q))
def gabionref03_last.J11.wp (d : Option Addr) (chosen : Option Addr) (chosen_n : Nat) (chosen_c : Nat) (i : Int) (some : Bool) (k0 : Int) (h : Heap) (Q : Value → Heap → Prop) : Prop :=
  atBase d fun (b o : Nat) =>
    ∃ (x : Option Addr),
      ∃ (n : Nat),
        ∃ (m : Nat),
          h.cell b (o + 0) = Option.some (Value.slice x n m) ∧
            (0 ≤ k0 ∧ k0 < (↑n : Int)) ∧ atBase x fun (b o : Nat) => h.can b (o + k0.toNat * 4 + 1) 1 ∧ gabionref03_last.J6 d chosen chosen_n chosen_c i some k0 (h.put b (o + k0.toNat * 4 + 1) [Value.bool false]) Q
def gabionref03_last.J6.wp (d : Option Addr) (chosen : Option Addr) (chosen_n : Nat) (chosen_c : Nat) (i : Int) (some : Bool) (k0 : Int) (h : Heap) (Q : Value → Heap → Prop) : Prop :=
  gabionref03_last.L5 d chosen chosen_n chosen_c i some (IntKind.i64.wrap (k0 + 1)) h Q
theorem gabionref03_last.ok {d : Option Addr} {chosen : Option Addr} {chosen_n : Nat} {chosen_c : Nat} {h : Heap} {Q : Value → Heap → Prop} (hk : gabionref03_last.wp d chosen chosen_n chosen_c h Q) : C Try.prog 69 #[.pointer d, .slice chosen chosen_n chosen_c] h Q :=
  C_of_xs (H := gabionref03_last.H) (lcuts := gabionref03_last.lc) (rcuts := gabionref03_last.rc) (l := [.pointer d, .slice chosen chosen_n chosen_c]) 2000 mixed Try.func69 rfl (by kernel_rfl) (Eq.mp (by kernel_rfl) hk)
theorem gabionref03_last.L1.ok {d : Option Addr} {chosen : Option Addr} {chosen_n : Nat} {chosen_c : Nat} {i : Int} {h : Heap} {Q : Value → Heap → Prop} (hk : gabionref03_last.L1.wp d chosen chosen_n chosen_c i h Q) : gabionref03_last.L1 d chosen chosen_n chosen_c i h Q :=
  xs_ok (H := gabionref03_last.H) (lcuts := gabionref03_last.lc) (rcuts := gabionref03_last.rc) (fn := Try.f69) mixed Try.func69 2000 _ _ _ (Eq.mp (by kernel_rfl) hk)
theorem gabionref03_last.L5.ok {d : Option Addr} {chosen : Option Addr} {chosen_n : Nat} {chosen_c : Nat} {i : Int} {some : Bool} {k0 : Int} {h : Heap} {Q : Value → Heap → Prop} (hk : gabionref03_last.L5.wp d chosen chosen_n chosen_c i some k0 h Q) : gabionref03_last.L5 d chosen chosen_n chosen_c i some k0 h Q :=
  xs_ok (H := gabionref03_last.H) (lcuts := gabionref03_last.lc) (rcuts := gabionref03_last.rc) (fn := Try.f69) mixed Try.func69 2000 _ _ _ (Eq.mp (by kernel_rfl) hk)
theorem gabionref03_last.J11.ok {d : Option Addr} {chosen : Option Addr} {chosen_n : Nat} {chosen_c : Nat} {i : Int} {some : Bool} {k0 : Int} {h : Heap} {Q : Value → Heap → Prop} (hk : gabionref03_last.J11.wp d chosen chosen_n chosen_c i some k0 h Q) : gabionref03_last.J11 d chosen chosen_n chosen_c i some k0 h Q :=
  xs_ok (H := gabionref03_last.H) (lcuts := gabionref03_last.lc) (rcuts := [⟨6, [0, 1, 4, 5, 6], []⟩]) (fn := Try.f69) mixed Try.func69 2000 _ _ _ (Eq.mp (by kernel_rfl) hk)
theorem gabionref03_last.J6.ok {d : Option Addr} {chosen : Option Addr} {chosen_n : Nat} {chosen_c : Nat} {i : Int} {some : Bool} {k0 : Int} {h : Heap} {Q : Value → Heap → Prop} (hk : gabionref03_last.J6.wp d chosen chosen_n chosen_c i some k0 h Q) : gabionref03_last.J6 d chosen chosen_n chosen_c i some k0 h Q :=
  xs_ok (H := gabionref03_last.H) (lcuts := gabionref03_last.lc) (rcuts := [⟨11, [0, 1, 4, 5, 6], []⟩]) (fn := Try.f69) mixed Try.func69 2000 _ _ _ (Eq.mp (by kernel_rfl) hk)

/-! gabion/gabionref03.Fence -/
def gabionref03_Fence.H : Hn := ⟨[], [], [], []⟩
def gabionref03_Fence.lc : List Cut := [⟨6, [0, 4, 5], []⟩]
def gabionref03_Fence.rc : List Cut := []
def gabionref03_Fence.L6 (d : Option Addr) (chosen : Option Addr) (chosen_n : Nat) (chosen_c : Nat) (i : Int) (h : Heap) (Q : Value → Heap → Prop) : Prop :=
  TW Try.prog 58 50 [.code (cAt (bodyOf Try.f58) [1, 1, 1, 1, 0, 1, 0, 0]), .inLoop (cAt (bodyOf Try.f58) [1, 1, 1, 1, 0, 1, 0, 0]), .inBlock 0, .code (cAt (bodyOf Try.f58) [1, 1, 1, 1, 1])] ⟨[(0, .v (.pointer d)), (4, .v (.slice chosen chosen_n chosen_c)), (5, .v (.int .i64 i))], []⟩ h Q
def gabionref03_Fence.wp (d : Option Addr) (h : Heap) (Q : Value → Heap → Prop) : Prop :=
  C Try.prog 75 #[Value.pointer d, Value.int IntKind.i64 0, Value.int IntKind.i64 1] h fun (r : Value) (h' : Heap) =>
    ∃ (x : Int),
      r = Value.int IntKind.i64 x ∧
        xsIf (decide (x ≠ 0)) (Q (Value.int IntKind.i64 x) h')
          (atBase d fun (b o : Nat) =>
            ∃ (x : Option Addr), ∃ (n : Nat), ∃ (m : Nat), h'.cell b (o + 0) = some (Value.slice x n m) ∧ xsMk Try.prog 4 h' (↑n : Int) (↑n : Int) fun (a : Option Addr) (n' c' : Nat) (h' : Heap) => gabionref03_Fence.L6 d a n' c' 0 h' Q)
def gabionref03_Fence.L6.wp (d : Option Addr) (chosen : Option Addr) (chosen_n : Nat) (chosen_c : Nat) (i : Int) (h : Heap) (Q : Value → Heap → Prop) : Prop :=
  atBase d fun (b o : Nat) =>
    ∃ (x : Option Addr),
      ∃ (n : Nat),
        ∃ (m : Nat),
          h.cell b (o + 0) = some (Value.slice x n m) ∧
            xsIf (decide (i < (↑n : Int)))
              (atBase d fun (b o : Nat) =>
                ∃ (x : Option Addr),
                  ∃ (n : Nat),
                    ∃ (m : Nat),
                      h.cell b (o + 0) = some (Value.slice x n m) ∧
                        (0 ≤ i ∧ i < (↑n : Int)) ∧
                          atBase x fun (b o : Nat) =>
                            ∃ (x : Bool),
                              h.cell b (o + i.toNat * 4 + 1) = some (Value.bool x) ∧
                                xsIf x
                                  (atBase d fun (b o : Nat) =>
                                    ∃ (x : Option Addr),
                                      ∃ (n : Nat),
                                        ∃ (m : Nat),
                                          h.cell b (o + 0) = some (Value.slice x n m) ∧
                                            (0 ≤ i ∧ i < (↑n : Int)) ∧
                                              atBase x fun (b o : Nat) =>
                                                ∃ (x : Bool),
                                                  h.cell b (o + i.toNat * 4 + 3) = some (Value.bool x) ∧
                                                    (0 ≤ i ∧ i < (↑chosen_n : Int)) ∧
                                                      atBase chosen fun (b o : Nat) => h.can b (o + i.toNat * 1) 1 ∧ gabionref03_Fence.L6 d chosen chosen_n chosen_c (IntKind.i64.wrap (i + 1)) (h.put b (o + i.toNat * 1) [Value.bool x]) Q)
                                  ((0 ≤ i ∧ i < (↑chosen_n : Int)) ∧
                                    atBase chosen fun (b o : Nat) => h.can b (o + i.toNat * 1) 1 ∧ gabionref03_Fence.L6 d chosen chosen_n chosen_c (IntKind.i64.wrap (i + 1)) (h.put b (o + i.toNat * 1) [Value.bool false]) Q))
              (C Try.prog 69 #[Value.pointer d, Value.slice chosen chosen_n chosen_c] h fun (r : Value) (h' : Heap) => Q (Value.int IntKind.i64 0) h')
theorem gabionref03_Fence.ok {d : Option Addr} {h : Heap} {Q : Value → Heap → Prop} (hk : gabionref03_Fence.wp d h Q) : C Try.prog 58 #[.pointer d] h Q :=
  C_of_xs (H := gabionref03_Fence.H) (lcuts := gabionref03_Fence.lc) (rcuts := gabionref03_Fence.rc) (l := [.pointer d]) 2000 mixed Try.func58 rfl (by kernel_rfl) (Eq.mp (by kernel_rfl) hk)
theorem gabionref03_Fence.L6.ok {d : Option Addr} {chosen : Option Addr} {chosen_n : Nat} {chosen_c : Nat} {i : Int} {h : Heap} {Q : Value → Heap → Prop} (hk : gabionref03_Fence.L6.wp d chosen chosen_n chosen_c i h Q) : gabionref03_Fence.L6 d chosen chosen_n chosen_c i h Q :=
  xs_ok (H := gabionref03_Fence.H) (lcuts := gabionref03_Fence.lc) (rcuts := gabionref03_Fence.rc) (fn := Try.f58) mixed Try.func58 2000 _ _ _ (Eq.mp (by kernel_rfl) hk)

/-! (*gabion/pm.Device).Break -/
def pm_Device_Break.H : Hn := ⟨[], [], [], []⟩
def pm_Device_Break.lc : List Cut := []
def pm_Device_Break.rc : List Cut := []
def pm_Device_Break.wp (d : Option Addr) (line : Int) (h : Heap) (Q : Value → Heap → Prop) : Prop :=
  C Try.prog 55 #[Value.pointer d, Value.int IntKind.i64 line] h fun (r : Value) (h' : Heap) =>
    ∃ (x : Bool),
      r = Value.bool x ∧
        xsIf x
          (atBase d fun (b o : Nat) =>
            ∃ (x : Option Addr),
              ∃ (n : Nat),
                ∃ (m : Nat),
                  h'.cell b (o + 3) = some (Value.slice x n m) ∧
                    (0 ≤ line ∧ line < (↑n : Int)) ∧ atBase x fun (b o : Nat) => h'.can b (o + line.toNat * 1) 1 ∧ Q (Value.tuple #[]) (h'.put b (o + line.toNat * 1) [Value.bool true]))
          (Q (Value.tuple #[]) h')
theorem pm_Device_Break.ok {d : Option Addr} {line : Int} {h : Heap} {Q : Value → Heap → Prop} (hk : pm_Device_Break.wp d line h Q) : C Try.prog 25 #[.pointer d, .int .i64 line] h Q :=
  C_of_xs (H := pm_Device_Break.H) (lcuts := pm_Device_Break.lc) (rcuts := pm_Device_Break.rc) (l := [.pointer d, .int .i64 line]) 2000 mixed Try.func25 rfl (by kernel_rfl) (Eq.mp (by kernel_rfl) hk)

/-! (*gabion/pm.Device).Fuse -/
def pm_Device_Fuse.H : Hn := ⟨[], [], [], []⟩
def pm_Device_Fuse.lc : List Cut := []
def pm_Device_Fuse.rc : List Cut := []
def pm_Device_Fuse.wp (d : Option Addr) (n : Int) (h : Heap) (Q : Value → Heap → Prop) : Prop :=
  xsIf (!d.isNone) (atBase d fun (b o : Nat) => h.can b (o + 4) 1 ∧ Q (Value.tuple #[]) (h.put b (o + 4) [Value.int IntKind.i64 (imax n 0)])) (Q (Value.tuple #[]) h)
theorem pm_Device_Fuse.ok {d : Option Addr} {n : Int} {h : Heap} {Q : Value → Heap → Prop} (hk : pm_Device_Fuse.wp d n h Q) : C Try.prog 26 #[.pointer d, .int .i64 n] h Q :=
  C_of_xs (H := pm_Device_Fuse.H) (lcuts := pm_Device_Fuse.lc) (rcuts := pm_Device_Fuse.rc) (l := [.pointer d, .int .i64 n]) 2000 mixed Try.func26 rfl (by kernel_rfl) (Eq.mp (by kernel_rfl) hk)

/-! gabion/gabionref03.Boot -/
def gabionref03_Boot.H : Hn := ⟨[], [], [], []⟩
def gabionref03_Boot.lc : List Cut := [⟨3, [0, 1, 4, 5, 6], []⟩, ⟨10, [0, 7], []⟩]
def gabionref03_Boot.rc : List Cut := [⟨4, [0, 1, 4, 5, 6], []⟩]
def gabionref03_Boot.L3 (d : Option Addr) (keep : Option Addr) (keep_n : Nat) (keep_c : Nat) (chosen : Option Addr) (chosen_n : Nat) (chosen_c : Nat) (k0 : Int) (i_6 : Int) (h : Heap) (Q : Value → Heap → Prop) : Prop :=
  TW Try.prog 41 72 [.code (cAt (bodyOf Try.f41) [1, 1, 0, 1, 0, 0]), .inLoop (cAt (bodyOf Try.f41) [1, 1, 0, 1, 0, 0]), .inBlock 0, .code (cAt (bodyOf Try.f41) [1, 1, 1])] ⟨[(0, .v (.pointer d)), (1, .v (.slice keep keep_n keep_c)), (4, .v (.slice chosen chosen_n chosen_c)), (5, .v (.int .i64 k0)), (6, .v (.int .i64 i_6))], []⟩ h Q
def gabionref03_Boot.J4 (d : Option Addr) (keep : Option Addr) (keep_n : Nat) (keep_c : Nat) (chosen : Option Addr) (chosen_n : Nat) (chosen_c : Nat) (k0 : Int) (i_6 : Int) (h : Heap) (Q : Value → Heap → Prop) : Prop :=
  TW Try.prog 41 72 [.code (cAt (bodyOf Try.f41) [1, 1, 0, 1, 0, 0, 1, 1]), .inLoop (cAt (bodyOf Try.f41) [1, 1, 0, 1, 0, 0]), .inBlock 0, .code (cAt (bodyOf Try.f41) [1, 1, 1])] ⟨[(0, .v (.pointer d)), (1, .v (.slice keep keep_n keep_c)), (4, .v (.slice chosen chosen_n chosen_c)), (5, .v (.int .i64 k0)), (6, .v (.int .i64 i_6))], []⟩ h Q
def gabionref03_Boot.L10 (d : Option Addr) (i_7 : Int) (h : Heap) (Q : Value → Heap → Prop) : Prop :=
  TW Try.prog 41 72 [.code (cAt (bodyOf Try.f41) [1, 1, 1, 1, 0, 1, 0, 0]), .inLoop (cAt (bodyOf Try.f41) [1, 1, 1, 1, 0, 1, 0, 0]), .inBlock 2, .code (cAt (bodyOf Try.f41) [1, 1, 1, 1, 1])] ⟨[(0, .v (.pointer d)), (7, .v (.int .i64 i_7))], []⟩ h Q
def gabionref03_Boot.wp (d : Option Addr) (keep : Option Addr) (keep_n : Nat) (keep_c : Nat) (h : Heap) (Q : Value → Heap → Prop) : Prop :=
  atBase d fun (b o : Nat) =>
    ∃ (x : Option Addr),
      ∃ (n : Nat), ∃ (m : Nat), h.cell b (o + 0) = some (Value.slice x n m) ∧ xsMk Try.prog 4 h (↑n : Int) (↑n : Int) fun (a : Option Addr) (n' c' : Nat) (h' : Heap) => gabionref03_Boot.L3 d keep keep_n keep_c a n' c' 0 0 h' Q
def gabionref03_Boot.L3.wp (d : Option Addr) (keep : Option Addr) (keep_n : Nat) (keep_c : Nat) (chosen : Option Addr) (chosen_n : Nat) (chosen_c : Nat) (k0 : Int) (i_6 : Int) (h : Heap) (Q : Value → Heap → Prop) : Prop :=
  atBase d fun (b o : Nat) =>
    ∃ (x : Option Addr),
      ∃ (n : Nat),
        ∃ (m : Nat),
          h.cell b (o + 0) = some (Value.slice x n m) ∧
            xsIf (decide (i_6 < (↑n : Int)))
              (atBase d fun (b o : Nat) =>
                ∃ (x : Option Addr),
                  ∃ (n : Nat),
                    ∃ (m : Nat),
                      h.cell b (o + 0) = some (Value.slice x n m) ∧
                        (0 ≤ i_6 ∧ i_6 < (↑n : Int)) ∧
                          atBase x fun (b o : Nat) =>
                            ∃ (x : Bool),
                              h.cell b (o + i_6.toNat * 4 + 1) = some (Value.bool x) ∧
                                xsIf (!x) (gabionref03_Boot.J4 d keep keep_n keep_c chosen chosen_n chosen_c k0 i_6 h Q)
                                  (xsIf (decide (k0 < (↑keep_n : Int)))
                                    ((0 ≤ k0 ∧ k0 < (↑keep_n : Int)) ∧
                                      atBase keep fun (b o : Nat) =>
                                        ∃ (x : Bool),
                                          h.cell b (o + k0.toNat * 1) = some (Value.bool x) ∧
                                            (0 ≤ i_6 ∧ i_6 < (↑chosen_n : Int)) ∧
                                              atBase chosen fun (b o : Nat) =>
                                                h.can b (o + i_6.toNat * 1) 1 ∧ gabionref03_Boot.J4 d keep keep_n keep_c chosen chosen_n chosen_c (IntKind.i64.wrap (k0 + 1)) i_6 (h.put b (o + i_6.toNat * 1) [Value.bool x]) Q)
                                    ((0 ≤ i_6 ∧ i_6 < (↑chosen_n : Int)) ∧
                                      atBase chosen fun (b o : Nat) =>
                                        h.can b (o + i_6.toNat * 1) 1 ∧ gabionref03_Boot.J4 d keep keep_n keep_c chosen chosen_n chosen_c (IntKind.i64.wrap (k0 + 1)) i_6 (h.put b (o + i_6.toNat * 1) [Value.bool false]) Q)))
              (C Try.prog 69 #[Value.pointer d, Value.slice chosen chosen_n chosen_c] h fun (r : Value) (h' : Heap) => gabionref03_Boot.L10 d 0 h' Q)
def gabionref03_Boot.J4.wp (d : Option Addr) (keep : Option Addr) (keep_n : Nat) (keep_c : Nat) (chosen : Option Addr) (chosen_n : Nat) (chosen_c : Nat) (k0 : Int) (i_6 : Int) (h : Heap) (Q : Value → Heap → Prop) : Prop :=
  gabionref03_Boot.L3 d keep keep_n keep_c chosen chosen_n chosen_c k0 (IntKind.i64.wrap (i_6 + 1)) h Q
def gabionref03_Boot.L10.wp (d : Option Addr) (i_7 : Int) (h : Heap) (Q : Value → Heap → Prop) : Prop :=
  atBase d fun (b o : Nat) =>
    ∃ (x : Option Addr),
      ∃ (n : Nat),
        ∃ (m : Nat),
          h.cell b (o + 0) = some (Value.slice x n m) ∧
            xsIf (decide (i_7 < (↑n : Int)))
              (atBase d fun (b o : Nat) =>
                ∃ (x : Option Addr),
                  ∃ (n : Nat),
                    ∃ (m : Nat),
                      h.cell b (o + 0) = some (Value.slice x n m) ∧
                        (0 ≤ i_7 ∧ i_7 < (↑n : Int)) ∧ atBase x fun (b o : Nat) => h.can b (o + i_7.toNat * 4 + 1) 1 ∧ gabionref03_Boot.L10 d (IntKind.i64.wrap (i_7 + 1)) (h.put b (o + i_7.toNat * 4 + 1) [Value.bool false]) Q)
              (atBase d fun (b o : Nat) =>
                h.can b (o + 4) 1 ∧
                  atBase d fun (b_1 o_1 : Nat) => (h.put b (o + 4) [Value.bool false]).can b_1 (o_1 + 3) 1 ∧ Q (Value.tuple #[]) ((h.put b (o + 4) [Value.bool false]).put b_1 (o_1 + 3) [Value.int IntKind.i64 0]))
theorem gabionref03_Boot.ok {d : Option Addr} {keep : Option Addr} {keep_n : Nat} {keep_c : Nat} {h : Heap} {Q : Value → Heap → Prop} (hk : gabionref03_Boot.wp d keep keep_n keep_c h Q) : C Try.prog 41 #[.pointer d, .slice keep keep_n keep_c] h Q :=
  C_of_xs (H := gabionref03_Boot.H) (lcuts := gabionref03_Boot.lc) (rcuts := gabionref03_Boot.rc) (l := [.pointer d, .slice keep keep_n keep_c]) 2000 mixed Try.func41 rfl (by kernel_rfl) (Eq.mp (by kernel_rfl) hk)
theorem gabionref03_Boot.L3.ok {d : Option Addr} {keep : Option Addr} {keep_n : Nat} {keep_c : Nat} {chosen : Option Addr} {chosen_n : Nat} {chosen_c : Nat} {k0 : Int} {i_6 : Int} {h : Heap} {Q : Value → Heap → Prop} (hk : gabionref03_Boot.L3.wp d keep keep_n keep_c chosen chosen_n chosen_c k0 i_6 h Q) : gabionref03_Boot.L3 d keep keep_n keep_c chosen chosen_n chosen_c k0 i_6 h Q :=
  xs_ok (H := gabionref03_Boot.H) (lcuts := gabionref03_Boot.lc) (rcuts := gabionref03_Boot.rc) (fn := Try.f41) mixed Try.func41 2000 _ _ _ (Eq.mp (by kernel_rfl) hk)
theorem gabionref03_Boot.J4.ok {d : Option Addr} {keep : Option Addr} {keep_n : Nat} {keep_c : Nat} {chosen : Option Addr} {chosen_n : Nat} {chosen_c : Nat} {k0 : Int} {i_6 : Int} {h : Heap} {Q : Value → Heap → Prop} (hk : gabionref03_Boot.J4.wp d keep keep_n keep_c chosen chosen_n chosen_c k0 i_6 h Q) : gabionref03_Boot.J4 d keep keep_n keep_c chosen chosen_n chosen_c k0 i_6 h Q :=
  xs_ok (H := gabionref03_Boot.H) (lcuts := gabionref03_Boot.lc) (rcuts := []) (fn := Try.f41) mixed Try.func41 2000 _ _ _ (Eq.mp (by kernel_rfl) hk)
theorem gabionref03_Boot.L10.ok {d : Option Addr} {i_7 : Int} {h : Heap} {Q : Value → Heap → Prop} (hk : gabionref03_Boot.L10.wp d i_7 h Q) : gabionref03_Boot.L10 d i_7 h Q :=
  xs_ok (H := gabionref03_Boot.H) (lcuts := gabionref03_Boot.lc) (rcuts := gabionref03_Boot.rc) (fn := Try.f41) mixed Try.func41 2000 _ _ _ (Eq.mp (by kernel_rfl) hk)

/-! gabion/gabionref03.Load -/
def gabionref03_Load.H : Hn := ⟨[], [], [], []⟩
def gabionref03_Load.lc : List Cut := []
def gabionref03_Load.rc : List Cut := [⟨5, [0, 1], []⟩]
def gabionref03_Load.J5 (d : Option Addr) (word : Int) (h : Heap) (Q : Value → Heap → Prop) : Prop :=
  TW Try.prog 59 45 [.code (cAt (bodyOf Try.f59) [1, 1, 1, 0, 0]), .code (cAt (bodyOf Try.f59) [1, 1, 1, 0, 1]), .code (cAt (bodyOf Try.f59) [1, 1, 1, 1])] ⟨[(0, .v (.pointer d)), (1, .v (.int .i64 word))], []⟩ h Q
def gabionref03_Load.wp (d : Option Addr) (word : Int) (h : Heap) (Q : Value → Heap → Prop) : Prop :=
  atBase d fun (b o : Nat) =>
    ∃ (x : Bool),
      h.cell b (o + 4) = some (Value.bool x) ∧
        xsIf x (Q (Value.tuple #[Value.int IntKind.u64 0, Value.int IntKind.i64 6]) h)
          (xsIf (decide (word < 0)) (Q (Value.tuple #[Value.int IntKind.u64 0, Value.int IntKind.i64 3]) h)
            (atBase d fun (b o : Nat) =>
              ∃ (x : Option Addr),
                ∃ (n : Nat), ∃ (m : Nat), h.cell b (o + 0) = some (Value.slice x n m) ∧ xsIf (decide ((↑n : Int) ≤ word)) (Q (Value.tuple #[Value.int IntKind.u64 0, Value.int IntKind.i64 3]) h) (gabionref03_Load.J5 d word h Q)))
def gabionref03_Load.J5.wp (d : Option Addr) (word : Int) (h : Heap) (Q : Value → Heap → Prop) : Prop :=
  atBase d fun (b o : Nat) =>
    ∃ (x : Option Addr),
      ∃ (n : Nat),
        ∃ (m : Nat),
          h.cell b (o + 0) = some (Value.slice x n m) ∧
            (0 ≤ word ∧ word < (↑n : Int)) ∧
              atBase x fun (b o : Nat) =>
                ∃ (x : Bool),
                  h.cell b (o + word.toNat * 4 + 1) = some (Value.bool x) ∧
                    xsIf x
                      (atBase d fun (b o : Nat) =>
                        ∃ (x : Option Addr),
                          ∃ (n : Nat),
                            ∃ (m : Nat),
                              h.cell b (o + 0) = some (Value.slice x n m) ∧
                                (0 ≤ word ∧ word < (↑n : Int)) ∧
                                  atBase x fun (b o : Nat) => ∃ (x : Int), h.cell b (o + word.toNat * 4 + 2) = some (Value.int IntKind.u64 x) ∧ Q (Value.tuple #[Value.int IntKind.u64 x, Value.int IntKind.i64 0]) h)
                      (atBase d fun (b o : Nat) =>
                        ∃ (x : Option Addr),
                          ∃ (n : Nat),
                            ∃ (m : Nat),
                              h.cell b (o + 0) = some (Value.slice x n m) ∧
                                (0 ≤ word ∧ word < (↑n : Int)) ∧
                                  atBase x fun (b o : Nat) => ∃ (x : Int), h.cell b (o + word.toNat * 4 + 0) = some (Value.int IntKind.u64 x) ∧ Q (Value.tuple #[Value.int IntKind.u64 x, Value.int IntKind.i64 0]) h)
theorem gabionref03_Load.ok {d : Option Addr} {word : Int} {h : Heap} {Q : Value → Heap → Prop} (hk : gabionref03_Load.wp d word h Q) : C Try.prog 59 #[.pointer d, .int .i64 word] h Q :=
  C_of_xs (H := gabionref03_Load.H) (lcuts := gabionref03_Load.lc) (rcuts := gabionref03_Load.rc) (l := [.pointer d, .int .i64 word]) 2000 mixed Try.func59 rfl (by kernel_rfl) (Eq.mp (by kernel_rfl) hk)
theorem gabionref03_Load.J5.ok {d : Option Addr} {word : Int} {h : Heap} {Q : Value → Heap → Prop} (hk : gabionref03_Load.J5.wp d word h Q) : gabionref03_Load.J5 d word h Q :=
  xs_ok (H := gabionref03_Load.H) (lcuts := gabionref03_Load.lc) (rcuts := []) (fn := Try.f59) mixed Try.func59 2000 _ _ _ (Eq.mp (by kernel_rfl) hk)

/-! gabion/gabionlaw03.does -/
def gabionlaw03_does.H : Hn := ⟨[], [], [⟨4, .q 0 (.q 1 (.q 2 (.q 3 (.q 4 (.q 6 (.q 7 (.q 8 (.q 9 (.q 10 (.q 5 (.q 11 (.q 12 (.q 13 (.nil)))))))))))))), []⟩, ⟨6, .q 0 (.q 1 (.q 2 (.q 4 (.q 5 (.q 6 (.q 3 (.q 7 (.q 8 (.q 9 (.nil)))))))))), []⟩, ⟨11, .q 0 (.q 1 (.q 2 (.q 3 (.q 4 (.q 5 (.q 6 (.q 7 (.q 8 (.q 9 (.q 10 (.q 11 (.q 12 (.nil))))))))))))), []⟩, ⟨12, .q 0 (.q 1 (.q 2 (.q 4 (.q 5 (.q 3 (.q 6 (.q 7 (.nil)))))))), []⟩], []⟩
def gabionlaw03_does.lc : List Cut := []
def gabionlaw03_does.rc : List Cut := [⟨4, [0, 1, 5], [5]⟩]
def gabionlaw03_does.J4 (d : Option Addr) (m : Option Addr) (a_5_0 : Int) (a_5_1 : Int) (a_5_2 : Int) (a_5_3 : Option Addr) (a_5_3_n : Nat) (a_5_3_c : Nat) (h : Heap) (Q : Value → Heap → Prop) : Prop :=
  TW Try.prog 23 127 [.code (cAt (bodyOf Try.f23) [1, 0, 1, 0, 1, 0, 0]), .code (cAt (bodyOf Try.f23) [1, 0, 1, 0, 1, 0, 1]), .inBlock 0, .code (cAt (bodyOf Try.f23) [1, 1])] ⟨[(0, .v (.pointer d)), (1, .v (.pointer m)), (5, .p 5 0)], [(5, [.int .i64 a_5_0, .int .i64 a_5_1, .int .u64 a_5_2, .slice a_5_3 a_5_3_n a_5_3_c])]⟩ h Q
def gabionlaw03_does.wp (d : Option Addr) (m : Option Addr) (a_0 : Int) (a_1 : Int) (a_2 : Int) (a_3 : Option Addr) (a_3_n : Nat) (a_3_c : Nat) (h : Heap) (Q : Value → Heap → Prop) : Prop :=
  xsIf (decide (irem (imax 0 a_0) 8 = 0))
    (xsIf (decide (irem (imax 0 a_0) 8 = 0)) (gabionlaw03_does.J4 d m a_0 a_1 a_2 a_3 a_3_n a_3_c h Q)
      (xsIf (decide (irem (imax 0 a_0) 8 = 2))
        (C Try.prog 15 #[Value.pointer d, Value.int IntKind.i64 a_1] h fun (r : Value) (h' : Heap) =>
          ∃ (x : Int),
            r = Value.int IntKind.i64 x ∧ C Try.prog 57 #[Value.pointer m, Value.int IntKind.i64 a_1] h' fun (r : Value) (h' : Heap) => ∃ (x_1 : Int), r = Value.int IntKind.i64 x_1 ∧ Q (Value.bool (decide (x = x_1))) h')
        (xsIf (decide (irem (imax 0 a_0) 8 = 3))
          (C Try.prog 16 #[Value.pointer d] h fun (r : Value) (h' : Heap) =>
            ∃ (x : Int), r = Value.int IntKind.i64 x ∧ C Try.prog 58 #[Value.pointer m] h' fun (r : Value) (h' : Heap) => ∃ (x_1 : Int), r = Value.int IntKind.i64 x_1 ∧ Q (Value.bool (decide (x = x_1))) h')
          (xsIf (decide (irem (imax 0 a_0) 8 = 4))
            (C Try.prog 25 #[Value.pointer d, Value.int IntKind.i64 a_1] h fun (r : Value) (h' : Heap) =>
              xsIf (decide (0 ≤ a_1))
                (atBase m fun (b o : Nat) =>
                  ∃ (x : Option Addr),
                    ∃ (n : Nat),
                      ∃ (m_1 : Nat),
                        h'.cell b (o + 2) = some (Value.slice x n m_1) ∧
                          xsIf (decide (a_1 < (↑n : Int)))
                            (atBase m fun (b o : Nat) =>
                              ∃ (x : Option Addr),
                                ∃ (n : Nat),
                                  ∃ (m : Nat),
                                    h'.cell b (o + 2) = some (Value.slice x n m) ∧
                                      (0 ≤ a_1 ∧ a_1 < (↑n : Int)) ∧ atBase x fun (b o : Nat) => h'.can b (o + a_1.toNat * 1) 1 ∧ Q (Value.bool true) (h'.put b (o + a_1.toNat * 1) [Value.bool true]))
                            (Q (Value.bool true) h'))
                (Q (Value.bool true) h'))
            (xsIf (decide (irem (imax 0 a_0) 8 = 5))
              (C Try.prog 26 #[Value.pointer d, Value.int IntKind.i64 a_1] h fun (r : Value) (h' : Heap) =>
                atBase m fun (b o : Nat) => h'.can b (o + 3) 1 ∧ Q (Value.bool true) (h'.put b (o + 3) [Value.int IntKind.i64 (imax a_1 0)]))
              (xsIf (decide (irem (imax 0 a_0) 8 = 6))
                ((0 ≤ imin (↑a_3_n : Int) 100 ∧ imin (↑a_3_n : Int) 100 ≤ (↑a_3_c : Int)) ∧
                  C Try.prog 18 #[Value.pointer d, Value.slice (slBase a_3 (↑a_3_c : Int) 0 1) (imin (↑a_3_n : Int) 100 - 0).toNat ((↑a_3_c : Int) - 0).toNat] h fun (r : Value) (h' : Heap) =>
                    C Try.prog 41 #[Value.pointer m, Value.slice (slBase a_3 (↑a_3_c : Int) 0 1) (imin (↑a_3_n : Int) 100 - 0).toNat ((↑a_3_c : Int) - 0).toNat] h' fun (r : Value) (h' : Heap) => Q (Value.bool true) h')
                (xsIf (decide (irem (imax 0 a_0) 8 = 7))
                  (C Try.prog 19 #[Value.pointer d, Value.int IntKind.i64 a_1] h fun (r : Value) (h' : Heap) =>
                    ∃ (x : Int),
                      ∃ (x_1 : Int),
                        r = Value.tuple #[Value.int IntKind.u64 x, Value.int IntKind.i64 x_1] ∧
                          C Try.prog 59 #[Value.pointer m, Value.int IntKind.i64 a_1] h' fun (r : Value) (h' : Heap) =>
                            ∃ (x_2 : Int), ∃ (x_3 : Int), r = Value.tuple #[Value.int IntKind.u64 x_2, Value.int IntKind.i64 x_3] ∧ xsIf (decide (x = x_2)) (Q (Value.bool (decide (x_1 = x_3))) h') (Q (Value.bool false) h'))
                  (Q (Value.bool true) h))))))))
    (xsIf (decide (irem (imax 0 a_0) 8 = 1)) (gabionlaw03_does.J4 d m a_0 a_1 a_2 a_3 a_3_n a_3_c h Q)
      (xsIf (decide (irem (imax 0 a_0) 8 = 2))
        (C Try.prog 15 #[Value.pointer d, Value.int IntKind.i64 a_1] h fun (r : Value) (h' : Heap) =>
          ∃ (x : Int),
            r = Value.int IntKind.i64 x ∧ C Try.prog 57 #[Value.pointer m, Value.int IntKind.i64 a_1] h' fun (r : Value) (h' : Heap) => ∃ (x_1 : Int), r = Value.int IntKind.i64 x_1 ∧ Q (Value.bool (decide (x = x_1))) h')
        (xsIf (decide (irem (imax 0 a_0) 8 = 3))
          (C Try.prog 16 #[Value.pointer d] h fun (r : Value) (h' : Heap) =>
            ∃ (x : Int), r = Value.int IntKind.i64 x ∧ C Try.prog 58 #[Value.pointer m] h' fun (r : Value) (h' : Heap) => ∃ (x_1 : Int), r = Value.int IntKind.i64 x_1 ∧ Q (Value.bool (decide (x = x_1))) h')
          (xsIf (decide (irem (imax 0 a_0) 8 = 4))
            (C Try.prog 25 #[Value.pointer d, Value.int IntKind.i64 a_1] h fun (r : Value) (h' : Heap) =>
              xsIf (decide (0 ≤ a_1))
                (atBase m fun (b o : Nat) =>
                  ∃ (x : Option Addr),
                    ∃ (n : Nat),
                      ∃ (m_1 : Nat),
                        h'.cell b (o + 2) = some (Value.slice x n m_1) ∧
                          xsIf (decide (a_1 < (↑n : Int)))
                            (atBase m fun (b o : Nat) =>
                              ∃ (x : Option Addr),
                                ∃ (n : Nat),
                                  ∃ (m : Nat),
                                    h'.cell b (o + 2) = some (Value.slice x n m) ∧
                                      (0 ≤ a_1 ∧ a_1 < (↑n : Int)) ∧ atBase x fun (b o : Nat) => h'.can b (o + a_1.toNat * 1) 1 ∧ Q (Value.bool true) (h'.put b (o + a_1.toNat * 1) [Value.bool true]))
                            (Q (Value.bool true) h'))
                (Q (Value.bool true) h'))
            (xsIf (decide (irem (imax 0 a_0) 8 = 5))
              (C Try.prog 26 #[Value.pointer d, Value.int IntKind.i64 a_1] h fun (r : Value) (h' : Heap) =>
                atBase m fun (b o : Nat) => h'.can b (o + 3) 1 ∧ Q (Value.bool true) (h'.put b (o + 3) [Value.int IntKind.i64 (imax a_1 0)]))
              (xsIf (decide (irem (imax 0 a_0) 8 = 6))
                ((0 ≤ imin (↑a_3_n : Int) 100 ∧ imin (↑a_3_n : Int) 100 ≤ (↑a_3_c : Int)) ∧
                  C Try.prog 18 #[Value.pointer d, Value.slice (slBase a_3 (↑a_3_c : Int) 0 1) (imin (↑a_3_n : Int) 100 - 0).toNat ((↑a_3_c : Int) - 0).toNat] h fun (r : Value) (h' : Heap) =>
                    C Try.prog 41 #[Value.pointer m, Value.slice (slBase a_3 (↑a_3_c : Int) 0 1) (imin (↑a_3_n : Int) 100 - 0).toNat ((↑a_3_c : Int) - 0).toNat] h' fun (r : Value) (h' : Heap) => Q (Value.bool true) h')
                (xsIf (decide (irem (imax 0 a_0) 8 = 7))
                  (C Try.prog 19 #[Value.pointer d, Value.int IntKind.i64 a_1] h fun (r : Value) (h' : Heap) =>
                    ∃ (x : Int),
                      ∃ (x_1 : Int),
                        r = Value.tuple #[Value.int IntKind.u64 x, Value.int IntKind.i64 x_1] ∧
                          C Try.prog 59 #[Value.pointer m, Value.int IntKind.i64 a_1] h' fun (r : Value) (h' : Heap) =>
                            ∃ (x_2 : Int), ∃ (x_3 : Int), r = Value.tuple #[Value.int IntKind.u64 x_2, Value.int IntKind.i64 x_3] ∧ xsIf (decide (x = x_2)) (Q (Value.bool (decide (x_1 = x_3))) h') (Q (Value.bool false) h'))
                  (Q (Value.bool true) h))))))))
def gabionlaw03_does.J4.wp (d : Option Addr) (m : Option Addr) (a_5_0 : Int) (a_5_1 : Int) (a_5_2 : Int) (a_5_3 : Option Addr) (a_5_3_n : Nat) (a_5_3_c : Nat) (h : Heap) (Q : Value → Heap → Prop) : Prop :=
  C Try.prog 14 #[Value.pointer d, Value.int IntKind.i64 a_5_1, Value.int IntKind.u64 a_5_2] h fun (r : Value) (h' : Heap) =>
    ∃ (x : Int),
      r = Value.int IntKind.i64 x ∧
        C Try.prog 56 #[Value.pointer m, Value.int IntKind.i64 a_5_1, Value.int IntKind.u64 a_5_2] h' fun (r : Value) (h' : Heap) => ∃ (x_1 : Int), r = Value.int IntKind.i64 x_1 ∧ Q (Value.bool (decide (x = x_1))) h'
theorem gabionlaw03_does.ok {d : Option Addr} {m : Option Addr} {a_0 : Int} {a_1 : Int} {a_2 : Int} {a_3 : Option Addr} {a_3_n : Nat} {a_3_c : Nat} {h : Heap} {Q : Value → Heap → Prop} (hk : gabionlaw03_does.wp d m a_0 a_1 a_2 a_3 a_3_n a_3_c h Q) : C Try.prog 23 #[.pointer d, .pointer m, .agg #[.int .i64 a_0, .int .i64 a_1, .int .u64 a_2, .slice a_3 a_3_n a_3_c]] h Q :=
  C_of_xs (H := gabionlaw03_does.H) (lcuts := gabionlaw03_does.lc) (rcuts := gabionlaw03_does.rc) (l := [.pointer d, .pointer m, .agg #[.int .i64 a_0, .int .i64 a_1, .int .u64 a_2, .slice a_3 a_3_n a_3_c]]) 2000 mixed Try.func23 rfl (by kernel_rfl) (Eq.mp (by kernel_rfl) hk)
theorem gabionlaw03_does.J4.ok {d : Option Addr} {m : Option Addr} {a_5_0 : Int} {a_5_1 : Int} {a_5_2 : Int} {a_5_3 : Option Addr} {a_5_3_n : Nat} {a_5_3_c : Nat} {h : Heap} {Q : Value → Heap → Prop} (hk : gabionlaw03_does.J4.wp d m a_5_0 a_5_1 a_5_2 a_5_3 a_5_3_n a_5_3_c h Q) : gabionlaw03_does.J4 d m a_5_0 a_5_1 a_5_2 a_5_3 a_5_3_n a_5_3_c h Q :=
  xs_ok (H := gabionlaw03_does.H) (lcuts := gabionlaw03_does.lc) (rcuts := []) (fn := Try.f23) mixed Try.func23 2000 _ _ _ (Eq.mp (by kernel_rfl) hk)

/-! (*gabion/pm.Device).Bad -/
def pm_Device_Bad.H : Hn := ⟨[], [], [], []⟩
def pm_Device_Bad.lc : List Cut := []
def pm_Device_Bad.rc : List Cut := []
def pm_Device_Bad.wp (d : Option Addr) (line : Int) (h : Heap) (Q : Value → Heap → Prop) : Prop :=
  C Try.prog 55 #[Value.pointer d, Value.int IntKind.i64 line] h fun (r : Value) (h' : Heap) =>
    ∃ (x : Bool),
      r = Value.bool x ∧
        xsIf x
          (atBase d fun (b o : Nat) =>
            ∃ (x : Option Addr),
              ∃ (n : Nat), ∃ (m : Nat), h'.cell b (o + 3) = some (Value.slice x n m) ∧ (0 ≤ line ∧ line < (↑n : Int)) ∧ atBase x fun (b o : Nat) => ∃ (x : Bool), h'.cell b (o + line.toNat * 1) = some (Value.bool x) ∧ Q (Value.bool x) h')
          (Q (Value.bool false) h')
theorem pm_Device_Bad.ok {d : Option Addr} {line : Int} {h : Heap} {Q : Value → Heap → Prop} (hk : pm_Device_Bad.wp d line h Q) : C Try.prog 29 #[.pointer d, .int .i64 line] h Q :=
  C_of_xs (H := pm_Device_Bad.H) (lcuts := pm_Device_Bad.lc) (rcuts := pm_Device_Bad.rc) (l := [.pointer d, .int .i64 line]) 2000 mixed Try.func29 rfl (by kernel_rfl) (Eq.mp (by kernel_rfl) hk)

/-! gabion/gabionref03.Pending -/
def gabionref03_Pending.H : Hn := ⟨[], [], [], []⟩
def gabionref03_Pending.lc : List Cut := [⟨3, [0, 3, 4], []⟩]
def gabionref03_Pending.rc : List Cut := []
def gabionref03_Pending.L3 (d : Option Addr) (out : Option Addr) (out_n : Nat) (out_c : Nat) (i : Int) (h : Heap) (Q : Value → Heap → Prop) : Prop :=
  TW Try.prog 60 27 [.code (cAt (bodyOf Try.f60) [1, 1, 0, 1, 0, 0]), .inLoop (cAt (bodyOf Try.f60) [1, 1, 0, 1, 0, 0]), .inBlock 0, .code (cAt (bodyOf Try.f60) [1, 1, 1])] ⟨[(0, .v (.pointer d)), (3, .v (.slice out out_n out_c)), (4, .v (.int .i64 i))], []⟩ h Q
def gabionref03_Pending.wp (d : Option Addr) (h : Heap) (Q : Value → Heap → Prop) : Prop :=
  gabionref03_Pending.L3 d none 0 0 0 h Q
def gabionref03_Pending.L3.wp (d : Option Addr) (out : Option Addr) (out_n : Nat) (out_c : Nat) (i : Int) (h : Heap) (Q : Value → Heap → Prop) : Prop :=
  atBase d fun (b o : Nat) =>
    ∃ (x : Option Addr),
      ∃ (n : Nat),
        ∃ (m : Nat),
          h.cell b (o + 0) = some (Value.slice x n m) ∧
            xsIf (decide (i < (↑n : Int)))
              (atBase d fun (b o : Nat) =>
                ∃ (x : Option Addr),
                  ∃ (n : Nat),
                    ∃ (m : Nat),
                      h.cell b (o + 0) = some (Value.slice x n m) ∧
                        (0 ≤ i ∧ i < (↑n : Int)) ∧
                          atBase x fun (b o : Nat) =>
                            ∃ (x : Bool),
                              h.cell b (o + i.toNat * 4 + 1) = some (Value.bool x) ∧
                                xsIf x
                                  (∀ (b : Nat),
                                    h b = none →
                                      xsApp Try.prog 3 (upd h b (Obj.cells #[Value.int IntKind.i64 i] 3 (0, 0))) out out_n out_c (some { block := b, off := 0 }) 1 fun (a' : Option Addr) (n' c' : Nat) (h' : Heap) =>
                                        gabionref03_Pending.L3 d a' n' c' (IntKind.i64.wrap (i + 1)) h' Q)
                                  (gabionref03_Pending.L3 d out out_n out_c (IntKind.i64.wrap (i + 1)) h Q))
              (Q (Value.slice out out_n out_c) h)
theorem gabionref03_Pending.ok {d : Option Addr} {h : Heap} {Q : Value → Heap → Prop} (hk : gabionref03_Pending.wp d h Q) : C Try.prog 60 #[.pointer d] h Q :=
  C_of_xs (H := gabionref03_Pending.H) (lcuts := gabionref03_Pending.lc) (rcuts := gabionref03_Pending.rc) (l := [.pointer d]) 2000 mixed Try.func60 rfl (by kernel_rfl) (Eq.mp (by kernel_rfl) hk)
theorem gabionref03_Pending.L3.ok {d : Option Addr} {out : Option Addr} {out_n : Nat} {out_c : Nat} {i : Int} {h : Heap} {Q : Value → Heap → Prop} (hk : gabionref03_Pending.L3.wp d out out_n out_c i h Q) : gabionref03_Pending.L3 d out out_n out_c i h Q :=
  xs_ok (H := gabionref03_Pending.H) (lcuts := gabionref03_Pending.lc) (rcuts := gabionref03_Pending.rc) (fn := Try.f60) mixed Try.func60 2000 _ _ _ (Eq.mp (by kernel_rfl) hk)

/-! (*gabion/pm.Device).Off -/
def pm_Device_Off.H : Hn := ⟨[], [], [], []⟩
def pm_Device_Off.lc : List Cut := []
def pm_Device_Off.rc : List Cut := []
def pm_Device_Off.wp (d : Option Addr) (h : Heap) (Q : Value → Heap → Prop) : Prop :=
  xsIf (!d.isNone) (atBase d fun (b o : Nat) => ∃ (x : Bool), h.cell b (o + 5) = some (Value.bool x) ∧ Q (Value.bool x) h) (Q (Value.bool false) h)
theorem pm_Device_Off.ok {d : Option Addr} {h : Heap} {Q : Value → Heap → Prop} (hk : pm_Device_Off.wp d h Q) : C Try.prog 28 #[.pointer d] h Q :=
  C_of_xs (H := pm_Device_Off.H) (lcuts := pm_Device_Off.lc) (rcuts := pm_Device_Off.rc) (l := [.pointer d]) 2000 mixed Try.func28 rfl (by kernel_rfl) (Eq.mp (by kernel_rfl) hk)

/-! (*gabion/pm.Device).Count -/
def pm_Device_Count.H : Hn := ⟨[], [], [], []⟩
def pm_Device_Count.lc : List Cut := []
def pm_Device_Count.rc : List Cut := []
def pm_Device_Count.wp (d : Option Addr) (h : Heap) (Q : Value → Heap → Prop) : Prop :=
  xsIf d.isNone (Q (Value.int IntKind.i64 0) h) (atBase d fun (b o : Nat) => ∃ (x : Int), h.cell b (o + 6) = some (Value.int IntKind.i64 x) ∧ Q (Value.int IntKind.i64 x) h)
theorem pm_Device_Count.ok {d : Option Addr} {h : Heap} {Q : Value → Heap → Prop} (hk : pm_Device_Count.wp d h Q) : C Try.prog 27 #[.pointer d] h Q :=
  C_of_xs (H := pm_Device_Count.H) (lcuts := pm_Device_Count.lc) (rcuts := pm_Device_Count.rc) (l := [.pointer d]) 2000 mixed Try.func27 rfl (by kernel_rfl) (Eq.mp (by kernel_rfl) hk)
end Go.Gb
