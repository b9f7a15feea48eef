/- Own text for the seat: W2. -/
import Derived.Test.YtpmghonehgnjlaaGreatW1
set_option linter.unusedVariables false
set_option linter.unusedSimpArgs false
set_option linter.unnecessarySimpa false
set_option linter.deprecated false
set_option maxRecDepth 100000
namespace Go.Gb
open Go.Proofs

/-! (*gabion/spare.Bank).say -/
def spare_Bank_say.H : Hn := ⟨[], [], [⟨1, .q 0 (.q 1 (.q 2 (.q 4 (.q 5 (.q 6 (.q 7 (.q 9 (.q 10 (.q 11 (.q 15 (.q 16 (.q 17 (.q 20 (.br 3 (.br 8 (.br 12 (.q 13 (.q 14 (.br 18 (.q 19 (.q 21 (.q 22 (.q 23 (.nil))))) (.one 21 (.q 18 (.q 19 (.q 22 (.q 23 (.nil))))))))) (.br 18 (.q 19 (.br 12 (.q 13 (.q 14 (.q 21 (.q 22 (.q 23 (.nil)))))) (.one 21 (.q 12 (.q 13 (.q 14 (.q 22 (.q 23 (.nil))))))))) (.one 21 (.br 12 (.q 13 (.q 14 (.q 18 (.q 19 (.q 22 (.q 23 (.nil))))))) (.one 18 (.q 19 (.q 12 (.q 13 (.q 14 (.q 22 (.q 23 (.nil)))))))))))) (.br 12 (.q 13 (.br 8 (.q 14 (.br 18 (.q 19 (.q 21 (.q 22 (.q 23 (.nil))))) (.one 21 (.q 18 (.q 19 (.q 22 (.q 23 (.nil)))))))) (.br 18 (.q 19 (.br 8 (.q 14 (.q 21 (.q 22 (.q 23 (.nil))))) (.one 21 (.q 8 (.q 14 (.q 22 (.q 23 (.nil)))))))) (.one 21 (.br 8 (.q 14 (.q 18 (.q 19 (.q 22 (.q 23 (.nil)))))) (.one 18 (.q 19 (.q 8 (.q 14 (.q 22 (.q 23 (.nil)))))))))))) (.br 18 (.q 19 (.br 8 (.br 12 (.q 13 (.q 14 (.q 21 (.q 22 (.q 23 (.nil)))))) (.one 21 (.q 12 (.q 13 (.q 14 (.q 22 (.q 23 (.nil)))))))) (.br 12 (.q 13 (.br 8 (.q 14 (.q 21 (.q 22 (.q 23 (.nil))))) (.one 21 (.q 8 (.q 14 (.q 22 (.q 23 (.nil)))))))) (.one 21 (.ld 12 12607488 (.q 13 (.q 8 (.q 14 (.q 22 (.q 23 (.nil))))))))))) (.one 21 (.br 8 (.br 12 (.q 13 (.q 14 (.q 18 (.q 19 (.q 22 (.q 23 (.nil))))))) (.one 18 (.q 19 (.q 12 (.q 13 (.q 14 (.q 22 (.q 23 (.nil))))))))) (.br 12 (.q 13 (.br 8 (.q 14 (.q 18 (.q 19 (.q 22 (.q 23 (.nil)))))) (.one 18 (.q 19 (.q 8 (.q 14 (.q 22 (.q 23 (.nil))))))))) (.one 18 (.q 19 (.ld 12 12607488 (.q 13 (.q 8 (.q 14 (.q 22 (.q 23 (.nil))))))))))))))) (.br 8 (.br 3 (.br 12 (.q 13 (.q 14 (.br 18 (.q 19 (.q 21 (.q 22 (.q 23 (.nil))))) (.one 21 (.q 18 (.q 19 (.q 22 (.q 23 (.nil))))))))) (.br 18 (.q 19 (.br 12 (.q 13 (.q 14 (.q 21 (.q 22 (.q 23 (.nil)))))) (.one 21 (.q 12 (.q 13 (.q 14 (.q 22 (.q 23 (.nil))))))))) (.one 21 (.br 12 (.q 13 (.q 14 (.q 18 (.q 19 (.q 22 (.q 23 (.nil))))))) (.one 18 (.q 19 (.q 12 (.q 13 (.q 14 (.q 22 (.q 23 (.nil)))))))))))) (.br 12 (.q 13 (.q 14 (.br 3 (.br 18 (.q 19 (.q 21 (.q 22 (.q 23 (.nil))))) (.one 21 (.q 18 (.q 19 (.q 22 (.q 23 (.nil))))))) (.br 18 (.q 19 (.br 3 (.q 21 (.q 22 (.q 23 (.nil)))) (.one 21 (.q 3 (.q 22 (.q 23 (.nil))))))) (.one 21 (.ld 18 13107200 (.q 19 (.q 3 (.q 22 (.q 23 (.nil))))))))))) (.br 18 (.q 19 (.br 3 (.br 12 (.q 13 (.q 14 (.q 21 (.q 22 (.q 23 (.nil)))))) (.one 21 (.q 12 (.q 13 (.q 14 (.q 22 (.q 23 (.nil)))))))) (.br 12 (.q 13 (.q 14 (.br 3 (.q 21 (.q 22 (.q 23 (.nil)))) (.one 21 (.q 3 (.q 22 (.q 23 (.nil)))))))) (.one 21 (.ld 12 12607488 (.q 13 (.q 14 (.q 3 (.q 22 (.q 23 (.nil))))))))))) (.one 21 (.br 3 (.br 12 (.q 13 (.q 14 (.q 18 (.q 19 (.q 22 (.q 23 (.nil))))))) (.one 18 (.q 19 (.q 12 (.q 13 (.q 14 (.q 22 (.q 23 (.nil))))))))) (.br 12 (.q 13 (.q 14 (.ld 18 13107200 (.q 19 (.q 3 (.q 22 (.q 23 (.nil)))))))) (.one 18 (.q 19 (.ld 12 12607488 (.q 13 (.q 14 (.q 3 (.q 22 (.q 23 (.nil))))))))))))))) (.br 12 (.q 13 (.br 3 (.br 8 (.q 14 (.br 18 (.q 19 (.q 21 (.q 22 (.q 23 (.nil))))) (.one 21 (.q 18 (.q 19 (.q 22 (.q 23 (.nil)))))))) (.br 18 (.q 19 (.br 8 (.q 14 (.q 21 (.q 22 (.q 23 (.nil))))) (.one 21 (.q 8 (.q 14 (.q 22 (.q 23 (.nil)))))))) (.one 21 (.br 8 (.q 14 (.q 18 (.q 19 (.q 22 (.q 23 (.nil)))))) (.one 18 (.q 19 (.q 8 (.q 14 (.q 22 (.q 23 (.nil))))))))))) (.br 8 (.q 14 (.br 3 (.br 18 (.q 19 (.q 21 (.q 22 (.q 23 (.nil))))) (.one 21 (.q 18 (.q 19 (.q 22 (.q 23 (.nil))))))) (.br 18 (.q 19 (.br 3 (.q 21 (.q 22 (.q 23 (.nil)))) (.one 21 (.q 3 (.q 22 (.q 23 (.nil))))))) (.one 21 (.ld 18 13107200 (.q 19 (.q 3 (.q 22 (.q 23 (.nil)))))))))) (.br 18 (.q 19 (.br 3 (.br 8 (.q 14 (.q 21 (.q 22 (.q 23 (.nil))))) (.one 21 (.q 8 (.q 14 (.q 22 (.q 23 (.nil))))))) (.br 8 (.q 14 (.br 3 (.q 21 (.q 22 (.q 23 (.nil)))) (.one 21 (.q 3 (.q 22 (.q 23 (.nil))))))) (.one 21 (.ld 8 12599296 (.q 14 (.q 3 (.q 22 (.q 23 (.nil)))))))))) (.one 21 (.br 3 (.br 8 (.q 14 (.q 18 (.q 19 (.q 22 (.q 23 (.nil)))))) (.one 18 (.q 19 (.q 8 (.q 14 (.q 22 (.q 23 (.nil)))))))) (.br 8 (.q 14 (.ld 18 13107200 (.q 19 (.q 3 (.q 22 (.q 23 (.nil))))))) (.one 18 (.q 19 (.ld 8 12599296 (.q 14 (.q 3 (.q 22 (.q 23 (.nil))))))))))))))) (.br 18 (.q 19 (.br 3 (.br 8 (.br 12 (.q 13 (.q 14 (.q 21 (.q 22 (.q 23 (.nil)))))) (.one 21 (.q 12 (.q 13 (.q 14 (.q 22 (.q 23 (.nil)))))))) (.br 12 (.q 13 (.br 8 (.q 14 (.q 21 (.q 22 (.q 23 (.nil))))) (.one 21 (.q 8 (.q 14 (.q 22 (.q 23 (.nil)))))))) (.one 21 (.ld 12 12607488 (.q 13 (.q 8 (.q 14 (.q 22 (.q 23 (.nil)))))))))) (.br 8 (.br 3 (.br 12 (.q 13 (.q 14 (.q 21 (.q 22 (.q 23 (.nil)))))) (.one 21 (.q 12 (.q 13 (.q 14 (.q 22 (.q 23 (.nil)))))))) (.br 12 (.q 13 (.q 14 (.br 3 (.q 21 (.q 22 (.q 23 (.nil)))) (.one 21 (.q 3 (.q 22 (.q 23 (.nil)))))))) (.one 21 (.ld 12 12607488 (.q 13 (.q 14 (.q 3 (.q 22 (.q 23 (.nil)))))))))) (.br 12 (.q 13 (.br 3 (.br 8 (.q 14 (.q 21 (.q 22 (.q 23 (.nil))))) (.one 21 (.q 8 (.q 14 (.q 22 (.q 23 (.nil))))))) (.br 8 (.q 14 (.br 3 (.q 21 (.q 22 (.q 23 (.nil)))) (.one 21 (.q 3 (.q 22 (.q 23 (.nil))))))) (.one 21 (.ld 8 12599296 (.q 14 (.q 3 (.q 22 (.q 23 (.nil)))))))))) (.one 21 (.ld 12 12607488 (.q 13 (.ld 8 12599296 (.q 14 (.q 3 (.q 22 (.q 23 (.nil))))))))))))) (.one 21 (.br 3 (.br 8 (.br 12 (.q 13 (.q 14 (.q 18 (.q 19 (.q 22 (.q 23 (.nil))))))) (.one 18 (.q 19 (.q 12 (.q 13 (.q 14 (.q 22 (.q 23 (.nil))))))))) (.br 12 (.q 13 (.br 8 (.q 14 (.q 18 (.q 19 (.q 22 (.q 23 (.nil)))))) (.one 18 (.q 19 (.q 8 (.q 14 (.q 22 (.q 23 (.nil))))))))) (.one 18 (.q 19 (.ld 12 12607488 (.q 13 (.q 8 (.q 14 (.q 22 (.q 23 (.nil))))))))))) (.br 8 (.br 3 (.br 12 (.q 13 (.q 14 (.q 18 (.q 19 (.q 22 (.q 23 (.nil))))))) (.one 18 (.q 19 (.q 12 (.q 13 (.q 14 (.q 22 (.q 23 (.nil))))))))) (.br 12 (.q 13 (.q 14 (.ld 18 13107200 (.q 19 (.q 3 (.q 22 (.q 23 (.nil)))))))) (.one 18 (.q 19 (.ld 12 12607488 (.q 13 (.q 14 (.q 3 (.q 22 (.q 23 (.nil))))))))))) (.br 12 (.q 13 (.br 3 (.br 8 (.q 14 (.q 18 (.q 19 (.q 22 (.q 23 (.nil)))))) (.one 18 (.q 19 (.q 8 (.q 14 (.q 22 (.q 23 (.nil)))))))) (.br 8 (.q 14 (.ld 18 13107200 (.q 19 (.q 3 (.q 22 (.q 23 (.nil))))))) (.one 18 (.q 19 (.ld 8 12599296 (.q 14 (.q 3 (.q 22 (.q 23 (.nil))))))))))) (.one 18 (.q 19 (.ld 12 12607488 (.q 13 (.ld 8 12599296 (.q 14 (.q 3 (.q 22 (.q 23 (.nil))))))))))))))))))))))))))))))), []⟩, ⟨3, .q 0 (.q 1 (.q 2 (.q 3 (.q 5 (.br 4 (.q 6 (.q 7 (.q 8 (.nil)))) (.one 6 (.q 4 (.q 7 (.q 8 (.nil)))))))))), []⟩], []⟩
def spare_Bank_say.lc : List Cut := []
def spare_Bank_say.rc : List Cut := [⟨2, [0, 1, 5], []⟩]
def spare_Bank_say.J2 (b : Option Addr) (n : Int) (e : Int) (h : Heap) (Q : Value → Heap → Prop) : Prop :=
  TW Tryz.prog 128 40 [.code (cAt (bodyOf Tryz.f128) [1, 1, 0, 0]), .code (cAt (bodyOf Tryz.f128) [1, 1, 0, 1]), .code (cAt (bodyOf Tryz.f128) [1, 1, 1])] ⟨[(0, .v (.pointer b)), (1, .v (.int .u64 n)), (5, .v (.int .i64 e))], []⟩ h Q
def spare_Bank_say.wp (b : Option Addr) (n : Int) (h : Heap) (Q : Value → Heap → Prop) : Prop :=
  atBase b fun (b_1 o : Nat) =>
    atBase b fun (b_2 o_1 : Nat) =>
      atBase b fun (b_3 o_2 : Nat) =>
        atBase b fun (b_4 o_3 : Nat) =>
          (∃ (x : Option Addr),
              h.cell b_1 (o + 0) = some (Value.pointer x) ∧
                (∃ (x_1 : Int),
                    h.cell b_2 (o_1 + 1 + 0) = some (Value.int IntKind.i64 x_1) ∧
                      (∃ (x_2 : Int),
                          h.cell b_3 (o_2 + 4) = some (Value.int IntKind.i64 x_2) ∧
                            (∃ (x_3 : Int),
                                h.cell b_4 (o_3 + 4) = some (Value.int IntKind.i64 x_3) ∧
                                  C Tryz.prog 147 #[Value.int IntKind.u64 n] h fun (r : Value) (h' : Heap) =>
                                    ∃ (x_4 : Int),
                                      r = Value.int IntKind.u64 x_4 ∧
                                        C Tryz.prog 84 #[Value.pointer x, Value.int IntKind.i64 (IntKind.i64.wrap (x_1 + iquo IntKind.i64 x_2 8)), Value.int IntKind.i64 (irem x_3 8), Value.int IntKind.u64 x_4] h'
                                          fun (r : Value) (h' : Heap) => ∃ (x : Int), r = Value.int IntKind.i64 x ∧ spare_Bank_say.J2 b n x h' Q) ∧
                              C Tryz.prog 147 #[Value.int IntKind.u64 n] h fun (r : Value) (h' : Heap) =>
                                ∃ (x_3 : Int),
                                  r = Value.int IntKind.u64 x_3 ∧
                                    ∃ (x_4 : Int),
                                      h'.cell b_4 (o_3 + 4) = some (Value.int IntKind.i64 x_4) ∧
                                        C Tryz.prog 84 #[Value.pointer x, Value.int IntKind.i64 (IntKind.i64.wrap (x_1 + iquo IntKind.i64 x_2 8)), Value.int IntKind.i64 (irem x_4 8), Value.int IntKind.u64 x_3] h'
                                          fun (r : Value) (h' : Heap) => ∃ (x : Int), r = Value.int IntKind.i64 x ∧ spare_Bank_say.J2 b n x h' Q) ∧
                        (∃ (x_2 : Int),
                            h.cell b_4 (o_3 + 4) = some (Value.int IntKind.i64 x_2) ∧
                              (∃ (x_3 : Int),
                                  h.cell b_3 (o_2 + 4) = some (Value.int IntKind.i64 x_3) ∧
                                    C Tryz.prog 147 #[Value.int IntKind.u64 n] h fun (r : Value) (h' : Heap) =>
                                      ∃ (x_4 : Int),
                                        r = Value.int IntKind.u64 x_4 ∧
                                          C Tryz.prog 84 #[Value.pointer x, Value.int IntKind.i64 (IntKind.i64.wrap (x_1 + iquo IntKind.i64 x_3 8)), Value.int IntKind.i64 (irem x_2 8), Value.int IntKind.u64 x_4] h'
                                            fun (r : Value) (h' : Heap) => ∃ (x : Int), r = Value.int IntKind.i64 x ∧ spare_Bank_say.J2 b n x h' Q) ∧
                                C Tryz.prog 147 #[Value.int IntKind.u64 n] h fun (r : Value) (h' : Heap) =>
                                  ∃ (x_3 : Int),
                                    r = Value.int IntKind.u64 x_3 ∧
                                      ∃ (x_4 : Int),
                                        h'.cell b_3 (o_2 + 4) = some (Value.int IntKind.i64 x_4) ∧
                                          C Tryz.prog 84 #[Value.pointer x, Value.int IntKind.i64 (IntKind.i64.wrap (x_1 + iquo IntKind.i64 x_4 8)), Value.int IntKind.i64 (irem x_2 8), Value.int IntKind.u64 x_3] h'
                                            fun (r : Value) (h' : Heap) => ∃ (x : Int), r = Value.int IntKind.i64 x ∧ spare_Bank_say.J2 b n x h' Q) ∧
                          C Tryz.prog 147 #[Value.int IntKind.u64 n] h fun (r : Value) (h' : Heap) =>
                            ∃ (x_2 : Int),
                              r = Value.int IntKind.u64 x_2 ∧
                                (∃ (x_3 : Int),
                                    h'.cell b_3 (o_2 + 4) = some (Value.int IntKind.i64 x_3) ∧
                                      ∃ (x_4 : Int),
                                        h'.cell b_4 (o_3 + 4) = some (Value.int IntKind.i64 x_4) ∧
                                          C Tryz.prog 84 #[Value.pointer x, Value.int IntKind.i64 (IntKind.i64.wrap (x_1 + iquo IntKind.i64 x_3 8)), Value.int IntKind.i64 (irem x_4 8), Value.int IntKind.u64 x_2] h'
                                            fun (r : Value) (h' : Heap) => ∃ (x : Int), r = Value.int IntKind.i64 x ∧ spare_Bank_say.J2 b n x h' Q) ∧
                                  ∃ (x_3 : Int),
                                    h'.cell b_4 (o_3 + 4) = some (Value.int IntKind.i64 x_3) ∧
                                      ∃ (x_4 : Int),
                                        h'.cell b_3 (o_2 + 4) = some (Value.int IntKind.i64 x_4) ∧
                                          C Tryz.prog 84 #[Value.pointer x, Value.int IntKind.i64 (IntKind.i64.wrap (x_1 + iquo IntKind.i64 x_4 8)), Value.int IntKind.i64 (irem x_3 8), Value.int IntKind.u64 x_2] h'
                                            fun (r : Value) (h' : Heap) => ∃ (x : Int), r = Value.int IntKind.i64 x ∧ spare_Bank_say.J2 b n x h' Q) ∧
                  (∃ (x_1 : Int),
                      h.cell b_3 (o_2 + 4) = some (Value.int IntKind.i64 x_1) ∧
                        (∃ (x_2 : Int),
                            h.cell b_2 (o_1 + 1 + 0) = some (Value.int IntKind.i64 x_2) ∧
                              (∃ (x_3 : Int),
                                  h.cell b_4 (o_3 + 4) = some (Value.int IntKind.i64 x_3) ∧
                                    C Tryz.prog 147 #[Value.int IntKind.u64 n] h fun (r : Value) (h' : Heap) =>
                                      ∃ (x_4 : Int),
                                        r = Value.int IntKind.u64 x_4 ∧
                                          C Tryz.prog 84 #[Value.pointer x, Value.int IntKind.i64 (IntKind.i64.wrap (x_2 + iquo IntKind.i64 x_1 8)), Value.int IntKind.i64 (irem x_3 8), Value.int IntKind.u64 x_4] h'
                                            fun (r : Value) (h' : Heap) => ∃ (x : Int), r = Value.int IntKind.i64 x ∧ spare_Bank_say.J2 b n x h' Q) ∧
                                C Tryz.prog 147 #[Value.int IntKind.u64 n] h fun (r : Value) (h' : Heap) =>
                                  ∃ (x_3 : Int),
                                    r = Value.int IntKind.u64 x_3 ∧
                                      ∃ (x_4 : Int),
                                        h'.cell b_4 (o_3 + 4) = some (Value.int IntKind.i64 x_4) ∧
                                          C Tryz.prog 84 #[Value.pointer x, Value.int IntKind.i64 (IntKind.i64.wrap (x_2 + iquo IntKind.i64 x_1 8)), Value.int IntKind.i64 (irem x_4 8), Value.int IntKind.u64 x_3] h'
                                            fun (r : Value) (h' : Heap) => ∃ (x : Int), r = Value.int IntKind.i64 x ∧ spare_Bank_say.J2 b n x h' Q) ∧
                          (∃ (x_2 : Int),
                              h.cell b_4 (o_3 + 4) = some (Value.int IntKind.i64 x_2) ∧
                                (∃ (x_3 : Int),
                                    h.cell b_2 (o_1 + 1 + 0) = some (Value.int IntKind.i64 x_3) ∧
                                      C Tryz.prog 147 #[Value.int IntKind.u64 n] h fun (r : Value) (h' : Heap) =>
                                        ∃ (x_4 : Int),
                                          r = Value.int IntKind.u64 x_4 ∧
                                            C Tryz.prog 84 #[Value.pointer x, Value.int IntKind.i64 (IntKind.i64.wrap (x_3 + iquo IntKind.i64 x_1 8)), Value.int IntKind.i64 (irem x_2 8), Value.int IntKind.u64 x_4] h'
                                              fun (r : Value) (h' : Heap) => ∃ (x : Int), r = Value.int IntKind.i64 x ∧ spare_Bank_say.J2 b n x h' Q) ∧
                                  C Tryz.prog 147 #[Value.int IntKind.u64 n] h fun (r : Value) (h' : Heap) =>
                                    ∃ (x_3 : Int),
                                      r = Value.int IntKind.u64 x_3 ∧
                                        ∃ (x_4 : Int),
                                          h'.cell b_2 (o_1 + 1 + 0) = some (Value.int IntKind.i64 x_4) ∧
                                            C Tryz.prog 84 #[Value.pointer x, Value.int IntKind.i64 (IntKind.i64.wrap (x_4 + iquo IntKind.i64 x_1 8)), Value.int IntKind.i64 (irem x_2 8), Value.int IntKind.u64 x_3] h'
                                              fun (r : Value) (h' : Heap) => ∃ (x : Int), r = Value.int IntKind.i64 x ∧ spare_Bank_say.J2 b n x h' Q) ∧
                            C Tryz.prog 147 #[Value.int IntKind.u64 n] h fun (r : Value) (h' : Heap) =>
                              ∃ (x_2 : Int),
                                r = Value.int IntKind.u64 x_2 ∧
                                  (∃ (x_3 : Int),
                                      h'.cell b_2 (o_1 + 1 + 0) = some (Value.int IntKind.i64 x_3) ∧
                                        ∃ (x_4 : Int),
                                          h'.cell b_4 (o_3 + 4) = some (Value.int IntKind.i64 x_4) ∧
                                            C Tryz.prog 84 #[Value.pointer x, Value.int IntKind.i64 (IntKind.i64.wrap (x_3 + iquo IntKind.i64 x_1 8)), Value.int IntKind.i64 (irem x_4 8), Value.int IntKind.u64 x_2] h'
                                              fun (r : Value) (h' : Heap) => ∃ (x : Int), r = Value.int IntKind.i64 x ∧ spare_Bank_say.J2 b n x h' Q) ∧
                                    ∃ (x_3 : Int),
                                      h'.cell b_4 (o_3 + 4) = some (Value.int IntKind.i64 x_3) ∧
                                        ∃ (x_4 : Int),
                                          h'.cell b_2 (o_1 + 1 + 0) = some (Value.int IntKind.i64 x_4) ∧
                                            C Tryz.prog 84 #[Value.pointer x, Value.int IntKind.i64 (IntKind.i64.wrap (x_4 + iquo IntKind.i64 x_1 8)), Value.int IntKind.i64 (irem x_3 8), Value.int IntKind.u64 x_2] h'
                                              fun (r : Value) (h' : Heap) => ∃ (x : Int), r = Value.int IntKind.i64 x ∧ spare_Bank_say.J2 b n x h' Q) ∧
                    (∃ (x_1 : Int),
                        h.cell b_4 (o_3 + 4) = some (Value.int IntKind.i64 x_1) ∧
                          (∃ (x_2 : Int),
                              h.cell b_2 (o_1 + 1 + 0) = some (Value.int IntKind.i64 x_2) ∧
                                (∃ (x_3 : Int),
                                    h.cell b_3 (o_2 + 4) = some (Value.int IntKind.i64 x_3) ∧
                                      C Tryz.prog 147 #[Value.int IntKind.u64 n] h fun (r : Value) (h' : Heap) =>
                                        ∃ (x_4 : Int),
                                          r = Value.int IntKind.u64 x_4 ∧
                                            C Tryz.prog 84 #[Value.pointer x, Value.int IntKind.i64 (IntKind.i64.wrap (x_2 + iquo IntKind.i64 x_3 8)), Value.int IntKind.i64 (irem x_1 8), Value.int IntKind.u64 x_4] h'
                                              fun (r : Value) (h' : Heap) => ∃ (x : Int), r = Value.int IntKind.i64 x ∧ spare_Bank_say.J2 b n x h' Q) ∧
                                  C Tryz.prog 147 #[Value.int IntKind.u64 n] h fun (r : Value) (h' : Heap) =>
                                    ∃ (x_3 : Int),
                                      r = Value.int IntKind.u64 x_3 ∧
                                        ∃ (x_4 : Int),
                                          h'.cell b_3 (o_2 + 4) = some (Value.int IntKind.i64 x_4) ∧
                                            C Tryz.prog 84 #[Value.pointer x, Value.int IntKind.i64 (IntKind.i64.wrap (x_2 + iquo IntKind.i64 x_4 8)), Value.int IntKind.i64 (irem x_1 8), Value.int IntKind.u64 x_3] h'
                                              fun (r : Value) (h' : Heap) => ∃ (x : Int), r = Value.int IntKind.i64 x ∧ spare_Bank_say.J2 b n x h' Q) ∧
                            (∃ (x_2 : Int),
                                h.cell b_3 (o_2 + 4) = some (Value.int IntKind.i64 x_2) ∧
                                  (∃ (x_3 : Int),
                                      h.cell b_2 (o_1 + 1 + 0) = some (Value.int IntKind.i64 x_3) ∧
                                        C Tryz.prog 147 #[Value.int IntKind.u64 n] h fun (r : Value) (h' : Heap) =>
                                          ∃ (x_4 : Int),
                                            r = Value.int IntKind.u64 x_4 ∧
                                              C Tryz.prog 84 #[Value.pointer x, Value.int IntKind.i64 (IntKind.i64.wrap (x_3 + iquo IntKind.i64 x_2 8)), Value.int IntKind.i64 (irem x_1 8), Value.int IntKind.u64 x_4] h'
                                                fun (r : Value) (h' : Heap) => ∃ (x : Int), r = Value.int IntKind.i64 x ∧ spare_Bank_say.J2 b n x h' Q) ∧
                                    C Tryz.prog 147 #[Value.int IntKind.u64 n] h fun (r : Value) (h' : Heap) =>
                                      ∃ (x_3 : Int),
                                        r = Value.int IntKind.u64 x_3 ∧
                                          ∃ (x_4 : Int),
                                            h'.cell b_2 (o_1 + 1 + 0) = some (Value.int IntKind.i64 x_4) ∧
                                              C Tryz.prog 84 #[Value.pointer x, Value.int IntKind.i64 (IntKind.i64.wrap (x_4 + iquo IntKind.i64 x_2 8)), Value.int IntKind.i64 (irem x_1 8), Value.int IntKind.u64 x_3] h'
                                                fun (r : Value) (h' : Heap) => ∃ (x : Int), r = Value.int IntKind.i64 x ∧ spare_Bank_say.J2 b n x h' Q) ∧
                              C Tryz.prog 147 #[Value.int IntKind.u64 n] h fun (r : Value) (h' : Heap) =>
                                ∃ (x_2 : Int),
                                  r = Value.int IntKind.u64 x_2 ∧
                                    ∃ (x_3 : Int),
                                      h'.cell b_3 (o_2 + 4) = some (Value.int IntKind.i64 x_3) ∧
                                        ∃ (x_4 : Int),
                                          h'.cell b_2 (o_1 + 1 + 0) = some (Value.int IntKind.i64 x_4) ∧
                                            C Tryz.prog 84 #[Value.pointer x, Value.int IntKind.i64 (IntKind.i64.wrap (x_4 + iquo IntKind.i64 x_3 8)), Value.int IntKind.i64 (irem x_1 8), Value.int IntKind.u64 x_2] h'
                                              fun (r : Value) (h' : Heap) => ∃ (x : Int), r = Value.int IntKind.i64 x ∧ spare_Bank_say.J2 b n x h' Q) ∧
                      C Tryz.prog 147 #[Value.int IntKind.u64 n] h fun (r : Value) (h' : Heap) =>
                        ∃ (x_1 : Int),
                          r = Value.int IntKind.u64 x_1 ∧
                            (∃ (x_2 : Int),
                                h'.cell b_2 (o_1 + 1 + 0) = some (Value.int IntKind.i64 x_2) ∧
                                  (∃ (x_3 : Int),
                                      h'.cell b_3 (o_2 + 4) = some (Value.int IntKind.i64 x_3) ∧
                                        ∃ (x_4 : Int),
                                          h'.cell b_4 (o_3 + 4) = some (Value.int IntKind.i64 x_4) ∧
                                            C Tryz.prog 84 #[Value.pointer x, Value.int IntKind.i64 (IntKind.i64.wrap (x_2 + iquo IntKind.i64 x_3 8)), Value.int IntKind.i64 (irem x_4 8), Value.int IntKind.u64 x_1] h'
                                              fun (r : Value) (h' : Heap) => ∃ (x : Int), r = Value.int IntKind.i64 x ∧ spare_Bank_say.J2 b n x h' Q) ∧
                                    ∃ (x_3 : Int),
                                      h'.cell b_4 (o_3 + 4) = some (Value.int IntKind.i64 x_3) ∧
                                        ∃ (x_4 : Int),
                                          h'.cell b_3 (o_2 + 4) = some (Value.int IntKind.i64 x_4) ∧
                                            C Tryz.prog 84 #[Value.pointer x, Value.int IntKind.i64 (IntKind.i64.wrap (x_2 + iquo IntKind.i64 x_4 8)), Value.int IntKind.i64 (irem x_3 8), Value.int IntKind.u64 x_1] h'
                                              fun (r : Value) (h' : Heap) => ∃ (x : Int), r = Value.int IntKind.i64 x ∧ spare_Bank_say.J2 b n x h' Q) ∧
                              (∃ (x_2 : Int),
                                  h'.cell b_3 (o_2 + 4) = some (Value.int IntKind.i64 x_2) ∧
                                    (∃ (x_3 : Int),
                                        h'.cell b_2 (o_1 + 1 + 0) = some (Value.int IntKind.i64 x_3) ∧
                                          ∃ (x_4 : Int),
                                            h'.cell b_4 (o_3 + 4) = some (Value.int IntKind.i64 x_4) ∧
                                              C Tryz.prog 84 #[Value.pointer x, Value.int IntKind.i64 (IntKind.i64.wrap (x_3 + iquo IntKind.i64 x_2 8)), Value.int IntKind.i64 (irem x_4 8), Value.int IntKind.u64 x_1] h'
                                                fun (r : Value) (h' : Heap) => ∃ (x : Int), r = Value.int IntKind.i64 x ∧ spare_Bank_say.J2 b n x h' Q) ∧
                                      ∃ (x_3 : Int),
                                        h'.cell b_4 (o_3 + 4) = some (Value.int IntKind.i64 x_3) ∧
                                          ∃ (x_4 : Int),
                                            h'.cell b_2 (o_1 + 1 + 0) = some (Value.int IntKind.i64 x_4) ∧
                                              C Tryz.prog 84 #[Value.pointer x, Value.int IntKind.i64 (IntKind.i64.wrap (x_4 + iquo IntKind.i64 x_2 8)), Value.int IntKind.i64 (irem x_3 8), Value.int IntKind.u64 x_1] h'
                                                fun (r : Value) (h' : Heap) => ∃ (x : Int), r = Value.int IntKind.i64 x ∧ spare_Bank_say.J2 b n x h' Q) ∧
                                ∃ (x_2 : Int),
                                  h'.cell b_4 (o_3 + 4) = some (Value.int IntKind.i64 x_2) ∧
                                    ∃ (x_3 : Int),
                                      h'.cell b_3 (o_2 + 4) = some (Value.int IntKind.i64 x_3) ∧
                                        ∃ (x_4 : Int),
                                          h'.cell b_2 (o_1 + 1 + 0) = some (Value.int IntKind.i64 x_4) ∧
                                            C Tryz.prog 84 #[Value.pointer x, Value.int IntKind.i64 (IntKind.i64.wrap (x_4 + iquo IntKind.i64 x_3 8)), Value.int IntKind.i64 (irem x_2 8), Value.int IntKind.u64 x_1] h'
                                              fun (r : Value) (h' : Heap) => ∃ (x : Int), r = Value.int IntKind.i64 x ∧ spare_Bank_say.J2 b n x h' Q) ∧
            (∃ (x : Int),
                h.cell b_2 (o_1 + 1 + 0) = some (Value.int IntKind.i64 x) ∧
                  (∃ (x_1 : Option Addr),
                      h.cell b_1 (o + 0) = some (Value.pointer x_1) ∧
                        (∃ (x_2 : Int),
                            h.cell b_3 (o_2 + 4) = some (Value.int IntKind.i64 x_2) ∧
                              (∃ (x_3 : Int),
                                  h.cell b_4 (o_3 + 4) = some (Value.int IntKind.i64 x_3) ∧
                                    C Tryz.prog 147 #[Value.int IntKind.u64 n] h fun (r : Value) (h' : Heap) =>
                                      ∃ (x_4 : Int),
                                        r = Value.int IntKind.u64 x_4 ∧
                                          C Tryz.prog 84 #[Value.pointer x_1, Value.int IntKind.i64 (IntKind.i64.wrap (x + iquo IntKind.i64 x_2 8)), Value.int IntKind.i64 (irem x_3 8), Value.int IntKind.u64 x_4] h'
                                            fun (r : Value) (h' : Heap) => ∃ (x : Int), r = Value.int IntKind.i64 x ∧ spare_Bank_say.J2 b n x h' Q) ∧
                                C Tryz.prog 147 #[Value.int IntKind.u64 n] h fun (r : Value) (h' : Heap) =>
                                  ∃ (x_3 : Int),
                                    r = Value.int IntKind.u64 x_3 ∧
                                      ∃ (x_4 : Int),
                                        h'.cell b_4 (o_3 + 4) = some (Value.int IntKind.i64 x_4) ∧
                                          C Tryz.prog 84 #[Value.pointer x_1, Value.int IntKind.i64 (IntKind.i64.wrap (x + iquo IntKind.i64 x_2 8)), Value.int IntKind.i64 (irem x_4 8), Value.int IntKind.u64 x_3] h'
                                            fun (r : Value) (h' : Heap) => ∃ (x : Int), r = Value.int IntKind.i64 x ∧ spare_Bank_say.J2 b n x h' Q) ∧
                          (∃ (x_2 : Int),
                              h.cell b_4 (o_3 + 4) = some (Value.int IntKind.i64 x_2) ∧
                                (∃ (x_3 : Int),
                                    h.cell b_3 (o_2 + 4) = some (Value.int IntKind.i64 x_3) ∧
                                      C Tryz.prog 147 #[Value.int IntKind.u64 n] h fun (r : Value) (h' : Heap) =>
                                        ∃ (x_4 : Int),
                                          r = Value.int IntKind.u64 x_4 ∧
                                            C Tryz.prog 84 #[Value.pointer x_1, Value.int IntKind.i64 (IntKind.i64.wrap (x + iquo IntKind.i64 x_3 8)), Value.int IntKind.i64 (irem x_2 8), Value.int IntKind.u64 x_4] h'
                                              fun (r : Value) (h' : Heap) => ∃ (x : Int), r = Value.int IntKind.i64 x ∧ spare_Bank_say.J2 b n x h' Q) ∧
                                  C Tryz.prog 147 #[Value.int IntKind.u64 n] h fun (r : Value) (h' : Heap) =>
                                    ∃ (x_3 : Int),
                                      r = Value.int IntKind.u64 x_3 ∧
                                        ∃ (x_4 : Int),
                                          h'.cell b_3 (o_2 + 4) = some (Value.int IntKind.i64 x_4) ∧
                                            C Tryz.prog 84 #[Value.pointer x_1, Value.int IntKind.i64 (IntKind.i64.wrap (x + iquo IntKind.i64 x_4 8)), Value.int IntKind.i64 (irem x_2 8), Value.int IntKind.u64 x_3] h'
                                              fun (r : Value) (h' : Heap) => ∃ (x : Int), r = Value.int IntKind.i64 x ∧ spare_Bank_say.J2 b n x h' Q) ∧
                            C Tryz.prog 147 #[Value.int IntKind.u64 n] h fun (r : Value) (h' : Heap) =>
                              ∃ (x_2 : Int),
                                r = Value.int IntKind.u64 x_2 ∧
                                  (∃ (x_3 : Int),
                                      h'.cell b_3 (o_2 + 4) = some (Value.int IntKind.i64 x_3) ∧
                                        ∃ (x_4 : Int),
                                          h'.cell b_4 (o_3 + 4) = some (Value.int IntKind.i64 x_4) ∧
                                            C Tryz.prog 84 #[Value.pointer x_1, Value.int IntKind.i64 (IntKind.i64.wrap (x + iquo IntKind.i64 x_3 8)), Value.int IntKind.i64 (irem x_4 8), Value.int IntKind.u64 x_2] h'
                                              fun (r : Value) (h' : Heap) => ∃ (x : Int), r = Value.int IntKind.i64 x ∧ spare_Bank_say.J2 b n x h' Q) ∧
                                    ∃ (x_3 : Int),
                                      h'.cell b_4 (o_3 + 4) = some (Value.int IntKind.i64 x_3) ∧
                                        ∃ (x_4 : Int),
                                          h'.cell b_3 (o_2 + 4) = some (Value.int IntKind.i64 x_4) ∧
                                            C Tryz.prog 84 #[Value.pointer x_1, Value.int IntKind.i64 (IntKind.i64.wrap (x + iquo IntKind.i64 x_4 8)), Value.int IntKind.i64 (irem x_3 8), Value.int IntKind.u64 x_2] h'
                                              fun (r : Value) (h' : Heap) => ∃ (x : Int), r = Value.int IntKind.i64 x ∧ spare_Bank_say.J2 b n x h' Q) ∧
                    (∃ (x_1 : Int),
                        h.cell b_3 (o_2 + 4) = some (Value.int IntKind.i64 x_1) ∧
                          (∃ (x_2 : Option Addr),
                              h.cell b_1 (o + 0) = some (Value.pointer x_2) ∧
                                (∃ (x_3 : Int),
                                    h.cell b_4 (o_3 + 4) = some (Value.int IntKind.i64 x_3) ∧
                                      C Tryz.prog 147 #[Value.int IntKind.u64 n] h fun (r : Value) (h' : Heap) =>
                                        ∃ (x_4 : Int),
                                          r = Value.int IntKind.u64 x_4 ∧
                                            C Tryz.prog 84 #[Value.pointer x_2, Value.int IntKind.i64 (IntKind.i64.wrap (x + iquo IntKind.i64 x_1 8)), Value.int IntKind.i64 (irem x_3 8), Value.int IntKind.u64 x_4] h'
                                              fun (r : Value) (h' : Heap) => ∃ (x : Int), r = Value.int IntKind.i64 x ∧ spare_Bank_say.J2 b n x h' Q) ∧
                                  C Tryz.prog 147 #[Value.int IntKind.u64 n] h fun (r : Value) (h' : Heap) =>
                                    ∃ (x_3 : Int),
                                      r = Value.int IntKind.u64 x_3 ∧
                                        ∃ (x_4 : Int),
                                          h'.cell b_4 (o_3 + 4) = some (Value.int IntKind.i64 x_4) ∧
                                            C Tryz.prog 84 #[Value.pointer x_2, Value.int IntKind.i64 (IntKind.i64.wrap (x + iquo IntKind.i64 x_1 8)), Value.int IntKind.i64 (irem x_4 8), Value.int IntKind.u64 x_3] h'
                                              fun (r : Value) (h' : Heap) => ∃ (x : Int), r = Value.int IntKind.i64 x ∧ spare_Bank_say.J2 b n x h' Q) ∧
                            (∃ (x_2 : Int),
                                h.cell b_4 (o_3 + 4) = some (Value.int IntKind.i64 x_2) ∧
                                  (∃ (x_3 : Option Addr),
                                      h.cell b_1 (o + 0) = some (Value.pointer x_3) ∧
                                        C Tryz.prog 147 #[Value.int IntKind.u64 n] h fun (r : Value) (h' : Heap) =>
                                          ∃ (x_4 : Int),
                                            r = Value.int IntKind.u64 x_4 ∧
                                              C Tryz.prog 84 #[Value.pointer x_3, Value.int IntKind.i64 (IntKind.i64.wrap (x + iquo IntKind.i64 x_1 8)), Value.int IntKind.i64 (irem x_2 8), Value.int IntKind.u64 x_4] h'
                                                fun (r : Value) (h' : Heap) => ∃ (x : Int), r = Value.int IntKind.i64 x ∧ spare_Bank_say.J2 b n x h' Q) ∧
                                    C Tryz.prog 147 #[Value.int IntKind.u64 n] h fun (r : Value) (h' : Heap) =>
                                      ∃ (x_3 : Int),
                                        r = Value.int IntKind.u64 x_3 ∧
                                          ∃ (x_4 : Option Addr),
                                            h'.cell b_1 (o + 0) = some (Value.pointer x_4) ∧
                                              C Tryz.prog 84 #[Value.pointer x_4, Value.int IntKind.i64 (IntKind.i64.wrap (x + iquo IntKind.i64 x_1 8)), Value.int IntKind.i64 (irem x_2 8), Value.int IntKind.u64 x_3] h'
                                                fun (r : Value) (h' : Heap) => ∃ (x : Int), r = Value.int IntKind.i64 x ∧ spare_Bank_say.J2 b n x h' Q) ∧
                              C Tryz.prog 147 #[Value.int IntKind.u64 n] h fun (r : Value) (h' : Heap) =>
                                ∃ (x_2 : Int),
                                  r = Value.int IntKind.u64 x_2 ∧
                                    ∃ (x_3 : Int),
                                      h'.cell b_4 (o_3 + 4) = some (Value.int IntKind.i64 x_3) ∧
                                        ∃ (x_4 : Option Addr),
                                          h'.cell b_1 (o + 0) = some (Value.pointer x_4) ∧
                                            C Tryz.prog 84 #[Value.pointer x_4, Value.int IntKind.i64 (IntKind.i64.wrap (x + iquo IntKind.i64 x_1 8)), Value.int IntKind.i64 (irem x_3 8), Value.int IntKind.u64 x_2] h'
                                              fun (r : Value) (h' : Heap) => ∃ (x : Int), r = Value.int IntKind.i64 x ∧ spare_Bank_say.J2 b n x h' Q) ∧
                      (∃ (x_1 : Int),
                          h.cell b_4 (o_3 + 4) = some (Value.int IntKind.i64 x_1) ∧
                            (∃ (x_2 : Option Addr),
                                h.cell b_1 (o + 0) = some (Value.pointer x_2) ∧
                                  (∃ (x_3 : Int),
                                      h.cell b_3 (o_2 + 4) = some (Value.int IntKind.i64 x_3) ∧
                                        C Tryz.prog 147 #[Value.int IntKind.u64 n] h fun (r : Value) (h' : Heap) =>
                                          ∃ (x_4 : Int),
                                            r = Value.int IntKind.u64 x_4 ∧
                                              C Tryz.prog 84 #[Value.pointer x_2, Value.int IntKind.i64 (IntKind.i64.wrap (x + iquo IntKind.i64 x_3 8)), Value.int IntKind.i64 (irem x_1 8), Value.int IntKind.u64 x_4] h'
                                                fun (r : Value) (h' : Heap) => ∃ (x : Int), r = Value.int IntKind.i64 x ∧ spare_Bank_say.J2 b n x h' Q) ∧
                                    C Tryz.prog 147 #[Value.int IntKind.u64 n] h fun (r : Value) (h' : Heap) =>
                                      ∃ (x_3 : Int),
                                        r = Value.int IntKind.u64 x_3 ∧
                                          ∃ (x_4 : Int),
                                            h'.cell b_3 (o_2 + 4) = some (Value.int IntKind.i64 x_4) ∧
                                              C Tryz.prog 84 #[Value.pointer x_2, Value.int IntKind.i64 (IntKind.i64.wrap (x + iquo IntKind.i64 x_4 8)), Value.int IntKind.i64 (irem x_1 8), Value.int IntKind.u64 x_3] h'
                                                fun (r : Value) (h' : Heap) => ∃ (x : Int), r = Value.int IntKind.i64 x ∧ spare_Bank_say.J2 b n x h' Q) ∧
                              (∃ (x_2 : Int),
                                  h.cell b_3 (o_2 + 4) = some (Value.int IntKind.i64 x_2) ∧
                                    (∃ (x_3 : Option Addr),
                                        h.cell b_1 (o + 0) = some (Value.pointer x_3) ∧
                                          C Tryz.prog 147 #[Value.int IntKind.u64 n] h fun (r : Value) (h' : Heap) =>
                                            ∃ (x_4 : Int),
                                              r = Value.int IntKind.u64 x_4 ∧
                                                C Tryz.prog 84 #[Value.pointer x_3, Value.int IntKind.i64 (IntKind.i64.wrap (x + iquo IntKind.i64 x_2 8)), Value.int IntKind.i64 (irem x_1 8), Value.int IntKind.u64 x_4] h'
                                                  fun (r : Value) (h' : Heap) => ∃ (x : Int), r = Value.int IntKind.i64 x ∧ spare_Bank_say.J2 b n x h' Q) ∧
                                      C Tryz.prog 147 #[Value.int IntKind.u64 n] h fun (r : Value) (h' : Heap) =>
                                        ∃ (x_3 : Int),
                                          r = Value.int IntKind.u64 x_3 ∧
                                            ∃ (x_4 : Option Addr),
                                              h'.cell b_1 (o + 0) = some (Value.pointer x_4) ∧
                                                C Tryz.prog 84 #[Value.pointer x_4, Value.int IntKind.i64 (IntKind.i64.wrap (x + iquo IntKind.i64 x_2 8)), Value.int IntKind.i64 (irem x_1 8), Value.int IntKind.u64 x_3] h'
                                                  fun (r : Value) (h' : Heap) => ∃ (x : Int), r = Value.int IntKind.i64 x ∧ spare_Bank_say.J2 b n x h' Q) ∧
                                C Tryz.prog 147 #[Value.int IntKind.u64 n] h fun (r : Value) (h' : Heap) =>
                                  ∃ (x_2 : Int),
                                    r = Value.int IntKind.u64 x_2 ∧
                                      ∃ (x_3 : Int),
                                        h'.cell b_3 (o_2 + 4) = some (Value.int IntKind.i64 x_3) ∧
                                          ∃ (x_4 : Option Addr),
                                            h'.cell b_1 (o + 0) = some (Value.pointer x_4) ∧
                                              C Tryz.prog 84 #[Value.pointer x_4, Value.int IntKind.i64 (IntKind.i64.wrap (x + iquo IntKind.i64 x_3 8)), Value.int IntKind.i64 (irem x_1 8), Value.int IntKind.u64 x_2] h'
                                                fun (r : Value) (h' : Heap) => ∃ (x : Int), r = Value.int IntKind.i64 x ∧ spare_Bank_say.J2 b n x h' Q) ∧
                        C Tryz.prog 147 #[Value.int IntKind.u64 n] h fun (r : Value) (h' : Heap) =>
                          ∃ (x_1 : Int),
                            r = Value.int IntKind.u64 x_1 ∧
                              (∃ (x_2 : Option Addr),
                                  h'.cell b_1 (o + 0) = some (Value.pointer x_2) ∧
                                    (∃ (x_3 : Int),
                                        h'.cell b_3 (o_2 + 4) = some (Value.int IntKind.i64 x_3) ∧
                                          ∃ (x_4 : Int),
                                            h'.cell b_4 (o_3 + 4) = some (Value.int IntKind.i64 x_4) ∧
                                              C Tryz.prog 84 #[Value.pointer x_2, Value.int IntKind.i64 (IntKind.i64.wrap (x + iquo IntKind.i64 x_3 8)), Value.int IntKind.i64 (irem x_4 8), Value.int IntKind.u64 x_1] h'
                                                fun (r : Value) (h' : Heap) => ∃ (x : Int), r = Value.int IntKind.i64 x ∧ spare_Bank_say.J2 b n x h' Q) ∧
                                      ∃ (x_3 : Int),
                                        h'.cell b_4 (o_3 + 4) = some (Value.int IntKind.i64 x_3) ∧
                                          ∃ (x_4 : Int),
                                            h'.cell b_3 (o_2 + 4) = some (Value.int IntKind.i64 x_4) ∧
                                              C Tryz.prog 84 #[Value.pointer x_2, Value.int IntKind.i64 (IntKind.i64.wrap (x + iquo IntKind.i64 x_4 8)), Value.int IntKind.i64 (irem x_3 8), Value.int IntKind.u64 x_1] h'
                                                fun (r : Value) (h' : Heap) => ∃ (x : Int), r = Value.int IntKind.i64 x ∧ spare_Bank_say.J2 b n x h' Q) ∧
                                (∃ (x_2 : Int),
                                    h'.cell b_3 (o_2 + 4) = some (Value.int IntKind.i64 x_2) ∧
                                      ∃ (x_3 : Int),
                                        h'.cell b_4 (o_3 + 4) = some (Value.int IntKind.i64 x_3) ∧
                                          ∃ (x_4 : Option Addr),
                                            h'.cell b_1 (o + 0) = some (Value.pointer x_4) ∧
                                              C Tryz.prog 84 #[Value.pointer x_4, Value.int IntKind.i64 (IntKind.i64.wrap (x + iquo IntKind.i64 x_2 8)), Value.int IntKind.i64 (irem x_3 8), Value.int IntKind.u64 x_1] h'
                                                fun (r : Value) (h' : Heap) => ∃ (x : Int), r = Value.int IntKind.i64 x ∧ spare_Bank_say.J2 b n x h' Q) ∧
                                  ∃ (x_2 : Int),
                                    h'.cell b_4 (o_3 + 4) = some (Value.int IntKind.i64 x_2) ∧
                                      ∃ (x_3 : Int),
                                        h'.cell b_3 (o_2 + 4) = some (Value.int IntKind.i64 x_3) ∧
                                          ∃ (x_4 : Option Addr),
                                            h'.cell b_1 (o + 0) = some (Value.pointer x_4) ∧
                                              C Tryz.prog 84 #[Value.pointer x_4, Value.int IntKind.i64 (IntKind.i64.wrap (x + iquo IntKind.i64 x_3 8)), Value.int IntKind.i64 (irem x_2 8), Value.int IntKind.u64 x_1] h'
                                                fun (r : Value) (h' : Heap) => ∃ (x : Int), r = Value.int IntKind.i64 x ∧ spare_Bank_say.J2 b n x h' Q) ∧
              (∃ (x : Int),
                  h.cell b_3 (o_2 + 4) = some (Value.int IntKind.i64 x) ∧
                    (∃ (x_1 : Option Addr),
                        h.cell b_1 (o + 0) = some (Value.pointer x_1) ∧
                          (∃ (x_2 : Int),
                              h.cell b_2 (o_1 + 1 + 0) = some (Value.int IntKind.i64 x_2) ∧
                                (∃ (x_3 : Int),
                                    h.cell b_4 (o_3 + 4) = some (Value.int IntKind.i64 x_3) ∧
                                      C Tryz.prog 147 #[Value.int IntKind.u64 n] h fun (r : Value) (h' : Heap) =>
                                        ∃ (x_4 : Int),
                                          r = Value.int IntKind.u64 x_4 ∧
                                            C Tryz.prog 84 #[Value.pointer x_1, Value.int IntKind.i64 (IntKind.i64.wrap (x_2 + iquo IntKind.i64 x 8)), Value.int IntKind.i64 (irem x_3 8), Value.int IntKind.u64 x_4] h'
                                              fun (r : Value) (h' : Heap) => ∃ (x : Int), r = Value.int IntKind.i64 x ∧ spare_Bank_say.J2 b n x h' Q) ∧
                                  C Tryz.prog 147 #[Value.int IntKind.u64 n] h fun (r : Value) (h' : Heap) =>
                                    ∃ (x_3 : Int),
                                      r = Value.int IntKind.u64 x_3 ∧
                                        ∃ (x_4 : Int),
                                          h'.cell b_4 (o_3 + 4) = some (Value.int IntKind.i64 x_4) ∧
                                            C Tryz.prog 84 #[Value.pointer x_1, Value.int IntKind.i64 (IntKind.i64.wrap (x_2 + iquo IntKind.i64 x 8)), Value.int IntKind.i64 (irem x_4 8), Value.int IntKind.u64 x_3] h'
                                              fun (r : Value) (h' : Heap) => ∃ (x : Int), r = Value.int IntKind.i64 x ∧ spare_Bank_say.J2 b n x h' Q) ∧
                            (∃ (x_2 : Int),
                                h.cell b_4 (o_3 + 4) = some (Value.int IntKind.i64 x_2) ∧
                                  (∃ (x_3 : Int),
                                      h.cell b_2 (o_1 + 1 + 0) = some (Value.int IntKind.i64 x_3) ∧
                                        C Tryz.prog 147 #[Value.int IntKind.u64 n] h fun (r : Value) (h' : Heap) =>
                                          ∃ (x_4 : Int),
                                            r = Value.int IntKind.u64 x_4 ∧
                                              C Tryz.prog 84 #[Value.pointer x_1, Value.int IntKind.i64 (IntKind.i64.wrap (x_3 + iquo IntKind.i64 x 8)), Value.int IntKind.i64 (irem x_2 8), Value.int IntKind.u64 x_4] h'
                                                fun (r : Value) (h' : Heap) => ∃ (x : Int), r = Value.int IntKind.i64 x ∧ spare_Bank_say.J2 b n x h' Q) ∧
                                    C Tryz.prog 147 #[Value.int IntKind.u64 n] h fun (r : Value) (h' : Heap) =>
                                      ∃ (x_3 : Int),
                                        r = Value.int IntKind.u64 x_3 ∧
                                          ∃ (x_4 : Int),
                                            h'.cell b_2 (o_1 + 1 + 0) = some (Value.int IntKind.i64 x_4) ∧
                                              C Tryz.prog 84 #[Value.pointer x_1, Value.int IntKind.i64 (IntKind.i64.wrap (x_4 + iquo IntKind.i64 x 8)), Value.int IntKind.i64 (irem x_2 8), Value.int IntKind.u64 x_3] h'
                                                fun (r : Value) (h' : Heap) => ∃ (x : Int), r = Value.int IntKind.i64 x ∧ spare_Bank_say.J2 b n x h' Q) ∧
                              C Tryz.prog 147 #[Value.int IntKind.u64 n] h fun (r : Value) (h' : Heap) =>
                                ∃ (x_2 : Int),
                                  r = Value.int IntKind.u64 x_2 ∧
                                    (∃ (x_3 : Int),
                                        h'.cell b_2 (o_1 + 1 + 0) = some (Value.int IntKind.i64 x_3) ∧
                                          ∃ (x_4 : Int),
                                            h'.cell b_4 (o_3 + 4) = some (Value.int IntKind.i64 x_4) ∧
                                              C Tryz.prog 84 #[Value.pointer x_1, Value.int IntKind.i64 (IntKind.i64.wrap (x_3 + iquo IntKind.i64 x 8)), Value.int IntKind.i64 (irem x_4 8), Value.int IntKind.u64 x_2] h'
                                                fun (r : Value) (h' : Heap) => ∃ (x : Int), r = Value.int IntKind.i64 x ∧ spare_Bank_say.J2 b n x h' Q) ∧
                                      ∃ (x_3 : Int),
                                        h'.cell b_4 (o_3 + 4) = some (Value.int IntKind.i64 x_3) ∧
                                          ∃ (x_4 : Int),
                                            h'.cell b_2 (o_1 + 1 + 0) = some (Value.int IntKind.i64 x_4) ∧
                                              C Tryz.prog 84 #[Value.pointer x_1, Value.int IntKind.i64 (IntKind.i64.wrap (x_4 + iquo IntKind.i64 x 8)), Value.int IntKind.i64 (irem x_3 8), Value.int IntKind.u64 x_2] h'
                                                fun (r : Value) (h' : Heap) => ∃ (x : Int), r = Value.int IntKind.i64 x ∧ spare_Bank_say.J2 b n x h' Q) ∧
                      (∃ (x_1 : Int),
                          h.cell b_2 (o_1 + 1 + 0) = some (Value.int IntKind.i64 x_1) ∧
                            (∃ (x_2 : Option Addr),
                                h.cell b_1 (o + 0) = some (Value.pointer x_2) ∧
                                  (∃ (x_3 : Int),
                                      h.cell b_4 (o_3 + 4) = some (Value.int IntKind.i64 x_3) ∧
                                        C Tryz.prog 147 #[Value.int IntKind.u64 n] h fun (r : Value) (h' : Heap) =>
                                          ∃ (x_4 : Int),
                                            r = Value.int IntKind.u64 x_4 ∧
                                              C Tryz.prog 84 #[Value.pointer x_2, Value.int IntKind.i64 (IntKind.i64.wrap (x_1 + iquo IntKind.i64 x 8)), Value.int IntKind.i64 (irem x_3 8), Value.int IntKind.u64 x_4] h'
                                                fun (r : Value) (h' : Heap) => ∃ (x : Int), r = Value.int IntKind.i64 x ∧ spare_Bank_say.J2 b n x h' Q) ∧
                                    C Tryz.prog 147 #[Value.int IntKind.u64 n] h fun (r : Value) (h' : Heap) =>
                                      ∃ (x_3 : Int),
                                        r = Value.int IntKind.u64 x_3 ∧
                                          ∃ (x_4 : Int),
                                            h'.cell b_4 (o_3 + 4) = some (Value.int IntKind.i64 x_4) ∧
                                              C Tryz.prog 84 #[Value.pointer x_2, Value.int IntKind.i64 (IntKind.i64.wrap (x_1 + iquo IntKind.i64 x 8)), Value.int IntKind.i64 (irem x_4 8), Value.int IntKind.u64 x_3] h'
                                                fun (r : Value) (h' : Heap) => ∃ (x : Int), r = Value.int IntKind.i64 x ∧ spare_Bank_say.J2 b n x h' Q) ∧
                              (∃ (x_2 : Int),
                                  h.cell b_4 (o_3 + 4) = some (Value.int IntKind.i64 x_2) ∧
                                    (∃ (x_3 : Option Addr),
                                        h.cell b_1 (o + 0) = some (Value.pointer x_3) ∧
                                          C Tryz.prog 147 #[Value.int IntKind.u64 n] h fun (r : Value) (h' : Heap) =>
                                            ∃ (x_4 : Int),
                                              r = Value.int IntKind.u64 x_4 ∧
                                                C Tryz.prog 84 #[Value.pointer x_3, Value.int IntKind.i64 (IntKind.i64.wrap (x_1 + iquo IntKind.i64 x 8)), Value.int IntKind.i64 (irem x_2 8), Value.int IntKind.u64 x_4] h'
                                                  fun (r : Value) (h' : Heap) => ∃ (x : Int), r = Value.int IntKind.i64 x ∧ spare_Bank_say.J2 b n x h' Q) ∧
                                      C Tryz.prog 147 #[Value.int IntKind.u64 n] h fun (r : Value) (h' : Heap) =>
                                        ∃ (x_3 : Int),
                                          r = Value.int IntKind.u64 x_3 ∧
                                            ∃ (x_4 : Option Addr),
                                              h'.cell b_1 (o + 0) = some (Value.pointer x_4) ∧
                                                C Tryz.prog 84 #[Value.pointer x_4, Value.int IntKind.i64 (IntKind.i64.wrap (x_1 + iquo IntKind.i64 x 8)), Value.int IntKind.i64 (irem x_2 8), Value.int IntKind.u64 x_3] h'
                                                  fun (r : Value) (h' : Heap) => ∃ (x : Int), r = Value.int IntKind.i64 x ∧ spare_Bank_say.J2 b n x h' Q) ∧
                                C Tryz.prog 147 #[Value.int IntKind.u64 n] h fun (r : Value) (h' : Heap) =>
                                  ∃ (x_2 : Int),
                                    r = Value.int IntKind.u64 x_2 ∧
                                      ∃ (x_3 : Int),
                                        h'.cell b_4 (o_3 + 4) = some (Value.int IntKind.i64 x_3) ∧
                                          ∃ (x_4 : Option Addr),
                                            h'.cell b_1 (o + 0) = some (Value.pointer x_4) ∧
                                              C Tryz.prog 84 #[Value.pointer x_4, Value.int IntKind.i64 (IntKind.i64.wrap (x_1 + iquo IntKind.i64 x 8)), Value.int IntKind.i64 (irem x_3 8), Value.int IntKind.u64 x_2] h'
                                                fun (r : Value) (h' : Heap) => ∃ (x : Int), r = Value.int IntKind.i64 x ∧ spare_Bank_say.J2 b n x h' Q) ∧
                        (∃ (x_1 : Int),
                            h.cell b_4 (o_3 + 4) = some (Value.int IntKind.i64 x_1) ∧
                              (∃ (x_2 : Option Addr),
                                  h.cell b_1 (o + 0) = some (Value.pointer x_2) ∧
                                    (∃ (x_3 : Int),
                                        h.cell b_2 (o_1 + 1 + 0) = some (Value.int IntKind.i64 x_3) ∧
                                          C Tryz.prog 147 #[Value.int IntKind.u64 n] h fun (r : Value) (h' : Heap) =>
                                            ∃ (x_4 : Int),
                                              r = Value.int IntKind.u64 x_4 ∧
                                                C Tryz.prog 84 #[Value.pointer x_2, Value.int IntKind.i64 (IntKind.i64.wrap (x_3 + iquo IntKind.i64 x 8)), Value.int IntKind.i64 (irem x_1 8), Value.int IntKind.u64 x_4] h'
                                                  fun (r : Value) (h' : Heap) => ∃ (x : Int), r = Value.int IntKind.i64 x ∧ spare_Bank_say.J2 b n x h' Q) ∧
                                      C Tryz.prog 147 #[Value.int IntKind.u64 n] h fun (r : Value) (h' : Heap) =>
                                        ∃ (x_3 : Int),
                                          r = Value.int IntKind.u64 x_3 ∧
                                            ∃ (x_4 : Int),
                                              h'.cell b_2 (o_1 + 1 + 0) = some (Value.int IntKind.i64 x_4) ∧
                                                C Tryz.prog 84 #[Value.pointer x_2, Value.int IntKind.i64 (IntKind.i64.wrap (x_4 + iquo IntKind.i64 x 8)), Value.int IntKind.i64 (irem x_1 8), Value.int IntKind.u64 x_3] h'
                                                  fun (r : Value) (h' : Heap) => ∃ (x : Int), r = Value.int IntKind.i64 x ∧ spare_Bank_say.J2 b n x h' Q) ∧
                                (∃ (x_2 : Int),
                                    h.cell b_2 (o_1 + 1 + 0) = some (Value.int IntKind.i64 x_2) ∧
                                      (∃ (x_3 : Option Addr),
                                          h.cell b_1 (o + 0) = some (Value.pointer x_3) ∧
                                            C Tryz.prog 147 #[Value.int IntKind.u64 n] h fun (r : Value) (h' : Heap) =>
                                              ∃ (x_4 : Int),
                                                r = Value.int IntKind.u64 x_4 ∧
                                                  C Tryz.prog 84 #[Value.pointer x_3, Value.int IntKind.i64 (IntKind.i64.wrap (x_2 + iquo IntKind.i64 x 8)), Value.int IntKind.i64 (irem x_1 8), Value.int IntKind.u64 x_4] h'
                                                    fun (r : Value) (h' : Heap) => ∃ (x : Int), r = Value.int IntKind.i64 x ∧ spare_Bank_say.J2 b n x h' Q) ∧
                                        C Tryz.prog 147 #[Value.int IntKind.u64 n] h fun (r : Value) (h' : Heap) =>
                                          ∃ (x_3 : Int),
                                            r = Value.int IntKind.u64 x_3 ∧
                                              ∃ (x_4 : Option Addr),
                                                h'.cell b_1 (o + 0) = some (Value.pointer x_4) ∧
                                                  C Tryz.prog 84 #[Value.pointer x_4, Value.int IntKind.i64 (IntKind.i64.wrap (x_2 + iquo IntKind.i64 x 8)), Value.int IntKind.i64 (irem x_1 8), Value.int IntKind.u64 x_3] h'
                                                    fun (r : Value) (h' : Heap) => ∃ (x : Int), r = Value.int IntKind.i64 x ∧ spare_Bank_say.J2 b n x h' Q) ∧
                                  C Tryz.prog 147 #[Value.int IntKind.u64 n] h fun (r : Value) (h' : Heap) =>
                                    ∃ (x_2 : Int),
                                      r = Value.int IntKind.u64 x_2 ∧
                                        ∃ (x_3 : Int),
                                          h'.cell b_2 (o_1 + 1 + 0) = some (Value.int IntKind.i64 x_3) ∧
                                            ∃ (x_4 : Option Addr),
                                              h'.cell b_1 (o + 0) = some (Value.pointer x_4) ∧
                                                C Tryz.prog 84 #[Value.pointer x_4, Value.int IntKind.i64 (IntKind.i64.wrap (x_3 + iquo IntKind.i64 x 8)), Value.int IntKind.i64 (irem x_1 8), Value.int IntKind.u64 x_2] h'
                                                  fun (r : Value) (h' : Heap) => ∃ (x : Int), r = Value.int IntKind.i64 x ∧ spare_Bank_say.J2 b n x h' Q) ∧
                          C Tryz.prog 147 #[Value.int IntKind.u64 n] h fun (r : Value) (h' : Heap) =>
                            ∃ (x_1 : Int),
                              r = Value.int IntKind.u64 x_1 ∧
                                (∃ (x_2 : Option Addr),
                                    h'.cell b_1 (o + 0) = some (Value.pointer x_2) ∧
                                      (∃ (x_3 : Int),
                                          h'.cell b_2 (o_1 + 1 + 0) = some (Value.int IntKind.i64 x_3) ∧
                                            ∃ (x_4 : Int),
                                              h'.cell b_4 (o_3 + 4) = some (Value.int IntKind.i64 x_4) ∧
                                                C Tryz.prog 84 #[Value.pointer x_2, Value.int IntKind.i64 (IntKind.i64.wrap (x_3 + iquo IntKind.i64 x 8)), Value.int IntKind.i64 (irem x_4 8), Value.int IntKind.u64 x_1] h'
                                                  fun (r : Value) (h' : Heap) => ∃ (x : Int), r = Value.int IntKind.i64 x ∧ spare_Bank_say.J2 b n x h' Q) ∧
                                        ∃ (x_3 : Int),
                                          h'.cell b_4 (o_3 + 4) = some (Value.int IntKind.i64 x_3) ∧
                                            ∃ (x_4 : Int),
                                              h'.cell b_2 (o_1 + 1 + 0) = some (Value.int IntKind.i64 x_4) ∧
                                                C Tryz.prog 84 #[Value.pointer x_2, Value.int IntKind.i64 (IntKind.i64.wrap (x_4 + iquo IntKind.i64 x 8)), Value.int IntKind.i64 (irem x_3 8), Value.int IntKind.u64 x_1] h'
                                                  fun (r : Value) (h' : Heap) => ∃ (x : Int), r = Value.int IntKind.i64 x ∧ spare_Bank_say.J2 b n x h' Q) ∧
                                  (∃ (x_2 : Int),
                                      h'.cell b_2 (o_1 + 1 + 0) = some (Value.int IntKind.i64 x_2) ∧
                                        ∃ (x_3 : Int),
                                          h'.cell b_4 (o_3 + 4) = some (Value.int IntKind.i64 x_3) ∧
                                            ∃ (x_4 : Option Addr),
                                              h'.cell b_1 (o + 0) = some (Value.pointer x_4) ∧
                                                C Tryz.prog 84 #[Value.pointer x_4, Value.int IntKind.i64 (IntKind.i64.wrap (x_2 + iquo IntKind.i64 x 8)), Value.int IntKind.i64 (irem x_3 8), Value.int IntKind.u64 x_1] h'
                                                  fun (r : Value) (h' : Heap) => ∃ (x : Int), r = Value.int IntKind.i64 x ∧ spare_Bank_say.J2 b n x h' Q) ∧
                                    ∃ (x_2 : Int),
                                      h'.cell b_4 (o_3 + 4) = some (Value.int IntKind.i64 x_2) ∧
                                        ∃ (x_3 : Int),
                                          h'.cell b_2 (o_1 + 1 + 0) = some (Value.int IntKind.i64 x_3) ∧
                                            ∃ (x_4 : Option Addr),
                                              h'.cell b_1 (o + 0) = some (Value.pointer x_4) ∧
                                                C Tryz.prog 84 #[Value.pointer x_4, Value.int IntKind.i64 (IntKind.i64.wrap (x_3 + iquo IntKind.i64 x 8)), Value.int IntKind.i64 (irem x_2 8), Value.int IntKind.u64 x_1] h'
                                                  fun (r : Value) (h' : Heap) => ∃ (x : Int), r = Value.int IntKind.i64 x ∧ spare_Bank_say.J2 b n x h' Q) ∧
                (∃ (x : Int),
                    h.cell b_4 (o_3 + 4) = some (Value.int IntKind.i64 x) ∧
                      (∃ (x_1 : Option Addr),
                          h.cell b_1 (o + 0) = some (Value.pointer x_1) ∧
                            (∃ (x_2 : Int),
                                h.cell b_2 (o_1 + 1 + 0) = some (Value.int IntKind.i64 x_2) ∧
                                  (∃ (x_3 : Int),
                                      h.cell b_3 (o_2 + 4) = some (Value.int IntKind.i64 x_3) ∧
                                        C Tryz.prog 147 #[Value.int IntKind.u64 n] h fun (r : Value) (h' : Heap) =>
                                          ∃ (x_4 : Int),
                                            r = Value.int IntKind.u64 x_4 ∧
                                              C Tryz.prog 84 #[Value.pointer x_1, Value.int IntKind.i64 (IntKind.i64.wrap (x_2 + iquo IntKind.i64 x_3 8)), Value.int IntKind.i64 (irem x 8), Value.int IntKind.u64 x_4] h'
                                                fun (r : Value) (h' : Heap) => ∃ (x : Int), r = Value.int IntKind.i64 x ∧ spare_Bank_say.J2 b n x h' Q) ∧
                                    C Tryz.prog 147 #[Value.int IntKind.u64 n] h fun (r : Value) (h' : Heap) =>
                                      ∃ (x_3 : Int),
                                        r = Value.int IntKind.u64 x_3 ∧
                                          ∃ (x_4 : Int),
                                            h'.cell b_3 (o_2 + 4) = some (Value.int IntKind.i64 x_4) ∧
                                              C Tryz.prog 84 #[Value.pointer x_1, Value.int IntKind.i64 (IntKind.i64.wrap (x_2 + iquo IntKind.i64 x_4 8)), Value.int IntKind.i64 (irem x 8), Value.int IntKind.u64 x_3] h'
                                                fun (r : Value) (h' : Heap) => ∃ (x : Int), r = Value.int IntKind.i64 x ∧ spare_Bank_say.J2 b n x h' Q) ∧
                              (∃ (x_2 : Int),
                                  h.cell b_3 (o_2 + 4) = some (Value.int IntKind.i64 x_2) ∧
                                    (∃ (x_3 : Int),
                                        h.cell b_2 (o_1 + 1 + 0) = some (Value.int IntKind.i64 x_3) ∧
                                          C Tryz.prog 147 #[Value.int IntKind.u64 n] h fun (r : Value) (h' : Heap) =>
                                            ∃ (x_4 : Int),
                                              r = Value.int IntKind.u64 x_4 ∧
                                                C Tryz.prog 84 #[Value.pointer x_1, Value.int IntKind.i64 (IntKind.i64.wrap (x_3 + iquo IntKind.i64 x_2 8)), Value.int IntKind.i64 (irem x 8), Value.int IntKind.u64 x_4] h'
                                                  fun (r : Value) (h' : Heap) => ∃ (x : Int), r = Value.int IntKind.i64 x ∧ spare_Bank_say.J2 b n x h' Q) ∧
                                      C Tryz.prog 147 #[Value.int IntKind.u64 n] h fun (r : Value) (h' : Heap) =>
                                        ∃ (x_3 : Int),
                                          r = Value.int IntKind.u64 x_3 ∧
                                            ∃ (x_4 : Int),
                                              h'.cell b_2 (o_1 + 1 + 0) = some (Value.int IntKind.i64 x_4) ∧
                                                C Tryz.prog 84 #[Value.pointer x_1, Value.int IntKind.i64 (IntKind.i64.wrap (x_4 + iquo IntKind.i64 x_2 8)), Value.int IntKind.i64 (irem x 8), Value.int IntKind.u64 x_3] h'
                                                  fun (r : Value) (h' : Heap) => ∃ (x : Int), r = Value.int IntKind.i64 x ∧ spare_Bank_say.J2 b n x h' Q) ∧
                                C Tryz.prog 147 #[Value.int IntKind.u64 n] h fun (r : Value) (h' : Heap) =>
                                  ∃ (x_2 : Int),
                                    r = Value.int IntKind.u64 x_2 ∧
                                      ∃ (x_3 : Int),
                                        h'.cell b_3 (o_2 + 4) = some (Value.int IntKind.i64 x_3) ∧
                                          ∃ (x_4 : Int),
                                            h'.cell b_2 (o_1 + 1 + 0) = some (Value.int IntKind.i64 x_4) ∧
                                              C Tryz.prog 84 #[Value.pointer x_1, Value.int IntKind.i64 (IntKind.i64.wrap (x_4 + iquo IntKind.i64 x_3 8)), Value.int IntKind.i64 (irem x 8), Value.int IntKind.u64 x_2] h'
                                                fun (r : Value) (h' : Heap) => ∃ (x : Int), r = Value.int IntKind.i64 x ∧ spare_Bank_say.J2 b n x h' Q) ∧
                        (∃ (x_1 : Int),
                            h.cell b_2 (o_1 + 1 + 0) = some (Value.int IntKind.i64 x_1) ∧
                              (∃ (x_2 : Option Addr),
                                  h.cell b_1 (o + 0) = some (Value.pointer x_2) ∧
                                    (∃ (x_3 : Int),
                                        h.cell b_3 (o_2 + 4) = some (Value.int IntKind.i64 x_3) ∧
                                          C Tryz.prog 147 #[Value.int IntKind.u64 n] h fun (r : Value) (h' : Heap) =>
                                            ∃ (x_4 : Int),
                                              r = Value.int IntKind.u64 x_4 ∧
                                                C Tryz.prog 84 #[Value.pointer x_2, Value.int IntKind.i64 (IntKind.i64.wrap (x_1 + iquo IntKind.i64 x_3 8)), Value.int IntKind.i64 (irem x 8), Value.int IntKind.u64 x_4] h'
                                                  fun (r : Value) (h' : Heap) => ∃ (x : Int), r = Value.int IntKind.i64 x ∧ spare_Bank_say.J2 b n x h' Q) ∧
                                      C Tryz.prog 147 #[Value.int IntKind.u64 n] h fun (r : Value) (h' : Heap) =>
                                        ∃ (x_3 : Int),
                                          r = Value.int IntKind.u64 x_3 ∧
                                            ∃ (x_4 : Int),
                                              h'.cell b_3 (o_2 + 4) = some (Value.int IntKind.i64 x_4) ∧
                                                C Tryz.prog 84 #[Value.pointer x_2, Value.int IntKind.i64 (IntKind.i64.wrap (x_1 + iquo IntKind.i64 x_4 8)), Value.int IntKind.i64 (irem x 8), Value.int IntKind.u64 x_3] h'
                                                  fun (r : Value) (h' : Heap) => ∃ (x : Int), r = Value.int IntKind.i64 x ∧ spare_Bank_say.J2 b n x h' Q) ∧
                                (∃ (x_2 : Int),
                                    h.cell b_3 (o_2 + 4) = some (Value.int IntKind.i64 x_2) ∧
                                      (∃ (x_3 : Option Addr),
                                          h.cell b_1 (o + 0) = some (Value.pointer x_3) ∧
                                            C Tryz.prog 147 #[Value.int IntKind.u64 n] h fun (r : Value) (h' : Heap) =>
                                              ∃ (x_4 : Int),
                                                r = Value.int IntKind.u64 x_4 ∧
                                                  C Tryz.prog 84 #[Value.pointer x_3, Value.int IntKind.i64 (IntKind.i64.wrap (x_1 + iquo IntKind.i64 x_2 8)), Value.int IntKind.i64 (irem x 8), Value.int IntKind.u64 x_4] h'
                                                    fun (r : Value) (h' : Heap) => ∃ (x : Int), r = Value.int IntKind.i64 x ∧ spare_Bank_say.J2 b n x h' Q) ∧
                                        C Tryz.prog 147 #[Value.int IntKind.u64 n] h fun (r : Value) (h' : Heap) =>
                                          ∃ (x_3 : Int),
                                            r = Value.int IntKind.u64 x_3 ∧
                                              ∃ (x_4 : Option Addr),
                                                h'.cell b_1 (o + 0) = some (Value.pointer x_4) ∧
                                                  C Tryz.prog 84 #[Value.pointer x_4, Value.int IntKind.i64 (IntKind.i64.wrap (x_1 + iquo IntKind.i64 x_2 8)), Value.int IntKind.i64 (irem x 8), Value.int IntKind.u64 x_3] h'
                                                    fun (r : Value) (h' : Heap) => ∃ (x : Int), r = Value.int IntKind.i64 x ∧ spare_Bank_say.J2 b n x h' Q) ∧
                                  C Tryz.prog 147 #[Value.int IntKind.u64 n] h fun (r : Value) (h' : Heap) =>
                                    ∃ (x_2 : Int),
                                      r = Value.int IntKind.u64 x_2 ∧
                                        ∃ (x_3 : Int),
                                          h'.cell b_3 (o_2 + 4) = some (Value.int IntKind.i64 x_3) ∧
                                            ∃ (x_4 : Option Addr),
                                              h'.cell b_1 (o + 0) = some (Value.pointer x_4) ∧
                                                C Tryz.prog 84 #[Value.pointer x_4, Value.int IntKind.i64 (IntKind.i64.wrap (x_1 + iquo IntKind.i64 x_3 8)), Value.int IntKind.i64 (irem x 8), Value.int IntKind.u64 x_2] h'
                                                  fun (r : Value) (h' : Heap) => ∃ (x : Int), r = Value.int IntKind.i64 x ∧ spare_Bank_say.J2 b n x h' Q) ∧
                          (∃ (x_1 : Int),
                              h.cell b_3 (o_2 + 4) = some (Value.int IntKind.i64 x_1) ∧
                                (∃ (x_2 : Option Addr),
                                    h.cell b_1 (o + 0) = some (Value.pointer x_2) ∧
                                      (∃ (x_3 : Int),
                                          h.cell b_2 (o_1 + 1 + 0) = some (Value.int IntKind.i64 x_3) ∧
                                            C Tryz.prog 147 #[Value.int IntKind.u64 n] h fun (r : Value) (h' : Heap) =>
                                              ∃ (x_4 : Int),
                                                r = Value.int IntKind.u64 x_4 ∧
                                                  C Tryz.prog 84 #[Value.pointer x_2, Value.int IntKind.i64 (IntKind.i64.wrap (x_3 + iquo IntKind.i64 x_1 8)), Value.int IntKind.i64 (irem x 8), Value.int IntKind.u64 x_4] h'
                                                    fun (r : Value) (h' : Heap) => ∃ (x : Int), r = Value.int IntKind.i64 x ∧ spare_Bank_say.J2 b n x h' Q) ∧
                                        C Tryz.prog 147 #[Value.int IntKind.u64 n] h fun (r : Value) (h' : Heap) =>
                                          ∃ (x_3 : Int),
                                            r = Value.int IntKind.u64 x_3 ∧
                                              ∃ (x_4 : Int),
                                                h'.cell b_2 (o_1 + 1 + 0) = some (Value.int IntKind.i64 x_4) ∧
                                                  C Tryz.prog 84 #[Value.pointer x_2, Value.int IntKind.i64 (IntKind.i64.wrap (x_4 + iquo IntKind.i64 x_1 8)), Value.int IntKind.i64 (irem x 8), Value.int IntKind.u64 x_3] h'
                                                    fun (r : Value) (h' : Heap) => ∃ (x : Int), r = Value.int IntKind.i64 x ∧ spare_Bank_say.J2 b n x h' Q) ∧
                                  (∃ (x_2 : Int),
                                      h.cell b_2 (o_1 + 1 + 0) = some (Value.int IntKind.i64 x_2) ∧
                                        (∃ (x_3 : Option Addr),
                                            h.cell b_1 (o + 0) = some (Value.pointer x_3) ∧
                                              C Tryz.prog 147 #[Value.int IntKind.u64 n] h fun (r : Value) (h' : Heap) =>
                                                ∃ (x_4 : Int),
                                                  r = Value.int IntKind.u64 x_4 ∧
                                                    C Tryz.prog 84 #[Value.pointer x_3, Value.int IntKind.i64 (IntKind.i64.wrap (x_2 + iquo IntKind.i64 x_1 8)), Value.int IntKind.i64 (irem x 8), Value.int IntKind.u64 x_4] h'
                                                      fun (r : Value) (h' : Heap) => ∃ (x : Int), r = Value.int IntKind.i64 x ∧ spare_Bank_say.J2 b n x h' Q) ∧
                                          C Tryz.prog 147 #[Value.int IntKind.u64 n] h fun (r : Value) (h' : Heap) =>
                                            ∃ (x_3 : Int),
                                              r = Value.int IntKind.u64 x_3 ∧
                                                ∃ (x_4 : Option Addr),
                                                  h'.cell b_1 (o + 0) = some (Value.pointer x_4) ∧
                                                    C Tryz.prog 84 #[Value.pointer x_4, Value.int IntKind.i64 (IntKind.i64.wrap (x_2 + iquo IntKind.i64 x_1 8)), Value.int IntKind.i64 (irem x 8), Value.int IntKind.u64 x_3] h'
                                                      fun (r : Value) (h' : Heap) => ∃ (x : Int), r = Value.int IntKind.i64 x ∧ spare_Bank_say.J2 b n x h' Q) ∧
                                    C Tryz.prog 147 #[Value.int IntKind.u64 n] h fun (r : Value) (h' : Heap) =>
                                      ∃ (x_2 : Int),
                                        r = Value.int IntKind.u64 x_2 ∧
                                          ∃ (x_3 : Int),
                                            h'.cell b_2 (o_1 + 1 + 0) = some (Value.int IntKind.i64 x_3) ∧
                                              ∃ (x_4 : Option Addr),
                                                h'.cell b_1 (o + 0) = some (Value.pointer x_4) ∧
                                                  C Tryz.prog 84 #[Value.pointer x_4, Value.int IntKind.i64 (IntKind.i64.wrap (x_3 + iquo IntKind.i64 x_1 8)), Value.int IntKind.i64 (irem x 8), Value.int IntKind.u64 x_2] h'
                                                    fun (r : Value) (h' : Heap) => ∃ (x : Int), r = Value.int IntKind.i64 x ∧ spare_Bank_say.J2 b n x h' Q) ∧
                            C Tryz.prog 147 #[Value.int IntKind.u64 n] h fun (r : Value) (h' : Heap) =>
                              ∃ (x_1 : Int),
                                r = Value.int IntKind.u64 x_1 ∧
                                  ∃ (x_2 : Int),
                                    h'.cell b_3 (o_2 + 4) = some (Value.int IntKind.i64 x_2) ∧
                                      ∃ (x_3 : Int),
                                        h'.cell b_2 (o_1 + 1 + 0) = some (Value.int IntKind.i64 x_3) ∧
                                          ∃ (x_4 : Option Addr),
                                            h'.cell b_1 (o + 0) = some (Value.pointer x_4) ∧
                                              C Tryz.prog 84 #[Value.pointer x_4, Value.int IntKind.i64 (IntKind.i64.wrap (x_3 + iquo IntKind.i64 x_2 8)), Value.int IntKind.i64 (irem x 8), Value.int IntKind.u64 x_1] h'
                                                fun (r : Value) (h' : Heap) => ∃ (x : Int), r = Value.int IntKind.i64 x ∧ spare_Bank_say.J2 b n x h' Q) ∧
                  C Tryz.prog 147 #[Value.int IntKind.u64 n] h fun (r : Value) (h' : Heap) =>
                    ∃ (x : Int),
                      r = Value.int IntKind.u64 x ∧
                        (∃ (x_1 : Option Addr),
                            h'.cell b_1 (o + 0) = some (Value.pointer x_1) ∧
                              (∃ (x_2 : Int),
                                  h'.cell b_2 (o_1 + 1 + 0) = some (Value.int IntKind.i64 x_2) ∧
                                    (∃ (x_3 : Int),
                                        h'.cell b_3 (o_2 + 4) = some (Value.int IntKind.i64 x_3) ∧
                                          ∃ (x_4 : Int),
                                            h'.cell b_4 (o_3 + 4) = some (Value.int IntKind.i64 x_4) ∧
                                              C Tryz.prog 84 #[Value.pointer x_1, Value.int IntKind.i64 (IntKind.i64.wrap (x_2 + iquo IntKind.i64 x_3 8)), Value.int IntKind.i64 (irem x_4 8), Value.int IntKind.u64 x] h'
                                                fun (r : Value) (h' : Heap) => ∃ (x : Int), r = Value.int IntKind.i64 x ∧ spare_Bank_say.J2 b n x h' Q) ∧
                                      ∃ (x_3 : Int),
                                        h'.cell b_4 (o_3 + 4) = some (Value.int IntKind.i64 x_3) ∧
                                          ∃ (x_4 : Int),
                                            h'.cell b_3 (o_2 + 4) = some (Value.int IntKind.i64 x_4) ∧
                                              C Tryz.prog 84 #[Value.pointer x_1, Value.int IntKind.i64 (IntKind.i64.wrap (x_2 + iquo IntKind.i64 x_4 8)), Value.int IntKind.i64 (irem x_3 8), Value.int IntKind.u64 x] h'
                                                fun (r : Value) (h' : Heap) => ∃ (x : Int), r = Value.int IntKind.i64 x ∧ spare_Bank_say.J2 b n x h' Q) ∧
                                (∃ (x_2 : Int),
                                    h'.cell b_3 (o_2 + 4) = some (Value.int IntKind.i64 x_2) ∧
                                      (∃ (x_3 : Int),
                                          h'.cell b_2 (o_1 + 1 + 0) = some (Value.int IntKind.i64 x_3) ∧
                                            ∃ (x_4 : Int),
                                              h'.cell b_4 (o_3 + 4) = some (Value.int IntKind.i64 x_4) ∧
                                                C Tryz.prog 84 #[Value.pointer x_1, Value.int IntKind.i64 (IntKind.i64.wrap (x_3 + iquo IntKind.i64 x_2 8)), Value.int IntKind.i64 (irem x_4 8), Value.int IntKind.u64 x] h'
                                                  fun (r : Value) (h' : Heap) => ∃ (x : Int), r = Value.int IntKind.i64 x ∧ spare_Bank_say.J2 b n x h' Q) ∧
                                        ∃ (x_3 : Int),
                                          h'.cell b_4 (o_3 + 4) = some (Value.int IntKind.i64 x_3) ∧
                                            ∃ (x_4 : Int),
                                              h'.cell b_2 (o_1 + 1 + 0) = some (Value.int IntKind.i64 x_4) ∧
                                                C Tryz.prog 84 #[Value.pointer x_1, Value.int IntKind.i64 (IntKind.i64.wrap (x_4 + iquo IntKind.i64 x_2 8)), Value.int IntKind.i64 (irem x_3 8), Value.int IntKind.u64 x] h'
                                                  fun (r : Value) (h' : Heap) => ∃ (x : Int), r = Value.int IntKind.i64 x ∧ spare_Bank_say.J2 b n x h' Q) ∧
                                  ∃ (x_2 : Int),
                                    h'.cell b_4 (o_3 + 4) = some (Value.int IntKind.i64 x_2) ∧
                                      ∃ (x_3 : Int),
                                        h'.cell b_3 (o_2 + 4) = some (Value.int IntKind.i64 x_3) ∧
                                          ∃ (x_4 : Int),
                                            h'.cell b_2 (o_1 + 1 + 0) = some (Value.int IntKind.i64 x_4) ∧
                                              C Tryz.prog 84 #[Value.pointer x_1, Value.int IntKind.i64 (IntKind.i64.wrap (x_4 + iquo IntKind.i64 x_3 8)), Value.int IntKind.i64 (irem x_2 8), Value.int IntKind.u64 x] h'
                                                fun (r : Value) (h' : Heap) => ∃ (x : Int), r = Value.int IntKind.i64 x ∧ spare_Bank_say.J2 b n x h' Q) ∧
                          (∃ (x_1 : Int),
                              h'.cell b_2 (o_1 + 1 + 0) = some (Value.int IntKind.i64 x_1) ∧
                                (∃ (x_2 : Option Addr),
                                    h'.cell b_1 (o + 0) = some (Value.pointer x_2) ∧
                                      (∃ (x_3 : Int),
                                          h'.cell b_3 (o_2 + 4) = some (Value.int IntKind.i64 x_3) ∧
                                            ∃ (x_4 : Int),
                                              h'.cell b_4 (o_3 + 4) = some (Value.int IntKind.i64 x_4) ∧
                                                C Tryz.prog 84 #[Value.pointer x_2, Value.int IntKind.i64 (IntKind.i64.wrap (x_1 + iquo IntKind.i64 x_3 8)), Value.int IntKind.i64 (irem x_4 8), Value.int IntKind.u64 x] h'
                                                  fun (r : Value) (h' : Heap) => ∃ (x : Int), r = Value.int IntKind.i64 x ∧ spare_Bank_say.J2 b n x h' Q) ∧
                                        ∃ (x_3 : Int),
                                          h'.cell b_4 (o_3 + 4) = some (Value.int IntKind.i64 x_3) ∧
                                            ∃ (x_4 : Int),
                                              h'.cell b_3 (o_2 + 4) = some (Value.int IntKind.i64 x_4) ∧
                                                C Tryz.prog 84 #[Value.pointer x_2, Value.int IntKind.i64 (IntKind.i64.wrap (x_1 + iquo IntKind.i64 x_4 8)), Value.int IntKind.i64 (irem x_3 8), Value.int IntKind.u64 x] h'
                                                  fun (r : Value) (h' : Heap) => ∃ (x : Int), r = Value.int IntKind.i64 x ∧ spare_Bank_say.J2 b n x h' Q) ∧
                                  (∃ (x_2 : Int),
                                      h'.cell b_3 (o_2 + 4) = some (Value.int IntKind.i64 x_2) ∧
                                        ∃ (x_3 : Int),
                                          h'.cell b_4 (o_3 + 4) = some (Value.int IntKind.i64 x_3) ∧
                                            ∃ (x_4 : Option Addr),
                                              h'.cell b_1 (o + 0) = some (Value.pointer x_4) ∧
                                                C Tryz.prog 84 #[Value.pointer x_4, Value.int IntKind.i64 (IntKind.i64.wrap (x_1 + iquo IntKind.i64 x_2 8)), Value.int IntKind.i64 (irem x_3 8), Value.int IntKind.u64 x] h'
                                                  fun (r : Value) (h' : Heap) => ∃ (x : Int), r = Value.int IntKind.i64 x ∧ spare_Bank_say.J2 b n x h' Q) ∧
                                    ∃ (x_2 : Int),
                                      h'.cell b_4 (o_3 + 4) = some (Value.int IntKind.i64 x_2) ∧
                                        ∃ (x_3 : Int),
                                          h'.cell b_3 (o_2 + 4) = some (Value.int IntKind.i64 x_3) ∧
                                            ∃ (x_4 : Option Addr),
                                              h'.cell b_1 (o + 0) = some (Value.pointer x_4) ∧
                                                C Tryz.prog 84 #[Value.pointer x_4, Value.int IntKind.i64 (IntKind.i64.wrap (x_1 + iquo IntKind.i64 x_3 8)), Value.int IntKind.i64 (irem x_2 8), Value.int IntKind.u64 x] h'
                                                  fun (r : Value) (h' : Heap) => ∃ (x : Int), r = Value.int IntKind.i64 x ∧ spare_Bank_say.J2 b n x h' Q) ∧
                            (∃ (x_1 : Int),
                                h'.cell b_3 (o_2 + 4) = some (Value.int IntKind.i64 x_1) ∧
                                  (∃ (x_2 : Option Addr),
                                      h'.cell b_1 (o + 0) = some (Value.pointer x_2) ∧
                                        (∃ (x_3 : Int),
                                            h'.cell b_2 (o_1 + 1 + 0) = some (Value.int IntKind.i64 x_3) ∧
                                              ∃ (x_4 : Int),
                                                h'.cell b_4 (o_3 + 4) = some (Value.int IntKind.i64 x_4) ∧
                                                  C Tryz.prog 84 #[Value.pointer x_2, Value.int IntKind.i64 (IntKind.i64.wrap (x_3 + iquo IntKind.i64 x_1 8)), Value.int IntKind.i64 (irem x_4 8), Value.int IntKind.u64 x] h'
                                                    fun (r : Value) (h' : Heap) => ∃ (x : Int), r = Value.int IntKind.i64 x ∧ spare_Bank_say.J2 b n x h' Q) ∧
                                          ∃ (x_3 : Int),
                                            h'.cell b_4 (o_3 + 4) = some (Value.int IntKind.i64 x_3) ∧
                                              ∃ (x_4 : Int),
                                                h'.cell b_2 (o_1 + 1 + 0) = some (Value.int IntKind.i64 x_4) ∧
                                                  C Tryz.prog 84 #[Value.pointer x_2, Value.int IntKind.i64 (IntKind.i64.wrap (x_4 + iquo IntKind.i64 x_1 8)), Value.int IntKind.i64 (irem x_3 8), Value.int IntKind.u64 x] h'
                                                    fun (r : Value) (h' : Heap) => ∃ (x : Int), r = Value.int IntKind.i64 x ∧ spare_Bank_say.J2 b n x h' Q) ∧
                                    (∃ (x_2 : Int),
                                        h'.cell b_2 (o_1 + 1 + 0) = some (Value.int IntKind.i64 x_2) ∧
                                          ∃ (x_3 : Int),
                                            h'.cell b_4 (o_3 + 4) = some (Value.int IntKind.i64 x_3) ∧
                                              ∃ (x_4 : Option Addr),
                                                h'.cell b_1 (o + 0) = some (Value.pointer x_4) ∧
                                                  C Tryz.prog 84 #[Value.pointer x_4, Value.int IntKind.i64 (IntKind.i64.wrap (x_2 + iquo IntKind.i64 x_1 8)), Value.int IntKind.i64 (irem x_3 8), Value.int IntKind.u64 x] h'
                                                    fun (r : Value) (h' : Heap) => ∃ (x : Int), r = Value.int IntKind.i64 x ∧ spare_Bank_say.J2 b n x h' Q) ∧
                                      ∃ (x_2 : Int),
                                        h'.cell b_4 (o_3 + 4) = some (Value.int IntKind.i64 x_2) ∧
                                          ∃ (x_3 : Int),
                                            h'.cell b_2 (o_1 + 1 + 0) = some (Value.int IntKind.i64 x_3) ∧
                                              ∃ (x_4 : Option Addr),
                                                h'.cell b_1 (o + 0) = some (Value.pointer x_4) ∧
                                                  C Tryz.prog 84 #[Value.pointer x_4, Value.int IntKind.i64 (IntKind.i64.wrap (x_3 + iquo IntKind.i64 x_1 8)), Value.int IntKind.i64 (irem x_2 8), Value.int IntKind.u64 x] h'
                                                    fun (r : Value) (h' : Heap) => ∃ (x : Int), r = Value.int IntKind.i64 x ∧ spare_Bank_say.J2 b n x h' Q) ∧
                              ∃ (x_1 : Int),
                                h'.cell b_4 (o_3 + 4) = some (Value.int IntKind.i64 x_1) ∧
                                  ∃ (x_2 : Int),
                                    h'.cell b_3 (o_2 + 4) = some (Value.int IntKind.i64 x_2) ∧
                                      ∃ (x_3 : Int),
                                        h'.cell b_2 (o_1 + 1 + 0) = some (Value.int IntKind.i64 x_3) ∧
                                          ∃ (x_4 : Option Addr),
                                            h'.cell b_1 (o + 0) = some (Value.pointer x_4) ∧
                                              C Tryz.prog 84 #[Value.pointer x_4, Value.int IntKind.i64 (IntKind.i64.wrap (x_3 + iquo IntKind.i64 x_2 8)), Value.int IntKind.i64 (irem x_1 8), Value.int IntKind.u64 x] h'
                                                fun (r : Value) (h' : Heap) => ∃ (x : Int), r = Value.int IntKind.i64 x ∧ spare_Bank_say.J2 b n x h' Q
def spare_Bank_say.J2.wp (b : Option Addr) (n : Int) (e : Int) (h : Heap) (Q : Value → Heap → Prop) : Prop :=
  xsIf (decide (e = 0))
    (atBase b fun (b_1 o : Nat) =>
      (∃ (x : Int),
          h.cell b_1 (o + 4) = some (Value.int IntKind.i64 x) ∧
            C Tryz.prog 147 #[Value.int IntKind.u64 n] h fun (r : Value) (h' : Heap) =>
              ∃ (x_1 : Int),
                r = Value.int IntKind.u64 x_1 ∧
                  C Tryz.prog 80 #[Value.pointer b, Value.int IntKind.i64 x, Value.int IntKind.u64 x_1] h' fun (r : Value) (h' : Heap) => ∃ (x : Int), r = Value.int IntKind.i64 x ∧ Q (Value.int IntKind.i64 x) h') ∧
        C Tryz.prog 147 #[Value.int IntKind.u64 n] h fun (r : Value) (h' : Heap) =>
          ∃ (x : Int),
            r = Value.int IntKind.u64 x ∧
              ∃ (x_1 : Int),
                h'.cell b_1 (o + 4) = some (Value.int IntKind.i64 x_1) ∧
                  C Tryz.prog 80 #[Value.pointer b, Value.int IntKind.i64 x_1, Value.int IntKind.u64 x] h' fun (r : Value) (h' : Heap) => ∃ (x : Int), r = Value.int IntKind.i64 x ∧ Q (Value.int IntKind.i64 x) h')
    (Q (Value.int IntKind.i64 e) h)
theorem spare_Bank_say.ok {b : Option Addr} {n : Int} {h : Heap} {Q : Value → Heap → Prop} (hk : spare_Bank_say.wp b n h Q) : C Tryz.prog 128 #[.pointer b, .int .u64 n] h Q :=
  C_of_xs (H := spare_Bank_say.H) (lcuts := spare_Bank_say.lc) (rcuts := spare_Bank_say.rc) (l := [.pointer b, .int .u64 n]) 2000 mixed Tryz.func128 rfl (by kernel_rfl) (@cast (spare_Bank_say.wp b n h Q) _ (by kernel_rfl) hk)
theorem spare_Bank_say.J2.ok {b : Option Addr} {n : Int} {e : Int} {h : Heap} {Q : Value → Heap → Prop} (hk : spare_Bank_say.J2.wp b n e h Q) : spare_Bank_say.J2 b n e h Q :=
  xs_ok (H := spare_Bank_say.H) (lcuts := spare_Bank_say.lc) (rcuts := []) (fn := Tryz.f128) mixed Tryz.func128 2000 _ _ _ (@cast (spare_Bank_say.J2.wp b n e h Q) _ (by kernel_rfl) hk)

/-! (*gabion/spare.Bank).retire -/
def spare_Bank_retire.H : Hn := ⟨[], [], [⟨2, .q 0 (.q 1 (.q 2 (.q 4 (.q 5 (.q 6 (.ld 3 768 (.q 7 (.q 8 (.q 9 (.nil)))))))))), []⟩], []⟩
def spare_Bank_retire.lc : List Cut := [⟨1, [0, 1, 2], []⟩]
def spare_Bank_retire.rc : List Cut := []
def spare_Bank_retire.L1 (b : Option Addr) (i : Int) (s : ByteArray) (h : Heap) (Q : Value → Heap → Prop) : Prop :=
  TW Tryz.prog 85 49 [.code (cAt (bodyOf Tryz.f85) [1, 0, 0, 0]), .inLoop (cAt (bodyOf Tryz.f85) [1, 0, 0, 0]), .inBlock 0, .code (cAt (bodyOf Tryz.f85) [1, 1])] ⟨[(0, .v (.pointer b)), (1, .v (.int .i64 i)), (2, .v (.string s))], []⟩ h Q
def spare_Bank_retire.wp (b : Option Addr) (i : Int) (s : ByteArray) (h : Heap) (Q : Value → Heap → Prop) : Prop :=
  spare_Bank_retire.L1 b i s h Q
def spare_Bank_retire.L1.wp (b : Option Addr) (i : Int) (s : ByteArray) (h : Heap) (Q : Value → Heap → Prop) : Prop :=
  C Tryz.prog 127 #[Value.pointer b] h fun (r : Value) (h' : Heap) =>
    ∃ (x : Int),
      r = Value.int IntKind.i64 x ∧
        xsIf (decide (0 < x))
          (atBase b fun (b_1 o : Nat) =>
            atBase b fun (b_2 o_1 : Nat) =>
              ∃ (x : Int),
                h'.cell b_1 (o + 1) = some (Value.int IntKind.i64 x) ∧
                  ∃ (x_1 : Int),
                    h'.cell b_1 (o + 1 + 1) = some (Value.int IntKind.i64 x_1) ∧
                      ∃ (x_2 : Int),
                        h'.cell b_1 (o + 1 + 1 + 1) = some (Value.int IntKind.i64 x_2) ∧
                          ∃ (x_3 : Int),
                            h'.cell b_2 (o_1 + 4) = some (Value.int IntKind.i64 x_3) ∧
                              C Tryz.prog 124 #[Value.agg #[Value.int IntKind.i64 x, Value.int IntKind.i64 x_1, Value.int IntKind.i64 x_2], Value.int IntKind.i64 x_3] h' fun (r : Value) (h' : Heap) =>
                                ∃ (x : Int),
                                  r = Value.int IntKind.i64 x ∧
                                    atBase b fun (b_3 o : Nat) =>
                                      ∃ (x_4 : Option Addr),
                                        h'.cell b_3 (o + 0) = some (Value.pointer x_4) ∧
                                          C Tryz.prog 78 #[Value.pointer x_4, Value.int IntKind.i64 x, Value.string s] h' fun (r : Value) (h' : Heap) =>
                                            ∃ (x_5 : Int),
                                              r = Value.int IntKind.i64 x_5 ∧
                                                xsIf (decide (x_5 ≠ 0)) (Q (Value.int IntKind.i64 x_5) h')
                                                  (atBase b fun (b_4 o : Nat) =>
                                                    ∃ (x_6 : Option Addr),
                                                      h'.cell b_4 (o + 0) = some (Value.pointer x_6) ∧
                                                        C Tryz.prog 56 #[Value.pointer x_6, Value.int IntKind.i64 x, Value.string s] h' fun (r : Value) (h' : Heap) =>
                                                          ∃ (x : Bool),
                                                            r = Value.bool x ∧
                                                              xsIf x
                                                                (C Tryz.prog 128 #[Value.pointer b, Value.int IntKind.u64 (IntKind.u64.wrap (IntKind.u64.wrap i + 1))] h' fun (r : Value) (h' : Heap) =>
                                                                  ∃ (x : Int), r = Value.int IntKind.i64 x ∧ Q (Value.int IntKind.i64 x) h')
                                                                (C Tryz.prog 128 #[Value.pointer b, Value.int IntKind.u64 65535] h' fun (r : Value) (h' : Heap) =>
                                                                  ∃ (x : Int), r = Value.int IntKind.i64 x ∧ xsIf (decide (x ≠ 0)) (Q (Value.int IntKind.i64 x) h') (spare_Bank_retire.L1 b i s h' Q))))
          (Q (Value.int IntKind.i64 10) h')
theorem spare_Bank_retire.ok {b : Option Addr} {i : Int} {s : ByteArray} {h : Heap} {Q : Value → Heap → Prop} (hk : spare_Bank_retire.wp b i s h Q) : C Tryz.prog 85 #[.pointer b, .int .i64 i, .string s] h Q :=
  C_of_xs (H := spare_Bank_retire.H) (lcuts := spare_Bank_retire.lc) (rcuts := spare_Bank_retire.rc) (l := [.pointer b, .int .i64 i, .string s]) 2000 mixed Tryz.func85 rfl (by kernel_rfl) (@cast (spare_Bank_retire.wp b i s h Q) _ (by kernel_rfl) hk)
theorem spare_Bank_retire.L1.ok {b : Option Addr} {i : Int} {s : ByteArray} {h : Heap} {Q : Value → Heap → Prop} (hk : spare_Bank_retire.L1.wp b i s h Q) : spare_Bank_retire.L1 b i s h Q :=
  xs_ok (H := spare_Bank_retire.H) (lcuts := spare_Bank_retire.lc) (rcuts := spare_Bank_retire.rc) (fn := Tryz.f85) mixed Tryz.func85 2000 _ _ _ (@cast (spare_Bank_retire.L1.wp b i s h Q) _ (by kernel_rfl) hk)

/-! (*gabion/spare.Bank).WriteWord -/
def spare_Bank_WriteWord.H : Hn := ⟨[], [], [⟨11, .q 0 (.q 1 (.q 2 (.q 3 (.q 4 (.q 7 (.q 8 (.q 9 (.q 10 (.q 11 (.q 5 (.q 6 (.q 12 (.q 13 (.nil)))))))))))))), []⟩], []⟩
def spare_Bank_WriteWord.lc : List Cut := []
def spare_Bank_WriteWord.rc : List Cut := []
def spare_Bank_WriteWord.wp (b : Option Addr) (i : Int) (k0 : Int) (v : Int) (h : Heap) (Q : Value → Heap → Prop) : Prop :=
  C Tryz.prog 81 #[Value.pointer b, Value.int IntKind.i64 i] h fun (r : Value) (h' : Heap) =>
    ∃ (x : Int),
      ∃ (x_1 : Int),
        r = Value.tuple #[Value.int IntKind.i64 x, Value.int IntKind.i64 x_1] ∧
          xsIf (decide (x_1 = 1)) (Q (Value.int IntKind.i64 x_1) h')
            (xsIf (decide (k0 < 0)) (Q (Value.int IntKind.i64 2) h')
              (xsIf (decide (8 ≤ k0)) (Q (Value.int IntKind.i64 2) h')
                (xsIf (decide (x_1 ≠ 0)) (Q (Value.int IntKind.i64 x_1) h')
                  (atBase b fun (b_1 o : Nat) =>
                    ∃ (x_2 : Option Addr),
                      h'.cell b_1 (o + 0) = some (Value.pointer x_2) ∧
                        C Tryz.prog 82 #[Value.pointer x_2, Value.int IntKind.i64 x] h' fun (r : Value) (h' : Heap) =>
                          ∃ (x_3 : ByteArray),
                            ∃ (x_4 : Int),
                              r = Value.tuple #[Value.string x_3, Value.int IntKind.i64 x_4] ∧
                                xsIf (decide (x_4 ≠ 0)) (Q (Value.int IntKind.i64 x_4) h')
                                  ((0 ≤ IntKind.i64.wrap (8 * k0) ∧ IntKind.i64.wrap (8 * k0) ≤ (↑x_3.size : Int)) ∧
                                    (0 ≤ IntKind.i64.wrap (8 * IntKind.i64.wrap (k0 + 1)) ∧ IntKind.i64.wrap (8 * IntKind.i64.wrap (k0 + 1)) ≤ (↑x_3.size : Int)) ∧
                                      C Tryz.prog 83 #[Value.int IntKind.u64 v, Value.int IntKind.i64 8] h' fun (r : Value) (h' : Heap) =>
                                        ∃ (x_5 : ByteArray),
                                          r = Value.string x_5 ∧
                                            (↑((sext x_3 0 (IntKind.i64.wrap (8 * k0))).size + x_5.size) : Int) ≤ 9223372036854775807 ∧
                                              (↑((sext x_3 0 (IntKind.i64.wrap (8 * k0)) ++ x_5).size + (sext x_3 (IntKind.i64.wrap (8 * IntKind.i64.wrap (k0 + 1))) (↑x_3.size : Int)).size) : Int) ≤ 9223372036854775807 ∧
                                                atBase b fun (b_2 o : Nat) =>
                                                  ∃ (x_6 : Option Addr),
                                                    h'.cell b_2 (o + 0) = some (Value.pointer x_6) ∧
                                                      C Tryz.prog 84 #[Value.pointer x_6, Value.int IntKind.i64 x, Value.int IntKind.i64 k0, Value.int IntKind.u64 v] h' fun (r : Value) (h' : Heap) =>
                                                        ∃ (x_7 : Int),
                                                          r = Value.int IntKind.i64 x_7 ∧
                                                            xsIf (decide (x_7 ≠ 0)) (Q (Value.int IntKind.i64 x_7) h')
                                                              (atBase b fun (b_3 o : Nat) =>
                                                                ∃ (x_8 : Option Addr),
                                                                  h'.cell b_3 (o + 0) = some (Value.pointer x_8) ∧
                                                                    C Tryz.prog 56
                                                                      #[Value.pointer x_8, Value.int IntKind.i64 x,
                                                                            Value.string (sext x_3 0 (IntKind.i64.wrap (8 * k0)) ++ x_5 ++ sext x_3 (IntKind.i64.wrap (8 * IntKind.i64.wrap (k0 + 1))) (↑x_3.size : Int))]
                                                                      h' fun (r : Value) (h' : Heap) =>
                                                                      ∃ (x : Bool),
                                                                        r = Value.bool x ∧
                                                                          xsIf x (Q (Value.int IntKind.i64 0) h')
                                                                            (C Tryz.prog 85
                                                                              #[Value.pointer b, Value.int IntKind.i64 i,
                                                                                    Value.string (sext x_3 0 (IntKind.i64.wrap (8 * k0)) ++ x_5 ++ sext x_3 (IntKind.i64.wrap (8 * IntKind.i64.wrap (k0 + 1))) (↑x_3.size : Int))]
                                                                              h' fun (r : Value) (h' : Heap) => ∃ (x : Int), r = Value.int IntKind.i64 x ∧ Q (Value.int IntKind.i64 x) h')))))))
theorem spare_Bank_WriteWord.ok {b : Option Addr} {i : Int} {k0 : Int} {v : Int} {h : Heap} {Q : Value → Heap → Prop} (hk : spare_Bank_WriteWord.wp b i k0 v h Q) : C Tryz.prog 33 #[.pointer b, .int .i64 i, .int .i64 k0, .int .u64 v] h Q :=
  C_of_xs (H := spare_Bank_WriteWord.H) (lcuts := spare_Bank_WriteWord.lc) (rcuts := spare_Bank_WriteWord.rc) (l := [.pointer b, .int .i64 i, .int .i64 k0, .int .u64 v]) 2000 mixed Tryz.func33 rfl (by kernel_rfl) (@cast (spare_Bank_WriteWord.wp b i k0 v h Q) _ (by kernel_rfl) hk)

/-! gabion/ring.Format -/
def ring_Format.H : Hn := ⟨[], [], [⟨10, .q 0 (.q 1 (.q 3 (.q 4 (.q 2 (.q 5 (.q 6 (.q 7 (.q 8 (.nil))))))))), []⟩], []⟩
def ring_Format.lc : List Cut := []
def ring_Format.rc : List Cut := []
def ring_Format.wp (d : Option Addr) (p_0 : Int) (p_1 : Int) (p_2 : Int) (p_3 : Int) (h : Heap) (Q : Value → Heap → Prop) : Prop :=
  C Tryz.prog 29 #[Value.pointer d, Value.agg #[Value.int IntKind.i64 p_0, Value.int IntKind.i64 p_1, Value.int IntKind.i64 p_2, Value.int IntKind.i64 p_3]] h fun (r : Value) (h' : Heap) =>
    ∃ (x : Int),
      r = Value.int IntKind.i64 x ∧
        xsIf (decide (x ≠ 0)) (Q (Value.int IntKind.i64 x) h')
          (C Tryz.prog 31 #[Value.agg #[Value.int IntKind.i64 p_0, Value.int IntKind.i64 p_1, Value.int IntKind.i64 p_2, Value.int IntKind.i64 p_3]] h' fun (r : Value) (h' : Heap) =>
            ∃ (x : Int),
              ∃ (x_1 : Int),
                ∃ (x_2 : Int),
                  r = Value.agg #[Value.int IntKind.i64 x, Value.int IntKind.i64 x_1, Value.int IntKind.i64 x_2] ∧
                    C Tryz.prog 30 #[Value.pointer d, Value.agg #[Value.int IntKind.i64 x, Value.int IntKind.i64 x_1, Value.int IntKind.i64 x_2]] h' fun (r : Value) (h' : Heap) =>
                      ∃ (x : Int),
                        r = Value.int IntKind.i64 x ∧
                          xsIf (decide (x ≠ 0)) (Q (Value.int IntKind.i64 x) h')
                            (C Tryz.prog 31 #[Value.agg #[Value.int IntKind.i64 p_0, Value.int IntKind.i64 p_1, Value.int IntKind.i64 p_2, Value.int IntKind.i64 p_3]] h' fun (r : Value) (h' : Heap) =>
                              ∃ (x : Int),
                                ∃ (x_3 : Int),
                                  ∃ (x_4 : Int),
                                    r = Value.agg #[Value.int IntKind.i64 x, Value.int IntKind.i64 x_3, Value.int IntKind.i64 x_4] ∧
                                      C Tryz.prog 32 #[Value.pointer d, Value.agg #[Value.int IntKind.i64 x, Value.int IntKind.i64 x_3, Value.int IntKind.i64 x_4]] h' fun (r : Value) (h' : Heap) =>
                                        ∃ (x : Option Addr),
                                          ∃ (x_5 : Int),
                                            r = Value.tuple #[Value.pointer x, Value.int IntKind.i64 x_5] ∧
                                              xsIf (decide (x_5 ≠ 0)) (Q (Value.int IntKind.i64 x_5) h')
                                                (C Tryz.prog 34 #[Value.agg #[Value.int IntKind.i64 p_0, Value.int IntKind.i64 p_1, Value.int IntKind.i64 p_2, Value.int IntKind.i64 p_3]] h'
                                                  fun (r : Value) (h' : Heap) =>
                                                  ∃ (x_6 : Int),
                                                    r = Value.int IntKind.i64 x_6 ∧
                                                      C Tryz.prog 35 #[Value.int IntKind.i64 p_1] h' fun (r : Value) (h' : Heap) =>
                                                        ∃ (x_7 : Int),
                                                          ∃ (x_8 : Int),
                                                            ∃ (x_9 : Int),
                                                              r = Value.agg #[Value.int IntKind.i64 x_7, Value.int IntKind.i64 x_8, Value.int IntKind.u32 x_9] ∧
                                                                C Tryz.prog 36 #[Value.agg #[Value.int IntKind.i64 x_7, Value.int IntKind.i64 x_8, Value.int IntKind.u32 x_9]] h' fun (r : Value) (h' : Heap) =>
                                                                  ∃ (x_10 : Int),
                                                                    r = Value.int IntKind.u64 x_10 ∧
                                                                      C Tryz.prog 33 #[Value.pointer x, Value.int IntKind.i64 x_6, Value.int IntKind.i64 0, Value.int IntKind.u64 x_10] h' fun (r : Value) (h' : Heap) =>
                                                                        ∃ (x : Int), r = Value.int IntKind.i64 x ∧ Q (Value.int IntKind.i64 x) h')))
theorem ring_Format.ok {d : Option Addr} {p_0 : Int} {p_1 : Int} {p_2 : Int} {p_3 : Int} {h : Heap} {Q : Value → Heap → Prop} (hk : ring_Format.wp d p_0 p_1 p_2 p_3 h Q) : C Tryz.prog 9 #[.pointer d, .agg #[.int .i64 p_0, .int .i64 p_1, .int .i64 p_2, .int .i64 p_3]] h Q :=
  C_of_xs (H := ring_Format.H) (lcuts := ring_Format.lc) (rcuts := ring_Format.rc) (l := [.pointer d, .agg #[.int .i64 p_0, .int .i64 p_1, .int .i64 p_2, .int .i64 p_3]]) 2000 mixed Tryz.func9 rfl (by kernel_rfl) (@cast (ring_Format.wp d p_0 p_1 p_2 p_3 h Q) _ (by kernel_rfl) hk)

/-! (*gabion/spare.Bank).Read -/
def spare_Bank_Read.H : Hn := ⟨[], [], [], []⟩
def spare_Bank_Read.lc : List Cut := []
def spare_Bank_Read.rc : List Cut := []
def spare_Bank_Read.wp (b : Option Addr) (i : Int) (h : Heap) (Q : Value → Heap → Prop) : Prop :=
  C Tryz.prog 81 #[Value.pointer b, Value.int IntKind.i64 i] h fun (r : Value) (h' : Heap) =>
    ∃ (x : Int),
      ∃ (x_1 : Int),
        r = Value.tuple #[Value.int IntKind.i64 x, Value.int IntKind.i64 x_1] ∧
          xsIf (decide (x_1 ≠ 0)) (Q (Value.tuple #[Value.string { data := #[] }, Value.int IntKind.i64 x_1]) h')
            (atBase b fun (b o : Nat) =>
              ∃ (x_2 : Option Addr),
                h'.cell b (o + 0) = some (Value.pointer x_2) ∧
                  C Tryz.prog 82 #[Value.pointer x_2, Value.int IntKind.i64 x] h' fun (r : Value) (h' : Heap) =>
                    ∃ (x : ByteArray), ∃ (x_3 : Int), r = Value.tuple #[Value.string x, Value.int IntKind.i64 x_3] ∧ Q (Value.tuple #[Value.string x, Value.int IntKind.i64 x_3]) h')
theorem spare_Bank_Read.ok {b : Option Addr} {i : Int} {h : Heap} {Q : Value → Heap → Prop} (hk : spare_Bank_Read.wp b i h Q) : C Tryz.prog 38 #[.pointer b, .int .i64 i] h Q :=
  C_of_xs (H := spare_Bank_Read.H) (lcuts := spare_Bank_Read.lc) (rcuts := spare_Bank_Read.rc) (l := [.pointer b, .int .i64 i]) 2000 mixed Tryz.func38 rfl (by kernel_rfl) (@cast (spare_Bank_Read.wp b i h Q) _ (by kernel_rfl) hk)

/-! gabion/gap.Unpack -/
def gap_Unpack.H : Hn := ⟨[], [], [], []⟩
def gap_Unpack.lc : List Cut := []
def gap_Unpack.rc : List Cut := []
def gap_Unpack.wp (w : Int) (h : Heap) (Q : Value → Heap → Prop) : Prop :=
  C Tryz.prog 88 #[Value.int IntKind.u64 w, Value.int IntKind.i64 0, Value.int IntKind.i64 16] h fun (r : Value) (h' : Heap) =>
    ∃ (x : Int),
      r = Value.int IntKind.u64 x ∧
        C Tryz.prog 88 #[Value.int IntKind.u64 w, Value.int IntKind.i64 16, Value.int IntKind.i64 16] h' fun (r : Value) (h' : Heap) =>
          ∃ (x_1 : Int),
            r = Value.int IntKind.u64 x_1 ∧
              C Tryz.prog 88 #[Value.int IntKind.u64 w, Value.int IntKind.i64 32, Value.int IntKind.i64 32] h' fun (r : Value) (h' : Heap) =>
                ∃ (x_2 : Int), r = Value.int IntKind.u64 x_2 ∧ Q (Value.agg #[Value.int IntKind.i64 (IntKind.i64.wrap x), Value.int IntKind.i64 (IntKind.i64.wrap x_1), Value.int IntKind.u32 (IntKind.u32.wrap x_2)]) h'
theorem gap_Unpack.ok {w : Int} {h : Heap} {Q : Value → Heap → Prop} (hk : gap_Unpack.wp w h Q) : C Tryz.prog 39 #[.int .u64 w] h Q :=
  C_of_xs (H := gap_Unpack.H) (lcuts := gap_Unpack.lc) (rcuts := gap_Unpack.rc) (l := [.int .u64 w]) 2000 mixed Tryz.func39 rfl (by kernel_rfl) (@cast (gap_Unpack.wp w h Q) _ (by kernel_rfl) hk)

/-! (gabion/gap.State).Right -/
def gap_State_Right.H : Hn := ⟨[], [], [], []⟩
def gap_State_Right.lc : List Cut := []
def gap_State_Right.rc : List Cut := []
def gap_State_Right.wp (s_0 : Int) (s_1 : Int) (s_2 : Int) (n : Int) (h : Heap) (Q : Value → Heap → Prop) : Prop :=
  C Tryz.prog 86 #[Value.int IntKind.i64 n] h fun (r : Value) (h' : Heap) =>
    ∃ (x : Bool),
      r = Value.bool x ∧
        xsIf x (xsIf (decide (0 ≤ s_0)) (xsIf (decide (s_0 < n)) (xsIf (decide (0 ≤ s_1)) (Q (Value.bool (decide (s_1 ≤ n))) h') (Q (Value.bool false) h')) (Q (Value.bool false) h')) (Q (Value.bool false) h')) (Q (Value.bool false) h')
theorem gap_State_Right.ok {s_0 : Int} {s_1 : Int} {s_2 : Int} {n : Int} {h : Heap} {Q : Value → Heap → Prop} (hk : gap_State_Right.wp s_0 s_1 s_2 n h Q) : C Tryz.prog 41 #[.agg #[.int .i64 s_0, .int .i64 s_1, .int .u32 s_2], .int .i64 n] h Q :=
  C_of_xs (H := gap_State_Right.H) (lcuts := gap_State_Right.lc) (rcuts := gap_State_Right.rc) (l := [.agg #[.int .i64 s_0, .int .i64 s_1, .int .u32 s_2], .int .i64 n]) 2000 mixed Tryz.func41 rfl (by kernel_rfl) (@cast (gap_State_Right.wp s_0 s_1 s_2 n h Q) _ (by kernel_rfl) hk)

/-! gabion/ring.Open -/
def ring_Open.H : Hn := ⟨[43], [], [⟨10, .q 0 (.q 1 (.q 2 (.q 3 (.q 4 (.q 5 (.q 6 (.q 7 (.nil)))))))), [43]⟩, ⟨11, .q 0 (.q 1 (.q 2 (.q 4 (.q 5 (.q 3 (.q 6 (.q 7 (.nil)))))))), []⟩], []⟩
def ring_Open.lc : List Cut := []
def ring_Open.rc : List Cut := []
def ring_Open.wp (d : Option Addr) (p_0 : Int) (p_1 : Int) (p_2 : Int) (p_3 : Int) (h : Heap) (Q : Value → Heap → Prop) : Prop :=
  C Tryz.prog 29 #[Value.pointer d, Value.agg #[Value.int IntKind.i64 p_0, Value.int IntKind.i64 p_1, Value.int IntKind.i64 p_2, Value.int IntKind.i64 p_3]] h fun (r : Value) (h' : Heap) =>
    ∃ (x : Int),
      r = Value.int IntKind.i64 x ∧
        xsIf (decide (x ≠ 0)) (Q (Value.tuple #[Value.pointer none, Value.int IntKind.i64 x]) h')
          (C Tryz.prog 31 #[Value.agg #[Value.int IntKind.i64 p_0, Value.int IntKind.i64 p_1, Value.int IntKind.i64 p_2, Value.int IntKind.i64 p_3]] h' fun (r : Value) (h' : Heap) =>
            ∃ (x : Int),
              ∃ (x_1 : Int),
                ∃ (x_2 : Int),
                  r = Value.agg #[Value.int IntKind.i64 x, Value.int IntKind.i64 x_1, Value.int IntKind.i64 x_2] ∧
                    C Tryz.prog 32 #[Value.pointer d, Value.agg #[Value.int IntKind.i64 x, Value.int IntKind.i64 x_1, Value.int IntKind.i64 x_2]] h' fun (r : Value) (h' : Heap) =>
                      ∃ (x : Option Addr),
                        ∃ (x_3 : Int),
                          r = Value.tuple #[Value.pointer x, Value.int IntKind.i64 x_3] ∧
                            xsIf (decide (x_3 ≠ 0)) (Q (Value.tuple #[Value.pointer none, Value.int IntKind.i64 x_3]) h')
                              (C Tryz.prog 34 #[Value.agg #[Value.int IntKind.i64 p_0, Value.int IntKind.i64 p_1, Value.int IntKind.i64 p_2, Value.int IntKind.i64 p_3]] h' fun (r : Value) (h' : Heap) =>
                                ∃ (x_4 : Int),
                                  r = Value.int IntKind.i64 x_4 ∧
                                    C Tryz.prog 38 #[Value.pointer x, Value.int IntKind.i64 x_4] h' fun (r : Value) (h' : Heap) =>
                                      ∃ (x_5 : ByteArray),
                                        ∃ (x_6 : Int),
                                          r = Value.tuple #[Value.string x_5, Value.int IntKind.i64 x_6] ∧
                                            xsIf (decide (x_6 ≠ 0)) (Q (Value.tuple #[Value.pointer none, Value.int IntKind.i64 x_6]) h')
                                              (C Tryz.prog 40 #[Value.string x_5] h' fun (r : Value) (h' : Heap) =>
                                                ∃ (x_7 : Int),
                                                  r = Value.int IntKind.u64 x_7 ∧
                                                    C Tryz.prog 39 #[Value.int IntKind.u64 x_7] h' fun (r : Value) (h' : Heap) =>
                                                      ∃ (x_8 : Int),
                                                        ∃ (x_9 : Int),
                                                          ∃ (x_10 : Int),
                                                            r = Value.agg #[Value.int IntKind.i64 x_8, Value.int IntKind.i64 x_9, Value.int IntKind.u32 x_10] ∧
                                                              ∀ (b : Nat),
                                                                h' b = none →
                                                                  atBase (some { block := b, off := 0 }) fun (b_1 o : Nat) =>
                                                                    ∃ (x_11 : Int),
                                                                      (upd h' b
                                                                                (Obj.cells
                                                                                  #[Value.int IntKind.i64 p_0, Value.int IntKind.i64 p_1, Value.int IntKind.i64 p_2, Value.int IntKind.i64 p_3, Value.pointer x, Value.int IntKind.i64 x_8,
                                                                                        Value.int IntKind.i64 x_9, Value.int IntKind.u32 x_10, Value.int IntKind.i64 0]
                                                                                  98 (0, 0))).cell
                                                                            b_1 (o + 5) =
                                                                          some (Value.int IntKind.i64 x_11) ∧
                                                                        ∃ (x_12 : Int),
                                                                          (upd h' b
                                                                                    (Obj.cells
                                                                                      #[Value.int IntKind.i64 p_0, Value.int IntKind.i64 p_1, Value.int IntKind.i64 p_2, Value.int IntKind.i64 p_3, Value.pointer x, Value.int IntKind.i64 x_8,
                                                                                            Value.int IntKind.i64 x_9, Value.int IntKind.u32 x_10, Value.int IntKind.i64 0]
                                                                                      98 (0, 0))).cell
                                                                                b_1 (o + 5 + 1) =
                                                                              some (Value.int IntKind.i64 x_12) ∧
                                                                            ∃ (x_13 : Int),
                                                                              (upd h' b
                                                                                        (Obj.cells
                                                                                          #[Value.int IntKind.i64 p_0, Value.int IntKind.i64 p_1, Value.int IntKind.i64 p_2, Value.int IntKind.i64 p_3, Value.pointer x,
                                                                                                Value.int IntKind.i64 x_8, Value.int IntKind.i64 x_9, Value.int IntKind.u32 x_10, Value.int IntKind.i64 0]
                                                                                          98 (0, 0))).cell
                                                                                    b_1 (o + 5 + 1 + 1) =
                                                                                  some (Value.int IntKind.u32 x_13) ∧
                                                                                C Tryz.prog 41
                                                                                  #[Value.agg #[Value.int IntKind.i64 x_11, Value.int IntKind.i64 x_12, Value.int IntKind.u32 x_13], Value.int IntKind.i64 p_1]
                                                                                  (upd h' b
                                                                                    (Obj.cells
                                                                                      #[Value.int IntKind.i64 p_0, Value.int IntKind.i64 p_1, Value.int IntKind.i64 p_2, Value.int IntKind.i64 p_3, Value.pointer x, Value.int IntKind.i64 x_8,
                                                                                            Value.int IntKind.i64 x_9, Value.int IntKind.u32 x_10, Value.int IntKind.i64 0]
                                                                                      98 (0, 0)))
                                                                                  fun (r : Value) (h' : Heap) =>
                                                                                  ∃ (x : Bool),
                                                                                    r = Value.bool x ∧
                                                                                      xsIf (!x) (Q (Value.tuple #[Value.pointer none, Value.int IntKind.i64 4]) h')
                                                                                        (Q (Value.tuple #[Value.pointer (some { block := b, off := 0 }), Value.int IntKind.i64 0]) h'))))
theorem ring_Open.ok {d : Option Addr} {p_0 : Int} {p_1 : Int} {p_2 : Int} {p_3 : Int} {h : Heap} {Q : Value → Heap → Prop} (hk : ring_Open.wp d p_0 p_1 p_2 p_3 h Q) : C Tryz.prog 11 #[.pointer d, .agg #[.int .i64 p_0, .int .i64 p_1, .int .i64 p_2, .int .i64 p_3]] h Q :=
  C_of_xs (H := ring_Open.H) (lcuts := ring_Open.lc) (rcuts := ring_Open.rc) (l := [.pointer d, .agg #[.int .i64 p_0, .int .i64 p_1, .int .i64 p_2, .int .i64 p_3]]) 2000 mixed Tryz.func11 rfl (by kernel_rfl) (@cast (ring_Open.wp d p_0 p_1 p_2 p_3 h Q) _ (by kernel_rfl) hk)

/-! (*gabion/ring.Ring).State -/
def ring_Ring_State.H : Hn := ⟨[], [], [], []⟩
def ring_Ring_State.lc : List Cut := []
def ring_Ring_State.rc : List Cut := []
def ring_Ring_State.wp (r0 : Option Addr) (h : Heap) (Q : Value → Heap → Prop) : Prop :=
  xsIf r0.isNone (Q (Value.agg #[Value.int IntKind.i64 0, Value.int IntKind.i64 0, Value.int IntKind.u32 0]) h)
    (atBase r0 fun (b o : Nat) =>
      ∃ (x : Int),
        h.cell b (o + 5) = some (Value.int IntKind.i64 x) ∧
          ∃ (x_1 : Int),
            h.cell b (o + 5 + 1) = some (Value.int IntKind.i64 x_1) ∧
              ∃ (x_2 : Int), h.cell b (o + 5 + 1 + 1) = some (Value.int IntKind.u32 x_2) ∧ Q (Value.agg #[Value.int IntKind.i64 x, Value.int IntKind.i64 x_1, Value.int IntKind.u32 x_2]) h)
theorem ring_Ring_State.ok {r0 : Option Addr} {h : Heap} {Q : Value → Heap → Prop} (hk : ring_Ring_State.wp r0 h Q) : C Tryz.prog 12 #[.pointer r0] h Q :=
  C_of_xs (H := ring_Ring_State.H) (lcuts := ring_Ring_State.lc) (rcuts := ring_Ring_State.rc) (l := [.pointer r0]) 2000 mixed Tryz.func12 rfl (by kernel_rfl) (@cast (ring_Ring_State.wp r0 h Q) _ (by kernel_rfl) hk)

/-! gabion/gabionlaw07.full -/
def gabionlaw07_full.H : Hn := ⟨[], [], [], []⟩
def gabionlaw07_full.lc : List Cut := []
def gabionlaw07_full.rc : List Cut := []
def gabionlaw07_full.wp (s : ByteArray) (h : Heap) (Q : Value → Heap → Prop) : Prop :=
  C Tryz.prog 45 #[Value.string { data := #[UInt8.ofNat 0] }, Value.int IntKind.i64 64] h fun (r : Value) (h' : Heap) =>
    ∃ (x : ByteArray), r = Value.string x ∧ (↑(s.size + x.size) : Int) ≤ 9223372036854775807 ∧ ((0 : Int) ≤ 64 ∧ (64 : Int) ≤ (↑(s ++ x).size : Int)) ∧ Q (Value.string (sext (s ++ x) 0 64)) h'
theorem gabionlaw07_full.ok {s : ByteArray} {h : Heap} {Q : Value → Heap → Prop} (hk : gabionlaw07_full.wp s h Q) : C Tryz.prog 14 #[.string s] h Q :=
  C_of_xs (H := gabionlaw07_full.H) (lcuts := gabionlaw07_full.lc) (rcuts := gabionlaw07_full.rc) (l := [.string s]) 2000 mixed Tryz.func14 rfl (by kernel_rfl) (@cast (gabionlaw07_full.wp s h Q) _ (by kernel_rfl) hk)

/-! (*gabion/spare.Bank).Write -/
def spare_Bank_Write.H : Hn := ⟨[], [], [], []⟩
def spare_Bank_Write.lc : List Cut := []
def spare_Bank_Write.rc : List Cut := []
def spare_Bank_Write.wp (b : Option Addr) (i : Int) (s : ByteArray) (h : Heap) (Q : Value → Heap → Prop) : Prop :=
  C Tryz.prog 81 #[Value.pointer b, Value.int IntKind.i64 i] h fun (r : Value) (h' : Heap) =>
    ∃ (x : Int),
      ∃ (x_1 : Int),
        r = Value.tuple #[Value.int IntKind.i64 x, Value.int IntKind.i64 x_1] ∧
          xsIf (decide (x_1 = 1)) (Q (Value.int IntKind.i64 x_1) h')
            (xsIf (decide ((↑s.size : Int) ≠ 64)) (Q (Value.int IntKind.i64 2) h')
              (xsIf (decide (x_1 ≠ 0)) (Q (Value.int IntKind.i64 x_1) h')
                (atBase b fun (b_1 o : Nat) =>
                  ∃ (x_2 : Option Addr),
                    h'.cell b_1 (o + 0) = some (Value.pointer x_2) ∧
                      C Tryz.prog 78 #[Value.pointer x_2, Value.int IntKind.i64 x, Value.string s] h' fun (r : Value) (h' : Heap) =>
                        ∃ (x_3 : Int),
                          r = Value.int IntKind.i64 x_3 ∧
                            xsIf (decide (x_3 ≠ 0)) (Q (Value.int IntKind.i64 x_3) h')
                              (atBase b fun (b_2 o : Nat) =>
                                ∃ (x_4 : Option Addr),
                                  h'.cell b_2 (o + 0) = some (Value.pointer x_4) ∧
                                    C Tryz.prog 56 #[Value.pointer x_4, Value.int IntKind.i64 x, Value.string s] h' fun (r : Value) (h' : Heap) =>
                                      ∃ (x : Bool),
                                        r = Value.bool x ∧
                                          xsIf x (Q (Value.int IntKind.i64 0) h')
                                            (C Tryz.prog 85 #[Value.pointer b, Value.int IntKind.i64 i, Value.string s] h' fun (r : Value) (h' : Heap) =>
                                              ∃ (x : Int), r = Value.int IntKind.i64 x ∧ Q (Value.int IntKind.i64 x) h')))))
theorem spare_Bank_Write.ok {b : Option Addr} {i : Int} {s : ByteArray} {h : Heap} {Q : Value → Heap → Prop} (hk : spare_Bank_Write.wp b i s h Q) : C Tryz.prog 44 #[.pointer b, .int .i64 i, .string s] h Q :=
  C_of_xs (H := spare_Bank_Write.H) (lcuts := spare_Bank_Write.lc) (rcuts := spare_Bank_Write.rc) (l := [.pointer b, .int .i64 i, .string s]) 2000 mixed Tryz.func44 rfl (by kernel_rfl) (@cast (spare_Bank_Write.wp b i s h Q) _ (by kernel_rfl) hk)

/-! (*gabion/ring.Ring).Write$1 -/
def ring_Ring_Write_1.H : Hn := ⟨[], [], [⟨1, .q 4 (.ld 0 206 (.q 1 (.q 2 (.ld 3 192 (.q 5 (.q 6 (.q 7 (.nil)))))))), []⟩], []⟩
def ring_Ring_Write_1.lc : List Cut := []
def ring_Ring_Write_1.rc : List Cut := []
def ring_Ring_Write_1.wp (slot : Int) (t1 : Nat) (t2 : Nat) (h : Heap) (Q : Value → Heap → Prop) : Prop :=
  ∃ (x : Option Addr),
    h.cell t1 0 = some (Value.pointer x) ∧
      atBase x fun (b o : Nat) =>
        ∃ (x : Option Addr),
          h.cell b (o + 4) = some (Value.pointer x) ∧
            ∃ (x_1 : ByteArray),
              h.cell t2 0 = some (Value.string x_1) ∧
                C Tryz.prog 44 #[Value.pointer x, Value.int IntKind.i64 slot, Value.string x_1] h fun (r : Value) (h' : Heap) => ∃ (x : Int), r = Value.int IntKind.i64 x ∧ Q (Value.int IntKind.i64 x) h'
theorem ring_Ring_Write_1.ok {slot : Int} {t1 : Nat} {t2 : Nat} {h : Heap} {Q : Value → Heap → Prop} (hk : ring_Ring_Write_1.wp slot t1 t2 h Q) : C Tryz.prog 43 #[.int .i64 slot, .pointer (some ⟨t1, 0, none⟩), .pointer (some ⟨t2, 0, none⟩)] h Q :=
  C_of_xs (H := ring_Ring_Write_1.H) (lcuts := ring_Ring_Write_1.lc) (rcuts := ring_Ring_Write_1.rc) (l := [.int .i64 slot, .pointer (some ⟨t1, 0, none⟩), .pointer (some ⟨t2, 0, none⟩)]) 2000 mixed Tryz.func43 rfl (by kernel_rfl) (@cast (ring_Ring_Write_1.wp slot t1 t2 h Q) _ (by kernel_rfl) hk)

/-! (gabion/gap.State).Slot -/
def gap_State_Slot.H : Hn := ⟨[], [], [], []⟩
def gap_State_Slot.lc : List Cut := []
def gap_State_Slot.rc : List Cut := [⟨3, [1, 2, 3], [3]⟩]
def gap_State_Slot.J3 (n : Int) (i : Int) (s_3_0 : Int) (s_3_1 : Int) (s_3_2 : Int) (h : Heap) (Q : Value → Heap → Prop) : Prop :=
  TW Tryz.prog 15 34 [.code (cAt (bodyOf Tryz.f15) [1, 1, 0]), .code (cAt (bodyOf Tryz.f15) [1, 1, 1])] ⟨[(1, .v (.int .i64 n)), (2, .v (.int .i64 i)), (3, .p 3 0)], [(3, [.int .i64 s_3_0, .int .i64 s_3_1, .int .u32 s_3_2])]⟩ h Q
def gap_State_Slot.wp (s_0 : Int) (s_1 : Int) (s_2 : Int) (n : Int) (i : Int) (h : Heap) (Q : Value → Heap → Prop) : Prop :=
  C Tryz.prog 41 #[Value.agg #[Value.int IntKind.i64 s_0, Value.int IntKind.i64 s_1, Value.int IntKind.u32 s_2], Value.int IntKind.i64 n] h fun (r : Value) (h' : Heap) =>
    ∃ (x : Bool),
      r = Value.bool x ∧ xsIf (!x) (Q (Value.int IntKind.i64 (-1)) h') (xsIf (decide (i < 0)) (Q (Value.int IntKind.i64 (-1)) h') (xsIf (decide (n ≤ i)) (Q (Value.int IntKind.i64 (-1)) h') (gap_State_Slot.J3 n i s_0 s_1 s_2 h' Q)))
def gap_State_Slot.J3.wp (n : Int) (i : Int) (s_3_0 : Int) (s_3_1 : Int) (s_3_2 : Int) (h : Heap) (Q : Value → Heap → Prop) : Prop :=
  n ≠ 0 ∧ xsIf (decide (s_3_1 ≤ irem (IntKind.i64.wrap (i + s_3_0)) n)) (Q (Value.int IntKind.i64 (IntKind.i64.wrap (irem (IntKind.i64.wrap (i + s_3_0)) n + 1))) h) (Q (Value.int IntKind.i64 (irem (IntKind.i64.wrap (i + s_3_0)) n)) h)
theorem gap_State_Slot.ok {s_0 : Int} {s_1 : Int} {s_2 : Int} {n : Int} {i : Int} {h : Heap} {Q : Value → Heap → Prop} (hk : gap_State_Slot.wp s_0 s_1 s_2 n i h Q) : C Tryz.prog 15 #[.agg #[.int .i64 s_0, .int .i64 s_1, .int .u32 s_2], .int .i64 n, .int .i64 i] h Q :=
  C_of_xs (H := gap_State_Slot.H) (lcuts := gap_State_Slot.lc) (rcuts := gap_State_Slot.rc) (l := [.agg #[.int .i64 s_0, .int .i64 s_1, .int .u32 s_2], .int .i64 n, .int .i64 i]) 2000 mixed Tryz.func15 rfl (by kernel_rfl) (@cast (gap_State_Slot.wp s_0 s_1 s_2 n i h Q) _ (by kernel_rfl) hk)
theorem gap_State_Slot.J3.ok {n : Int} {i : Int} {s_3_0 : Int} {s_3_1 : Int} {s_3_2 : Int} {h : Heap} {Q : Value → Heap → Prop} (hk : gap_State_Slot.J3.wp n i s_3_0 s_3_1 s_3_2 h Q) : gap_State_Slot.J3 n i s_3_0 s_3_1 s_3_2 h Q :=
  xs_ok (H := gap_State_Slot.H) (lcuts := gap_State_Slot.lc) (rcuts := []) (fn := Tryz.f15) mixed Tryz.func15 2000 _ _ _ (@cast (gap_State_Slot.J3.wp n i s_3_0 s_3_1 s_3_2 h Q) _ (by kernel_rfl) hk)

/-! (*gabion/ring.Ring).slot -/
def ring_Ring_slot.H : Hn := ⟨[], [], [⟨5, .q 0 (.q 1 (.q 2 (.q 4 (.q 5 (.q 6 (.q 7 (.q 9 (.ld 3 7168 (.q 8 (.q 10 (.q 11 (.q 12 (.nil))))))))))))), []⟩], []⟩
def ring_Ring_slot.lc : List Cut := []
def ring_Ring_slot.rc : List Cut := []
def ring_Ring_slot.wp (r0 : Option Addr) (i : Int) (h : Heap) (Q : Value → Heap → Prop) : Prop :=
  xsIf r0.isNone (Q (Value.tuple #[Value.int IntKind.i64 0, Value.int IntKind.i64 1]) h)
    (xsIf (decide (i < 0)) (Q (Value.tuple #[Value.int IntKind.i64 0, Value.int IntKind.i64 3]) h)
      (atBase r0 fun (b o : Nat) =>
        ∃ (x : Int),
          h.cell b (o + 0 + 1) = some (Value.int IntKind.i64 x) ∧
            xsIf (decide (x ≤ i)) (Q (Value.tuple #[Value.int IntKind.i64 0, Value.int IntKind.i64 3]) h)
              (atBase r0 fun (b o : Nat) =>
                atBase r0 fun (b_1 o_1 : Nat) =>
                  ∃ (x : Int),
                    h.cell b (o + 5) = some (Value.int IntKind.i64 x) ∧
                      ∃ (x_1 : Int),
                        h.cell b (o + 5 + 1) = some (Value.int IntKind.i64 x_1) ∧
                          ∃ (x_2 : Int),
                            h.cell b (o + 5 + 1 + 1) = some (Value.int IntKind.u32 x_2) ∧
                              ∃ (x_3 : Int),
                                h.cell b_1 (o_1 + 0 + 1) = some (Value.int IntKind.i64 x_3) ∧
                                  C Tryz.prog 15 #[Value.agg #[Value.int IntKind.i64 x, Value.int IntKind.i64 x_1, Value.int IntKind.u32 x_2], Value.int IntKind.i64 x_3, Value.int IntKind.i64 i] h
                                    fun (r : Value) (h' : Heap) => ∃ (x : Int), r = Value.int IntKind.i64 x ∧ Q (Value.tuple #[Value.int IntKind.i64 x, Value.int IntKind.i64 0]) h')))
theorem ring_Ring_slot.ok {r0 : Option Addr} {i : Int} {h : Heap} {Q : Value → Heap → Prop} (hk : ring_Ring_slot.wp r0 i h Q) : C Tryz.prog 47 #[.pointer r0, .int .i64 i] h Q :=
  C_of_xs (H := ring_Ring_slot.H) (lcuts := ring_Ring_slot.lc) (rcuts := ring_Ring_slot.rc) (l := [.pointer r0, .int .i64 i]) 2000 mixed Tryz.func47 rfl (by kernel_rfl) (@cast (ring_Ring_slot.wp r0 i h Q) _ (by kernel_rfl) hk)

/-! (gabion/gap.State).Next -/
def gap_State_Next.H : Hn := ⟨[], [], [⟨5, .q 0 (.q 1 (.q 2 (.q 3 (.q 4 (.q 5 (.q 6 (.q 7 (.q 8 (.nil))))))))), [4]⟩], []⟩
def gap_State_Next.lc : List Cut := []
def gap_State_Next.rc : List Cut := []
def gap_State_Next.wp (s_0 : Int) (s_1 : Int) (s_2 : Int) (n : Int) (h : Heap) (Q : Value → Heap → Prop) : Prop :=
  C Tryz.prog 41 #[Value.agg #[Value.int IntKind.i64 s_0, Value.int IntKind.i64 s_1, Value.int IntKind.u32 s_2], Value.int IntKind.i64 n] h fun (r : Value) (h' : Heap) =>
    ∃ (x : Bool),
      r = Value.bool x ∧
        xsIf (!x) (Q (Value.tuple #[Value.agg #[Value.int IntKind.i64 0, Value.int IntKind.i64 0, Value.int IntKind.u32 0], Value.int IntKind.i64 0, Value.int IntKind.i64 0]) h')
          (xsIf (decide (0 < s_1))
            (Q
              (Value.tuple
                #[Value.agg #[Value.int IntKind.i64 s_0, Value.int IntKind.i64 (IntKind.i64.wrap (s_1 - 1)), Value.int IntKind.u32 (IntKind.u32.wrap (s_2 + 1))], Value.int IntKind.i64 (IntKind.i64.wrap (s_1 - 1)),
                      Value.int IntKind.i64 s_1])
              h')
            (n ≠ 0 ∧
              Q
                (Value.tuple
                  #[Value.agg #[Value.int IntKind.i64 (irem (IntKind.i64.wrap (s_0 + 1)) n), Value.int IntKind.i64 n, Value.int IntKind.u32 (IntKind.u32.wrap (s_2 + 1))], Value.int IntKind.i64 n, Value.int IntKind.i64 0])
                h'))
theorem gap_State_Next.ok {s_0 : Int} {s_1 : Int} {s_2 : Int} {n : Int} {h : Heap} {Q : Value → Heap → Prop} (hk : gap_State_Next.wp s_0 s_1 s_2 n h Q) : C Tryz.prog 130 #[.agg #[.int .i64 s_0, .int .i64 s_1, .int .u32 s_2], .int .i64 n] h Q :=
  C_of_xs (H := gap_State_Next.H) (lcuts := gap_State_Next.lc) (rcuts := gap_State_Next.rc) (l := [.agg #[.int .i64 s_0, .int .i64 s_1, .int .u32 s_2], .int .i64 n]) 2000 mixed Tryz.func130 rfl (by kernel_rfl) (@cast (gap_State_Next.wp s_0 s_1 s_2 n h Q) _ (by kernel_rfl) hk)

/-! (*gabion/ring.Ring).move -/
def ring_Ring_move.H : Hn := ⟨[], [], [⟨1, .q 0 (.q 1 (.q 2 (.q 4 (.q 5 (.q 6 (.q 7 (.ld 3 245248 (.ld 8 245248 (.br 9 (.q 10 (.q 11 (.q 12 (.q 13 (.q 14 (.q 15 (.q 16 (.q 17 (.nil))))))))) (.one 14 (.q 9 (.q 10 (.q 11 (.q 12 (.q 13 (.q 15 (.q 16 (.q 17 (.nil))))))))))))))))))), [3]⟩, ⟨8, .q 0 (.q 1 (.q 2 (.q 4 (.q 5 (.q 6 (.q 9 (.ld 7 7424 (.br 3 (.q 8 (.q 10 (.q 11 (.q 12 (.nil))))) (.one 8 (.br 3 (.q 10 (.q 11 (.q 12 (.nil)))) (.one 10 (.q 3 (.q 11 (.q 12 (.nil))))))))))))))), []⟩], []⟩
def ring_Ring_move.lc : List Cut := []
def ring_Ring_move.rc : List Cut := []
def ring_Ring_move.wp (r0 : Option Addr) (h : Heap) (Q : Value → Heap → Prop) : Prop :=
  atBase r0 fun (b o : Nat) =>
    atBase r0 fun (b_1 o_1 : Nat) =>
      ∃ (x : Int),
        h.cell b (o + 5) = some (Value.int IntKind.i64 x) ∧
          ∃ (x_1 : Int),
            h.cell b (o + 5 + 1) = some (Value.int IntKind.i64 x_1) ∧
              ∃ (x_2 : Int),
                h.cell b (o + 5 + 1 + 1) = some (Value.int IntKind.u32 x_2) ∧
                  ∃ (x_3 : Int),
                    h.cell b_1 (o_1 + 0 + 1) = some (Value.int IntKind.i64 x_3) ∧
                      (C Tryz.prog 130 #[Value.agg #[Value.int IntKind.i64 x, Value.int IntKind.i64 x_1, Value.int IntKind.u32 x_2], Value.int IntKind.i64 x_3] h fun (r : Value) (h' : Heap) =>
                          ∃ (x : Int),
                            ∃ (x_4 : Int),
                              ∃ (x_5 : Int),
                                ∃ (x_6 : Int),
                                  ∃ (x_7 : Int),
                                    r = Value.tuple #[Value.agg #[Value.int IntKind.i64 x, Value.int IntKind.i64 x_4, Value.int IntKind.u32 x_5], Value.int IntKind.i64 x_6, Value.int IntKind.i64 x_7] ∧
                                      atBase r0 fun (b o : Nat) =>
                                        ∃ (x_8 : Option Addr),
                                          h'.cell b (o + 4) = some (Value.pointer x_8) ∧
                                            C Tryz.prog 38 #[Value.pointer x_8, Value.int IntKind.i64 x_6] h' fun (r : Value) (h' : Heap) =>
                                              ∃ (x_9 : ByteArray),
                                                ∃ (x_10 : Int),
                                                  r = Value.tuple #[Value.string x_9, Value.int IntKind.i64 x_10] ∧
                                                    xsIf (decide (x_10 ≠ 0)) (Q (Value.int IntKind.i64 x_10) h')
                                                      (atBase r0 fun (b o : Nat) =>
                                                        ∃ (x_11 : Option Addr),
                                                          h'.cell b (o + 4) = some (Value.pointer x_11) ∧
                                                            C Tryz.prog 44 #[Value.pointer x_11, Value.int IntKind.i64 x_7, Value.string x_9] h' fun (r : Value) (h' : Heap) =>
                                                              ∃ (x_12 : Int),
                                                                r = Value.int IntKind.i64 x_12 ∧
                                                                  xsIf (decide (x_12 ≠ 0)) (Q (Value.int IntKind.i64 x_12) h')
                                                                    (atBase r0 fun (b o : Nat) =>
                                                                      atBase r0 fun (b_2 o_2 : Nat) =>
                                                                        ∃ (x_13 : Int),
                                                                          h'.cell b_2 (o_2 + 0) = some (Value.int IntKind.i64 x_13) ∧
                                                                            ∃ (x_14 : Int),
                                                                              h'.cell b_2 (o_2 + 0 + 1) = some (Value.int IntKind.i64 x_14) ∧
                                                                                ∃ (x_15 : Int),
                                                                                  h'.cell b_2 (o_2 + 0 + 1 + 1) = some (Value.int IntKind.i64 x_15) ∧
                                                                                    ∃ (x_16 : Int),
                                                                                      h'.cell b_2 (o_2 + 0 + 1 + 1 + 1) = some (Value.int IntKind.i64 x_16) ∧
                                                                                        (∃ (x_17 : Option Addr),
                                                                                            h'.cell b (o + 4) = some (Value.pointer x_17) ∧
                                                                                              C Tryz.prog 34
                                                                                                #[Value.agg #[Value.int IntKind.i64 x_13, Value.int IntKind.i64 x_14, Value.int IntKind.i64 x_15, Value.int IntKind.i64 x_16]]
                                                                                                h' fun (r : Value) (h' : Heap) =>
                                                                                                ∃ (x_18 : Int),
                                                                                                  r = Value.int IntKind.i64 x_18 ∧
                                                                                                    C Tryz.prog 36 #[Value.agg #[Value.int IntKind.i64 x, Value.int IntKind.i64 x_4, Value.int IntKind.u32 x_5]] h'
                                                                                                      fun (r : Value) (h' : Heap) =>
                                                                                                      ∃ (x_19 : Int),
                                                                                                        r = Value.int IntKind.u64 x_19 ∧
                                                                                                          C Tryz.prog 33 #[Value.pointer x_17, Value.int IntKind.i64 x_18, Value.int IntKind.i64 0, Value.int IntKind.u64 x_19] h'
                                                                                                            fun (r : Value) (h' : Heap) =>
                                                                                                            ∃ (x_20 : Int),
                                                                                                              r = Value.int IntKind.i64 x_20 ∧
                                                                                                                xsIf (decide (x_20 ≠ 0)) (Q (Value.int IntKind.i64 x_20) h')
                                                                                                                  (atBase r0 fun (b o : Nat) =>
                                                                                                                    h'.can b (o + 5) 3 ∧
                                                                                                                      atBase r0 fun (b_3 o_3 : Nat) =>
                                                                                                                        (h'.put b (o + 5) [Value.int IntKind.i64 x, Value.int IntKind.i64 x_4, Value.int IntKind.u32 x_5]).can b_3 (o_3 + 8) 1 ∧
                                                                                                                          Q (Value.int IntKind.i64 0)
                                                                                                                            ((h'.put b (o + 5) [Value.int IntKind.i64 x, Value.int IntKind.i64 x_4, Value.int IntKind.u32 x_5]).put b_3 (o_3 + 8)
                                                                                                                              [Value.int IntKind.i64 0]))) ∧
                                                                                          C Tryz.prog 34
                                                                                            #[Value.agg #[Value.int IntKind.i64 x_13, Value.int IntKind.i64 x_14, Value.int IntKind.i64 x_15, Value.int IntKind.i64 x_16]]
                                                                                            h' fun (r : Value) (h' : Heap) =>
                                                                                            ∃ (x_17 : Int),
                                                                                              r = Value.int IntKind.i64 x_17 ∧
                                                                                                (∃ (x_18 : Option Addr),
                                                                                                    h'.cell b (o + 4) = some (Value.pointer x_18) ∧
                                                                                                      C Tryz.prog 36 #[Value.agg #[Value.int IntKind.i64 x, Value.int IntKind.i64 x_4, Value.int IntKind.u32 x_5]] h'
                                                                                                        fun (r : Value) (h' : Heap) =>
                                                                                                        ∃ (x_19 : Int),
                                                                                                          r = Value.int IntKind.u64 x_19 ∧
                                                                                                            C Tryz.prog 33 #[Value.pointer x_18, Value.int IntKind.i64 x_17, Value.int IntKind.i64 0, Value.int IntKind.u64 x_19] h'
                                                                                                              fun (r : Value) (h' : Heap) =>
                                                                                                              ∃ (x_20 : Int),
                                                                                                                r = Value.int IntKind.i64 x_20 ∧
                                                                                                                  xsIf (decide (x_20 ≠ 0)) (Q (Value.int IntKind.i64 x_20) h')
                                                                                                                    (atBase r0 fun (b o : Nat) =>
                                                                                                                      h'.can b (o + 5) 3 ∧
                                                                                                                        atBase r0 fun (b_3 o_3 : Nat) =>
                                                                                                                          (h'.put b (o + 5) [Value.int IntKind.i64 x, Value.int IntKind.i64 x_4, Value.int IntKind.u32 x_5]).can b_3 (o_3 + 8) 1 ∧
                                                                                                                            Q (Value.int IntKind.i64 0)
                                                                                                                              ((h'.put b (o + 5) [Value.int IntKind.i64 x, Value.int IntKind.i64 x_4, Value.int IntKind.u32 x_5]).put b_3
                                                                                                                                (o_3 + 8) [Value.int IntKind.i64 0]))) ∧
                                                                                                  C Tryz.prog 36 #[Value.agg #[Value.int IntKind.i64 x, Value.int IntKind.i64 x_4, Value.int IntKind.u32 x_5]] h'
                                                                                                    fun (r : Value) (h' : Heap) =>
                                                                                                    ∃ (x_18 : Int),
                                                                                                      r = Value.int IntKind.u64 x_18 ∧
                                                                                                        ∃ (x_19 : Option Addr),
                                                                                                          h'.cell b (o + 4) = some (Value.pointer x_19) ∧
                                                                                                            C Tryz.prog 33 #[Value.pointer x_19, Value.int IntKind.i64 x_17, Value.int IntKind.i64 0, Value.int IntKind.u64 x_18] h'
                                                                                                              fun (r : Value) (h' : Heap) =>
                                                                                                              ∃ (x_20 : Int),
                                                                                                                r = Value.int IntKind.i64 x_20 ∧
                                                                                                                  xsIf (decide (x_20 ≠ 0)) (Q (Value.int IntKind.i64 x_20) h')
                                                                                                                    (atBase r0 fun (b o : Nat) =>
                                                                                                                      h'.can b (o + 5) 3 ∧
                                                                                                                        atBase r0 fun (b_3 o_3 : Nat) =>
                                                                                                                          (h'.put b (o + 5) [Value.int IntKind.i64 x, Value.int IntKind.i64 x_4, Value.int IntKind.u32 x_5]).can b_3 (o_3 + 8) 1 ∧
                                                                                                                            Q (Value.int IntKind.i64 0)
                                                                                                                              ((h'.put b (o + 5) [Value.int IntKind.i64 x, Value.int IntKind.i64 x_4, Value.int IntKind.u32 x_5]).put b_3
                                                                                                                                (o_3 + 8) [Value.int IntKind.i64 0]))))) ∧
                        C Tryz.prog 130 #[Value.agg #[Value.int IntKind.i64 x, Value.int IntKind.i64 x_1, Value.int IntKind.u32 x_2], Value.int IntKind.i64 x_3] h fun (r : Value) (h' : Heap) =>
                          ∃ (x : Int),
                            ∃ (x_4 : Int),
                              ∃ (x_5 : Int),
                                ∃ (x_6 : Int),
                                  ∃ (x_7 : Int),
                                    r = Value.tuple #[Value.agg #[Value.int IntKind.i64 x, Value.int IntKind.i64 x_4, Value.int IntKind.u32 x_5], Value.int IntKind.i64 x_6, Value.int IntKind.i64 x_7] ∧
                                      atBase r0 fun (b o : Nat) =>
                                        ∃ (x_8 : Option Addr),
                                          h'.cell b (o + 4) = some (Value.pointer x_8) ∧
                                            C Tryz.prog 38 #[Value.pointer x_8, Value.int IntKind.i64 x_6] h' fun (r : Value) (h' : Heap) =>
                                              ∃ (x_9 : ByteArray),
                                                ∃ (x_10 : Int),
                                                  r = Value.tuple #[Value.string x_9, Value.int IntKind.i64 x_10] ∧
                                                    xsIf (decide (x_10 ≠ 0)) (Q (Value.int IntKind.i64 x_10) h')
                                                      (atBase r0 fun (b o : Nat) =>
                                                        ∃ (x_11 : Option Addr),
                                                          h'.cell b (o + 4) = some (Value.pointer x_11) ∧
                                                            C Tryz.prog 44 #[Value.pointer x_11, Value.int IntKind.i64 x_7, Value.string x_9] h' fun (r : Value) (h' : Heap) =>
                                                              ∃ (x_12 : Int),
                                                                r = Value.int IntKind.i64 x_12 ∧
                                                                  xsIf (decide (x_12 ≠ 0)) (Q (Value.int IntKind.i64 x_12) h')
                                                                    (atBase r0 fun (b o : Nat) =>
                                                                      atBase r0 fun (b_2 o_2 : Nat) =>
                                                                        ∃ (x_13 : Int),
                                                                          h'.cell b_2 (o_2 + 0) = some (Value.int IntKind.i64 x_13) ∧
                                                                            ∃ (x_14 : Int),
                                                                              h'.cell b_2 (o_2 + 0 + 1) = some (Value.int IntKind.i64 x_14) ∧
                                                                                ∃ (x_15 : Int),
                                                                                  h'.cell b_2 (o_2 + 0 + 1 + 1) = some (Value.int IntKind.i64 x_15) ∧
                                                                                    ∃ (x_16 : Int),
                                                                                      h'.cell b_2 (o_2 + 0 + 1 + 1 + 1) = some (Value.int IntKind.i64 x_16) ∧
                                                                                        (∃ (x_17 : Option Addr),
                                                                                            h'.cell b (o + 4) = some (Value.pointer x_17) ∧
                                                                                              C Tryz.prog 34
                                                                                                #[Value.agg #[Value.int IntKind.i64 x_13, Value.int IntKind.i64 x_14, Value.int IntKind.i64 x_15, Value.int IntKind.i64 x_16]]
                                                                                                h' fun (r : Value) (h' : Heap) =>
                                                                                                ∃ (x_18 : Int),
                                                                                                  r = Value.int IntKind.i64 x_18 ∧
                                                                                                    C Tryz.prog 36 #[Value.agg #[Value.int IntKind.i64 x, Value.int IntKind.i64 x_4, Value.int IntKind.u32 x_5]] h'
                                                                                                      fun (r : Value) (h' : Heap) =>
                                                                                                      ∃ (x_19 : Int),
                                                                                                        r = Value.int IntKind.u64 x_19 ∧
                                                                                                          C Tryz.prog 33 #[Value.pointer x_17, Value.int IntKind.i64 x_18, Value.int IntKind.i64 0, Value.int IntKind.u64 x_19] h'
                                                                                                            fun (r : Value) (h' : Heap) =>
                                                                                                            ∃ (x_20 : Int),
                                                                                                              r = Value.int IntKind.i64 x_20 ∧
                                                                                                                xsIf (decide (x_20 ≠ 0)) (Q (Value.int IntKind.i64 x_20) h')
                                                                                                                  (atBase r0 fun (b o : Nat) =>
                                                                                                                    h'.can b (o + 5) 3 ∧
                                                                                                                      atBase r0 fun (b_3 o_3 : Nat) =>
                                                                                                                        (h'.put b (o + 5) [Value.int IntKind.i64 x, Value.int IntKind.i64 x_4, Value.int IntKind.u32 x_5]).can b_3 (o_3 + 8) 1 ∧
                                                                                                                          Q (Value.int IntKind.i64 0)
                                                                                                                            ((h'.put b (o + 5) [Value.int IntKind.i64 x, Value.int IntKind.i64 x_4, Value.int IntKind.u32 x_5]).put b_3 (o_3 + 8)
                                                                                                                              [Value.int IntKind.i64 0]))) ∧
                                                                                          C Tryz.prog 34
                                                                                            #[Value.agg #[Value.int IntKind.i64 x_13, Value.int IntKind.i64 x_14, Value.int IntKind.i64 x_15, Value.int IntKind.i64 x_16]]
                                                                                            h' fun (r : Value) (h' : Heap) =>
                                                                                            ∃ (x_17 : Int),
                                                                                              r = Value.int IntKind.i64 x_17 ∧
                                                                                                (∃ (x_18 : Option Addr),
                                                                                                    h'.cell b (o + 4) = some (Value.pointer x_18) ∧
                                                                                                      C Tryz.prog 36 #[Value.agg #[Value.int IntKind.i64 x, Value.int IntKind.i64 x_4, Value.int IntKind.u32 x_5]] h'
                                                                                                        fun (r : Value) (h' : Heap) =>
                                                                                                        ∃ (x_19 : Int),
                                                                                                          r = Value.int IntKind.u64 x_19 ∧
                                                                                                            C Tryz.prog 33 #[Value.pointer x_18, Value.int IntKind.i64 x_17, Value.int IntKind.i64 0, Value.int IntKind.u64 x_19] h'
                                                                                                              fun (r : Value) (h' : Heap) =>
                                                                                                              ∃ (x_20 : Int),
                                                                                                                r = Value.int IntKind.i64 x_20 ∧
                                                                                                                  xsIf (decide (x_20 ≠ 0)) (Q (Value.int IntKind.i64 x_20) h')
                                                                                                                    (atBase r0 fun (b o : Nat) =>
                                                                                                                      h'.can b (o + 5) 3 ∧
                                                                                                                        atBase r0 fun (b_3 o_3 : Nat) =>
                                                                                                                          (h'.put b (o + 5) [Value.int IntKind.i64 x, Value.int IntKind.i64 x_4, Value.int IntKind.u32 x_5]).can b_3 (o_3 + 8) 1 ∧
                                                                                                                            Q (Value.int IntKind.i64 0)
                                                                                                                              ((h'.put b (o + 5) [Value.int IntKind.i64 x, Value.int IntKind.i64 x_4, Value.int IntKind.u32 x_5]).put b_3
                                                                                                                                (o_3 + 8) [Value.int IntKind.i64 0]))) ∧
                                                                                                  C Tryz.prog 36 #[Value.agg #[Value.int IntKind.i64 x, Value.int IntKind.i64 x_4, Value.int IntKind.u32 x_5]] h'
                                                                                                    fun (r : Value) (h' : Heap) =>
                                                                                                    ∃ (x_18 : Int),
                                                                                                      r = Value.int IntKind.u64 x_18 ∧
                                                                                                        ∃ (x_19 : Option Addr),
                                                                                                          h'.cell b (o + 4) = some (Value.pointer x_19) ∧
                                                                                                            C Tryz.prog 33 #[Value.pointer x_19, Value.int IntKind.i64 x_17, Value.int IntKind.i64 0, Value.int IntKind.u64 x_18] h'
                                                                                                              fun (r : Value) (h' : Heap) =>
                                                                                                              ∃ (x_20 : Int),
                                                                                                                r = Value.int IntKind.i64 x_20 ∧
                                                                                                                  xsIf (decide (x_20 ≠ 0)) (Q (Value.int IntKind.i64 x_20) h')
                                                                                                                    (atBase r0 fun (b o : Nat) =>
                                                                                                                      h'.can b (o + 5) 3 ∧
                                                                                                                        atBase r0 fun (b_3 o_3 : Nat) =>
                                                                                                                          (h'.put b (o + 5) [Value.int IntKind.i64 x, Value.int IntKind.i64 x_4, Value.int IntKind.u32 x_5]).can b_3 (o_3 + 8) 1 ∧
                                                                                                                            Q (Value.int IntKind.i64 0)
                                                                                                                              ((h'.put b (o + 5) [Value.int IntKind.i64 x, Value.int IntKind.i64 x_4, Value.int IntKind.u32 x_5]).put b_3
                                                                                                                                (o_3 + 8) [Value.int IntKind.i64 0]))))
theorem ring_Ring_move.ok {r0 : Option Addr} {h : Heap} {Q : Value → Heap → Prop} (hk : ring_Ring_move.wp r0 h Q) : C Tryz.prog 89 #[.pointer r0] h Q :=
  C_of_xs (H := ring_Ring_move.H) (lcuts := ring_Ring_move.lc) (rcuts := ring_Ring_move.rc) (l := [.pointer r0]) 2000 mixed Tryz.func89 rfl (by kernel_rfl) (@cast (ring_Ring_move.wp r0 h Q) _ (by kernel_rfl) hk)

/-! (*gabion/ring.Ring).write -/
def ring_Ring_write.H : Hn := ⟨[], [], [⟨4, .q 0 (.q 1 (.q 2 (.q 4 (.q 5 (.q 6 (.q 7 (.ld 3 512 (.q 8 (.q 9 (.nil)))))))))), []⟩], []⟩
def ring_Ring_write.lc : List Cut := []
def ring_Ring_write.rc : List Cut := [⟨8, [0, 1, 2], []⟩]
def ring_Ring_write.J8 (r0 : Option Addr) (i : Int) (f : Nat) (f_a : Array Value) (f_c : Array Value) (h : Heap) (Q : Value → Heap → Prop) : Prop :=
  TW Tryz.prog 42 56 [.code (cAt (bodyOf Tryz.f42) [1, 1, 1, 0]), .code (cAt (bodyOf Tryz.f42) [1, 1, 1, 1])] ⟨[(0, .v (.pointer r0)), (1, .v (.int .i64 i)), (2, .v (.func (.func f) f_a f_c))], []⟩ h Q
def ring_Ring_write.wp (r0 : Option Addr) (i : Int) (f : Nat) (f_a : Array Value) (f_c : Array Value) (h : Heap) (Q : Value → Heap → Prop) : Prop :=
  C Tryz.prog 47 #[Value.pointer r0, Value.int IntKind.i64 i] h fun (r : Value) (h' : Heap) =>
    ∃ (x : Int),
      ∃ (x_1 : Int),
        r = Value.tuple #[Value.int IntKind.i64 x, Value.int IntKind.i64 x_1] ∧
          xsIf (decide (x_1 ≠ 0)) (Q (Value.int IntKind.i64 x_1) h')
            (atBase r0 fun (b o : Nat) =>
              atBase r0 fun (b_1 o_1 : Nat) =>
                ∃ (x : Int),
                  h'.cell b (o + 8) = some (Value.int IntKind.i64 x) ∧
                    ∃ (x_2 : Int),
                      h'.cell b_1 (o_1 + 0 + 3) = some (Value.int IntKind.i64 x_2) ∧
                        xsIf (decide (x_2 ≤ x))
                          (C Tryz.prog 89 #[Value.pointer r0] h' fun (r : Value) (h' : Heap) =>
                            ∃ (x : Int), r = Value.int IntKind.i64 x ∧ xsIf (decide (x ≠ 0)) (Q (Value.int IntKind.i64 x) h') (ring_Ring_write.J8 r0 i f f_a f_c h' Q))
                          (ring_Ring_write.J8 r0 i f f_a f_c h' Q))
def ring_Ring_write.J8.wp (r0 : Option Addr) (i : Int) (f : Nat) (f_a : Array Value) (f_c : Array Value) (h : Heap) (Q : Value → Heap → Prop) : Prop :=
  C Tryz.prog 47 #[Value.pointer r0, Value.int IntKind.i64 i] h fun (r : Value) (h' : Heap) =>
    ∃ (x : Int),
      ∃ (x_1 : Int),
        r = Value.tuple #[Value.int IntKind.i64 x, Value.int IntKind.i64 x_1] ∧
          xsIf (goOk Tryz.prog f)
            (C Tryz.prog f (List.toArray (f_a.toList ++ [Value.int IntKind.i64 x] ++ f_c.toList)) h' fun (r : Value) (h' : Heap) =>
              ∃ (x : Int),
                r = Value.int IntKind.i64 x ∧
                  xsIf (decide (x = 0))
                    (atBase r0 fun (b o : Nat) =>
                      ∃ (x_2 : Int), h'.cell b (o + 8) = some (Value.int IntKind.i64 x_2) ∧ atBase r0 fun (b o : Nat) => h'.can b (o + 8) 1 ∧ Q (Value.int IntKind.i64 x) (h'.put b (o + 8) [Value.int IntKind.i64 (IntKind.i64.wrap (x_2 + 1))]))
                    (Q (Value.int IntKind.i64 x) h'))
            False
theorem ring_Ring_write.ok {r0 : Option Addr} {i : Int} {f : Nat} {f_a : Array Value} {f_c : Array Value} {h : Heap} {Q : Value → Heap → Prop} (hk : ring_Ring_write.wp r0 i f f_a f_c h Q) : C Tryz.prog 42 #[.pointer r0, .int .i64 i, .func (.func f) f_a f_c] h Q :=
  C_of_xs (H := ring_Ring_write.H) (lcuts := ring_Ring_write.lc) (rcuts := ring_Ring_write.rc) (l := [.pointer r0, .int .i64 i, .func (.func f) f_a f_c]) 2000 mixed Tryz.func42 rfl (by kernel_rfl) (@cast (ring_Ring_write.wp r0 i f f_a f_c h Q) _ (by kernel_rfl) hk)
theorem ring_Ring_write.J8.ok {r0 : Option Addr} {i : Int} {f : Nat} {f_a : Array Value} {f_c : Array Value} {h : Heap} {Q : Value → Heap → Prop} (hk : ring_Ring_write.J8.wp r0 i f f_a f_c h Q) : ring_Ring_write.J8 r0 i f f_a f_c h Q :=
  xs_ok (H := ring_Ring_write.H) (lcuts := ring_Ring_write.lc) (rcuts := []) (fn := Tryz.f42) mixed Tryz.func42 2000 _ _ _ (@cast (ring_Ring_write.J8.wp r0 i f f_a f_c h Q) _ (by kernel_rfl) hk)

/-! (*gabion/ring.Ring).Write -/
def ring_Ring_Write.H : Hn := ⟨[3, 5], [], [], []⟩
def ring_Ring_Write.lc : List Cut := []
def ring_Ring_Write.rc : List Cut := []
def ring_Ring_Write.wp (r0 : Option Addr) (i : Int) (s : ByteArray) (h : Heap) (Q : Value → Heap → Prop) : Prop :=
  ∀ (b : Nat),
    h b = none →
      ∀ (b_1 : Nat),
        upd h b (Obj.cells #[Value.pointer r0] 34 (0, 0)) b_1 = none →
          ∃ (x : Option Addr),
            (upd (upd h b (Obj.cells #[Value.pointer r0] 34 (0, 0))) b_1 (Obj.cells #[Value.string s] 9 (0, 0))).cell b 0 = some (Value.pointer x) ∧
              xsIf (!x.isNone)
                (∃ (x : ByteArray),
                  (upd (upd h b (Obj.cells #[Value.pointer r0] 34 (0, 0))) b_1 (Obj.cells #[Value.string s] 9 (0, 0))).cell b_1 0 = some (Value.string x) ∧
                    xsIf (decide ((↑x.size : Int) ≠ 64)) (Q (Value.int IntKind.i64 2) (upd (upd h b (Obj.cells #[Value.pointer r0] 34 (0, 0))) b_1 (Obj.cells #[Value.string s] 9 (0, 0))))
                      (∃ (x : Option Addr),
                        (upd (upd h b (Obj.cells #[Value.pointer r0] 34 (0, 0))) b_1 (Obj.cells #[Value.string s] 9 (0, 0))).cell b 0 = some (Value.pointer x) ∧
                          C Tryz.prog 42
                            #[Value.pointer x, Value.int IntKind.i64 i, Value.func (Fn.func 43) #[] #[Value.pointer (some { block := b, off := 0 }), Value.pointer (some { block := b_1, off := 0 })]]
                            (upd (upd h b (Obj.cells #[Value.pointer r0] 34 (0, 0))) b_1 (Obj.cells #[Value.string s] 9 (0, 0))) fun (r : Value) (h' : Heap) =>
                            ∃ (x : Int), r = Value.int IntKind.i64 x ∧ Q (Value.int IntKind.i64 x) h'))
                (∃ (x : Option Addr),
                  (upd (upd h b (Obj.cells #[Value.pointer r0] 34 (0, 0))) b_1 (Obj.cells #[Value.string s] 9 (0, 0))).cell b 0 = some (Value.pointer x) ∧
                    C Tryz.prog 42
                      #[Value.pointer x, Value.int IntKind.i64 i, Value.func (Fn.func 43) #[] #[Value.pointer (some { block := b, off := 0 }), Value.pointer (some { block := b_1, off := 0 })]]
                      (upd (upd h b (Obj.cells #[Value.pointer r0] 34 (0, 0))) b_1 (Obj.cells #[Value.string s] 9 (0, 0))) fun (r : Value) (h' : Heap) =>
                      ∃ (x : Int), r = Value.int IntKind.i64 x ∧ Q (Value.int IntKind.i64 x) h')
theorem ring_Ring_Write.ok {r0 : Option Addr} {i : Int} {s : ByteArray} {h : Heap} {Q : Value → Heap → Prop} (hk : ring_Ring_Write.wp r0 i s h Q) : C Tryz.prog 13 #[.pointer r0, .int .i64 i, .string s] h Q :=
  C_of_xs (H := ring_Ring_Write.H) (lcuts := ring_Ring_Write.lc) (rcuts := ring_Ring_Write.rc) (l := [.pointer r0, .int .i64 i, .string s]) 2000 mixed Tryz.func13 rfl (by kernel_rfl) (@cast (ring_Ring_Write.wp r0 i s h Q) _ (by kernel_rfl) hk)

/-! (*gabion/ring.Ring).WriteWord$1 -/
def ring_Ring_WriteWord_1.H : Hn := ⟨[], [], [⟨1, .q 4 (.ld 0 398 (.q 1 (.q 2 (.ld 3 384 (.ld 5 384 (.q 6 (.q 7 (.q 8 (.nil))))))))), []⟩], []⟩
def ring_Ring_WriteWord_1.lc : List Cut := []
def ring_Ring_WriteWord_1.rc : List Cut := []
def ring_Ring_WriteWord_1.wp (slot : Int) (t1 : Nat) (t2 : Nat) (t3 : Nat) (h : Heap) (Q : Value → Heap → Prop) : Prop :=
  ∃ (x : Option Addr),
    h.cell t1 0 = some (Value.pointer x) ∧
      atBase x fun (b o : Nat) =>
        ∃ (x : Option Addr),
          h.cell b (o + 4) = some (Value.pointer x) ∧
            ∃ (x_1 : Int),
              h.cell t2 0 = some (Value.int IntKind.i64 x_1) ∧
                ∃ (x_2 : Int),
                  h.cell t3 0 = some (Value.int IntKind.u64 x_2) ∧
                    C Tryz.prog 33 #[Value.pointer x, Value.int IntKind.i64 slot, Value.int IntKind.i64 x_1, Value.int IntKind.u64 x_2] h fun (r : Value) (h' : Heap) =>
                      ∃ (x : Int), r = Value.int IntKind.i64 x ∧ Q (Value.int IntKind.i64 x) h'
theorem ring_Ring_WriteWord_1.ok {slot : Int} {t1 : Nat} {t2 : Nat} {t3 : Nat} {h : Heap} {Q : Value → Heap → Prop} (hk : ring_Ring_WriteWord_1.wp slot t1 t2 t3 h Q) : C Tryz.prog 46 #[.int .i64 slot, .pointer (some ⟨t1, 0, none⟩), .pointer (some ⟨t2, 0, none⟩), .pointer (some ⟨t3, 0, none⟩)] h Q :=
  C_of_xs (H := ring_Ring_WriteWord_1.H) (lcuts := ring_Ring_WriteWord_1.lc) (rcuts := ring_Ring_WriteWord_1.rc) (l := [.int .i64 slot, .pointer (some ⟨t1, 0, none⟩), .pointer (some ⟨t2, 0, none⟩), .pointer (some ⟨t3, 0, none⟩)]) 2000 mixed Tryz.func46 rfl (by kernel_rfl) (@cast (ring_Ring_WriteWord_1.wp slot t1 t2 t3 h Q) _ (by kernel_rfl) hk)

/-! (*gabion/ring.Ring).WriteWord -/
def ring_Ring_WriteWord.H : Hn := ⟨[4, 6, 7], [], [], []⟩
def ring_Ring_WriteWord.lc : List Cut := []
def ring_Ring_WriteWord.rc : List Cut := []
def ring_Ring_WriteWord.wp (r0 : Option Addr) (i : Int) (k0 : Int) (v : Int) (h : Heap) (Q : Value → Heap → Prop) : Prop :=
  ∀ (b : Nat),
    h b = none →
      ∀ (b_1 : Nat),
        upd h b (Obj.cells #[Value.pointer r0] 34 (0, 0)) b_1 = none →
          ∀ (b_2 : Nat),
            upd (upd h b (Obj.cells #[Value.pointer r0] 34 (0, 0))) b_1 (Obj.cells #[Value.int IntKind.i64 k0] 3 (0, 0)) b_2 = none →
              ∃ (x : Option Addr),
                (upd (upd (upd h b (Obj.cells #[Value.pointer r0] 34 (0, 0))) b_1 (Obj.cells #[Value.int IntKind.i64 k0] 3 (0, 0))) b_2 (Obj.cells #[Value.int IntKind.u64 v] 49 (0, 0))).cell b 0 =
                    some (Value.pointer x) ∧
                  xsIf (!x.isNone)
                    (∃ (x : Int),
                      (upd (upd (upd h b (Obj.cells #[Value.pointer r0] 34 (0, 0))) b_1 (Obj.cells #[Value.int IntKind.i64 k0] 3 (0, 0))) b_2 (Obj.cells #[Value.int IntKind.u64 v] 49 (0, 0))).cell b_1
                            0 =
                          some (Value.int IntKind.i64 x) ∧
                        xsIf (decide (x < 0))
                          (Q (Value.int IntKind.i64 2)
                            (upd (upd (upd h b (Obj.cells #[Value.pointer r0] 34 (0, 0))) b_1 (Obj.cells #[Value.int IntKind.i64 k0] 3 (0, 0))) b_2 (Obj.cells #[Value.int IntKind.u64 v] 49 (0, 0))))
                          (∃ (x : Int),
                            (upd (upd (upd h b (Obj.cells #[Value.pointer r0] 34 (0, 0))) b_1 (Obj.cells #[Value.int IntKind.i64 k0] 3 (0, 0))) b_2 (Obj.cells #[Value.int IntKind.u64 v] 49 (0, 0))).cell
                                  b_1 0 =
                                some (Value.int IntKind.i64 x) ∧
                              xsIf (decide (8 ≤ x))
                                (Q (Value.int IntKind.i64 2)
                                  (upd (upd (upd h b (Obj.cells #[Value.pointer r0] 34 (0, 0))) b_1 (Obj.cells #[Value.int IntKind.i64 k0] 3 (0, 0))) b_2
                                    (Obj.cells #[Value.int IntKind.u64 v] 49 (0, 0))))
                                (∃ (x : Option Addr),
                                  (upd (upd (upd h b (Obj.cells #[Value.pointer r0] 34 (0, 0))) b_1 (Obj.cells #[Value.int IntKind.i64 k0] 3 (0, 0))) b_2
                                            (Obj.cells #[Value.int IntKind.u64 v] 49 (0, 0))).cell
                                        b 0 =
                                      some (Value.pointer x) ∧
                                    C Tryz.prog 42
                                      #[Value.pointer x, Value.int IntKind.i64 i,
                                            Value.func (Fn.func 46) #[]
                                              #[Value.pointer (some { block := b, off := 0 }), Value.pointer (some { block := b_1, off := 0 }), Value.pointer (some { block := b_2, off := 0 })]]
                                      (upd (upd (upd h b (Obj.cells #[Value.pointer r0] 34 (0, 0))) b_1 (Obj.cells #[Value.int IntKind.i64 k0] 3 (0, 0))) b_2
                                        (Obj.cells #[Value.int IntKind.u64 v] 49 (0, 0)))
                                      fun (r : Value) (h' : Heap) => ∃ (x : Int), r = Value.int IntKind.i64 x ∧ Q (Value.int IntKind.i64 x) h')))
                    (∃ (x : Option Addr),
                      (upd (upd (upd h b (Obj.cells #[Value.pointer r0] 34 (0, 0))) b_1 (Obj.cells #[Value.int IntKind.i64 k0] 3 (0, 0))) b_2 (Obj.cells #[Value.int IntKind.u64 v] 49 (0, 0))).cell b 0 =
                          some (Value.pointer x) ∧
                        C Tryz.prog 42
                          #[Value.pointer x, Value.int IntKind.i64 i,
                                Value.func (Fn.func 46) #[] #[Value.pointer (some { block := b, off := 0 }), Value.pointer (some { block := b_1, off := 0 }), Value.pointer (some { block := b_2, off := 0 })]]
                          (upd (upd (upd h b (Obj.cells #[Value.pointer r0] 34 (0, 0))) b_1 (Obj.cells #[Value.int IntKind.i64 k0] 3 (0, 0))) b_2 (Obj.cells #[Value.int IntKind.u64 v] 49 (0, 0)))
                          fun (r : Value) (h' : Heap) => ∃ (x : Int), r = Value.int IntKind.i64 x ∧ Q (Value.int IntKind.i64 x) h')
theorem ring_Ring_WriteWord.ok {r0 : Option Addr} {i : Int} {k0 : Int} {v : Int} {h : Heap} {Q : Value → Heap → Prop} (hk : ring_Ring_WriteWord.wp r0 i k0 v h Q) : C Tryz.prog 16 #[.pointer r0, .int .i64 i, .int .i64 k0, .int .u64 v] h Q :=
  C_of_xs (H := ring_Ring_WriteWord.H) (lcuts := ring_Ring_WriteWord.lc) (rcuts := ring_Ring_WriteWord.rc) (l := [.pointer r0, .int .i64 i, .int .i64 k0, .int .u64 v]) 2000 mixed Tryz.func16 rfl (by kernel_rfl) (@cast (ring_Ring_WriteWord.wp r0 i k0 v h Q) _ (by kernel_rfl) hk)

/-! (*gabion/ring.Ring).Read -/
def ring_Ring_Read.H : Hn := ⟨[], [], [], []⟩
def ring_Ring_Read.lc : List Cut := []
def ring_Ring_Read.rc : List Cut := []
def ring_Ring_Read.wp (r0 : Option Addr) (i : Int) (h : Heap) (Q : Value → Heap → Prop) : Prop :=
  C Tryz.prog 47 #[Value.pointer r0, Value.int IntKind.i64 i] h fun (r : Value) (h' : Heap) =>
    ∃ (x : Int),
      ∃ (x_1 : Int),
        r = Value.tuple #[Value.int IntKind.i64 x, Value.int IntKind.i64 x_1] ∧
          xsIf (decide (x_1 ≠ 0)) (Q (Value.tuple #[Value.string { data := #[] }, Value.int IntKind.i64 x_1]) h')
            (atBase r0 fun (b o : Nat) =>
              ∃ (x_2 : Option Addr),
                h'.cell b (o + 4) = some (Value.pointer x_2) ∧
                  C Tryz.prog 38 #[Value.pointer x_2, Value.int IntKind.i64 x] h' fun (r : Value) (h' : Heap) =>
                    ∃ (x : ByteArray), ∃ (x_3 : Int), r = Value.tuple #[Value.string x, Value.int IntKind.i64 x_3] ∧ Q (Value.tuple #[Value.string x, Value.int IntKind.i64 x_3]) h')
theorem ring_Ring_Read.ok {r0 : Option Addr} {i : Int} {h : Heap} {Q : Value → Heap → Prop} (hk : ring_Ring_Read.wp r0 i h Q) : C Tryz.prog 17 #[.pointer r0, .int .i64 i] h Q :=
  C_of_xs (H := ring_Ring_Read.H) (lcuts := ring_Ring_Read.lc) (rcuts := ring_Ring_Read.rc) (l := [.pointer r0, .int .i64 i]) 2000 mixed Tryz.func17 rfl (by kernel_rfl) (@cast (ring_Ring_Read.wp r0 i h Q) _ (by kernel_rfl) hk)

/-! (*gabion/ring.Ring).Since -/
def ring_Ring_Since.H : Hn := ⟨[], [], [], []⟩
def ring_Ring_Since.lc : List Cut := []
def ring_Ring_Since.rc : List Cut := []
def ring_Ring_Since.wp (r0 : Option Addr) (h : Heap) (Q : Value → Heap → Prop) : Prop :=
  xsIf r0.isNone (Q (Value.int IntKind.i64 0) h) (atBase r0 fun (b o : Nat) => ∃ (x : Int), h.cell b (o + 8) = some (Value.int IntKind.i64 x) ∧ Q (Value.int IntKind.i64 x) h)
theorem ring_Ring_Since.ok {r0 : Option Addr} {h : Heap} {Q : Value → Heap → Prop} (hk : ring_Ring_Since.wp r0 h Q) : C Tryz.prog 37 #[.pointer r0] h Q :=
  C_of_xs (H := ring_Ring_Since.H) (lcuts := ring_Ring_Since.lc) (rcuts := ring_Ring_Since.rc) (l := [.pointer r0]) 2000 mixed Tryz.func37 rfl (by kernel_rfl) (@cast (ring_Ring_Since.wp r0 h Q) _ (by kernel_rfl) hk)

/-! gabion/gabionlaw07.wakes -/
def gabionlaw07_wakes.H : Hn := ⟨[], [], [], []⟩
def gabionlaw07_wakes.lc : List Cut := []
def gabionlaw07_wakes.rc : List Cut := [⟨7, [5], []⟩]
def gabionlaw07_wakes.J7 (r0 : Option Addr) (h : Heap) (Q : Value → Heap → Prop) : Prop :=
  TW Tryz.prog 10 83 [.code (cAt (bodyOf Tryz.f10) [1, 1, 1, 1, 1, 1, 0]), .code (cAt (bodyOf Tryz.f10) [1, 1, 1, 1, 1, 1, 1])] ⟨[(5, .v (.pointer r0))], []⟩ h Q
def gabionlaw07_wakes.wp  (h : Heap) (Q : Value → Heap → Prop) : Prop :=
  C Tryz.prog 8 #[Value.int IntKind.i64 6] h fun (r : Value) (h' : Heap) =>
    ∃ (x : Option Addr),
      ∃ (x_1 : Int),
        r = Value.tuple #[Value.pointer x, Value.int IntKind.i64 x_1] ∧
          C Tryz.prog 9 #[Value.pointer x, Value.agg #[Value.int IntKind.i64 0, Value.int IntKind.i64 4, Value.int IntKind.i64 0, Value.int IntKind.i64 2]] h' fun (r : Value) (h' : Heap) =>
            ∃ (x_2 : Int),
              r = Value.int IntKind.i64 x_2 ∧
                C Tryz.prog 11 #[Value.pointer x, Value.agg #[Value.int IntKind.i64 0, Value.int IntKind.i64 4, Value.int IntKind.i64 0, Value.int IntKind.i64 2]] h' fun (r : Value) (h' : Heap) =>
                  ∃ (x : Option Addr),
                    ∃ (x_3 : Int),
                      r = Value.tuple #[Value.pointer x, Value.int IntKind.i64 x_3] ∧
                        xsIf (decide (x_1 ≠ 0)) (Q (Value.bool false) h')
                          (xsIf (decide (x_2 ≠ 0)) (Q (Value.bool false) h')
                            (xsIf (decide (x_3 ≠ 0)) (Q (Value.bool false) h')
                              (C Tryz.prog 12 #[Value.pointer x] h' fun (r : Value) (h' : Heap) =>
                                ∃ (x_4 : Int),
                                  ∃ (x_5 : Int),
                                    ∃ (x_6 : Int),
                                      r = Value.agg #[Value.int IntKind.i64 x_4, Value.int IntKind.i64 x_5, Value.int IntKind.u32 x_6] ∧
                                        C Tryz.prog 35 #[Value.int IntKind.i64 4] h' fun (r : Value) (h' : Heap) =>
                                          ∃ (x_7 : Int),
                                            ∃ (x_8 : Int),
                                              ∃ (x_9 : Int),
                                                r = Value.agg #[Value.int IntKind.i64 x_7, Value.int IntKind.i64 x_8, Value.int IntKind.u32 x_9] ∧
                                                  xsIf (!(decide (x_4 = x_7) && (decide (x_5 = x_8) && (decide (x_6 = x_9) && true)))) (Q (Value.bool false) h') (gabionlaw07_wakes.J7 x h' Q))))
def gabionlaw07_wakes.J7.wp (r0 : Option Addr) (h : Heap) (Q : Value → Heap → Prop) : Prop :=
  C Tryz.prog 14 #[Value.string { data := #[UInt8.ofNat 97] }] h fun (r : Value) (h' : Heap) =>
    ∃ (x : ByteArray),
      r = Value.string x ∧
        C Tryz.prog 13 #[Value.pointer r0, Value.int IntKind.i64 0, Value.string x] h' fun (r : Value) (h' : Heap) =>
          ∃ (x : Int),
            r = Value.int IntKind.i64 x ∧
              C Tryz.prog 14 #[Value.string { data := #[UInt8.ofNat 98] }] h' fun (r : Value) (h' : Heap) =>
                ∃ (x : ByteArray),
                  r = Value.string x ∧
                    C Tryz.prog 13 #[Value.pointer r0, Value.int IntKind.i64 3, Value.string x] h' fun (r : Value) (h' : Heap) =>
                      ∃ (x : Int),
                        r = Value.int IntKind.i64 x ∧
                          C Tryz.prog 12 #[Value.pointer r0] h' fun (r : Value) (h' : Heap) =>
                            ∃ (x : Int),
                              ∃ (x_1 : Int),
                                ∃ (x_2 : Int),
                                  r = Value.agg #[Value.int IntKind.i64 x, Value.int IntKind.i64 x_1, Value.int IntKind.u32 x_2] ∧
                                    C Tryz.prog 16 #[Value.pointer r0, Value.int IntKind.i64 1, Value.int IntKind.i64 0, Value.int IntKind.u64 5] h' fun (r : Value) (h' : Heap) =>
                                      ∃ (x : Int),
                                        r = Value.int IntKind.i64 x ∧
                                          C Tryz.prog 17 #[Value.pointer r0, Value.int IntKind.i64 3] h' fun (r : Value) (h' : Heap) =>
                                            ∃ (x_3 : ByteArray),
                                              ∃ (x_4 : Int),
                                                r = Value.tuple #[Value.string x_3, Value.int IntKind.i64 x_4] ∧
                                                  xsIf (decide (x_2 = 0))
                                                    (xsIf (decide (x = 0))
                                                      (xsIf (decide (x_4 = 0))
                                                        (C Tryz.prog 14 #[Value.string { data := #[UInt8.ofNat 98] }] h' fun (r : Value) (h' : Heap) =>
                                                          ∃ (x : ByteArray),
                                                            r = Value.string x ∧
                                                              xsIf (decide (x_3 = x))
                                                                (C Tryz.prog 12 #[Value.pointer r0] h' fun (r : Value) (h' : Heap) =>
                                                                  ∃ (x : Int),
                                                                    ∃ (x_5 : Int),
                                                                      ∃ (x_6 : Int),
                                                                        r = Value.agg #[Value.int IntKind.i64 x, Value.int IntKind.i64 x_5, Value.int IntKind.u32 x_6] ∧
                                                                          xsIf (decide (x_6 = 1))
                                                                            (C Tryz.prog 37 #[Value.pointer r0] h' fun (r : Value) (h' : Heap) => ∃ (x : Int), r = Value.int IntKind.i64 x ∧ Q (Value.bool (decide (x = 1))) h')
                                                                            (Q (Value.bool false) h'))
                                                                (Q (Value.bool false) h'))
                                                        (Q (Value.bool false) h'))
                                                      (Q (Value.bool false) h'))
                                                    (Q (Value.bool false) h')
theorem gabionlaw07_wakes.ok {h : Heap} {Q : Value → Heap → Prop} (hk : gabionlaw07_wakes.wp h Q) : C Tryz.prog 10 #[] h Q :=
  C_of_xs (H := gabionlaw07_wakes.H) (lcuts := gabionlaw07_wakes.lc) (rcuts := gabionlaw07_wakes.rc) (l := []) 2000 mixed Tryz.func10 rfl (by kernel_rfl) (@cast (gabionlaw07_wakes.wp h Q) _ (by kernel_rfl) hk)
theorem gabionlaw07_wakes.J7.ok {r0 : Option Addr} {h : Heap} {Q : Value → Heap → Prop} (hk : gabionlaw07_wakes.J7.wp r0 h Q) : gabionlaw07_wakes.J7 r0 h Q :=
  xs_ok (H := gabionlaw07_wakes.H) (lcuts := gabionlaw07_wakes.lc) (rcuts := []) (fn := Tryz.f10) mixed Tryz.func10 2000 _ _ _ (@cast (gabionlaw07_wakes.J7.wp r0 h Q) _ (by kernel_rfl) hk)

/-! gabion/gabionlaw07.RingEven -/
def gabionlaw07_RingEven.H : Hn := ⟨[], [], [⟨17, .q 0 (.q 1 (.q 2 (.q 3 (.q 4 (.q 5 (.q 6 (.q 7 (.q 8 (.q 9 (.q 10 (.q 11 (.q 12 (.q 13 (.nil)))))))))))))), []⟩, ⟨22, .q 0 (.q 2 (.q 1 (.q 3 (.nil)))), []⟩, ⟨27, .q 0 (.q 2 (.q 3 (.q 4 (.q 6 (.q 7 (.q 8 (.q 9 (.q 1 (.q 5 (.q 10 (.q 11 (.nil)))))))))))), []⟩, ⟨30, .q 0 (.q 1 (.q 2 (.q 4 (.q 5 (.q 6 (.q 7 (.q 8 (.q 9 (.q 3 (.q 10 (.nil))))))))))), []⟩, ⟨35, .q 0 (.q 1 (.q 3 (.q 4 (.ld 2 192 (.q 6 (.q 5 (.q 7 (.nil)))))))), []⟩], []⟩
def gabionlaw07_RingEven.lc : List Cut := [⟨13, [5, 8, 10, 11, 12, 63, 64, 65], [5, 12]⟩, ⟨25, [5, 8, 10, 11, 12, 63, 64, 65, 110, 111], [5, 12]⟩, ⟨37, [19, 20, 156, 157, 158], []⟩]
def gabionlaw07_RingEven.rc : List Cut := [⟨6, [1, 5, 6], [5]⟩, ⟨9, [1, 5, 8], [5]⟩, ⟨24, [5, 8, 10, 11, 12, 63, 64, 65], [5, 12]⟩, ⟨30, [5, 8, 10, 11, 12, 18, 63, 64, 65, 110, 111], [5, 12]⟩]
def gabionlaw07_RingEven.J6 (at0 : Option Addr) (at0_n : Nat) (at0_c : Nat) (d : Option Addr) (p_0 : Int) (p_1 : Int) (p_2 : Int) (p_3 : Int) (h : Heap) (Q : Value → Heap → Prop) : Prop :=
  TW Tryz.prog 3 173 [.code (cAt (bodyOf Tryz.f3) [1, 1, 1, 1, 1, 0]), .code (cAt (bodyOf Tryz.f3) [1, 1, 1, 1, 1, 1])] ⟨[(1, .v (.slice at0 at0_n at0_c)), (5, .p 5 0), (6, .v (.pointer d))], [(5, [.int .i64 p_0, .int .i64 p_1, .int .i64 p_2, .int .i64 p_3])]⟩ h Q
def gabionlaw07_RingEven.J9 (at0 : Option Addr) (at0_n : Nat) (at0_c : Nat) (r0 : Option Addr) (p_0 : Int) (p_1 : Int) (p_2 : Int) (p_3 : Int) (h : Heap) (Q : Value → Heap → Prop) : Prop :=
  TW Tryz.prog 3 173 [.code (cAt (bodyOf Tryz.f3) [1, 1, 1, 1, 1, 1, 1, 0]), .code (cAt (bodyOf Tryz.f3) [1, 1, 1, 1, 1, 1, 1, 1])] ⟨[(1, .v (.slice at0 at0_n at0_c)), (5, .p 5 0), (8, .v (.pointer r0))], [(5, [.int .i64 p_0, .int .i64 p_1, .int .i64 p_2, .int .i64 p_3])]⟩ h Q
def gabionlaw07_RingEven.L13 (r0 : Option Addr) (moved : Option Addr) (moved_n : Nat) (moved_c : Nat) (stays : Option Addr) (stays_n : Nat) (stays_c : Nat) (t63 : Option Addr) (t63_n : Nat) (t63_c : Nat) (t64 : Int) (t65 : Int) (p_0 : Int) (p_1 : Int) (p_2 : Int) (p_3 : Int) (last_0 : Int) (last_1 : Int) (last_2 : Int) (h : Heap) (Q : Value → Heap → Prop) : Prop :=
  TW Tryz.prog 3 173 [.code (cAt (bodyOf Tryz.f3) [1, 1, 1, 1, 1, 1, 1, 1, 1, 1, 0, 1, 0, 0]), .inLoop (cAt (bodyOf Tryz.f3) [1, 1, 1, 1, 1, 1, 1, 1, 1, 1, 0, 1, 0, 0]), .inBlock 0, .code (cAt (bodyOf Tryz.f3) [1, 1, 1, 1, 1, 1, 1, 1, 1, 1, 1])] ⟨[(5, .p 5 0), (8, .v (.pointer r0)), (10, .v (.slice moved moved_n moved_c)), (11, .v (.slice stays stays_n stays_c)), (12, .p 12 0), (63, .v (.slice t63 t63_n t63_c)), (64, .v (.int .i64 t64)), (65, .v (.int .i64 t65))], [(5, [.int .i64 p_0, .int .i64 p_1, .int .i64 p_2, .int .i64 p_3]), (12, [.int .i64 last_0, .int .i64 last_1, .int .u32 last_2])]⟩ h Q
def gabionlaw07_RingEven.J24 (r0 : Option Addr) (moved : Option Addr) (moved_n : Nat) (moved_c : Nat) (stays : Option Addr) (stays_n : Nat) (stays_c : Nat) (t63 : Option Addr) (t63_n : Nat) (t63_c : Nat) (t64 : Int) (t65 : Int) (p_0 : Int) (p_1 : Int) (p_2 : Int) (p_3 : Int) (last_0 : Int) (last_1 : Int) (last_2 : Int) (h : Heap) (Q : Value → Heap → Prop) : Prop :=
  TW Tryz.prog 3 173 [.code (cAt (bodyOf Tryz.f3) [1, 1, 1, 1, 1, 1, 1, 1, 1, 1, 0, 1, 0, 0, 1, 1, 0, 0, 1, 1, 1, 1, 1, 1, 0, 0]), .code (cAt (bodyOf Tryz.f3) [1, 1, 1, 1, 1, 1, 1, 1, 1, 1, 0, 1, 0, 0, 1, 1, 0, 0, 1, 1, 1, 1, 1, 1, 0, 1]), .code (cAt (bodyOf Tryz.f3) [1, 1, 1, 1, 1, 1, 1, 1, 1, 1, 0, 1, 0, 0, 1, 1, 0, 0, 1, 1, 1, 1, 1, 1, 1]), .inBlock 1, .code (cAt (bodyOf Tryz.f3) [1, 1, 1, 1, 1, 1, 1, 1, 1, 1, 0, 1, 0, 0, 1, 1, 1]), .inLoop (cAt (bodyOf Tryz.f3) [1, 1, 1, 1, 1, 1, 1, 1, 1, 1, 0, 1, 0, 0]), .inBlock 0, .code (cAt (bodyOf Tryz.f3) [1, 1, 1, 1, 1, 1, 1, 1, 1, 1, 1])] ⟨[(5, .p 5 0), (8, .v (.pointer r0)), (10, .v (.slice moved moved_n moved_c)), (11, .v (.slice stays stays_n stays_c)), (12, .p 12 0), (63, .v (.slice t63 t63_n t63_c)), (64, .v (.int .i64 t64)), (65, .v (.int .i64 t65))], [(5, [.int .i64 p_0, .int .i64 p_1, .int .i64 p_2, .int .i64 p_3]), (12, [.int .i64 last_0, .int .i64 last_1, .int .u32 last_2])]⟩ h Q
def gabionlaw07_RingEven.L25 (r0 : Option Addr) (moved : Option Addr) (moved_n : Nat) (moved_c : Nat) (stays : Option Addr) (stays_n : Nat) (stays_c : Nat) (t63 : Option Addr) (t63_n : Nat) (t63_c : Nat) (t64 : Int) (t65 : Int) (t110 : Int) (t111 : Int) (p_0 : Int) (p_1 : Int) (p_2 : Int) (p_3 : Int) (last_0 : Int) (last_1 : Int) (last_2 : Int) (h : Heap) (Q : Value → Heap → Prop) : Prop :=
  TW Tryz.prog 3 173 [.code (cAt (bodyOf Tryz.f3) [1, 1, 1, 1, 1, 1, 1, 1, 1, 1, 0, 1, 0, 0, 1, 1, 0, 0, 1, 1, 1, 1, 1, 1, 0, 1, 0, 0]), .inLoop (cAt (bodyOf Tryz.f3) [1, 1, 1, 1, 1, 1, 1, 1, 1, 1, 0, 1, 0, 0, 1, 1, 0, 0, 1, 1, 1, 1, 1, 1, 0, 1, 0, 0]), .inBlock 2, .code (cAt (bodyOf Tryz.f3) [1, 1, 1, 1, 1, 1, 1, 1, 1, 1, 0, 1, 0, 0, 1, 1, 0, 0, 1, 1, 1, 1, 1, 1, 1]), .inBlock 1, .code (cAt (bodyOf Tryz.f3) [1, 1, 1, 1, 1, 1, 1, 1, 1, 1, 0, 1, 0, 0, 1, 1, 1]), .inLoop (cAt (bodyOf Tryz.f3) [1, 1, 1, 1, 1, 1, 1, 1, 1, 1, 0, 1, 0, 0]), .inBlock 0, .code (cAt (bodyOf Tryz.f3) [1, 1, 1, 1, 1, 1, 1, 1, 1, 1, 1])] ⟨[(5, .p 5 0), (8, .v (.pointer r0)), (10, .v (.slice moved moved_n moved_c)), (11, .v (.slice stays stays_n stays_c)), (12, .p 12 0), (63, .v (.slice t63 t63_n t63_c)), (64, .v (.int .i64 t64)), (65, .v (.int .i64 t65)), (110, .v (.int .i64 t110)), (111, .v (.int .i64 t111))], [(5, [.int .i64 p_0, .int .i64 p_1, .int .i64 p_2, .int .i64 p_3]), (12, [.int .i64 last_0, .int .i64 last_1, .int .u32 last_2])]⟩ h Q
def gabionlaw07_RingEven.J30 (r0 : Option Addr) (moved : Option Addr) (moved_n : Nat) (moved_c : Nat) (stays : Option Addr) (stays_n : Nat) (stays_c : Nat) (i : Int) (t63 : Option Addr) (t63_n : Nat) (t63_c : Nat) (t64 : Int) (t65 : Int) (t110 : Int) (t111 : Int) (p_0 : Int) (p_1 : Int) (p_2 : Int) (p_3 : Int) (last_0 : Int) (last_1 : Int) (last_2 : Int) (h : Heap) (Q : Value → Heap → Prop) : Prop :=
  TW Tryz.prog 3 173 [.code (cAt (bodyOf Tryz.f3) [1, 1, 1, 1, 1, 1, 1, 1, 1, 1, 0, 1, 0, 0, 1, 1, 0, 0, 1, 1, 1, 1, 1, 1, 0, 1, 0, 0, 1, 1, 0, 0, 1, 1, 0]), .code (cAt (bodyOf Tryz.f3) [1, 1, 1, 1, 1, 1, 1, 1, 1, 1, 0, 1, 0, 0, 1, 1, 0, 0, 1, 1, 1, 1, 1, 1, 0, 1, 0, 0, 1, 1, 0, 0, 1, 1, 1]), .inBlock 3, .code (cAt (bodyOf Tryz.f3) [1, 1, 1, 1, 1, 1, 1, 1, 1, 1, 0, 1, 0, 0, 1, 1, 0, 0, 1, 1, 1, 1, 1, 1, 0, 1, 0, 0, 1, 1, 1]), .inLoop (cAt (bodyOf Tryz.f3) [1, 1, 1, 1, 1, 1, 1, 1, 1, 1, 0, 1, 0, 0, 1, 1, 0, 0, 1, 1, 1, 1, 1, 1, 0, 1, 0, 0]), .inBlock 2, .code (cAt (bodyOf Tryz.f3) [1, 1, 1, 1, 1, 1, 1, 1, 1, 1, 0, 1, 0, 0, 1, 1, 0, 0, 1, 1, 1, 1, 1, 1, 1]), .inBlock 1, .code (cAt (bodyOf Tryz.f3) [1, 1, 1, 1, 1, 1, 1, 1, 1, 1, 0, 1, 0, 0, 1, 1, 1]), .inLoop (cAt (bodyOf Tryz.f3) [1, 1, 1, 1, 1, 1, 1, 1, 1, 1, 0, 1, 0, 0]), .inBlock 0, .code (cAt (bodyOf Tryz.f3) [1, 1, 1, 1, 1, 1, 1, 1, 1, 1, 1])] ⟨[(5, .p 5 0), (8, .v (.pointer r0)), (10, .v (.slice moved moved_n moved_c)), (11, .v (.slice stays stays_n stays_c)), (12, .p 12 0), (18, .v (.int .i64 i)), (63, .v (.slice t63 t63_n t63_c)), (64, .v (.int .i64 t64)), (65, .v (.int .i64 t65)), (110, .v (.int .i64 t110)), (111, .v (.int .i64 t111))], [(5, [.int .i64 p_0, .int .i64 p_1, .int .i64 p_2, .int .i64 p_3]), (12, [.int .i64 last_0, .int .i64 last_1, .int .u32 last_2])]⟩ h Q
def gabionlaw07_RingEven.L37 (low : Int) (high : Int) (t156 : Option Addr) (t156_n : Nat) (t156_c : Nat) (t157 : Int) (t158 : Int) (h : Heap) (Q : Value → Heap → Prop) : Prop :=
  TW Tryz.prog 3 173 [.code (cAt (bodyOf Tryz.f3) [1, 1, 1, 1, 1, 1, 1, 1, 1, 1, 1, 1, 0, 1, 0, 0]), .inLoop (cAt (bodyOf Tryz.f3) [1, 1, 1, 1, 1, 1, 1, 1, 1, 1, 1, 1, 0, 1, 0, 0]), .inBlock 4, .code (cAt (bodyOf Tryz.f3) [1, 1, 1, 1, 1, 1, 1, 1, 1, 1, 1, 1, 1])] ⟨[(19, .v (.int .i64 low)), (20, .v (.int .i64 high)), (156, .v (.slice t156 t156_n t156_c)), (157, .v (.int .i64 t157)), (158, .v (.int .i64 t158))], []⟩ h Q
def gabionlaw07_RingEven.wp (x_0 : Int) (x_1 : Int) (x_2 : Int) (x_3 : Int) (at0 : Option Addr) (at0_n : Nat) (at0_c : Nat) (h : Heap) (Q : Value → Heap → Prop) : Prop :=
  C Tryz.prog 7 #[Value.agg #[Value.int IntKind.i64 x_0, Value.int IntKind.i64 x_1, Value.int IntKind.i64 x_2, Value.int IntKind.i64 x_3]] h fun (r : Value) (h' : Heap) =>
    ∃ (x : Int),
      ∃ (x_4 : Int),
        ∃ (x_5 : Int),
          ∃ (x_6 : Int),
            r = Value.agg #[Value.int IntKind.i64 x, Value.int IntKind.i64 x_4, Value.int IntKind.i64 x_5, Value.int IntKind.i64 x_6] ∧
              C Tryz.prog 8 #[Value.int IntKind.i64 20] h' fun (r : Value) (h' : Heap) =>
                ∃ (x_7 : Option Addr),
                  ∃ (x_8 : Int),
                    r = Value.tuple #[Value.pointer x_7, Value.int IntKind.i64 x_8] ∧
                      C Tryz.prog 9 #[Value.pointer x_7, Value.agg #[Value.int IntKind.i64 x, Value.int IntKind.i64 x_4, Value.int IntKind.i64 0, Value.int IntKind.i64 x_6]] h' fun (r : Value) (h' : Heap) =>
                        ∃ (x_9 : Int),
                          r = Value.int IntKind.i64 x_9 ∧
                            xsIf (decide (x_9 ≠ 0)) (Q (Value.bool false) h')
                              (C Tryz.prog 10 #[] h' fun (r : Value) (h' : Heap) => ∃ (x_10 : Bool), r = Value.bool x_10 ∧ xsIf (!x_10) (Q (Value.bool false) h') (gabionlaw07_RingEven.J6 at0 at0_n at0_c x_7 x x_4 0 x_6 h' Q))
def gabionlaw07_RingEven.J6.wp (at0 : Option Addr) (at0_n : Nat) (at0_c : Nat) (d : Option Addr) (p_0 : Int) (p_1 : Int) (p_2 : Int) (p_3 : Int) (h : Heap) (Q : Value → Heap → Prop) : Prop :=
  C Tryz.prog 11 #[Value.pointer d, Value.agg #[Value.int IntKind.i64 p_0, Value.int IntKind.i64 p_1, Value.int IntKind.i64 p_2, Value.int IntKind.i64 p_3]] h fun (r : Value) (h' : Heap) =>
    ∃ (x : Option Addr),
      ∃ (x_1 : Int),
        r = Value.tuple #[Value.pointer x, Value.int IntKind.i64 x_1] ∧ xsIf (decide (x_1 ≠ 0)) (Q (Value.bool false) h') (xsIf x.isNone (Q (Value.bool false) h') (gabionlaw07_RingEven.J9 at0 at0_n at0_c x p_0 p_1 p_2 p_3 h' Q))
def gabionlaw07_RingEven.J9.wp (at0 : Option Addr) (at0_n : Nat) (at0_c : Nat) (r0 : Option Addr) (p_0 : Int) (p_1 : Int) (p_2 : Int) (p_3 : Int) (h : Heap) (Q : Value → Heap → Prop) : Prop :=
  xsMk Tryz.prog 3 h (IntKind.i64.wrap (p_1 + 1)) (IntKind.i64.wrap (p_1 + 1)) fun (a : Option Addr) (n' c' : Nat) (h' : Heap) =>
    xsMk Tryz.prog 3 h' p_1 p_1 fun (a_1 : Option Addr) (n'_1 c'_1 : Nat) (h' : Heap) =>
      C Tryz.prog 12 #[Value.pointer r0] h' fun (r : Value) (h' : Heap) =>
        ∃ (x : Int),
          ∃ (x_1 : Int),
            ∃ (x_2 : Int),
              r = Value.agg #[Value.int IntKind.i64 x, Value.int IntKind.i64 x_1, Value.int IntKind.u32 x_2] ∧
                (0 ≤ imin (↑at0_n : Int) 120 ∧ imin (↑at0_n : Int) 120 ≤ (↑at0_c : Int)) ∧
                  gabionlaw07_RingEven.L13 r0 a n' c' a_1 n'_1 c'_1 (slBase at0 (↑at0_c : Int) 0 1) (imin (↑at0_n : Int) 120 - 0).toNat ((↑at0_c : Int) - 0).toNat (↑(imin (↑at0_n : Int) 120 - 0).toNat : Int) 0 p_0 p_1 p_2 p_3 x x_1 x_2 h' Q
def gabionlaw07_RingEven.L13.wp (r0 : Option Addr) (moved : Option Addr) (moved_n : Nat) (moved_c : Nat) (stays : Option Addr) (stays_n : Nat) (stays_c : Nat) (t63 : Option Addr) (t63_n : Nat) (t63_c : Nat) (t64 : Int) (t65 : Int) (p_0 : Int) (p_1 : Int) (p_2 : Int) (p_3 : Int) (last_0 : Int) (last_1 : Int) (last_2 : Int) (h : Heap) (Q : Value → Heap → Prop) : Prop :=
  xsIf (decide (t65 < t64))
    ((0 ≤ t65 ∧ t65 < (↑t63_n : Int)) ∧
      atBase t63 fun (b o : Nat) =>
        ∃ (x : Int),
          h.cell b (o + t65.toNat * 1) = some (Value.int IntKind.u8 x) ∧
            C Tryz.prog 12 #[Value.pointer r0] h fun (r : Value) (h' : Heap) =>
              ∃ (x_1 : Int),
                ∃ (x_2 : Int),
                  ∃ (x_3 : Int),
                    r = Value.agg #[Value.int IntKind.i64 x_1, Value.int IntKind.i64 x_2, Value.int IntKind.u32 x_3] ∧
                      C Tryz.prog 12 #[Value.pointer r0] h' fun (r : Value) (h' : Heap) =>
                        ∃ (x_4 : Int),
                          ∃ (x_5 : Int),
                            ∃ (x_6 : Int),
                              r = Value.agg #[Value.int IntKind.i64 x_4, Value.int IntKind.i64 x_5, Value.int IntKind.u32 x_6] ∧
                                p_1 ≠ 0 ∧
                                  C Tryz.prog 14 #[Value.string (Utf8.encode (IntKind.i32.wrap (IntKind.i64.wrap (97 + irem t65 20))))] h' fun (r : Value) (h' : Heap) =>
                                    ∃ (x_7 : ByteArray),
                                      r = Value.string x_7 ∧
                                        C Tryz.prog 13 #[Value.pointer r0, Value.int IntKind.i64 (irem (IntKind.i64.wrap x) p_1), Value.string x_7] h' fun (r : Value) (h' : Heap) =>
                                          ∃ (x : Int),
                                            r = Value.int IntKind.i64 x ∧
                                              xsIf (decide (x ≠ 0)) (Q (Value.bool false) h')
                                                (p_3 ≠ 0 ∧
                                                  C Tryz.prog 12 #[Value.pointer r0] h' fun (r : Value) (h' : Heap) =>
                                                    ∃ (x : Int),
                                                      ∃ (x_8 : Int),
                                                        ∃ (x_9 : Int),
                                                          r = Value.agg #[Value.int IntKind.i64 x, Value.int IntKind.i64 x_8, Value.int IntKind.u32 x_9] ∧
                                                            xsIf (decide (x_9 ≠ IntKind.u32.wrap (iquo IntKind.i64 t65 p_3))) (Q (Value.bool false) h')
                                                              (C Tryz.prog 12 #[Value.pointer r0] h' fun (r : Value) (h' : Heap) =>
                                                                ∃ (x : Int),
                                                                  ∃ (x_10 : Int),
                                                                    ∃ (x_11 : Int),
                                                                      r = Value.agg #[Value.int IntKind.i64 x, Value.int IntKind.i64 x_10, Value.int IntKind.u32 x_11] ∧
                                                                        xsIf (!(decide (x = x_4) && (decide (x_10 = x_5) && (decide (x_11 = x_6) && true))))
                                                                          ((0 ≤ x_2 ∧ x_2 < (↑moved_n : Int)) ∧
                                                                            atBase moved fun (b o : Nat) =>
                                                                              ∃ (x : Int),
                                                                                h'.cell b (o + x_2.toNat * 1) = some (Value.int IntKind.i64 x) ∧
                                                                                  (0 ≤ x_2 ∧ x_2 < (↑moved_n : Int)) ∧
                                                                                    atBase moved fun (b o : Nat) =>
                                                                                      h'.can b (o + x_2.toNat * 1) 1 ∧
                                                                                        gabionlaw07_RingEven.J24 r0 moved moved_n moved_c stays stays_n stays_c t63 t63_n t63_c t64 t65 p_0 p_1 p_2 p_3 last_0 last_1 last_2
                                                                                          (h'.put b (o + x_2.toNat * 1) [Value.int IntKind.i64 (IntKind.i64.wrap (x + 1))]) Q)
                                                                          (gabionlaw07_RingEven.J24 r0 moved moved_n moved_c stays stays_n stays_c t63 t63_n t63_c t64 t65 p_0 p_1 p_2 p_3 last_0 last_1 last_2 h' Q))))
    (((0 : Int) ≤ 0 ∧ (0 : Int) < (↑moved_n : Int)) ∧
      atBase moved fun (b o : Nat) =>
        ((0 : Int) ≤ 0 ∧ (0 : Int) < (↑moved_n : Int)) ∧
          atBase moved fun (b_1 o_1 : Nat) =>
            ∃ (x : Int), h.cell b (o + 0) = some (Value.int IntKind.i64 x) ∧ ∃ (x_1 : Int), h.cell b_1 (o_1 + 0) = some (Value.int IntKind.i64 x_1) ∧ gabionlaw07_RingEven.L37 x x_1 moved moved_n moved_c (↑moved_n : Int) 0 h Q)
def gabionlaw07_RingEven.J24.wp (r0 : Option Addr) (moved : Option Addr) (moved_n : Nat) (moved_c : Nat) (stays : Option Addr) (stays_n : Nat) (stays_c : Nat) (t63 : Option Addr) (t63_n : Nat) (t63_c : Nat) (t64 : Int) (t65 : Int) (p_0 : Int) (p_1 : Int) (p_2 : Int) (p_3 : Int) (last_0 : Int) (last_1 : Int) (last_2 : Int) (h : Heap) (Q : Value → Heap → Prop) : Prop :=
  gabionlaw07_RingEven.L25 r0 moved moved_n moved_c stays stays_n stays_c t63 t63_n t63_c t64 t65 (↑stays_n : Int) 0 p_0 p_1 p_2 p_3 last_0 last_1 last_2 h Q
def gabionlaw07_RingEven.L25.wp (r0 : Option Addr) (moved : Option Addr) (moved_n : Nat) (moved_c : Nat) (stays : Option Addr) (stays_n : Nat) (stays_c : Nat) (t63 : Option Addr) (t63_n : Nat) (t63_c : Nat) (t64 : Int) (t65 : Int) (t110 : Int) (t111 : Int) (p_0 : Int) (p_1 : Int) (p_2 : Int) (p_3 : Int) (last_0 : Int) (last_1 : Int) (last_2 : Int) (h : Heap) (Q : Value → Heap → Prop) : Prop :=
  xsIf (decide (t111 < t110))
    (C Tryz.prog 12 #[Value.pointer r0] h fun (r : Value) (h' : Heap) =>
      ∃ (x : Int),
        ∃ (x_1 : Int),
          ∃ (x_2 : Int),
            r = Value.agg #[Value.int IntKind.i64 x, Value.int IntKind.i64 x_1, Value.int IntKind.u32 x_2] ∧
              C Tryz.prog 15 #[Value.agg #[Value.int IntKind.i64 x, Value.int IntKind.i64 x_1, Value.int IntKind.u32 x_2], Value.int IntKind.i64 p_1, Value.int IntKind.i64 t111] h' fun (r : Value) (h' : Heap) =>
                ∃ (x : Int),
                  r = Value.int IntKind.i64 x ∧
                    C Tryz.prog 15 #[Value.agg #[Value.int IntKind.i64 last_0, Value.int IntKind.i64 last_1, Value.int IntKind.u32 last_2], Value.int IntKind.i64 p_1, Value.int IntKind.i64 t111] h'
                      fun (r : Value) (h' : Heap) =>
                      ∃ (x_3 : Int),
                        r = Value.int IntKind.i64 x_3 ∧
                          xsIf (decide (x = x_3))
                            ((0 ≤ t111 ∧ t111 < (↑stays_n : Int)) ∧
                              atBase stays fun (b o : Nat) =>
                                ∃ (x : Int),
                                  h'.cell b (o + t111.toNat * 1) = some (Value.int IntKind.i64 x) ∧
                                    (0 ≤ t111 ∧ t111 < (↑stays_n : Int)) ∧
                                      atBase stays fun (b o : Nat) =>
                                        h'.can b (o + t111.toNat * 1) 1 ∧
                                          gabionlaw07_RingEven.J30 r0 moved moved_n moved_c stays stays_n stays_c t111 t63 t63_n t63_c t64 t65 t110 t111 p_0 p_1 p_2 p_3 last_0 last_1 last_2
                                            (h'.put b (o + t111.toNat * 1) [Value.int IntKind.i64 (IntKind.i64.wrap (x + 1))]) Q)
                            ((0 ≤ t111 ∧ t111 < (↑stays_n : Int)) ∧
                              atBase stays fun (b o : Nat) =>
                                h'.can b (o + t111.toNat * 1) 1 ∧
                                  gabionlaw07_RingEven.J30 r0 moved moved_n moved_c stays stays_n stays_c t111 t63 t63_n t63_c t64 t65 t110 t111 p_0 p_1 p_2 p_3 last_0 last_1 last_2 (h'.put b (o + t111.toNat * 1) [Value.int IntKind.i64 1])
                                    Q))
    (C Tryz.prog 12 #[Value.pointer r0] h fun (r : Value) (h' : Heap) =>
      ∃ (x : Int),
        ∃ (x_1 : Int),
          ∃ (x_2 : Int),
            r = Value.agg #[Value.int IntKind.i64 x, Value.int IntKind.i64 x_1, Value.int IntKind.u32 x_2] ∧
              gabionlaw07_RingEven.L13 r0 moved moved_n moved_c stays stays_n stays_c t63 t63_n t63_c t64 (IntKind.i64.wrap (t65 + 1)) p_0 p_1 p_2 p_3 x x_1 x_2 h' Q)
def gabionlaw07_RingEven.J30.wp (r0 : Option Addr) (moved : Option Addr) (moved_n : Nat) (moved_c : Nat) (stays : Option Addr) (stays_n : Nat) (stays_c : Nat) (i : Int) (t63 : Option Addr) (t63_n : Nat) (t63_c : Nat) (t64 : Int) (t65 : Int) (t110 : Int) (t111 : Int) (p_0 : Int) (p_1 : Int) (p_2 : Int) (p_3 : Int) (last_0 : Int) (last_1 : Int) (last_2 : Int) (h : Heap) (Q : Value → Heap → Prop) : Prop :=
  (0 ≤ i ∧ i < (↑stays_n : Int)) ∧
    atBase stays fun (b o : Nat) =>
      ∃ (x : Int),
        h.cell b (o + i.toNat * 1) = some (Value.int IntKind.i64 x) ∧
          xsIf (decide (IntKind.i64.wrap (IntKind.i64.wrap (p_1 + 1) * p_3) < x)) (Q (Value.bool false) h)
            (gabionlaw07_RingEven.L25 r0 moved moved_n moved_c stays stays_n stays_c t63 t63_n t63_c t64 t65 t110 (IntKind.i64.wrap (t111 + 1)) p_0 p_1 p_2 p_3 last_0 last_1 last_2 h Q)
def gabionlaw07_RingEven.L37.wp (low : Int) (high : Int) (t156 : Option Addr) (t156_n : Nat) (t156_c : Nat) (t157 : Int) (t158 : Int) (h : Heap) (Q : Value → Heap → Prop) : Prop :=
  xsIf (decide (t158 < t157))
    ((0 ≤ t158 ∧ t158 < (↑t156_n : Int)) ∧
      atBase t156 fun (b o : Nat) => ∃ (x : Int), h.cell b (o + t158.toNat * 1) = some (Value.int IntKind.i64 x) ∧ gabionlaw07_RingEven.L37 (imin low x) (imax high x) t156 t156_n t156_c t157 (IntKind.i64.wrap (t158 + 1)) h Q)
    (Q (Value.bool (decide (IntKind.i64.wrap (high - low) ≤ 1))) h)
theorem gabionlaw07_RingEven.ok {x_0 : Int} {x_1 : Int} {x_2 : Int} {x_3 : Int} {at0 : Option Addr} {at0_n : Nat} {at0_c : Nat} {h : Heap} {Q : Value → Heap → Prop} (hk : gabionlaw07_RingEven.wp x_0 x_1 x_2 x_3 at0 at0_n at0_c h Q) : C Tryz.prog 3 #[.agg #[.int .i64 x_0, .int .i64 x_1, .int .i64 x_2, .int .i64 x_3], .slice at0 at0_n at0_c] h Q :=
  C_of_xs (H := gabionlaw07_RingEven.H) (lcuts := gabionlaw07_RingEven.lc) (rcuts := gabionlaw07_RingEven.rc) (l := [.agg #[.int .i64 x_0, .int .i64 x_1, .int .i64 x_2, .int .i64 x_3], .slice at0 at0_n at0_c]) 2000 mixed Tryz.func3 rfl (by kernel_rfl) (@cast (gabionlaw07_RingEven.wp x_0 x_1 x_2 x_3 at0 at0_n at0_c h Q) _ (by kernel_rfl) hk)
theorem gabionlaw07_RingEven.J6.ok {at0 : Option Addr} {at0_n : Nat} {at0_c : Nat} {d : Option Addr} {p_0 : Int} {p_1 : Int} {p_2 : Int} {p_3 : Int} {h : Heap} {Q : Value → Heap → Prop} (hk : gabionlaw07_RingEven.J6.wp at0 at0_n at0_c d p_0 p_1 p_2 p_3 h Q) : gabionlaw07_RingEven.J6 at0 at0_n at0_c d p_0 p_1 p_2 p_3 h Q :=
  xs_ok (H := gabionlaw07_RingEven.H) (lcuts := gabionlaw07_RingEven.lc) (rcuts := [⟨9, [1, 5, 8], [5]⟩, ⟨24, [5, 8, 10, 11, 12, 63, 64, 65], [5, 12]⟩, ⟨30, [5, 8, 10, 11, 12, 18, 63, 64, 65, 110, 111], [5, 12]⟩]) (fn := Tryz.f3) mixed Tryz.func3 2000 _ _ _ (@cast (gabionlaw07_RingEven.J6.wp at0 at0_n at0_c d p_0 p_1 p_2 p_3 h Q) _ (by kernel_rfl) hk)
theorem gabionlaw07_RingEven.J9.ok {at0 : Option Addr} {at0_n : Nat} {at0_c : Nat} {r0 : Option Addr} {p_0 : Int} {p_1 : Int} {p_2 : Int} {p_3 : Int} {h : Heap} {Q : Value → Heap → Prop} (hk : gabionlaw07_RingEven.J9.wp at0 at0_n at0_c r0 p_0 p_1 p_2 p_3 h Q) : gabionlaw07_RingEven.J9 at0 at0_n at0_c r0 p_0 p_1 p_2 p_3 h Q :=
  xs_ok (H := gabionlaw07_RingEven.H) (lcuts := gabionlaw07_RingEven.lc) (rcuts := [⟨6, [1, 5, 6], [5]⟩, ⟨24, [5, 8, 10, 11, 12, 63, 64, 65], [5, 12]⟩, ⟨30, [5, 8, 10, 11, 12, 18, 63, 64, 65, 110, 111], [5, 12]⟩]) (fn := Tryz.f3) mixed Tryz.func3 2000 _ _ _ (@cast (gabionlaw07_RingEven.J9.wp at0 at0_n at0_c r0 p_0 p_1 p_2 p_3 h Q) _ (by kernel_rfl) hk)
theorem gabionlaw07_RingEven.L13.ok {r0 : Option Addr} {moved : Option Addr} {moved_n : Nat} {moved_c : Nat} {stays : Option Addr} {stays_n : Nat} {stays_c : Nat} {t63 : Option Addr} {t63_n : Nat} {t63_c : Nat} {t64 : Int} {t65 : Int} {p_0 : Int} {p_1 : Int} {p_2 : Int} {p_3 : Int} {last_0 : Int} {last_1 : Int} {last_2 : Int} {h : Heap} {Q : Value → Heap → Prop} (hk : gabionlaw07_RingEven.L13.wp r0 moved moved_n moved_c stays stays_n stays_c t63 t63_n t63_c t64 t65 p_0 p_1 p_2 p_3 last_0 last_1 last_2 h Q) : gabionlaw07_RingEven.L13 r0 moved moved_n moved_c stays stays_n stays_c t63 t63_n t63_c t64 t65 p_0 p_1 p_2 p_3 last_0 last_1 last_2 h Q :=
  xs_ok (H := gabionlaw07_RingEven.H) (lcuts := gabionlaw07_RingEven.lc) (rcuts := gabionlaw07_RingEven.rc) (fn := Tryz.f3) mixed Tryz.func3 2000 _ _ _ (@cast (gabionlaw07_RingEven.L13.wp r0 moved moved_n moved_c stays stays_n stays_c t63 t63_n t63_c t64 t65 p_0 p_1 p_2 p_3 last_0 last_1 last_2 h Q) _ (by kernel_rfl) hk)
theorem gabionlaw07_RingEven.J24.ok {r0 : Option Addr} {moved : Option Addr} {moved_n : Nat} {moved_c : Nat} {stays : Option Addr} {stays_n : Nat} {stays_c : Nat} {t63 : Option Addr} {t63_n : Nat} {t63_c : Nat} {t64 : Int} {t65 : Int} {p_0 : Int} {p_1 : Int} {p_2 : Int} {p_3 : Int} {last_0 : Int} {last_1 : Int} {last_2 : Int} {h : Heap} {Q : Value → Heap → Prop} (hk : gabionlaw07_RingEven.J24.wp r0 moved moved_n moved_c stays stays_n stays_c t63 t63_n t63_c t64 t65 p_0 p_1 p_2 p_3 last_0 last_1 last_2 h Q) : gabionlaw07_RingEven.J24 r0 moved moved_n moved_c stays stays_n stays_c t63 t63_n t63_c t64 t65 p_0 p_1 p_2 p_3 last_0 last_1 last_2 h Q :=
  xs_ok (H := gabionlaw07_RingEven.H) (lcuts := gabionlaw07_RingEven.lc) (rcuts := [⟨6, [1, 5, 6], [5]⟩, ⟨9, [1, 5, 8], [5]⟩, ⟨30, [5, 8, 10, 11, 12, 18, 63, 64, 65, 110, 111], [5, 12]⟩]) (fn := Tryz.f3) mixed Tryz.func3 2000 _ _ _ (@cast (gabionlaw07_RingEven.J24.wp r0 moved moved_n moved_c stays stays_n stays_c t63 t63_n t63_c t64 t65 p_0 p_1 p_2 p_3 last_0 last_1 last_2 h Q) _ (by kernel_rfl) hk)
theorem gabionlaw07_RingEven.L25.ok {r0 : Option Addr} {moved : Option Addr} {moved_n : Nat} {moved_c : Nat} {stays : Option Addr} {stays_n : Nat} {stays_c : Nat} {t63 : Option Addr} {t63_n : Nat} {t63_c : Nat} {t64 : Int} {t65 : Int} {t110 : Int} {t111 : Int} {p_0 : Int} {p_1 : Int} {p_2 : Int} {p_3 : Int} {last_0 : Int} {last_1 : Int} {last_2 : Int} {h : Heap} {Q : Value → Heap → Prop} (hk : gabionlaw07_RingEven.L25.wp r0 moved moved_n moved_c stays stays_n stays_c t63 t63_n t63_c t64 t65 t110 t111 p_0 p_1 p_2 p_3 last_0 last_1 last_2 h Q) : gabionlaw07_RingEven.L25 r0 moved moved_n moved_c stays stays_n stays_c t63 t63_n t63_c t64 t65 t110 t111 p_0 p_1 p_2 p_3 last_0 last_1 last_2 h Q :=
  xs_ok (H := gabionlaw07_RingEven.H) (lcuts := gabionlaw07_RingEven.lc) (rcuts := gabionlaw07_RingEven.rc) (fn := Tryz.f3) mixed Tryz.func3 2000 _ _ _ (@cast (gabionlaw07_RingEven.L25.wp r0 moved moved_n moved_c stays stays_n stays_c t63 t63_n t63_c t64 t65 t110 t111 p_0 p_1 p_2 p_3 last_0 last_1 last_2 h Q) _ (by kernel_rfl) hk)
theorem gabionlaw07_RingEven.J30.ok {r0 : Option Addr} {moved : Option Addr} {moved_n : Nat} {moved_c : Nat} {stays : Option Addr} {stays_n : Nat} {stays_c : Nat} {i : Int} {t63 : Option Addr} {t63_n : Nat} {t63_c : Nat} {t64 : Int} {t65 : Int} {t110 : Int} {t111 : Int} {p_0 : Int} {p_1 : Int} {p_2 : Int} {p_3 : Int} {last_0 : Int} {last_1 : Int} {last_2 : Int} {h : Heap} {Q : Value → Heap → Prop} (hk : gabionlaw07_RingEven.J30.wp r0 moved moved_n moved_c stays stays_n stays_c i t63 t63_n t63_c t64 t65 t110 t111 p_0 p_1 p_2 p_3 last_0 last_1 last_2 h Q) : gabionlaw07_RingEven.J30 r0 moved moved_n moved_c stays stays_n stays_c i t63 t63_n t63_c t64 t65 t110 t111 p_0 p_1 p_2 p_3 last_0 last_1 last_2 h Q :=
  xs_ok (H := gabionlaw07_RingEven.H) (lcuts := gabionlaw07_RingEven.lc) (rcuts := [⟨6, [1, 5, 6], [5]⟩, ⟨9, [1, 5, 8], [5]⟩, ⟨24, [5, 8, 10, 11, 12, 63, 64, 65], [5, 12]⟩]) (fn := Tryz.f3) mixed Tryz.func3 2000 _ _ _ (@cast (gabionlaw07_RingEven.J30.wp r0 moved moved_n moved_c stays stays_n stays_c i t63 t63_n t63_c t64 t65 t110 t111 p_0 p_1 p_2 p_3 last_0 last_1 last_2 h Q) _ (by kernel_rfl) hk)
theorem gabionlaw07_RingEven.L37.ok {low : Int} {high : Int} {t156 : Option Addr} {t156_n : Nat} {t156_c : Nat} {t157 : Int} {t158 : Int} {h : Heap} {Q : Value → Heap → Prop} (hk : gabionlaw07_RingEven.L37.wp low high t156 t156_n t156_c t157 t158 h Q) : gabionlaw07_RingEven.L37 low high t156 t156_n t156_c t157 t158 h Q :=
  xs_ok (H := gabionlaw07_RingEven.H) (lcuts := gabionlaw07_RingEven.lc) (rcuts := gabionlaw07_RingEven.rc) (fn := Tryz.f3) mixed Tryz.func3 2000 _ _ _ (@cast (gabionlaw07_RingEven.L37.wp low high t156 t156_n t156_c t157 t158 h Q) _ (by kernel_rfl) hk)
end Go.Gb
