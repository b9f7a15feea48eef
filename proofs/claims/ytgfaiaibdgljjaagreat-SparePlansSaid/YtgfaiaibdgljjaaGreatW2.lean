/- Own text for the seat: W2. -/
import Derived.Test.YtgfaiaibdgljjaaGreatW1
set_option linter.unusedVariables false
set_option linter.unusedSimpArgs false
set_option linter.unnecessarySimpa false
set_option linter.deprecated false
set_option maxRecDepth 100000
namespace Go.Gb
open Go.Proofs

/-! (*gabion/spare.Bank).say -/
def spare_Bank_say.H : Hn := ⟨[], [], [⟨1, .q 0 (.q 1 (.q 2 (.q 4 (.q 5 (.q 6 (.q 7 (.q 9 (.q 10 (.q 11 (.q 15 (.q 16 (.q 17 (.q 20 (.br 3 (.br 8 (.br 12 (.q 13 (.q 14 (.br 18 (.q 19 (.q 21 (.q 22 (.q 23 (.nil))))) (.one 21 (.q 18 (.q 19 (.q 22 (.q 23 (.nil))))))))) (.br 18 (.q 19 (.br 12 (.q 13 (.q 14 (.q 21 (.q 22 (.q 23 (.nil)))))) (.one 21 (.q 12 (.q 13 (.q 14 (.q 22 (.q 23 (.nil))))))))) (.one 21 (.br 12 (.q 13 (.q 14 (.q 18 (.q 19 (.q 22 (.q 23 (.nil))))))) (.one 18 (.q 19 (.q 12 (.q 13 (.q 14 (.q 22 (.q 23 (.nil)))))))))))) (.br 12 (.q 13 (.br 8 (.q 14 (.br 18 (.q 19 (.q 21 (.q 22 (.q 23 (.nil))))) (.one 21 (.q 18 (.q 19 (.q 22 (.q 23 (.nil)))))))) (.br 18 (.q 19 (.br 8 (.q 14 (.q 21 (.q 22 (.q 23 (.nil))))) (.one 21 (.q 8 (.q 14 (.q 22 (.q 23 (.nil)))))))) (.one 21 (.br 8 (.q 14 (.q 18 (.q 19 (.q 22 (.q 23 (.nil)))))) (.one 18 (.q 19 (.q 8 (.q 14 (.q 22 (.q 23 (.nil)))))))))))) (.br 18 (.q 19 (.br 8 (.br 12 (.q 13 (.q 14 (.q 21 (.q 22 (.q 23 (.nil)))))) (.one 21 (.q 12 (.q 13 (.q 14 (.q 22 (.q 23 (.nil)))))))) (.br 12 (.q 13 (.br 8 (.q 14 (.q 21 (.q 22 (.q 23 (.nil))))) (.one 21 (.q 8 (.q 14 (.q 22 (.q 23 (.nil)))))))) (.one 21 (.ld 12 12607488 (.q 13 (.q 8 (.q 14 (.q 22 (.q 23 (.nil))))))))))) (.one 21 (.br 8 (.br 12 (.q 13 (.q 14 (.q 18 (.q 19 (.q 22 (.q 23 (.nil))))))) (.one 18 (.q 19 (.q 12 (.q 13 (.q 14 (.q 22 (.q 23 (.nil))))))))) (.br 12 (.q 13 (.br 8 (.q 14 (.q 18 (.q 19 (.q 22 (.q 23 (.nil)))))) (.one 18 (.q 19 (.q 8 (.q 14 (.q 22 (.q 23 (.nil))))))))) (.one 18 (.q 19 (.ld 12 12607488 (.q 13 (.q 8 (.q 14 (.q 22 (.q 23 (.nil))))))))))))))) (.br 8 (.br 3 (.br 12 (.q 13 (.q 14 (.br 18 (.q 19 (.q 21 (.q 22 (.q 23 (.nil))))) (.one 21 (.q 18 (.q 19 (.q 22 (.q 23 (.nil))))))))) (.br 18 (.q 19 (.br 12 (.q 13 (.q 14 (.q 21 (.q 22 (.q 23 (.nil)))))) (.one 21 (.q 12 (.q 13 (.q 14 (.q 22 (.q 23 (.nil))))))))) (.one 21 (.br 12 (.q 13 (.q 14 (.q 18 (.q 19 (.q 22 (.q 23 (.nil))))))) (.one 18 (.q 19 (.q 12 (.q 13 (.q 14 (.q 22 (.q 23 (.nil)))))))))))) (.br 12 (.q 13 (.q 14 (.br 3 (.br 18 (.q 19 (.q 21 (.q 22 (.q 23 (.nil))))) (.one 21 (.q 18 (.q 19 (.q 22 (.q 23 (.nil))))))) (.br 18 (.q 19 (.br 3 (.q 21 (.q 22 (.q 23 (.nil)))) (.one 21 (.q 3 (.q 22 (.q 23 (.nil))))))) (.one 21 (.ld 18 13107200 (.q 19 (.q 3 (.q 22 (.q 23 (.nil))))))))))) (.br 18 (.q 19 (.br 3 (.br 12 (.q 13 (.q 14 (.q 21 (.q 22 (.q 23 (.nil)))))) (.one 21 (.q 12 (.q 13 (.q 14 (.q 22 (.q 23 (.nil)))))))) (.br 12 (.q 13 (.q 14 (.br 3 (.q 21 (.q 22 (.q 23 (.nil)))) (.one 21 (.q 3 (.q 22 (.q 23 (.nil)))))))) (.one 21 (.ld 12 12607488 (.q 13 (.q 14 (.q 3 (.q 22 (.q 23 (.nil))))))))))) (.one 21 (.br 3 (.br 12 (.q 13 (.q 14 (.q 18 (.q 19 (.q 22 (.q 23 (.nil))))))) (.one 18 (.q 19 (.q 12 (.q 13 (.q 14 (.q 22 (.q 23 (.nil))))))))) (.br 12 (.q 13 (.q 14 (.ld 18 13107200 (.q 19 (.q 3 (.q 22 (.q 23 (.nil)))))))) (.one 18 (.q 19 (.ld 12 12607488 (.q 13 (.q 14 (.q 3 (.q 22 (.q 23 (.nil))))))))))))))) (.br 12 (.q 13 (.br 3 (.br 8 (.q 14 (.br 18 (.q 19 (.q 21 (.q 22 (.q 23 (.nil))))) (.one 21 (.q 18 (.q 19 (.q 22 (.q 23 (.nil)))))))) (.br 18 (.q 19 (.br 8 (.q 14 (.q 21 (.q 22 (.q 23 (.nil))))) (.one 21 (.q 8 (.q 14 (.q 22 (.q 23 (.nil)))))))) (.one 21 (.br 8 (.q 14 (.q 18 (.q 19 (.q 22 (.q 23 (.nil)))))) (.one 18 (.q 19 (.q 8 (.q 14 (.q 22 (.q 23 (.nil))))))))))) (.br 8 (.q 14 (.br 3 (.br 18 (.q 19 (.q 21 (.q 22 (.q 23 (.nil))))) (.one 21 (.q 18 (.q 19 (.q 22 (.q 23 (.nil))))))) (.br 18 (.q 19 (.br 3 (.q 21 (.q 22 (.q 23 (.nil)))) (.one 21 (.q 3 (.q 22 (.q 23 (.nil))))))) (.one 21 (.ld 18 13107200 (.q 19 (.q 3 (.q 22 (.q 23 (.nil)))))))))) (.br 18 (.q 19 (.br 3 (.br 8 (.q 14 (.q 21 (.q 22 (.q 23 (.nil))))) (.one 21 (.q 8 (.q 14 (.q 22 (.q 23 (.nil))))))) (.br 8 (.q 14 (.br 3 (.q 21 (.q 22 (.q 23 (.nil)))) (.one 21 (.q 3 (.q 22 (.q 23 (.nil))))))) (.one 21 (.ld 8 12599296 (.q 14 (.q 3 (.q 22 (.q 23 (.nil)))))))))) (.one 21 (.br 3 (.br 8 (.q 14 (.q 18 (.q 19 (.q 22 (.q 23 (.nil)))))) (.one 18 (.q 19 (.q 8 (.q 14 (.q 22 (.q 23 (.nil)))))))) (.br 8 (.q 14 (.ld 18 13107200 (.q 19 (.q 3 (.q 22 (.q 23 (.nil))))))) (.one 18 (.q 19 (.ld 8 12599296 (.q 14 (.q 3 (.q 22 (.q 23 (.nil))))))))))))))) (.br 18 (.q 19 (.br 3 (.br 8 (.br 12 (.q 13 (.q 14 (.q 21 (.q 22 (.q 23 (.nil)))))) (.one 21 (.q 12 (.q 13 (.q 14 (.q 22 (.q 23 (.nil)))))))) (.br 12 (.q 13 (.br 8 (.q 14 (.q 21 (.q 22 (.q 23 (.nil))))) (.one 21 (.q 8 (.q 14 (.q 22 (.q 23 (.nil)))))))) (.one 21 (.ld 12 12607488 (.q 13 (.q 8 (.q 14 (.q 22 (.q 23 (.nil)))))))))) (.br 8 (.br 3 (.br 12 (.q 13 (.q 14 (.q 21 (.q 22 (.q 23 (.nil)))))) (.one 21 (.q 12 (.q 13 (.q 14 (.q 22 (.q 23 (.nil)))))))) (.br 12 (.q 13 (.q 14 (.br 3 (.q 21 (.q 22 (.q 23 (.nil)))) (.one 21 (.q 3 (.q 22 (.q 23 (.nil)))))))) (.one 21 (.ld 12 12607488 (.q 13 (.q 14 (.q 3 (.q 22 (.q 23 (.nil)))))))))) (.br 12 (.q 13 (.br 3 (.br 8 (.q 14 (.q 21 (.q 22 (.q 23 (.nil))))) (.one 21 (.q 8 (.q 14 (.q 22 (.q 23 (.nil))))))) (.br 8 (.q 14 (.br 3 (.q 21 (.q 22 (.q 23 (.nil)))) (.one 21 (.q 3 (.q 22 (.q 23 (.nil))))))) (.one 21 (.ld 8 12599296 (.q 14 (.q 3 (.q 22 (.q 23 (.nil)))))))))) (.one 21 (.ld 12 12607488 (.q 13 (.ld 8 12599296 (.q 14 (.q 3 (.q 22 (.q 23 (.nil))))))))))))) (.one 21 (.br 3 (.br 8 (.br 12 (.q 13 (.q 14 (.q 18 (.q 19 (.q 22 (.q 23 (.nil))))))) (.one 18 (.q 19 (.q 12 (.q 13 (.q 14 (.q 22 (.q 23 (.nil))))))))) (.br 12 (.q 13 (.br 8 (.q 14 (.q 18 (.q 19 (.q 22 (.q 23 (.nil)))))) (.one 18 (.q 19 (.q 8 (.q 14 (.q 22 (.q 23 (.nil))))))))) (.one 18 (.q 19 (.ld 12 12607488 (.q 13 (.q 8 (.q 14 (.q 22 (.q 23 (.nil))))))))))) (.br 8 (.br 3 (.br 12 (.q 13 (.q 14 (.q 18 (.q 19 (.q 22 (.q 23 (.nil))))))) (.one 18 (.q 19 (.q 12 (.q 13 (.q 14 (.q 22 (.q 23 (.nil))))))))) (.br 12 (.q 13 (.q 14 (.ld 18 13107200 (.q 19 (.q 3 (.q 22 (.q 23 (.nil)))))))) (.one 18 (.q 19 (.ld 12 12607488 (.q 13 (.q 14 (.q 3 (.q 22 (.q 23 (.nil))))))))))) (.br 12 (.q 13 (.br 3 (.br 8 (.q 14 (.q 18 (.q 19 (.q 22 (.q 23 (.nil)))))) (.one 18 (.q 19 (.q 8 (.q 14 (.q 22 (.q 23 (.nil)))))))) (.br 8 (.q 14 (.ld 18 13107200 (.q 19 (.q 3 (.q 22 (.q 23 (.nil))))))) (.one 18 (.q 19 (.ld 8 12599296 (.q 14 (.q 3 (.q 22 (.q 23 (.nil))))))))))) (.one 18 (.q 19 (.ld 12 12607488 (.q 13 (.ld 8 12599296 (.q 14 (.q 3 (.q 22 (.q 23 (.nil))))))))))))))))))))))))))))))), []⟩, ⟨3, .q 0 (.q 1 (.q 2 (.q 3 (.q 5 (.br 4 (.q 6 (.q 7 (.q 8 (.nil)))) (.one 6 (.q 4 (.q 7 (.q 8 (.nil)))))))))), []⟩], []⟩
def spare_Bank_say.lc : List Cut := []
def spare_Bank_say.rc : List Cut := [⟨2, [0, 1, 5], []⟩]
def spare_Bank_say.J2 (b : Option Addr) (n : Int) (e : Int) (h : Heap) (Q : Value → Heap → Prop) : Prop :=
  TW Tryz.prog 116 40 [.code (cAt (bodyOf Tryz.f116) [1, 1, 0, 0]), .code (cAt (bodyOf Tryz.f116) [1, 1, 0, 1]), .code (cAt (bodyOf Tryz.f116) [1, 1, 1])] ⟨[(0, .v (.pointer b)), (1, .v (.int .u64 n)), (5, .v (.int .i64 e))], []⟩ h Q
def spare_Bank_say.wp (b : Option Addr) (n : Int) (h : Heap) (Q : Value → Heap → Prop) : Prop :=
  atBase b fun (b_1 o : Nat) =>
    atBase b fun (b_2 o_1 : Nat) =>
      atBase b fun (b_3 o_2 : Nat) =>
        atBase b fun (b_4 o_3 : Nat) =>
          (∃ (x : Option Addr),
              h.cell b_1 (o + 0) = some (Value.pointer x) ∧
                (∃ (x_1 : Int),
                    h.cell b_2 (o_1 + 1 + 0) = some (Value.int IntKind.i64 x_1) ∧
                      (∃ (x_2 : Int),
                          h.cell b_3 (o_2 + 4) = some (Value.int IntKind.i64 x_2) ∧
                            (∃ (x_3 : Int),
                                h.cell b_4 (o_3 + 4) = some (Value.int IntKind.i64 x_3) ∧
                                  C Tryz.prog 148 #[Value.int IntKind.u64 n] h fun (r : Value) (h' : Heap) =>
                                    ∃ (x_4 : Int),
                                      r = Value.int IntKind.u64 x_4 ∧
                                        C Tryz.prog 73 #[Value.pointer x, Value.int IntKind.i64 (IntKind.i64.wrap (x_1 + iquo IntKind.i64 x_2 8)), Value.int IntKind.i64 (irem x_3 8), Value.int IntKind.u64 x_4] h'
                                          fun (r : Value) (h' : Heap) => ∃ (x : Int), r = Value.int IntKind.i64 x ∧ spare_Bank_say.J2 b n x h' Q) ∧
                              C Tryz.prog 148 #[Value.int IntKind.u64 n] h fun (r : Value) (h' : Heap) =>
                                ∃ (x_3 : Int),
                                  r = Value.int IntKind.u64 x_3 ∧
                                    ∃ (x_4 : Int),
                                      h'.cell b_4 (o_3 + 4) = some (Value.int IntKind.i64 x_4) ∧
                                        C Tryz.prog 73 #[Value.pointer x, Value.int IntKind.i64 (IntKind.i64.wrap (x_1 + iquo IntKind.i64 x_2 8)), Value.int IntKind.i64 (irem x_4 8), Value.int IntKind.u64 x_3] h'
                                          fun (r : Value) (h' : Heap) => ∃ (x : Int), r = Value.int IntKind.i64 x ∧ spare_Bank_say.J2 b n x h' Q) ∧
                        (∃ (x_2 : Int),
                            h.cell b_4 (o_3 + 4) = some (Value.int IntKind.i64 x_2) ∧
                              (∃ (x_3 : Int),
                                  h.cell b_3 (o_2 + 4) = some (Value.int IntKind.i64 x_3) ∧
                                    C Tryz.prog 148 #[Value.int IntKind.u64 n] h fun (r : Value) (h' : Heap) =>
                                      ∃ (x_4 : Int),
                                        r = Value.int IntKind.u64 x_4 ∧
                                          C Tryz.prog 73 #[Value.pointer x, Value.int IntKind.i64 (IntKind.i64.wrap (x_1 + iquo IntKind.i64 x_3 8)), Value.int IntKind.i64 (irem x_2 8), Value.int IntKind.u64 x_4] h'
                                            fun (r : Value) (h' : Heap) => ∃ (x : Int), r = Value.int IntKind.i64 x ∧ spare_Bank_say.J2 b n x h' Q) ∧
                                C Tryz.prog 148 #[Value.int IntKind.u64 n] h fun (r : Value) (h' : Heap) =>
                                  ∃ (x_3 : Int),
                                    r = Value.int IntKind.u64 x_3 ∧
                                      ∃ (x_4 : Int),
                                        h'.cell b_3 (o_2 + 4) = some (Value.int IntKind.i64 x_4) ∧
                                          C Tryz.prog 73 #[Value.pointer x, Value.int IntKind.i64 (IntKind.i64.wrap (x_1 + iquo IntKind.i64 x_4 8)), Value.int IntKind.i64 (irem x_2 8), Value.int IntKind.u64 x_3] h'
                                            fun (r : Value) (h' : Heap) => ∃ (x : Int), r = Value.int IntKind.i64 x ∧ spare_Bank_say.J2 b n x h' Q) ∧
                          C Tryz.prog 148 #[Value.int IntKind.u64 n] h fun (r : Value) (h' : Heap) =>
                            ∃ (x_2 : Int),
                              r = Value.int IntKind.u64 x_2 ∧
                                (∃ (x_3 : Int),
                                    h'.cell b_3 (o_2 + 4) = some (Value.int IntKind.i64 x_3) ∧
                                      ∃ (x_4 : Int),
                                        h'.cell b_4 (o_3 + 4) = some (Value.int IntKind.i64 x_4) ∧
                                          C Tryz.prog 73 #[Value.pointer x, Value.int IntKind.i64 (IntKind.i64.wrap (x_1 + iquo IntKind.i64 x_3 8)), Value.int IntKind.i64 (irem x_4 8), Value.int IntKind.u64 x_2] h'
                                            fun (r : Value) (h' : Heap) => ∃ (x : Int), r = Value.int IntKind.i64 x ∧ spare_Bank_say.J2 b n x h' Q) ∧
                                  ∃ (x_3 : Int),
                                    h'.cell b_4 (o_3 + 4) = some (Value.int IntKind.i64 x_3) ∧
                                      ∃ (x_4 : Int),
                                        h'.cell b_3 (o_2 + 4) = some (Value.int IntKind.i64 x_4) ∧
                                          C Tryz.prog 73 #[Value.pointer x, Value.int IntKind.i64 (IntKind.i64.wrap (x_1 + iquo IntKind.i64 x_4 8)), Value.int IntKind.i64 (irem x_3 8), Value.int IntKind.u64 x_2] h'
                                            fun (r : Value) (h' : Heap) => ∃ (x : Int), r = Value.int IntKind.i64 x ∧ spare_Bank_say.J2 b n x h' Q) ∧
                  (∃ (x_1 : Int),
                      h.cell b_3 (o_2 + 4) = some (Value.int IntKind.i64 x_1) ∧
                        (∃ (x_2 : Int),
                            h.cell b_2 (o_1 + 1 + 0) = some (Value.int IntKind.i64 x_2) ∧
                              (∃ (x_3 : Int),
                                  h.cell b_4 (o_3 + 4) = some (Value.int IntKind.i64 x_3) ∧
                                    C Tryz.prog 148 #[Value.int IntKind.u64 n] h fun (r : Value) (h' : Heap) =>
                                      ∃ (x_4 : Int),
                                        r = Value.int IntKind.u64 x_4 ∧
                                          C Tryz.prog 73 #[Value.pointer x, Value.int IntKind.i64 (IntKind.i64.wrap (x_2 + iquo IntKind.i64 x_1 8)), Value.int IntKind.i64 (irem x_3 8), Value.int IntKind.u64 x_4] h'
                                            fun (r : Value) (h' : Heap) => ∃ (x : Int), r = Value.int IntKind.i64 x ∧ spare_Bank_say.J2 b n x h' Q) ∧
                                C Tryz.prog 148 #[Value.int IntKind.u64 n] h fun (r : Value) (h' : Heap) =>
                                  ∃ (x_3 : Int),
                                    r = Value.int IntKind.u64 x_3 ∧
                                      ∃ (x_4 : Int),
                                        h'.cell b_4 (o_3 + 4) = some (Value.int IntKind.i64 x_4) ∧
                                          C Tryz.prog 73 #[Value.pointer x, Value.int IntKind.i64 (IntKind.i64.wrap (x_2 + iquo IntKind.i64 x_1 8)), Value.int IntKind.i64 (irem x_4 8), Value.int IntKind.u64 x_3] h'
                                            fun (r : Value) (h' : Heap) => ∃ (x : Int), r = Value.int IntKind.i64 x ∧ spare_Bank_say.J2 b n x h' Q) ∧
                          (∃ (x_2 : Int),
                              h.cell b_4 (o_3 + 4) = some (Value.int IntKind.i64 x_2) ∧
                                (∃ (x_3 : Int),
                                    h.cell b_2 (o_1 + 1 + 0) = some (Value.int IntKind.i64 x_3) ∧
                                      C Tryz.prog 148 #[Value.int IntKind.u64 n] h fun (r : Value) (h' : Heap) =>
                                        ∃ (x_4 : Int),
                                          r = Value.int IntKind.u64 x_4 ∧
                                            C Tryz.prog 73 #[Value.pointer x, Value.int IntKind.i64 (IntKind.i64.wrap (x_3 + iquo IntKind.i64 x_1 8)), Value.int IntKind.i64 (irem x_2 8), Value.int IntKind.u64 x_4] h'
                                              fun (r : Value) (h' : Heap) => ∃ (x : Int), r = Value.int IntKind.i64 x ∧ spare_Bank_say.J2 b n x h' Q) ∧
                                  C Tryz.prog 148 #[Value.int IntKind.u64 n] h fun (r : Value) (h' : Heap) =>
                                    ∃ (x_3 : Int),
                                      r = Value.int IntKind.u64 x_3 ∧
                                        ∃ (x_4 : Int),
                                          h'.cell b_2 (o_1 + 1 + 0) = some (Value.int IntKind.i64 x_4) ∧
                                            C Tryz.prog 73 #[Value.pointer x, Value.int IntKind.i64 (IntKind.i64.wrap (x_4 + iquo IntKind.i64 x_1 8)), Value.int IntKind.i64 (irem x_2 8), Value.int IntKind.u64 x_3] h'
                                              fun (r : Value) (h' : Heap) => ∃ (x : Int), r = Value.int IntKind.i64 x ∧ spare_Bank_say.J2 b n x h' Q) ∧
                            C Tryz.prog 148 #[Value.int IntKind.u64 n] h fun (r : Value) (h' : Heap) =>
                              ∃ (x_2 : Int),
                                r = Value.int IntKind.u64 x_2 ∧
                                  (∃ (x_3 : Int),
                                      h'.cell b_2 (o_1 + 1 + 0) = some (Value.int IntKind.i64 x_3) ∧
                                        ∃ (x_4 : Int),
                                          h'.cell b_4 (o_3 + 4) = some (Value.int IntKind.i64 x_4) ∧
                                            C Tryz.prog 73 #[Value.pointer x, Value.int IntKind.i64 (IntKind.i64.wrap (x_3 + iquo IntKind.i64 x_1 8)), Value.int IntKind.i64 (irem x_4 8), Value.int IntKind.u64 x_2] h'
                                              fun (r : Value) (h' : Heap) => ∃ (x : Int), r = Value.int IntKind.i64 x ∧ spare_Bank_say.J2 b n x h' Q) ∧
                                    ∃ (x_3 : Int),
                                      h'.cell b_4 (o_3 + 4) = some (Value.int IntKind.i64 x_3) ∧
                                        ∃ (x_4 : Int),
                                          h'.cell b_2 (o_1 + 1 + 0) = some (Value.int IntKind.i64 x_4) ∧
                                            C Tryz.prog 73 #[Value.pointer x, Value.int IntKind.i64 (IntKind.i64.wrap (x_4 + iquo IntKind.i64 x_1 8)), Value.int IntKind.i64 (irem x_3 8), Value.int IntKind.u64 x_2] h'
                                              fun (r : Value) (h' : Heap) => ∃ (x : Int), r = Value.int IntKind.i64 x ∧ spare_Bank_say.J2 b n x h' Q) ∧
                    (∃ (x_1 : Int),
                        h.cell b_4 (o_3 + 4) = some (Value.int IntKind.i64 x_1) ∧
                          (∃ (x_2 : Int),
                              h.cell b_2 (o_1 + 1 + 0) = some (Value.int IntKind.i64 x_2) ∧
                                (∃ (x_3 : Int),
                                    h.cell b_3 (o_2 + 4) = some (Value.int IntKind.i64 x_3) ∧
                                      C Tryz.prog 148 #[Value.int IntKind.u64 n] h fun (r : Value) (h' : Heap) =>
                                        ∃ (x_4 : Int),
                                          r = Value.int IntKind.u64 x_4 ∧
                                            C Tryz.prog 73 #[Value.pointer x, Value.int IntKind.i64 (IntKind.i64.wrap (x_2 + iquo IntKind.i64 x_3 8)), Value.int IntKind.i64 (irem x_1 8), Value.int IntKind.u64 x_4] h'
                                              fun (r : Value) (h' : Heap) => ∃ (x : Int), r = Value.int IntKind.i64 x ∧ spare_Bank_say.J2 b n x h' Q) ∧
                                  C Tryz.prog 148 #[Value.int IntKind.u64 n] h fun (r : Value) (h' : Heap) =>
                                    ∃ (x_3 : Int),
                                      r = Value.int IntKind.u64 x_3 ∧
                                        ∃ (x_4 : Int),
                                          h'.cell b_3 (o_2 + 4) = some (Value.int IntKind.i64 x_4) ∧
                                            C Tryz.prog 73 #[Value.pointer x, Value.int IntKind.i64 (IntKind.i64.wrap (x_2 + iquo IntKind.i64 x_4 8)), Value.int IntKind.i64 (irem x_1 8), Value.int IntKind.u64 x_3] h'
                                              fun (r : Value) (h' : Heap) => ∃ (x : Int), r = Value.int IntKind.i64 x ∧ spare_Bank_say.J2 b n x h' Q) ∧
                            (∃ (x_2 : Int),
                                h.cell b_3 (o_2 + 4) = some (Value.int IntKind.i64 x_2) ∧
                                  (∃ (x_3 : Int),
                                      h.cell b_2 (o_1 + 1 + 0) = some (Value.int IntKind.i64 x_3) ∧
                                        C Tryz.prog 148 #[Value.int IntKind.u64 n] h fun (r : Value) (h' : Heap) =>
                                          ∃ (x_4 : Int),
                                            r = Value.int IntKind.u64 x_4 ∧
                                              C Tryz.prog 73 #[Value.pointer x, Value.int IntKind.i64 (IntKind.i64.wrap (x_3 + iquo IntKind.i64 x_2 8)), Value.int IntKind.i64 (irem x_1 8), Value.int IntKind.u64 x_4] h'
                                                fun (r : Value) (h' : Heap) => ∃ (x : Int), r = Value.int IntKind.i64 x ∧ spare_Bank_say.J2 b n x h' Q) ∧
                                    C Tryz.prog 148 #[Value.int IntKind.u64 n] h fun (r : Value) (h' : Heap) =>
                                      ∃ (x_3 : Int),
                                        r = Value.int IntKind.u64 x_3 ∧
                                          ∃ (x_4 : Int),
                                            h'.cell b_2 (o_1 + 1 + 0) = some (Value.int IntKind.i64 x_4) ∧
                                              C Tryz.prog 73 #[Value.pointer x, Value.int IntKind.i64 (IntKind.i64.wrap (x_4 + iquo IntKind.i64 x_2 8)), Value.int IntKind.i64 (irem x_1 8), Value.int IntKind.u64 x_3] h'
                                                fun (r : Value) (h' : Heap) => ∃ (x : Int), r = Value.int IntKind.i64 x ∧ spare_Bank_say.J2 b n x h' Q) ∧
                              C Tryz.prog 148 #[Value.int IntKind.u64 n] h fun (r : Value) (h' : Heap) =>
                                ∃ (x_2 : Int),
                                  r = Value.int IntKind.u64 x_2 ∧
                                    ∃ (x_3 : Int),
                                      h'.cell b_3 (o_2 + 4) = some (Value.int IntKind.i64 x_3) ∧
                                        ∃ (x_4 : Int),
                                          h'.cell b_2 (o_1 + 1 + 0) = some (Value.int IntKind.i64 x_4) ∧
                                            C Tryz.prog 73 #[Value.pointer x, Value.int IntKind.i64 (IntKind.i64.wrap (x_4 + iquo IntKind.i64 x_3 8)), Value.int IntKind.i64 (irem x_1 8), Value.int IntKind.u64 x_2] h'
                                              fun (r : Value) (h' : Heap) => ∃ (x : Int), r = Value.int IntKind.i64 x ∧ spare_Bank_say.J2 b n x h' Q) ∧
                      C Tryz.prog 148 #[Value.int IntKind.u64 n] h fun (r : Value) (h' : Heap) =>
                        ∃ (x_1 : Int),
                          r = Value.int IntKind.u64 x_1 ∧
                            (∃ (x_2 : Int),
                                h'.cell b_2 (o_1 + 1 + 0) = some (Value.int IntKind.i64 x_2) ∧
                                  (∃ (x_3 : Int),
                                      h'.cell b_3 (o_2 + 4) = some (Value.int IntKind.i64 x_3) ∧
                                        ∃ (x_4 : Int),
                                          h'.cell b_4 (o_3 + 4) = some (Value.int IntKind.i64 x_4) ∧
                                            C Tryz.prog 73 #[Value.pointer x, Value.int IntKind.i64 (IntKind.i64.wrap (x_2 + iquo IntKind.i64 x_3 8)), Value.int IntKind.i64 (irem x_4 8), Value.int IntKind.u64 x_1] h'
                                              fun (r : Value) (h' : Heap) => ∃ (x : Int), r = Value.int IntKind.i64 x ∧ spare_Bank_say.J2 b n x h' Q) ∧
                                    ∃ (x_3 : Int),
                                      h'.cell b_4 (o_3 + 4) = some (Value.int IntKind.i64 x_3) ∧
                                        ∃ (x_4 : Int),
                                          h'.cell b_3 (o_2 + 4) = some (Value.int IntKind.i64 x_4) ∧
                                            C Tryz.prog 73 #[Value.pointer x, Value.int IntKind.i64 (IntKind.i64.wrap (x_2 + iquo IntKind.i64 x_4 8)), Value.int IntKind.i64 (irem x_3 8), Value.int IntKind.u64 x_1] h'
                                              fun (r : Value) (h' : Heap) => ∃ (x : Int), r = Value.int IntKind.i64 x ∧ spare_Bank_say.J2 b n x h' Q) ∧
                              (∃ (x_2 : Int),
                                  h'.cell b_3 (o_2 + 4) = some (Value.int IntKind.i64 x_2) ∧
                                    (∃ (x_3 : Int),
                                        h'.cell b_2 (o_1 + 1 + 0) = some (Value.int IntKind.i64 x_3) ∧
                                          ∃ (x_4 : Int),
                                            h'.cell b_4 (o_3 + 4) = some (Value.int IntKind.i64 x_4) ∧
                                              C Tryz.prog 73 #[Value.pointer x, Value.int IntKind.i64 (IntKind.i64.wrap (x_3 + iquo IntKind.i64 x_2 8)), Value.int IntKind.i64 (irem x_4 8), Value.int IntKind.u64 x_1] h'
                                                fun (r : Value) (h' : Heap) => ∃ (x : Int), r = Value.int IntKind.i64 x ∧ spare_Bank_say.J2 b n x h' Q) ∧
                                      ∃ (x_3 : Int),
                                        h'.cell b_4 (o_3 + 4) = some (Value.int IntKind.i64 x_3) ∧
                                          ∃ (x_4 : Int),
                                            h'.cell b_2 (o_1 + 1 + 0) = some (Value.int IntKind.i64 x_4) ∧
                                              C Tryz.prog 73 #[Value.pointer x, Value.int IntKind.i64 (IntKind.i64.wrap (x_4 + iquo IntKind.i64 x_2 8)), Value.int IntKind.i64 (irem x_3 8), Value.int IntKind.u64 x_1] h'
                                                fun (r : Value) (h' : Heap) => ∃ (x : Int), r = Value.int IntKind.i64 x ∧ spare_Bank_say.J2 b n x h' Q) ∧
                                ∃ (x_2 : Int),
                                  h'.cell b_4 (o_3 + 4) = some (Value.int IntKind.i64 x_2) ∧
                                    ∃ (x_3 : Int),
                                      h'.cell b_3 (o_2 + 4) = some (Value.int IntKind.i64 x_3) ∧
                                        ∃ (x_4 : Int),
                                          h'.cell b_2 (o_1 + 1 + 0) = some (Value.int IntKind.i64 x_4) ∧
                                            C Tryz.prog 73 #[Value.pointer x, Value.int IntKind.i64 (IntKind.i64.wrap (x_4 + iquo IntKind.i64 x_3 8)), Value.int IntKind.i64 (irem x_2 8), Value.int IntKind.u64 x_1] h'
                                              fun (r : Value) (h' : Heap) => ∃ (x : Int), r = Value.int IntKind.i64 x ∧ spare_Bank_say.J2 b n x h' Q) ∧
            (∃ (x : Int),
                h.cell b_2 (o_1 + 1 + 0) = some (Value.int IntKind.i64 x) ∧
                  (∃ (x_1 : Option Addr),
                      h.cell b_1 (o + 0) = some (Value.pointer x_1) ∧
                        (∃ (x_2 : Int),
                            h.cell b_3 (o_2 + 4) = some (Value.int IntKind.i64 x_2) ∧
                              (∃ (x_3 : Int),
                                  h.cell b_4 (o_3 + 4) = some (Value.int IntKind.i64 x_3) ∧
                                    C Tryz.prog 148 #[Value.int IntKind.u64 n] h fun (r : Value) (h' : Heap) =>
                                      ∃ (x_4 : Int),
                                        r = Value.int IntKind.u64 x_4 ∧
                                          C Tryz.prog 73 #[Value.pointer x_1, Value.int IntKind.i64 (IntKind.i64.wrap (x + iquo IntKind.i64 x_2 8)), Value.int IntKind.i64 (irem x_3 8), Value.int IntKind.u64 x_4] h'
                                            fun (r : Value) (h' : Heap) => ∃ (x : Int), r = Value.int IntKind.i64 x ∧ spare_Bank_say.J2 b n x h' Q) ∧
                                C Tryz.prog 148 #[Value.int IntKind.u64 n] h fun (r : Value) (h' : Heap) =>
                                  ∃ (x_3 : Int),
                                    r = Value.int IntKind.u64 x_3 ∧
                                      ∃ (x_4 : Int),
                                        h'.cell b_4 (o_3 + 4) = some (Value.int IntKind.i64 x_4) ∧
                                          C Tryz.prog 73 #[Value.pointer x_1, Value.int IntKind.i64 (IntKind.i64.wrap (x + iquo IntKind.i64 x_2 8)), Value.int IntKind.i64 (irem x_4 8), Value.int IntKind.u64 x_3] h'
                                            fun (r : Value) (h' : Heap) => ∃ (x : Int), r = Value.int IntKind.i64 x ∧ spare_Bank_say.J2 b n x h' Q) ∧
                          (∃ (x_2 : Int),
                              h.cell b_4 (o_3 + 4) = some (Value.int IntKind.i64 x_2) ∧
                                (∃ (x_3 : Int),
                                    h.cell b_3 (o_2 + 4) = some (Value.int IntKind.i64 x_3) ∧
                                      C Tryz.prog 148 #[Value.int IntKind.u64 n] h fun (r : Value) (h' : Heap) =>
                                        ∃ (x_4 : Int),
                                          r = Value.int IntKind.u64 x_4 ∧
                                            C Tryz.prog 73 #[Value.pointer x_1, Value.int IntKind.i64 (IntKind.i64.wrap (x + iquo IntKind.i64 x_3 8)), Value.int IntKind.i64 (irem x_2 8), Value.int IntKind.u64 x_4] h'
                                              fun (r : Value) (h' : Heap) => ∃ (x : Int), r = Value.int IntKind.i64 x ∧ spare_Bank_say.J2 b n x h' Q) ∧
                                  C Tryz.prog 148 #[Value.int IntKind.u64 n] h fun (r : Value) (h' : Heap) =>
                                    ∃ (x_3 : Int),
                                      r = Value.int IntKind.u64 x_3 ∧
                                        ∃ (x_4 : Int),
                                          h'.cell b_3 (o_2 + 4) = some (Value.int IntKind.i64 x_4) ∧
                                            C Tryz.prog 73 #[Value.pointer x_1, Value.int IntKind.i64 (IntKind.i64.wrap (x + iquo IntKind.i64 x_4 8)), Value.int IntKind.i64 (irem x_2 8), Value.int IntKind.u64 x_3] h'
                                              fun (r : Value) (h' : Heap) => ∃ (x : Int), r = Value.int IntKind.i64 x ∧ spare_Bank_say.J2 b n x h' Q) ∧
                            C Tryz.prog 148 #[Value.int IntKind.u64 n] h fun (r : Value) (h' : Heap) =>
                              ∃ (x_2 : Int),
                                r = Value.int IntKind.u64 x_2 ∧
                                  (∃ (x_3 : Int),
                                      h'.cell b_3 (o_2 + 4) = some (Value.int IntKind.i64 x_3) ∧
                                        ∃ (x_4 : Int),
                                          h'.cell b_4 (o_3 + 4) = some (Value.int IntKind.i64 x_4) ∧
                                            C Tryz.prog 73 #[Value.pointer x_1, Value.int IntKind.i64 (IntKind.i64.wrap (x + iquo IntKind.i64 x_3 8)), Value.int IntKind.i64 (irem x_4 8), Value.int IntKind.u64 x_2] h'
                                              fun (r : Value) (h' : Heap) => ∃ (x : Int), r = Value.int IntKind.i64 x ∧ spare_Bank_say.J2 b n x h' Q) ∧
                                    ∃ (x_3 : Int),
                                      h'.cell b_4 (o_3 + 4) = some (Value.int IntKind.i64 x_3) ∧
                                        ∃ (x_4 : Int),
                                          h'.cell b_3 (o_2 + 4) = some (Value.int IntKind.i64 x_4) ∧
                                            C Tryz.prog 73 #[Value.pointer x_1, Value.int IntKind.i64 (IntKind.i64.wrap (x + iquo IntKind.i64 x_4 8)), Value.int IntKind.i64 (irem x_3 8), Value.int IntKind.u64 x_2] h'
                                              fun (r : Value) (h' : Heap) => ∃ (x : Int), r = Value.int IntKind.i64 x ∧ spare_Bank_say.J2 b n x h' Q) ∧
                    (∃ (x_1 : Int),
                        h.cell b_3 (o_2 + 4) = some (Value.int IntKind.i64 x_1) ∧
                          (∃ (x_2 : Option Addr),
                              h.cell b_1 (o + 0) = some (Value.pointer x_2) ∧
                                (∃ (x_3 : Int),
                                    h.cell b_4 (o_3 + 4) = some (Value.int IntKind.i64 x_3) ∧
                                      C Tryz.prog 148 #[Value.int IntKind.u64 n] h fun (r : Value) (h' : Heap) =>
                                        ∃ (x_4 : Int),
                                          r = Value.int IntKind.u64 x_4 ∧
                                            C Tryz.prog 73 #[Value.pointer x_2, Value.int IntKind.i64 (IntKind.i64.wrap (x + iquo IntKind.i64 x_1 8)), Value.int IntKind.i64 (irem x_3 8), Value.int IntKind.u64 x_4] h'
                                              fun (r : Value) (h' : Heap) => ∃ (x : Int), r = Value.int IntKind.i64 x ∧ spare_Bank_say.J2 b n x h' Q) ∧
                                  C Tryz.prog 148 #[Value.int IntKind.u64 n] h fun (r : Value) (h' : Heap) =>
                                    ∃ (x_3 : Int),
                                      r = Value.int IntKind.u64 x_3 ∧
                                        ∃ (x_4 : Int),
                                          h'.cell b_4 (o_3 + 4) = some (Value.int IntKind.i64 x_4) ∧
                                            C Tryz.prog 73 #[Value.pointer x_2, Value.int IntKind.i64 (IntKind.i64.wrap (x + iquo IntKind.i64 x_1 8)), Value.int IntKind.i64 (irem x_4 8), Value.int IntKind.u64 x_3] h'
                                              fun (r : Value) (h' : Heap) => ∃ (x : Int), r = Value.int IntKind.i64 x ∧ spare_Bank_say.J2 b n x h' Q) ∧
                            (∃ (x_2 : Int),
                                h.cell b_4 (o_3 + 4) = some (Value.int IntKind.i64 x_2) ∧
                                  (∃ (x_3 : Option Addr),
                                      h.cell b_1 (o + 0) = some (Value.pointer x_3) ∧
                                        C Tryz.prog 148 #[Value.int IntKind.u64 n] h fun (r : Value) (h' : Heap) =>
                                          ∃ (x_4 : Int),
                                            r = Value.int IntKind.u64 x_4 ∧
                                              C Tryz.prog 73 #[Value.pointer x_3, Value.int IntKind.i64 (IntKind.i64.wrap (x + iquo IntKind.i64 x_1 8)), Value.int IntKind.i64 (irem x_2 8), Value.int IntKind.u64 x_4] h'
                                                fun (r : Value) (h' : Heap) => ∃ (x : Int), r = Value.int IntKind.i64 x ∧ spare_Bank_say.J2 b n x h' Q) ∧
                                    C Tryz.prog 148 #[Value.int IntKind.u64 n] h fun (r : Value) (h' : Heap) =>
                                      ∃ (x_3 : Int),
                                        r = Value.int IntKind.u64 x_3 ∧
                                          ∃ (x_4 : Option Addr),
                                            h'.cell b_1 (o + 0) = some (Value.pointer x_4) ∧
                                              C Tryz.prog 73 #[Value.pointer x_4, Value.int IntKind.i64 (IntKind.i64.wrap (x + iquo IntKind.i64 x_1 8)), Value.int IntKind.i64 (irem x_2 8), Value.int IntKind.u64 x_3] h'
                                                fun (r : Value) (h' : Heap) => ∃ (x : Int), r = Value.int IntKind.i64 x ∧ spare_Bank_say.J2 b n x h' Q) ∧
                              C Tryz.prog 148 #[Value.int IntKind.u64 n] h fun (r : Value) (h' : Heap) =>
                                ∃ (x_2 : Int),
                                  r = Value.int IntKind.u64 x_2 ∧
                                    ∃ (x_3 : Int),
                                      h'.cell b_4 (o_3 + 4) = some (Value.int IntKind.i64 x_3) ∧
                                        ∃ (x_4 : Option Addr),
                                          h'.cell b_1 (o + 0) = some (Value.pointer x_4) ∧
                                            C Tryz.prog 73 #[Value.pointer x_4, Value.int IntKind.i64 (IntKind.i64.wrap (x + iquo IntKind.i64 x_1 8)), Value.int IntKind.i64 (irem x_3 8), Value.int IntKind.u64 x_2] h'
                                              fun (r : Value) (h' : Heap) => ∃ (x : Int), r = Value.int IntKind.i64 x ∧ spare_Bank_say.J2 b n x h' Q) ∧
                      (∃ (x_1 : Int),
                          h.cell b_4 (o_3 + 4) = some (Value.int IntKind.i64 x_1) ∧
                            (∃ (x_2 : Option Addr),
                                h.cell b_1 (o + 0) = some (Value.pointer x_2) ∧
                                  (∃ (x_3 : Int),
                                      h.cell b_3 (o_2 + 4) = some (Value.int IntKind.i64 x_3) ∧
                                        C Tryz.prog 148 #[Value.int IntKind.u64 n] h fun (r : Value) (h' : Heap) =>
                                          ∃ (x_4 : Int),
                                            r = Value.int IntKind.u64 x_4 ∧
                                              C Tryz.prog 73 #[Value.pointer x_2, Value.int IntKind.i64 (IntKind.i64.wrap (x + iquo IntKind.i64 x_3 8)), Value.int IntKind.i64 (irem x_1 8), Value.int IntKind.u64 x_4] h'
                                                fun (r : Value) (h' : Heap) => ∃ (x : Int), r = Value.int IntKind.i64 x ∧ spare_Bank_say.J2 b n x h' Q) ∧
                                    C Tryz.prog 148 #[Value.int IntKind.u64 n] h fun (r : Value) (h' : Heap) =>
                                      ∃ (x_3 : Int),
                                        r = Value.int IntKind.u64 x_3 ∧
                                          ∃ (x_4 : Int),
                                            h'.cell b_3 (o_2 + 4) = some (Value.int IntKind.i64 x_4) ∧
                                              C Tryz.prog 73 #[Value.pointer x_2, Value.int IntKind.i64 (IntKind.i64.wrap (x + iquo IntKind.i64 x_4 8)), Value.int IntKind.i64 (irem x_1 8), Value.int IntKind.u64 x_3] h'
                                                fun (r : Value) (h' : Heap) => ∃ (x : Int), r = Value.int IntKind.i64 x ∧ spare_Bank_say.J2 b n x h' Q) ∧
                              (∃ (x_2 : Int),
                                  h.cell b_3 (o_2 + 4) = some (Value.int IntKind.i64 x_2) ∧
                                    (∃ (x_3 : Option Addr),
                                        h.cell b_1 (o + 0) = some (Value.pointer x_3) ∧
                                          C Tryz.prog 148 #[Value.int IntKind.u64 n] h fun (r : Value) (h' : Heap) =>
                                            ∃ (x_4 : Int),
                                              r = Value.int IntKind.u64 x_4 ∧
                                                C Tryz.prog 73 #[Value.pointer x_3, Value.int IntKind.i64 (IntKind.i64.wrap (x + iquo IntKind.i64 x_2 8)), Value.int IntKind.i64 (irem x_1 8), Value.int IntKind.u64 x_4] h'
                                                  fun (r : Value) (h' : Heap) => ∃ (x : Int), r = Value.int IntKind.i64 x ∧ spare_Bank_say.J2 b n x h' Q) ∧
                                      C Tryz.prog 148 #[Value.int IntKind.u64 n] h fun (r : Value) (h' : Heap) =>
                                        ∃ (x_3 : Int),
                                          r = Value.int IntKind.u64 x_3 ∧
                                            ∃ (x_4 : Option Addr),
                                              h'.cell b_1 (o + 0) = some (Value.pointer x_4) ∧
                                                C Tryz.prog 73 #[Value.pointer x_4, Value.int IntKind.i64 (IntKind.i64.wrap (x + iquo IntKind.i64 x_2 8)), Value.int IntKind.i64 (irem x_1 8), Value.int IntKind.u64 x_3] h'
                                                  fun (r : Value) (h' : Heap) => ∃ (x : Int), r = Value.int IntKind.i64 x ∧ spare_Bank_say.J2 b n x h' Q) ∧
                                C Tryz.prog 148 #[Value.int IntKind.u64 n] h fun (r : Value) (h' : Heap) =>
                                  ∃ (x_2 : Int),
                                    r = Value.int IntKind.u64 x_2 ∧
                                      ∃ (x_3 : Int),
                                        h'.cell b_3 (o_2 + 4) = some (Value.int IntKind.i64 x_3) ∧
                                          ∃ (x_4 : Option Addr),
                                            h'.cell b_1 (o + 0) = some (Value.pointer x_4) ∧
                                              C Tryz.prog 73 #[Value.pointer x_4, Value.int IntKind.i64 (IntKind.i64.wrap (x + iquo IntKind.i64 x_3 8)), Value.int IntKind.i64 (irem x_1 8), Value.int IntKind.u64 x_2] h'
                                                fun (r : Value) (h' : Heap) => ∃ (x : Int), r = Value.int IntKind.i64 x ∧ spare_Bank_say.J2 b n x h' Q) ∧
                        C Tryz.prog 148 #[Value.int IntKind.u64 n] h fun (r : Value) (h' : Heap) =>
                          ∃ (x_1 : Int),
                            r = Value.int IntKind.u64 x_1 ∧
                              (∃ (x_2 : Option Addr),
                                  h'.cell b_1 (o + 0) = some (Value.pointer x_2) ∧
                                    (∃ (x_3 : Int),
                                        h'.cell b_3 (o_2 + 4) = some (Value.int IntKind.i64 x_3) ∧
                                          ∃ (x_4 : Int),
                                            h'.cell b_4 (o_3 + 4) = some (Value.int IntKind.i64 x_4) ∧
                                              C Tryz.prog 73 #[Value.pointer x_2, Value.int IntKind.i64 (IntKind.i64.wrap (x + iquo IntKind.i64 x_3 8)), Value.int IntKind.i64 (irem x_4 8), Value.int IntKind.u64 x_1] h'
                                                fun (r : Value) (h' : Heap) => ∃ (x : Int), r = Value.int IntKind.i64 x ∧ spare_Bank_say.J2 b n x h' Q) ∧
                                      ∃ (x_3 : Int),
                                        h'.cell b_4 (o_3 + 4) = some (Value.int IntKind.i64 x_3) ∧
                                          ∃ (x_4 : Int),
                                            h'.cell b_3 (o_2 + 4) = some (Value.int IntKind.i64 x_4) ∧
                                              C Tryz.prog 73 #[Value.pointer x_2, Value.int IntKind.i64 (IntKind.i64.wrap (x + iquo IntKind.i64 x_4 8)), Value.int IntKind.i64 (irem x_3 8), Value.int IntKind.u64 x_1] h'
                                                fun (r : Value) (h' : Heap) => ∃ (x : Int), r = Value.int IntKind.i64 x ∧ spare_Bank_say.J2 b n x h' Q) ∧
                                (∃ (x_2 : Int),
                                    h'.cell b_3 (o_2 + 4) = some (Value.int IntKind.i64 x_2) ∧
                                      ∃ (x_3 : Int),
                                        h'.cell b_4 (o_3 + 4) = some (Value.int IntKind.i64 x_3) ∧
                                          ∃ (x_4 : Option Addr),
                                            h'.cell b_1 (o + 0) = some (Value.pointer x_4) ∧
                                              C Tryz.prog 73 #[Value.pointer x_4, Value.int IntKind.i64 (IntKind.i64.wrap (x + iquo IntKind.i64 x_2 8)), Value.int IntKind.i64 (irem x_3 8), Value.int IntKind.u64 x_1] h'
                                                fun (r : Value) (h' : Heap) => ∃ (x : Int), r = Value.int IntKind.i64 x ∧ spare_Bank_say.J2 b n x h' Q) ∧
                                  ∃ (x_2 : Int),
                                    h'.cell b_4 (o_3 + 4) = some (Value.int IntKind.i64 x_2) ∧
                                      ∃ (x_3 : Int),
                                        h'.cell b_3 (o_2 + 4) = some (Value.int IntKind.i64 x_3) ∧
                                          ∃ (x_4 : Option Addr),
                                            h'.cell b_1 (o + 0) = some (Value.pointer x_4) ∧
                                              C Tryz.prog 73 #[Value.pointer x_4, Value.int IntKind.i64 (IntKind.i64.wrap (x + iquo IntKind.i64 x_3 8)), Value.int IntKind.i64 (irem x_2 8), Value.int IntKind.u64 x_1] h'
                                                fun (r : Value) (h' : Heap) => ∃ (x : Int), r = Value.int IntKind.i64 x ∧ spare_Bank_say.J2 b n x h' Q) ∧
              (∃ (x : Int),
                  h.cell b_3 (o_2 + 4) = some (Value.int IntKind.i64 x) ∧
                    (∃ (x_1 : Option Addr),
                        h.cell b_1 (o + 0) = some (Value.pointer x_1) ∧
                          (∃ (x_2 : Int),
                              h.cell b_2 (o_1 + 1 + 0) = some (Value.int IntKind.i64 x_2) ∧
                                (∃ (x_3 : Int),
                                    h.cell b_4 (o_3 + 4) = some (Value.int IntKind.i64 x_3) ∧
                                      C Tryz.prog 148 #[Value.int IntKind.u64 n] h fun (r : Value) (h' : Heap) =>
                                        ∃ (x_4 : Int),
                                          r = Value.int IntKind.u64 x_4 ∧
                                            C Tryz.prog 73 #[Value.pointer x_1, Value.int IntKind.i64 (IntKind.i64.wrap (x_2 + iquo IntKind.i64 x 8)), Value.int IntKind.i64 (irem x_3 8), Value.int IntKind.u64 x_4] h'
                                              fun (r : Value) (h' : Heap) => ∃ (x : Int), r = Value.int IntKind.i64 x ∧ spare_Bank_say.J2 b n x h' Q) ∧
                                  C Tryz.prog 148 #[Value.int IntKind.u64 n] h fun (r : Value) (h' : Heap) =>
                                    ∃ (x_3 : Int),
                                      r = Value.int IntKind.u64 x_3 ∧
                                        ∃ (x_4 : Int),
                                          h'.cell b_4 (o_3 + 4) = some (Value.int IntKind.i64 x_4) ∧
                                            C Tryz.prog 73 #[Value.pointer x_1, Value.int IntKind.i64 (IntKind.i64.wrap (x_2 + iquo IntKind.i64 x 8)), Value.int IntKind.i64 (irem x_4 8), Value.int IntKind.u64 x_3] h'
                                              fun (r : Value) (h' : Heap) => ∃ (x : Int), r = Value.int IntKind.i64 x ∧ spare_Bank_say.J2 b n x h' Q) ∧
                            (∃ (x_2 : Int),
                                h.cell b_4 (o_3 + 4) = some (Value.int IntKind.i64 x_2) ∧
                                  (∃ (x_3 : Int),
                                      h.cell b_2 (o_1 + 1 + 0) = some (Value.int IntKind.i64 x_3) ∧
                                        C Tryz.prog 148 #[Value.int IntKind.u64 n] h fun (r : Value) (h' : Heap) =>
                                          ∃ (x_4 : Int),
                                            r = Value.int IntKind.u64 x_4 ∧
                                              C Tryz.prog 73 #[Value.pointer x_1, Value.int IntKind.i64 (IntKind.i64.wrap (x_3 + iquo IntKind.i64 x 8)), Value.int IntKind.i64 (irem x_2 8), Value.int IntKind.u64 x_4] h'
                                                fun (r : Value) (h' : Heap) => ∃ (x : Int), r = Value.int IntKind.i64 x ∧ spare_Bank_say.J2 b n x h' Q) ∧
                                    C Tryz.prog 148 #[Value.int IntKind.u64 n] h fun (r : Value) (h' : Heap) =>
                                      ∃ (x_3 : Int),
                                        r = Value.int IntKind.u64 x_3 ∧
                                          ∃ (x_4 : Int),
                                            h'.cell b_2 (o_1 + 1 + 0) = some (Value.int IntKind.i64 x_4) ∧
                                              C Tryz.prog 73 #[Value.pointer x_1, Value.int IntKind.i64 (IntKind.i64.wrap (x_4 + iquo IntKind.i64 x 8)), Value.int IntKind.i64 (irem x_2 8), Value.int IntKind.u64 x_3] h'
                                                fun (r : Value) (h' : Heap) => ∃ (x : Int), r = Value.int IntKind.i64 x ∧ spare_Bank_say.J2 b n x h' Q) ∧
                              C Tryz.prog 148 #[Value.int IntKind.u64 n] h fun (r : Value) (h' : Heap) =>
                                ∃ (x_2 : Int),
                                  r = Value.int IntKind.u64 x_2 ∧
                                    (∃ (x_3 : Int),
                                        h'.cell b_2 (o_1 + 1 + 0) = some (Value.int IntKind.i64 x_3) ∧
                                          ∃ (x_4 : Int),
                                            h'.cell b_4 (o_3 + 4) = some (Value.int IntKind.i64 x_4) ∧
                                              C Tryz.prog 73 #[Value.pointer x_1, Value.int IntKind.i64 (IntKind.i64.wrap (x_3 + iquo IntKind.i64 x 8)), Value.int IntKind.i64 (irem x_4 8), Value.int IntKind.u64 x_2] h'
                                                fun (r : Value) (h' : Heap) => ∃ (x : Int), r = Value.int IntKind.i64 x ∧ spare_Bank_say.J2 b n x h' Q) ∧
                                      ∃ (x_3 : Int),
                                        h'.cell b_4 (o_3 + 4) = some (Value.int IntKind.i64 x_3) ∧
                                          ∃ (x_4 : Int),
                                            h'.cell b_2 (o_1 + 1 + 0) = some (Value.int IntKind.i64 x_4) ∧
                                              C Tryz.prog 73 #[Value.pointer x_1, Value.int IntKind.i64 (IntKind.i64.wrap (x_4 + iquo IntKind.i64 x 8)), Value.int IntKind.i64 (irem x_3 8), Value.int IntKind.u64 x_2] h'
                                                fun (r : Value) (h' : Heap) => ∃ (x : Int), r = Value.int IntKind.i64 x ∧ spare_Bank_say.J2 b n x h' Q) ∧
                      (∃ (x_1 : Int),
                          h.cell b_2 (o_1 + 1 + 0) = some (Value.int IntKind.i64 x_1) ∧
                            (∃ (x_2 : Option Addr),
                                h.cell b_1 (o + 0) = some (Value.pointer x_2) ∧
                                  (∃ (x_3 : Int),
                                      h.cell b_4 (o_3 + 4) = some (Value.int IntKind.i64 x_3) ∧
                                        C Tryz.prog 148 #[Value.int IntKind.u64 n] h fun (r : Value) (h' : Heap) =>
                                          ∃ (x_4 : Int),
                                            r = Value.int IntKind.u64 x_4 ∧
                                              C Tryz.prog 73 #[Value.pointer x_2, Value.int IntKind.i64 (IntKind.i64.wrap (x_1 + iquo IntKind.i64 x 8)), Value.int IntKind.i64 (irem x_3 8), Value.int IntKind.u64 x_4] h'
                                                fun (r : Value) (h' : Heap) => ∃ (x : Int), r = Value.int IntKind.i64 x ∧ spare_Bank_say.J2 b n x h' Q) ∧
                                    C Tryz.prog 148 #[Value.int IntKind.u64 n] h fun (r : Value) (h' : Heap) =>
                                      ∃ (x_3 : Int),
                                        r = Value.int IntKind.u64 x_3 ∧
                                          ∃ (x_4 : Int),
                                            h'.cell b_4 (o_3 + 4) = some (Value.int IntKind.i64 x_4) ∧
                                              C Tryz.prog 73 #[Value.pointer x_2, Value.int IntKind.i64 (IntKind.i64.wrap (x_1 + iquo IntKind.i64 x 8)), Value.int IntKind.i64 (irem x_4 8), Value.int IntKind.u64 x_3] h'
                                                fun (r : Value) (h' : Heap) => ∃ (x : Int), r = Value.int IntKind.i64 x ∧ spare_Bank_say.J2 b n x h' Q) ∧
                              (∃ (x_2 : Int),
                                  h.cell b_4 (o_3 + 4) = some (Value.int IntKind.i64 x_2) ∧
                                    (∃ (x_3 : Option Addr),
                                        h.cell b_1 (o + 0) = some (Value.pointer x_3) ∧
                                          C Tryz.prog 148 #[Value.int IntKind.u64 n] h fun (r : Value) (h' : Heap) =>
                                            ∃ (x_4 : Int),
                                              r = Value.int IntKind.u64 x_4 ∧
                                                C Tryz.prog 73 #[Value.pointer x_3, Value.int IntKind.i64 (IntKind.i64.wrap (x_1 + iquo IntKind.i64 x 8)), Value.int IntKind.i64 (irem x_2 8), Value.int IntKind.u64 x_4] h'
                                                  fun (r : Value) (h' : Heap) => ∃ (x : Int), r = Value.int IntKind.i64 x ∧ spare_Bank_say.J2 b n x h' Q) ∧
                                      C Tryz.prog 148 #[Value.int IntKind.u64 n] h fun (r : Value) (h' : Heap) =>
                                        ∃ (x_3 : Int),
                                          r = Value.int IntKind.u64 x_3 ∧
                                            ∃ (x_4 : Option Addr),
                                              h'.cell b_1 (o + 0) = some (Value.pointer x_4) ∧
                                                C Tryz.prog 73 #[Value.pointer x_4, Value.int IntKind.i64 (IntKind.i64.wrap (x_1 + iquo IntKind.i64 x 8)), Value.int IntKind.i64 (irem x_2 8), Value.int IntKind.u64 x_3] h'
                                                  fun (r : Value) (h' : Heap) => ∃ (x : Int), r = Value.int IntKind.i64 x ∧ spare_Bank_say.J2 b n x h' Q) ∧
                                C Tryz.prog 148 #[Value.int IntKind.u64 n] h fun (r : Value) (h' : Heap) =>
                                  ∃ (x_2 : Int),
                                    r = Value.int IntKind.u64 x_2 ∧
                                      ∃ (x_3 : Int),
                                        h'.cell b_4 (o_3 + 4) = some (Value.int IntKind.i64 x_3) ∧
                                          ∃ (x_4 : Option Addr),
                                            h'.cell b_1 (o + 0) = some (Value.pointer x_4) ∧
                                              C Tryz.prog 73 #[Value.pointer x_4, Value.int IntKind.i64 (IntKind.i64.wrap (x_1 + iquo IntKind.i64 x 8)), Value.int IntKind.i64 (irem x_3 8), Value.int IntKind.u64 x_2] h'
                                                fun (r : Value) (h' : Heap) => ∃ (x : Int), r = Value.int IntKind.i64 x ∧ spare_Bank_say.J2 b n x h' Q) ∧
                        (∃ (x_1 : Int),
                            h.cell b_4 (o_3 + 4) = some (Value.int IntKind.i64 x_1) ∧
                              (∃ (x_2 : Option Addr),
                                  h.cell b_1 (o + 0) = some (Value.pointer x_2) ∧
                                    (∃ (x_3 : Int),
                                        h.cell b_2 (o_1 + 1 + 0) = some (Value.int IntKind.i64 x_3) ∧
                                          C Tryz.prog 148 #[Value.int IntKind.u64 n] h fun (r : Value) (h' : Heap) =>
                                            ∃ (x_4 : Int),
                                              r = Value.int IntKind.u64 x_4 ∧
                                                C Tryz.prog 73 #[Value.pointer x_2, Value.int IntKind.i64 (IntKind.i64.wrap (x_3 + iquo IntKind.i64 x 8)), Value.int IntKind.i64 (irem x_1 8), Value.int IntKind.u64 x_4] h'
                                                  fun (r : Value) (h' : Heap) => ∃ (x : Int), r = Value.int IntKind.i64 x ∧ spare_Bank_say.J2 b n x h' Q) ∧
                                      C Tryz.prog 148 #[Value.int IntKind.u64 n] h fun (r : Value) (h' : Heap) =>
                                        ∃ (x_3 : Int),
                                          r = Value.int IntKind.u64 x_3 ∧
                                            ∃ (x_4 : Int),
                                              h'.cell b_2 (o_1 + 1 + 0) = some (Value.int IntKind.i64 x_4) ∧
                                                C Tryz.prog 73 #[Value.pointer x_2, Value.int IntKind.i64 (IntKind.i64.wrap (x_4 + iquo IntKind.i64 x 8)), Value.int IntKind.i64 (irem x_1 8), Value.int IntKind.u64 x_3] h'
                                                  fun (r : Value) (h' : Heap) => ∃ (x : Int), r = Value.int IntKind.i64 x ∧ spare_Bank_say.J2 b n x h' Q) ∧
                                (∃ (x_2 : Int),
                                    h.cell b_2 (o_1 + 1 + 0) = some (Value.int IntKind.i64 x_2) ∧
                                      (∃ (x_3 : Option Addr),
                                          h.cell b_1 (o + 0) = some (Value.pointer x_3) ∧
                                            C Tryz.prog 148 #[Value.int IntKind.u64 n] h fun (r : Value) (h' : Heap) =>
                                              ∃ (x_4 : Int),
                                                r = Value.int IntKind.u64 x_4 ∧
                                                  C Tryz.prog 73 #[Value.pointer x_3, Value.int IntKind.i64 (IntKind.i64.wrap (x_2 + iquo IntKind.i64 x 8)), Value.int IntKind.i64 (irem x_1 8), Value.int IntKind.u64 x_4] h'
                                                    fun (r : Value) (h' : Heap) => ∃ (x : Int), r = Value.int IntKind.i64 x ∧ spare_Bank_say.J2 b n x h' Q) ∧
                                        C Tryz.prog 148 #[Value.int IntKind.u64 n] h fun (r : Value) (h' : Heap) =>
                                          ∃ (x_3 : Int),
                                            r = Value.int IntKind.u64 x_3 ∧
                                              ∃ (x_4 : Option Addr),
                                                h'.cell b_1 (o + 0) = some (Value.pointer x_4) ∧
                                                  C Tryz.prog 73 #[Value.pointer x_4, Value.int IntKind.i64 (IntKind.i64.wrap (x_2 + iquo IntKind.i64 x 8)), Value.int IntKind.i64 (irem x_1 8), Value.int IntKind.u64 x_3] h'
                                                    fun (r : Value) (h' : Heap) => ∃ (x : Int), r = Value.int IntKind.i64 x ∧ spare_Bank_say.J2 b n x h' Q) ∧
                                  C Tryz.prog 148 #[Value.int IntKind.u64 n] h fun (r : Value) (h' : Heap) =>
                                    ∃ (x_2 : Int),
                                      r = Value.int IntKind.u64 x_2 ∧
                                        ∃ (x_3 : Int),
                                          h'.cell b_2 (o_1 + 1 + 0) = some (Value.int IntKind.i64 x_3) ∧
                                            ∃ (x_4 : Option Addr),
                                              h'.cell b_1 (o + 0) = some (Value.pointer x_4) ∧
                                                C Tryz.prog 73 #[Value.pointer x_4, Value.int IntKind.i64 (IntKind.i64.wrap (x_3 + iquo IntKind.i64 x 8)), Value.int IntKind.i64 (irem x_1 8), Value.int IntKind.u64 x_2] h'
                                                  fun (r : Value) (h' : Heap) => ∃ (x : Int), r = Value.int IntKind.i64 x ∧ spare_Bank_say.J2 b n x h' Q) ∧
                          C Tryz.prog 148 #[Value.int IntKind.u64 n] h fun (r : Value) (h' : Heap) =>
                            ∃ (x_1 : Int),
                              r = Value.int IntKind.u64 x_1 ∧
                                (∃ (x_2 : Option Addr),
                                    h'.cell b_1 (o + 0) = some (Value.pointer x_2) ∧
                                      (∃ (x_3 : Int),
                                          h'.cell b_2 (o_1 + 1 + 0) = some (Value.int IntKind.i64 x_3) ∧
                                            ∃ (x_4 : Int),
                                              h'.cell b_4 (o_3 + 4) = some (Value.int IntKind.i64 x_4) ∧
                                                C Tryz.prog 73 #[Value.pointer x_2, Value.int IntKind.i64 (IntKind.i64.wrap (x_3 + iquo IntKind.i64 x 8)), Value.int IntKind.i64 (irem x_4 8), Value.int IntKind.u64 x_1] h'
                                                  fun (r : Value) (h' : Heap) => ∃ (x : Int), r = Value.int IntKind.i64 x ∧ spare_Bank_say.J2 b n x h' Q) ∧
                                        ∃ (x_3 : Int),
                                          h'.cell b_4 (o_3 + 4) = some (Value.int IntKind.i64 x_3) ∧
                                            ∃ (x_4 : Int),
                                              h'.cell b_2 (o_1 + 1 + 0) = some (Value.int IntKind.i64 x_4) ∧
                                                C Tryz.prog 73 #[Value.pointer x_2, Value.int IntKind.i64 (IntKind.i64.wrap (x_4 + iquo IntKind.i64 x 8)), Value.int IntKind.i64 (irem x_3 8), Value.int IntKind.u64 x_1] h'
                                                  fun (r : Value) (h' : Heap) => ∃ (x : Int), r = Value.int IntKind.i64 x ∧ spare_Bank_say.J2 b n x h' Q) ∧
                                  (∃ (x_2 : Int),
                                      h'.cell b_2 (o_1 + 1 + 0) = some (Value.int IntKind.i64 x_2) ∧
                                        ∃ (x_3 : Int),
                                          h'.cell b_4 (o_3 + 4) = some (Value.int IntKind.i64 x_3) ∧
                                            ∃ (x_4 : Option Addr),
                                              h'.cell b_1 (o + 0) = some (Value.pointer x_4) ∧
                                                C Tryz.prog 73 #[Value.pointer x_4, Value.int IntKind.i64 (IntKind.i64.wrap (x_2 + iquo IntKind.i64 x 8)), Value.int IntKind.i64 (irem x_3 8), Value.int IntKind.u64 x_1] h'
                                                  fun (r : Value) (h' : Heap) => ∃ (x : Int), r = Value.int IntKind.i64 x ∧ spare_Bank_say.J2 b n x h' Q) ∧
                                    ∃ (x_2 : Int),
                                      h'.cell b_4 (o_3 + 4) = some (Value.int IntKind.i64 x_2) ∧
                                        ∃ (x_3 : Int),
                                          h'.cell b_2 (o_1 + 1 + 0) = some (Value.int IntKind.i64 x_3) ∧
                                            ∃ (x_4 : Option Addr),
                                              h'.cell b_1 (o + 0) = some (Value.pointer x_4) ∧
                                                C Tryz.prog 73 #[Value.pointer x_4, Value.int IntKind.i64 (IntKind.i64.wrap (x_3 + iquo IntKind.i64 x 8)), Value.int IntKind.i64 (irem x_2 8), Value.int IntKind.u64 x_1] h'
                                                  fun (r : Value) (h' : Heap) => ∃ (x : Int), r = Value.int IntKind.i64 x ∧ spare_Bank_say.J2 b n x h' Q) ∧
                (∃ (x : Int),
                    h.cell b_4 (o_3 + 4) = some (Value.int IntKind.i64 x) ∧
                      (∃ (x_1 : Option Addr),
                          h.cell b_1 (o + 0) = some (Value.pointer x_1) ∧
                            (∃ (x_2 : Int),
                                h.cell b_2 (o_1 + 1 + 0) = some (Value.int IntKind.i64 x_2) ∧
                                  (∃ (x_3 : Int),
                                      h.cell b_3 (o_2 + 4) = some (Value.int IntKind.i64 x_3) ∧
                                        C Tryz.prog 148 #[Value.int IntKind.u64 n] h fun (r : Value) (h' : Heap) =>
                                          ∃ (x_4 : Int),
                                            r = Value.int IntKind.u64 x_4 ∧
                                              C Tryz.prog 73 #[Value.pointer x_1, Value.int IntKind.i64 (IntKind.i64.wrap (x_2 + iquo IntKind.i64 x_3 8)), Value.int IntKind.i64 (irem x 8), Value.int IntKind.u64 x_4] h'
                                                fun (r : Value) (h' : Heap) => ∃ (x : Int), r = Value.int IntKind.i64 x ∧ spare_Bank_say.J2 b n x h' Q) ∧
                                    C Tryz.prog 148 #[Value.int IntKind.u64 n] h fun (r : Value) (h' : Heap) =>
                                      ∃ (x_3 : Int),
                                        r = Value.int IntKind.u64 x_3 ∧
                                          ∃ (x_4 : Int),
                                            h'.cell b_3 (o_2 + 4) = some (Value.int IntKind.i64 x_4) ∧
                                              C Tryz.prog 73 #[Value.pointer x_1, Value.int IntKind.i64 (IntKind.i64.wrap (x_2 + iquo IntKind.i64 x_4 8)), Value.int IntKind.i64 (irem x 8), Value.int IntKind.u64 x_3] h'
                                                fun (r : Value) (h' : Heap) => ∃ (x : Int), r = Value.int IntKind.i64 x ∧ spare_Bank_say.J2 b n x h' Q) ∧
                              (∃ (x_2 : Int),
                                  h.cell b_3 (o_2 + 4) = some (Value.int IntKind.i64 x_2) ∧
                                    (∃ (x_3 : Int),
                                        h.cell b_2 (o_1 + 1 + 0) = some (Value.int IntKind.i64 x_3) ∧
                                          C Tryz.prog 148 #[Value.int IntKind.u64 n] h fun (r : Value) (h' : Heap) =>
                                            ∃ (x_4 : Int),
                                              r = Value.int IntKind.u64 x_4 ∧
                                                C Tryz.prog 73 #[Value.pointer x_1, Value.int IntKind.i64 (IntKind.i64.wrap (x_3 + iquo IntKind.i64 x_2 8)), Value.int IntKind.i64 (irem x 8), Value.int IntKind.u64 x_4] h'
                                                  fun (r : Value) (h' : Heap) => ∃ (x : Int), r = Value.int IntKind.i64 x ∧ spare_Bank_say.J2 b n x h' Q) ∧
                                      C Tryz.prog 148 #[Value.int IntKind.u64 n] h fun (r : Value) (h' : Heap) =>
                                        ∃ (x_3 : Int),
                                          r = Value.int IntKind.u64 x_3 ∧
                                            ∃ (x_4 : Int),
                                              h'.cell b_2 (o_1 + 1 + 0) = some (Value.int IntKind.i64 x_4) ∧
                                                C Tryz.prog 73 #[Value.pointer x_1, Value.int IntKind.i64 (IntKind.i64.wrap (x_4 + iquo IntKind.i64 x_2 8)), Value.int IntKind.i64 (irem x 8), Value.int IntKind.u64 x_3] h'
                                                  fun (r : Value) (h' : Heap) => ∃ (x : Int), r = Value.int IntKind.i64 x ∧ spare_Bank_say.J2 b n x h' Q) ∧
                                C Tryz.prog 148 #[Value.int IntKind.u64 n] h fun (r : Value) (h' : Heap) =>
                                  ∃ (x_2 : Int),
                                    r = Value.int IntKind.u64 x_2 ∧
                                      ∃ (x_3 : Int),
                                        h'.cell b_3 (o_2 + 4) = some (Value.int IntKind.i64 x_3) ∧
                                          ∃ (x_4 : Int),
                                            h'.cell b_2 (o_1 + 1 + 0) = some (Value.int IntKind.i64 x_4) ∧
                                              C Tryz.prog 73 #[Value.pointer x_1, Value.int IntKind.i64 (IntKind.i64.wrap (x_4 + iquo IntKind.i64 x_3 8)), Value.int IntKind.i64 (irem x 8), Value.int IntKind.u64 x_2] h'
                                                fun (r : Value) (h' : Heap) => ∃ (x : Int), r = Value.int IntKind.i64 x ∧ spare_Bank_say.J2 b n x h' Q) ∧
                        (∃ (x_1 : Int),
                            h.cell b_2 (o_1 + 1 + 0) = some (Value.int IntKind.i64 x_1) ∧
                              (∃ (x_2 : Option Addr),
                                  h.cell b_1 (o + 0) = some (Value.pointer x_2) ∧
                                    (∃ (x_3 : Int),
                                        h.cell b_3 (o_2 + 4) = some (Value.int IntKind.i64 x_3) ∧
                                          C Tryz.prog 148 #[Value.int IntKind.u64 n] h fun (r : Value) (h' : Heap) =>
                                            ∃ (x_4 : Int),
                                              r = Value.int IntKind.u64 x_4 ∧
                                                C Tryz.prog 73 #[Value.pointer x_2, Value.int IntKind.i64 (IntKind.i64.wrap (x_1 + iquo IntKind.i64 x_3 8)), Value.int IntKind.i64 (irem x 8), Value.int IntKind.u64 x_4] h'
                                                  fun (r : Value) (h' : Heap) => ∃ (x : Int), r = Value.int IntKind.i64 x ∧ spare_Bank_say.J2 b n x h' Q) ∧
                                      C Tryz.prog 148 #[Value.int IntKind.u64 n] h fun (r : Value) (h' : Heap) =>
                                        ∃ (x_3 : Int),
                                          r = Value.int IntKind.u64 x_3 ∧
                                            ∃ (x_4 : Int),
                                              h'.cell b_3 (o_2 + 4) = some (Value.int IntKind.i64 x_4) ∧
                                                C Tryz.prog 73 #[Value.pointer x_2, Value.int IntKind.i64 (IntKind.i64.wrap (x_1 + iquo IntKind.i64 x_4 8)), Value.int IntKind.i64 (irem x 8), Value.int IntKind.u64 x_3] h'
                                                  fun (r : Value) (h' : Heap) => ∃ (x : Int), r = Value.int IntKind.i64 x ∧ spare_Bank_say.J2 b n x h' Q) ∧
                                (∃ (x_2 : Int),
                                    h.cell b_3 (o_2 + 4) = some (Value.int IntKind.i64 x_2) ∧
                                      (∃ (x_3 : Option Addr),
                                          h.cell b_1 (o + 0) = some (Value.pointer x_3) ∧
                                            C Tryz.prog 148 #[Value.int IntKind.u64 n] h fun (r : Value) (h' : Heap) =>
                                              ∃ (x_4 : Int),
                                                r = Value.int IntKind.u64 x_4 ∧
                                                  C Tryz.prog 73 #[Value.pointer x_3, Value.int IntKind.i64 (IntKind.i64.wrap (x_1 + iquo IntKind.i64 x_2 8)), Value.int IntKind.i64 (irem x 8), Value.int IntKind.u64 x_4] h'
                                                    fun (r : Value) (h' : Heap) => ∃ (x : Int), r = Value.int IntKind.i64 x ∧ spare_Bank_say.J2 b n x h' Q) ∧
                                        C Tryz.prog 148 #[Value.int IntKind.u64 n] h fun (r : Value) (h' : Heap) =>
                                          ∃ (x_3 : Int),
                                            r = Value.int IntKind.u64 x_3 ∧
                                              ∃ (x_4 : Option Addr),
                                                h'.cell b_1 (o + 0) = some (Value.pointer x_4) ∧
                                                  C Tryz.prog 73 #[Value.pointer x_4, Value.int IntKind.i64 (IntKind.i64.wrap (x_1 + iquo IntKind.i64 x_2 8)), Value.int IntKind.i64 (irem x 8), Value.int IntKind.u64 x_3] h'
                                                    fun (r : Value) (h' : Heap) => ∃ (x : Int), r = Value.int IntKind.i64 x ∧ spare_Bank_say.J2 b n x h' Q) ∧
                                  C Tryz.prog 148 #[Value.int IntKind.u64 n] h fun (r : Value) (h' : Heap) =>
                                    ∃ (x_2 : Int),
                                      r = Value.int IntKind.u64 x_2 ∧
                                        ∃ (x_3 : Int),
                                          h'.cell b_3 (o_2 + 4) = some (Value.int IntKind.i64 x_3) ∧
                                            ∃ (x_4 : Option Addr),
                                              h'.cell b_1 (o + 0) = some (Value.pointer x_4) ∧
                                                C Tryz.prog 73 #[Value.pointer x_4, Value.int IntKind.i64 (IntKind.i64.wrap (x_1 + iquo IntKind.i64 x_3 8)), Value.int IntKind.i64 (irem x 8), Value.int IntKind.u64 x_2] h'
                                                  fun (r : Value) (h' : Heap) => ∃ (x : Int), r = Value.int IntKind.i64 x ∧ spare_Bank_say.J2 b n x h' Q) ∧
                          (∃ (x_1 : Int),
                              h.cell b_3 (o_2 + 4) = some (Value.int IntKind.i64 x_1) ∧
                                (∃ (x_2 : Option Addr),
                                    h.cell b_1 (o + 0) = some (Value.pointer x_2) ∧
                                      (∃ (x_3 : Int),
                                          h.cell b_2 (o_1 + 1 + 0) = some (Value.int IntKind.i64 x_3) ∧
                                            C Tryz.prog 148 #[Value.int IntKind.u64 n] h fun (r : Value) (h' : Heap) =>
                                              ∃ (x_4 : Int),
                                                r = Value.int IntKind.u64 x_4 ∧
                                                  C Tryz.prog 73 #[Value.pointer x_2, Value.int IntKind.i64 (IntKind.i64.wrap (x_3 + iquo IntKind.i64 x_1 8)), Value.int IntKind.i64 (irem x 8), Value.int IntKind.u64 x_4] h'
                                                    fun (r : Value) (h' : Heap) => ∃ (x : Int), r = Value.int IntKind.i64 x ∧ spare_Bank_say.J2 b n x h' Q) ∧
                                        C Tryz.prog 148 #[Value.int IntKind.u64 n] h fun (r : Value) (h' : Heap) =>
                                          ∃ (x_3 : Int),
                                            r = Value.int IntKind.u64 x_3 ∧
                                              ∃ (x_4 : Int),
                                                h'.cell b_2 (o_1 + 1 + 0) = some (Value.int IntKind.i64 x_4) ∧
                                                  C Tryz.prog 73 #[Value.pointer x_2, Value.int IntKind.i64 (IntKind.i64.wrap (x_4 + iquo IntKind.i64 x_1 8)), Value.int IntKind.i64 (irem x 8), Value.int IntKind.u64 x_3] h'
                                                    fun (r : Value) (h' : Heap) => ∃ (x : Int), r = Value.int IntKind.i64 x ∧ spare_Bank_say.J2 b n x h' Q) ∧
                                  (∃ (x_2 : Int),
                                      h.cell b_2 (o_1 + 1 + 0) = some (Value.int IntKind.i64 x_2) ∧
                                        (∃ (x_3 : Option Addr),
                                            h.cell b_1 (o + 0) = some (Value.pointer x_3) ∧
                                              C Tryz.prog 148 #[Value.int IntKind.u64 n] h fun (r : Value) (h' : Heap) =>
                                                ∃ (x_4 : Int),
                                                  r = Value.int IntKind.u64 x_4 ∧
                                                    C Tryz.prog 73 #[Value.pointer x_3, Value.int IntKind.i64 (IntKind.i64.wrap (x_2 + iquo IntKind.i64 x_1 8)), Value.int IntKind.i64 (irem x 8), Value.int IntKind.u64 x_4] h'
                                                      fun (r : Value) (h' : Heap) => ∃ (x : Int), r = Value.int IntKind.i64 x ∧ spare_Bank_say.J2 b n x h' Q) ∧
                                          C Tryz.prog 148 #[Value.int IntKind.u64 n] h fun (r : Value) (h' : Heap) =>
                                            ∃ (x_3 : Int),
                                              r = Value.int IntKind.u64 x_3 ∧
                                                ∃ (x_4 : Option Addr),
                                                  h'.cell b_1 (o + 0) = some (Value.pointer x_4) ∧
                                                    C Tryz.prog 73 #[Value.pointer x_4, Value.int IntKind.i64 (IntKind.i64.wrap (x_2 + iquo IntKind.i64 x_1 8)), Value.int IntKind.i64 (irem x 8), Value.int IntKind.u64 x_3] h'
                                                      fun (r : Value) (h' : Heap) => ∃ (x : Int), r = Value.int IntKind.i64 x ∧ spare_Bank_say.J2 b n x h' Q) ∧
                                    C Tryz.prog 148 #[Value.int IntKind.u64 n] h fun (r : Value) (h' : Heap) =>
                                      ∃ (x_2 : Int),
                                        r = Value.int IntKind.u64 x_2 ∧
                                          ∃ (x_3 : Int),
                                            h'.cell b_2 (o_1 + 1 + 0) = some (Value.int IntKind.i64 x_3) ∧
                                              ∃ (x_4 : Option Addr),
                                                h'.cell b_1 (o + 0) = some (Value.pointer x_4) ∧
                                                  C Tryz.prog 73 #[Value.pointer x_4, Value.int IntKind.i64 (IntKind.i64.wrap (x_3 + iquo IntKind.i64 x_1 8)), Value.int IntKind.i64 (irem x 8), Value.int IntKind.u64 x_2] h'
                                                    fun (r : Value) (h' : Heap) => ∃ (x : Int), r = Value.int IntKind.i64 x ∧ spare_Bank_say.J2 b n x h' Q) ∧
                            C Tryz.prog 148 #[Value.int IntKind.u64 n] h fun (r : Value) (h' : Heap) =>
                              ∃ (x_1 : Int),
                                r = Value.int IntKind.u64 x_1 ∧
                                  ∃ (x_2 : Int),
                                    h'.cell b_3 (o_2 + 4) = some (Value.int IntKind.i64 x_2) ∧
                                      ∃ (x_3 : Int),
                                        h'.cell b_2 (o_1 + 1 + 0) = some (Value.int IntKind.i64 x_3) ∧
                                          ∃ (x_4 : Option Addr),
                                            h'.cell b_1 (o + 0) = some (Value.pointer x_4) ∧
                                              C Tryz.prog 73 #[Value.pointer x_4, Value.int IntKind.i64 (IntKind.i64.wrap (x_3 + iquo IntKind.i64 x_2 8)), Value.int IntKind.i64 (irem x 8), Value.int IntKind.u64 x_1] h'
                                                fun (r : Value) (h' : Heap) => ∃ (x : Int), r = Value.int IntKind.i64 x ∧ spare_Bank_say.J2 b n x h' Q) ∧
                  C Tryz.prog 148 #[Value.int IntKind.u64 n] h fun (r : Value) (h' : Heap) =>
                    ∃ (x : Int),
                      r = Value.int IntKind.u64 x ∧
                        (∃ (x_1 : Option Addr),
                            h'.cell b_1 (o + 0) = some (Value.pointer x_1) ∧
                              (∃ (x_2 : Int),
                                  h'.cell b_2 (o_1 + 1 + 0) = some (Value.int IntKind.i64 x_2) ∧
                                    (∃ (x_3 : Int),
                                        h'.cell b_3 (o_2 + 4) = some (Value.int IntKind.i64 x_3) ∧
                                          ∃ (x_4 : Int),
                                            h'.cell b_4 (o_3 + 4) = some (Value.int IntKind.i64 x_4) ∧
                                              C Tryz.prog 73 #[Value.pointer x_1, Value.int IntKind.i64 (IntKind.i64.wrap (x_2 + iquo IntKind.i64 x_3 8)), Value.int IntKind.i64 (irem x_4 8), Value.int IntKind.u64 x] h'
                                                fun (r : Value) (h' : Heap) => ∃ (x : Int), r = Value.int IntKind.i64 x ∧ spare_Bank_say.J2 b n x h' Q) ∧
                                      ∃ (x_3 : Int),
                                        h'.cell b_4 (o_3 + 4) = some (Value.int IntKind.i64 x_3) ∧
                                          ∃ (x_4 : Int),
                                            h'.cell b_3 (o_2 + 4) = some (Value.int IntKind.i64 x_4) ∧
                                              C Tryz.prog 73 #[Value.pointer x_1, Value.int IntKind.i64 (IntKind.i64.wrap (x_2 + iquo IntKind.i64 x_4 8)), Value.int IntKind.i64 (irem x_3 8), Value.int IntKind.u64 x] h'
                                                fun (r : Value) (h' : Heap) => ∃ (x : Int), r = Value.int IntKind.i64 x ∧ spare_Bank_say.J2 b n x h' Q) ∧
                                (∃ (x_2 : Int),
                                    h'.cell b_3 (o_2 + 4) = some (Value.int IntKind.i64 x_2) ∧
                                      (∃ (x_3 : Int),
                                          h'.cell b_2 (o_1 + 1 + 0) = some (Value.int IntKind.i64 x_3) ∧
                                            ∃ (x_4 : Int),
                                              h'.cell b_4 (o_3 + 4) = some (Value.int IntKind.i64 x_4) ∧
                                                C Tryz.prog 73 #[Value.pointer x_1, Value.int IntKind.i64 (IntKind.i64.wrap (x_3 + iquo IntKind.i64 x_2 8)), Value.int IntKind.i64 (irem x_4 8), Value.int IntKind.u64 x] h'
                                                  fun (r : Value) (h' : Heap) => ∃ (x : Int), r = Value.int IntKind.i64 x ∧ spare_Bank_say.J2 b n x h' Q) ∧
                                        ∃ (x_3 : Int),
                                          h'.cell b_4 (o_3 + 4) = some (Value.int IntKind.i64 x_3) ∧
                                            ∃ (x_4 : Int),
                                              h'.cell b_2 (o_1 + 1 + 0) = some (Value.int IntKind.i64 x_4) ∧
                                                C Tryz.prog 73 #[Value.pointer x_1, Value.int IntKind.i64 (IntKind.i64.wrap (x_4 + iquo IntKind.i64 x_2 8)), Value.int IntKind.i64 (irem x_3 8), Value.int IntKind.u64 x] h'
                                                  fun (r : Value) (h' : Heap) => ∃ (x : Int), r = Value.int IntKind.i64 x ∧ spare_Bank_say.J2 b n x h' Q) ∧
                                  ∃ (x_2 : Int),
                                    h'.cell b_4 (o_3 + 4) = some (Value.int IntKind.i64 x_2) ∧
                                      ∃ (x_3 : Int),
                                        h'.cell b_3 (o_2 + 4) = some (Value.int IntKind.i64 x_3) ∧
                                          ∃ (x_4 : Int),
                                            h'.cell b_2 (o_1 + 1 + 0) = some (Value.int IntKind.i64 x_4) ∧
                                              C Tryz.prog 73 #[Value.pointer x_1, Value.int IntKind.i64 (IntKind.i64.wrap (x_4 + iquo IntKind.i64 x_3 8)), Value.int IntKind.i64 (irem x_2 8), Value.int IntKind.u64 x] h'
                                                fun (r : Value) (h' : Heap) => ∃ (x : Int), r = Value.int IntKind.i64 x ∧ spare_Bank_say.J2 b n x h' Q) ∧
                          (∃ (x_1 : Int),
                              h'.cell b_2 (o_1 + 1 + 0) = some (Value.int IntKind.i64 x_1) ∧
                                (∃ (x_2 : Option Addr),
                                    h'.cell b_1 (o + 0) = some (Value.pointer x_2) ∧
                                      (∃ (x_3 : Int),
                                          h'.cell b_3 (o_2 + 4) = some (Value.int IntKind.i64 x_3) ∧
                                            ∃ (x_4 : Int),
                                              h'.cell b_4 (o_3 + 4) = some (Value.int IntKind.i64 x_4) ∧
                                                C Tryz.prog 73 #[Value.pointer x_2, Value.int IntKind.i64 (IntKind.i64.wrap (x_1 + iquo IntKind.i64 x_3 8)), Value.int IntKind.i64 (irem x_4 8), Value.int IntKind.u64 x] h'
                                                  fun (r : Value) (h' : Heap) => ∃ (x : Int), r = Value.int IntKind.i64 x ∧ spare_Bank_say.J2 b n x h' Q) ∧
                                        ∃ (x_3 : Int),
                                          h'.cell b_4 (o_3 + 4) = some (Value.int IntKind.i64 x_3) ∧
                                            ∃ (x_4 : Int),
                                              h'.cell b_3 (o_2 + 4) = some (Value.int IntKind.i64 x_4) ∧
                                                C Tryz.prog 73 #[Value.pointer x_2, Value.int IntKind.i64 (IntKind.i64.wrap (x_1 + iquo IntKind.i64 x_4 8)), Value.int IntKind.i64 (irem x_3 8), Value.int IntKind.u64 x] h'
                                                  fun (r : Value) (h' : Heap) => ∃ (x : Int), r = Value.int IntKind.i64 x ∧ spare_Bank_say.J2 b n x h' Q) ∧
                                  (∃ (x_2 : Int),
                                      h'.cell b_3 (o_2 + 4) = some (Value.int IntKind.i64 x_2) ∧
                                        ∃ (x_3 : Int),
                                          h'.cell b_4 (o_3 + 4) = some (Value.int IntKind.i64 x_3) ∧
                                            ∃ (x_4 : Option Addr),
                                              h'.cell b_1 (o + 0) = some (Value.pointer x_4) ∧
                                                C Tryz.prog 73 #[Value.pointer x_4, Value.int IntKind.i64 (IntKind.i64.wrap (x_1 + iquo IntKind.i64 x_2 8)), Value.int IntKind.i64 (irem x_3 8), Value.int IntKind.u64 x] h'
                                                  fun (r : Value) (h' : Heap) => ∃ (x : Int), r = Value.int IntKind.i64 x ∧ spare_Bank_say.J2 b n x h' Q) ∧
                                    ∃ (x_2 : Int),
                                      h'.cell b_4 (o_3 + 4) = some (Value.int IntKind.i64 x_2) ∧
                                        ∃ (x_3 : Int),
                                          h'.cell b_3 (o_2 + 4) = some (Value.int IntKind.i64 x_3) ∧
                                            ∃ (x_4 : Option Addr),
                                              h'.cell b_1 (o + 0) = some (Value.pointer x_4) ∧
                                                C Tryz.prog 73 #[Value.pointer x_4, Value.int IntKind.i64 (IntKind.i64.wrap (x_1 + iquo IntKind.i64 x_3 8)), Value.int IntKind.i64 (irem x_2 8), Value.int IntKind.u64 x] h'
                                                  fun (r : Value) (h' : Heap) => ∃ (x : Int), r = Value.int IntKind.i64 x ∧ spare_Bank_say.J2 b n x h' Q) ∧
                            (∃ (x_1 : Int),
                                h'.cell b_3 (o_2 + 4) = some (Value.int IntKind.i64 x_1) ∧
                                  (∃ (x_2 : Option Addr),
                                      h'.cell b_1 (o + 0) = some (Value.pointer x_2) ∧
                                        (∃ (x_3 : Int),
                                            h'.cell b_2 (o_1 + 1 + 0) = some (Value.int IntKind.i64 x_3) ∧
                                              ∃ (x_4 : Int),
                                                h'.cell b_4 (o_3 + 4) = some (Value.int IntKind.i64 x_4) ∧
                                                  C Tryz.prog 73 #[Value.pointer x_2, Value.int IntKind.i64 (IntKind.i64.wrap (x_3 + iquo IntKind.i64 x_1 8)), Value.int IntKind.i64 (irem x_4 8), Value.int IntKind.u64 x] h'
                                                    fun (r : Value) (h' : Heap) => ∃ (x : Int), r = Value.int IntKind.i64 x ∧ spare_Bank_say.J2 b n x h' Q) ∧
                                          ∃ (x_3 : Int),
                                            h'.cell b_4 (o_3 + 4) = some (Value.int IntKind.i64 x_3) ∧
                                              ∃ (x_4 : Int),
                                                h'.cell b_2 (o_1 + 1 + 0) = some (Value.int IntKind.i64 x_4) ∧
                                                  C Tryz.prog 73 #[Value.pointer x_2, Value.int IntKind.i64 (IntKind.i64.wrap (x_4 + iquo IntKind.i64 x_1 8)), Value.int IntKind.i64 (irem x_3 8), Value.int IntKind.u64 x] h'
                                                    fun (r : Value) (h' : Heap) => ∃ (x : Int), r = Value.int IntKind.i64 x ∧ spare_Bank_say.J2 b n x h' Q) ∧
                                    (∃ (x_2 : Int),
                                        h'.cell b_2 (o_1 + 1 + 0) = some (Value.int IntKind.i64 x_2) ∧
                                          ∃ (x_3 : Int),
                                            h'.cell b_4 (o_3 + 4) = some (Value.int IntKind.i64 x_3) ∧
                                              ∃ (x_4 : Option Addr),
                                                h'.cell b_1 (o + 0) = some (Value.pointer x_4) ∧
                                                  C Tryz.prog 73 #[Value.pointer x_4, Value.int IntKind.i64 (IntKind.i64.wrap (x_2 + iquo IntKind.i64 x_1 8)), Value.int IntKind.i64 (irem x_3 8), Value.int IntKind.u64 x] h'
                                                    fun (r : Value) (h' : Heap) => ∃ (x : Int), r = Value.int IntKind.i64 x ∧ spare_Bank_say.J2 b n x h' Q) ∧
                                      ∃ (x_2 : Int),
                                        h'.cell b_4 (o_3 + 4) = some (Value.int IntKind.i64 x_2) ∧
                                          ∃ (x_3 : Int),
                                            h'.cell b_2 (o_1 + 1 + 0) = some (Value.int IntKind.i64 x_3) ∧
                                              ∃ (x_4 : Option Addr),
                                                h'.cell b_1 (o + 0) = some (Value.pointer x_4) ∧
                                                  C Tryz.prog 73 #[Value.pointer x_4, Value.int IntKind.i64 (IntKind.i64.wrap (x_3 + iquo IntKind.i64 x_1 8)), Value.int IntKind.i64 (irem x_2 8), Value.int IntKind.u64 x] h'
                                                    fun (r : Value) (h' : Heap) => ∃ (x : Int), r = Value.int IntKind.i64 x ∧ spare_Bank_say.J2 b n x h' Q) ∧
                              ∃ (x_1 : Int),
                                h'.cell b_4 (o_3 + 4) = some (Value.int IntKind.i64 x_1) ∧
                                  ∃ (x_2 : Int),
                                    h'.cell b_3 (o_2 + 4) = some (Value.int IntKind.i64 x_2) ∧
                                      ∃ (x_3 : Int),
                                        h'.cell b_2 (o_1 + 1 + 0) = some (Value.int IntKind.i64 x_3) ∧
                                          ∃ (x_4 : Option Addr),
                                            h'.cell b_1 (o + 0) = some (Value.pointer x_4) ∧
                                              C Tryz.prog 73 #[Value.pointer x_4, Value.int IntKind.i64 (IntKind.i64.wrap (x_3 + iquo IntKind.i64 x_2 8)), Value.int IntKind.i64 (irem x_1 8), Value.int IntKind.u64 x] h'
                                                fun (r : Value) (h' : Heap) => ∃ (x : Int), r = Value.int IntKind.i64 x ∧ spare_Bank_say.J2 b n x h' Q
def spare_Bank_say.J2.wp (b : Option Addr) (n : Int) (e : Int) (h : Heap) (Q : Value → Heap → Prop) : Prop :=
  xsIf (decide (e = 0))
    (atBase b fun (b_1 o : Nat) =>
      (∃ (x : Int),
          h.cell b_1 (o + 4) = some (Value.int IntKind.i64 x) ∧
            C Tryz.prog 148 #[Value.int IntKind.u64 n] h fun (r : Value) (h' : Heap) =>
              ∃ (x_1 : Int),
                r = Value.int IntKind.u64 x_1 ∧
                  C Tryz.prog 65 #[Value.pointer b, Value.int IntKind.i64 x, Value.int IntKind.u64 x_1] h' fun (r : Value) (h' : Heap) => ∃ (x : Int), r = Value.int IntKind.i64 x ∧ Q (Value.int IntKind.i64 x) h') ∧
        C Tryz.prog 148 #[Value.int IntKind.u64 n] h fun (r : Value) (h' : Heap) =>
          ∃ (x : Int),
            r = Value.int IntKind.u64 x ∧
              ∃ (x_1 : Int),
                h'.cell b_1 (o + 4) = some (Value.int IntKind.i64 x_1) ∧
                  C Tryz.prog 65 #[Value.pointer b, Value.int IntKind.i64 x_1, Value.int IntKind.u64 x] h' fun (r : Value) (h' : Heap) => ∃ (x : Int), r = Value.int IntKind.i64 x ∧ Q (Value.int IntKind.i64 x) h')
    (Q (Value.int IntKind.i64 e) h)
theorem spare_Bank_say.ok {b : Option Addr} {n : Int} {h : Heap} {Q : Value → Heap → Prop} (hk : spare_Bank_say.wp b n h Q) : C Tryz.prog 116 #[.pointer b, .int .u64 n] h Q :=
  C_of_xs (H := spare_Bank_say.H) (lcuts := spare_Bank_say.lc) (rcuts := spare_Bank_say.rc) (l := [.pointer b, .int .u64 n]) 2000 mixed Tryz.func116 rfl (by kernel_rfl) (@cast (spare_Bank_say.wp b n h Q) _ (by kernel_rfl) hk)
theorem spare_Bank_say.J2.ok {b : Option Addr} {n : Int} {e : Int} {h : Heap} {Q : Value → Heap → Prop} (hk : spare_Bank_say.J2.wp b n e h Q) : spare_Bank_say.J2 b n e h Q :=
  xs_ok (H := spare_Bank_say.H) (lcuts := spare_Bank_say.lc) (rcuts := []) (fn := Tryz.f116) mixed Tryz.func116 2000 _ _ _ (@cast (spare_Bank_say.J2.wp b n e h Q) _ (by kernel_rfl) hk)

/-! (*gabion/spare.Bank).retire -/
def spare_Bank_retire.H : Hn := ⟨[], [], [⟨2, .q 0 (.q 1 (.q 2 (.q 4 (.q 5 (.q 6 (.ld 3 768 (.q 7 (.q 8 (.q 9 (.nil)))))))))), []⟩], []⟩
def spare_Bank_retire.lc : List Cut := [⟨1, [0, 1, 2], []⟩]
def spare_Bank_retire.rc : List Cut := []
def spare_Bank_retire.L1 (b : Option Addr) (i : Int) (s : ByteArray) (h : Heap) (Q : Value → Heap → Prop) : Prop :=
  TW Tryz.prog 61 49 [.code (cAt (bodyOf Tryz.f61) [1, 0, 0, 0]), .inLoop (cAt (bodyOf Tryz.f61) [1, 0, 0, 0]), .inBlock 0, .code (cAt (bodyOf Tryz.f61) [1, 1])] ⟨[(0, .v (.pointer b)), (1, .v (.int .i64 i)), (2, .v (.string s))], []⟩ h Q
def spare_Bank_retire.wp (b : Option Addr) (i : Int) (s : ByteArray) (h : Heap) (Q : Value → Heap → Prop) : Prop :=
  spare_Bank_retire.L1 b i s h Q
def spare_Bank_retire.L1.wp (b : Option Addr) (i : Int) (s : ByteArray) (h : Heap) (Q : Value → Heap → Prop) : Prop :=
  C Tryz.prog 18 #[Value.pointer b] h fun (r : Value) (h' : Heap) =>
    ∃ (x : Int),
      r = Value.int IntKind.i64 x ∧
        xsIf (decide (0 < x))
          (atBase b fun (b_1 o : Nat) =>
            atBase b fun (b_2 o_1 : Nat) =>
              ∃ (x : Int),
                h'.cell b_1 (o + 1) = some (Value.int IntKind.i64 x) ∧
                  ∃ (x_1 : Int),
                    h'.cell b_1 (o + 1 + 1) = some (Value.int IntKind.i64 x_1) ∧
                      ∃ (x_2 : Int),
                        h'.cell b_1 (o + 1 + 1 + 1) = some (Value.int IntKind.i64 x_2) ∧
                          ∃ (x_3 : Int),
                            h'.cell b_2 (o_1 + 4) = some (Value.int IntKind.i64 x_3) ∧
                              C Tryz.prog 67 #[Value.agg #[Value.int IntKind.i64 x, Value.int IntKind.i64 x_1, Value.int IntKind.i64 x_2], Value.int IntKind.i64 x_3] h' fun (r : Value) (h' : Heap) =>
                                ∃ (x : Int),
                                  r = Value.int IntKind.i64 x ∧
                                    atBase b fun (b_3 o : Nat) =>
                                      ∃ (x_4 : Option Addr),
                                        h'.cell b_3 (o + 0) = some (Value.pointer x_4) ∧
                                          C Tryz.prog 59 #[Value.pointer x_4, Value.int IntKind.i64 x, Value.string s] h' fun (r : Value) (h' : Heap) =>
                                            ∃ (x_5 : Int),
                                              r = Value.int IntKind.i64 x_5 ∧
                                                xsIf (decide (x_5 ≠ 0)) (Q (Value.int IntKind.i64 x_5) h')
                                                  (atBase b fun (b_4 o : Nat) =>
                                                    ∃ (x_6 : Option Addr),
                                                      h'.cell b_4 (o + 0) = some (Value.pointer x_6) ∧
                                                        C Tryz.prog 60 #[Value.pointer x_6, Value.int IntKind.i64 x, Value.string s] h' fun (r : Value) (h' : Heap) =>
                                                          ∃ (x : Bool),
                                                            r = Value.bool x ∧
                                                              xsIf x
                                                                (C Tryz.prog 116 #[Value.pointer b, Value.int IntKind.u64 (IntKind.u64.wrap (IntKind.u64.wrap i + 1))] h' fun (r : Value) (h' : Heap) =>
                                                                  ∃ (x : Int), r = Value.int IntKind.i64 x ∧ Q (Value.int IntKind.i64 x) h')
                                                                (C Tryz.prog 116 #[Value.pointer b, Value.int IntKind.u64 65535] h' fun (r : Value) (h' : Heap) =>
                                                                  ∃ (x : Int), r = Value.int IntKind.i64 x ∧ xsIf (decide (x ≠ 0)) (Q (Value.int IntKind.i64 x) h') (spare_Bank_retire.L1 b i s h' Q))))
          (Q (Value.int IntKind.i64 10) h')
theorem spare_Bank_retire.ok {b : Option Addr} {i : Int} {s : ByteArray} {h : Heap} {Q : Value → Heap → Prop} (hk : spare_Bank_retire.wp b i s h Q) : C Tryz.prog 61 #[.pointer b, .int .i64 i, .string s] h Q :=
  C_of_xs (H := spare_Bank_retire.H) (lcuts := spare_Bank_retire.lc) (rcuts := spare_Bank_retire.rc) (l := [.pointer b, .int .i64 i, .string s]) 2000 mixed Tryz.func61 rfl (by kernel_rfl) (@cast (spare_Bank_retire.wp b i s h Q) _ (by kernel_rfl) hk)
theorem spare_Bank_retire.L1.ok {b : Option Addr} {i : Int} {s : ByteArray} {h : Heap} {Q : Value → Heap → Prop} (hk : spare_Bank_retire.L1.wp b i s h Q) : spare_Bank_retire.L1 b i s h Q :=
  xs_ok (H := spare_Bank_retire.H) (lcuts := spare_Bank_retire.lc) (rcuts := spare_Bank_retire.rc) (fn := Tryz.f61) mixed Tryz.func61 2000 _ _ _ (@cast (spare_Bank_retire.L1.wp b i s h Q) _ (by kernel_rfl) hk)

/-! (*gabion/spare.Bank).Write -/
def spare_Bank_Write.H : Hn := ⟨[], [], [], []⟩
def spare_Bank_Write.lc : List Cut := []
def spare_Bank_Write.rc : List Cut := []
def spare_Bank_Write.wp (b : Option Addr) (i : Int) (s : ByteArray) (h : Heap) (Q : Value → Heap → Prop) : Prop :=
  C Tryz.prog 21 #[Value.pointer b, Value.int IntKind.i64 i] h fun (r : Value) (h' : Heap) =>
    ∃ (x : Int),
      ∃ (x_1 : Int),
        r = Value.tuple #[Value.int IntKind.i64 x, Value.int IntKind.i64 x_1] ∧
          xsIf (decide (x_1 = 1)) (Q (Value.int IntKind.i64 x_1) h')
            (xsIf (decide ((↑s.size : Int) ≠ 64)) (Q (Value.int IntKind.i64 2) h')
              (xsIf (decide (x_1 ≠ 0)) (Q (Value.int IntKind.i64 x_1) h')
                (atBase b fun (b_1 o : Nat) =>
                  ∃ (x_2 : Option Addr),
                    h'.cell b_1 (o + 0) = some (Value.pointer x_2) ∧
                      C Tryz.prog 59 #[Value.pointer x_2, Value.int IntKind.i64 x, Value.string s] h' fun (r : Value) (h' : Heap) =>
                        ∃ (x_3 : Int),
                          r = Value.int IntKind.i64 x_3 ∧
                            xsIf (decide (x_3 ≠ 0)) (Q (Value.int IntKind.i64 x_3) h')
                              (atBase b fun (b_2 o : Nat) =>
                                ∃ (x_4 : Option Addr),
                                  h'.cell b_2 (o + 0) = some (Value.pointer x_4) ∧
                                    C Tryz.prog 60 #[Value.pointer x_4, Value.int IntKind.i64 x, Value.string s] h' fun (r : Value) (h' : Heap) =>
                                      ∃ (x : Bool),
                                        r = Value.bool x ∧
                                          xsIf x (Q (Value.int IntKind.i64 0) h')
                                            (C Tryz.prog 61 #[Value.pointer b, Value.int IntKind.i64 i, Value.string s] h' fun (r : Value) (h' : Heap) =>
                                              ∃ (x : Int), r = Value.int IntKind.i64 x ∧ Q (Value.int IntKind.i64 x) h')))))
theorem spare_Bank_Write.ok {b : Option Addr} {i : Int} {s : ByteArray} {h : Heap} {Q : Value → Heap → Prop} (hk : spare_Bank_Write.wp b i s h Q) : C Tryz.prog 15 #[.pointer b, .int .i64 i, .string s] h Q :=
  C_of_xs (H := spare_Bank_Write.H) (lcuts := spare_Bank_Write.lc) (rcuts := spare_Bank_Write.rc) (l := [.pointer b, .int .i64 i, .string s]) 2000 mixed Tryz.func15 rfl (by kernel_rfl) (@cast (spare_Bank_Write.wp b i s h Q) _ (by kernel_rfl) hk)

/-! (*gabion/spare.Bank).Lines -/
def spare_Bank_Lines.H : Hn := ⟨[], [], [], []⟩
def spare_Bank_Lines.lc : List Cut := []
def spare_Bank_Lines.rc : List Cut := []
def spare_Bank_Lines.wp (b : Option Addr) (h : Heap) (Q : Value → Heap → Prop) : Prop :=
  xsIf b.isNone (Q (Value.int IntKind.i64 0) h) (atBase b fun (b o : Nat) => ∃ (x : Int), h.cell b (o + 1 + 1) = some (Value.int IntKind.i64 x) ∧ Q (Value.int IntKind.i64 x) h)
theorem spare_Bank_Lines.ok {b : Option Addr} {h : Heap} {Q : Value → Heap → Prop} (hk : spare_Bank_Lines.wp b h Q) : C Tryz.prog 19 #[.pointer b] h Q :=
  C_of_xs (H := spare_Bank_Lines.H) (lcuts := spare_Bank_Lines.lc) (rcuts := spare_Bank_Lines.rc) (l := [.pointer b]) 2000 mixed Tryz.func19 rfl (by kernel_rfl) (@cast (spare_Bank_Lines.wp b h Q) _ (by kernel_rfl) hk)

/-! gabion/gabionlaw05.wakes -/
def gabionlaw05_wakes.H : Hn := ⟨[], [], [], []⟩
def gabionlaw05_wakes.lc : List Cut := []
def gabionlaw05_wakes.rc : List Cut := [⟨7, [2, 5], []⟩]
def gabionlaw05_wakes.J7 (d : Option Addr) (b : Option Addr) (h : Heap) (Q : Value → Heap → Prop) : Prop :=
  TW Tryz.prog 13 85 [.code (cAt (bodyOf Tryz.f13) [1, 1, 1, 1, 1, 1, 0]), .code (cAt (bodyOf Tryz.f13) [1, 1, 1, 1, 1, 1, 1])] ⟨[(2, .v (.pointer d)), (5, .v (.pointer b))], []⟩ h Q
def gabionlaw05_wakes.wp  (h : Heap) (Q : Value → Heap → Prop) : Prop :=
  C Tryz.prog 26 #[Value.int IntKind.i64 7] h fun (r : Value) (h' : Heap) =>
    ∃ (x : Option Addr),
      ∃ (x_1 : Int),
        r = Value.tuple #[Value.pointer x, Value.int IntKind.i64 x_1] ∧
          C Tryz.prog 27 #[Value.pointer x, Value.agg #[Value.int IntKind.i64 0, Value.int IntKind.i64 4, Value.int IntKind.i64 2]] h' fun (r : Value) (h' : Heap) =>
            ∃ (x_2 : Int),
              r = Value.int IntKind.i64 x_2 ∧
                C Tryz.prog 17 #[Value.pointer x, Value.agg #[Value.int IntKind.i64 0, Value.int IntKind.i64 4, Value.int IntKind.i64 2]] h' fun (r : Value) (h' : Heap) =>
                  ∃ (x_3 : Option Addr),
                    ∃ (x_4 : Int),
                      r = Value.tuple #[Value.pointer x_3, Value.int IntKind.i64 x_4] ∧
                        xsIf (decide (x_1 ≠ 0)) (Q (Value.bool false) h')
                          (xsIf (decide (x_2 ≠ 0)) (Q (Value.bool false) h')
                            (xsIf (decide (x_4 ≠ 0)) (Q (Value.bool false) h')
                              (C Tryz.prog 25 #[Value.agg #[Value.int IntKind.i64 0, Value.int IntKind.i64 4, Value.int IntKind.i64 2]] h' fun (r : Value) (h' : Heap) =>
                                ∃ (x_5 : Int), r = Value.int IntKind.i64 x_5 ∧ xsIf (decide (x_5 ≠ 7)) (Q (Value.bool false) h') (gabionlaw05_wakes.J7 x x_3 h' Q))))
def gabionlaw05_wakes.J7.wp (d : Option Addr) (b : Option Addr) (h : Heap) (Q : Value → Heap → Prop) : Prop :=
  C Tryz.prog 14 #[Value.pointer d, Value.int IntKind.i64 1] h fun (r : Value) (h' : Heap) =>
    C Tryz.prog 16 #[Value.string { data := #[UInt8.ofNat 97, UInt8.ofNat 98, UInt8.ofNat 99] }] h' fun (r : Value) (h' : Heap) =>
      ∃ (x : ByteArray),
        r = Value.string x ∧
          C Tryz.prog 15 #[Value.pointer b, Value.int IntKind.i64 0, Value.string x] h' fun (r : Value) (h' : Heap) =>
            ∃ (x : Int),
              r = Value.int IntKind.i64 x ∧
                C Tryz.prog 21 #[Value.pointer b, Value.int IntKind.i64 0] h' fun (r : Value) (h' : Heap) =>
                  ∃ (x_1 : Int),
                    ∃ (x_2 : Int),
                      r = Value.tuple #[Value.int IntKind.i64 x_1, Value.int IntKind.i64 x_2] ∧
                        C Tryz.prog 20 #[Value.pointer b, Value.int IntKind.i64 0] h' fun (r : Value) (h' : Heap) =>
                          ∃ (x_3 : ByteArray),
                            ∃ (x_4 : Int),
                              r = Value.tuple #[Value.string x_3, Value.int IntKind.i64 x_4] ∧
                                xsIf (decide (x = 0))
                                  (xsIf (decide (x_2 = 0))
                                    (xsIf (decide (x_1 = 5))
                                      (xsIf (decide (x_4 = 0))
                                        (C Tryz.prog 16 #[Value.string { data := #[UInt8.ofNat 97, UInt8.ofNat 98, UInt8.ofNat 99] }] h' fun (r : Value) (h' : Heap) =>
                                          ∃ (x : ByteArray),
                                            r = Value.string x ∧
                                              xsIf (decide (x_3 = x))
                                                (C Tryz.prog 18 #[Value.pointer b] h' fun (r : Value) (h' : Heap) =>
                                                  ∃ (x : Int),
                                                    r = Value.int IntKind.i64 x ∧
                                                      xsIf (decide (x = 1)) (C Tryz.prog 19 #[Value.pointer b] h' fun (r : Value) (h' : Heap) => ∃ (x : Int), r = Value.int IntKind.i64 x ∧ Q (Value.bool (decide (x = 4))) h')
                                                        (Q (Value.bool false) h'))
                                                (Q (Value.bool false) h'))
                                        (Q (Value.bool false) h'))
                                      (Q (Value.bool false) h'))
                                    (Q (Value.bool false) h'))
                                  (Q (Value.bool false) h')
theorem gabionlaw05_wakes.ok {h : Heap} {Q : Value → Heap → Prop} (hk : gabionlaw05_wakes.wp h Q) : C Tryz.prog 13 #[] h Q :=
  C_of_xs (H := gabionlaw05_wakes.H) (lcuts := gabionlaw05_wakes.lc) (rcuts := gabionlaw05_wakes.rc) (l := []) 2000 mixed Tryz.func13 rfl (by kernel_rfl) (@cast (gabionlaw05_wakes.wp h Q) _ (by kernel_rfl) hk)
theorem gabionlaw05_wakes.J7.ok {d : Option Addr} {b : Option Addr} {h : Heap} {Q : Value → Heap → Prop} (hk : gabionlaw05_wakes.J7.wp d b h Q) : gabionlaw05_wakes.J7 d b h Q :=
  xs_ok (H := gabionlaw05_wakes.H) (lcuts := gabionlaw05_wakes.lc) (rcuts := []) (fn := Tryz.f13) mixed Tryz.func13 2000 _ _ _ (@cast (gabionlaw05_wakes.J7.wp d b h Q) _ (by kernel_rfl) hk)

/-! (*gabion/spare.Bank).WriteWord -/
def spare_Bank_WriteWord.H : Hn := ⟨[], [], [⟨11, .q 0 (.q 1 (.q 2 (.q 3 (.q 4 (.q 7 (.q 8 (.q 9 (.q 10 (.q 11 (.q 5 (.q 6 (.q 12 (.q 13 (.nil)))))))))))))), []⟩], []⟩
def spare_Bank_WriteWord.lc : List Cut := []
def spare_Bank_WriteWord.rc : List Cut := []
def spare_Bank_WriteWord.wp (b : Option Addr) (i : Int) (k0 : Int) (v : Int) (h : Heap) (Q : Value → Heap → Prop) : Prop :=
  C Tryz.prog 21 #[Value.pointer b, Value.int IntKind.i64 i] h fun (r : Value) (h' : Heap) =>
    ∃ (x : Int),
      ∃ (x_1 : Int),
        r = Value.tuple #[Value.int IntKind.i64 x, Value.int IntKind.i64 x_1] ∧
          xsIf (decide (x_1 = 1)) (Q (Value.int IntKind.i64 x_1) h')
            (xsIf (decide (k0 < 0)) (Q (Value.int IntKind.i64 2) h')
              (xsIf (decide (8 ≤ k0)) (Q (Value.int IntKind.i64 2) h')
                (xsIf (decide (x_1 ≠ 0)) (Q (Value.int IntKind.i64 x_1) h')
                  (atBase b fun (b_1 o : Nat) =>
                    ∃ (x_2 : Option Addr),
                      h'.cell b_1 (o + 0) = some (Value.pointer x_2) ∧
                        C Tryz.prog 66 #[Value.pointer x_2, Value.int IntKind.i64 x] h' fun (r : Value) (h' : Heap) =>
                          ∃ (x_3 : ByteArray),
                            ∃ (x_4 : Int),
                              r = Value.tuple #[Value.string x_3, Value.int IntKind.i64 x_4] ∧
                                xsIf (decide (x_4 ≠ 0)) (Q (Value.int IntKind.i64 x_4) h')
                                  ((0 ≤ IntKind.i64.wrap (8 * k0) ∧ IntKind.i64.wrap (8 * k0) ≤ (↑x_3.size : Int)) ∧
                                    (0 ≤ IntKind.i64.wrap (8 * IntKind.i64.wrap (k0 + 1)) ∧ IntKind.i64.wrap (8 * IntKind.i64.wrap (k0 + 1)) ≤ (↑x_3.size : Int)) ∧
                                      C Tryz.prog 72 #[Value.int IntKind.u64 v, Value.int IntKind.i64 8] h' fun (r : Value) (h' : Heap) =>
                                        ∃ (x_5 : ByteArray),
                                          r = Value.string x_5 ∧
                                            (↑((sext x_3 0 (IntKind.i64.wrap (8 * k0))).size + x_5.size) : Int) ≤ 9223372036854775807 ∧
                                              (↑((sext x_3 0 (IntKind.i64.wrap (8 * k0)) ++ x_5).size + (sext x_3 (IntKind.i64.wrap (8 * IntKind.i64.wrap (k0 + 1))) (↑x_3.size : Int)).size) : Int) ≤ 9223372036854775807 ∧
                                                atBase b fun (b_2 o : Nat) =>
                                                  ∃ (x_6 : Option Addr),
                                                    h'.cell b_2 (o + 0) = some (Value.pointer x_6) ∧
                                                      C Tryz.prog 73 #[Value.pointer x_6, Value.int IntKind.i64 x, Value.int IntKind.i64 k0, Value.int IntKind.u64 v] h' fun (r : Value) (h' : Heap) =>
                                                        ∃ (x_7 : Int),
                                                          r = Value.int IntKind.i64 x_7 ∧
                                                            xsIf (decide (x_7 ≠ 0)) (Q (Value.int IntKind.i64 x_7) h')
                                                              (atBase b fun (b_3 o : Nat) =>
                                                                ∃ (x_8 : Option Addr),
                                                                  h'.cell b_3 (o + 0) = some (Value.pointer x_8) ∧
                                                                    C Tryz.prog 60
                                                                      #[Value.pointer x_8, Value.int IntKind.i64 x,
                                                                            Value.string (sext x_3 0 (IntKind.i64.wrap (8 * k0)) ++ x_5 ++ sext x_3 (IntKind.i64.wrap (8 * IntKind.i64.wrap (k0 + 1))) (↑x_3.size : Int))]
                                                                      h' fun (r : Value) (h' : Heap) =>
                                                                      ∃ (x : Bool),
                                                                        r = Value.bool x ∧
                                                                          xsIf x (Q (Value.int IntKind.i64 0) h')
                                                                            (C Tryz.prog 61
                                                                              #[Value.pointer b, Value.int IntKind.i64 i,
                                                                                    Value.string (sext x_3 0 (IntKind.i64.wrap (8 * k0)) ++ x_5 ++ sext x_3 (IntKind.i64.wrap (8 * IntKind.i64.wrap (k0 + 1))) (↑x_3.size : Int))]
                                                                              h' fun (r : Value) (h' : Heap) => ∃ (x : Int), r = Value.int IntKind.i64 x ∧ Q (Value.int IntKind.i64 x) h')))))))
theorem spare_Bank_WriteWord.ok {b : Option Addr} {i : Int} {k0 : Int} {v : Int} {h : Heap} {Q : Value → Heap → Prop} (hk : spare_Bank_WriteWord.wp b i k0 v h Q) : C Tryz.prog 28 #[.pointer b, .int .i64 i, .int .i64 k0, .int .u64 v] h Q :=
  C_of_xs (H := spare_Bank_WriteWord.H) (lcuts := spare_Bank_WriteWord.lc) (rcuts := spare_Bank_WriteWord.rc) (l := [.pointer b, .int .i64 i, .int .i64 k0, .int .u64 v]) 2000 mixed Tryz.func28 rfl (by kernel_rfl) (@cast (spare_Bank_WriteWord.wp b i k0 v h Q) _ (by kernel_rfl) hk)

/-! gabion/gabionlaw05.SparePlans -/
def gabionlaw05_SparePlans.H : Hn := ⟨[], [], [⟨1, .q 0 (.q 1 (.q 2 (.q 3 (.q 4 (.q 5 (.q 6 (.q 7 (.q 11 (.q 8 (.q 9 (.q 10 (.nil)))))))))))), []⟩], []⟩
def gabionlaw05_SparePlans.lc : List Cut := [⟨2, [1, 2, 33, 34, 35], []⟩]
def gabionlaw05_SparePlans.rc : List Cut := [⟨9, [1, 2, 8, 9, 10, 11, 33, 34, 35], [8, 10]⟩, ⟨11, [1, 2, 8, 10, 33, 34, 35], [8, 10]⟩, ⟨17, [1, 2, 10, 33, 34, 35], [10]⟩]
def gabionlaw05_SparePlans.L2 (lines : Int) (i : Int) (t33 : Option Addr) (t33_n : Nat) (t33_c : Nat) (t34 : Int) (t35 : Int) (h : Heap) (Q : Value → Heap → Prop) : Prop :=
  TW Tryz.prog 4 142 [.code (cAt (bodyOf Tryz.f4) [1, 0, 1, 0, 0]), .inLoop (cAt (bodyOf Tryz.f4) [1, 0, 1, 0, 0]), .inBlock 0, .code (cAt (bodyOf Tryz.f4) [1, 1])] ⟨[(1, .v (.int .i64 lines)), (2, .v (.int .i64 i)), (33, .v (.slice t33 t33_n t33_c)), (34, .v (.int .i64 t34)), (35, .v (.int .i64 t35))], []⟩ h Q
def gabionlaw05_SparePlans.J9 (lines : Int) (i : Int) (want : Int) (size : Int) (t33 : Option Addr) (t33_n : Nat) (t33_c : Nat) (t34 : Int) (t35 : Int) (p_0 : Int) (p_1 : Int) (p_2 : Int) (q_0 : Int) (q_1 : Int) (q_2 : Int) (h : Heap) (Q : Value → Heap → Prop) : Prop :=
  TW Tryz.prog 4 142 [.code (cAt (bodyOf Tryz.f4) [1, 0, 1, 0, 0, 1, 1, 0, 0, 1, 1, 1, 1, 1, 0, 0]), .code (cAt (bodyOf Tryz.f4) [1, 0, 1, 0, 0, 1, 1, 0, 0, 1, 1, 1, 1, 1, 0, 1]), .code (cAt (bodyOf Tryz.f4) [1, 0, 1, 0, 0, 1, 1, 0, 0, 1, 1, 1, 1, 1, 1]), .inBlock 1, .code (cAt (bodyOf Tryz.f4) [1, 0, 1, 0, 0, 1, 1, 1]), .inLoop (cAt (bodyOf Tryz.f4) [1, 0, 1, 0, 0]), .inBlock 0, .code (cAt (bodyOf Tryz.f4) [1, 1])] ⟨[(1, .v (.int .i64 lines)), (2, .v (.int .i64 i)), (8, .p 8 0), (9, .v (.int .i64 want)), (10, .p 10 0), (11, .v (.int .i64 size)), (33, .v (.slice t33 t33_n t33_c)), (34, .v (.int .i64 t34)), (35, .v (.int .i64 t35))], [(8, [.int .i64 p_0, .int .i64 p_1, .int .i64 p_2]), (10, [.int .i64 q_0, .int .i64 q_1, .int .i64 q_2])]⟩ h Q
def gabionlaw05_SparePlans.J11 (lines : Int) (i : Int) (t33 : Option Addr) (t33_n : Nat) (t33_c : Nat) (t34 : Int) (t35 : Int) (p_0 : Int) (p_1 : Int) (p_2 : Int) (q_0 : Int) (q_1 : Int) (q_2 : Int) (h : Heap) (Q : Value → Heap → Prop) : Prop :=
  TW Tryz.prog 4 142 [.code (cAt (bodyOf Tryz.f4) [1, 0, 1, 0, 0, 1, 1, 0, 0, 1, 1, 1, 1, 1, 1, 0]), .code (cAt (bodyOf Tryz.f4) [1, 0, 1, 0, 0, 1, 1, 0, 0, 1, 1, 1, 1, 1, 1, 1]), .inBlock 1, .code (cAt (bodyOf Tryz.f4) [1, 0, 1, 0, 0, 1, 1, 1]), .inLoop (cAt (bodyOf Tryz.f4) [1, 0, 1, 0, 0]), .inBlock 0, .code (cAt (bodyOf Tryz.f4) [1, 1])] ⟨[(1, .v (.int .i64 lines)), (2, .v (.int .i64 i)), (8, .p 8 0), (10, .p 10 0), (33, .v (.slice t33 t33_n t33_c)), (34, .v (.int .i64 t34)), (35, .v (.int .i64 t35))], [(8, [.int .i64 p_0, .int .i64 p_1, .int .i64 p_2]), (10, [.int .i64 q_0, .int .i64 q_1, .int .i64 q_2])]⟩ h Q
def gabionlaw05_SparePlans.J17 (lines : Int) (i : Int) (t33 : Option Addr) (t33_n : Nat) (t33_c : Nat) (t34 : Int) (t35 : Int) (q_0 : Int) (q_1 : Int) (q_2 : Int) (h : Heap) (Q : Value → Heap → Prop) : Prop :=
  TW Tryz.prog 4 142 [.code (cAt (bodyOf Tryz.f4) [1, 0, 1, 0, 0, 1, 1, 0, 0, 1, 1, 1, 1, 1, 1, 1, 1, 0]), .code (cAt (bodyOf Tryz.f4) [1, 0, 1, 0, 0, 1, 1, 0, 0, 1, 1, 1, 1, 1, 1, 1, 1, 1]), .inBlock 1, .code (cAt (bodyOf Tryz.f4) [1, 0, 1, 0, 0, 1, 1, 1]), .inLoop (cAt (bodyOf Tryz.f4) [1, 0, 1, 0, 0]), .inBlock 0, .code (cAt (bodyOf Tryz.f4) [1, 1])] ⟨[(1, .v (.int .i64 lines)), (2, .v (.int .i64 i)), (10, .p 10 0), (33, .v (.slice t33 t33_n t33_c)), (34, .v (.int .i64 t34)), (35, .v (.int .i64 t35))], [(10, [.int .i64 q_0, .int .i64 q_1, .int .i64 q_2])]⟩ h Q
def gabionlaw05_SparePlans.wp (x_0 : Int) (x_1 : Int) (x_2 : Int) (lines : Int) (i : Int) (h : Heap) (Q : Value → Heap → Prop) : Prop :=
  C Tryz.prog 11 #[Value.agg #[Value.int IntKind.i64 x_0, Value.int IntKind.i64 x_1, Value.int IntKind.i64 x_2]] h fun (r : Value) (h' : Heap) =>
    ∃ (x : Int),
      ∃ (x_3 : Int),
        ∃ (x_4 : Int),
          r = Value.agg #[Value.int IntKind.i64 x, Value.int IntKind.i64 x_3, Value.int IntKind.i64 x_4] ∧
            ∀ (b : Nat),
              h' b = none →
                gabionlaw05_SparePlans.L2 lines i (some { block := b, off := 0 }) 2 2 (↑2 : Int) 0
                  (upd h' b (Obj.cells #[Value.int IntKind.i64 x_0, Value.int IntKind.i64 x_1, Value.int IntKind.i64 x_2, Value.int IntKind.i64 x, Value.int IntKind.i64 x_3, Value.int IntKind.i64 x_4] 25 (0, 0))) Q
def gabionlaw05_SparePlans.L2.wp (lines : Int) (i : Int) (t33 : Option Addr) (t33_n : Nat) (t33_c : Nat) (t34 : Int) (t35 : Int) (h : Heap) (Q : Value → Heap → Prop) : Prop :=
  xsIf (decide (t35 < t34))
    ((0 ≤ t35 ∧ t35 < (↑t33_n : Int)) ∧
      atBase t33 fun (b o : Nat) =>
        ∃ (x : Int),
          h.cell b (o + t35.toNat * 3) = some (Value.int IntKind.i64 x) ∧
            ∃ (x_1 : Int),
              h.cell b (o + t35.toNat * 3 + 1) = some (Value.int IntKind.i64 x_1) ∧
                ∃ (x_2 : Int),
                  h.cell b (o + t35.toNat * 3 + 1 + 1) = some (Value.int IntKind.i64 x_2) ∧
                    C Tryz.prog 22 #[Value.agg #[Value.int IntKind.i64 x, Value.int IntKind.i64 x_1, Value.int IntKind.i64 x_2], Value.int IntKind.i64 lines] h fun (r : Value) (h' : Heap) =>
                      ∃ (x_3 : Int),
                        r = Value.int IntKind.i64 x_3 ∧
                          xsIf (decide (x_3 ≠ 2))
                            (C Tryz.prog 23 #[Value.agg #[Value.int IntKind.i64 x, Value.int IntKind.i64 x_1, Value.int IntKind.i64 x_2]] h' fun (r : Value) (h' : Heap) =>
                              ∃ (x_4 : Int), r = Value.int IntKind.i64 x_4 ∧ gabionlaw05_SparePlans.J9 lines i x_3 x_4 t33 t33_n t33_c t34 t35 x x_1 x_2 x x_1 x_2 h' Q)
                            (gabionlaw05_SparePlans.J9 lines i x_3 0 t33 t33_n t33_c t34 t35 x x_1 x_2 x x_1 x_2 h' Q))
    (C Tryz.prog 21 #[Value.pointer none, Value.int IntKind.i64 i] h fun (r : Value) (h' : Heap) =>
      ∃ (x : Int),
        ∃ (x_1 : Int),
          r = Value.tuple #[Value.int IntKind.i64 x, Value.int IntKind.i64 x_1] ∧
            C Tryz.prog 20 #[Value.pointer none, Value.int IntKind.i64 i] h' fun (r : Value) (h' : Heap) =>
              ∃ (x : ByteArray),
                ∃ (x_2 : Int),
                  r = Value.tuple #[Value.string x, Value.int IntKind.i64 x_2] ∧
                    C Tryz.prog 13 #[] h' fun (r : Value) (h' : Heap) =>
                      ∃ (x : Bool),
                        r = Value.bool x ∧
                          xsIf x
                            (xsIf (decide (x_1 = 1))
                              (xsIf (decide (x_2 = 1))
                                (C Tryz.prog 15 #[Value.pointer none, Value.int IntKind.i64 i, Value.string { data := #[] }] h' fun (r : Value) (h' : Heap) =>
                                  ∃ (x : Int),
                                    r = Value.int IntKind.i64 x ∧
                                      xsIf (decide (x = 1))
                                        (C Tryz.prog 28 #[Value.pointer none, Value.int IntKind.i64 i, Value.int IntKind.i64 9, Value.int IntKind.u64 1] h' fun (r : Value) (h' : Heap) =>
                                          ∃ (x : Int),
                                            r = Value.int IntKind.i64 x ∧
                                              xsIf (decide (x = 1))
                                                (C Tryz.prog 19 #[Value.pointer none] h' fun (r : Value) (h' : Heap) =>
                                                  ∃ (x : Int),
                                                    r = Value.int IntKind.i64 x ∧
                                                      xsIf (decide (x = 0)) (C Tryz.prog 18 #[Value.pointer none] h' fun (r : Value) (h' : Heap) => ∃ (x : Int), r = Value.int IntKind.i64 x ∧ Q (Value.bool (decide (x = 0))) h')
                                                        (Q (Value.bool false) h'))
                                                (Q (Value.bool false) h'))
                                        (Q (Value.bool false) h'))
                                (Q (Value.bool false) h'))
                              (Q (Value.bool false) h'))
                            (Q (Value.bool false) h'))
def gabionlaw05_SparePlans.J9.wp (lines : Int) (i : Int) (want : Int) (size : Int) (t33 : Option Addr) (t33_n : Nat) (t33_c : Nat) (t34 : Int) (t35 : Int) (p_0 : Int) (p_1 : Int) (p_2 : Int) (q_0 : Int) (q_1 : Int) (q_2 : Int) (h : Heap) (Q : Value → Heap → Prop) : Prop :=
  C Tryz.prog 24 #[Value.agg #[Value.int IntKind.i64 q_0, Value.int IntKind.i64 q_1, Value.int IntKind.i64 q_2], Value.int IntKind.i64 lines] h fun (r : Value) (h' : Heap) =>
    ∃ (x : Int),
      r = Value.int IntKind.i64 x ∧
        xsIf (decide (x ≠ want)) (Q (Value.bool false) h')
          (C Tryz.prog 25 #[Value.agg #[Value.int IntKind.i64 q_0, Value.int IntKind.i64 q_1, Value.int IntKind.i64 q_2]] h' fun (r : Value) (h' : Heap) =>
            ∃ (x : Int), r = Value.int IntKind.i64 x ∧ xsIf (decide (x ≠ size)) (Q (Value.bool false) h') (gabionlaw05_SparePlans.J11 lines i t33 t33_n t33_c t34 t35 p_0 p_1 p_2 q_0 q_1 q_2 h' Q))
def gabionlaw05_SparePlans.J11.wp (lines : Int) (i : Int) (t33 : Option Addr) (t33_n : Nat) (t33_c : Nat) (t34 : Int) (t35 : Int) (p_0 : Int) (p_1 : Int) (p_2 : Int) (q_0 : Int) (q_1 : Int) (q_2 : Int) (h : Heap) (Q : Value → Heap → Prop) : Prop :=
  C Tryz.prog 26 #[Value.int IntKind.i64 20] h fun (r : Value) (h' : Heap) =>
    ∃ (x : Option Addr),
      ∃ (x_1 : Int),
        r = Value.tuple #[Value.pointer x, Value.int IntKind.i64 x_1] ∧
          C Tryz.prog 22 #[Value.agg #[Value.int IntKind.i64 p_0, Value.int IntKind.i64 p_1, Value.int IntKind.i64 p_2], Value.int IntKind.i64 20] h' fun (r : Value) (h' : Heap) =>
            ∃ (x_2 : Int),
              r = Value.int IntKind.i64 x_2 ∧
                xsIf (decide (x_2 ≠ 0))
                  (C Tryz.prog 17 #[Value.pointer x, Value.agg #[Value.int IntKind.i64 q_0, Value.int IntKind.i64 q_1, Value.int IntKind.i64 q_2]] h' fun (r : Value) (h' : Heap) =>
                    ∃ (x_3 : Option Addr),
                      ∃ (x_4 : Int),
                        r = Value.tuple #[Value.pointer x_3, Value.int IntKind.i64 x_4] ∧
                          C Tryz.prog 27 #[Value.pointer x, Value.agg #[Value.int IntKind.i64 q_0, Value.int IntKind.i64 q_1, Value.int IntKind.i64 q_2]] h' fun (r : Value) (h' : Heap) =>
                            ∃ (x : Int),
                              r = Value.int IntKind.i64 x ∧
                                xsIf (decide (x ≠ x_2)) (Q (Value.bool false) h')
                                  (xsIf (decide (x_4 ≠ x_2)) (Q (Value.bool false) h') (xsIf (!x_3.isNone) (Q (Value.bool false) h') (gabionlaw05_SparePlans.J17 lines i t33 t33_n t33_c t34 t35 q_0 q_1 q_2 h' Q))))
                  (gabionlaw05_SparePlans.J17 lines i t33 t33_n t33_c t34 t35 q_0 q_1 q_2 h' Q)
def gabionlaw05_SparePlans.J17.wp (lines : Int) (i : Int) (t33 : Option Addr) (t33_n : Nat) (t33_c : Nat) (t34 : Int) (t35 : Int) (q_0 : Int) (q_1 : Int) (q_2 : Int) (h : Heap) (Q : Value → Heap → Prop) : Prop :=
  C Tryz.prog 17 #[Value.pointer none, Value.agg #[Value.int IntKind.i64 q_0, Value.int IntKind.i64 q_1, Value.int IntKind.i64 q_2]] h fun (r : Value) (h' : Heap) =>
    ∃ (x : Option Addr),
      ∃ (x_1 : Int),
        r = Value.tuple #[Value.pointer x, Value.int IntKind.i64 x_1] ∧
          xsIf (decide (x_1 ≠ 1)) (Q (Value.bool false) h')
            (C Tryz.prog 27 #[Value.pointer none, Value.agg #[Value.int IntKind.i64 q_0, Value.int IntKind.i64 q_1, Value.int IntKind.i64 q_2]] h' fun (r : Value) (h' : Heap) =>
              ∃ (x : Int), r = Value.int IntKind.i64 x ∧ xsIf (decide (x ≠ 1)) (Q (Value.bool false) h') (gabionlaw05_SparePlans.L2 lines i t33 t33_n t33_c t34 (IntKind.i64.wrap (t35 + 1)) h' Q))
theorem gabionlaw05_SparePlans.ok {x_0 : Int} {x_1 : Int} {x_2 : Int} {lines : Int} {i : Int} {h : Heap} {Q : Value → Heap → Prop} (hk : gabionlaw05_SparePlans.wp x_0 x_1 x_2 lines i h Q) : C Tryz.prog 4 #[.agg #[.int .i64 x_0, .int .i64 x_1, .int .i64 x_2], .int .i64 lines, .int .i64 i] h Q :=
  C_of_xs (H := gabionlaw05_SparePlans.H) (lcuts := gabionlaw05_SparePlans.lc) (rcuts := gabionlaw05_SparePlans.rc) (l := [.agg #[.int .i64 x_0, .int .i64 x_1, .int .i64 x_2], .int .i64 lines, .int .i64 i]) 2000 mixed Tryz.func4 rfl (by kernel_rfl) (@cast (gabionlaw05_SparePlans.wp x_0 x_1 x_2 lines i h Q) _ (by kernel_rfl) hk)
theorem gabionlaw05_SparePlans.L2.ok {lines : Int} {i : Int} {t33 : Option Addr} {t33_n : Nat} {t33_c : Nat} {t34 : Int} {t35 : Int} {h : Heap} {Q : Value → Heap → Prop} (hk : gabionlaw05_SparePlans.L2.wp lines i t33 t33_n t33_c t34 t35 h Q) : gabionlaw05_SparePlans.L2 lines i t33 t33_n t33_c t34 t35 h Q :=
  xs_ok (H := gabionlaw05_SparePlans.H) (lcuts := gabionlaw05_SparePlans.lc) (rcuts := gabionlaw05_SparePlans.rc) (fn := Tryz.f4) mixed Tryz.func4 2000 _ _ _ (@cast (gabionlaw05_SparePlans.L2.wp lines i t33 t33_n t33_c t34 t35 h Q) _ (by kernel_rfl) hk)
theorem gabionlaw05_SparePlans.J9.ok {lines : Int} {i : Int} {want : Int} {size : Int} {t33 : Option Addr} {t33_n : Nat} {t33_c : Nat} {t34 : Int} {t35 : Int} {p_0 : Int} {p_1 : Int} {p_2 : Int} {q_0 : Int} {q_1 : Int} {q_2 : Int} {h : Heap} {Q : Value → Heap → Prop} (hk : gabionlaw05_SparePlans.J9.wp lines i want size t33 t33_n t33_c t34 t35 p_0 p_1 p_2 q_0 q_1 q_2 h Q) : gabionlaw05_SparePlans.J9 lines i want size t33 t33_n t33_c t34 t35 p_0 p_1 p_2 q_0 q_1 q_2 h Q :=
  xs_ok (H := gabionlaw05_SparePlans.H) (lcuts := gabionlaw05_SparePlans.lc) (rcuts := [⟨11, [1, 2, 8, 10, 33, 34, 35], [8, 10]⟩, ⟨17, [1, 2, 10, 33, 34, 35], [10]⟩]) (fn := Tryz.f4) mixed Tryz.func4 2000 _ _ _ (@cast (gabionlaw05_SparePlans.J9.wp lines i want size t33 t33_n t33_c t34 t35 p_0 p_1 p_2 q_0 q_1 q_2 h Q) _ (by kernel_rfl) hk)
theorem gabionlaw05_SparePlans.J11.ok {lines : Int} {i : Int} {t33 : Option Addr} {t33_n : Nat} {t33_c : Nat} {t34 : Int} {t35 : Int} {p_0 : Int} {p_1 : Int} {p_2 : Int} {q_0 : Int} {q_1 : Int} {q_2 : Int} {h : Heap} {Q : Value → Heap → Prop} (hk : gabionlaw05_SparePlans.J11.wp lines i t33 t33_n t33_c t34 t35 p_0 p_1 p_2 q_0 q_1 q_2 h Q) : gabionlaw05_SparePlans.J11 lines i t33 t33_n t33_c t34 t35 p_0 p_1 p_2 q_0 q_1 q_2 h Q :=
  xs_ok (H := gabionlaw05_SparePlans.H) (lcuts := gabionlaw05_SparePlans.lc) (rcuts := [⟨9, [1, 2, 8, 9, 10, 11, 33, 34, 35], [8, 10]⟩, ⟨17, [1, 2, 10, 33, 34, 35], [10]⟩]) (fn := Tryz.f4) mixed Tryz.func4 2000 _ _ _ (@cast (gabionlaw05_SparePlans.J11.wp lines i t33 t33_n t33_c t34 t35 p_0 p_1 p_2 q_0 q_1 q_2 h Q) _ (by kernel_rfl) hk)
theorem gabionlaw05_SparePlans.J17.ok {lines : Int} {i : Int} {t33 : Option Addr} {t33_n : Nat} {t33_c : Nat} {t34 : Int} {t35 : Int} {q_0 : Int} {q_1 : Int} {q_2 : Int} {h : Heap} {Q : Value → Heap → Prop} (hk : gabionlaw05_SparePlans.J17.wp lines i t33 t33_n t33_c t34 t35 q_0 q_1 q_2 h Q) : gabionlaw05_SparePlans.J17 lines i t33 t33_n t33_c t34 t35 q_0 q_1 q_2 h Q :=
  xs_ok (H := gabionlaw05_SparePlans.H) (lcuts := gabionlaw05_SparePlans.lc) (rcuts := [⟨9, [1, 2, 8, 9, 10, 11, 33, 34, 35], [8, 10]⟩, ⟨11, [1, 2, 8, 10, 33, 34, 35], [8, 10]⟩]) (fn := Tryz.f4) mixed Tryz.func4 2000 _ _ _ (@cast (gabionlaw05_SparePlans.J17.wp lines i t33 t33_n t33_c t34 t35 q_0 q_1 q_2 h Q) _ (by kernel_rfl) hk)
end Go.Gb
