/- Own text for the seat: W2. -/
import Derived.Test.YtgfaiaibdgljjaaGreatW1
set_option linter.unusedVariables false
set_option linter.unusedSimpArgs false
set_option linter.unnecessarySimpa false
set_option linter.deprecated false
set_option maxRecDepth 100000
namespace Go.Gb
open Go.Proofs

/-! (*gabion/spare.Bank).say -/
def spare_Bank_say.H : Hn := ⟨[], [], [⟨1, .q 0 (.q 1 (.q 2 (.q 4 (.q 5 (.q 6 (.q 7 (.q 9 (.q 10 (.q 11 (.q 15 (.q 16 (.q 17 (.q 20 (.br 3 (.br 8 (.br 12 (.q 13 (.q 14 (.br 18 (.q 19 (.q 21 (.q 22 (.q 23 (.nil))))) (.one 21 (.q 18 (.q 19 (.q 22 (.q 23 (.nil))))))))) (.br 18 (.q 19 (.br 12 (.q 13 (.q 14 (.q 21 (.q 22 (.q 23 (.nil)))))) (.one 21 (.q 12 (.q 13 (.q 14 (.q 22 (.q 23 (.nil))))))))) (.one 21 (.br 12 (.q 13 (.q 14 (.q 18 (.q 19 (.q 22 (.q 23 (.nil))))))) (.one 18 (.q 19 (.q 12 (.q 13 (.q 14 (.q 22 (.q 23 (.nil)))))))))))) (.br 12 (.q 13 (.br 8 (.q 14 (.br 18 (.q 19 (.q 21 (.q 22 (.q 23 (.nil))))) (.one 21 (.q 18 (.q 19 (.q 22 (.q 23 (.nil)))))))) (.br 18 (.q 19 (.br 8 (.q 14 (.q 21 (.q 22 (.q 23 (.nil))))) (.one 21 (.q 8 (.q 14 (.q 22 (.q 23 (.nil)))))))) (.one 21 (.br 8 (.q 14 (.q 18 (.q 19 (.q 22 (.q 23 (.nil)))))) (.one 18 (.q 19 (.q 8 (.q 14 (.q 22 (.q 23 (.nil)))))))))))) (.br 18 (.q 19 (.br 8 (.br 12 (.q 13 (.q 14 (.q 21 (.q 22 (.q 23 (.nil)))))) (.one 21 (.q 12 (.q 13 (.q 14 (.q 22 (.q 23 (.nil)))))))) (.br 12 (.q 13 (.br 8 (.q 14 (.q 21 (.q 22 (.q 23 (.nil))))) (.one 21 (.q 8 (.q 14 (.q 22 (.q 23 (.nil)))))))) (.one 21 (.ld 12 12607488 (.q 13 (.q 8 (.q 14 (.q 22 (.q 23 (.nil))))))))))) (.one 21 (.br 8 (.br 12 (.q 13 (.q 14 (.q 18 (.q 19 (.q 22 (.q 23 (.nil))))))) (.one 18 (.q 19 (.q 12 (.q 13 (.q 14 (.q 22 (.q 23 (.nil))))))))) (.br 12 (.q 13 (.br 8 (.q 14 (.q 18 (.q 19 (.q 22 (.q 23 (.nil)))))) (.one 18 (.q 19 (.q 8 (.q 14 (.q 22 (.q 23 (.nil))))))))) (.one 18 (.q 19 (.ld 12 12607488 (.q 13 (.q 8 (.q 14 (.q 22 (.q 23 (.nil))))))))))))))) (.br 8 (.br 3 (.br 12 (.q 13 (.q 14 (.br 18 (.q 19 (.q 21 (.q 22 (.q 23 (.nil))))) (.one 21 (.q 18 (.q 19 (.q 22 (.q 23 (.nil))))))))) (.br 18 (.q 19 (.br 12 (.q 13 (.q 14 (.q 21 (.q 22 (.q 23 (.nil)))))) (.one 21 (.q 12 (.q 13 (.q 14 (.q 22 (.q 23 (.nil))))))))) (.one 21 (.br 12 (.q 13 (.q 14 (.q 18 (.q 19 (.q 22 (.q 23 (.nil))))))) (.one 18 (.q 19 (.q 12 (.q 13 (.q 14 (.q 22 (.q 23 (.nil)))))))))))) (.br 12 (.q 13 (.q 14 (.br 3 (.br 18 (.q 19 (.q 21 (.q 22 (.q 23 (.nil))))) (.one 21 (.q 18 (.q 19 (.q 22 (.q 23 (.nil))))))) (.br 18 (.q 19 (.br 3 (.q 21 (.q 22 (.q 23 (.nil)))) (.one 21 (.q 3 (.q 22 (.q 23 (.nil))))))) (.one 21 (.ld 18 13107200 (.q 19 (.q 3 (.q 22 (.q 23 (.nil))))))))))) (.br 18 (.q 19 (.br 3 (.br 12 (.q 13 (.q 14 (.q 21 (.q 22 (.q 23 (.nil)))))) (.one 21 (.q 12 (.q 13 (.q 14 (.q 22 (.q 23 (.nil)))))))) (.br 12 (.q 13 (.q 14 (.br 3 (.q 21 (.q 22 (.q 23 (.nil)))) (.one 21 (.q 3 (.q 22 (.q 23 (.nil)))))))) (.one 21 (.ld 12 12607488 (.q 13 (.q 14 (.q 3 (.q 22 (.q 23 (.nil))))))))))) (.one 21 (.br 3 (.br 12 (.q 13 (.q 14 (.q 18 (.q 19 (.q 22 (.q 23 (.nil))))))) (.one 18 (.q 19 (.q 12 (.q 13 (.q 14 (.q 22 (.q 23 (.nil))))))))) (.br 12 (.q 13 (.q 14 (.ld 18 13107200 (.q 19 (.q 3 (.q 22 (.q 23 (.nil)))))))) (.one 18 (.q 19 (.ld 12 12607488 (.q 13 (.q 14 (.q 3 (.q 22 (.q 23 (.nil))))))))))))))) (.br 12 (.q 13 (.br 3 (.br 8 (.q 14 (.br 18 (.q 19 (.q 21 (.q 22 (.q 23 (.nil))))) (.one 21 (.q 18 (.q 19 (.q 22 (.q 23 (.nil)))))))) (.br 18 (.q 19 (.br 8 (.q 14 (.q 21 (.q 22 (.q 23 (.nil))))) (.one 21 (.q 8 (.q 14 (.q 22 (.q 23 (.nil)))))))) (.one 21 (.br 8 (.q 14 (.q 18 (.q 19 (.q 22 (.q 23 (.nil)))))) (.one 18 (.q 19 (.q 8 (.q 14 (.q 22 (.q 23 (.nil))))))))))) (.br 8 (.q 14 (.br 3 (.br 18 (.q 19 (.q 21 (.q 22 (.q 23 (.nil))))) (.one 21 (.q 18 (.q 19 (.q 22 (.q 23 (.nil))))))) (.br 18 (.q 19 (.br 3 (.q 21 (.q 22 (.q 23 (.nil)))) (.one 21 (.q 3 (.q 22 (.q 23 (.nil))))))) (.one 21 (.ld 18 13107200 (.q 19 (.q 3 (.q 22 (.q 23 (.nil)))))))))) (.br 18 (.q 19 (.br 3 (.br 8 (.q 14 (.q 21 (.q 22 (.q 23 (.nil))))) (.one 21 (.q 8 (.q 14 (.q 22 (.q 23 (.nil))))))) (.br 8 (.q 14 (.br 3 (.q 21 (.q 22 (.q 23 (.nil)))) (.one 21 (.q 3 (.q 22 (.q 23 (.nil))))))) (.one 21 (.ld 8 12599296 (.q 14 (.q 3 (.q 22 (.q 23 (.nil)))))))))) (.one 21 (.br 3 (.br 8 (.q 14 (.q 18 (.q 19 (.q 22 (.q 23 (.nil)))))) (.one 18 (.q 19 (.q 8 (.q 14 (.q 22 (.q 23 (.nil)))))))) (.br 8 (.q 14 (.ld 18 13107200 (.q 19 (.q 3 (.q 22 (.q 23 (.nil))))))) (.one 18 (.q 19 (.ld 8 12599296 (.q 14 (.q 3 (.q 22 (.q 23 (.nil))))))))))))))) (.br 18 (.q 19 (.br 3 (.br 8 (.br 12 (.q 13 (.q 14 (.q 21 (.q 22 (.q 23 (.nil)))))) (.one 21 (.q 12 (.q 13 (.q 14 (.q 22 (.q 23 (.nil)))))))) (.br 12 (.q 13 (.br 8 (.q 14 (.q 21 (.q 22 (.q 23 (.nil))))) (.one 21 (.q 8 (.q 14 (.q 22 (.q 23 (.nil)))))))) (.one 21 (.ld 12 12607488 (.q 13 (.q 8 (.q 14 (.q 22 (.q 23 (.nil)))))))))) (.br 8 (.br 3 (.br 12 (.q 13 (.q 14 (.q 21 (.q 22 (.q 23 (.nil)))))) (.one 21 (.q 12 (.q 13 (.q 14 (.q 22 (.q 23 (.nil)))))))) (.br 12 (.q 13 (.q 14 (.br 3 (.q 21 (.q 22 (.q 23 (.nil)))) (.one 21 (.q 3 (.q 22 (.q 23 (.nil)))))))) (.one 21 (.ld 12 12607488 (.q 13 (.q 14 (.q 3 (.q 22 (.q 23 (.nil)))))))))) (.br 12 (.q 13 (.br 3 (.br 8 (.q 14 (.q 21 (.q 22 (.q 23 (.nil))))) (.one 21 (.q 8 (.q 14 (.q 22 (.q 23 (.nil))))))) (.br 8 (.q 14 (.br 3 (.q 21 (.q 22 (.q 23 (.nil)))) (.one 21 (.q 3 (.q 22 (.q 23 (.nil))))))) (.one 21 (.ld 8 12599296 (.q 14 (.q 3 (.q 22 (.q 23 (.nil)))))))))) (.one 21 (.ld 12 12607488 (.q 13 (.ld 8 12599296 (.q 14 (.q 3 (.q 22 (.q 23 (.nil))))))))))))) (.one 21 (.br 3 (.br 8 (.br 12 (.q 13 (.q 14 (.q 18 (.q 19 (.q 22 (.q 23 (.nil))))))) (.one 18 (.q 19 (.q 12 (.q 13 (.q 14 (.q 22 (.q 23 (.nil))))))))) (.br 12 (.q 13 (.br 8 (.q 14 (.q 18 (.q 19 (.q 22 (.q 23 (.nil)))))) (.one 18 (.q 19 (.q 8 (.q 14 (.q 22 (.q 23 (.nil))))))))) (.one 18 (.q 19 (.ld 12 12607488 (.q 13 (.q 8 (.q 14 (.q 22 (.q 23 (.nil))))))))))) (.br 8 (.br 3 (.br 12 (.q 13 (.q 14 (.q 18 (.q 19 (.q 22 (.q 23 (.nil))))))) (.one 18 (.q 19 (.q 12 (.q 13 (.q 14 (.q 22 (.q 23 (.nil))))))))) (.br 12 (.q 13 (.q 14 (.ld 18 13107200 (.q 19 (.q 3 (.q 22 (.q 23 (.nil)))))))) (.one 18 (.q 19 (.ld 12 12607488 (.q 13 (.q 14 (.q 3 (.q 22 (.q 23 (.nil))))))))))) (.br 12 (.q 13 (.br 3 (.br 8 (.q 14 (.q 18 (.q 19 (.q 22 (.q 23 (.nil)))))) (.one 18 (.q 19 (.q 8 (.q 14 (.q 22 (.q 23 (.nil)))))))) (.br 8 (.q 14 (.ld 18 13107200 (.q 19 (.q 3 (.q 22 (.q 23 (.nil))))))) (.one 18 (.q 19 (.ld 8 12599296 (.q 14 (.q 3 (.q 22 (.q 23 (.nil))))))))))) (.one 18 (.q 19 (.ld 12 12607488 (.q 13 (.ld 8 12599296 (.q 14 (.q 3 (.q 22 (.q 23 (.nil))))))))))))))))))))))))))))))), []⟩, ⟨3, .q 0 (.q 1 (.q 2 (.q 3 (.q 5 (.br 4 (.q 6 (.q 7 (.q 8 (.nil)))) (.one 6 (.q 4 (.q 7 (.q 8 (.nil)))))))))), []⟩], []⟩
def spare_Bank_say.lc : List Cut := []
def spare_Bank_say.rc : List Cut := [⟨2, [0, 1, 5], []⟩]
def spare_Bank_say.J2 (b : Option Addr) (n : Int) (e : Int) (h : Heap) (Q : Value → Heap → Prop) : Prop :=
  TW Tryz.prog 116 40 [.code (cAt (bodyOf Tryz.f116) [1, 1, 0, 0]), .code (cAt (bodyOf Tryz.f116) [1, 1, 0, 1]), .code (cAt (bodyOf Tryz.f116) [1, 1, 1])] ⟨[(0, .v (.pointer b)), (1, .v (.int .u64 n)), (5, .v (.int .i64 e))], []⟩ h Q
def spare_Bank_say.wp (b : Option Addr) (n : Int) (h : Heap) (Q : Value → Heap → Prop) : Prop :=
  atBase b fun (b_1 o : Nat) =>
    atBase b fun (b_2 o_1 : Nat) =>
      atBase b fun (b_3 o_2 : Nat) =>
        atBase b fun (b_4 o_3 : Nat) =>
          (∃ (x : Option Addr),
              h.cell b_1 (o + 0) = some (Value.pointer x) ∧
                (∃ (x_1 : Int),
                    h.cell b_2 (o_1 + 1 + 0) = some (Value.int IntKind.i64 x_1) ∧
                      (∃ (x_2 : Int),
                          h.cell b_3 (o_2 + 4) = some (Value.int IntKind.i64 x_2) ∧
                            (∃ (x_3 : Int),
                                h.cell b_4 (o_3 + 4) = some (Value.int IntKind.i64 x_3) ∧
                                  C Tryz.prog 148 #[Value.int IntKind.u64 n] h fun (r : Value) (h' : Heap) =>
                                    ∃ (x_4 : Int),
                                      r = Value.int IntKind.u64 x_4 ∧
                                        C Tryz.prog 73 #[Value.pointer x, Value.int IntKind.i64 (IntKind.i64.wrap (x_1 + iquo IntKind.i64 x_2 8)), Value.int IntKind.i64 (irem x_3 8), Value.int IntKind.u64 x_4] h'
                                          fun (r : Value) (h' : Heap) => ∃ (x : Int), r = Value.int IntKind.i64 x ∧ spare_Bank_say.J2 b n x h' Q) ∧
                              C Tryz.prog 148 #[Value.int IntKind.u64 n] h fun (r : Value) (h' : Heap) =>
                                ∃ (x_3 : Int),
                                  r = Value.int IntKind.u64 x_3 ∧
                                    ∃ (x_4 : Int),
                                      h'.cell b_4 (o_3 + 4) = some (Value.int IntKind.i64 x_4) ∧
                                        C Tryz.prog 73 #[Value.pointer x, Value.int IntKind.i64 (IntKind.i64.wrap (x_1 + iquo IntKind.i64 x_2 8)), Value.int IntKind.i64 (irem x_4 8), Value.int IntKind.u64 x_3] h'
                                          fun (r : Value) (h' : Heap) => ∃ (x : Int), r = Value.int IntKind.i64 x ∧ spare_Bank_say.J2 b n x h' Q) ∧
                        (∃ (x_2 : Int),
                            h.cell b_4 (o_3 + 4) = some (Value.int IntKind.i64 x_2) ∧
                              (∃ (x_3 : Int),
                                  h.cell b_3 (o_2 + 4) = some (Value.int IntKind.i64 x_3) ∧
                                    C Tryz.prog 148 #[Value.int IntKind.u64 n] h fun (r : Value) (h' : Heap) =>
                                      ∃ (x_4 : Int),
                                        r = Value.int IntKind.u64 x_4 ∧
                                          C Tryz.prog 73 #[Value.pointer x, Value.int IntKind.i64 (IntKind.i64.wrap (x_1 + iquo IntKind.i64 x_3 8)), Value.int IntKind.i64 (irem x_2 8), Value.int IntKind.u64 x_4] h'
                                            fun (r : Value) (h' : Heap) => ∃ (x : Int), r = Value.int IntKind.i64 x ∧ spare_Bank_say.J2 b n x h' Q) ∧
                                C Tryz.prog 148 #[Value.int IntKind.u64 n] h fun (r : Value) (h' : Heap) =>
                                  ∃ (x_3 : Int),
                                    r = Value.int IntKind.u64 x_3 ∧
                                      ∃ (x_4 : Int),
                                        h'.cell b_3 (o_2 + 4) = some (Value.int IntKind.i64 x_4) ∧
                                          C Tryz.prog 73 #[Value.pointer x, Value.int IntKind.i64 (IntKind.i64.wrap (x_1 + iquo IntKind.i64 x_4 8)), Value.int IntKind.i64 (irem x_2 8), Value.int IntKind.u64 x_3] h'
                                            fun (r : Value) (h' : Heap) => ∃ (x : Int), r = Value.int IntKind.i64 x ∧ spare_Bank_say.J2 b n x h' Q) ∧
                          C Tryz.prog 148 #[Value.int IntKind.u64 n] h fun (r : Value) (h' : Heap) =>
                            ∃ (x_2 : Int),
                              r = Value.int IntKind.u64 x_2 ∧
                                (∃ (x_3 : Int),
                                    h'.cell b_3 (o_2 + 4) = some (Value.int IntKind.i64 x_3) ∧
                                      ∃ (x_4 : Int),
                                        h'.cell b_4 (o_3 + 4) = some (Value.int IntKind.i64 x_4) ∧
                                          C Tryz.prog 73 #[Value.pointer x, Value.int IntKind.i64 (IntKind.i64.wrap (x_1 + iquo IntKind.i64 x_3 8)), Value.int IntKind.i64 (irem x_4 8), Value.int IntKind.u64 x_2] h'
                                            fun (r : Value) (h' : Heap) => ∃ (x : Int), r = Value.int IntKind.i64 x ∧ spare_Bank_say.J2 b n x h' Q) ∧
                                  ∃ (x_3 : Int),
                                    h'.cell b_4 (o_3 + 4) = some (Value.int IntKind.i64 x_3) ∧
                                      ∃ (x_4 : Int),
                                        h'.cell b_3 (o_2 + 4) = some (Value.int IntKind.i64 x_4) ∧
                                          C Tryz.prog 73 #[Value.pointer x, Value.int IntKind.i64 (IntKind.i64.wrap (x_1 + iquo IntKind.i64 x_4 8)), Value.int IntKind.i64 (irem x_3 8), Value.int IntKind.u64 x_2] h'
                                            fun (r : Value) (h' : Heap) => ∃ (x : Int), r = Value.int IntKind.i64 x ∧ spare_Bank_say.J2 b n x h' Q) ∧
                  (∃ (x_1 : Int),
                      h.cell b_3 (o_2 + 4) = some (Value.int IntKind.i64 x_1) ∧
                        (∃ (x_2 : Int),
                            h.cell b_2 (o_1 + 1 + 0) = some (Value.int IntKind.i64 x_2) ∧
                              (∃ (x_3 : Int),
                                  h.cell b_4 (o_3 + 4) = some (Value.int IntKind.i64 x_3) ∧
                                    C Tryz.prog 148 #[Value.int IntKind.u64 n] h fun (r : Value) (h' : Heap) =>
                                      ∃ (x_4 : Int),
                                        r = Value.int IntKind.u64 x_4 ∧
                                          C Tryz.prog 73 #[Value.pointer x, Value.int IntKind.i64 (IntKind.i64.wrap (x_2 + iquo IntKind.i64 x_1 8)), Value.int IntKind.i64 (irem x_3 8), Value.int IntKind.u64 x_4] h'
                                            fun (r : Value) (h' : Heap) => ∃ (x : Int), r = Value.int IntKind.i64 x ∧ spare_Bank_say.J2 b n x h' Q) ∧
                                C Tryz.prog 148 #[Value.int IntKind.u64 n] h fun (r : Value) (h' : Heap) =>
                                  ∃ (x_3 : Int),
                                    r = Value.int IntKind.u64 x_3 ∧
                                      ∃ (x_4 : Int),
                                        h'.cell b_4 (o_3 + 4) = some (Value.int IntKind.i64 x_4) ∧
                                          C Tryz.prog 73 #[Value.pointer x, Value.int IntKind.i64 (IntKind.i64.wrap (x_2 + iquo IntKind.i64 x_1 8)), Value.int IntKind.i64 (irem x_4 8), Value.int IntKind.u64 x_3] h'
                                            fun (r : Value) (h' : Heap) => ∃ (x : Int), r = Value.int IntKind.i64 x ∧ spare_Bank_say.J2 b n x h' Q) ∧
                          (∃ (x_2 : Int),
                              h.cell b_4 (o_3 + 4) = some (Value.int IntKind.i64 x_2) ∧
                                (∃ (x_3 : Int),
                                    h.cell b_2 (o_1 + 1 + 0) = some (Value.int IntKind.i64 x_3) ∧
                                      C Tryz.prog 148 #[Value.int IntKind.u64 n] h fun (r : Value) (h' : Heap) =>
                                        ∃ (x_4 : Int),
                                          r = Value.int IntKind.u64 x_4 ∧
                                            C Tryz.prog 73 #[Value.pointer x, Value.int IntKind.i64 (IntKind.i64.wrap (x_3 + iquo IntKind.i64 x_1 8)), Value.int IntKind.i64 (irem x_2 8), Value.int IntKind.u64 x_4] h'
                                              fun (r : Value) (h' : Heap) => ∃ (x : Int), r = Value.int IntKind.i64 x ∧ spare_Bank_say.J2 b n x h' Q) ∧
                                  C Tryz.prog 148 #[Value.int IntKind.u64 n] h fun (r : Value) (h' : Heap) =>
                                    ∃ (x_3 : Int),
                                      r = Value.int IntKind.u64 x_3 ∧
                                        ∃ (x_4 : Int),
                                          h'.cell b_2 (o_1 + 1 + 0) = some (Value.int IntKind.i64 x_4) ∧
                                            C Tryz.prog 73 #[Value.pointer x, Value.int IntKind.i64 (IntKind.i64.wrap (x_4 + iquo IntKind.i64 x_1 8)), Value.int IntKind.i64 (irem x_2 8), Value.int IntKind.u64 x_3] h'
                                              fun (r : Value) (h' : Heap) => ∃ (x : Int), r = Value.int IntKind.i64 x ∧ spare_Bank_say.J2 b n x h' Q) ∧
                            C Tryz.prog 148 #[Value.int IntKind.u64 n] h fun (r : Value) (h' : Heap) =>
                              ∃ (x_2 : Int),
                                r = Value.int IntKind.u64 x_2 ∧
                                  (∃ (x_3 : Int),
                                      h'.cell b_2 (o_1 + 1 + 0) = some (Value.int IntKind.i64 x_3) ∧
                                        ∃ (x_4 : Int),
                                          h'.cell b_4 (o_3 + 4) = some (Value.int IntKind.i64 x_4) ∧
                                            C Tryz.prog 73 #[Value.pointer x, Value.int IntKind.i64 (IntKind.i64.wrap (x_3 + iquo IntKind.i64 x_1 8)), Value.int IntKind.i64 (irem x_4 8), Value.int IntKind.u64 x_2] h'
                                              fun (r : Value) (h' : Heap) => ∃ (x : Int), r = Value.int IntKind.i64 x ∧ spare_Bank_say.J2 b n x h' Q) ∧
                                    ∃ (x_3 : Int),
                                      h'.cell b_4 (o_3 + 4) = some (Value.int IntKind.i64 x_3) ∧
                                        ∃ (x_4 : Int),
                                          h'.cell b_2 (o_1 + 1 + 0) = some (Value.int IntKind.i64 x_4) ∧
                                            C Tryz.prog 73 #[Value.pointer x, Value.int IntKind.i64 (IntKind.i64.wrap (x_4 + iquo IntKind.i64 x_1 8)), Value.int IntKind.i64 (irem x_3 8), Value.int IntKind.u64 x_2] h'
                                              fun (r : Value) (h' : Heap) => ∃ (x : Int), r = Value.int IntKind.i64 x ∧ spare_Bank_say.J2 b n x h' Q) ∧
                    (∃ (x_1 : Int),
                        h.cell b_4 (o_3 + 4) = some (Value.int IntKind.i64 x_1) ∧
                          (∃ (x_2 : Int),
                              h.cell b_2 (o_1 + 1 + 0) = some (Value.int IntKind.i64 x_2) ∧
                                (∃ (x_3 : Int),
                                    h.cell b_3 (o_2 + 4) = some (Value.int IntKind.i64 x_3) ∧
                                      C Tryz.prog 148 #[Value.int IntKind.u64 n] h fun (r : Value) (h' : Heap) =>
                                        ∃ (x_4 : Int),
                                          r = Value.int IntKind.u64 x_4 ∧
                                            C Tryz.prog 73 #[Value.pointer x, Value.int IntKind.i64 (IntKind.i64.wrap (x_2 + iquo IntKind.i64 x_3 8)), Value.int IntKind.i64 (irem x_1 8), Value.int IntKind.u64 x_4] h'
                                              fun (r : Value) (h' : Heap) => ∃ (x : Int), r = Value.int IntKind.i64 x ∧ spare_Bank_say.J2 b n x h' Q) ∧
                                  C Tryz.prog 148 #[Value.int IntKind.u64 n] h fun (r : Value) (h' : Heap) =>
                                    ∃ (x_3 : Int),
                                      r = Value.int IntKind.u64 x_3 ∧
                                        ∃ (x_4 : Int),
                                          h'.cell b_3 (o_2 + 4) = some (Value.int IntKind.i64 x_4) ∧
                                            C Tryz.prog 73 #[Value.pointer x, Value.int IntKind.i64 (IntKind.i64.wrap (x_2 + iquo IntKind.i64 x_4 8)), Value.int IntKind.i64 (irem x_1 8), Value.int IntKind.u64 x_3] h'
                                              fun (r : Value) (h' : Heap) => ∃ (x : Int), r = Value.int IntKind.i64 x ∧ spare_Bank_say.J2 b n x h' Q) ∧
                            (∃ (x_2 : Int),
                                h.cell b_3 (o_2 + 4) = some (Value.int IntKind.i64 x_2) ∧
                                  (∃ (x_3 : Int),
                                      h.cell b_2 (o_1 + 1 + 0) = some (Value.int IntKind.i64 x_3) ∧
                                        C Tryz.prog 148 #[Value.int IntKind.u64 n] h fun (r : Value) (h' : Heap) =>
                                          ∃ (x_4 : Int),
                                            r = Value.int IntKind.u64 x_4 ∧
                                              C Tryz.prog 73 #[Value.pointer x, Value.int IntKind.i64 (IntKind.i64.wrap (x_3 + iquo IntKind.i64 x_2 8)), Value.int IntKind.i64 (irem x_1 8), Value.int IntKind.u64 x_4] h'
                                                fun (r : Value) (h' : Heap) => ∃ (x : Int), r = Value.int IntKind.i64 x ∧ spare_Bank_say.J2 b n x h' Q) ∧
                                    C Tryz.prog 148 #[Value.int IntKind.u64 n] h fun (r : Value) (h' : Heap) =>
                                      ∃ (x_3 : Int),
                                        r = Value.int IntKind.u64 x_3 ∧
                                          ∃ (x_4 : Int),
                                            h'.cell b_2 (o_1 + 1 + 0) = some (Value.int IntKind.i64 x_4) ∧
                                              C Tryz.prog 73 #[Value.pointer x, Value.int IntKind.i64 (IntKind.i64.wrap (x_4 + iquo IntKind.i64 x_2 8)), Value.int IntKind.i64 (irem x_1 8), Value.int IntKind.u64 x_3] h'
                                                fun (r : Value) (h' : Heap) => ∃ (x : Int), r = Value.int IntKind.i64 x ∧ spare_Bank_say.J2 b n x h' Q) ∧
                              C Tryz.prog 148 #[Value.int IntKind.u64 n] h fun (r : Value) (h' : Heap) =>
                                ∃ (x_2 : Int),
                                  r = Value.int IntKind.u64 x_2 ∧
                                    ∃ (x_3 : Int),
                                      h'.cell b_3 (o_2 + 4) = some (Value.int IntKind.i64 x_3) ∧
                                        ∃ (x_4 : Int),
                                          h'.cell b_2 (o_1 + 1 + 0) = some (Value.int IntKind.i64 x_4) ∧
                                            C Tryz.prog 73 #[Value.pointer x, Value.int IntKind.i64 (IntKind.i64.wrap (x_4 + iquo IntKind.i64 x_3 8)), Value.int IntKind.i64 (irem x_1 8), Value.int IntKind.u64 x_2] h'
                                              fun (r : Value) (h' : Heap) => ∃ (x : Int), r = Value.int IntKind.i64 x ∧ spare_Bank_say.J2 b n x h' Q) ∧
                      C Tryz.prog 148 #[Value.int IntKind.u64 n] h fun (r : Value) (h' : Heap) =>
                        ∃ (x_1 : Int),
                          r = Value.int IntKind.u64 x_1 ∧
                            (∃ (x_2 : Int),
                                h'.cell b_2 (o_1 + 1 + 0) = some (Value.int IntKind.i64 x_2) ∧
                                  (∃ (x_3 : Int),
                                      h'.cell b_3 (o_2 + 4) = some (Value.int IntKind.i64 x_3) ∧
                                        ∃ (x_4 : Int),
                                          h'.cell b_4 (o_3 + 4) = some (Value.int IntKind.i64 x_4) ∧
                                            C Tryz.prog 73 #[Value.pointer x, Value.int IntKind.i64 (IntKind.i64.wrap (x_2 + iquo IntKind.i64 x_3 8)), Value.int IntKind.i64 (irem x_4 8), Value.int IntKind.u64 x_1] h'
                                              fun (r : Value) (h' : Heap) => ∃ (x : Int), r = Value.int IntKind.i64 x ∧ spare_Bank_say.J2 b n x h' Q) ∧
                                    ∃ (x_3 : Int),
                                      h'.cell b_4 (o_3 + 4) = some (Value.int IntKind.i64 x_3) ∧
                                        ∃ (x_4 : Int),
                                          h'.cell b_3 (o_2 + 4) = some (Value.int IntKind.i64 x_4) ∧
                                            C Tryz.prog 73 #[Value.pointer x, Value.int IntKind.i64 (IntKind.i64.wrap (x_2 + iquo IntKind.i64 x_4 8)), Value.int IntKind.i64 (irem x_3 8), Value.int IntKind.u64 x_1] h'
                                              fun (r : Value) (h' : Heap) => ∃ (x : Int), r = Value.int IntKind.i64 x ∧ spare_Bank_say.J2 b n x h' Q) ∧
                              (∃ (x_2 : Int),
                                  h'.cell b_3 (o_2 + 4) = some (Value.int IntKind.i64 x_2) ∧
                                    (∃ (x_3 : Int),
                                        h'.cell b_2 (o_1 + 1 + 0) = some (Value.int IntKind.i64 x_3) ∧
                                          ∃ (x_4 : Int),
                                            h'.cell b_4 (o_3 + 4) = some (Value.int IntKind.i64 x_4) ∧
                                              C Tryz.prog 73 #[Value.pointer x, Value.int IntKind.i64 (IntKind.i64.wrap (x_3 + iquo IntKind.i64 x_2 8)), Value.int IntKind.i64 (irem x_4 8), Value.int IntKind.u64 x_1] h'
                                                fun (r : Value) (h' : Heap) => ∃ (x : Int), r = Value.int IntKind.i64 x ∧ spare_Bank_say.J2 b n x h' Q) ∧
                                      ∃ (x_3 : Int),
                                        h'.cell b_4 (o_3 + 4) = some (Value.int IntKind.i64 x_3) ∧
                                          ∃ (x_4 : Int),
                                            h'.cell b_2 (o_1 + 1 + 0) = some (Value.int IntKind.i64 x_4) ∧
                                              C Tryz.prog 73 #[Value.pointer x, Value.int IntKind.i64 (IntKind.i64.wrap (x_4 + iquo IntKind.i64 x_2 8)), Value.int IntKind.i64 (irem x_3 8), Value.int IntKind.u64 x_1] h'
                                                fun (r : Value) (h' : Heap) => ∃ (x : Int), r = Value.int IntKind.i64 x ∧ spare_Bank_say.J2 b n x h' Q) ∧
                                ∃ (x_2 : Int),
                                  h'.cell b_4 (o_3 + 4) = some (Value.int IntKind.i64 x_2) ∧
                                    ∃ (x_3 : Int),
                                      h'.cell b_3 (o_2 + 4) = some (Value.int IntKind.i64 x_3) ∧
                                        ∃ (x_4 : Int),
                                          h'.cell b_2 (o_1 + 1 + 0) = some (Value.int IntKind.i64 x_4) ∧
                                            C Tryz.prog 73 #[Value.pointer x, Value.int IntKind.i64 (IntKind.i64.wrap (x_4 + iquo IntKind.i64 x_3 8)), Value.int IntKind.i64 (irem x_2 8), Value.int IntKind.u64 x_1] h'
                                              fun (r : Value) (h' : Heap) => ∃ (x : Int), r = Value.int IntKind.i64 x ∧ spare_Bank_say.J2 b n x h' Q) ∧
            (∃ (x : Int),
                h.cell b_2 (o_1 + 1 + 0) = some (Value.int IntKind.i64 x) ∧
                  (∃ (x_1 : Option Addr),
                      h.cell b_1 (o + 0) = some (Value.pointer x_1) ∧
                        (∃ (x_2 : Int),
                            h.cell b_3 (o_2 + 4) = some (Value.int IntKind.i64 x_2) ∧
                              (∃ (x_3 : Int),
                                  h.cell b_4 (o_3 + 4) = some (Value.int IntKind.i64 x_3) ∧
                                    C Tryz.prog 148 #[Value.int IntKind.u64 n] h fun (r : Value) (h' : Heap) =>
                                      ∃ (x_4 : Int),
                                        r = Value.int IntKind.u64 x_4 ∧
                                          C Tryz.prog 73 #[Value.pointer x_1, Value.int IntKind.i64 (IntKind.i64.wrap (x + iquo IntKind.i64 x_2 8)), Value.int IntKind.i64 (irem x_3 8), Value.int IntKind.u64 x_4] h'
                                            fun (r : Value) (h' : Heap) => ∃ (x : Int), r = Value.int IntKind.i64 x ∧ spare_Bank_say.J2 b n x h' Q) ∧
                                C Tryz.prog 148 #[Value.int IntKind.u64 n] h fun (r : Value) (h' : Heap) =>
                                  ∃ (x_3 : Int),
                                    r = Value.int IntKind.u64 x_3 ∧
                                      ∃ (x_4 : Int),
                                        h'.cell b_4 (o_3 + 4) = some (Value.int IntKind.i64 x_4) ∧
                                          C Tryz.prog 73 #[Value.pointer x_1, Value.int IntKind.i64 (IntKind.i64.wrap (x + iquo IntKind.i64 x_2 8)), Value.int IntKind.i64 (irem x_4 8), Value.int IntKind.u64 x_3] h'
                                            fun (r : Value) (h' : Heap) => ∃ (x : Int), r = Value.int IntKind.i64 x ∧ spare_Bank_say.J2 b n x h' Q) ∧
                          (∃ (x_2 : Int),
                              h.cell b_4 (o_3 + 4) = some (Value.int IntKind.i64 x_2) ∧
                                (∃ (x_3 : Int),
                                    h.cell b_3 (o_2 + 4) = some (Value.int IntKind.i64 x_3) ∧
                                      C Tryz.prog 148 #[Value.int IntKind.u64 n] h fun (r : Value) (h' : Heap) =>
                                        ∃ (x_4 : Int),
                                          r = Value.int IntKind.u64 x_4 ∧
                                            C Tryz.prog 73 #[Value.pointer x_1, Value.int IntKind.i64 (IntKind.i64.wrap (x + iquo IntKind.i64 x_3 8)), Value.int IntKind.i64 (irem x_2 8), Value.int IntKind.u64 x_4] h'
                                              fun (r : Value) (h' : Heap) => ∃ (x : Int), r = Value.int IntKind.i64 x ∧ spare_Bank_say.J2 b n x h' Q) ∧
                                  C Tryz.prog 148 #[Value.int IntKind.u64 n] h fun (r : Value) (h' : Heap) =>
                                    ∃ (x_3 : Int),
                                      r = Value.int IntKind.u64 x_3 ∧
                                        ∃ (x_4 : Int),
                                          h'.cell b_3 (o_2 + 4) = some (Value.int IntKind.i64 x_4) ∧
                                            C Tryz.prog 73 #[Value.pointer x_1, Value.int IntKind.i64 (IntKind.i64.wrap (x + iquo IntKind.i64 x_4 8)), Value.int IntKind.i64 (irem x_2 8), Value.int IntKind.u64 x_3] h'
                                              fun (r : Value) (h' : Heap) => ∃ (x : Int), r = Value.int IntKind.i64 x ∧ spare_Bank_say.J2 b n x h' Q) ∧
                            C Tryz.prog 148 #[Value.int IntKind.u64 n] h fun (r : Value) (h' : Heap) =>
                              ∃ (x_2 : Int),
                                r = Value.int IntKind.u64 x_2 ∧
                                  (∃ (x_3 : Int),
                                      h'.cell b_3 (o_2 + 4) = some (Value.int IntKind.i64 x_3) ∧
                                        ∃ (x_4 : Int),
                                          h'.cell b_4 (o_3 + 4) = some (Value.int IntKind.i64 x_4) ∧
                                            C Tryz.prog 73 #[Value.pointer x_1, Value.int IntKind.i64 (IntKind.i64.wrap (x + iquo IntKind.i64 x_3 8)), Value.int IntKind.i64 (irem x_4 8), Value.int IntKind.u64 x_2] h'
                                              fun (r : Value) (h' : Heap) => ∃ (x : Int), r = Value.int IntKind.i64 x ∧ spare_Bank_say.J2 b n x h' Q) ∧
                                    ∃ (x_3 : Int),
                                      h'.cell b_4 (o_3 + 4) = some (Value.int IntKind.i64 x_3) ∧
                                        ∃ (x_4 : Int),
                                          h'.cell b_3 (o_2 + 4) = some (Value.int IntKind.i64 x_4) ∧
                                            C Tryz.prog 73 #[Value.pointer x_1, Value.int IntKind.i64 (IntKind.i64.wrap (x + iquo IntKind.i64 x_4 8)), Value.int IntKind.i64 (irem x_3 8), Value.int IntKind.u64 x_2] h'
                                              fun (r : Value) (h' : Heap) => ∃ (x : Int), r = Value.int IntKind.i64 x ∧ spare_Bank_say.J2 b n x h' Q) ∧
                    (∃ (x_1 : Int),
                        h.cell b_3 (o_2 + 4) = some (Value.int IntKind.i64 x_1) ∧
                          (∃ (x_2 : Option Addr),
                              h.cell b_1 (o + 0) = some (Value.pointer x_2) ∧
                                (∃ (x_3 : Int),
                                    h.cell b_4 (o_3 + 4) = some (Value.int IntKind.i64 x_3) ∧
                                      C Tryz.prog 148 #[Value.int IntKind.u64 n] h fun (r : Value) (h' : Heap) =>
                                        ∃ (x_4 : Int),
                                          r = Value.int IntKind.u64 x_4 ∧
                                            C Tryz.prog 73 #[Value.pointer x_2, Value.int IntKind.i64 (IntKind.i64.wrap (x + iquo IntKind.i64 x_1 8)), Value.int IntKind.i64 (irem x_3 8), Value.int IntKind.u64 x_4] h'
                                              fun (r : Value) (h' : Heap) => ∃ (x : Int), r = Value.int IntKind.i64 x ∧ spare_Bank_say.J2 b n x h' Q) ∧
                                  C Tryz.prog 148 #[Value.int IntKind.u64 n] h fun (r : Value) (h' : Heap) =>
                                    ∃ (x_3 : Int),
                                      r = Value.int IntKind.u64 x_3 ∧
                                        ∃ (x_4 : Int),
                                          h'.cell b_4 (o_3 + 4) = some (Value.int IntKind.i64 x_4) ∧
                                            C Tryz.prog 73 #[Value.pointer x_2, Value.int IntKind.i64 (IntKind.i64.wrap (x + iquo IntKind.i64 x_1 8)), Value.int IntKind.i64 (irem x_4 8), Value.int IntKind.u64 x_3] h'
                                              fun (r : Value) (h' : Heap) => ∃ (x : Int), r = Value.int IntKind.i64 x ∧ spare_Bank_say.J2 b n x h' Q) ∧
                            (∃ (x_2 : Int),
                                h.cell b_4 (o_3 + 4) = some (Value.int IntKind.i64 x_2) ∧
                                  (∃ (x_3 : Option Addr),
                                      h.cell b_1 (o + 0) = some (Value.pointer x_3) ∧
                                        C Tryz.prog 148 #[Value.int IntKind.u64 n] h fun (r : Value) (h' : Heap) =>
                                          ∃ (x_4 : Int),
                                            r = Value.int IntKind.u64 x_4 ∧
                                              C Tryz.prog 73 #[Value.pointer x_3, Value.int IntKind.i64 (IntKind.i64.wrap (x + iquo IntKind.i64 x_1 8)), Value.int IntKind.i64 (irem x_2 8), Value.int IntKind.u64 x_4] h'
                                                fun (r : Value) (h' : Heap) => ∃ (x : Int), r = Value.int IntKind.i64 x ∧ spare_Bank_say.J2 b n x h' Q) ∧
                                    C Tryz.prog 148 #[Value.int IntKind.u64 n] h fun (r : Value) (h' : Heap) =>
                                      ∃ (x_3 : Int),
                                        r = Value.int IntKind.u64 x_3 ∧
                                          ∃ (x_4 : Option Addr),
                                            h'.cell b_1 (o + 0) = some (Value.pointer x_4) ∧
                                              C Tryz.prog 73 #[Value.pointer x_4, Value.int IntKind.i64 (IntKind.i64.wrap (x + iquo IntKind.i64 x_1 8)), Value.int IntKind.i64 (irem x_2 8), Value.int IntKind.u64 x_3] h'
                                                fun (r : Value) (h' : Heap) => ∃ (x : Int), r = Value.int IntKind.i64 x ∧ spare_Bank_say.J2 b n x h' Q) ∧
                              C Tryz.prog 148 #[Value.int IntKind.u64 n] h fun (r : Value) (h' : Heap) =>
                                ∃ (x_2 : Int),
                                  r = Value.int IntKind.u64 x_2 ∧
                                    ∃ (x_3 : Int),
                                      h'.cell b_4 (o_3 + 4) = some (Value.int IntKind.i64 x_3) ∧
                                        ∃ (x_4 : Option Addr),
                                          h'.cell b_1 (o + 0) = some (Value.pointer x_4) ∧
                                            C Tryz.prog 73 #[Value.pointer x_4, Value.int IntKind.i64 (IntKind.i64.wrap (x + iquo IntKind.i64 x_1 8)), Value.int IntKind.i64 (irem x_3 8), Value.int IntKind.u64 x_2] h'
                                              fun (r : Value) (h' : Heap) => ∃ (x : Int), r = Value.int IntKind.i64 x ∧ spare_Bank_say.J2 b n x h' Q) ∧
                      (∃ (x_1 : Int),
                          h.cell b_4 (o_3 + 4) = some (Value.int IntKind.i64 x_1) ∧
                            (∃ (x_2 : Option Addr),
                                h.cell b_1 (o + 0) = some (Value.pointer x_2) ∧
                                  (∃ (x_3 : Int),
                                      h.cell b_3 (o_2 + 4) = some (Value.int IntKind.i64 x_3) ∧
                                        C Tryz.prog 148 #[Value.int IntKind.u64 n] h fun (r : Value) (h' : Heap) =>
                                          ∃ (x_4 : Int),
                                            r = Value.int IntKind.u64 x_4 ∧
                                              C Tryz.prog 73 #[Value.pointer x_2, Value.int IntKind.i64 (IntKind.i64.wrap (x + iquo IntKind.i64 x_3 8)), Value.int IntKind.i64 (irem x_1 8), Value.int IntKind.u64 x_4] h'
                                                fun (r : Value) (h' : Heap) => ∃ (x : Int), r = Value.int IntKind.i64 x ∧ spare_Bank_say.J2 b n x h' Q) ∧
                                    C Tryz.prog 148 #[Value.int IntKind.u64 n] h fun (r : Value) (h' : Heap) =>
                                      ∃ (x_3 : Int),
                                        r = Value.int IntKind.u64 x_3 ∧
                                          ∃ (x_4 : Int),
                                            h'.cell b_3 (o_2 + 4) = some (Value.int IntKind.i64 x_4) ∧
                                              C Tryz.prog 73 #[Value.pointer x_2, Value.int IntKind.i64 (IntKind.i64.wrap (x + iquo IntKind.i64 x_4 8)), Value.int IntKind.i64 (irem x_1 8), Value.int IntKind.u64 x_3] h'
                                                fun (r : Value) (h' : Heap) => ∃ (x : Int), r = Value.int IntKind.i64 x ∧ spare_Bank_say.J2 b n x h' Q) ∧
                              (∃ (x_2 : Int),
                                  h.cell b_3 (o_2 + 4) = some (Value.int IntKind.i64 x_2) ∧
                                    (∃ (x_3 : Option Addr),
                                        h.cell b_1 (o + 0) = some (Value.pointer x_3) ∧
                                          C Tryz.prog 148 #[Value.int IntKind.u64 n] h fun (r : Value) (h' : Heap) =>
                                            ∃ (x_4 : Int),
                                              r = Value.int IntKind.u64 x_4 ∧
                                                C Tryz.prog 73 #[Value.pointer x_3, Value.int IntKind.i64 (IntKind.i64.wrap (x + iquo IntKind.i64 x_2 8)), Value.int IntKind.i64 (irem x_1 8), Value.int IntKind.u64 x_4] h'
                                                  fun (r : Value) (h' : Heap) => ∃ (x : Int), r = Value.int IntKind.i64 x ∧ spare_Bank_say.J2 b n x h' Q) ∧
                                      C Tryz.prog 148 #[Value.int IntKind.u64 n] h fun (r : Value) (h' : Heap) =>
                                        ∃ (x_3 : Int),
                                          r = Value.int IntKind.u64 x_3 ∧
                                            ∃ (x_4 : Option Addr),
                                              h'.cell b_1 (o + 0) = some (Value.pointer x_4) ∧
                                                C Tryz.prog 73 #[Value.pointer x_4, Value.int IntKind.i64 (IntKind.i64.wrap (x + iquo IntKind.i64 x_2 8)), Value.int IntKind.i64 (irem x_1 8), Value.int IntKind.u64 x_3] h'
                                                  fun (r : Value) (h' : Heap) => ∃ (x : Int), r = Value.int IntKind.i64 x ∧ spare_Bank_say.J2 b n x h' Q) ∧
                                C Tryz.prog 148 #[Value.int IntKind.u64 n] h fun (r : Value) (h' : Heap) =>
                                  ∃ (x_2 : Int),
                                    r = Value.int IntKind.u64 x_2 ∧
                                      ∃ (x_3 : Int),
                                        h'.cell b_3 (o_2 + 4) = some (Value.int IntKind.i64 x_3) ∧
                                          ∃ (x_4 : Option Addr),
                                            h'.cell b_1 (o + 0) = some (Value.pointer x_4) ∧
                                              C Tryz.prog 73 #[Value.pointer x_4, Value.int IntKind.i64 (IntKind.i64.wrap (x + iquo IntKind.i64 x_3 8)), Value.int IntKind.i64 (irem x_1 8), Value.int IntKind.u64 x_2] h'
                                                fun (r : Value) (h' : Heap) => ∃ (x : Int), r = Value.int IntKind.i64 x ∧ spare_Bank_say.J2 b n x h' Q) ∧
                        C Tryz.prog 148 #[Value.int IntKind.u64 n] h fun (r : Value) (h' : Heap) =>
                          ∃ (x_1 : Int),
                            r = Value.int IntKind.u64 x_1 ∧
                              (∃ (x_2 : Option Addr),
                                  h'.cell b_1 (o + 0) = some (Value.pointer x_2) ∧
                                    (∃ (x_3 : Int),
                                        h'.cell b_3 (o_2 + 4) = some (Value.int IntKind.i64 x_3) ∧
                                          ∃ (x_4 : Int),
                                            h'.cell b_4 (o_3 + 4) = some (Value.int IntKind.i64 x_4) ∧
                                              C Tryz.prog 73 #[Value.pointer x_2, Value.int IntKind.i64 (IntKind.i64.wrap (x + iquo IntKind.i64 x_3 8)), Value.int IntKind.i64 (irem x_4 8), Value.int IntKind.u64 x_1] h'
                                                fun (r : Value) (h' : Heap) => ∃ (x : Int), r = Value.int IntKind.i64 x ∧ spare_Bank_say.J2 b n x h' Q) ∧
                                      ∃ (x_3 : Int),
                                        h'.cell b_4 (o_3 + 4) = some (Value.int IntKind.i64 x_3) ∧
                                          ∃ (x_4 : Int),
                                            h'.cell b_3 (o_2 + 4) = some (Value.int IntKind.i64 x_4) ∧
                                              C Tryz.prog 73 #[Value.pointer x_2, Value.int IntKind.i64 (IntKind.i64.wrap (x + iquo IntKind.i64 x_4 8)), Value.int IntKind.i64 (irem x_3 8), Value.int IntKind.u64 x_1] h'
                                                fun (r : Value) (h' : Heap) => ∃ (x : Int), r = Value.int IntKind.i64 x ∧ spare_Bank_say.J2 b n x h' Q) ∧
                                (∃ (x_2 : Int),
                                    h'.cell b_3 (o_2 + 4) = some (Value.int IntKind.i64 x_2) ∧
                                      ∃ (x_3 : Int),
                                        h'.cell b_4 (o_3 + 4) = some (Value.int IntKind.i64 x_3) ∧
                                          ∃ (x_4 : Option Addr),
                                            h'.cell b_1 (o + 0) = some (Value.pointer x_4) ∧
                                              C Tryz.prog 73 #[Value.pointer x_4, Value.int IntKind.i64 (IntKind.i64.wrap (x + iquo IntKind.i64 x_2 8)), Value.int IntKind.i64 (irem x_3 8), Value.int IntKind.u64 x_1] h'
                                                fun (r : Value) (h' : Heap) => ∃ (x : Int), r = Value.int IntKind.i64 x ∧ spare_Bank_say.J2 b n x h' Q) ∧
                                  ∃ (x_2 : Int),
                                    h'.cell b_4 (o_3 + 4) = some (Value.int IntKind.i64 x_2) ∧
                                      ∃ (x_3 : Int),
                                        h'.cell b_3 (o_2 + 4) = some (Value.int IntKind.i64 x_3) ∧
                                          ∃ (x_4 : Option Addr),
                                            h'.cell b_1 (o + 0) = some (Value.pointer x_4) ∧
                                              C Tryz.prog 73 #[Value.pointer x_4, Value.int IntKind.i64 (IntKind.i64.wrap (x + iquo IntKind.i64 x_3 8)), Value.int IntKind.i64 (irem x_2 8), Value.int IntKind.u64 x_1] h'
                                                fun (r : Value) (h' : Heap) => ∃ (x : Int), r = Value.int IntKind.i64 x ∧ spare_Bank_say.J2 b n x h' Q) ∧
              (∃ (x : Int),
                  h.cell b_3 (o_2 + 4) = some (Value.int IntKind.i64 x) ∧
                    (∃ (x_1 : Option Addr),
                        h.cell b_1 (o + 0) = some (Value.pointer x_1) ∧
                          (∃ (x_2 : Int),
                              h.cell b_2 (o_1 + 1 + 0) = some (Value.int IntKind.i64 x_2) ∧
                                (∃ (x_3 : Int),
                                    h.cell b_4 (o_3 + 4) = some (Value.int IntKind.i64 x_3) ∧
                                      C Tryz.prog 148 #[Value.int IntKind.u64 n] h fun (r : Value) (h' : Heap) =>
                                        ∃ (x_4 : Int),
                                          r = Value.int IntKind.u64 x_4 ∧
                                            C Tryz.prog 73 #[Value.pointer x_1, Value.int IntKind.i64 (IntKind.i64.wrap (x_2 + iquo IntKind.i64 x 8)), Value.int IntKind.i64 (irem x_3 8), Value.int IntKind.u64 x_4] h'
                                              fun (r : Value) (h' : Heap) => ∃ (x : Int), r = Value.int IntKind.i64 x ∧ spare_Bank_say.J2 b n x h' Q) ∧
                                  C Tryz.prog 148 #[Value.int IntKind.u64 n] h fun (r : Value) (h' : Heap) =>
                                    ∃ (x_3 : Int),
                                      r = Value.int IntKind.u64 x_3 ∧
                                        ∃ (x_4 : Int),
                                          h'.cell b_4 (o_3 + 4) = some (Value.int IntKind.i64 x_4) ∧
                                            C Tryz.prog 73 #[Value.pointer x_1, Value.int IntKind.i64 (IntKind.i64.wrap (x_2 + iquo IntKind.i64 x 8)), Value.int IntKind.i64 (irem x_4 8), Value.int IntKind.u64 x_3] h'
                                              fun (r : Value) (h' : Heap) => ∃ (x : Int), r = Value.int IntKind.i64 x ∧ spare_Bank_say.J2 b n x h' Q) ∧
                            (∃ (x_2 : Int),
                                h.cell b_4 (o_3 + 4) = some (Value.int IntKind.i64 x_2) ∧
                                  (∃ (x_3 : Int),
                                      h.cell b_2 (o_1 + 1 + 0) = some (Value.int IntKind.i64 x_3) ∧
                                        C Tryz.prog 148 #[Value.int IntKind.u64 n] h fun (r : Value) (h' : Heap) =>
                                          ∃ (x_4 : Int),
                                            r = Value.int IntKind.u64 x_4 ∧
                                              C Tryz.prog 73 #[Value.pointer x_1, Value.int IntKind.i64 (IntKind.i64.wrap (x_3 + iquo IntKind.i64 x 8)), Value.int IntKind.i64 (irem x_2 8), Value.int IntKind.u64 x_4] h'
                                                fun (r : Value) (h' : Heap) => ∃ (x : Int), r = Value.int IntKind.i64 x ∧ spare_Bank_say.J2 b n x h' Q) ∧
                                    C Tryz.prog 148 #[Value.int IntKind.u64 n] h fun (r : Value) (h' : Heap) =>
                                      ∃ (x_3 : Int),
                                        r = Value.int IntKind.u64 x_3 ∧
                                          ∃ (x_4 : Int),
                                            h'.cell b_2 (o_1 + 1 + 0) = some (Value.int IntKind.i64 x_4) ∧
                                              C Tryz.prog 73 #[Value.pointer x_1, Value.int IntKind.i64 (IntKind.i64.wrap (x_4 + iquo IntKind.i64 x 8)), Value.int IntKind.i64 (irem x_2 8), Value.int IntKind.u64 x_3] h'
                                                fun (r : Value) (h' : Heap) => ∃ (x : Int), r = Value.int IntKind.i64 x ∧ spare_Bank_say.J2 b n x h' Q) ∧
                              C Tryz.prog 148 #[Value.int IntKind.u64 n] h fun (r : Value) (h' : Heap) =>
                                ∃ (x_2 : Int),
                                  r = Value.int IntKind.u64 x_2 ∧
                                    (∃ (x_3 : Int),
                                        h'.cell b_2 (o_1 + 1 + 0) = some (Value.int IntKind.i64 x_3) ∧
                                          ∃ (x_4 : Int),
                                            h'.cell b_4 (o_3 + 4) = some (Value.int IntKind.i64 x_4) ∧
                                              C Tryz.prog 73 #[Value.pointer x_1, Value.int IntKind.i64 (IntKind.i64.wrap (x_3 + iquo IntKind.i64 x 8)), Value.int IntKind.i64 (irem x_4 8), Value.int IntKind.u64 x_2] h'
                                                fun (r : Value) (h' : Heap) => ∃ (x : Int), r = Value.int IntKind.i64 x ∧ spare_Bank_say.J2 b n x h' Q) ∧
                                      ∃ (x_3 : Int),
                                        h'.cell b_4 (o_3 + 4) = some (Value.int IntKind.i64 x_3) ∧
                                          ∃ (x_4 : Int),
                                            h'.cell b_2 (o_1 + 1 + 0) = some (Value.int IntKind.i64 x_4) ∧
                                              C Tryz.prog 73 #[Value.pointer x_1, Value.int IntKind.i64 (IntKind.i64.wrap (x_4 + iquo IntKind.i64 x 8)), Value.int IntKind.i64 (irem x_3 8), Value.int IntKind.u64 x_2] h'
                                                fun (r : Value) (h' : Heap) => ∃ (x : Int), r = Value.int IntKind.i64 x ∧ spare_Bank_say.J2 b n x h' Q) ∧
                      (∃ (x_1 : Int),
                          h.cell b_2 (o_1 + 1 + 0) = some (Value.int IntKind.i64 x_1) ∧
                            (∃ (x_2 : Option Addr),
                                h.cell b_1 (o + 0) = some (Value.pointer x_2) ∧
                                  (∃ (x_3 : Int),
                                      h.cell b_4 (o_3 + 4) = some (Value.int IntKind.i64 x_3) ∧
                                        C Tryz.prog 148 #[Value.int IntKind.u64 n] h fun (r : Value) (h' : Heap) =>
                                          ∃ (x_4 : Int),
                                            r = Value.int IntKind.u64 x_4 ∧
                                              C Tryz.prog 73 #[Value.pointer x_2, Value.int IntKind.i64 (IntKind.i64.wrap (x_1 + iquo IntKind.i64 x 8)), Value.int IntKind.i64 (irem x_3 8), Value.int IntKind.u64 x_4] h'
                                                fun (r : Value) (h' : Heap) => ∃ (x : Int), r = Value.int IntKind.i64 x ∧ spare_Bank_say.J2 b n x h' Q) ∧
                                    C Tryz.prog 148 #[Value.int IntKind.u64 n] h fun (r : Value) (h' : Heap) =>
                                      ∃ (x_3 : Int),
                                        r = Value.int IntKind.u64 x_3 ∧
                                          ∃ (x_4 : Int),
                                            h'.cell b_4 (o_3 + 4) = some (Value.int IntKind.i64 x_4) ∧
                                              C Tryz.prog 73 #[Value.pointer x_2, Value.int IntKind.i64 (IntKind.i64.wrap (x_1 + iquo IntKind.i64 x 8)), Value.int IntKind.i64 (irem x_4 8), Value.int IntKind.u64 x_3] h'
                                                fun (r : Value) (h' : Heap) => ∃ (x : Int), r = Value.int IntKind.i64 x ∧ spare_Bank_say.J2 b n x h' Q) ∧
                              (∃ (x_2 : Int),
                                  h.cell b_4 (o_3 + 4) = some (Value.int IntKind.i64 x_2) ∧
                                    (∃ (x_3 : Option Addr),
                                        h.cell b_1 (o + 0) = some (Value.pointer x_3) ∧
                                          C Tryz.prog 148 #[Value.int IntKind.u64 n] h fun (r : Value) (h' : Heap) =>
                                            ∃ (x_4 : Int),
                                              r = Value.int IntKind.u64 x_4 ∧
                                                C Tryz.prog 73 #[Value.pointer x_3, Value.int IntKind.i64 (IntKind.i64.wrap (x_1 + iquo IntKind.i64 x 8)), Value.int IntKind.i64 (irem x_2 8), Value.int IntKind.u64 x_4] h'
                                                  fun (r : Value) (h' : Heap) => ∃ (x : Int), r = Value.int IntKind.i64 x ∧ spare_Bank_say.J2 b n x h' Q) ∧
                                      C Tryz.prog 148 #[Value.int IntKind.u64 n] h fun (r : Value) (h' : Heap) =>
                                        ∃ (x_3 : Int),
                                          r = Value.int IntKind.u64 x_3 ∧
                                            ∃ (x_4 : Option Addr),
                                              h'.cell b_1 (o + 0) = some (Value.pointer x_4) ∧
                                                C Tryz.prog 73 #[Value.pointer x_4, Value.int IntKind.i64 (IntKind.i64.wrap (x_1 + iquo IntKind.i64 x 8)), Value.int IntKind.i64 (irem x_2 8), Value.int IntKind.u64 x_3] h'
                                                  fun (r : Value) (h' : Heap) => ∃ (x : Int), r = Value.int IntKind.i64 x ∧ spare_Bank_say.J2 b n x h' Q) ∧
                                C Tryz.prog 148 #[Value.int IntKind.u64 n] h fun (r : Value) (h' : Heap) =>
                                  ∃ (x_2 : Int),
                                    r = Value.int IntKind.u64 x_2 ∧
                                      ∃ (x_3 : Int),
                                        h'.cell b_4 (o_3 + 4) = some (Value.int IntKind.i64 x_3) ∧
                                          ∃ (x_4 : Option Addr),
                                            h'.cell b_1 (o + 0) = some (Value.pointer x_4) ∧
                                              C Tryz.prog 73 #[Value.pointer x_4, Value.int IntKind.i64 (IntKind.i64.wrap (x_1 + iquo IntKind.i64 x 8)), Value.int IntKind.i64 (irem x_3 8), Value.int IntKind.u64 x_2] h'
                                                fun (r : Value) (h' : Heap) => ∃ (x : Int), r = Value.int IntKind.i64 x ∧ spare_Bank_say.J2 b n x h' Q) ∧
                        (∃ (x_1 : Int),
                            h.cell b_4 (o_3 + 4) = some (Value.int IntKind.i64 x_1) ∧
                              (∃ (x_2 : Option Addr),
                                  h.cell b_1 (o + 0) = some (Value.pointer x_2) ∧
                                    (∃ (x_3 : Int),
                                        h.cell b_2 (o_1 + 1 + 0) = some (Value.int IntKind.i64 x_3) ∧
                                          C Tryz.prog 148 #[Value.int IntKind.u64 n] h fun (r : Value) (h' : Heap) =>
                                            ∃ (x_4 : Int),
                                              r = Value.int IntKind.u64 x_4 ∧
                                                C Tryz.prog 73 #[Value.pointer x_2, Value.int IntKind.i64 (IntKind.i64.wrap (x_3 + iquo IntKind.i64 x 8)), Value.int IntKind.i64 (irem x_1 8), Value.int IntKind.u64 x_4] h'
                                                  fun (r : Value) (h' : Heap) => ∃ (x : Int), r = Value.int IntKind.i64 x ∧ spare_Bank_say.J2 b n x h' Q) ∧
                                      C Tryz.prog 148 #[Value.int IntKind.u64 n] h fun (r : Value) (h' : Heap) =>
                                        ∃ (x_3 : Int),
                                          r = Value.int IntKind.u64 x_3 ∧
                                            ∃ (x_4 : Int),
                                              h'.cell b_2 (o_1 + 1 + 0) = some (Value.int IntKind.i64 x_4) ∧
                                                C Tryz.prog 73 #[Value.pointer x_2, Value.int IntKind.i64 (IntKind.i64.wrap (x_4 + iquo IntKind.i64 x 8)), Value.int IntKind.i64 (irem x_1 8), Value.int IntKind.u64 x_3] h'
                                                  fun (r : Value) (h' : Heap) => ∃ (x : Int), r = Value.int IntKind.i64 x ∧ spare_Bank_say.J2 b n x h' Q) ∧
                                (∃ (x_2 : Int),
                                    h.cell b_2 (o_1 + 1 + 0) = some (Value.int IntKind.i64 x_2) ∧
                                      (∃ (x_3 : Option Addr),
                                          h.cell b_1 (o + 0) = some (Value.pointer x_3) ∧
                                            C Tryz.prog 148 #[Value.int IntKind.u64 n] h fun (r : Value) (h' : Heap) =>
                                              ∃ (x_4 : Int),
                                                r = Value.int IntKind.u64 x_4 ∧
                                                  C Tryz.prog 73 #[Value.pointer x_3, Value.int IntKind.i64 (IntKind.i64.wrap (x_2 + iquo IntKind.i64 x 8)), Value.int IntKind.i64 (irem x_1 8), Value.int IntKind.u64 x_4] h'
                                                    fun (r : Value) (h' : Heap) => ∃ (x : Int), r = Value.int IntKind.i64 x ∧ spare_Bank_say.J2 b n x h' Q) ∧
                                        C Tryz.prog 148 #[Value.int IntKind.u64 n] h fun (r : Value) (h' : Heap) =>
                                          ∃ (x_3 : Int),
                                            r = Value.int IntKind.u64 x_3 ∧
                                              ∃ (x_4 : Option Addr),
                                                h'.cell b_1 (o + 0) = some (Value.pointer x_4) ∧
                                                  C Tryz.prog 73 #[Value.pointer x_4, Value.int IntKind.i64 (IntKind.i64.wrap (x_2 + iquo IntKind.i64 x 8)), Value.int IntKind.i64 (irem x_1 8), Value.int IntKind.u64 x_3] h'
                                                    fun (r : Value) (h' : Heap) => ∃ (x : Int), r = Value.int IntKind.i64 x ∧ spare_Bank_say.J2 b n x h' Q) ∧
                                  C Tryz.prog 148 #[Value.int IntKind.u64 n] h fun (r : Value) (h' : Heap) =>
                                    ∃ (x_2 : Int),
                                      r = Value.int IntKind.u64 x_2 ∧
                                        ∃ (x_3 : Int),
                                          h'.cell b_2 (o_1 + 1 + 0) = some (Value.int IntKind.i64 x_3) ∧
                                            ∃ (x_4 : Option Addr),
                                              h'.cell b_1 (o + 0) = some (Value.pointer x_4) ∧
                                                C Tryz.prog 73 #[Value.pointer x_4, Value.int IntKind.i64 (IntKind.i64.wrap (x_3 + iquo IntKind.i64 x 8)), Value.int IntKind.i64 (irem x_1 8), Value.int IntKind.u64 x_2] h'
                                                  fun (r : Value) (h' : Heap) => ∃ (x : Int), r = Value.int IntKind.i64 x ∧ spare_Bank_say.J2 b n x h' Q) ∧
                          C Tryz.prog 148 #[Value.int IntKind.u64 n] h fun (r : Value) (h' : Heap) =>
                            ∃ (x_1 : Int),
                              r = Value.int IntKind.u64 x_1 ∧
                                (∃ (x_2 : Option Addr),
                                    h'.cell b_1 (o + 0) = some (Value.pointer x_2) ∧
                                      (∃ (x_3 : Int),
                                          h'.cell b_2 (o_1 + 1 + 0) = some (Value.int IntKind.i64 x_3) ∧
                                            ∃ (x_4 : Int),
                                              h'.cell b_4 (o_3 + 4) = some (Value.int IntKind.i64 x_4) ∧
                                                C Tryz.prog 73 #[Value.pointer x_2, Value.int IntKind.i64 (IntKind.i64.wrap (x_3 + iquo IntKind.i64 x 8)), Value.int IntKind.i64 (irem x_4 8), Value.int IntKind.u64 x_1] h'
                                                  fun (r : Value) (h' : Heap) => ∃ (x : Int), r = Value.int IntKind.i64 x ∧ spare_Bank_say.J2 b n x h' Q) ∧
                                        ∃ (x_3 : Int),
                                          h'.cell b_4 (o_3 + 4) = some (Value.int IntKind.i64 x_3) ∧
                                            ∃ (x_4 : Int),
                                              h'.cell b_2 (o_1 + 1 + 0) = some (Value.int IntKind.i64 x_4) ∧
                                                C Tryz.prog 73 #[Value.pointer x_2, Value.int IntKind.i64 (IntKind.i64.wrap (x_4 + iquo IntKind.i64 x 8)), Value.int IntKind.i64 (irem x_3 8), Value.int IntKind.u64 x_1] h'
                                                  fun (r : Value) (h' : Heap) => ∃ (x : Int), r = Value.int IntKind.i64 x ∧ spare_Bank_say.J2 b n x h' Q) ∧
                                  (∃ (x_2 : Int),
                                      h'.cell b_2 (o_1 + 1 + 0) = some (Value.int IntKind.i64 x_2) ∧
                                        ∃ (x_3 : Int),
                                          h'.cell b_4 (o_3 + 4) = some (Value.int IntKind.i64 x_3) ∧
                                            ∃ (x_4 : Option Addr),
                                              h'.cell b_1 (o + 0) = some (Value.pointer x_4) ∧
                                                C Tryz.prog 73 #[Value.pointer x_4, Value.int IntKind.i64 (IntKind.i64.wrap (x_2 + iquo IntKind.i64 x 8)), Value.int IntKind.i64 (irem x_3 8), Value.int IntKind.u64 x_1] h'
                                                  fun (r : Value) (h' : Heap) => ∃ (x : Int), r = Value.int IntKind.i64 x ∧ spare_Bank_say.J2 b n x h' Q) ∧
                                    ∃ (x_2 : Int),
                                      h'.cell b_4 (o_3 + 4) = some (Value.int IntKind.i64 x_2) ∧
                                        ∃ (x_3 : Int),
                                          h'.cell b_2 (o_1 + 1 + 0) = some (Value.int IntKind.i64 x_3) ∧
                                            ∃ (x_4 : Option Addr),
                                              h'.cell b_1 (o + 0) = some (Value.pointer x_4) ∧
                                                C Tryz.prog 73 #[Value.pointer x_4, Value.int IntKind.i64 (IntKind.i64.wrap (x_3 + iquo IntKind.i64 x 8)), Value.int IntKind.i64 (irem x_2 8), Value.int IntKind.u64 x_1] h'
                                                  fun (r : Value) (h' : Heap) => ∃ (x : Int), r = Value.int IntKind.i64 x ∧ spare_Bank_say.J2 b n x h' Q) ∧
                (∃ (x : Int),
                    h.cell b_4 (o_3 + 4) = some (Value.int IntKind.i64 x) ∧
                      (∃ (x_1 : Option Addr),
                          h.cell b_1 (o + 0) = some (Value.pointer x_1) ∧
                            (∃ (x_2 : Int),
                                h.cell b_2 (o_1 + 1 + 0) = some (Value.int IntKind.i64 x_2) ∧
                                  (∃ (x_3 : Int),
                                      h.cell b_3 (o_2 + 4) = some (Value.int IntKind.i64 x_3) ∧
                                        C Tryz.prog 148 #[Value.int IntKind.u64 n] h fun (r : Value) (h' : Heap) =>
                                          ∃ (x_4 : Int),
                                            r = Value.int IntKind.u64 x_4 ∧
                                              C Tryz.prog 73 #[Value.pointer x_1, Value.int IntKind.i64 (IntKind.i64.wrap (x_2 + iquo IntKind.i64 x_3 8)), Value.int IntKind.i64 (irem x 8), Value.int IntKind.u64 x_4] h'
                                                fun (r : Value) (h' : Heap) => ∃ (x : Int), r = Value.int IntKind.i64 x ∧ spare_Bank_say.J2 b n x h' Q) ∧
                                    C Tryz.prog 148 #[Value.int IntKind.u64 n] h fun (r : Value) (h' : Heap) =>
                                      ∃ (x_3 : Int),
                                        r = Value.int IntKind.u64 x_3 ∧
                                          ∃ (x_4 : Int),
                                            h'.cell b_3 (o_2 + 4) = some (Value.int IntKind.i64 x_4) ∧
                                              C Tryz.prog 73 #[Value.pointer x_1, Value.int IntKind.i64 (IntKind.i64.wrap (x_2 + iquo IntKind.i64 x_4 8)), Value.int IntKind.i64 (irem x 8), Value.int IntKind.u64 x_3] h'
                                                fun (r : Value) (h' : Heap) => ∃ (x : Int), r = Value.int IntKind.i64 x ∧ spare_Bank_say.J2 b n x h' Q) ∧
                              (∃ (x_2 : Int),
                                  h.cell b_3 (o_2 + 4) = some (Value.int IntKind.i64 x_2) ∧
                                    (∃ (x_3 : Int),
                                        h.cell b_2 (o_1 + 1 + 0) = some (Value.int IntKind.i64 x_3) ∧
                                          C Tryz.prog 148 #[Value.int IntKind.u64 n] h fun (r : Value) (h' : Heap) =>
                                            ∃ (x_4 : Int),
                                              r = Value.int IntKind.u64 x_4 ∧
                                                C Tryz.prog 73 #[Value.pointer x_1, Value.int IntKind.i64 (IntKind.i64.wrap (x_3 + iquo IntKind.i64 x_2 8)), Value.int IntKind.i64 (irem x 8), Value.int IntKind.u64 x_4] h'
                                                  fun (r : Value) (h' : Heap) => ∃ (x : Int), r = Value.int IntKind.i64 x ∧ spare_Bank_say.J2 b n x h' Q) ∧
                                      C Tryz.prog 148 #[Value.int IntKind.u64 n] h fun (r : Value) (h' : Heap) =>
                                        ∃ (x_3 : Int),
                                          r = Value.int IntKind.u64 x_3 ∧
                                            ∃ (x_4 : Int),
                                              h'.cell b_2 (o_1 + 1 + 0) = some (Value.int IntKind.i64 x_4) ∧
                                                C Tryz.prog 73 #[Value.pointer x_1, Value.int IntKind.i64 (IntKind.i64.wrap (x_4 + iquo IntKind.i64 x_2 8)), Value.int IntKind.i64 (irem x 8), Value.int IntKind.u64 x_3] h'
                                                  fun (r : Value) (h' : Heap) => ∃ (x : Int), r = Value.int IntKind.i64 x ∧ spare_Bank_say.J2 b n x h' Q) ∧
                                C Tryz.prog 148 #[Value.int IntKind.u64 n] h fun (r : Value) (h' : Heap) =>
                                  ∃ (x_2 : Int),
                                    r = Value.int IntKind.u64 x_2 ∧
                                      ∃ (x_3 : Int),
                                        h'.cell b_3 (o_2 + 4) = some (Value.int IntKind.i64 x_3) ∧
                                          ∃ (x_4 : Int),
                                            h'.cell b_2 (o_1 + 1 + 0) = some (Value.int IntKind.i64 x_4) ∧
                                              C Tryz.prog 73 #[Value.pointer x_1, Value.int IntKind.i64 (IntKind.i64.wrap (x_4 + iquo IntKind.i64 x_3 8)), Value.int IntKind.i64 (irem x 8), Value.int IntKind.u64 x_2] h'
                                                fun (r : Value) (h' : Heap) => ∃ (x : Int), r = Value.int IntKind.i64 x ∧ spare_Bank_say.J2 b n x h' Q) ∧
                        (∃ (x_1 : Int),
                            h.cell b_2 (o_1 + 1 + 0) = some (Value.int IntKind.i64 x_1) ∧
                              (∃ (x_2 : Option Addr),
                                  h.cell b_1 (o + 0) = some (Value.pointer x_2) ∧
                                    (∃ (x_3 : Int),
                                        h.cell b_3 (o_2 + 4) = some (Value.int IntKind.i64 x_3) ∧
                                          C Tryz.prog 148 #[Value.int IntKind.u64 n] h fun (r : Value) (h' : Heap) =>
                                            ∃ (x_4 : Int),
                                              r = Value.int IntKind.u64 x_4 ∧
                                                C Tryz.prog 73 #[Value.pointer x_2, Value.int IntKind.i64 (IntKind.i64.wrap (x_1 + iquo IntKind.i64 x_3 8)), Value.int IntKind.i64 (irem x 8), Value.int IntKind.u64 x_4] h'
                                                  fun (r : Value) (h' : Heap) => ∃ (x : Int), r = Value.int IntKind.i64 x ∧ spare_Bank_say.J2 b n x h' Q) ∧
                                      C Tryz.prog 148 #[Value.int IntKind.u64 n] h fun (r : Value) (h' : Heap) =>
                                        ∃ (x_3 : Int),
                                          r = Value.int IntKind.u64 x_3 ∧
                                            ∃ (x_4 : Int),
                                              h'.cell b_3 (o_2 + 4) = some (Value.int IntKind.i64 x_4) ∧
                                                C Tryz.prog 73 #[Value.pointer x_2, Value.int IntKind.i64 (IntKind.i64.wrap (x_1 + iquo IntKind.i64 x_4 8)), Value.int IntKind.i64 (irem x 8), Value.int IntKind.u64 x_3] h'
                                                  fun (r : Value) (h' : Heap) => ∃ (x : Int), r = Value.int IntKind.i64 x ∧ spare_Bank_say.J2 b n x h' Q) ∧
                                (∃ (x_2 : Int),
                                    h.cell b_3 (o_2 + 4) = some (Value.int IntKind.i64 x_2) ∧
                                      (∃ (x_3 : Option Addr),
                                          h.cell b_1 (o + 0) = some (Value.pointer x_3) ∧
                                            C Tryz.prog 148 #[Value.int IntKind.u64 n] h fun (r : Value) (h' : Heap) =>
                                              ∃ (x_4 : Int),
                                                r = Value.int IntKind.u64 x_4 ∧
                                                  C Tryz.prog 73 #[Value.pointer x_3, Value.int IntKind.i64 (IntKind.i64.wrap (x_1 + iquo IntKind.i64 x_2 8)), Value.int IntKind.i64 (irem x 8), Value.int IntKind.u64 x_4] h'
                                                    fun (r : Value) (h' : Heap) => ∃ (x : Int), r = Value.int IntKind.i64 x ∧ spare_Bank_say.J2 b n x h' Q) ∧
                                        C Tryz.prog 148 #[Value.int IntKind.u64 n] h fun (r : Value) (h' : Heap) =>
                                          ∃ (x_3 : Int),
                                            r = Value.int IntKind.u64 x_3 ∧
                                              ∃ (x_4 : Option Addr),
                                                h'.cell b_1 (o + 0) = some (Value.pointer x_4) ∧
                                                  C Tryz.prog 73 #[Value.pointer x_4, Value.int IntKind.i64 (IntKind.i64.wrap (x_1 + iquo IntKind.i64 x_2 8)), Value.int IntKind.i64 (irem x 8), Value.int IntKind.u64 x_3] h'
                                                    fun (r : Value) (h' : Heap) => ∃ (x : Int), r = Value.int IntKind.i64 x ∧ spare_Bank_say.J2 b n x h' Q) ∧
                                  C Tryz.prog 148 #[Value.int IntKind.u64 n] h fun (r : Value) (h' : Heap) =>
                                    ∃ (x_2 : Int),
                                      r = Value.int IntKind.u64 x_2 ∧
                                        ∃ (x_3 : Int),
                                          h'.cell b_3 (o_2 + 4) = some (Value.int IntKind.i64 x_3) ∧
                                            ∃ (x_4 : Option Addr),
                                              h'.cell b_1 (o + 0) = some (Value.pointer x_4) ∧
                                                C Tryz.prog 73 #[Value.pointer x_4, Value.int IntKind.i64 (IntKind.i64.wrap (x_1 + iquo IntKind.i64 x_3 8)), Value.int IntKind.i64 (irem x 8), Value.int IntKind.u64 x_2] h'
                                                  fun (r : Value) (h' : Heap) => ∃ (x : Int), r = Value.int IntKind.i64 x ∧ spare_Bank_say.J2 b n x h' Q) ∧
                          (∃ (x_1 : Int),
                              h.cell b_3 (o_2 + 4) = some (Value.int IntKind.i64 x_1) ∧
                                (∃ (x_2 : Option Addr),
                                    h.cell b_1 (o + 0) = some (Value.pointer x_2) ∧
                                      (∃ (x_3 : Int),
                                          h.cell b_2 (o_1 + 1 + 0) = some (Value.int IntKind.i64 x_3) ∧
                                            C Tryz.prog 148 #[Value.int IntKind.u64 n] h fun (r : Value) (h' : Heap) =>
                                              ∃ (x_4 : Int),
                                                r = Value.int IntKind.u64 x_4 ∧
                                                  C Tryz.prog 73 #[Value.pointer x_2, Value.int IntKind.i64 (IntKind.i64.wrap (x_3 + iquo IntKind.i64 x_1 8)), Value.int IntKind.i64 (irem x 8), Value.int IntKind.u64 x_4] h'
                                                    fun (r : Value) (h' : Heap) => ∃ (x : Int), r = Value.int IntKind.i64 x ∧ spare_Bank_say.J2 b n x h' Q) ∧
                                        C Tryz.prog 148 #[Value.int IntKind.u64 n] h fun (r : Value) (h' : Heap) =>
                                          ∃ (x_3 : Int),
                                            r = Value.int IntKind.u64 x_3 ∧
                                              ∃ (x_4 : Int),
                                                h'.cell b_2 (o_1 + 1 + 0) = some (Value.int IntKind.i64 x_4) ∧
                                                  C Tryz.prog 73 #[Value.pointer x_2, Value.int IntKind.i64 (IntKind.i64.wrap (x_4 + iquo IntKind.i64 x_1 8)), Value.int IntKind.i64 (irem x 8), Value.int IntKind.u64 x_3] h'
                                                    fun (r : Value) (h' : Heap) => ∃ (x : Int), r = Value.int IntKind.i64 x ∧ spare_Bank_say.J2 b n x h' Q) ∧
                                  (∃ (x_2 : Int),
                                      h.cell b_2 (o_1 + 1 + 0) = some (Value.int IntKind.i64 x_2) ∧
                                        (∃ (x_3 : Option Addr),
                                            h.cell b_1 (o + 0) = some (Value.pointer x_3) ∧
                                              C Tryz.prog 148 #[Value.int IntKind.u64 n] h fun (r : Value) (h' : Heap) =>
                                                ∃ (x_4 : Int),
                                                  r = Value.int IntKind.u64 x_4 ∧
                                                    C Tryz.prog 73 #[Value.pointer x_3, Value.int IntKind.i64 (IntKind.i64.wrap (x_2 + iquo IntKind.i64 x_1 8)), Value.int IntKind.i64 (irem x 8), Value.int IntKind.u64 x_4] h'
                                                      fun (r : Value) (h' : Heap) => ∃ (x : Int), r = Value.int IntKind.i64 x ∧ spare_Bank_say.J2 b n x h' Q) ∧
                                          C Tryz.prog 148 #[Value.int IntKind.u64 n] h fun (r : Value) (h' : Heap) =>
                                            ∃ (x_3 : Int),
                                              r = Value.int IntKind.u64 x_3 ∧
                                                ∃ (x_4 : Option Addr),
                                                  h'.cell b_1 (o + 0) = some (Value.pointer x_4) ∧
                                                    C Tryz.prog 73 #[Value.pointer x_4, Value.int IntKind.i64 (IntKind.i64.wrap (x_2 + iquo IntKind.i64 x_1 8)), Value.int IntKind.i64 (irem x 8), Value.int IntKind.u64 x_3] h'
                                                      fun (r : Value) (h' : Heap) => ∃ (x : Int), r = Value.int IntKind.i64 x ∧ spare_Bank_say.J2 b n x h' Q) ∧
                                    C Tryz.prog 148 #[Value.int IntKind.u64 n] h fun (r : Value) (h' : Heap) =>
                                      ∃ (x_2 : Int),
                                        r = Value.int IntKind.u64 x_2 ∧
                                          ∃ (x_3 : Int),
                                            h'.cell b_2 (o_1 + 1 + 0) = some (Value.int IntKind.i64 x_3) ∧
                                              ∃ (x_4 : Option Addr),
                                                h'.cell b_1 (o + 0) = some (Value.pointer x_4) ∧
                                                  C Tryz.prog 73 #[Value.pointer x_4, Value.int IntKind.i64 (IntKind.i64.wrap (x_3 + iquo IntKind.i64 x_1 8)), Value.int IntKind.i64 (irem x 8), Value.int IntKind.u64 x_2] h'
                                                    fun (r : Value) (h' : Heap) => ∃ (x : Int), r = Value.int IntKind.i64 x ∧ spare_Bank_say.J2 b n x h' Q) ∧
                            C Tryz.prog 148 #[Value.int IntKind.u64 n] h fun (r : Value) (h' : Heap) =>
                              ∃ (x_1 : Int),
                                r = Value.int IntKind.u64 x_1 ∧
                                  ∃ (x_2 : Int),
                                    h'.cell b_3 (o_2 + 4) = some (Value.int IntKind.i64 x_2) ∧
                                      ∃ (x_3 : Int),
                                        h'.cell b_2 (o_1 + 1 + 0) = some (Value.int IntKind.i64 x_3) ∧
                                          ∃ (x_4 : Option Addr),
                                            h'.cell b_1 (o + 0) = some (Value.pointer x_4) ∧
                                              C Tryz.prog 73 #[Value.pointer x_4, Value.int IntKind.i64 (IntKind.i64.wrap (x_3 + iquo IntKind.i64 x_2 8)), Value.int IntKind.i64 (irem x 8), Value.int IntKind.u64 x_1] h'
                                                fun (r : Value) (h' : Heap) => ∃ (x : Int), r = Value.int IntKind.i64 x ∧ spare_Bank_say.J2 b n x h' Q) ∧
                  C Tryz.prog 148 #[Value.int IntKind.u64 n] h fun (r : Value) (h' : Heap) =>
                    ∃ (x : Int),
                      r = Value.int IntKind.u64 x ∧
                        (∃ (x_1 : Option Addr),
                            h'.cell b_1 (o + 0) = some (Value.pointer x_1) ∧
                              (∃ (x_2 : Int),
                                  h'.cell b_2 (o_1 + 1 + 0) = some (Value.int IntKind.i64 x_2) ∧
                                    (∃ (x_3 : Int),
                                        h'.cell b_3 (o_2 + 4) = some (Value.int IntKind.i64 x_3) ∧
                                          ∃ (x_4 : Int),
                                            h'.cell b_4 (o_3 + 4) = some (Value.int IntKind.i64 x_4) ∧
                                              C Tryz.prog 73 #[Value.pointer x_1, Value.int IntKind.i64 (IntKind.i64.wrap (x_2 + iquo IntKind.i64 x_3 8)), Value.int IntKind.i64 (irem x_4 8), Value.int IntKind.u64 x] h'
                                                fun (r : Value) (h' : Heap) => ∃ (x : Int), r = Value.int IntKind.i64 x ∧ spare_Bank_say.J2 b n x h' Q) ∧
                                      ∃ (x_3 : Int),
                                        h'.cell b_4 (o_3 + 4) = some (Value.int IntKind.i64 x_3) ∧
                                          ∃ (x_4 : Int),
                                            h'.cell b_3 (o_2 + 4) = some (Value.int IntKind.i64 x_4) ∧
                                              C Tryz.prog 73 #[Value.pointer x_1, Value.int IntKind.i64 (IntKind.i64.wrap (x_2 + iquo IntKind.i64 x_4 8)), Value.int IntKind.i64 (irem x_3 8), Value.int IntKind.u64 x] h'
                                                fun (r : Value) (h' : Heap) => ∃ (x : Int), r = Value.int IntKind.i64 x ∧ spare_Bank_say.J2 b n x h' Q) ∧
                                (∃ (x_2 : Int),
                                    h'.cell b_3 (o_2 + 4) = some (Value.int IntKind.i64 x_2) ∧
                                      (∃ (x_3 : Int),
                                          h'.cell b_2 (o_1 + 1 + 0) = some (Value.int IntKind.i64 x_3) ∧
                                            ∃ (x_4 : Int),
                                              h'.cell b_4 (o_3 + 4) = some (Value.int IntKind.i64 x_4) ∧
                                                C Tryz.prog 73 #[Value.pointer x_1, Value.int IntKind.i64 (IntKind.i64.wrap (x_3 + iquo IntKind.i64 x_2 8)), Value.int IntKind.i64 (irem x_4 8), Value.int IntKind.u64 x] h'
                                                  fun (r : Value) (h' : Heap) => ∃ (x : Int), r = Value.int IntKind.i64 x ∧ spare_Bank_say.J2 b n x h' Q) ∧
                                        ∃ (x_3 : Int),
                                          h'.cell b_4 (o_3 + 4) = some (Value.int IntKind.i64 x_3) ∧
                                            ∃ (x_4 : Int),
                                              h'.cell b_2 (o_1 + 1 + 0) = some (Value.int IntKind.i64 x_4) ∧
                                                C Tryz.prog 73 #[Value.pointer x_1, Value.int IntKind.i64 (IntKind.i64.wrap (x_4 + iquo IntKind.i64 x_2 8)), Value.int IntKind.i64 (irem x_3 8), Value.int IntKind.u64 x] h'
                                                  fun (r : Value) (h' : Heap) => ∃ (x : Int), r = Value.int IntKind.i64 x ∧ spare_Bank_say.J2 b n x h' Q) ∧
                                  ∃ (x_2 : Int),
                                    h'.cell b_4 (o_3 + 4) = some (Value.int IntKind.i64 x_2) ∧
                                      ∃ (x_3 : Int),
                                        h'.cell b_3 (o_2 + 4) = some (Value.int IntKind.i64 x_3) ∧
                                          ∃ (x_4 : Int),
                                            h'.cell b_2 (o_1 + 1 + 0) = some (Value.int IntKind.i64 x_4) ∧
                                              C Tryz.prog 73 #[Value.pointer x_1, Value.int IntKind.i64 (IntKind.i64.wrap (x_4 + iquo IntKind.i64 x_3 8)), Value.int IntKind.i64 (irem x_2 8), Value.int IntKind.u64 x] h'
                                                fun (r : Value) (h' : Heap) => ∃ (x : Int), r = Value.int IntKind.i64 x ∧ spare_Bank_say.J2 b n x h' Q) ∧
                          (∃ (x_1 : Int),
                              h'.cell b_2 (o_1 + 1 + 0) = some (Value.int IntKind.i64 x_1) ∧
                                (∃ (x_2 : Option Addr),
                                    h'.cell b_1 (o + 0) = some (Value.pointer x_2) ∧
                                      (∃ (x_3 : Int),
                                          h'.cell b_3 (o_2 + 4) = some (Value.int IntKind.i64 x_3) ∧
                                            ∃ (x_4 : Int),
                                              h'.cell b_4 (o_3 + 4) = some (Value.int IntKind.i64 x_4) ∧
                                                C Tryz.prog 73 #[Value.pointer x_2, Value.int IntKind.i64 (IntKind.i64.wrap (x_1 + iquo IntKind.i64 x_3 8)), Value.int IntKind.i64 (irem x_4 8), Value.int IntKind.u64 x] h'
                                                  fun (r : Value) (h' : Heap) => ∃ (x : Int), r = Value.int IntKind.i64 x ∧ spare_Bank_say.J2 b n x h' Q) ∧
                                        ∃ (x_3 : Int),
                                          h'.cell b_4 (o_3 + 4) = some (Value.int IntKind.i64 x_3) ∧
                                            ∃ (x_4 : Int),
                                              h'.cell b_3 (o_2 + 4) = some (Value.int IntKind.i64 x_4) ∧
                                                C Tryz.prog 73 #[Value.pointer x_2, Value.int IntKind.i64 (IntKind.i64.wrap (x_1 + iquo IntKind.i64 x_4 8)), Value.int IntKind.i64 (irem x_3 8), Value.int IntKind.u64 x] h'
                                                  fun (r : Value) (h' : Heap) => ∃ (x : Int), r = Value.int IntKind.i64 x ∧ spare_Bank_say.J2 b n x h' Q) ∧
                                  (∃ (x_2 : Int),
                                      h'.cell b_3 (o_2 + 4) = some (Value.int IntKind.i64 x_2) ∧
                                        ∃ (x_3 : Int),
                                          h'.cell b_4 (o_3 + 4) = some (Value.int IntKind.i64 x_3) ∧
                                            ∃ (x_4 : Option Addr),
                                              h'.cell b_1 (o + 0) = some (Value.pointer x_4) ∧
                                                C Tryz.prog 73 #[Value.pointer x_4, Value.int IntKind.i64 (IntKind.i64.wrap (x_1 + iquo IntKind.i64 x_2 8)), Value.int IntKind.i64 (irem x_3 8), Value.int IntKind.u64 x] h'
                                                  fun (r : Value) (h' : Heap) => ∃ (x : Int), r = Value.int IntKind.i64 x ∧ spare_Bank_say.J2 b n x h' Q) ∧
                                    ∃ (x_2 : Int),
                                      h'.cell b_4 (o_3 + 4) = some (Value.int IntKind.i64 x_2) ∧
                                        ∃ (x_3 : Int),
                                          h'.cell b_3 (o_2 + 4) = some (Value.int IntKind.i64 x_3) ∧
                                            ∃ (x_4 : Option Addr),
                                              h'.cell b_1 (o + 0) = some (Value.pointer x_4) ∧
                                                C Tryz.prog 73 #[Value.pointer x_4, Value.int IntKind.i64 (IntKind.i64.wrap (x_1 + iquo IntKind.i64 x_3 8)), Value.int IntKind.i64 (irem x_2 8), Value.int IntKind.u64 x] h'
                                                  fun (r : Value) (h' : Heap) => ∃ (x : Int), r = Value.int IntKind.i64 x ∧ spare_Bank_say.J2 b n x h' Q) ∧
                            (∃ (x_1 : Int),
                                h'.cell b_3 (o_2 + 4) = some (Value.int IntKind.i64 x_1) ∧
                                  (∃ (x_2 : Option Addr),
                                      h'.cell b_1 (o + 0) = some (Value.pointer x_2) ∧
                                        (∃ (x_3 : Int),
                                            h'.cell b_2 (o_1 + 1 + 0) = some (Value.int IntKind.i64 x_3) ∧
                                              ∃ (x_4 : Int),
                                                h'.cell b_4 (o_3 + 4) = some (Value.int IntKind.i64 x_4) ∧
                                                  C Tryz.prog 73 #[Value.pointer x_2, Value.int IntKind.i64 (IntKind.i64.wrap (x_3 + iquo IntKind.i64 x_1 8)), Value.int IntKind.i64 (irem x_4 8), Value.int IntKind.u64 x] h'
                                                    fun (r : Value) (h' : Heap) => ∃ (x : Int), r = Value.int IntKind.i64 x ∧ spare_Bank_say.J2 b n x h' Q) ∧
                                          ∃ (x_3 : Int),
                                            h'.cell b_4 (o_3 + 4) = some (Value.int IntKind.i64 x_3) ∧
                                              ∃ (x_4 : Int),
                                                h'.cell b_2 (o_1 + 1 + 0) = some (Value.int IntKind.i64 x_4) ∧
                                                  C Tryz.prog 73 #[Value.pointer x_2, Value.int IntKind.i64 (IntKind.i64.wrap (x_4 + iquo IntKind.i64 x_1 8)), Value.int IntKind.i64 (irem x_3 8), Value.int IntKind.u64 x] h'
                                                    fun (r : Value) (h' : Heap) => ∃ (x : Int), r = Value.int IntKind.i64 x ∧ spare_Bank_say.J2 b n x h' Q) ∧
                                    (∃ (x_2 : Int),
                                        h'.cell b_2 (o_1 + 1 + 0) = some (Value.int IntKind.i64 x_2) ∧
                                          ∃ (x_3 : Int),
                                            h'.cell b_4 (o_3 + 4) = some (Value.int IntKind.i64 x_3) ∧
                                              ∃ (x_4 : Option Addr),
                                                h'.cell b_1 (o + 0) = some (Value.pointer x_4) ∧
                                                  C Tryz.prog 73 #[Value.pointer x_4, Value.int IntKind.i64 (IntKind.i64.wrap (x_2 + iquo IntKind.i64 x_1 8)), Value.int IntKind.i64 (irem x_3 8), Value.int IntKind.u64 x] h'
                                                    fun (r : Value) (h' : Heap) => ∃ (x : Int), r = Value.int IntKind.i64 x ∧ spare_Bank_say.J2 b n x h' Q) ∧
                                      ∃ (x_2 : Int),
                                        h'.cell b_4 (o_3 + 4) = some (Value.int IntKind.i64 x_2) ∧
                                          ∃ (x_3 : Int),
                                            h'.cell b_2 (o_1 + 1 + 0) = some (Value.int IntKind.i64 x_3) ∧
                                              ∃ (x_4 : Option Addr),
                                                h'.cell b_1 (o + 0) = some (Value.pointer x_4) ∧
                                                  C Tryz.prog 73 #[Value.pointer x_4, Value.int IntKind.i64 (IntKind.i64.wrap (x_3 + iquo IntKind.i64 x_1 8)), Value.int IntKind.i64 (irem x_2 8), Value.int IntKind.u64 x] h'
                                                    fun (r : Value) (h' : Heap) => ∃ (x : Int), r = Value.int IntKind.i64 x ∧ spare_Bank_say.J2 b n x h' Q) ∧
                              ∃ (x_1 : Int),
                                h'.cell b_4 (o_3 + 4) = some (Value.int IntKind.i64 x_1) ∧
                                  ∃ (x_2 : Int),
                                    h'.cell b_3 (o_2 + 4) = some (Value.int IntKind.i64 x_2) ∧
                                      ∃ (x_3 : Int),
                                        h'.cell b_2 (o_1 + 1 + 0) = some (Value.int IntKind.i64 x_3) ∧
                                          ∃ (x_4 : Option Addr),
                                            h'.cell b_1 (o + 0) = some (Value.pointer x_4) ∧
                                              C Tryz.prog 73 #[Value.pointer x_4, Value.int IntKind.i64 (IntKind.i64.wrap (x_3 + iquo IntKind.i64 x_2 8)), Value.int IntKind.i64 (irem x_1 8), Value.int IntKind.u64 x] h'
                                                fun (r : Value) (h' : Heap) => ∃ (x : Int), r = Value.int IntKind.i64 x ∧ spare_Bank_say.J2 b n x h' Q
def spare_Bank_say.J2.wp (b : Option Addr) (n : Int) (e : Int) (h : Heap) (Q : Value → Heap → Prop) : Prop :=
  xsIf (decide (e = 0))
    (atBase b fun (b_1 o : Nat) =>
      (∃ (x : Int),
          h.cell b_1 (o + 4) = some (Value.int IntKind.i64 x) ∧
            C Tryz.prog 148 #[Value.int IntKind.u64 n] h fun (r : Value) (h' : Heap) =>
              ∃ (x_1 : Int),
                r = Value.int IntKind.u64 x_1 ∧
                  C Tryz.prog 65 #[Value.pointer b, Value.int IntKind.i64 x, Value.int IntKind.u64 x_1] h' fun (r : Value) (h' : Heap) => ∃ (x : Int), r = Value.int IntKind.i64 x ∧ Q (Value.int IntKind.i64 x) h') ∧
        C Tryz.prog 148 #[Value.int IntKind.u64 n] h fun (r : Value) (h' : Heap) =>
          ∃ (x : Int),
            r = Value.int IntKind.u64 x ∧
              ∃ (x_1 : Int),
                h'.cell b_1 (o + 4) = some (Value.int IntKind.i64 x_1) ∧
                  C Tryz.prog 65 #[Value.pointer b, Value.int IntKind.i64 x_1, Value.int IntKind.u64 x] h' fun (r : Value) (h' : Heap) => ∃ (x : Int), r = Value.int IntKind.i64 x ∧ Q (Value.int IntKind.i64 x) h')
    (Q (Value.int IntKind.i64 e) h)
theorem spare_Bank_say.ok {b : Option Addr} {n : Int} {h : Heap} {Q : Value → Heap → Prop} (hk : spare_Bank_say.wp b n h Q) : C Tryz.prog 116 #[.pointer b, .int .u64 n] h Q :=
  C_of_xs (H := spare_Bank_say.H) (lcuts := spare_Bank_say.lc) (rcuts := spare_Bank_say.rc) (l := [.pointer b, .int .u64 n]) 2000 mixed Tryz.func116 rfl (by kernel_rfl) (@cast (spare_Bank_say.wp b n h Q) _ (by kernel_rfl) hk)
theorem spare_Bank_say.J2.ok {b : Option Addr} {n : Int} {e : Int} {h : Heap} {Q : Value → Heap → Prop} (hk : spare_Bank_say.J2.wp b n e h Q) : spare_Bank_say.J2 b n e h Q :=
  xs_ok (H := spare_Bank_say.H) (lcuts := spare_Bank_say.lc) (rcuts := []) (fn := Tryz.f116) mixed Tryz.func116 2000 _ _ _ (@cast (spare_Bank_say.J2.wp b n e h Q) _ (by kernel_rfl) hk)

/-! (*gabion/spare.Bank).retire -/
def spare_Bank_retire.H : Hn := ⟨[], [], [⟨2, .q 0 (.q 1 (.q 2 (.q 4 (.q 5 (.q 6 (.ld 3 768 (.q 7 (.q 8 (.q 9 (.nil)))))))))), []⟩], []⟩
def spare_Bank_retire.lc : List Cut := [⟨1, [0, 1, 2], []⟩]
def spare_Bank_retire.rc : List Cut := []
def spare_Bank_retire.L1 (b : Option Addr) (i : Int) (s : ByteArray) (h : Heap) (Q : Value → Heap → Prop) : Prop :=
  TW Tryz.prog 61 49 [.code (cAt (bodyOf Tryz.f61) [1, 0, 0, 0]), .inLoop (cAt (bodyOf Tryz.f61) [1, 0, 0, 0]), .inBlock 0, .code (cAt (bodyOf Tryz.f61) [1, 1])] ⟨[(0, .v (.pointer b)), (1, .v (.int .i64 i)), (2, .v (.string s))], []⟩ h Q
def spare_Bank_retire.wp (b : Option Addr) (i : Int) (s : ByteArray) (h : Heap) (Q : Value → Heap → Prop) : Prop :=
  spare_Bank_retire.L1 b i s h Q
def spare_Bank_retire.L1.wp (b : Option Addr) (i : Int) (s : ByteArray) (h : Heap) (Q : Value → Heap → Prop) : Prop :=
  C Tryz.prog 18 #[Value.pointer b] h fun (r : Value) (h' : Heap) =>
    ∃ (x : Int),
      r = Value.int IntKind.i64 x ∧
        xsIf (decide (0 < x))
          (atBase b fun (b_1 o : Nat) =>
            atBase b fun (b_2 o_1 : Nat) =>
              ∃ (x : Int),
                h'.cell b_1 (o + 1) = some (Value.int IntKind.i64 x) ∧
                  ∃ (x_1 : Int),
                    h'.cell b_1 (o + 1 + 1) = some (Value.int IntKind.i64 x_1) ∧
                      ∃ (x_2 : Int),
                        h'.cell b_1 (o + 1 + 1 + 1) = some (Value.int IntKind.i64 x_2) ∧
                          ∃ (x_3 : Int),
                            h'.cell b_2 (o_1 + 4) = some (Value.int IntKind.i64 x_3) ∧
                              C Tryz.prog 67 #[Value.agg #[Value.int IntKind.i64 x, Value.int IntKind.i64 x_1, Value.int IntKind.i64 x_2], Value.int IntKind.i64 x_3] h' fun (r : Value) (h' : Heap) =>
                                ∃ (x : Int),
                                  r = Value.int IntKind.i64 x ∧
                                    atBase b fun (b_3 o : Nat) =>
                                      ∃ (x_4 : Option Addr),
                                        h'.cell b_3 (o + 0) = some (Value.pointer x_4) ∧
                                          C Tryz.prog 59 #[Value.pointer x_4, Value.int IntKind.i64 x, Value.string s] h' fun (r : Value) (h' : Heap) =>
                                            ∃ (x_5 : Int),
                                              r = Value.int IntKind.i64 x_5 ∧
                                                xsIf (decide (x_5 ≠ 0)) (Q (Value.int IntKind.i64 x_5) h')
                                                  (atBase b fun (b_4 o : Nat) =>
                                                    ∃ (x_6 : Option Addr),
                                                      h'.cell b_4 (o + 0) = some (Value.pointer x_6) ∧
                                                        C Tryz.prog 60 #[Value.pointer x_6, Value.int IntKind.i64 x, Value.string s] h' fun (r : Value) (h' : Heap) =>
                                                          ∃ (x : Bool),
                                                            r = Value.bool x ∧
                                                              xsIf x
                                                                (C Tryz.prog 116 #[Value.pointer b, Value.int IntKind.u64 (IntKind.u64.wrap (IntKind.u64.wrap i + 1))] h' fun (r : Value) (h' : Heap) =>
                                                                  ∃ (x : Int), r = Value.int IntKind.i64 x ∧ Q (Value.int IntKind.i64 x) h')
                                                                (C Tryz.prog 116 #[Value.pointer b, Value.int IntKind.u64 65535] h' fun (r : Value) (h' : Heap) =>
                                                                  ∃ (x : Int), r = Value.int IntKind.i64 x ∧ xsIf (decide (x ≠ 0)) (Q (Value.int IntKind.i64 x) h') (spare_Bank_retire.L1 b i s h' Q))))
          (Q (Value.int IntKind.i64 10) h')
theorem spare_Bank_retire.ok {b : Option Addr} {i : Int} {s : ByteArray} {h : Heap} {Q : Value → Heap → Prop} (hk : spare_Bank_retire.wp b i s h Q) : C Tryz.prog 61 #[.pointer b, .int .i64 i, .string s] h Q :=
  C_of_xs (H := spare_Bank_retire.H) (lcuts := spare_Bank_retire.lc) (rcuts := spare_Bank_retire.rc) (l := [.pointer b, .int .i64 i, .string s]) 2000 mixed Tryz.func61 rfl (by kernel_rfl) (@cast (spare_Bank_retire.wp b i s h Q) _ (by kernel_rfl) hk)
theorem spare_Bank_retire.L1.ok {b : Option Addr} {i : Int} {s : ByteArray} {h : Heap} {Q : Value → Heap → Prop} (hk : spare_Bank_retire.L1.wp b i s h Q) : spare_Bank_retire.L1 b i s h Q :=
  xs_ok (H := spare_Bank_retire.H) (lcuts := spare_Bank_retire.lc) (rcuts := spare_Bank_retire.rc) (fn := Tryz.f61) mixed Tryz.func61 2000 _ _ _ (@cast (spare_Bank_retire.L1.wp b i s h Q) _ (by kernel_rfl) hk)

/-! (*gabion/spare.Bank).Write -/
def spare_Bank_Write.H : Hn := ⟨[], [], [], []⟩
def spare_Bank_Write.lc : List Cut := []
def spare_Bank_Write.rc : List Cut := []
def spare_Bank_Write.wp (b : Option Addr) (i : Int) (s : ByteArray) (h : Heap) (Q : Value → Heap → Prop) : Prop :=
  C Tryz.prog 21 #[Value.pointer b, Value.int IntKind.i64 i] h fun (r : Value) (h' : Heap) =>
    ∃ (x : Int),
      ∃ (x_1 : Int),
        r = Value.tuple #[Value.int IntKind.i64 x, Value.int IntKind.i64 x_1] ∧
          xsIf (decide (x_1 = 1)) (Q (Value.int IntKind.i64 x_1) h')
            (xsIf (decide ((↑s.size : Int) ≠ 64)) (Q (Value.int IntKind.i64 2) h')
              (xsIf (decide (x_1 ≠ 0)) (Q (Value.int IntKind.i64 x_1) h')
                (atBase b fun (b_1 o : Nat) =>
                  ∃ (x_2 : Option Addr),
                    h'.cell b_1 (o + 0) = some (Value.pointer x_2) ∧
                      C Tryz.prog 59 #[Value.pointer x_2, Value.int IntKind.i64 x, Value.string s] h' fun (r : Value) (h' : Heap) =>
                        ∃ (x_3 : Int),
                          r = Value.int IntKind.i64 x_3 ∧
                            xsIf (decide (x_3 ≠ 0)) (Q (Value.int IntKind.i64 x_3) h')
                              (atBase b fun (b_2 o : Nat) =>
                                ∃ (x_4 : Option Addr),
                                  h'.cell b_2 (o + 0) = some (Value.pointer x_4) ∧
                                    C Tryz.prog 60 #[Value.pointer x_4, Value.int IntKind.i64 x, Value.string s] h' fun (r : Value) (h' : Heap) =>
                                      ∃ (x : Bool),
                                        r = Value.bool x ∧
                                          xsIf x (Q (Value.int IntKind.i64 0) h')
                                            (C Tryz.prog 61 #[Value.pointer b, Value.int IntKind.i64 i, Value.string s] h' fun (r : Value) (h' : Heap) =>
                                              ∃ (x : Int), r = Value.int IntKind.i64 x ∧ Q (Value.int IntKind.i64 x) h')))))
theorem spare_Bank_Write.ok {b : Option Addr} {i : Int} {s : ByteArray} {h : Heap} {Q : Value → Heap → Prop} (hk : spare_Bank_Write.wp b i s h Q) : C Tryz.prog 15 #[.pointer b, .int .i64 i, .string s] h Q :=
  C_of_xs (H := spare_Bank_Write.H) (lcuts := spare_Bank_Write.lc) (rcuts := spare_Bank_Write.rc) (l := [.pointer b, .int .i64 i, .string s]) 2000 mixed Tryz.func15 rfl (by kernel_rfl) (@cast (spare_Bank_Write.wp b i s h Q) _ (by kernel_rfl) hk)

/-! (*gabion/pm.Device).Off -/
def pm_Device_Off.H : Hn := ⟨[], [], [], []⟩
def pm_Device_Off.lc : List Cut := []
def pm_Device_Off.rc : List Cut := []
def pm_Device_Off.wp (d : Option Addr) (h : Heap) (Q : Value → Heap → Prop) : Prop :=
  xsIf (!d.isNone) (atBase d fun (b o : Nat) => ∃ (x : Bool), h.cell b (o + 5) = some (Value.bool x) ∧ Q (Value.bool x) h) (Q (Value.bool false) h)
theorem pm_Device_Off.ok {d : Option Addr} {h : Heap} {Q : Value → Heap → Prop} (hk : pm_Device_Off.wp d h Q) : C Tryz.prog 38 #[.pointer d] h Q :=
  C_of_xs (H := pm_Device_Off.H) (lcuts := pm_Device_Off.lc) (rcuts := pm_Device_Off.rc) (l := [.pointer d]) 2000 mixed Tryz.func38 rfl (by kernel_rfl) (@cast (pm_Device_Off.wp d h Q) _ (by kernel_rfl) hk)

/-! gabion/le.Text -/
def le_Text.H : Hn := ⟨[], [], [], []⟩
def le_Text.lc : List Cut := [⟨3, [3, 6, 7], []⟩]
def le_Text.rc : List Cut := []
def le_Text.L3 (s : ByteArray) (t6_0 : Int) (t6_1 : Int) (t6_2 : Int) (t6_3 : Int) (t6_4 : Int) (t6_5 : Int) (t6_6 : Int) (t6_7 : Int) (t7 : Int) (h : Heap) (Q : Value → Heap → Prop) : Prop :=
  TW Tryz.prog 126 16 [.code (cAt (bodyOf Tryz.f126) [1, 1, 0, 1, 0, 0]), .inLoop (cAt (bodyOf Tryz.f126) [1, 1, 0, 1, 0, 0]), .inBlock 0, .code (cAt (bodyOf Tryz.f126) [1, 1, 1])] ⟨[(3, .v (.string s)), (6, .v (.agg #[.int .u64 t6_0, .int .u64 t6_1, .int .u64 t6_2, .int .u64 t6_3, .int .u64 t6_4, .int .u64 t6_5, .int .u64 t6_6, .int .u64 t6_7])), (7, .v (.int .i64 t7))], []⟩ h Q
def le_Text.wp (w_0 : Int) (w_1 : Int) (w_2 : Int) (w_3 : Int) (w_4 : Int) (w_5 : Int) (w_6 : Int) (w_7 : Int) (h : Heap) (Q : Value → Heap → Prop) : Prop :=
  le_Text.L3 { data := #[] } w_0 w_1 w_2 w_3 w_4 w_5 w_6 w_7 0 h Q
def le_Text.L3.wp (s : ByteArray) (t6_0 : Int) (t6_1 : Int) (t6_2 : Int) (t6_3 : Int) (t6_4 : Int) (t6_5 : Int) (t6_6 : Int) (t6_7 : Int) (t7 : Int) (h : Heap) (Q : Value → Heap → Prop) : Prop :=
  xsIf (decide (t7 < 8))
    ((0 ≤ t7 ∧ t7 < (↑8 : Int)) ∧
      ∃ (x : Int),
        lget [Value.int IntKind.u64 t6_0, Value.int IntKind.u64 t6_1, Value.int IntKind.u64 t6_2, Value.int IntKind.u64 t6_3, Value.int IntKind.u64 t6_4, Value.int IntKind.u64 t6_5, Value.int IntKind.u64 t6_6, Value.int IntKind.u64 t6_7]
              (t7.toNat * 1) =
            some (Value.int IntKind.u64 x) ∧
          C Tryz.prog 72 #[Value.int IntKind.u64 x, Value.int IntKind.i64 8] h fun (r : Value) (h' : Heap) =>
            ∃ (x : ByteArray), r = Value.string x ∧ (↑(s.size + x.size) : Int) ≤ 9223372036854775807 ∧ le_Text.L3 (s ++ x) t6_0 t6_1 t6_2 t6_3 t6_4 t6_5 t6_6 t6_7 (IntKind.i64.wrap (t7 + 1)) h' Q)
    (Q (Value.string s) h)
theorem le_Text.ok {w_0 : Int} {w_1 : Int} {w_2 : Int} {w_3 : Int} {w_4 : Int} {w_5 : Int} {w_6 : Int} {w_7 : Int} {h : Heap} {Q : Value → Heap → Prop} (hk : le_Text.wp w_0 w_1 w_2 w_3 w_4 w_5 w_6 w_7 h Q) : C Tryz.prog 126 #[.agg #[.int .u64 w_0, .int .u64 w_1, .int .u64 w_2, .int .u64 w_3, .int .u64 w_4, .int .u64 w_5, .int .u64 w_6, .int .u64 w_7]] h Q :=
  C_of_xs (H := le_Text.H) (lcuts := le_Text.lc) (rcuts := le_Text.rc) (l := [.agg #[.int .u64 w_0, .int .u64 w_1, .int .u64 w_2, .int .u64 w_3, .int .u64 w_4, .int .u64 w_5, .int .u64 w_6, .int .u64 w_7]]) 2000 mixed Tryz.func126 rfl (by kernel_rfl) (@cast (le_Text.wp w_0 w_1 w_2 w_3 w_4 w_5 w_6 w_7 h Q) _ (by kernel_rfl) hk)
theorem le_Text.L3.ok {s : ByteArray} {t6_0 : Int} {t6_1 : Int} {t6_2 : Int} {t6_3 : Int} {t6_4 : Int} {t6_5 : Int} {t6_6 : Int} {t6_7 : Int} {t7 : Int} {h : Heap} {Q : Value → Heap → Prop} (hk : le_Text.L3.wp s t6_0 t6_1 t6_2 t6_3 t6_4 t6_5 t6_6 t6_7 t7 h Q) : le_Text.L3 s t6_0 t6_1 t6_2 t6_3 t6_4 t6_5 t6_6 t6_7 t7 h Q :=
  xs_ok (H := le_Text.H) (lcuts := le_Text.lc) (rcuts := le_Text.rc) (fn := Tryz.f126) mixed Tryz.func126 2000 _ _ _ (@cast (le_Text.L3.wp s t6_0 t6_1 t6_2 t6_3 t6_4 t6_5 t6_6 t6_7 t7 h Q) _ (by kernel_rfl) hk)

/-! gabion/line.Get -/
def line_Get.H : Hn := ⟨[], [7], [], []⟩
def line_Get.lc : List Cut := [⟨6, [0, 1, 7, 22], [7]⟩]
def line_Get.rc : List Cut := [⟨4, [0, 1], []⟩]
def line_Get.J4 (d : Option Addr) (at0 : Int) (h : Heap) (Q : Value → Heap → Prop) : Prop :=
  TW Tryz.prog 66 43 [.code (cAt (bodyOf Tryz.f66) [1, 1, 0]), .code (cAt (bodyOf Tryz.f66) [1, 1, 1])] ⟨[(0, .v (.pointer d)), (1, .v (.int .i64 at0))], []⟩ h Q
def line_Get.L6 (d : Option Addr) (at0 : Int) (t22 : Int) (w : List Value) (h : Heap) (Q : Value → Heap → Prop) : Prop :=
  TW Tryz.prog 66 43 [.code (cAt (bodyOf Tryz.f66) [1, 1, 1, 0, 1, 0, 0]), .inLoop (cAt (bodyOf Tryz.f66) [1, 1, 1, 0, 1, 0, 0]), .inBlock 0, .code (cAt (bodyOf Tryz.f66) [1, 1, 1, 1])] ⟨[(0, .v (.pointer d)), (1, .v (.int .i64 at0)), (7, .p 7 0), (22, .v (.int .i64 t22))], [(7, w)]⟩ h Q
def line_Get.wp (d : Option Addr) (at0 : Int) (h : Heap) (Q : Value → Heap → Prop) : Prop :=
  C Tryz.prog 112 #[Value.pointer d, Value.int IntKind.i64 at0] h fun (r : Value) (h' : Heap) =>
    ∃ (x : Int),
      r = Value.int IntKind.i64 x ∧
        xsIf (decide (x ≠ 0))
          (C Tryz.prog 38 #[Value.pointer d] h' fun (r : Value) (h' : Heap) =>
            ∃ (x_1 : Bool), r = Value.bool x_1 ∧ xsIf (!x_1) (Q (Value.tuple #[Value.string { data := #[] }, Value.int IntKind.i64 x]) h') (line_Get.J4 d at0 h' Q))
          (line_Get.J4 d at0 h' Q)
def line_Get.J4.wp (d : Option Addr) (at0 : Int) (h : Heap) (Q : Value → Heap → Prop) : Prop :=
  line_Get.L6 d at0 0 [Value.int IntKind.u64 0, Value.int IntKind.u64 0, Value.int IntKind.u64 0, Value.int IntKind.u64 0, Value.int IntKind.u64 0, Value.int IntKind.u64 0, Value.int IntKind.u64 0, Value.int IntKind.u64 0] h Q
def line_Get.L6.wp (d : Option Addr) (at0 : Int) (t22 : Int) (w : List Value) (h : Heap) (Q : Value → Heap → Prop) : Prop :=
  xsIf (decide (t22 < 8))
    (C Tryz.prog 64 #[Value.pointer d, Value.int IntKind.i64 (IntKind.i64.wrap (IntKind.i64.wrap (at0 * 8) + t22))] h fun (r : Value) (h' : Heap) =>
      ∃ (x : Int),
        ∃ (x_1 : Int),
          r = Value.tuple #[Value.int IntKind.u64 x, Value.int IntKind.i64 x_1] ∧
            xsIf (decide (x_1 ≠ 0)) (Q (Value.tuple #[Value.string { data := #[] }, Value.int IntKind.i64 x_1]) h')
              ((0 ≤ t22 ∧ t22 < (↑8 : Int)) ∧ 0 + t22.toNat * 1 + 1 ≤ w.length ∧ line_Get.L6 d at0 (IntKind.i64.wrap (t22 + 1)) (lput w (0 + t22.toNat * 1) [Value.int IntKind.u64 x]) h' Q))
    (8 ≤ w.length ∧
      ∃ (x : Int),
        lget w 0 = some (Value.int IntKind.u64 x) ∧
          ∃ (x_1 : Int),
            lget w 1 = some (Value.int IntKind.u64 x_1) ∧
              ∃ (x_2 : Int),
                lget w 2 = some (Value.int IntKind.u64 x_2) ∧
                  ∃ (x_3 : Int),
                    lget w 3 = some (Value.int IntKind.u64 x_3) ∧
                      ∃ (x_4 : Int),
                        lget w 4 = some (Value.int IntKind.u64 x_4) ∧
                          ∃ (x_5 : Int),
                            lget w 5 = some (Value.int IntKind.u64 x_5) ∧
                              ∃ (x_6 : Int),
                                lget w 6 = some (Value.int IntKind.u64 x_6) ∧
                                  ∃ (x_7 : Int),
                                    lget w 7 = some (Value.int IntKind.u64 x_7) ∧
                                      C Tryz.prog 126
                                        #[Value.agg
                                                #[Value.int IntKind.u64 x, Value.int IntKind.u64 x_1, Value.int IntKind.u64 x_2, Value.int IntKind.u64 x_3, Value.int IntKind.u64 x_4, Value.int IntKind.u64 x_5, Value.int IntKind.u64 x_6,
                                                      Value.int IntKind.u64 x_7]]
                                        h fun (r : Value) (h' : Heap) => ∃ (x : ByteArray), r = Value.string x ∧ Q (Value.tuple #[Value.string x, Value.int IntKind.i64 0]) h')
theorem line_Get.ok {d : Option Addr} {at0 : Int} {h : Heap} {Q : Value → Heap → Prop} (hk : line_Get.wp d at0 h Q) : C Tryz.prog 66 #[.pointer d, .int .i64 at0] h Q :=
  C_of_xs (H := line_Get.H) (lcuts := line_Get.lc) (rcuts := line_Get.rc) (l := [.pointer d, .int .i64 at0]) 2000 mixed Tryz.func66 rfl (by kernel_rfl) (@cast (line_Get.wp d at0 h Q) _ (by kernel_rfl) hk)
theorem line_Get.J4.ok {d : Option Addr} {at0 : Int} {h : Heap} {Q : Value → Heap → Prop} (hk : line_Get.J4.wp d at0 h Q) : line_Get.J4 d at0 h Q :=
  xs_ok (H := line_Get.H) (lcuts := line_Get.lc) (rcuts := []) (fn := Tryz.f66) mixed Tryz.func66 2000 _ _ _ (@cast (line_Get.J4.wp d at0 h Q) _ (by kernel_rfl) hk)
theorem line_Get.L6.ok {d : Option Addr} {at0 : Int} {t22 : Int} {w : List Value} {h : Heap} {Q : Value → Heap → Prop} (hk : line_Get.L6.wp d at0 t22 w h Q) : line_Get.L6 d at0 t22 w h Q :=
  xs_ok (H := line_Get.H) (lcuts := line_Get.lc) (rcuts := line_Get.rc) (fn := Tryz.f66) mixed Tryz.func66 2000 _ _ _ (@cast (line_Get.L6.wp d at0 t22 w h Q) _ (by kernel_rfl) hk)

/-! (*gabion/spare.Bank).Read -/
def spare_Bank_Read.H : Hn := ⟨[], [], [], []⟩
def spare_Bank_Read.lc : List Cut := []
def spare_Bank_Read.rc : List Cut := []
def spare_Bank_Read.wp (b : Option Addr) (i : Int) (h : Heap) (Q : Value → Heap → Prop) : Prop :=
  C Tryz.prog 21 #[Value.pointer b, Value.int IntKind.i64 i] h fun (r : Value) (h' : Heap) =>
    ∃ (x : Int),
      ∃ (x_1 : Int),
        r = Value.tuple #[Value.int IntKind.i64 x, Value.int IntKind.i64 x_1] ∧
          xsIf (decide (x_1 ≠ 0)) (Q (Value.tuple #[Value.string { data := #[] }, Value.int IntKind.i64 x_1]) h')
            (atBase b fun (b o : Nat) =>
              ∃ (x_2 : Option Addr),
                h'.cell b (o + 0) = some (Value.pointer x_2) ∧
                  C Tryz.prog 66 #[Value.pointer x_2, Value.int IntKind.i64 x] h' fun (r : Value) (h' : Heap) =>
                    ∃ (x : ByteArray), ∃ (x_3 : Int), r = Value.tuple #[Value.string x, Value.int IntKind.i64 x_3] ∧ Q (Value.tuple #[Value.string x, Value.int IntKind.i64 x_3]) h')
theorem spare_Bank_Read.ok {b : Option Addr} {i : Int} {h : Heap} {Q : Value → Heap → Prop} (hk : spare_Bank_Read.wp b i h Q) : C Tryz.prog 20 #[.pointer b, .int .i64 i] h Q :=
  C_of_xs (H := spare_Bank_Read.H) (lcuts := spare_Bank_Read.lc) (rcuts := spare_Bank_Read.rc) (l := [.pointer b, .int .i64 i]) 2000 mixed Tryz.func20 rfl (by kernel_rfl) (@cast (spare_Bank_Read.wp b i h Q) _ (by kernel_rfl) hk)

/-! (*gabion/spare.Bank).Lines -/
def spare_Bank_Lines.H : Hn := ⟨[], [], [], []⟩
def spare_Bank_Lines.lc : List Cut := []
def spare_Bank_Lines.rc : List Cut := []
def spare_Bank_Lines.wp (b : Option Addr) (h : Heap) (Q : Value → Heap → Prop) : Prop :=
  xsIf b.isNone (Q (Value.int IntKind.i64 0) h) (atBase b fun (b o : Nat) => ∃ (x : Int), h.cell b (o + 1 + 1) = some (Value.int IntKind.i64 x) ∧ Q (Value.int IntKind.i64 x) h)
theorem spare_Bank_Lines.ok {b : Option Addr} {h : Heap} {Q : Value → Heap → Prop} (hk : spare_Bank_Lines.wp b h Q) : C Tryz.prog 19 #[.pointer b] h Q :=
  C_of_xs (H := spare_Bank_Lines.H) (lcuts := spare_Bank_Lines.lc) (rcuts := spare_Bank_Lines.rc) (l := [.pointer b]) 2000 mixed Tryz.func19 rfl (by kernel_rfl) (@cast (spare_Bank_Lines.wp b h Q) _ (by kernel_rfl) hk)

/-! gabion/gabionlaw05.wakes -/
def gabionlaw05_wakes.H : Hn := ⟨[], [], [], []⟩
def gabionlaw05_wakes.lc : List Cut := []
def gabionlaw05_wakes.rc : List Cut := [⟨7, [2, 5], []⟩]
def gabionlaw05_wakes.J7 (d : Option Addr) (b : Option Addr) (h : Heap) (Q : Value → Heap → Prop) : Prop :=
  TW Tryz.prog 13 85 [.code (cAt (bodyOf Tryz.f13) [1, 1, 1, 1, 1, 1, 0]), .code (cAt (bodyOf Tryz.f13) [1, 1, 1, 1, 1, 1, 1])] ⟨[(2, .v (.pointer d)), (5, .v (.pointer b))], []⟩ h Q
def gabionlaw05_wakes.wp  (h : Heap) (Q : Value → Heap → Prop) : Prop :=
  C Tryz.prog 26 #[Value.int IntKind.i64 7] h fun (r : Value) (h' : Heap) =>
    ∃ (x : Option Addr),
      ∃ (x_1 : Int),
        r = Value.tuple #[Value.pointer x, Value.int IntKind.i64 x_1] ∧
          C Tryz.prog 27 #[Value.pointer x, Value.agg #[Value.int IntKind.i64 0, Value.int IntKind.i64 4, Value.int IntKind.i64 2]] h' fun (r : Value) (h' : Heap) =>
            ∃ (x_2 : Int),
              r = Value.int IntKind.i64 x_2 ∧
                C Tryz.prog 17 #[Value.pointer x, Value.agg #[Value.int IntKind.i64 0, Value.int IntKind.i64 4, Value.int IntKind.i64 2]] h' fun (r : Value) (h' : Heap) =>
                  ∃ (x_3 : Option Addr),
                    ∃ (x_4 : Int),
                      r = Value.tuple #[Value.pointer x_3, Value.int IntKind.i64 x_4] ∧
                        xsIf (decide (x_1 ≠ 0)) (Q (Value.bool false) h')
                          (xsIf (decide (x_2 ≠ 0)) (Q (Value.bool false) h')
                            (xsIf (decide (x_4 ≠ 0)) (Q (Value.bool false) h')
                              (C Tryz.prog 25 #[Value.agg #[Value.int IntKind.i64 0, Value.int IntKind.i64 4, Value.int IntKind.i64 2]] h' fun (r : Value) (h' : Heap) =>
                                ∃ (x_5 : Int), r = Value.int IntKind.i64 x_5 ∧ xsIf (decide (x_5 ≠ 7)) (Q (Value.bool false) h') (gabionlaw05_wakes.J7 x x_3 h' Q))))
def gabionlaw05_wakes.J7.wp (d : Option Addr) (b : Option Addr) (h : Heap) (Q : Value → Heap → Prop) : Prop :=
  C Tryz.prog 14 #[Value.pointer d, Value.int IntKind.i64 1] h fun (r : Value) (h' : Heap) =>
    C Tryz.prog 16 #[Value.string { data := #[UInt8.ofNat 97, UInt8.ofNat 98, UInt8.ofNat 99] }] h' fun (r : Value) (h' : Heap) =>
      ∃ (x : ByteArray),
        r = Value.string x ∧
          C Tryz.prog 15 #[Value.pointer b, Value.int IntKind.i64 0, Value.string x] h' fun (r : Value) (h' : Heap) =>
            ∃ (x : Int),
              r = Value.int IntKind.i64 x ∧
                C Tryz.prog 21 #[Value.pointer b, Value.int IntKind.i64 0] h' fun (r : Value) (h' : Heap) =>
                  ∃ (x_1 : Int),
                    ∃ (x_2 : Int),
                      r = Value.tuple #[Value.int IntKind.i64 x_1, Value.int IntKind.i64 x_2] ∧
                        C Tryz.prog 20 #[Value.pointer b, Value.int IntKind.i64 0] h' fun (r : Value) (h' : Heap) =>
                          ∃ (x_3 : ByteArray),
                            ∃ (x_4 : Int),
                              r = Value.tuple #[Value.string x_3, Value.int IntKind.i64 x_4] ∧
                                xsIf (decide (x = 0))
                                  (xsIf (decide (x_2 = 0))
                                    (xsIf (decide (x_1 = 5))
                                      (xsIf (decide (x_4 = 0))
                                        (C Tryz.prog 16 #[Value.string { data := #[UInt8.ofNat 97, UInt8.ofNat 98, UInt8.ofNat 99] }] h' fun (r : Value) (h' : Heap) =>
                                          ∃ (x : ByteArray),
                                            r = Value.string x ∧
                                              xsIf (decide (x_3 = x))
                                                (C Tryz.prog 18 #[Value.pointer b] h' fun (r : Value) (h' : Heap) =>
                                                  ∃ (x : Int),
                                                    r = Value.int IntKind.i64 x ∧
                                                      xsIf (decide (x = 1)) (C Tryz.prog 19 #[Value.pointer b] h' fun (r : Value) (h' : Heap) => ∃ (x : Int), r = Value.int IntKind.i64 x ∧ Q (Value.bool (decide (x = 4))) h')
                                                        (Q (Value.bool false) h'))
                                                (Q (Value.bool false) h'))
                                        (Q (Value.bool false) h'))
                                      (Q (Value.bool false) h'))
                                    (Q (Value.bool false) h'))
                                  (Q (Value.bool false) h')
theorem gabionlaw05_wakes.ok {h : Heap} {Q : Value → Heap → Prop} (hk : gabionlaw05_wakes.wp h Q) : C Tryz.prog 13 #[] h Q :=
  C_of_xs (H := gabionlaw05_wakes.H) (lcuts := gabionlaw05_wakes.lc) (rcuts := gabionlaw05_wakes.rc) (l := []) 2000 mixed Tryz.func13 rfl (by kernel_rfl) (@cast (gabionlaw05_wakes.wp h Q) _ (by kernel_rfl) hk)
theorem gabionlaw05_wakes.J7.ok {d : Option Addr} {b : Option Addr} {h : Heap} {Q : Value → Heap → Prop} (hk : gabionlaw05_wakes.J7.wp d b h Q) : gabionlaw05_wakes.J7 d b h Q :=
  xs_ok (H := gabionlaw05_wakes.H) (lcuts := gabionlaw05_wakes.lc) (rcuts := []) (fn := Tryz.f13) mixed Tryz.func13 2000 _ _ _ (@cast (gabionlaw05_wakes.J7.wp d b h Q) _ (by kernel_rfl) hk)

/-! gabion/gabionref01.Put -/
def gabionref01_Put.H : Hn := ⟨[], [], [], []⟩
def gabionref01_Put.lc : List Cut := [⟨3, [0, 1, 5, 6], []⟩]
def gabionref01_Put.rc : List Cut := [⟨5, [0, 1, 5, 6], []⟩]
def gabionref01_Put.L3 (n : Int) (size : Int) (b : Option Addr) (b_n : Nat) (b_c : Nat) (i : Int) (h : Heap) (Q : Value → Heap → Prop) : Prop :=
  TW Tryz.prog 79 26 [.code (cAt (bodyOf Tryz.f79) [1, 1, 0, 1, 0, 0]), .inLoop (cAt (bodyOf Tryz.f79) [1, 1, 0, 1, 0, 0]), .inBlock 0, .code (cAt (bodyOf Tryz.f79) [1, 1, 1])] ⟨[(0, .v (.int .u64 n)), (1, .v (.int .i64 size)), (5, .v (.slice b b_n b_c)), (6, .v (.int .i64 i))], []⟩ h Q
def gabionref01_Put.J5 (n : Int) (size : Int) (b : Option Addr) (b_n : Nat) (b_c : Nat) (i : Int) (h : Heap) (Q : Value → Heap → Prop) : Prop :=
  TW Tryz.prog 79 26 [.code (cAt (bodyOf Tryz.f79) [1, 1, 0, 1, 0, 0, 1, 0, 0, 0]), .code (cAt (bodyOf Tryz.f79) [1, 1, 0, 1, 0, 0, 1, 0, 0, 1]), .inBlock 1, .code (cAt (bodyOf Tryz.f79) [1, 1, 0, 1, 0, 0, 1, 1]), .inLoop (cAt (bodyOf Tryz.f79) [1, 1, 0, 1, 0, 0]), .inBlock 0, .code (cAt (bodyOf Tryz.f79) [1, 1, 1])] ⟨[(0, .v (.int .u64 n)), (1, .v (.int .i64 size)), (5, .v (.slice b b_n b_c)), (6, .v (.int .i64 i))], []⟩ h Q
def gabionref01_Put.wp (n : Int) (size : Int) (h : Heap) (Q : Value → Heap → Prop) : Prop :=
  gabionref01_Put.L3 n size none 0 0 0 h Q
def gabionref01_Put.L3.wp (n : Int) (size : Int) (b : Option Addr) (b_n : Nat) (b_c : Nat) (i : Int) (h : Heap) (Q : Value → Heap → Prop) : Prop :=
  xsIf (decide (i < size)) (xsIf (decide (i < 8)) (gabionref01_Put.J5 n size b b_n b_c i h Q) (xsStr h b b_n fun (s : ByteArray) => Q (Value.string s) h)) (xsStr h b b_n fun (s : ByteArray) => Q (Value.string s) h)
def gabionref01_Put.J5.wp (n : Int) (size : Int) (b : Option Addr) (b_n : Nat) (b_c : Nat) (i : Int) (h : Heap) (Q : Value → Heap → Prop) : Prop :=
  ∀ (b_1 : Nat),
    h b_1 = none →
      xsApp Tryz.prog 5 (upd h b_1 (Obj.cells #[Value.int IntKind.u8 (IntKind.u8.wrap (irem n 256))] 5 (0, 0))) b b_n b_c (some { block := b_1, off := 0 }) 1 fun (a' : Option Addr) (n' c' : Nat) (h' : Heap) =>
        gabionref01_Put.L3 (iquo IntKind.u64 n 256) size a' n' c' (IntKind.i64.wrap (i + 1)) h' Q
theorem gabionref01_Put.ok {n : Int} {size : Int} {h : Heap} {Q : Value → Heap → Prop} (hk : gabionref01_Put.wp n size h Q) : C Tryz.prog 79 #[.int .u64 n, .int .i64 size] h Q :=
  C_of_xs (H := gabionref01_Put.H) (lcuts := gabionref01_Put.lc) (rcuts := gabionref01_Put.rc) (l := [.int .u64 n, .int .i64 size]) 2000 mixed Tryz.func79 rfl (by kernel_rfl) (@cast (gabionref01_Put.wp n size h Q) _ (by kernel_rfl) hk)
theorem gabionref01_Put.L3.ok {n : Int} {size : Int} {b : Option Addr} {b_n : Nat} {b_c : Nat} {i : Int} {h : Heap} {Q : Value → Heap → Prop} (hk : gabionref01_Put.L3.wp n size b b_n b_c i h Q) : gabionref01_Put.L3 n size b b_n b_c i h Q :=
  xs_ok (H := gabionref01_Put.H) (lcuts := gabionref01_Put.lc) (rcuts := gabionref01_Put.rc) (fn := Tryz.f79) mixed Tryz.func79 2000 _ _ _ (@cast (gabionref01_Put.L3.wp n size b b_n b_c i h Q) _ (by kernel_rfl) hk)
theorem gabionref01_Put.J5.ok {n : Int} {size : Int} {b : Option Addr} {b_n : Nat} {b_c : Nat} {i : Int} {h : Heap} {Q : Value → Heap → Prop} (hk : gabionref01_Put.J5.wp n size b b_n b_c i h Q) : gabionref01_Put.J5 n size b b_n b_c i h Q :=
  xs_ok (H := gabionref01_Put.H) (lcuts := gabionref01_Put.lc) (rcuts := []) (fn := Tryz.f79) mixed Tryz.func79 2000 _ _ _ (@cast (gabionref01_Put.J5.wp n size b b_n b_c i h Q) _ (by kernel_rfl) hk)

/-! gabion/gabionref04.Media -/
def gabionref04_Media.H : Hn := ⟨[], [], [], []⟩
def gabionref04_Media.lc : List Cut := [⟨3, [0, 1, 5, 6], []⟩]
def gabionref04_Media.rc : List Cut := []
def gabionref04_Media.L3 (d : Option Addr) (at0 : Int) (s : ByteArray) (k0 : Int) (h : Heap) (Q : Value → Heap → Prop) : Prop :=
  TW Tryz.prog 74 28 [.code (cAt (bodyOf Tryz.f74) [1, 1, 0, 1, 0, 0]), .inLoop (cAt (bodyOf Tryz.f74) [1, 1, 0, 1, 0, 0]), .inBlock 0, .code (cAt (bodyOf Tryz.f74) [1, 1, 1])] ⟨[(0, .v (.pointer d)), (1, .v (.int .i64 at0)), (5, .v (.string s)), (6, .v (.int .i64 k0))], []⟩ h Q
def gabionref04_Media.wp (d : Option Addr) (at0 : Int) (h : Heap) (Q : Value → Heap → Prop) : Prop :=
  gabionref04_Media.L3 d at0 { data := #[] } 0 h Q
def gabionref04_Media.L3.wp (d : Option Addr) (at0 : Int) (s : ByteArray) (k0 : Int) (h : Heap) (Q : Value → Heap → Prop) : Prop :=
  xsIf (decide (k0 < 8))
    (atBase d fun (b o : Nat) =>
      ∃ (x : Option Addr),
        ∃ (n : Nat),
          ∃ (m : Nat),
            h.cell b (o + 0) = some (Value.slice x n m) ∧
              (0 ≤ IntKind.i64.wrap (IntKind.i64.wrap (8 * at0) + k0) ∧ IntKind.i64.wrap (IntKind.i64.wrap (8 * at0) + k0) < (↑n : Int)) ∧
                atBase x fun (b o : Nat) =>
                  ∃ (x : Int),
                    h.cell b (o + (IntKind.i64.wrap (IntKind.i64.wrap (8 * at0) + k0)).toNat * 4 + 0) = some (Value.int IntKind.u64 x) ∧
                      C Tryz.prog 79 #[Value.int IntKind.u64 x, Value.int IntKind.i64 8] h fun (r : Value) (h' : Heap) =>
                        ∃ (x : ByteArray), r = Value.string x ∧ (↑(s.size + x.size) : Int) ≤ 9223372036854775807 ∧ gabionref04_Media.L3 d at0 (s ++ x) (IntKind.i64.wrap (k0 + 1)) h' Q)
    (Q (Value.string s) h)
theorem gabionref04_Media.ok {d : Option Addr} {at0 : Int} {h : Heap} {Q : Value → Heap → Prop} (hk : gabionref04_Media.wp d at0 h Q) : C Tryz.prog 74 #[.pointer d, .int .i64 at0] h Q :=
  C_of_xs (H := gabionref04_Media.H) (lcuts := gabionref04_Media.lc) (rcuts := gabionref04_Media.rc) (l := [.pointer d, .int .i64 at0]) 2000 mixed Tryz.func74 rfl (by kernel_rfl) (@cast (gabionref04_Media.wp d at0 h Q) _ (by kernel_rfl) hk)
theorem gabionref04_Media.L3.ok {d : Option Addr} {at0 : Int} {s : ByteArray} {k0 : Int} {h : Heap} {Q : Value → Heap → Prop} (hk : gabionref04_Media.L3.wp d at0 s k0 h Q) : gabionref04_Media.L3 d at0 s k0 h Q :=
  xs_ok (H := gabionref04_Media.H) (lcuts := gabionref04_Media.lc) (rcuts := gabionref04_Media.rc) (fn := Tryz.f74) mixed Tryz.func74 2000 _ _ _ (@cast (gabionref04_Media.L3.wp d at0 s k0 h Q) _ (by kernel_rfl) hk)

/-! (*gabion/pm.Device).Wear -/
def pm_Device_Wear.H : Hn := ⟨[], [], [], []⟩
def pm_Device_Wear.lc : List Cut := []
def pm_Device_Wear.rc : List Cut := []
def pm_Device_Wear.wp (d : Option Addr) (line : Int) (h : Heap) (Q : Value → Heap → Prop) : Prop :=
  C Tryz.prog 58 #[Value.pointer d, Value.int IntKind.i64 line] h fun (r : Value) (h' : Heap) =>
    ∃ (x : Bool),
      r = Value.bool x ∧
        xsIf (!x) (Q (Value.int IntKind.i64 0) h')
          (atBase d fun (b o : Nat) =>
            ∃ (x : Option Addr),
              ∃ (n : Nat),
                ∃ (m : Nat),
                  h'.cell b (o + 2) = some (Value.slice x n m) ∧ (0 ≤ line ∧ line < (↑n : Int)) ∧ atBase x fun (b o : Nat) => ∃ (x : Int), h'.cell b (o + line.toNat * 1) = some (Value.int IntKind.i64 x) ∧ Q (Value.int IntKind.i64 x) h')
theorem pm_Device_Wear.ok {d : Option Addr} {line : Int} {h : Heap} {Q : Value → Heap → Prop} (hk : pm_Device_Wear.wp d line h Q) : C Tryz.prog 75 #[.pointer d, .int .i64 line] h Q :=
  C_of_xs (H := pm_Device_Wear.H) (lcuts := pm_Device_Wear.lc) (rcuts := pm_Device_Wear.rc) (l := [.pointer d, .int .i64 line]) 2000 mixed Tryz.func75 rfl (by kernel_rfl) (@cast (pm_Device_Wear.wp d line h Q) _ (by kernel_rfl) hk)

/-! (*gabion/pm.Device).Count -/
def pm_Device_Count.H : Hn := ⟨[], [], [], []⟩
def pm_Device_Count.lc : List Cut := []
def pm_Device_Count.rc : List Cut := []
def pm_Device_Count.wp (d : Option Addr) (h : Heap) (Q : Value → Heap → Prop) : Prop :=
  xsIf d.isNone (Q (Value.int IntKind.i64 0) h) (atBase d fun (b o : Nat) => ∃ (x : Int), h.cell b (o + 6) = some (Value.int IntKind.i64 x) ∧ Q (Value.int IntKind.i64 x) h)
theorem pm_Device_Count.ok {d : Option Addr} {h : Heap} {Q : Value → Heap → Prop} (hk : pm_Device_Count.wp d h Q) : C Tryz.prog 76 #[.pointer d] h Q :=
  C_of_xs (H := pm_Device_Count.H) (lcuts := pm_Device_Count.lc) (rcuts := pm_Device_Count.rc) (l := [.pointer d]) 2000 mixed Tryz.func76 rfl (by kernel_rfl) (@cast (pm_Device_Count.wp d h Q) _ (by kernel_rfl) hk)

/-! gabion/gabionlaw05.media -/
def gabionlaw05_media.H : Hn := ⟨[], [], [⟨4, .q 0 (.q 1 (.q 2 (.q 3 (.q 4 (.q 5 (.q 6 (.q 7 (.q 8 (.q 9 (.q 11 (.q 12 (.q 13 (.q 15 (.br 10 (.q 14 (.q 16 (.q 17 (.q 18 (.q 19 (.nil)))))) (.one 14 (.q 16 (.br 10 (.q 17 (.q 18 (.q 19 (.nil)))) (.one 17 (.q 10 (.q 18 (.q 19 (.nil)))))))))))))))))))))), []⟩, ⟨7, .q 0 (.q 2 (.q 3 (.q 4 (.br 1 (.q 5 (.q 6 (.q 7 (.q 8 (.q 10 (.q 11 (.q 12 (.br 9 (.q 13 (.q 14 (.q 15 (.q 16 (.nil))))) (.one 13 (.q 9 (.q 14 (.q 15 (.q 16 (.nil)))))))))))))) (.one 5 (.q 1 (.q 6 (.q 7 (.q 8 (.q 10 (.q 11 (.q 12 (.br 9 (.q 13 (.q 14 (.q 15 (.q 16 (.nil))))) (.one 13 (.q 9 (.q 14 (.q 15 (.q 16 (.nil))))))))))))))))))), []⟩], []⟩
def gabionlaw05_media.lc : List Cut := [⟨2, [0, 1, 10, 11], []⟩]
def gabionlaw05_media.rc : List Cut := []
def gabionlaw05_media.L2 (d : Option Addr) (m : Option Addr) (t10 : Int) (t11 : Int) (h : Heap) (Q : Value → Heap → Prop) : Prop :=
  TW Tryz.prog 29 51 [.code (cAt (bodyOf Tryz.f29) [1, 0, 1, 0, 0]), .inLoop (cAt (bodyOf Tryz.f29) [1, 0, 1, 0, 0]), .inBlock 0, .code (cAt (bodyOf Tryz.f29) [1, 1])] ⟨[(0, .v (.pointer d)), (1, .v (.pointer m)), (10, .v (.int .i64 t10)), (11, .v (.int .i64 t11))], []⟩ h Q
def gabionlaw05_media.wp (d : Option Addr) (m : Option Addr) (h : Heap) (Q : Value → Heap → Prop) : Prop :=
  atBase m fun (b o : Nat) => ∃ (x : Option Addr), ∃ (n : Nat), ∃ (m_1 : Nat), h.cell b (o + 1) = some (Value.slice x n m_1) ∧ gabionlaw05_media.L2 d m (↑n : Int) 0 h Q
def gabionlaw05_media.L2.wp (d : Option Addr) (m : Option Addr) (t10 : Int) (t11 : Int) (h : Heap) (Q : Value → Heap → Prop) : Prop :=
  xsIf (decide (t11 < t10))
    (C Tryz.prog 74 #[Value.pointer m, Value.int IntKind.i64 t11] h fun (r : Value) (h' : Heap) =>
      ∃ (x : ByteArray),
        r = Value.string x ∧
          C Tryz.prog 60 #[Value.pointer d, Value.int IntKind.i64 t11, Value.string x] h' fun (r : Value) (h' : Heap) =>
            ∃ (x : Bool),
              r = Value.bool x ∧
                xsIf (!x) (Q (Value.bool false) h' ∧ Q (Value.bool false) h' ∧ Q (Value.bool false) h')
                  (atBase m fun (b o : Nat) =>
                    (C Tryz.prog 75 #[Value.pointer d, Value.int IntKind.i64 t11] h' fun (r : Value) (h' : Heap) =>
                        ∃ (x : Int),
                          r = Value.int IntKind.i64 x ∧
                            ∃ (x_1 : Option Addr),
                              ∃ (n : Nat),
                                ∃ (m_1 : Nat),
                                  h'.cell b (o + 1) = some (Value.slice x_1 n m_1) ∧
                                    (0 ≤ t11 ∧ t11 < (↑n : Int)) ∧
                                      atBase x_1 fun (b o : Nat) =>
                                        ∃ (x_2 : Int), h'.cell b (o + t11.toNat * 1) = some (Value.int IntKind.i64 x_2) ∧ xsIf (decide (x ≠ x_2)) (Q (Value.bool false) h') (gabionlaw05_media.L2 d m t10 (IntKind.i64.wrap (t11 + 1)) h' Q)) ∧
                      ∃ (x : Option Addr),
                        ∃ (n : Nat),
                          ∃ (m_1 : Nat),
                            h'.cell b (o + 1) = some (Value.slice x n m_1) ∧
                              (0 ≤ t11 ∧ t11 < (↑n : Int)) ∧
                                atBase x fun (b o : Nat) =>
                                  (C Tryz.prog 75 #[Value.pointer d, Value.int IntKind.i64 t11] h' fun (r : Value) (h' : Heap) =>
                                      ∃ (x : Int),
                                        r = Value.int IntKind.i64 x ∧
                                          ∃ (x_1 : Int), h'.cell b (o + t11.toNat * 1) = some (Value.int IntKind.i64 x_1) ∧ xsIf (decide (x ≠ x_1)) (Q (Value.bool false) h') (gabionlaw05_media.L2 d m t10 (IntKind.i64.wrap (t11 + 1)) h' Q)) ∧
                                    ∃ (x : Int),
                                      h'.cell b (o + t11.toNat * 1) = some (Value.int IntKind.i64 x) ∧
                                        C Tryz.prog 75 #[Value.pointer d, Value.int IntKind.i64 t11] h' fun (r : Value) (h' : Heap) =>
                                          ∃ (x_1 : Int), r = Value.int IntKind.i64 x_1 ∧ xsIf (decide (x_1 ≠ x)) (Q (Value.bool false) h') (gabionlaw05_media.L2 d m t10 (IntKind.i64.wrap (t11 + 1)) h' Q)))
    (atBase m fun (b o : Nat) =>
      (C Tryz.prog 76 #[Value.pointer d] h fun (r : Value) (h' : Heap) =>
          ∃ (x : Int),
            r = Value.int IntKind.i64 x ∧
              ∃ (x_1 : Int),
                h'.cell b (o + 5) = some (Value.int IntKind.i64 x_1) ∧
                  xsIf (decide (x = x_1))
                    (atBase m fun (b o : Nat) =>
                      (C Tryz.prog 38 #[Value.pointer d] h' fun (r : Value) (h' : Heap) => ∃ (x : Bool), r = Value.bool x ∧ ∃ (x_2 : Bool), h'.cell b (o + 4) = some (Value.bool x_2) ∧ Q (Value.bool (x == x_2)) h') ∧
                        ∃ (x : Bool), h'.cell b (o + 4) = some (Value.bool x) ∧ C Tryz.prog 38 #[Value.pointer d] h' fun (r : Value) (h' : Heap) => ∃ (x_2 : Bool), r = Value.bool x_2 ∧ Q (Value.bool (x_2 == x)) h')
                    (Q (Value.bool false) h' ∧ Q (Value.bool false) h')) ∧
        ∃ (x : Int),
          h.cell b (o + 5) = some (Value.int IntKind.i64 x) ∧
            C Tryz.prog 76 #[Value.pointer d] h fun (r : Value) (h' : Heap) =>
              ∃ (x_1 : Int),
                r = Value.int IntKind.i64 x_1 ∧
                  xsIf (decide (x_1 = x))
                    (atBase m fun (b o : Nat) =>
                      (C Tryz.prog 38 #[Value.pointer d] h' fun (r : Value) (h' : Heap) => ∃ (x : Bool), r = Value.bool x ∧ ∃ (x_2 : Bool), h'.cell b (o + 4) = some (Value.bool x_2) ∧ Q (Value.bool (x == x_2)) h') ∧
                        ∃ (x : Bool), h'.cell b (o + 4) = some (Value.bool x) ∧ C Tryz.prog 38 #[Value.pointer d] h' fun (r : Value) (h' : Heap) => ∃ (x_2 : Bool), r = Value.bool x_2 ∧ Q (Value.bool (x_2 == x)) h')
                    (Q (Value.bool false) h' ∧ Q (Value.bool false) h'))
theorem gabionlaw05_media.ok {d : Option Addr} {m : Option Addr} {h : Heap} {Q : Value → Heap → Prop} (hk : gabionlaw05_media.wp d m h Q) : C Tryz.prog 29 #[.pointer d, .pointer m] h Q :=
  C_of_xs (H := gabionlaw05_media.H) (lcuts := gabionlaw05_media.lc) (rcuts := gabionlaw05_media.rc) (l := [.pointer d, .pointer m]) 2000 mixed Tryz.func29 rfl (by kernel_rfl) (@cast (gabionlaw05_media.wp d m h Q) _ (by kernel_rfl) hk)
theorem gabionlaw05_media.L2.ok {d : Option Addr} {m : Option Addr} {t10 : Int} {t11 : Int} {h : Heap} {Q : Value → Heap → Prop} (hk : gabionlaw05_media.L2.wp d m t10 t11 h Q) : gabionlaw05_media.L2 d m t10 t11 h Q :=
  xs_ok (H := gabionlaw05_media.H) (lcuts := gabionlaw05_media.lc) (rcuts := gabionlaw05_media.rc) (fn := Tryz.f29) mixed Tryz.func29 2000 _ _ _ (@cast (gabionlaw05_media.L2.wp d m t10 t11 h Q) _ (by kernel_rfl) hk)

/-! gabion/gabionref03.Load -/
def gabionref03_Load.H : Hn := ⟨[], [], [], []⟩
def gabionref03_Load.lc : List Cut := []
def gabionref03_Load.rc : List Cut := [⟨5, [0, 1], []⟩]
def gabionref03_Load.J5 (d : Option Addr) (word : Int) (h : Heap) (Q : Value → Heap → Prop) : Prop :=
  TW Tryz.prog 81 45 [.code (cAt (bodyOf Tryz.f81) [1, 1, 1, 0, 0]), .code (cAt (bodyOf Tryz.f81) [1, 1, 1, 0, 1]), .code (cAt (bodyOf Tryz.f81) [1, 1, 1, 1])] ⟨[(0, .v (.pointer d)), (1, .v (.int .i64 word))], []⟩ h Q
def gabionref03_Load.wp (d : Option Addr) (word : Int) (h : Heap) (Q : Value → Heap → Prop) : Prop :=
  atBase d fun (b o : Nat) =>
    ∃ (x : Bool),
      h.cell b (o + 4) = some (Value.bool x) ∧
        xsIf x (Q (Value.tuple #[Value.int IntKind.u64 0, Value.int IntKind.i64 6]) h)
          (xsIf (decide (word < 0)) (Q (Value.tuple #[Value.int IntKind.u64 0, Value.int IntKind.i64 3]) h)
            (atBase d fun (b o : Nat) =>
              ∃ (x : Option Addr),
                ∃ (n : Nat), ∃ (m : Nat), h.cell b (o + 0) = some (Value.slice x n m) ∧ xsIf (decide ((↑n : Int) ≤ word)) (Q (Value.tuple #[Value.int IntKind.u64 0, Value.int IntKind.i64 3]) h) (gabionref03_Load.J5 d word h Q)))
def gabionref03_Load.J5.wp (d : Option Addr) (word : Int) (h : Heap) (Q : Value → Heap → Prop) : Prop :=
  atBase d fun (b o : Nat) =>
    ∃ (x : Option Addr),
      ∃ (n : Nat),
        ∃ (m : Nat),
          h.cell b (o + 0) = some (Value.slice x n m) ∧
            (0 ≤ word ∧ word < (↑n : Int)) ∧
              atBase x fun (b o : Nat) =>
                ∃ (x : Bool),
                  h.cell b (o + word.toNat * 4 + 1) = some (Value.bool x) ∧
                    xsIf x
                      (atBase d fun (b o : Nat) =>
                        ∃ (x : Option Addr),
                          ∃ (n : Nat),
                            ∃ (m : Nat),
                              h.cell b (o + 0) = some (Value.slice x n m) ∧
                                (0 ≤ word ∧ word < (↑n : Int)) ∧
                                  atBase x fun (b o : Nat) => ∃ (x : Int), h.cell b (o + word.toNat * 4 + 2) = some (Value.int IntKind.u64 x) ∧ Q (Value.tuple #[Value.int IntKind.u64 x, Value.int IntKind.i64 0]) h)
                      (atBase d fun (b o : Nat) =>
                        ∃ (x : Option Addr),
                          ∃ (n : Nat),
                            ∃ (m : Nat),
                              h.cell b (o + 0) = some (Value.slice x n m) ∧
                                (0 ≤ word ∧ word < (↑n : Int)) ∧
                                  atBase x fun (b o : Nat) => ∃ (x : Int), h.cell b (o + word.toNat * 4 + 0) = some (Value.int IntKind.u64 x) ∧ Q (Value.tuple #[Value.int IntKind.u64 x, Value.int IntKind.i64 0]) h)
theorem gabionref03_Load.ok {d : Option Addr} {word : Int} {h : Heap} {Q : Value → Heap → Prop} (hk : gabionref03_Load.wp d word h Q) : C Tryz.prog 81 #[.pointer d, .int .i64 word] h Q :=
  C_of_xs (H := gabionref03_Load.H) (lcuts := gabionref03_Load.lc) (rcuts := gabionref03_Load.rc) (l := [.pointer d, .int .i64 word]) 2000 mixed Tryz.func81 rfl (by kernel_rfl) (@cast (gabionref03_Load.wp d word h Q) _ (by kernel_rfl) hk)
theorem gabionref03_Load.J5.ok {d : Option Addr} {word : Int} {h : Heap} {Q : Value → Heap → Prop} (hk : gabionref03_Load.J5.wp d word h Q) : gabionref03_Load.J5 d word h Q :=
  xs_ok (H := gabionref03_Load.H) (lcuts := gabionref03_Load.lc) (rcuts := []) (fn := Tryz.f81) mixed Tryz.func81 2000 _ _ _ (@cast (gabionref03_Load.J5.wp d word h Q) _ (by kernel_rfl) hk)

/-! gabion/gabionref01.may -/
def gabionref01_may.H : Hn := ⟨[], [], [], []⟩
def gabionref01_may.lc : List Cut := []
def gabionref01_may.rc : List Cut := []
def gabionref01_may.wp (at0 : Int) (width : Int) (h : Heap) (Q : Value → Heap → Prop) : Prop :=
  xsIf (decide (0 ≤ at0)) (xsIf (decide (at0 < 64)) (xsIf (decide (1 ≤ width)) (Q (Value.bool (decide (width ≤ IntKind.i64.wrap (64 - at0)))) h) (Q (Value.bool false) h)) (Q (Value.bool false) h)) (Q (Value.bool false) h)
theorem gabionref01_may.ok {at0 : Int} {width : Int} {h : Heap} {Q : Value → Heap → Prop} (hk : gabionref01_may.wp at0 width h Q) : C Tryz.prog 174 #[.int .i64 at0, .int .i64 width] h Q :=
  C_of_xs (H := gabionref01_may.H) (lcuts := gabionref01_may.lc) (rcuts := gabionref01_may.rc) (l := [.int .i64 at0, .int .i64 width]) 2000 mixed Tryz.func174 rfl (by kernel_rfl) (@cast (gabionref01_may.wp at0 width h Q) _ (by kernel_rfl) hk)

/-! gabion/gabionref01.bit -/
def gabionref01_bit.H : Hn := ⟨[], [], [], []⟩
def gabionref01_bit.lc : List Cut := [⟨2, [0, 1, 5], []⟩]
def gabionref01_bit.rc : List Cut := []
def gabionref01_bit.L2 (w : Int) (i : Int) (k0 : Int) (h : Heap) (Q : Value → Heap → Prop) : Prop :=
  TW Tryz.prog 175 15 [.code (cAt (bodyOf Tryz.f175) [1, 0, 1, 0, 0]), .inLoop (cAt (bodyOf Tryz.f175) [1, 0, 1, 0, 0]), .inBlock 0, .code (cAt (bodyOf Tryz.f175) [1, 1])] ⟨[(0, .v (.int .u64 w)), (1, .v (.int .i64 i)), (5, .v (.int .i64 k0))], []⟩ h Q
def gabionref01_bit.wp (w : Int) (i : Int) (h : Heap) (Q : Value → Heap → Prop) : Prop :=
  gabionref01_bit.L2 w i 0 h Q
def gabionref01_bit.L2.wp (w : Int) (i : Int) (k0 : Int) (h : Heap) (Q : Value → Heap → Prop) : Prop :=
  xsIf (decide (k0 < i)) (gabionref01_bit.L2 (iquo IntKind.u64 w 2) i (IntKind.i64.wrap (k0 + 1)) h Q) (Q (Value.int IntKind.u64 (irem w 2)) h)
theorem gabionref01_bit.ok {w : Int} {i : Int} {h : Heap} {Q : Value → Heap → Prop} (hk : gabionref01_bit.wp w i h Q) : C Tryz.prog 175 #[.int .u64 w, .int .i64 i] h Q :=
  C_of_xs (H := gabionref01_bit.H) (lcuts := gabionref01_bit.lc) (rcuts := gabionref01_bit.rc) (l := [.int .u64 w, .int .i64 i]) 2000 mixed Tryz.func175 rfl (by kernel_rfl) (@cast (gabionref01_bit.wp w i h Q) _ (by kernel_rfl) hk)
theorem gabionref01_bit.L2.ok {w : Int} {i : Int} {k0 : Int} {h : Heap} {Q : Value → Heap → Prop} (hk : gabionref01_bit.L2.wp w i k0 h Q) : gabionref01_bit.L2 w i k0 h Q :=
  xs_ok (H := gabionref01_bit.H) (lcuts := gabionref01_bit.lc) (rcuts := gabionref01_bit.rc) (fn := Tryz.f175) mixed Tryz.func175 2000 _ _ _ (@cast (gabionref01_bit.L2.wp w i k0 h Q) _ (by kernel_rfl) hk)

/-! gabion/gabionref01.Field -/
def gabionref01_Field.H : Hn := ⟨[], [], [], []⟩
def gabionref01_Field.lc : List Cut := [⟨4, [0, 1, 2, 7, 8, 9], []⟩]
def gabionref01_Field.rc : List Cut := [⟨6, [0, 1, 2, 7, 8, 9], []⟩]
def gabionref01_Field.L4 (w : Int) (at0 : Int) (width : Int) (ok : Bool) (n : Int) (i : Int) (h : Heap) (Q : Value → Heap → Prop) : Prop :=
  TW Tryz.prog 169 35 [.code (cAt (bodyOf Tryz.f169) [1, 1, 1, 0, 1, 0, 0]), .inLoop (cAt (bodyOf Tryz.f169) [1, 1, 1, 0, 1, 0, 0]), .inBlock 0, .code (cAt (bodyOf Tryz.f169) [1, 1, 1, 1])] ⟨[(0, .v (.int .u64 w)), (1, .v (.int .i64 at0)), (2, .v (.int .i64 width)), (7, .v (.bool ok)), (8, .v (.int .u64 n)), (9, .v (.int .i64 i))], []⟩ h Q
def gabionref01_Field.J6 (w : Int) (at0 : Int) (width : Int) (ok : Bool) (n : Int) (i : Int) (h : Heap) (Q : Value → Heap → Prop) : Prop :=
  TW Tryz.prog 169 35 [.code (cAt (bodyOf Tryz.f169) [1, 1, 1, 0, 1, 0, 0, 1, 0, 0, 0]), .code (cAt (bodyOf Tryz.f169) [1, 1, 1, 0, 1, 0, 0, 1, 0, 0, 1]), .inBlock 1, .code (cAt (bodyOf Tryz.f169) [1, 1, 1, 0, 1, 0, 0, 1, 1]), .inLoop (cAt (bodyOf Tryz.f169) [1, 1, 1, 0, 1, 0, 0]), .inBlock 0, .code (cAt (bodyOf Tryz.f169) [1, 1, 1, 1])] ⟨[(0, .v (.int .u64 w)), (1, .v (.int .i64 at0)), (2, .v (.int .i64 width)), (7, .v (.bool ok)), (8, .v (.int .u64 n)), (9, .v (.int .i64 i))], []⟩ h Q
def gabionref01_Field.wp (w : Int) (at0 : Int) (width : Int) (h : Heap) (Q : Value → Heap → Prop) : Prop :=
  C Tryz.prog 174 #[Value.int IntKind.i64 at0, Value.int IntKind.i64 width] h fun (r : Value) (h' : Heap) => ∃ (x : Bool), r = Value.bool x ∧ gabionref01_Field.L4 w at0 width x 0 0 h' Q
def gabionref01_Field.L4.wp (w : Int) (at0 : Int) (width : Int) (ok : Bool) (n : Int) (i : Int) (h : Heap) (Q : Value → Heap → Prop) : Prop :=
  xsIf ok (xsIf (decide (i < width)) (gabionref01_Field.J6 w at0 width ok n i h Q) (Q (Value.int IntKind.u64 n) h)) (Q (Value.int IntKind.u64 n) h)
def gabionref01_Field.J6.wp (w : Int) (at0 : Int) (width : Int) (ok : Bool) (n : Int) (i : Int) (h : Heap) (Q : Value → Heap → Prop) : Prop :=
  C Tryz.prog 175 #[Value.int IntKind.u64 w, Value.int IntKind.i64 (IntKind.i64.wrap (IntKind.i64.wrap (IntKind.i64.wrap (at0 + width) - 1) - i))] h fun (r : Value) (h' : Heap) =>
    ∃ (x : Int), r = Value.int IntKind.u64 x ∧ gabionref01_Field.L4 w at0 width ok (IntKind.u64.wrap (IntKind.u64.wrap (2 * n) + x)) (IntKind.i64.wrap (i + 1)) h' Q
theorem gabionref01_Field.ok {w : Int} {at0 : Int} {width : Int} {h : Heap} {Q : Value → Heap → Prop} (hk : gabionref01_Field.wp w at0 width h Q) : C Tryz.prog 169 #[.int .u64 w, .int .i64 at0, .int .i64 width] h Q :=
  C_of_xs (H := gabionref01_Field.H) (lcuts := gabionref01_Field.lc) (rcuts := gabionref01_Field.rc) (l := [.int .u64 w, .int .i64 at0, .int .i64 width]) 2000 mixed Tryz.func169 rfl (by kernel_rfl) (@cast (gabionref01_Field.wp w at0 width h Q) _ (by kernel_rfl) hk)
theorem gabionref01_Field.L4.ok {w : Int} {at0 : Int} {width : Int} {ok : Bool} {n : Int} {i : Int} {h : Heap} {Q : Value → Heap → Prop} (hk : gabionref01_Field.L4.wp w at0 width ok n i h Q) : gabionref01_Field.L4 w at0 width ok n i h Q :=
  xs_ok (H := gabionref01_Field.H) (lcuts := gabionref01_Field.lc) (rcuts := gabionref01_Field.rc) (fn := Tryz.f169) mixed Tryz.func169 2000 _ _ _ (@cast (gabionref01_Field.L4.wp w at0 width ok n i h Q) _ (by kernel_rfl) hk)
theorem gabionref01_Field.J6.ok {w : Int} {at0 : Int} {width : Int} {ok : Bool} {n : Int} {i : Int} {h : Heap} {Q : Value → Heap → Prop} (hk : gabionref01_Field.J6.wp w at0 width ok n i h Q) : gabionref01_Field.J6 w at0 width ok n i h Q :=
  xs_ok (H := gabionref01_Field.H) (lcuts := gabionref01_Field.lc) (rcuts := []) (fn := Tryz.f169) mixed Tryz.func169 2000 _ _ _ (@cast (gabionref01_Field.J6.wp w at0 width ok n i h Q) _ (by kernel_rfl) hk)

/-! gabion/gabionref02.bits -/
def gabionref02_bits.H : Hn := ⟨[], [], [], []⟩
def gabionref02_bits.lc : List Cut := [⟨3, [0, 1, 5, 6], []⟩, ⟨6, [0, 1, 5, 6, 7], []⟩]
def gabionref02_bits.rc : List Cut := [⟨11, [0, 1, 5, 6, 7, 8], []⟩]
def gabionref02_bits.L3 (s : ByteArray) (low : Bool) (out : Option Addr) (out_n : Nat) (out_c : Nat) (i : Int) (h : Heap) (Q : Value → Heap → Prop) : Prop :=
  TW Tryz.prog 157 36 [.code (cAt (bodyOf Tryz.f157) [1, 1, 0, 1, 0, 0]), .inLoop (cAt (bodyOf Tryz.f157) [1, 1, 0, 1, 0, 0]), .inBlock 0, .code (cAt (bodyOf Tryz.f157) [1, 1, 1])] ⟨[(0, .v (.string s)), (1, .v (.bool low)), (5, .v (.slice out out_n out_c)), (6, .v (.int .i64 i))], []⟩ h Q
def gabionref02_bits.L6 (s : ByteArray) (low : Bool) (out : Option Addr) (out_n : Nat) (out_c : Nat) (i : Int) (k0 : Int) (h : Heap) (Q : Value → Heap → Prop) : Prop :=
  TW Tryz.prog 157 36 [.code (cAt (bodyOf Tryz.f157) [1, 1, 0, 1, 0, 0, 1, 0, 0, 1, 0, 0]), .inLoop (cAt (bodyOf Tryz.f157) [1, 1, 0, 1, 0, 0, 1, 0, 0, 1, 0, 0]), .inBlock 2, .inBlock 1, .code (cAt (bodyOf Tryz.f157) [1, 1, 0, 1, 0, 0, 1, 1]), .inLoop (cAt (bodyOf Tryz.f157) [1, 1, 0, 1, 0, 0]), .inBlock 0, .code (cAt (bodyOf Tryz.f157) [1, 1, 1])] ⟨[(0, .v (.string s)), (1, .v (.bool low)), (5, .v (.slice out out_n out_c)), (6, .v (.int .i64 i)), (7, .v (.int .i64 k0))], []⟩ h Q
def gabionref02_bits.J11 (s : ByteArray) (low : Bool) (out : Option Addr) (out_n : Nat) (out_c : Nat) (i : Int) (k0 : Int) (at0 : Int) (h : Heap) (Q : Value → Heap → Prop) : Prop :=
  TW Tryz.prog 157 36 [.code (cAt (bodyOf Tryz.f157) [1, 1, 0, 1, 0, 0, 1, 0, 0, 1, 0, 0, 1, 0, 0, 1, 1, 0]), .code (cAt (bodyOf Tryz.f157) [1, 1, 0, 1, 0, 0, 1, 0, 0, 1, 0, 0, 1, 0, 0, 1, 1, 1]), .inBlock 3, .code (cAt (bodyOf Tryz.f157) [1, 1, 0, 1, 0, 0, 1, 0, 0, 1, 0, 0, 1, 1]), .inLoop (cAt (bodyOf Tryz.f157) [1, 1, 0, 1, 0, 0, 1, 0, 0, 1, 0, 0]), .inBlock 2, .inBlock 1, .code (cAt (bodyOf Tryz.f157) [1, 1, 0, 1, 0, 0, 1, 1]), .inLoop (cAt (bodyOf Tryz.f157) [1, 1, 0, 1, 0, 0]), .inBlock 0, .code (cAt (bodyOf Tryz.f157) [1, 1, 1])] ⟨[(0, .v (.string s)), (1, .v (.bool low)), (5, .v (.slice out out_n out_c)), (6, .v (.int .i64 i)), (7, .v (.int .i64 k0)), (8, .v (.int .i64 at0))], []⟩ h Q
def gabionref02_bits.wp (s : ByteArray) (low : Bool) (h : Heap) (Q : Value → Heap → Prop) : Prop :=
  gabionref02_bits.L3 s low none 0 0 0 h Q
def gabionref02_bits.L3.wp (s : ByteArray) (low : Bool) (out : Option Addr) (out_n : Nat) (out_c : Nat) (i : Int) (h : Heap) (Q : Value → Heap → Prop) : Prop :=
  xsIf (decide (i < (↑s.size : Int))) (gabionref02_bits.L6 s low out out_n out_c i 0 h Q) (Q (Value.slice out out_n out_c) h)
def gabionref02_bits.L6.wp (s : ByteArray) (low : Bool) (out : Option Addr) (out_n : Nat) (out_c : Nat) (i : Int) (k0 : Int) (h : Heap) (Q : Value → Heap → Prop) : Prop :=
  xsIf (decide (k0 < 8)) (xsIf low (gabionref02_bits.J11 s low out out_n out_c i k0 k0 h Q) (gabionref02_bits.J11 s low out out_n out_c i k0 (IntKind.i64.wrap (7 - k0)) h Q))
    (gabionref02_bits.L3 s low out out_n out_c (IntKind.i64.wrap (i + 1)) h Q)
def gabionref02_bits.J11.wp (s : ByteArray) (low : Bool) (out : Option Addr) (out_n : Nat) (out_c : Nat) (i : Int) (k0 : Int) (at0 : Int) (h : Heap) (Q : Value → Heap → Prop) : Prop :=
  ∃ (c : UInt8),
    0 ≤ i ∧
      bget s i.toNat = some c ∧
        C Tryz.prog 169 #[Value.int IntKind.u64 (IntKind.u64.wrap (↑c.toNat : Int)), Value.int IntKind.i64 at0, Value.int IntKind.i64 1] h fun (r : Value) (h' : Heap) =>
          ∃ (x : Int),
            r = Value.int IntKind.u64 x ∧
              ∀ (b : Nat),
                h' b = none →
                  xsApp Tryz.prog 3 (upd h' b (Obj.cells #[Value.int IntKind.i64 (IntKind.i64.wrap x)] 3 (0, 0))) out out_n out_c (some { block := b, off := 0 }) 1 fun (a' : Option Addr) (n' c' : Nat) (h' : Heap) =>
                    gabionref02_bits.L6 s low a' n' c' i (IntKind.i64.wrap (k0 + 1)) h' Q
theorem gabionref02_bits.ok {s : ByteArray} {low : Bool} {h : Heap} {Q : Value → Heap → Prop} (hk : gabionref02_bits.wp s low h Q) : C Tryz.prog 157 #[.string s, .bool low] h Q :=
  C_of_xs (H := gabionref02_bits.H) (lcuts := gabionref02_bits.lc) (rcuts := gabionref02_bits.rc) (l := [.string s, .bool low]) 2000 mixed Tryz.func157 rfl (by kernel_rfl) (@cast (gabionref02_bits.wp s low h Q) _ (by kernel_rfl) hk)
theorem gabionref02_bits.L3.ok {s : ByteArray} {low : Bool} {out : Option Addr} {out_n : Nat} {out_c : Nat} {i : Int} {h : Heap} {Q : Value → Heap → Prop} (hk : gabionref02_bits.L3.wp s low out out_n out_c i h Q) : gabionref02_bits.L3 s low out out_n out_c i h Q :=
  xs_ok (H := gabionref02_bits.H) (lcuts := gabionref02_bits.lc) (rcuts := gabionref02_bits.rc) (fn := Tryz.f157) mixed Tryz.func157 2000 _ _ _ (@cast (gabionref02_bits.L3.wp s low out out_n out_c i h Q) _ (by kernel_rfl) hk)
theorem gabionref02_bits.L6.ok {s : ByteArray} {low : Bool} {out : Option Addr} {out_n : Nat} {out_c : Nat} {i : Int} {k0 : Int} {h : Heap} {Q : Value → Heap → Prop} (hk : gabionref02_bits.L6.wp s low out out_n out_c i k0 h Q) : gabionref02_bits.L6 s low out out_n out_c i k0 h Q :=
  xs_ok (H := gabionref02_bits.H) (lcuts := gabionref02_bits.lc) (rcuts := gabionref02_bits.rc) (fn := Tryz.f157) mixed Tryz.func157 2000 _ _ _ (@cast (gabionref02_bits.L6.wp s low out out_n out_c i k0 h Q) _ (by kernel_rfl) hk)
theorem gabionref02_bits.J11.ok {s : ByteArray} {low : Bool} {out : Option Addr} {out_n : Nat} {out_c : Nat} {i : Int} {k0 : Int} {at0 : Int} {h : Heap} {Q : Value → Heap → Prop} (hk : gabionref02_bits.J11.wp s low out out_n out_c i k0 at0 h Q) : gabionref02_bits.J11 s low out out_n out_c i k0 at0 h Q :=
  xs_ok (H := gabionref02_bits.H) (lcuts := gabionref02_bits.lc) (rcuts := []) (fn := Tryz.f157) mixed Tryz.func157 2000 _ _ _ (@cast (gabionref02_bits.J11.wp s low out out_n out_c i k0 at0 h Q) _ (by kernel_rfl) hk)

/-! gabion/gabionref02.Sum -/
def gabionref02_Sum.H : Hn := ⟨[], [], [⟨9, .q 0 (.q 1 (.q 3 (.q 4 (.q 5 (.ld 2 896 (.q 6 (.q 7 (.q 8 (.q 9 (.nil)))))))))), []⟩, ⟨18, .q 0 (.q 1 (.q 2 (.q 3 (.q 4 (.q 6 (.q 7 (.q 8 (.ld 5 15360 (.q 9 (.q 10 (.q 11 (.q 12 (.q 13 (.nil)))))))))))))), []⟩], []⟩
def gabionref02_Sum.lc : List Cut := [⟨3, [0, 1, 5, 6], []⟩, ⟨7, [0, 1, 5, 7], []⟩, ⟨11, [0, 1, 5, 7, 8, 9], []⟩, ⟨16, [0, 1, 5, 7, 8, 10], []⟩]
def gabionref02_Sum.rc : List Cut := [⟨6, [0, 1, 5], []⟩, ⟨14, [0, 1, 5, 7, 8], []⟩, ⟨18, [0, 1, 5, 7, 8, 10], []⟩]
def gabionref02_Sum.L3 (l : Option Addr) (l_n : Nat) (l_c : Nat) (turns : Option Addr) (turns_n : Nat) (turns_c : Nat) (r0 : Option Addr) (r0_n : Nat) (r0_c : Nat) (i_6 : Int) (h : Heap) (Q : Value → Heap → Prop) : Prop :=
  TW Tryz.prog 158 82 [.code (cAt (bodyOf Tryz.f158) [1, 1, 0, 1, 0, 0]), .inLoop (cAt (bodyOf Tryz.f158) [1, 1, 0, 1, 0, 0]), .inBlock 0, .code (cAt (bodyOf Tryz.f158) [1, 1, 1])] ⟨[(0, .v (.slice l l_n l_c)), (1, .v (.slice turns turns_n turns_c)), (5, .v (.slice r0 r0_n r0_c)), (6, .v (.int .i64 i_6))], []⟩ h Q
def gabionref02_Sum.J6 (l : Option Addr) (l_n : Nat) (l_c : Nat) (turns : Option Addr) (turns_n : Nat) (turns_c : Nat) (r0 : Option Addr) (r0_n : Nat) (r0_c : Nat) (h : Heap) (Q : Value → Heap → Prop) : Prop :=
  TW Tryz.prog 158 82 [.code (cAt (bodyOf Tryz.f158) [1, 1, 1, 0, 0]), .code (cAt (bodyOf Tryz.f158) [1, 1, 1, 0, 1]), .code (cAt (bodyOf Tryz.f158) [1, 1, 1, 1])] ⟨[(0, .v (.slice l l_n l_c)), (1, .v (.slice turns turns_n turns_c)), (5, .v (.slice r0 r0_n r0_c))], []⟩ h Q
def gabionref02_Sum.L7 (l : Option Addr) (l_n : Nat) (l_c : Nat) (turns : Option Addr) (turns_n : Nat) (turns_c : Nat) (r0 : Option Addr) (r0_n : Nat) (r0_c : Nat) (i_7 : Int) (h : Heap) (Q : Value → Heap → Prop) : Prop :=
  TW Tryz.prog 158 82 [.code (cAt (bodyOf Tryz.f158) [1, 1, 1, 0, 1, 0, 0]), .inLoop (cAt (bodyOf Tryz.f158) [1, 1, 1, 0, 1, 0, 0]), .inBlock 2, .code (cAt (bodyOf Tryz.f158) [1, 1, 1, 1])] ⟨[(0, .v (.slice l l_n l_c)), (1, .v (.slice turns turns_n turns_c)), (5, .v (.slice r0 r0_n r0_c)), (7, .v (.int .i64 i_7))], []⟩ h Q
def gabionref02_Sum.L11 (l : Option Addr) (l_n : Nat) (l_c : Nat) (turns : Option Addr) (turns_n : Nat) (turns_c : Nat) (r0 : Option Addr) (r0_n : Nat) (r0_c : Nat) (i_7 : Int) (out : Int) (k0_9 : Int) (h : Heap) (Q : Value → Heap → Prop) : Prop :=
  TW Tryz.prog 158 82 [.code (cAt (bodyOf Tryz.f158) [1, 1, 1, 0, 1, 0, 0, 1, 0, 0, 1, 0, 1, 0, 0]), .inLoop (cAt (bodyOf Tryz.f158) [1, 1, 1, 0, 1, 0, 0, 1, 0, 0, 1, 0, 1, 0, 0]), .inBlock 4, .code (cAt (bodyOf Tryz.f158) [1, 1, 1, 0, 1, 0, 0, 1, 0, 0, 1, 1]), .inBlock 3, .code (cAt (bodyOf Tryz.f158) [1, 1, 1, 0, 1, 0, 0, 1, 1]), .inLoop (cAt (bodyOf Tryz.f158) [1, 1, 1, 0, 1, 0, 0]), .inBlock 2, .code (cAt (bodyOf Tryz.f158) [1, 1, 1, 1])] ⟨[(0, .v (.slice l l_n l_c)), (1, .v (.slice turns turns_n turns_c)), (5, .v (.slice r0 r0_n r0_c)), (7, .v (.int .i64 i_7)), (8, .v (.int .i64 out)), (9, .v (.int .i64 k0_9))], []⟩ h Q
def gabionref02_Sum.J14 (l : Option Addr) (l_n : Nat) (l_c : Nat) (turns : Option Addr) (turns_n : Nat) (turns_c : Nat) (r0 : Option Addr) (r0_n : Nat) (r0_c : Nat) (i_7 : Int) (out : Int) (h : Heap) (Q : Value → Heap → Prop) : Prop :=
  TW Tryz.prog 158 82 [.code (cAt (bodyOf Tryz.f158) [1, 1, 1, 0, 1, 0, 0, 1, 0, 0, 1, 1, 0]), .code (cAt (bodyOf Tryz.f158) [1, 1, 1, 0, 1, 0, 0, 1, 0, 0, 1, 1, 1]), .inBlock 3, .code (cAt (bodyOf Tryz.f158) [1, 1, 1, 0, 1, 0, 0, 1, 1]), .inLoop (cAt (bodyOf Tryz.f158) [1, 1, 1, 0, 1, 0, 0]), .inBlock 2, .code (cAt (bodyOf Tryz.f158) [1, 1, 1, 1])] ⟨[(0, .v (.slice l l_n l_c)), (1, .v (.slice turns turns_n turns_c)), (5, .v (.slice r0 r0_n r0_c)), (7, .v (.int .i64 i_7)), (8, .v (.int .i64 out))], []⟩ h Q
def gabionref02_Sum.L16 (l : Option Addr) (l_n : Nat) (l_c : Nat) (turns : Option Addr) (turns_n : Nat) (turns_c : Nat) (r0 : Option Addr) (r0_n : Nat) (r0_c : Nat) (i_7 : Int) (out : Int) (k0_10 : Int) (h : Heap) (Q : Value → Heap → Prop) : Prop :=
  TW Tryz.prog 158 82 [.code (cAt (bodyOf Tryz.f158) [1, 1, 1, 0, 1, 0, 0, 1, 0, 0, 1, 1, 1, 1, 0, 0]), .inLoop (cAt (bodyOf Tryz.f158) [1, 1, 1, 0, 1, 0, 0, 1, 0, 0, 1, 1, 1, 1, 0, 0]), .inBlock 6, .inBlock 3, .code (cAt (bodyOf Tryz.f158) [1, 1, 1, 0, 1, 0, 0, 1, 1]), .inLoop (cAt (bodyOf Tryz.f158) [1, 1, 1, 0, 1, 0, 0]), .inBlock 2, .code (cAt (bodyOf Tryz.f158) [1, 1, 1, 1])] ⟨[(0, .v (.slice l l_n l_c)), (1, .v (.slice turns turns_n turns_c)), (5, .v (.slice r0 r0_n r0_c)), (7, .v (.int .i64 i_7)), (8, .v (.int .i64 out)), (10, .v (.int .i64 k0_10))], []⟩ h Q
def gabionref02_Sum.J18 (l : Option Addr) (l_n : Nat) (l_c : Nat) (turns : Option Addr) (turns_n : Nat) (turns_c : Nat) (r0 : Option Addr) (r0_n : Nat) (r0_c : Nat) (i_7 : Int) (out : Int) (k0_10 : Int) (h : Heap) (Q : Value → Heap → Prop) : Prop :=
  TW Tryz.prog 158 82 [.code (cAt (bodyOf Tryz.f158) [1, 1, 1, 0, 1, 0, 0, 1, 0, 0, 1, 1, 1, 1, 0, 0, 1, 0, 0]), .inBlock 7, .code (cAt (bodyOf Tryz.f158) [1, 1, 1, 0, 1, 0, 0, 1, 0, 0, 1, 1, 1, 1, 0, 0, 1, 1]), .inLoop (cAt (bodyOf Tryz.f158) [1, 1, 1, 0, 1, 0, 0, 1, 0, 0, 1, 1, 1, 1, 0, 0]), .inBlock 6, .inBlock 3, .code (cAt (bodyOf Tryz.f158) [1, 1, 1, 0, 1, 0, 0, 1, 1]), .inLoop (cAt (bodyOf Tryz.f158) [1, 1, 1, 0, 1, 0, 0]), .inBlock 2, .code (cAt (bodyOf Tryz.f158) [1, 1, 1, 1])] ⟨[(0, .v (.slice l l_n l_c)), (1, .v (.slice turns turns_n turns_c)), (5, .v (.slice r0 r0_n r0_c)), (7, .v (.int .i64 i_7)), (8, .v (.int .i64 out)), (10, .v (.int .i64 k0_10))], []⟩ h Q
def gabionref02_Sum.wp (l : Option Addr) (l_n : Nat) (l_c : Nat) (turns : Option Addr) (turns_n : Nat) (turns_c : Nat) (h : Heap) (Q : Value → Heap → Prop) : Prop :=
  xsMk Tryz.prog 3 h (↑turns_n : Int) (↑turns_n : Int) fun (a : Option Addr) (n' c' : Nat) (h' : Heap) => gabionref02_Sum.L3 l l_n l_c turns turns_n turns_c a n' c' 0 h' Q
def gabionref02_Sum.L3.wp (l : Option Addr) (l_n : Nat) (l_c : Nat) (turns : Option Addr) (turns_n : Nat) (turns_c : Nat) (r0 : Option Addr) (r0_n : Nat) (r0_c : Nat) (i_6 : Int) (h : Heap) (Q : Value → Heap → Prop) : Prop :=
  xsIf (decide (i_6 < (↑r0_n : Int)))
    ((0 ≤ i_6 ∧ i_6 < (↑r0_n : Int)) ∧
      atBase r0 fun (b o : Nat) => h.can b (o + i_6.toNat * 1) 1 ∧ gabionref02_Sum.L3 l l_n l_c turns turns_n turns_c r0 r0_n r0_c (IntKind.i64.wrap (i_6 + 1)) (h.put b (o + i_6.toNat * 1) [Value.int IntKind.i64 1]) Q)
    (gabionref02_Sum.J6 l l_n l_c turns turns_n turns_c r0 r0_n r0_c h Q)
def gabionref02_Sum.J6.wp (l : Option Addr) (l_n : Nat) (l_c : Nat) (turns : Option Addr) (turns_n : Nat) (turns_c : Nat) (r0 : Option Addr) (r0_n : Nat) (r0_c : Nat) (h : Heap) (Q : Value → Heap → Prop) : Prop :=
  gabionref02_Sum.L7 l l_n l_c turns turns_n turns_c r0 r0_n r0_c 0 h Q
def gabionref02_Sum.L7.wp (l : Option Addr) (l_n : Nat) (l_c : Nat) (turns : Option Addr) (turns_n : Nat) (turns_c : Nat) (r0 : Option Addr) (r0_n : Nat) (r0_c : Nat) (i_7 : Int) (h : Heap) (Q : Value → Heap → Prop) : Prop :=
  xsIf (decide (i_7 < (↑l_n : Int)))
    (((0 : Int) ≤ 0 ∧ (0 : Int) < (↑r0_n : Int)) ∧
      atBase r0 fun (b o : Nat) =>
        (0 ≤ i_7 ∧ i_7 < (↑l_n : Int)) ∧
          atBase l fun (b_1 o_1 : Nat) =>
            ∃ (x : Int),
              h.cell b (o + 0) = some (Value.int IntKind.i64 x) ∧
                ∃ (x_1 : Int), h.cell b_1 (o_1 + i_7.toNat * 1) = some (Value.int IntKind.i64 x_1) ∧ gabionref02_Sum.L11 l l_n l_c turns turns_n turns_c r0 r0_n r0_c i_7 (irem (IntKind.i64.wrap (x + x_1)) 2) 0 h Q)
    (Q (Value.slice r0 r0_n r0_c) h)
def gabionref02_Sum.L11.wp (l : Option Addr) (l_n : Nat) (l_c : Nat) (turns : Option Addr) (turns_n : Nat) (turns_c : Nat) (r0 : Option Addr) (r0_n : Nat) (r0_c : Nat) (i_7 : Int) (out : Int) (k0_9 : Int) (h : Heap) (Q : Value → Heap → Prop) : Prop :=
  xsIf (decide (IntKind.i64.wrap (k0_9 + 1) < (↑r0_n : Int)))
    ((0 ≤ IntKind.i64.wrap (k0_9 + 1) ∧ IntKind.i64.wrap (k0_9 + 1) < (↑r0_n : Int)) ∧
      atBase r0 fun (b o : Nat) =>
        ∃ (x : Int),
          h.cell b (o + (IntKind.i64.wrap (k0_9 + 1)).toNat * 1) = some (Value.int IntKind.i64 x) ∧
            (0 ≤ k0_9 ∧ k0_9 < (↑r0_n : Int)) ∧
              atBase r0 fun (b o : Nat) => h.can b (o + k0_9.toNat * 1) 1 ∧ gabionref02_Sum.L11 l l_n l_c turns turns_n turns_c r0 r0_n r0_c i_7 out (IntKind.i64.wrap (k0_9 + 1)) (h.put b (o + k0_9.toNat * 1) [Value.int IntKind.i64 x]) Q)
    (gabionref02_Sum.J14 l l_n l_c turns turns_n turns_c r0 r0_n r0_c i_7 out h Q)
def gabionref02_Sum.J14.wp (l : Option Addr) (l_n : Nat) (l_c : Nat) (turns : Option Addr) (turns_n : Nat) (turns_c : Nat) (r0 : Option Addr) (r0_n : Nat) (r0_c : Nat) (i_7 : Int) (out : Int) (h : Heap) (Q : Value → Heap → Prop) : Prop :=
  (0 ≤ IntKind.i64.wrap ((↑r0_n : Int) - 1) ∧ IntKind.i64.wrap ((↑r0_n : Int) - 1) < (↑r0_n : Int)) ∧
    atBase r0 fun (b o : Nat) =>
      h.can b (o + (IntKind.i64.wrap ((↑r0_n : Int) - 1)).toNat * 1) 1 ∧ gabionref02_Sum.L16 l l_n l_c turns turns_n turns_c r0 r0_n r0_c i_7 out 0 (h.put b (o + (IntKind.i64.wrap ((↑r0_n : Int) - 1)).toNat * 1) [Value.int IntKind.i64 0]) Q
def gabionref02_Sum.L16.wp (l : Option Addr) (l_n : Nat) (l_c : Nat) (turns : Option Addr) (turns_n : Nat) (turns_c : Nat) (r0 : Option Addr) (r0_n : Nat) (r0_c : Nat) (i_7 : Int) (out : Int) (k0_10 : Int) (h : Heap) (Q : Value → Heap → Prop) : Prop :=
  xsIf (decide (k0_10 < (↑r0_n : Int)))
    (xsIf (decide (out = 1)) (gabionref02_Sum.J18 l l_n l_c turns turns_n turns_c r0 r0_n r0_c i_7 out k0_10 h Q) (gabionref02_Sum.L7 l l_n l_c turns turns_n turns_c r0 r0_n r0_c (IntKind.i64.wrap (i_7 + 1)) h Q))
    (gabionref02_Sum.L7 l l_n l_c turns turns_n turns_c r0 r0_n r0_c (IntKind.i64.wrap (i_7 + 1)) h Q)
def gabionref02_Sum.J18.wp (l : Option Addr) (l_n : Nat) (l_c : Nat) (turns : Option Addr) (turns_n : Nat) (turns_c : Nat) (r0 : Option Addr) (r0_n : Nat) (r0_c : Nat) (i_7 : Int) (out : Int) (k0_10 : Int) (h : Heap) (Q : Value → Heap → Prop) : Prop :=
  (0 ≤ k0_10 ∧ k0_10 < (↑r0_n : Int)) ∧
    atBase r0 fun (b o : Nat) =>
      (0 ≤ k0_10 ∧ k0_10 < (↑turns_n : Int)) ∧
        atBase turns fun (b_1 o_1 : Nat) =>
          ∃ (x : Int),
            h.cell b (o + k0_10.toNat * 1) = some (Value.int IntKind.i64 x) ∧
              ∃ (x_1 : Int),
                h.cell b_1 (o_1 + k0_10.toNat * 1) = some (Value.int IntKind.i64 x_1) ∧
                  (0 ≤ k0_10 ∧ k0_10 < (↑r0_n : Int)) ∧
                    atBase r0 fun (b o : Nat) =>
                      h.can b (o + k0_10.toNat * 1) 1 ∧
                        gabionref02_Sum.L16 l l_n l_c turns turns_n turns_c r0 r0_n r0_c i_7 out (IntKind.i64.wrap (k0_10 + 1)) (h.put b (o + k0_10.toNat * 1) [Value.int IntKind.i64 (irem (IntKind.i64.wrap (x + x_1)) 2)]) Q
theorem gabionref02_Sum.ok {l : Option Addr} {l_n : Nat} {l_c : Nat} {turns : Option Addr} {turns_n : Nat} {turns_c : Nat} {h : Heap} {Q : Value → Heap → Prop} (hk : gabionref02_Sum.wp l l_n l_c turns turns_n turns_c h Q) : C Tryz.prog 158 #[.slice l l_n l_c, .slice turns turns_n turns_c] h Q :=
  C_of_xs (H := gabionref02_Sum.H) (lcuts := gabionref02_Sum.lc) (rcuts := gabionref02_Sum.rc) (l := [.slice l l_n l_c, .slice turns turns_n turns_c]) 2000 mixed Tryz.func158 rfl (by kernel_rfl) (@cast (gabionref02_Sum.wp l l_n l_c turns turns_n turns_c h Q) _ (by kernel_rfl) hk)
theorem gabionref02_Sum.L3.ok {l : Option Addr} {l_n : Nat} {l_c : Nat} {turns : Option Addr} {turns_n : Nat} {turns_c : Nat} {r0 : Option Addr} {r0_n : Nat} {r0_c : Nat} {i_6 : Int} {h : Heap} {Q : Value → Heap → Prop} (hk : gabionref02_Sum.L3.wp l l_n l_c turns turns_n turns_c r0 r0_n r0_c i_6 h Q) : gabionref02_Sum.L3 l l_n l_c turns turns_n turns_c r0 r0_n r0_c i_6 h Q :=
  xs_ok (H := gabionref02_Sum.H) (lcuts := gabionref02_Sum.lc) (rcuts := gabionref02_Sum.rc) (fn := Tryz.f158) mixed Tryz.func158 2000 _ _ _ (@cast (gabionref02_Sum.L3.wp l l_n l_c turns turns_n turns_c r0 r0_n r0_c i_6 h Q) _ (by kernel_rfl) hk)
theorem gabionref02_Sum.J6.ok {l : Option Addr} {l_n : Nat} {l_c : Nat} {turns : Option Addr} {turns_n : Nat} {turns_c : Nat} {r0 : Option Addr} {r0_n : Nat} {r0_c : Nat} {h : Heap} {Q : Value → Heap → Prop} (hk : gabionref02_Sum.J6.wp l l_n l_c turns turns_n turns_c r0 r0_n r0_c h Q) : gabionref02_Sum.J6 l l_n l_c turns turns_n turns_c r0 r0_n r0_c h Q :=
  xs_ok (H := gabionref02_Sum.H) (lcuts := gabionref02_Sum.lc) (rcuts := [⟨14, [0, 1, 5, 7, 8], []⟩, ⟨18, [0, 1, 5, 7, 8, 10], []⟩]) (fn := Tryz.f158) mixed Tryz.func158 2000 _ _ _ (@cast (gabionref02_Sum.J6.wp l l_n l_c turns turns_n turns_c r0 r0_n r0_c h Q) _ (by kernel_rfl) hk)
theorem gabionref02_Sum.L7.ok {l : Option Addr} {l_n : Nat} {l_c : Nat} {turns : Option Addr} {turns_n : Nat} {turns_c : Nat} {r0 : Option Addr} {r0_n : Nat} {r0_c : Nat} {i_7 : Int} {h : Heap} {Q : Value → Heap → Prop} (hk : gabionref02_Sum.L7.wp l l_n l_c turns turns_n turns_c r0 r0_n r0_c i_7 h Q) : gabionref02_Sum.L7 l l_n l_c turns turns_n turns_c r0 r0_n r0_c i_7 h Q :=
  xs_ok (H := gabionref02_Sum.H) (lcuts := gabionref02_Sum.lc) (rcuts := gabionref02_Sum.rc) (fn := Tryz.f158) mixed Tryz.func158 2000 _ _ _ (@cast (gabionref02_Sum.L7.wp l l_n l_c turns turns_n turns_c r0 r0_n r0_c i_7 h Q) _ (by kernel_rfl) hk)
theorem gabionref02_Sum.L11.ok {l : Option Addr} {l_n : Nat} {l_c : Nat} {turns : Option Addr} {turns_n : Nat} {turns_c : Nat} {r0 : Option Addr} {r0_n : Nat} {r0_c : Nat} {i_7 : Int} {out : Int} {k0_9 : Int} {h : Heap} {Q : Value → Heap → Prop} (hk : gabionref02_Sum.L11.wp l l_n l_c turns turns_n turns_c r0 r0_n r0_c i_7 out k0_9 h Q) : gabionref02_Sum.L11 l l_n l_c turns turns_n turns_c r0 r0_n r0_c i_7 out k0_9 h Q :=
  xs_ok (H := gabionref02_Sum.H) (lcuts := gabionref02_Sum.lc) (rcuts := gabionref02_Sum.rc) (fn := Tryz.f158) mixed Tryz.func158 2000 _ _ _ (@cast (gabionref02_Sum.L11.wp l l_n l_c turns turns_n turns_c r0 r0_n r0_c i_7 out k0_9 h Q) _ (by kernel_rfl) hk)
theorem gabionref02_Sum.J14.ok {l : Option Addr} {l_n : Nat} {l_c : Nat} {turns : Option Addr} {turns_n : Nat} {turns_c : Nat} {r0 : Option Addr} {r0_n : Nat} {r0_c : Nat} {i_7 : Int} {out : Int} {h : Heap} {Q : Value → Heap → Prop} (hk : gabionref02_Sum.J14.wp l l_n l_c turns turns_n turns_c r0 r0_n r0_c i_7 out h Q) : gabionref02_Sum.J14 l l_n l_c turns turns_n turns_c r0 r0_n r0_c i_7 out h Q :=
  xs_ok (H := gabionref02_Sum.H) (lcuts := gabionref02_Sum.lc) (rcuts := [⟨6, [0, 1, 5], []⟩, ⟨18, [0, 1, 5, 7, 8, 10], []⟩]) (fn := Tryz.f158) mixed Tryz.func158 2000 _ _ _ (@cast (gabionref02_Sum.J14.wp l l_n l_c turns turns_n turns_c r0 r0_n r0_c i_7 out h Q) _ (by kernel_rfl) hk)
theorem gabionref02_Sum.L16.ok {l : Option Addr} {l_n : Nat} {l_c : Nat} {turns : Option Addr} {turns_n : Nat} {turns_c : Nat} {r0 : Option Addr} {r0_n : Nat} {r0_c : Nat} {i_7 : Int} {out : Int} {k0_10 : Int} {h : Heap} {Q : Value → Heap → Prop} (hk : gabionref02_Sum.L16.wp l l_n l_c turns turns_n turns_c r0 r0_n r0_c i_7 out k0_10 h Q) : gabionref02_Sum.L16 l l_n l_c turns turns_n turns_c r0 r0_n r0_c i_7 out k0_10 h Q :=
  xs_ok (H := gabionref02_Sum.H) (lcuts := gabionref02_Sum.lc) (rcuts := gabionref02_Sum.rc) (fn := Tryz.f158) mixed Tryz.func158 2000 _ _ _ (@cast (gabionref02_Sum.L16.wp l l_n l_c turns turns_n turns_c r0 r0_n r0_c i_7 out k0_10 h Q) _ (by kernel_rfl) hk)
theorem gabionref02_Sum.J18.ok {l : Option Addr} {l_n : Nat} {l_c : Nat} {turns : Option Addr} {turns_n : Nat} {turns_c : Nat} {r0 : Option Addr} {r0_n : Nat} {r0_c : Nat} {i_7 : Int} {out : Int} {k0_10 : Int} {h : Heap} {Q : Value → Heap → Prop} (hk : gabionref02_Sum.J18.wp l l_n l_c turns turns_n turns_c r0 r0_n r0_c i_7 out k0_10 h Q) : gabionref02_Sum.J18 l l_n l_c turns turns_n turns_c r0 r0_n r0_c i_7 out k0_10 h Q :=
  xs_ok (H := gabionref02_Sum.H) (lcuts := gabionref02_Sum.lc) (rcuts := [⟨6, [0, 1, 5], []⟩, ⟨14, [0, 1, 5, 7, 8], []⟩]) (fn := Tryz.f158) mixed Tryz.func158 2000 _ _ _ (@cast (gabionref02_Sum.J18.wp l l_n l_c turns turns_n turns_c r0 r0_n r0_c i_7 out k0_10 h Q) _ (by kernel_rfl) hk)

/-! gabion/gabionref02.number -/
def gabionref02_number.H : Hn := ⟨[], [], [], []⟩
def gabionref02_number.lc : List Cut := [⟨3, [0, 3, 4], []⟩]
def gabionref02_number.rc : List Cut := []
def gabionref02_number.L3 (r0 : Option Addr) (r0_n : Nat) (r0_c : Nat) (n : Int) (i : Int) (h : Heap) (Q : Value → Heap → Prop) : Prop :=
  TW Tryz.prog 159 20 [.code (cAt (bodyOf Tryz.f159) [1, 1, 0, 1, 0, 0]), .inLoop (cAt (bodyOf Tryz.f159) [1, 1, 0, 1, 0, 0]), .inBlock 0, .code (cAt (bodyOf Tryz.f159) [1, 1, 1])] ⟨[(0, .v (.slice r0 r0_n r0_c)), (3, .v (.int .u64 n)), (4, .v (.int .i64 i))], []⟩ h Q
def gabionref02_number.wp (r0 : Option Addr) (r0_n : Nat) (r0_c : Nat) (h : Heap) (Q : Value → Heap → Prop) : Prop :=
  gabionref02_number.L3 r0 r0_n r0_c 0 0 h Q
def gabionref02_number.L3.wp (r0 : Option Addr) (r0_n : Nat) (r0_c : Nat) (n : Int) (i : Int) (h : Heap) (Q : Value → Heap → Prop) : Prop :=
  xsIf (decide (i < (↑r0_n : Int)))
    ((0 ≤ i ∧ i < (↑r0_n : Int)) ∧
      atBase r0 fun (b o : Nat) =>
        ∃ (x : Int), h.cell b (o + i.toNat * 1) = some (Value.int IntKind.i64 x) ∧ gabionref02_number.L3 r0 r0_n r0_c (IntKind.u64.wrap (IntKind.u64.wrap (2 * n) + IntKind.u64.wrap x)) (IntKind.i64.wrap (i + 1)) h Q)
    (Q (Value.int IntKind.u64 n) h)
theorem gabionref02_number.ok {r0 : Option Addr} {r0_n : Nat} {r0_c : Nat} {h : Heap} {Q : Value → Heap → Prop} (hk : gabionref02_number.wp r0 r0_n r0_c h Q) : C Tryz.prog 159 #[.slice r0 r0_n r0_c] h Q :=
  C_of_xs (H := gabionref02_number.H) (lcuts := gabionref02_number.lc) (rcuts := gabionref02_number.rc) (l := [.slice r0 r0_n r0_c]) 2000 mixed Tryz.func159 rfl (by kernel_rfl) (@cast (gabionref02_number.wp r0 r0_n r0_c h Q) _ (by kernel_rfl) hk)
theorem gabionref02_number.L3.ok {r0 : Option Addr} {r0_n : Nat} {r0_c : Nat} {n : Int} {i : Int} {h : Heap} {Q : Value → Heap → Prop} (hk : gabionref02_number.L3.wp r0 r0_n r0_c n i h Q) : gabionref02_number.L3 r0 r0_n r0_c n i h Q :=
  xs_ok (H := gabionref02_number.H) (lcuts := gabionref02_number.lc) (rcuts := gabionref02_number.rc) (fn := Tryz.f159) mixed Tryz.func159 2000 _ _ _ (@cast (gabionref02_number.L3.wp r0 r0_n r0_c n i h Q) _ (by kernel_rfl) hk)

/-! gabion/gabionref02.Sum16 -/
def gabionref02_Sum16.H : Hn := ⟨[], [], [], []⟩
def gabionref02_Sum16.lc : List Cut := []
def gabionref02_Sum16.rc : List Cut := []
def gabionref02_Sum16.wp (s : ByteArray) (h : Heap) (Q : Value → Heap → Prop) : Prop :=
  ∀ (b : Nat),
    h b = none →
      C Tryz.prog 157 #[Value.string s, Value.bool false]
        (upd h b
          (Obj.cells
            #[Value.int IntKind.i64 0, Value.int IntKind.i64 0, Value.int IntKind.i64 0, Value.int IntKind.i64 1, Value.int IntKind.i64 0, Value.int IntKind.i64 0, Value.int IntKind.i64 0, Value.int IntKind.i64 0, Value.int IntKind.i64 0,
                  Value.int IntKind.i64 0, Value.int IntKind.i64 1, Value.int IntKind.i64 0, Value.int IntKind.i64 0, Value.int IntKind.i64 0, Value.int IntKind.i64 0, Value.int IntKind.i64 1]
            3 (0, 0)))
        fun (r : Value) (h' : Heap) =>
        ∃ (x : Option Addr),
          ∃ (n : Nat),
            ∃ (m : Nat),
              r = Value.slice x n m ∧
                C Tryz.prog 158 #[Value.slice x n m, Value.slice (some { block := b, off := 0 }) 16 16] h' fun (r : Value) (h' : Heap) =>
                  ∃ (x : Option Addr),
                    ∃ (n : Nat), ∃ (m : Nat), r = Value.slice x n m ∧ C Tryz.prog 159 #[Value.slice x n m] h' fun (r : Value) (h' : Heap) => ∃ (x : Int), r = Value.int IntKind.u64 x ∧ Q (Value.int IntKind.u64 x) h'
theorem gabionref02_Sum16.ok {s : ByteArray} {h : Heap} {Q : Value → Heap → Prop} (hk : gabionref02_Sum16.wp s h Q) : C Tryz.prog 130 #[.string s] h Q :=
  C_of_xs (H := gabionref02_Sum16.H) (lcuts := gabionref02_Sum16.lc) (rcuts := gabionref02_Sum16.rc) (l := [.string s]) 2000 mixed Tryz.func130 rfl (by kernel_rfl) (@cast (gabionref02_Sum16.wp s h Q) _ (by kernel_rfl) hk)

/-! gabion/gabionref02.Guard -/
def gabionref02_Guard.H : Hn := ⟨[], [], [], []⟩
def gabionref02_Guard.lc : List Cut := []
def gabionref02_Guard.rc : List Cut := []
def gabionref02_Guard.wp (n : Int) (h : Heap) (Q : Value → Heap → Prop) : Prop :=
  C Tryz.prog 79 #[Value.int IntKind.u64 (irem n 281474976710656), Value.int IntKind.i64 6] h fun (r : Value) (h' : Heap) =>
    ∃ (x : ByteArray),
      r = Value.string x ∧
        C Tryz.prog 130 #[Value.string x] h' fun (r : Value) (h' : Heap) =>
          ∃ (x : Int), r = Value.int IntKind.u64 x ∧ Q (Value.int IntKind.u64 (IntKind.u64.wrap (IntKind.u64.wrap (IntKind.u64.wrap (65535 - x) * 281474976710656) + irem n 281474976710656))) h'
theorem gabionref02_Guard.ok {n : Int} {h : Heap} {Q : Value → Heap → Prop} (hk : gabionref02_Guard.wp n h Q) : C Tryz.prog 82 #[.int .u64 n] h Q :=
  C_of_xs (H := gabionref02_Guard.H) (lcuts := gabionref02_Guard.lc) (rcuts := gabionref02_Guard.rc) (l := [.int .u64 n]) 2000 mixed Tryz.func82 rfl (by kernel_rfl) (@cast (gabionref02_Guard.wp n h Q) _ (by kernel_rfl) hk)

/-! gabion/gabionref05.Entries -/
def gabionref05_Entries.H : Hn := ⟨[], [], [], []⟩
def gabionref05_Entries.lc : List Cut := [⟨4, [0, 3, 6, 7, 8], [3]⟩]
def gabionref05_Entries.rc : List Cut := []
def gabionref05_Entries.L4 (d : Option Addr) (out : Option Addr) (out_n : Nat) (out_c : Nat) (free : Bool) (k0 : Int) (p_3_0 : Int) (p_3_1 : Int) (p_3_2 : Int) (h : Heap) (Q : Value → Heap → Prop) : Prop :=
  TW Tryz.prog 32 65 [.code (cAt (bodyOf Tryz.f32) [1, 1, 1, 0, 1, 0, 0]), .inLoop (cAt (bodyOf Tryz.f32) [1, 1, 1, 0, 1, 0, 0]), .inBlock 0, .code (cAt (bodyOf Tryz.f32) [1, 1, 1, 1])] ⟨[(0, .v (.pointer d)), (3, .p 3 0), (6, .v (.slice out out_n out_c)), (7, .v (.bool free)), (8, .v (.int .i64 k0))], [(3, [.int .i64 p_3_0, .int .i64 p_3_1, .int .i64 p_3_2])]⟩ h Q
def gabionref05_Entries.wp (d : Option Addr) (p_0 : Int) (p_1 : Int) (p_2 : Int) (h : Heap) (Q : Value → Heap → Prop) : Prop :=
  gabionref05_Entries.L4 d none 0 0 false 0 p_0 p_1 p_2 h Q
def gabionref05_Entries.L4.wp (d : Option Addr) (out : Option Addr) (out_n : Nat) (out_c : Nat) (free : Bool) (k0 : Int) (p_3_0 : Int) (p_3_1 : Int) (p_3_2 : Int) (h : Heap) (Q : Value → Heap → Prop) : Prop :=
  xsIf (decide (k0 < p_3_2))
    (C Tryz.prog 81 #[Value.pointer d, Value.int IntKind.i64 (IntKind.i64.wrap (IntKind.i64.wrap (8 * p_3_0) + k0))] h fun (r : Value) (h' : Heap) =>
      ∃ (x : Int),
        ∃ (x_1 : Int),
          r = Value.tuple #[Value.int IntKind.u64 x, Value.int IntKind.i64 x_1] ∧
            xsIf (decide (x_1 ≠ 0)) (Q (Value.tuple #[Value.slice none 0 0, Value.int IntKind.i64 x_1]) h')
              (xsIf (decide (x = 0)) (gabionref05_Entries.L4 d out out_n out_c true (IntKind.i64.wrap (k0 + 1)) p_3_0 p_3_1 p_3_2 h' Q)
                (C Tryz.prog 82 #[Value.int IntKind.u64 (irem x 281474976710656)] h' fun (r : Value) (h' : Heap) =>
                  ∃ (x_2 : Int),
                    r = Value.int IntKind.u64 x_2 ∧
                      xsIf (decide (x_2 ≠ x)) (Q (Value.tuple #[Value.slice none 0 0, Value.int IntKind.i64 5]) h')
                        (xsIf (decide (irem x 281474976710656 ≠ 65535))
                          (xsIf (decide (irem x 281474976710656 < 1)) (Q (Value.tuple #[Value.slice none 0 0, Value.int IntKind.i64 5]) h')
                            (xsIf (decide (IntKind.u64.wrap p_3_1 < irem x 281474976710656)) (Q (Value.tuple #[Value.slice none 0 0, Value.int IntKind.i64 5]) h')
                              (xsIf free (Q (Value.tuple #[Value.slice none 0 0, Value.int IntKind.i64 5]) h')
                                (∀ (b : Nat),
                                  h' b = none →
                                    xsApp Tryz.prog 3 (upd h' b (Obj.cells #[Value.int IntKind.i64 (IntKind.i64.wrap (irem x 281474976710656))] 3 (0, 0))) out out_n out_c (some { block := b, off := 0 }) 1
                                      fun (a' : Option Addr) (n' c' : Nat) (h' : Heap) => gabionref05_Entries.L4 d a' n' c' free (IntKind.i64.wrap (k0 + 1)) p_3_0 p_3_1 p_3_2 h' Q))))
                          (xsIf free (Q (Value.tuple #[Value.slice none 0 0, Value.int IntKind.i64 5]) h')
                            (∀ (b : Nat),
                              h' b = none →
                                xsApp Tryz.prog 3 (upd h' b (Obj.cells #[Value.int IntKind.i64 (IntKind.i64.wrap (irem x 281474976710656))] 3 (0, 0))) out out_n out_c (some { block := b, off := 0 }) 1
                                  fun (a' : Option Addr) (n' c' : Nat) (h' : Heap) => gabionref05_Entries.L4 d a' n' c' free (IntKind.i64.wrap (k0 + 1)) p_3_0 p_3_1 p_3_2 h' Q))))))
    (Q (Value.tuple #[Value.slice out out_n out_c, Value.int IntKind.i64 0]) h)
theorem gabionref05_Entries.ok {d : Option Addr} {p_0 : Int} {p_1 : Int} {p_2 : Int} {h : Heap} {Q : Value → Heap → Prop} (hk : gabionref05_Entries.wp d p_0 p_1 p_2 h Q) : C Tryz.prog 32 #[.pointer d, .agg #[.int .i64 p_0, .int .i64 p_1, .int .i64 p_2]] h Q :=
  C_of_xs (H := gabionref05_Entries.H) (lcuts := gabionref05_Entries.lc) (rcuts := gabionref05_Entries.rc) (l := [.pointer d, .agg #[.int .i64 p_0, .int .i64 p_1, .int .i64 p_2]]) 2000 mixed Tryz.func32 rfl (by kernel_rfl) (@cast (gabionref05_Entries.wp d p_0 p_1 p_2 h Q) _ (by kernel_rfl) hk)
theorem gabionref05_Entries.L4.ok {d : Option Addr} {out : Option Addr} {out_n : Nat} {out_c : Nat} {free : Bool} {k0 : Int} {p_3_0 : Int} {p_3_1 : Int} {p_3_2 : Int} {h : Heap} {Q : Value → Heap → Prop} (hk : gabionref05_Entries.L4.wp d out out_n out_c free k0 p_3_0 p_3_1 p_3_2 h Q) : gabionref05_Entries.L4 d out out_n out_c free k0 p_3_0 p_3_1 p_3_2 h Q :=
  xs_ok (H := gabionref05_Entries.H) (lcuts := gabionref05_Entries.lc) (rcuts := gabionref05_Entries.rc) (fn := Tryz.f32) mixed Tryz.func32 2000 _ _ _ (@cast (gabionref05_Entries.L4.wp d out out_n out_c free k0 p_3_0 p_3_1 p_3_2 h Q) _ (by kernel_rfl) hk)

/-! gabion/gabionref05.Where -/
def gabionref05_Where.H : Hn := ⟨[], [], [], []⟩
def gabionref05_Where.lc : List Cut := [⟨4, [1, 2, 3, 7, 8, 9], [3]⟩]
def gabionref05_Where.rc : List Cut := []
def gabionref05_Where.L4 (l : Option Addr) (l_n : Nat) (l_c : Nat) (i : Int) (t : Int) (at0 : Int) (k0 : Int) (p_3_0 : Int) (p_3_1 : Int) (p_3_2 : Int) (h : Heap) (Q : Value → Heap → Prop) : Prop :=
  TW Tryz.prog 34 41 [.code (cAt (bodyOf Tryz.f34) [1, 1, 1, 0, 1, 0, 0]), .inLoop (cAt (bodyOf Tryz.f34) [1, 1, 1, 0, 1, 0, 0]), .inBlock 0, .code (cAt (bodyOf Tryz.f34) [1, 1, 1, 1])] ⟨[(1, .v (.slice l l_n l_c)), (2, .v (.int .i64 i)), (3, .p 3 0), (7, .v (.int .i64 t)), (8, .v (.int .i64 at0)), (9, .v (.int .i64 k0))], [(3, [.int .i64 p_3_0, .int .i64 p_3_1, .int .i64 p_3_2])]⟩ h Q
def gabionref05_Where.wp (p_0 : Int) (p_1 : Int) (p_2 : Int) (l : Option Addr) (l_n : Nat) (l_c : Nat) (i : Int) (h : Heap) (Q : Value → Heap → Prop) : Prop :=
  C Tryz.prog 69 #[Value.agg #[Value.int IntKind.i64 p_0, Value.int IntKind.i64 p_1, Value.int IntKind.i64 p_2]] h fun (r : Value) (h' : Heap) =>
    ∃ (x : Int), r = Value.int IntKind.i64 x ∧ gabionref05_Where.L4 l l_n l_c i x (IntKind.i64.wrap (IntKind.i64.wrap (p_0 + x) + i)) 0 p_0 p_1 p_2 h' Q
def gabionref05_Where.L4.wp (l : Option Addr) (l_n : Nat) (l_c : Nat) (i : Int) (t : Int) (at0 : Int) (k0 : Int) (p_3_0 : Int) (p_3_1 : Int) (p_3_2 : Int) (h : Heap) (Q : Value → Heap → Prop) : Prop :=
  xsIf (decide (k0 < (↑l_n : Int)))
    ((0 ≤ k0 ∧ k0 < (↑l_n : Int)) ∧
      atBase l fun (b o : Nat) =>
        ∃ (x : Int),
          h.cell b (o + k0.toNat * 1) = some (Value.int IntKind.i64 x) ∧
            xsIf (decide (x = IntKind.i64.wrap (i + 1))) (gabionref05_Where.L4 l l_n l_c i t (IntKind.i64.wrap (IntKind.i64.wrap (IntKind.i64.wrap (p_3_0 + t) + p_3_1) + k0)) (IntKind.i64.wrap (k0 + 1)) p_3_0 p_3_1 p_3_2 h Q)
              (gabionref05_Where.L4 l l_n l_c i t at0 (IntKind.i64.wrap (k0 + 1)) p_3_0 p_3_1 p_3_2 h Q))
    (Q (Value.int IntKind.i64 at0) h)
theorem gabionref05_Where.ok {p_0 : Int} {p_1 : Int} {p_2 : Int} {l : Option Addr} {l_n : Nat} {l_c : Nat} {i : Int} {h : Heap} {Q : Value → Heap → Prop} (hk : gabionref05_Where.wp p_0 p_1 p_2 l l_n l_c i h Q) : C Tryz.prog 34 #[.agg #[.int .i64 p_0, .int .i64 p_1, .int .i64 p_2], .slice l l_n l_c, .int .i64 i] h Q :=
  C_of_xs (H := gabionref05_Where.H) (lcuts := gabionref05_Where.lc) (rcuts := gabionref05_Where.rc) (l := [.agg #[.int .i64 p_0, .int .i64 p_1, .int .i64 p_2], .slice l l_n l_c, .int .i64 i]) 2000 mixed Tryz.func34 rfl (by kernel_rfl) (@cast (gabionref05_Where.wp p_0 p_1 p_2 l l_n l_c i h Q) _ (by kernel_rfl) hk)
theorem gabionref05_Where.L4.ok {l : Option Addr} {l_n : Nat} {l_c : Nat} {i : Int} {t : Int} {at0 : Int} {k0 : Int} {p_3_0 : Int} {p_3_1 : Int} {p_3_2 : Int} {h : Heap} {Q : Value → Heap → Prop} (hk : gabionref05_Where.L4.wp l l_n l_c i t at0 k0 p_3_0 p_3_1 p_3_2 h Q) : gabionref05_Where.L4 l l_n l_c i t at0 k0 p_3_0 p_3_1 p_3_2 h Q :=
  xs_ok (H := gabionref05_Where.H) (lcuts := gabionref05_Where.lc) (rcuts := gabionref05_Where.rc) (fn := Tryz.f34) mixed Tryz.func34 2000 _ _ _ (@cast (gabionref05_Where.L4.wp l l_n l_c i t at0 k0 p_3_0 p_3_1 p_3_2 h Q) _ (by kernel_rfl) hk)

/-! gabion/gabionref04.PutWord -/
def gabionref04_PutWord.H : Hn := ⟨[], [], [], []⟩
def gabionref04_PutWord.lc : List Cut := []
def gabionref04_PutWord.rc : List Cut := [⟨3, [0, 1, 2, 3], []⟩, ⟨5, [0, 1, 2, 3], []⟩]
def gabionref04_PutWord.J3 (d : Option Addr) (at0 : Int) (k0 : Int) (v : Int) (h : Heap) (Q : Value → Heap → Prop) : Prop :=
  TW Tryz.prog 80 40 [.code (cAt (bodyOf Tryz.f80) [1, 1, 0, 0]), .code (cAt (bodyOf Tryz.f80) [1, 1, 0, 1]), .code (cAt (bodyOf Tryz.f80) [1, 1, 1])] ⟨[(0, .v (.pointer d)), (1, .v (.int .i64 at0)), (2, .v (.int .i64 k0)), (3, .v (.int .u64 v))], []⟩ h Q
def gabionref04_PutWord.J5 (d : Option Addr) (at0 : Int) (k0 : Int) (v : Int) (h : Heap) (Q : Value → Heap → Prop) : Prop :=
  TW Tryz.prog 80 40 [.code (cAt (bodyOf Tryz.f80) [1, 1, 1, 0]), .code (cAt (bodyOf Tryz.f80) [1, 1, 1, 1])] ⟨[(0, .v (.pointer d)), (1, .v (.int .i64 at0)), (2, .v (.int .i64 k0)), (3, .v (.int .u64 v))], []⟩ h Q
def gabionref04_PutWord.wp (d : Option Addr) (at0 : Int) (k0 : Int) (v : Int) (h : Heap) (Q : Value → Heap → Prop) : Prop :=
  xsIf (decide (k0 < 0)) (Q (Value.int IntKind.i64 2) h) (xsIf (decide (7 < k0)) (Q (Value.int IntKind.i64 2) h) (gabionref04_PutWord.J3 d at0 k0 v h Q))
def gabionref04_PutWord.J3.wp (d : Option Addr) (at0 : Int) (k0 : Int) (v : Int) (h : Heap) (Q : Value → Heap → Prop) : Prop :=
  xsIf (decide (at0 < 0)) (Q (Value.int IntKind.i64 3) h)
    (atBase d fun (b o : Nat) => ∃ (x : Option Addr), ∃ (n : Nat), ∃ (m : Nat), h.cell b (o + 1) = some (Value.slice x n m) ∧ xsIf (decide ((↑n : Int) ≤ at0)) (Q (Value.int IntKind.i64 3) h) (gabionref04_PutWord.J5 d at0 k0 v h Q))
def gabionref04_PutWord.J5.wp (d : Option Addr) (at0 : Int) (k0 : Int) (v : Int) (h : Heap) (Q : Value → Heap → Prop) : Prop :=
  C Tryz.prog 128 #[Value.pointer d, Value.int IntKind.i64 (IntKind.i64.wrap (IntKind.i64.wrap (8 * at0) + k0)), Value.int IntKind.u64 v] h fun (r : Value) (h' : Heap) =>
    ∃ (x : Int),
      r = Value.int IntKind.i64 x ∧
        xsIf (decide (x ≠ 0)) (Q (Value.int IntKind.i64 x) h')
          (C Tryz.prog 129 #[Value.pointer d, Value.int IntKind.i64 at0] h' fun (r : Value) (h' : Heap) => ∃ (x : Int), r = Value.int IntKind.i64 x ∧ Q (Value.int IntKind.i64 x) h')
theorem gabionref04_PutWord.ok {d : Option Addr} {at0 : Int} {k0 : Int} {v : Int} {h : Heap} {Q : Value → Heap → Prop} (hk : gabionref04_PutWord.wp d at0 k0 v h Q) : C Tryz.prog 80 #[.pointer d, .int .i64 at0, .int .i64 k0, .int .u64 v] h Q :=
  C_of_xs (H := gabionref04_PutWord.H) (lcuts := gabionref04_PutWord.lc) (rcuts := gabionref04_PutWord.rc) (l := [.pointer d, .int .i64 at0, .int .i64 k0, .int .u64 v]) 2000 mixed Tryz.func80 rfl (by kernel_rfl) (@cast (gabionref04_PutWord.wp d at0 k0 v h Q) _ (by kernel_rfl) hk)
theorem gabionref04_PutWord.J3.ok {d : Option Addr} {at0 : Int} {k0 : Int} {v : Int} {h : Heap} {Q : Value → Heap → Prop} (hk : gabionref04_PutWord.J3.wp d at0 k0 v h Q) : gabionref04_PutWord.J3 d at0 k0 v h Q :=
  xs_ok (H := gabionref04_PutWord.H) (lcuts := gabionref04_PutWord.lc) (rcuts := [⟨5, [0, 1, 2, 3], []⟩]) (fn := Tryz.f80) mixed Tryz.func80 2000 _ _ _ (@cast (gabionref04_PutWord.J3.wp d at0 k0 v h Q) _ (by kernel_rfl) hk)
theorem gabionref04_PutWord.J5.ok {d : Option Addr} {at0 : Int} {k0 : Int} {v : Int} {h : Heap} {Q : Value → Heap → Prop} (hk : gabionref04_PutWord.J5.wp d at0 k0 v h Q) : gabionref04_PutWord.J5 d at0 k0 v h Q :=
  xs_ok (H := gabionref04_PutWord.H) (lcuts := gabionref04_PutWord.lc) (rcuts := [⟨3, [0, 1, 2, 3], []⟩]) (fn := Tryz.f80) mixed Tryz.func80 2000 _ _ _ (@cast (gabionref04_PutWord.J5.wp d at0 k0 v h Q) _ (by kernel_rfl) hk)

/-! gabion/gabionref05.retire -/
def gabionref05_retire.H : Hn := ⟨[], [], [], []⟩
def gabionref05_retire.lc : List Cut := [⟨2, [0, 2, 3, 5, 9], [5]⟩]
def gabionref05_retire.rc : List Cut := [⟨16, [0, 2, 3, 5, 9, 12, 14, 15], [5]⟩]
def gabionref05_retire.L2 (d : Option Addr) (i : Int) (s : ByteArray) (t : Int) (p_5_0 : Int) (p_5_1 : Int) (p_5_2 : Int) (h : Heap) (Q : Value → Heap → Prop) : Prop :=
  TW Tryz.prog 78 79 [.code (cAt (bodyOf Tryz.f78) [1, 1, 0, 0]), .inLoop (cAt (bodyOf Tryz.f78) [1, 1, 0, 0]), .inBlock 0] ⟨[(0, .v (.pointer d)), (2, .v (.int .i64 i)), (3, .v (.string s)), (5, .p 5 0), (9, .v (.int .i64 t))], [(5, [.int .i64 p_5_0, .int .i64 p_5_1, .int .i64 p_5_2])]⟩ h Q
def gabionref05_retire.J16 (d : Option Addr) (i : Int) (s : ByteArray) (t : Int) (k0 : Int) (got : ByteArray) (n : Int) (p_5_0 : Int) (p_5_1 : Int) (p_5_2 : Int) (h : Heap) (Q : Value → Heap → Prop) : Prop :=
  TW Tryz.prog 78 79 [.code (cAt (bodyOf Tryz.f78) [1, 1, 0, 0, 0, 1, 1, 1, 1, 1, 1, 1, 1, 1, 1, 0]), .code (cAt (bodyOf Tryz.f78) [1, 1, 0, 0, 0, 1, 1, 1, 1, 1, 1, 1, 1, 1, 1, 1]), .inBlock 1, .inLoop (cAt (bodyOf Tryz.f78) [1, 1, 0, 0]), .inBlock 0] ⟨[(0, .v (.pointer d)), (2, .v (.int .i64 i)), (3, .v (.string s)), (5, .p 5 0), (9, .v (.int .i64 t)), (12, .v (.int .i64 k0)), (14, .v (.string got)), (15, .v (.int .u64 n))], [(5, [.int .i64 p_5_0, .int .i64 p_5_1, .int .i64 p_5_2])]⟩ h Q
def gabionref05_retire.wp (d : Option Addr) (p_0 : Int) (p_1 : Int) (p_2 : Int) (i : Int) (s : ByteArray) (h : Heap) (Q : Value → Heap → Prop) : Prop :=
  C Tryz.prog 69 #[Value.agg #[Value.int IntKind.i64 p_0, Value.int IntKind.i64 p_1, Value.int IntKind.i64 p_2]] h fun (r : Value) (h' : Heap) =>
    ∃ (x : Int), r = Value.int IntKind.i64 x ∧ gabionref05_retire.L2 d i s x p_0 p_1 p_2 h' Q
def gabionref05_retire.L2.wp (d : Option Addr) (i : Int) (s : ByteArray) (t : Int) (p_5_0 : Int) (p_5_1 : Int) (p_5_2 : Int) (h : Heap) (Q : Value → Heap → Prop) : Prop :=
  C Tryz.prog 32 #[Value.pointer d, Value.agg #[Value.int IntKind.i64 p_5_0, Value.int IntKind.i64 p_5_1, Value.int IntKind.i64 p_5_2]] h fun (r : Value) (h' : Heap) =>
    ∃ (x : Option Addr),
      ∃ (n : Nat),
        ∃ (m : Nat),
          ∃ (x_1 : Int),
            r = Value.tuple #[Value.slice x n m, Value.int IntKind.i64 x_1] ∧
              xsIf (decide (x_1 ≠ 0)) (Q (Value.int IntKind.i64 x_1) h')
                (xsIf (decide (p_5_2 ≤ (↑n : Int))) (Q (Value.int IntKind.i64 10) h')
                  (C Tryz.prog 77 #[Value.pointer d, Value.int IntKind.i64 (IntKind.i64.wrap (IntKind.i64.wrap (IntKind.i64.wrap (p_5_0 + t) + p_5_1) + (↑n : Int))), Value.string s] h' fun (r : Value) (h' : Heap) =>
                    ∃ (x : Int),
                      r = Value.int IntKind.i64 x ∧
                        xsIf (decide (x ≠ 0)) (Q (Value.int IntKind.i64 x) h')
                          (C Tryz.prog 74 #[Value.pointer d, Value.int IntKind.i64 (IntKind.i64.wrap (IntKind.i64.wrap (IntKind.i64.wrap (p_5_0 + t) + p_5_1) + (↑n : Int)))] h' fun (r : Value) (h' : Heap) =>
                            ∃ (x : ByteArray),
                              r = Value.string x ∧
                                xsIf (decide (x = s)) (gabionref05_retire.J16 d i s t (↑n : Int) x (IntKind.u64.wrap (IntKind.i64.wrap (i + 1))) p_5_0 p_5_1 p_5_2 h' Q)
                                  (gabionref05_retire.J16 d i s t (↑n : Int) x 65535 p_5_0 p_5_1 p_5_2 h' Q))))
def gabionref05_retire.J16.wp (d : Option Addr) (i : Int) (s : ByteArray) (t : Int) (k0 : Int) (got : ByteArray) (n : Int) (p_5_0 : Int) (p_5_1 : Int) (p_5_2 : Int) (h : Heap) (Q : Value → Heap → Prop) : Prop :=
  C Tryz.prog 82 #[Value.int IntKind.u64 n] h fun (r : Value) (h' : Heap) =>
    ∃ (x : Int),
      r = Value.int IntKind.u64 x ∧
        C Tryz.prog 80 #[Value.pointer d, Value.int IntKind.i64 (IntKind.i64.wrap (p_5_0 + iquo IntKind.i64 k0 8)), Value.int IntKind.i64 (irem k0 8), Value.int IntKind.u64 x] h' fun (r : Value) (h' : Heap) =>
          ∃ (x : Int), r = Value.int IntKind.i64 x ∧ xsIf (decide (x ≠ 0)) (Q (Value.int IntKind.i64 x) h') (xsIf (decide (got = s)) (Q (Value.int IntKind.i64 x) h') (gabionref05_retire.L2 d i s t p_5_0 p_5_1 p_5_2 h' Q))
theorem gabionref05_retire.ok {d : Option Addr} {p_0 : Int} {p_1 : Int} {p_2 : Int} {i : Int} {s : ByteArray} {h : Heap} {Q : Value → Heap → Prop} (hk : gabionref05_retire.wp d p_0 p_1 p_2 i s h Q) : C Tryz.prog 78 #[.pointer d, .agg #[.int .i64 p_0, .int .i64 p_1, .int .i64 p_2], .int .i64 i, .string s] h Q :=
  C_of_xs (H := gabionref05_retire.H) (lcuts := gabionref05_retire.lc) (rcuts := gabionref05_retire.rc) (l := [.pointer d, .agg #[.int .i64 p_0, .int .i64 p_1, .int .i64 p_2], .int .i64 i, .string s]) 2000 mixed Tryz.func78 rfl (by kernel_rfl) (@cast (gabionref05_retire.wp d p_0 p_1 p_2 i s h Q) _ (by kernel_rfl) hk)
theorem gabionref05_retire.L2.ok {d : Option Addr} {i : Int} {s : ByteArray} {t : Int} {p_5_0 : Int} {p_5_1 : Int} {p_5_2 : Int} {h : Heap} {Q : Value → Heap → Prop} (hk : gabionref05_retire.L2.wp d i s t p_5_0 p_5_1 p_5_2 h Q) : gabionref05_retire.L2 d i s t p_5_0 p_5_1 p_5_2 h Q :=
  xs_ok (H := gabionref05_retire.H) (lcuts := gabionref05_retire.lc) (rcuts := gabionref05_retire.rc) (fn := Tryz.f78) mixed Tryz.func78 2000 _ _ _ (@cast (gabionref05_retire.L2.wp d i s t p_5_0 p_5_1 p_5_2 h Q) _ (by kernel_rfl) hk)
theorem gabionref05_retire.J16.ok {d : Option Addr} {i : Int} {s : ByteArray} {t : Int} {k0 : Int} {got : ByteArray} {n : Int} {p_5_0 : Int} {p_5_1 : Int} {p_5_2 : Int} {h : Heap} {Q : Value → Heap → Prop} (hk : gabionref05_retire.J16.wp d i s t k0 got n p_5_0 p_5_1 p_5_2 h Q) : gabionref05_retire.J16 d i s t k0 got n p_5_0 p_5_1 p_5_2 h Q :=
  xs_ok (H := gabionref05_retire.H) (lcuts := gabionref05_retire.lc) (rcuts := []) (fn := Tryz.f78) mixed Tryz.func78 2000 _ _ _ (@cast (gabionref05_retire.J16.wp d i s t k0 got n p_5_0 p_5_1 p_5_2 h Q) _ (by kernel_rfl) hk)

/-! gabion/gabionref05.Write -/
def gabionref05_Write.H : Hn := ⟨[], [], [], []⟩
def gabionref05_Write.lc : List Cut := []
def gabionref05_Write.rc : List Cut := [⟨5, [0, 2, 3, 5], [5]⟩]
def gabionref05_Write.J5 (d : Option Addr) (i : Int) (s : ByteArray) (p_5_0 : Int) (p_5_1 : Int) (p_5_2 : Int) (h : Heap) (Q : Value → Heap → Prop) : Prop :=
  TW Tryz.prog 30 55 [.code (cAt (bodyOf Tryz.f30) [1, 1, 1, 0]), .code (cAt (bodyOf Tryz.f30) [1, 1, 1, 1])] ⟨[(0, .v (.pointer d)), (2, .v (.int .i64 i)), (3, .v (.string s)), (5, .p 5 0)], [(5, [.int .i64 p_5_0, .int .i64 p_5_1, .int .i64 p_5_2])]⟩ h Q
def gabionref05_Write.wp (d : Option Addr) (p_0 : Int) (p_1 : Int) (p_2 : Int) (i : Int) (s : ByteArray) (h : Heap) (Q : Value → Heap → Prop) : Prop :=
  xsIf (decide ((↑s.size : Int) ≠ 64)) (Q (Value.int IntKind.i64 2) h) (xsIf (decide (i < 0)) (Q (Value.int IntKind.i64 3) h) (xsIf (decide (p_1 ≤ i)) (Q (Value.int IntKind.i64 3) h) (gabionref05_Write.J5 d i s p_0 p_1 p_2 h Q)))
def gabionref05_Write.J5.wp (d : Option Addr) (i : Int) (s : ByteArray) (p_5_0 : Int) (p_5_1 : Int) (p_5_2 : Int) (h : Heap) (Q : Value → Heap → Prop) : Prop :=
  C Tryz.prog 32 #[Value.pointer d, Value.agg #[Value.int IntKind.i64 p_5_0, Value.int IntKind.i64 p_5_1, Value.int IntKind.i64 p_5_2]] h fun (r : Value) (h' : Heap) =>
    ∃ (x : Option Addr),
      ∃ (n : Nat),
        ∃ (m : Nat),
          ∃ (x_1 : Int),
            r = Value.tuple #[Value.slice x n m, Value.int IntKind.i64 x_1] ∧
              xsIf (decide (x_1 ≠ 0)) (Q (Value.int IntKind.i64 x_1) h')
                (C Tryz.prog 34 #[Value.agg #[Value.int IntKind.i64 p_5_0, Value.int IntKind.i64 p_5_1, Value.int IntKind.i64 p_5_2], Value.slice x n m, Value.int IntKind.i64 i] h' fun (r : Value) (h' : Heap) =>
                  ∃ (x : Int),
                    r = Value.int IntKind.i64 x ∧
                      C Tryz.prog 77 #[Value.pointer d, Value.int IntKind.i64 x, Value.string s] h' fun (r : Value) (h' : Heap) =>
                        ∃ (x_2 : Int),
                          r = Value.int IntKind.i64 x_2 ∧
                            xsIf (decide (x_2 ≠ 0)) (Q (Value.int IntKind.i64 x_2) h')
                              (C Tryz.prog 74 #[Value.pointer d, Value.int IntKind.i64 x] h' fun (r : Value) (h' : Heap) =>
                                ∃ (x : ByteArray),
                                  r = Value.string x ∧
                                    xsIf (decide (x = s)) (Q (Value.int IntKind.i64 0) h')
                                      (C Tryz.prog 78 #[Value.pointer d, Value.agg #[Value.int IntKind.i64 p_5_0, Value.int IntKind.i64 p_5_1, Value.int IntKind.i64 p_5_2], Value.int IntKind.i64 i, Value.string s] h'
                                        fun (r : Value) (h' : Heap) => ∃ (x : Int), r = Value.int IntKind.i64 x ∧ Q (Value.int IntKind.i64 x) h')))
theorem gabionref05_Write.ok {d : Option Addr} {p_0 : Int} {p_1 : Int} {p_2 : Int} {i : Int} {s : ByteArray} {h : Heap} {Q : Value → Heap → Prop} (hk : gabionref05_Write.wp d p_0 p_1 p_2 i s h Q) : C Tryz.prog 30 #[.pointer d, .agg #[.int .i64 p_0, .int .i64 p_1, .int .i64 p_2], .int .i64 i, .string s] h Q :=
  C_of_xs (H := gabionref05_Write.H) (lcuts := gabionref05_Write.lc) (rcuts := gabionref05_Write.rc) (l := [.pointer d, .agg #[.int .i64 p_0, .int .i64 p_1, .int .i64 p_2], .int .i64 i, .string s]) 2000 mixed Tryz.func30 rfl (by kernel_rfl) (@cast (gabionref05_Write.wp d p_0 p_1 p_2 i s h Q) _ (by kernel_rfl) hk)
theorem gabionref05_Write.J5.ok {d : Option Addr} {i : Int} {s : ByteArray} {p_5_0 : Int} {p_5_1 : Int} {p_5_2 : Int} {h : Heap} {Q : Value → Heap → Prop} (hk : gabionref05_Write.J5.wp d i s p_5_0 p_5_1 p_5_2 h Q) : gabionref05_Write.J5 d i s p_5_0 p_5_1 p_5_2 h Q :=
  xs_ok (H := gabionref05_Write.H) (lcuts := gabionref05_Write.lc) (rcuts := []) (fn := Tryz.f30) mixed Tryz.func30 2000 _ _ _ (@cast (gabionref05_Write.J5.wp d i s p_5_0 p_5_1 p_5_2 h Q) _ (by kernel_rfl) hk)

/-! (*gabion/spare.Bank).WriteWord -/
def spare_Bank_WriteWord.H : Hn := ⟨[], [], [⟨11, .q 0 (.q 1 (.q 2 (.q 3 (.q 4 (.q 7 (.q 8 (.q 9 (.q 10 (.q 11 (.q 5 (.q 6 (.q 12 (.q 13 (.nil)))))))))))))), []⟩], []⟩
def spare_Bank_WriteWord.lc : List Cut := []
def spare_Bank_WriteWord.rc : List Cut := []
def spare_Bank_WriteWord.wp (b : Option Addr) (i : Int) (k0 : Int) (v : Int) (h : Heap) (Q : Value → Heap → Prop) : Prop :=
  C Tryz.prog 21 #[Value.pointer b, Value.int IntKind.i64 i] h fun (r : Value) (h' : Heap) =>
    ∃ (x : Int),
      ∃ (x_1 : Int),
        r = Value.tuple #[Value.int IntKind.i64 x, Value.int IntKind.i64 x_1] ∧
          xsIf (decide (x_1 = 1)) (Q (Value.int IntKind.i64 x_1) h')
            (xsIf (decide (k0 < 0)) (Q (Value.int IntKind.i64 2) h')
              (xsIf (decide (8 ≤ k0)) (Q (Value.int IntKind.i64 2) h')
                (xsIf (decide (x_1 ≠ 0)) (Q (Value.int IntKind.i64 x_1) h')
                  (atBase b fun (b_1 o : Nat) =>
                    ∃ (x_2 : Option Addr),
                      h'.cell b_1 (o + 0) = some (Value.pointer x_2) ∧
                        C Tryz.prog 66 #[Value.pointer x_2, Value.int IntKind.i64 x] h' fun (r : Value) (h' : Heap) =>
                          ∃ (x_3 : ByteArray),
                            ∃ (x_4 : Int),
                              r = Value.tuple #[Value.string x_3, Value.int IntKind.i64 x_4] ∧
                                xsIf (decide (x_4 ≠ 0)) (Q (Value.int IntKind.i64 x_4) h')
                                  ((0 ≤ IntKind.i64.wrap (8 * k0) ∧ IntKind.i64.wrap (8 * k0) ≤ (↑x_3.size : Int)) ∧
                                    (0 ≤ IntKind.i64.wrap (8 * IntKind.i64.wrap (k0 + 1)) ∧ IntKind.i64.wrap (8 * IntKind.i64.wrap (k0 + 1)) ≤ (↑x_3.size : Int)) ∧
                                      C Tryz.prog 72 #[Value.int IntKind.u64 v, Value.int IntKind.i64 8] h' fun (r : Value) (h' : Heap) =>
                                        ∃ (x_5 : ByteArray),
                                          r = Value.string x_5 ∧
                                            (↑((sext x_3 0 (IntKind.i64.wrap (8 * k0))).size + x_5.size) : Int) ≤ 9223372036854775807 ∧
                                              (↑((sext x_3 0 (IntKind.i64.wrap (8 * k0)) ++ x_5).size + (sext x_3 (IntKind.i64.wrap (8 * IntKind.i64.wrap (k0 + 1))) (↑x_3.size : Int)).size) : Int) ≤ 9223372036854775807 ∧
                                                atBase b fun (b_2 o : Nat) =>
                                                  ∃ (x_6 : Option Addr),
                                                    h'.cell b_2 (o + 0) = some (Value.pointer x_6) ∧
                                                      C Tryz.prog 73 #[Value.pointer x_6, Value.int IntKind.i64 x, Value.int IntKind.i64 k0, Value.int IntKind.u64 v] h' fun (r : Value) (h' : Heap) =>
                                                        ∃ (x_7 : Int),
                                                          r = Value.int IntKind.i64 x_7 ∧
                                                            xsIf (decide (x_7 ≠ 0)) (Q (Value.int IntKind.i64 x_7) h')
                                                              (atBase b fun (b_3 o : Nat) =>
                                                                ∃ (x_8 : Option Addr),
                                                                  h'.cell b_3 (o + 0) = some (Value.pointer x_8) ∧
                                                                    C Tryz.prog 60
                                                                      #[Value.pointer x_8, Value.int IntKind.i64 x,
                                                                            Value.string (sext x_3 0 (IntKind.i64.wrap (8 * k0)) ++ x_5 ++ sext x_3 (IntKind.i64.wrap (8 * IntKind.i64.wrap (k0 + 1))) (↑x_3.size : Int))]
                                                                      h' fun (r : Value) (h' : Heap) =>
                                                                      ∃ (x : Bool),
                                                                        r = Value.bool x ∧
                                                                          xsIf x (Q (Value.int IntKind.i64 0) h')
                                                                            (C Tryz.prog 61
                                                                              #[Value.pointer b, Value.int IntKind.i64 i,
                                                                                    Value.string (sext x_3 0 (IntKind.i64.wrap (8 * k0)) ++ x_5 ++ sext x_3 (IntKind.i64.wrap (8 * IntKind.i64.wrap (k0 + 1))) (↑x_3.size : Int))]
                                                                              h' fun (r : Value) (h' : Heap) => ∃ (x : Int), r = Value.int IntKind.i64 x ∧ Q (Value.int IntKind.i64 x) h')))))))
theorem spare_Bank_WriteWord.ok {b : Option Addr} {i : Int} {k0 : Int} {v : Int} {h : Heap} {Q : Value → Heap → Prop} (hk : spare_Bank_WriteWord.wp b i k0 v h Q) : C Tryz.prog 28 #[.pointer b, .int .i64 i, .int .i64 k0, .int .u64 v] h Q :=
  C_of_xs (H := spare_Bank_WriteWord.H) (lcuts := spare_Bank_WriteWord.lc) (rcuts := spare_Bank_WriteWord.rc) (l := [.pointer b, .int .i64 i, .int .i64 k0, .int .u64 v]) 2000 mixed Tryz.func28 rfl (by kernel_rfl) (@cast (spare_Bank_WriteWord.wp b i k0 v h Q) _ (by kernel_rfl) hk)

/-! gabion/gabionref04.Get -/
def gabionref04_Get.H : Hn := ⟨[], [], [], []⟩
def gabionref04_Get.lc : List Cut := [⟨5, [0, 1, 6, 7], []⟩]
def gabionref04_Get.rc : List Cut := [⟨3, [0, 1], []⟩]
def gabionref04_Get.J3 (d : Option Addr) (at0 : Int) (h : Heap) (Q : Value → Heap → Prop) : Prop :=
  TW Tryz.prog 33 51 [.code (cAt (bodyOf Tryz.f33) [1, 1, 0]), .code (cAt (bodyOf Tryz.f33) [1, 1, 1])] ⟨[(0, .v (.pointer d)), (1, .v (.int .i64 at0))], []⟩ h Q
def gabionref04_Get.L5 (d : Option Addr) (at0 : Int) (s : ByteArray) (k0 : Int) (h : Heap) (Q : Value → Heap → Prop) : Prop :=
  TW Tryz.prog 33 51 [.code (cAt (bodyOf Tryz.f33) [1, 1, 1, 0, 1, 0, 0]), .inLoop (cAt (bodyOf Tryz.f33) [1, 1, 1, 0, 1, 0, 0]), .inBlock 0, .code (cAt (bodyOf Tryz.f33) [1, 1, 1, 1])] ⟨[(0, .v (.pointer d)), (1, .v (.int .i64 at0)), (6, .v (.string s)), (7, .v (.int .i64 k0))], []⟩ h Q
def gabionref04_Get.wp (d : Option Addr) (at0 : Int) (h : Heap) (Q : Value → Heap → Prop) : Prop :=
  atBase d fun (b o : Nat) =>
    ∃ (x : Bool),
      h.cell b (o + 4) = some (Value.bool x) ∧
        xsIf (!x)
          (xsIf (decide (at0 < 0)) (Q (Value.tuple #[Value.string { data := #[] }, Value.int IntKind.i64 3]) h)
            (atBase d fun (b o : Nat) =>
              ∃ (x : Option Addr),
                ∃ (n : Nat),
                  ∃ (m : Nat),
                    h.cell b (o + 1) = some (Value.slice x n m) ∧ xsIf (decide ((↑n : Int) ≤ at0)) (Q (Value.tuple #[Value.string { data := #[] }, Value.int IntKind.i64 3]) h) (gabionref04_Get.J3 d at0 h Q)))
          (gabionref04_Get.J3 d at0 h Q)
def gabionref04_Get.J3.wp (d : Option Addr) (at0 : Int) (h : Heap) (Q : Value → Heap → Prop) : Prop :=
  gabionref04_Get.L5 d at0 { data := #[] } 0 h Q
def gabionref04_Get.L5.wp (d : Option Addr) (at0 : Int) (s : ByteArray) (k0 : Int) (h : Heap) (Q : Value → Heap → Prop) : Prop :=
  xsIf (decide (k0 < 8))
    (C Tryz.prog 81 #[Value.pointer d, Value.int IntKind.i64 (IntKind.i64.wrap (IntKind.i64.wrap (8 * at0) + k0))] h fun (r : Value) (h' : Heap) =>
      ∃ (x : Int),
        ∃ (x_1 : Int),
          r = Value.tuple #[Value.int IntKind.u64 x, Value.int IntKind.i64 x_1] ∧
            xsIf (decide (x_1 ≠ 0)) (Q (Value.tuple #[Value.string { data := #[] }, Value.int IntKind.i64 x_1]) h')
              (C Tryz.prog 79 #[Value.int IntKind.u64 x, Value.int IntKind.i64 8] h' fun (r : Value) (h' : Heap) =>
                ∃ (x : ByteArray), r = Value.string x ∧ (↑(s.size + x.size) : Int) ≤ 9223372036854775807 ∧ gabionref04_Get.L5 d at0 (s ++ x) (IntKind.i64.wrap (k0 + 1)) h' Q))
    (Q (Value.tuple #[Value.string s, Value.int IntKind.i64 0]) h)
theorem gabionref04_Get.ok {d : Option Addr} {at0 : Int} {h : Heap} {Q : Value → Heap → Prop} (hk : gabionref04_Get.wp d at0 h Q) : C Tryz.prog 33 #[.pointer d, .int .i64 at0] h Q :=
  C_of_xs (H := gabionref04_Get.H) (lcuts := gabionref04_Get.lc) (rcuts := gabionref04_Get.rc) (l := [.pointer d, .int .i64 at0]) 2000 mixed Tryz.func33 rfl (by kernel_rfl) (@cast (gabionref04_Get.wp d at0 h Q) _ (by kernel_rfl) hk)
theorem gabionref04_Get.J3.ok {d : Option Addr} {at0 : Int} {h : Heap} {Q : Value → Heap → Prop} (hk : gabionref04_Get.J3.wp d at0 h Q) : gabionref04_Get.J3 d at0 h Q :=
  xs_ok (H := gabionref04_Get.H) (lcuts := gabionref04_Get.lc) (rcuts := []) (fn := Tryz.f33) mixed Tryz.func33 2000 _ _ _ (@cast (gabionref04_Get.J3.wp d at0 h Q) _ (by kernel_rfl) hk)
theorem gabionref04_Get.L5.ok {d : Option Addr} {at0 : Int} {s : ByteArray} {k0 : Int} {h : Heap} {Q : Value → Heap → Prop} (hk : gabionref04_Get.L5.wp d at0 s k0 h Q) : gabionref04_Get.L5 d at0 s k0 h Q :=
  xs_ok (H := gabionref04_Get.H) (lcuts := gabionref04_Get.lc) (rcuts := gabionref04_Get.rc) (fn := Tryz.f33) mixed Tryz.func33 2000 _ _ _ (@cast (gabionref04_Get.L5.wp d at0 s k0 h Q) _ (by kernel_rfl) hk)

/-! gabion/gabionref05.WriteWord -/
def gabionref05_WriteWord.H : Hn := ⟨[], [], [⟨13, .q 0 (.q 1 (.q 2 (.q 3 (.q 4 (.q 5 (.q 6 (.q 7 (.q 8 (.q 9 (.q 10 (.q 11 (.q 12 (.nil))))))))))))), []⟩], []⟩
def gabionref05_WriteWord.lc : List Cut := []
def gabionref05_WriteWord.rc : List Cut := [⟨3, [0, 2, 3, 4, 6], [6]⟩, ⟨5, [0, 2, 3, 4, 6], [6]⟩]
def gabionref05_WriteWord.J3 (d : Option Addr) (i : Int) (k0 : Int) (v : Int) (p_6_0 : Int) (p_6_1 : Int) (p_6_2 : Int) (h : Heap) (Q : Value → Heap → Prop) : Prop :=
  TW Tryz.prog 31 87 [.code (cAt (bodyOf Tryz.f31) [1, 1, 0, 0]), .code (cAt (bodyOf Tryz.f31) [1, 1, 0, 1]), .code (cAt (bodyOf Tryz.f31) [1, 1, 1])] ⟨[(0, .v (.pointer d)), (2, .v (.int .i64 i)), (3, .v (.int .i64 k0)), (4, .v (.int .u64 v)), (6, .p 6 0)], [(6, [.int .i64 p_6_0, .int .i64 p_6_1, .int .i64 p_6_2])]⟩ h Q
def gabionref05_WriteWord.J5 (d : Option Addr) (i : Int) (k0 : Int) (v : Int) (p_6_0 : Int) (p_6_1 : Int) (p_6_2 : Int) (h : Heap) (Q : Value → Heap → Prop) : Prop :=
  TW Tryz.prog 31 87 [.code (cAt (bodyOf Tryz.f31) [1, 1, 1, 0]), .code (cAt (bodyOf Tryz.f31) [1, 1, 1, 1])] ⟨[(0, .v (.pointer d)), (2, .v (.int .i64 i)), (3, .v (.int .i64 k0)), (4, .v (.int .u64 v)), (6, .p 6 0)], [(6, [.int .i64 p_6_0, .int .i64 p_6_1, .int .i64 p_6_2])]⟩ h Q
def gabionref05_WriteWord.wp (d : Option Addr) (p_0 : Int) (p_1 : Int) (p_2 : Int) (i : Int) (k0 : Int) (v : Int) (h : Heap) (Q : Value → Heap → Prop) : Prop :=
  xsIf (decide (k0 < 0)) (Q (Value.int IntKind.i64 2) h) (xsIf (decide (7 < k0)) (Q (Value.int IntKind.i64 2) h) (gabionref05_WriteWord.J3 d i k0 v p_0 p_1 p_2 h Q))
def gabionref05_WriteWord.J3.wp (d : Option Addr) (i : Int) (k0 : Int) (v : Int) (p_6_0 : Int) (p_6_1 : Int) (p_6_2 : Int) (h : Heap) (Q : Value → Heap → Prop) : Prop :=
  xsIf (decide (i < 0)) (Q (Value.int IntKind.i64 3) h) (xsIf (decide (p_6_1 ≤ i)) (Q (Value.int IntKind.i64 3) h) (gabionref05_WriteWord.J5 d i k0 v p_6_0 p_6_1 p_6_2 h Q))
def gabionref05_WriteWord.J5.wp (d : Option Addr) (i : Int) (k0 : Int) (v : Int) (p_6_0 : Int) (p_6_1 : Int) (p_6_2 : Int) (h : Heap) (Q : Value → Heap → Prop) : Prop :=
  C Tryz.prog 32 #[Value.pointer d, Value.agg #[Value.int IntKind.i64 p_6_0, Value.int IntKind.i64 p_6_1, Value.int IntKind.i64 p_6_2]] h fun (r : Value) (h' : Heap) =>
    ∃ (x : Option Addr),
      ∃ (n : Nat),
        ∃ (m : Nat),
          ∃ (x_1 : Int),
            r = Value.tuple #[Value.slice x n m, Value.int IntKind.i64 x_1] ∧
              xsIf (decide (x_1 ≠ 0)) (Q (Value.int IntKind.i64 x_1) h')
                (C Tryz.prog 34 #[Value.agg #[Value.int IntKind.i64 p_6_0, Value.int IntKind.i64 p_6_1, Value.int IntKind.i64 p_6_2], Value.slice x n m, Value.int IntKind.i64 i] h' fun (r : Value) (h' : Heap) =>
                  ∃ (x : Int),
                    r = Value.int IntKind.i64 x ∧
                      C Tryz.prog 33 #[Value.pointer d, Value.int IntKind.i64 x] h' fun (r : Value) (h' : Heap) =>
                        ∃ (x_2 : ByteArray),
                          ∃ (x_3 : Int),
                            r = Value.tuple #[Value.string x_2, Value.int IntKind.i64 x_3] ∧
                              xsIf (decide (x_3 ≠ 0)) (Q (Value.int IntKind.i64 x_3) h')
                                (C Tryz.prog 79 #[Value.int IntKind.u64 v, Value.int IntKind.i64 8] h' fun (r : Value) (h' : Heap) =>
                                  ∃ (x_4 : ByteArray),
                                    r = Value.string x_4 ∧
                                      (0 ≤ IntKind.i64.wrap (8 * k0) ∧ IntKind.i64.wrap (8 * k0) ≤ (↑x_2.size : Int)) ∧
                                        (↑((sext x_2 0 (IntKind.i64.wrap (8 * k0))).size + x_4.size) : Int) ≤ 9223372036854775807 ∧
                                          (0 ≤ IntKind.i64.wrap (IntKind.i64.wrap (8 * k0) + 8) ∧ IntKind.i64.wrap (IntKind.i64.wrap (8 * k0) + 8) ≤ (↑x_2.size : Int)) ∧
                                            (↑((sext x_2 0 (IntKind.i64.wrap (8 * k0)) ++ x_4).size + (sext x_2 (IntKind.i64.wrap (IntKind.i64.wrap (8 * k0) + 8)) (↑x_2.size : Int)).size) : Int) ≤ 9223372036854775807 ∧
                                              C Tryz.prog 80 #[Value.pointer d, Value.int IntKind.i64 x, Value.int IntKind.i64 k0, Value.int IntKind.u64 v] h' fun (r : Value) (h' : Heap) =>
                                                ∃ (x_5 : Int),
                                                  r = Value.int IntKind.i64 x_5 ∧
                                                    xsIf (decide (x_5 ≠ 0)) (Q (Value.int IntKind.i64 x_5) h')
                                                      (C Tryz.prog 74 #[Value.pointer d, Value.int IntKind.i64 x] h' fun (r : Value) (h' : Heap) =>
                                                        ∃ (x : ByteArray),
                                                          r = Value.string x ∧
                                                            xsIf (decide (x = sext x_2 0 (IntKind.i64.wrap (8 * k0)) ++ x_4 ++ sext x_2 (IntKind.i64.wrap (IntKind.i64.wrap (8 * k0) + 8)) (↑x_2.size : Int))) (Q (Value.int IntKind.i64 0) h')
                                                              (C Tryz.prog 78
                                                                #[Value.pointer d, Value.agg #[Value.int IntKind.i64 p_6_0, Value.int IntKind.i64 p_6_1, Value.int IntKind.i64 p_6_2], Value.int IntKind.i64 i,
                                                                      Value.string (sext x_2 0 (IntKind.i64.wrap (8 * k0)) ++ x_4 ++ sext x_2 (IntKind.i64.wrap (IntKind.i64.wrap (8 * k0) + 8)) (↑x_2.size : Int))]
                                                                h' fun (r : Value) (h' : Heap) => ∃ (x : Int), r = Value.int IntKind.i64 x ∧ Q (Value.int IntKind.i64 x) h'))))
theorem gabionref05_WriteWord.ok {d : Option Addr} {p_0 : Int} {p_1 : Int} {p_2 : Int} {i : Int} {k0 : Int} {v : Int} {h : Heap} {Q : Value → Heap → Prop} (hk : gabionref05_WriteWord.wp d p_0 p_1 p_2 i k0 v h Q) : C Tryz.prog 31 #[.pointer d, .agg #[.int .i64 p_0, .int .i64 p_1, .int .i64 p_2], .int .i64 i, .int .i64 k0, .int .u64 v] h Q :=
  C_of_xs (H := gabionref05_WriteWord.H) (lcuts := gabionref05_WriteWord.lc) (rcuts := gabionref05_WriteWord.rc) (l := [.pointer d, .agg #[.int .i64 p_0, .int .i64 p_1, .int .i64 p_2], .int .i64 i, .int .i64 k0, .int .u64 v]) 2000 mixed Tryz.func31 rfl (by kernel_rfl) (@cast (gabionref05_WriteWord.wp d p_0 p_1 p_2 i k0 v h Q) _ (by kernel_rfl) hk)
theorem gabionref05_WriteWord.J3.ok {d : Option Addr} {i : Int} {k0 : Int} {v : Int} {p_6_0 : Int} {p_6_1 : Int} {p_6_2 : Int} {h : Heap} {Q : Value → Heap → Prop} (hk : gabionref05_WriteWord.J3.wp d i k0 v p_6_0 p_6_1 p_6_2 h Q) : gabionref05_WriteWord.J3 d i k0 v p_6_0 p_6_1 p_6_2 h Q :=
  xs_ok (H := gabionref05_WriteWord.H) (lcuts := gabionref05_WriteWord.lc) (rcuts := [⟨5, [0, 2, 3, 4, 6], [6]⟩]) (fn := Tryz.f31) mixed Tryz.func31 2000 _ _ _ (@cast (gabionref05_WriteWord.J3.wp d i k0 v p_6_0 p_6_1 p_6_2 h Q) _ (by kernel_rfl) hk)
theorem gabionref05_WriteWord.J5.ok {d : Option Addr} {i : Int} {k0 : Int} {v : Int} {p_6_0 : Int} {p_6_1 : Int} {p_6_2 : Int} {h : Heap} {Q : Value → Heap → Prop} (hk : gabionref05_WriteWord.J5.wp d i k0 v p_6_0 p_6_1 p_6_2 h Q) : gabionref05_WriteWord.J5 d i k0 v p_6_0 p_6_1 p_6_2 h Q :=
  xs_ok (H := gabionref05_WriteWord.H) (lcuts := gabionref05_WriteWord.lc) (rcuts := [⟨3, [0, 2, 3, 4, 6], [6]⟩]) (fn := Tryz.f31) mixed Tryz.func31 2000 _ _ _ (@cast (gabionref05_WriteWord.J5.wp d i k0 v p_6_0 p_6_1 p_6_2 h Q) _ (by kernel_rfl) hk)

/-! (*gabion/pm.Device).Fuse -/
def pm_Device_Fuse.H : Hn := ⟨[], [], [], []⟩
def pm_Device_Fuse.lc : List Cut := []
def pm_Device_Fuse.rc : List Cut := []
def pm_Device_Fuse.wp (d : Option Addr) (n : Int) (h : Heap) (Q : Value → Heap → Prop) : Prop :=
  xsIf (!d.isNone) (atBase d fun (b o : Nat) => h.can b (o + 4) 1 ∧ Q (Value.tuple #[]) (h.put b (o + 4) [Value.int IntKind.i64 (imax n 0)])) (Q (Value.tuple #[]) h)
theorem pm_Device_Fuse.ok {d : Option Addr} {n : Int} {h : Heap} {Q : Value → Heap → Prop} (hk : pm_Device_Fuse.wp d n h Q) : C Tryz.prog 35 #[.pointer d, .int .i64 n] h Q :=
  C_of_xs (H := pm_Device_Fuse.H) (lcuts := pm_Device_Fuse.lc) (rcuts := pm_Device_Fuse.rc) (l := [.pointer d, .int .i64 n]) 2000 mixed Tryz.func35 rfl (by kernel_rfl) (@cast (pm_Device_Fuse.wp d n h Q) _ (by kernel_rfl) hk)

/-! (*gabion/pm.Device).Boot -/
def pm_Device_Boot.H : Hn := ⟨[], [], [], []⟩
def pm_Device_Boot.lc : List Cut := [⟨3, [0, 1, 4, 10, 11, 12], []⟩]
def pm_Device_Boot.rc : List Cut := [⟨7, [0, 1, 4, 10, 11, 12], []⟩]
def pm_Device_Boot.L3 (d : Option Addr) (keep : Option Addr) (keep_n : Nat) (keep_c : Nat) (kept : Option Addr) (kept_n : Nat) (kept_c : Nat) (t10 : Option Addr) (t10_n : Nat) (t10_c : Nat) (t11 : Int) (t12 : Int) (h : Heap) (Q : Value → Heap → Prop) : Prop :=
  TW Tryz.prog 36 45 [.code (cAt (bodyOf Tryz.f36) [1, 1, 0, 1, 0, 0]), .inLoop (cAt (bodyOf Tryz.f36) [1, 1, 0, 1, 0, 0]), .inBlock 0, .code (cAt (bodyOf Tryz.f36) [1, 1, 1])] ⟨[(0, .v (.pointer d)), (1, .v (.slice keep keep_n keep_c)), (4, .v (.slice kept kept_n kept_c)), (10, .v (.slice t10 t10_n t10_c)), (11, .v (.int .i64 t11)), (12, .v (.int .i64 t12))], []⟩ h Q
def pm_Device_Boot.J7 (d : Option Addr) (keep : Option Addr) (keep_n : Nat) (keep_c : Nat) (kept : Option Addr) (kept_n : Nat) (kept_c : Nat) (t10 : Option Addr) (t10_n : Nat) (t10_c : Nat) (t11 : Int) (t12 : Int) (h : Heap) (Q : Value → Heap → Prop) : Prop :=
  TW Tryz.prog 36 45 [.code (cAt (bodyOf Tryz.f36) [1, 1, 0, 1, 0, 0, 1, 1, 1]), .inLoop (cAt (bodyOf Tryz.f36) [1, 1, 0, 1, 0, 0]), .inBlock 0, .code (cAt (bodyOf Tryz.f36) [1, 1, 1])] ⟨[(0, .v (.pointer d)), (1, .v (.slice keep keep_n keep_c)), (4, .v (.slice kept kept_n kept_c)), (10, .v (.slice t10 t10_n t10_c)), (11, .v (.int .i64 t11)), (12, .v (.int .i64 t12))], []⟩ h Q
def pm_Device_Boot.wp (d : Option Addr) (keep : Option Addr) (keep_n : Nat) (keep_c : Nat) (h : Heap) (Q : Value → Heap → Prop) : Prop :=
  xsIf d.isNone (Q (Value.tuple #[]) h)
    (C Tryz.prog 83 #[Value.pointer d] h fun (r : Value) (h' : Heap) => ∃ (x : Option Addr), ∃ (n : Nat), ∃ (m : Nat), r = Value.slice x n m ∧ pm_Device_Boot.L3 d keep keep_n keep_c none 0 0 x n m (↑n : Int) 0 h' Q)
def pm_Device_Boot.L3.wp (d : Option Addr) (keep : Option Addr) (keep_n : Nat) (keep_c : Nat) (kept : Option Addr) (kept_n : Nat) (kept_c : Nat) (t10 : Option Addr) (t10_n : Nat) (t10_c : Nat) (t11 : Int) (t12 : Int) (h : Heap) (Q : Value → Heap → Prop) : Prop :=
  xsIf (decide (t12 < t11))
    ((0 ≤ t12 ∧ t12 < (↑t10_n : Int)) ∧
      atBase t10 fun (b o : Nat) =>
        ∃ (x : Int),
          h.cell b (o + t12.toNat * 1) = some (Value.int IntKind.i64 x) ∧
            xsIf (decide (t12 < (↑keep_n : Int)))
              ((0 ≤ t12 ∧ t12 < (↑keep_n : Int)) ∧
                atBase keep fun (b o : Nat) =>
                  ∃ (x_1 : Bool),
                    h.cell b (o + t12.toNat * 1) = some (Value.bool x_1) ∧
                      xsIf x_1
                        (∀ (b : Nat),
                          h b = none →
                            xsApp Tryz.prog 3 (upd h b (Obj.cells #[Value.int IntKind.i64 x] 3 (0, 0))) kept kept_n kept_c (some { block := b, off := 0 }) 1 fun (a' : Option Addr) (n' c' : Nat) (h' : Heap) =>
                              pm_Device_Boot.J7 d keep keep_n keep_c a' n' c' t10 t10_n t10_c t11 t12 h' Q)
                        (pm_Device_Boot.J7 d keep keep_n keep_c kept kept_n kept_c t10 t10_n t10_c t11 t12 h Q))
              (pm_Device_Boot.J7 d keep keep_n keep_c kept kept_n kept_c t10 t10_n t10_c t11 t12 h Q))
    (C Tryz.prog 84 #[Value.pointer d, Value.slice kept kept_n kept_c] h fun (r : Value) (h' : Heap) =>
      atBase d fun (b o : Nat) =>
        ∃ (x : Option Nat),
          h'.cell b (o + 1) = some (Value.map x) ∧
            atMap x fun (r : Nat) =>
              ∃ (l : List (Int × Value × Nat)),
                ∃ (c : Nat),
                  h' r = some (mapO (Value.int IntKind.i64) l c) ∧
                    atBase d fun (b o : Nat) =>
                      (upd h' r (mapO (Value.int IntKind.i64) [] c)).can b (o + 5) 1 ∧
                        atBase d fun (b_1 o_1 : Nat) =>
                          ((upd h' r (mapO (Value.int IntKind.i64) [] c)).put b (o + 5) [Value.bool false]).can b_1 (o_1 + 4) 1 ∧
                            Q (Value.tuple #[]) (((upd h' r (mapO (Value.int IntKind.i64) [] c)).put b (o + 5) [Value.bool false]).put b_1 (o_1 + 4) [Value.int IntKind.i64 0]))
def pm_Device_Boot.J7.wp (d : Option Addr) (keep : Option Addr) (keep_n : Nat) (keep_c : Nat) (kept : Option Addr) (kept_n : Nat) (kept_c : Nat) (t10 : Option Addr) (t10_n : Nat) (t10_c : Nat) (t11 : Int) (t12 : Int) (h : Heap) (Q : Value → Heap → Prop) : Prop :=
  pm_Device_Boot.L3 d keep keep_n keep_c kept kept_n kept_c t10 t10_n t10_c t11 (IntKind.i64.wrap (t12 + 1)) h Q
theorem pm_Device_Boot.ok {d : Option Addr} {keep : Option Addr} {keep_n : Nat} {keep_c : Nat} {h : Heap} {Q : Value → Heap → Prop} (hk : pm_Device_Boot.wp d keep keep_n keep_c h Q) : C Tryz.prog 36 #[.pointer d, .slice keep keep_n keep_c] h Q :=
  C_of_xs (H := pm_Device_Boot.H) (lcuts := pm_Device_Boot.lc) (rcuts := pm_Device_Boot.rc) (l := [.pointer d, .slice keep keep_n keep_c]) 2000 mixed Tryz.func36 rfl (by kernel_rfl) (@cast (pm_Device_Boot.wp d keep keep_n keep_c h Q) _ (by kernel_rfl) hk)
theorem pm_Device_Boot.L3.ok {d : Option Addr} {keep : Option Addr} {keep_n : Nat} {keep_c : Nat} {kept : Option Addr} {kept_n : Nat} {kept_c : Nat} {t10 : Option Addr} {t10_n : Nat} {t10_c : Nat} {t11 : Int} {t12 : Int} {h : Heap} {Q : Value → Heap → Prop} (hk : pm_Device_Boot.L3.wp d keep keep_n keep_c kept kept_n kept_c t10 t10_n t10_c t11 t12 h Q) : pm_Device_Boot.L3 d keep keep_n keep_c kept kept_n kept_c t10 t10_n t10_c t11 t12 h Q :=
  xs_ok (H := pm_Device_Boot.H) (lcuts := pm_Device_Boot.lc) (rcuts := pm_Device_Boot.rc) (fn := Tryz.f36) mixed Tryz.func36 2000 _ _ _ (@cast (pm_Device_Boot.L3.wp d keep keep_n keep_c kept kept_n kept_c t10 t10_n t10_c t11 t12 h Q) _ (by kernel_rfl) hk)
theorem pm_Device_Boot.J7.ok {d : Option Addr} {keep : Option Addr} {keep_n : Nat} {keep_c : Nat} {kept : Option Addr} {kept_n : Nat} {kept_c : Nat} {t10 : Option Addr} {t10_n : Nat} {t10_c : Nat} {t11 : Int} {t12 : Int} {h : Heap} {Q : Value → Heap → Prop} (hk : pm_Device_Boot.J7.wp d keep keep_n keep_c kept kept_n kept_c t10 t10_n t10_c t11 t12 h Q) : pm_Device_Boot.J7 d keep keep_n keep_c kept kept_n kept_c t10 t10_n t10_c t11 t12 h Q :=
  xs_ok (H := pm_Device_Boot.H) (lcuts := pm_Device_Boot.lc) (rcuts := []) (fn := Tryz.f36) mixed Tryz.func36 2000 _ _ _ (@cast (pm_Device_Boot.J7.wp d keep keep_n keep_c kept kept_n kept_c t10 t10_n t10_c t11 t12 h Q) _ (by kernel_rfl) hk)

/-! gabion/gabionref03.Boot -/
def gabionref03_Boot.H : Hn := ⟨[], [], [], []⟩
def gabionref03_Boot.lc : List Cut := [⟨3, [0, 1, 4, 5, 6], []⟩, ⟨10, [0, 7], []⟩]
def gabionref03_Boot.rc : List Cut := [⟨4, [0, 1, 4, 5, 6], []⟩]
def gabionref03_Boot.L3 (d : Option Addr) (keep : Option Addr) (keep_n : Nat) (keep_c : Nat) (chosen : Option Addr) (chosen_n : Nat) (chosen_c : Nat) (k0 : Int) (i_6 : Int) (h : Heap) (Q : Value → Heap → Prop) : Prop :=
  TW Tryz.prog 37 72 [.code (cAt (bodyOf Tryz.f37) [1, 1, 0, 1, 0, 0]), .inLoop (cAt (bodyOf Tryz.f37) [1, 1, 0, 1, 0, 0]), .inBlock 0, .code (cAt (bodyOf Tryz.f37) [1, 1, 1])] ⟨[(0, .v (.pointer d)), (1, .v (.slice keep keep_n keep_c)), (4, .v (.slice chosen chosen_n chosen_c)), (5, .v (.int .i64 k0)), (6, .v (.int .i64 i_6))], []⟩ h Q
def gabionref03_Boot.J4 (d : Option Addr) (keep : Option Addr) (keep_n : Nat) (keep_c : Nat) (chosen : Option Addr) (chosen_n : Nat) (chosen_c : Nat) (k0 : Int) (i_6 : Int) (h : Heap) (Q : Value → Heap → Prop) : Prop :=
  TW Tryz.prog 37 72 [.code (cAt (bodyOf Tryz.f37) [1, 1, 0, 1, 0, 0, 1, 1]), .inLoop (cAt (bodyOf Tryz.f37) [1, 1, 0, 1, 0, 0]), .inBlock 0, .code (cAt (bodyOf Tryz.f37) [1, 1, 1])] ⟨[(0, .v (.pointer d)), (1, .v (.slice keep keep_n keep_c)), (4, .v (.slice chosen chosen_n chosen_c)), (5, .v (.int .i64 k0)), (6, .v (.int .i64 i_6))], []⟩ h Q
def gabionref03_Boot.L10 (d : Option Addr) (i_7 : Int) (h : Heap) (Q : Value → Heap → Prop) : Prop :=
  TW Tryz.prog 37 72 [.code (cAt (bodyOf Tryz.f37) [1, 1, 1, 1, 0, 1, 0, 0]), .inLoop (cAt (bodyOf Tryz.f37) [1, 1, 1, 1, 0, 1, 0, 0]), .inBlock 2, .code (cAt (bodyOf Tryz.f37) [1, 1, 1, 1, 1])] ⟨[(0, .v (.pointer d)), (7, .v (.int .i64 i_7))], []⟩ h Q
def gabionref03_Boot.wp (d : Option Addr) (keep : Option Addr) (keep_n : Nat) (keep_c : Nat) (h : Heap) (Q : Value → Heap → Prop) : Prop :=
  atBase d fun (b o : Nat) =>
    ∃ (x : Option Addr),
      ∃ (n : Nat), ∃ (m : Nat), h.cell b (o + 0) = some (Value.slice x n m) ∧ xsMk Tryz.prog 4 h (↑n : Int) (↑n : Int) fun (a : Option Addr) (n' c' : Nat) (h' : Heap) => gabionref03_Boot.L3 d keep keep_n keep_c a n' c' 0 0 h' Q
def gabionref03_Boot.L3.wp (d : Option Addr) (keep : Option Addr) (keep_n : Nat) (keep_c : Nat) (chosen : Option Addr) (chosen_n : Nat) (chosen_c : Nat) (k0 : Int) (i_6 : Int) (h : Heap) (Q : Value → Heap → Prop) : Prop :=
  atBase d fun (b o : Nat) =>
    ∃ (x : Option Addr),
      ∃ (n : Nat),
        ∃ (m : Nat),
          h.cell b (o + 0) = some (Value.slice x n m) ∧
            xsIf (decide (i_6 < (↑n : Int)))
              (atBase d fun (b o : Nat) =>
                ∃ (x : Option Addr),
                  ∃ (n : Nat),
                    ∃ (m : Nat),
                      h.cell b (o + 0) = some (Value.slice x n m) ∧
                        (0 ≤ i_6 ∧ i_6 < (↑n : Int)) ∧
                          atBase x fun (b o : Nat) =>
                            ∃ (x : Bool),
                              h.cell b (o + i_6.toNat * 4 + 1) = some (Value.bool x) ∧
                                xsIf (!x) (gabionref03_Boot.J4 d keep keep_n keep_c chosen chosen_n chosen_c k0 i_6 h Q)
                                  (xsIf (decide (k0 < (↑keep_n : Int)))
                                    ((0 ≤ k0 ∧ k0 < (↑keep_n : Int)) ∧
                                      atBase keep fun (b o : Nat) =>
                                        ∃ (x : Bool),
                                          h.cell b (o + k0.toNat * 1) = some (Value.bool x) ∧
                                            (0 ≤ i_6 ∧ i_6 < (↑chosen_n : Int)) ∧
                                              atBase chosen fun (b o : Nat) =>
                                                h.can b (o + i_6.toNat * 1) 1 ∧ gabionref03_Boot.J4 d keep keep_n keep_c chosen chosen_n chosen_c (IntKind.i64.wrap (k0 + 1)) i_6 (h.put b (o + i_6.toNat * 1) [Value.bool x]) Q)
                                    ((0 ≤ i_6 ∧ i_6 < (↑chosen_n : Int)) ∧
                                      atBase chosen fun (b o : Nat) =>
                                        h.can b (o + i_6.toNat * 1) 1 ∧ gabionref03_Boot.J4 d keep keep_n keep_c chosen chosen_n chosen_c (IntKind.i64.wrap (k0 + 1)) i_6 (h.put b (o + i_6.toNat * 1) [Value.bool false]) Q)))
              (C Tryz.prog 85 #[Value.pointer d, Value.slice chosen chosen_n chosen_c] h fun (r : Value) (h' : Heap) => gabionref03_Boot.L10 d 0 h' Q)
def gabionref03_Boot.J4.wp (d : Option Addr) (keep : Option Addr) (keep_n : Nat) (keep_c : Nat) (chosen : Option Addr) (chosen_n : Nat) (chosen_c : Nat) (k0 : Int) (i_6 : Int) (h : Heap) (Q : Value → Heap → Prop) : Prop :=
  gabionref03_Boot.L3 d keep keep_n keep_c chosen chosen_n chosen_c k0 (IntKind.i64.wrap (i_6 + 1)) h Q
def gabionref03_Boot.L10.wp (d : Option Addr) (i_7 : Int) (h : Heap) (Q : Value → Heap → Prop) : Prop :=
  atBase d fun (b o : Nat) =>
    ∃ (x : Option Addr),
      ∃ (n : Nat),
        ∃ (m : Nat),
          h.cell b (o + 0) = some (Value.slice x n m) ∧
            xsIf (decide (i_7 < (↑n : Int)))
              (atBase d fun (b o : Nat) =>
                ∃ (x : Option Addr),
                  ∃ (n : Nat),
                    ∃ (m : Nat),
                      h.cell b (o + 0) = some (Value.slice x n m) ∧
                        (0 ≤ i_7 ∧ i_7 < (↑n : Int)) ∧ atBase x fun (b o : Nat) => h.can b (o + i_7.toNat * 4 + 1) 1 ∧ gabionref03_Boot.L10 d (IntKind.i64.wrap (i_7 + 1)) (h.put b (o + i_7.toNat * 4 + 1) [Value.bool false]) Q)
              (atBase d fun (b o : Nat) =>
                h.can b (o + 4) 1 ∧
                  atBase d fun (b_1 o_1 : Nat) => (h.put b (o + 4) [Value.bool false]).can b_1 (o_1 + 3) 1 ∧ Q (Value.tuple #[]) ((h.put b (o + 4) [Value.bool false]).put b_1 (o_1 + 3) [Value.int IntKind.i64 0]))
theorem gabionref03_Boot.ok {d : Option Addr} {keep : Option Addr} {keep_n : Nat} {keep_c : Nat} {h : Heap} {Q : Value → Heap → Prop} (hk : gabionref03_Boot.wp d keep keep_n keep_c h Q) : C Tryz.prog 37 #[.pointer d, .slice keep keep_n keep_c] h Q :=
  C_of_xs (H := gabionref03_Boot.H) (lcuts := gabionref03_Boot.lc) (rcuts := gabionref03_Boot.rc) (l := [.pointer d, .slice keep keep_n keep_c]) 2000 mixed Tryz.func37 rfl (by kernel_rfl) (@cast (gabionref03_Boot.wp d keep keep_n keep_c h Q) _ (by kernel_rfl) hk)
theorem gabionref03_Boot.L3.ok {d : Option Addr} {keep : Option Addr} {keep_n : Nat} {keep_c : Nat} {chosen : Option Addr} {chosen_n : Nat} {chosen_c : Nat} {k0 : Int} {i_6 : Int} {h : Heap} {Q : Value → Heap → Prop} (hk : gabionref03_Boot.L3.wp d keep keep_n keep_c chosen chosen_n chosen_c k0 i_6 h Q) : gabionref03_Boot.L3 d keep keep_n keep_c chosen chosen_n chosen_c k0 i_6 h Q :=
  xs_ok (H := gabionref03_Boot.H) (lcuts := gabionref03_Boot.lc) (rcuts := gabionref03_Boot.rc) (fn := Tryz.f37) mixed Tryz.func37 2000 _ _ _ (@cast (gabionref03_Boot.L3.wp d keep keep_n keep_c chosen chosen_n chosen_c k0 i_6 h Q) _ (by kernel_rfl) hk)
theorem gabionref03_Boot.J4.ok {d : Option Addr} {keep : Option Addr} {keep_n : Nat} {keep_c : Nat} {chosen : Option Addr} {chosen_n : Nat} {chosen_c : Nat} {k0 : Int} {i_6 : Int} {h : Heap} {Q : Value → Heap → Prop} (hk : gabionref03_Boot.J4.wp d keep keep_n keep_c chosen chosen_n chosen_c k0 i_6 h Q) : gabionref03_Boot.J4 d keep keep_n keep_c chosen chosen_n chosen_c k0 i_6 h Q :=
  xs_ok (H := gabionref03_Boot.H) (lcuts := gabionref03_Boot.lc) (rcuts := []) (fn := Tryz.f37) mixed Tryz.func37 2000 _ _ _ (@cast (gabionref03_Boot.J4.wp d keep keep_n keep_c chosen chosen_n chosen_c k0 i_6 h Q) _ (by kernel_rfl) hk)
theorem gabionref03_Boot.L10.ok {d : Option Addr} {i_7 : Int} {h : Heap} {Q : Value → Heap → Prop} (hk : gabionref03_Boot.L10.wp d i_7 h Q) : gabionref03_Boot.L10 d i_7 h Q :=
  xs_ok (H := gabionref03_Boot.H) (lcuts := gabionref03_Boot.lc) (rcuts := gabionref03_Boot.rc) (fn := Tryz.f37) mixed Tryz.func37 2000 _ _ _ (@cast (gabionref03_Boot.L10.wp d i_7 h Q) _ (by kernel_rfl) hk)
end Go.Gb
