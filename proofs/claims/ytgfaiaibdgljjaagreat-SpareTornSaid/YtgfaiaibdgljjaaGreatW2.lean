/- Own text for the seat: W2. -/
import Derived.Test.YtgfaiaibdgljjaaGreatW1
set_option linter.unusedVariables false
set_option linter.unusedSimpArgs false
set_option linter.unnecessarySimpa false
set_option linter.deprecated false
set_option maxRecDepth 100000
namespace Go.Gb
open Go.Proofs

/-! (*gabion/spare.Bank).say -/
def spare_Bank_say.H : Hn := ⟨[], [], [⟨1, .q 0 (.q 1 (.q 2 (.q 4 (.q 5 (.q 6 (.q 7 (.q 9 (.q 10 (.q 11 (.q 15 (.q 16 (.q 17 (.q 20 (.br 3 (.br 8 (.br 12 (.q 13 (.q 14 (.br 18 (.q 19 (.q 21 (.q 22 (.q 23 (.nil))))) (.one 21 (.q 18 (.q 19 (.q 22 (.q 23 (.nil))))))))) (.br 18 (.q 19 (.br 12 (.q 13 (.q 14 (.q 21 (.q 22 (.q 23 (.nil)))))) (.one 21 (.q 12 (.q 13 (.q 14 (.q 22 (.q 23 (.nil))))))))) (.one 21 (.br 12 (.q 13 (.q 14 (.q 18 (.q 19 (.q 22 (.q 23 (.nil))))))) (.one 18 (.q 19 (.q 12 (.q 13 (.q 14 (.q 22 (.q 23 (.nil)))))))))))) (.br 12 (.q 13 (.br 8 (.q 14 (.br 18 (.q 19 (.q 21 (.q 22 (.q 23 (.nil))))) (.one 21 (.q 18 (.q 19 (.q 22 (.q 23 (.nil)))))))) (.br 18 (.q 19 (.br 8 (.q 14 (.q 21 (.q 22 (.q 23 (.nil))))) (.one 21 (.q 8 (.q 14 (.q 22 (.q 23 (.nil)))))))) (.one 21 (.br 8 (.q 14 (.q 18 (.q 19 (.q 22 (.q 23 (.nil)))))) (.one 18 (.q 19 (.q 8 (.q 14 (.q 22 (.q 23 (.nil)))))))))))) (.br 18 (.q 19 (.br 8 (.br 12 (.q 13 (.q 14 (.q 21 (.q 22 (.q 23 (.nil)))))) (.one 21 (.q 12 (.q 13 (.q 14 (.q 22 (.q 23 (.nil)))))))) (.br 12 (.q 13 (.br 8 (.q 14 (.q 21 (.q 22 (.q 23 (.nil))))) (.one 21 (.q 8 (.q 14 (.q 22 (.q 23 (.nil)))))))) (.one 21 (.ld 12 12607488 (.q 13 (.q 8 (.q 14 (.q 22 (.q 23 (.nil))))))))))) (.one 21 (.br 8 (.br 12 (.q 13 (.q 14 (.q 18 (.q 19 (.q 22 (.q 23 (.nil))))))) (.one 18 (.q 19 (.q 12 (.q 13 (.q 14 (.q 22 (.q 23 (.nil))))))))) (.br 12 (.q 13 (.br 8 (.q 14 (.q 18 (.q 19 (.q 22 (.q 23 (.nil)))))) (.one 18 (.q 19 (.q 8 (.q 14 (.q 22 (.q 23 (.nil))))))))) (.one 18 (.q 19 (.ld 12 12607488 (.q 13 (.q 8 (.q 14 (.q 22 (.q 23 (.nil))))))))))))))) (.br 8 (.br 3 (.br 12 (.q 13 (.q 14 (.br 18 (.q 19 (.q 21 (.q 22 (.q 23 (.nil))))) (.one 21 (.q 18 (.q 19 (.q 22 (.q 23 (.nil))))))))) (.br 18 (.q 19 (.br 12 (.q 13 (.q 14 (.q 21 (.q 22 (.q 23 (.nil)))))) (.one 21 (.q 12 (.q 13 (.q 14 (.q 22 (.q 23 (.nil))))))))) (.one 21 (.br 12 (.q 13 (.q 14 (.q 18 (.q 19 (.q 22 (.q 23 (.nil))))))) (.one 18 (.q 19 (.q 12 (.q 13 (.q 14 (.q 22 (.q 23 (.nil)))))))))))) (.br 12 (.q 13 (.q 14 (.br 3 (.br 18 (.q 19 (.q 21 (.q 22 (.q 23 (.nil))))) (.one 21 (.q 18 (.q 19 (.q 22 (.q 23 (.nil))))))) (.br 18 (.q 19 (.br 3 (.q 21 (.q 22 (.q 23 (.nil)))) (.one 21 (.q 3 (.q 22 (.q 23 (.nil))))))) (.one 21 (.ld 18 13107200 (.q 19 (.q 3 (.q 22 (.q 23 (.nil))))))))))) (.br 18 (.q 19 (.br 3 (.br 12 (.q 13 (.q 14 (.q 21 (.q 22 (.q 23 (.nil)))))) (.one 21 (.q 12 (.q 13 (.q 14 (.q 22 (.q 23 (.nil)))))))) (.br 12 (.q 13 (.q 14 (.br 3 (.q 21 (.q 22 (.q 23 (.nil)))) (.one 21 (.q 3 (.q 22 (.q 23 (.nil)))))))) (.one 21 (.ld 12 12607488 (.q 13 (.q 14 (.q 3 (.q 22 (.q 23 (.nil))))))))))) (.one 21 (.br 3 (.br 12 (.q 13 (.q 14 (.q 18 (.q 19 (.q 22 (.q 23 (.nil))))))) (.one 18 (.q 19 (.q 12 (.q 13 (.q 14 (.q 22 (.q 23 (.nil))))))))) (.br 12 (.q 13 (.q 14 (.ld 18 13107200 (.q 19 (.q 3 (.q 22 (.q 23 (.nil)))))))) (.one 18 (.q 19 (.ld 12 12607488 (.q 13 (.q 14 (.q 3 (.q 22 (.q 23 (.nil))))))))))))))) (.br 12 (.q 13 (.br 3 (.br 8 (.q 14 (.br 18 (.q 19 (.q 21 (.q 22 (.q 23 (.nil))))) (.one 21 (.q 18 (.q 19 (.q 22 (.q 23 (.nil)))))))) (.br 18 (.q 19 (.br 8 (.q 14 (.q 21 (.q 22 (.q 23 (.nil))))) (.one 21 (.q 8 (.q 14 (.q 22 (.q 23 (.nil)))))))) (.one 21 (.br 8 (.q 14 (.q 18 (.q 19 (.q 22 (.q 23 (.nil)))))) (.one 18 (.q 19 (.q 8 (.q 14 (.q 22 (.q 23 (.nil))))))))))) (.br 8 (.q 14 (.br 3 (.br 18 (.q 19 (.q 21 (.q 22 (.q 23 (.nil))))) (.one 21 (.q 18 (.q 19 (.q 22 (.q 23 (.nil))))))) (.br 18 (.q 19 (.br 3 (.q 21 (.q 22 (.q 23 (.nil)))) (.one 21 (.q 3 (.q 22 (.q 23 (.nil))))))) (.one 21 (.ld 18 13107200 (.q 19 (.q 3 (.q 22 (.q 23 (.nil)))))))))) (.br 18 (.q 19 (.br 3 (.br 8 (.q 14 (.q 21 (.q 22 (.q 23 (.nil))))) (.one 21 (.q 8 (.q 14 (.q 22 (.q 23 (.nil))))))) (.br 8 (.q 14 (.br 3 (.q 21 (.q 22 (.q 23 (.nil)))) (.one 21 (.q 3 (.q 22 (.q 23 (.nil))))))) (.one 21 (.ld 8 12599296 (.q 14 (.q 3 (.q 22 (.q 23 (.nil)))))))))) (.one 21 (.br 3 (.br 8 (.q 14 (.q 18 (.q 19 (.q 22 (.q 23 (.nil)))))) (.one 18 (.q 19 (.q 8 (.q 14 (.q 22 (.q 23 (.nil)))))))) (.br 8 (.q 14 (.ld 18 13107200 (.q 19 (.q 3 (.q 22 (.q 23 (.nil))))))) (.one 18 (.q 19 (.ld 8 12599296 (.q 14 (.q 3 (.q 22 (.q 23 (.nil))))))))))))))) (.br 18 (.q 19 (.br 3 (.br 8 (.br 12 (.q 13 (.q 14 (.q 21 (.q 22 (.q 23 (.nil)))))) (.one 21 (.q 12 (.q 13 (.q 14 (.q 22 (.q 23 (.nil)))))))) (.br 12 (.q 13 (.br 8 (.q 14 (.q 21 (.q 22 (.q 23 (.nil))))) (.one 21 (.q 8 (.q 14 (.q 22 (.q 23 (.nil)))))))) (.one 21 (.ld 12 12607488 (.q 13 (.q 8 (.q 14 (.q 22 (.q 23 (.nil)))))))))) (.br 8 (.br 3 (.br 12 (.q 13 (.q 14 (.q 21 (.q 22 (.q 23 (.nil)))))) (.one 21 (.q 12 (.q 13 (.q 14 (.q 22 (.q 23 (.nil)))))))) (.br 12 (.q 13 (.q 14 (.br 3 (.q 21 (.q 22 (.q 23 (.nil)))) (.one 21 (.q 3 (.q 22 (.q 23 (.nil)))))))) (.one 21 (.ld 12 12607488 (.q 13 (.q 14 (.q 3 (.q 22 (.q 23 (.nil)))))))))) (.br 12 (.q 13 (.br 3 (.br 8 (.q 14 (.q 21 (.q 22 (.q 23 (.nil))))) (.one 21 (.q 8 (.q 14 (.q 22 (.q 23 (.nil))))))) (.br 8 (.q 14 (.br 3 (.q 21 (.q 22 (.q 23 (.nil)))) (.one 21 (.q 3 (.q 22 (.q 23 (.nil))))))) (.one 21 (.ld 8 12599296 (.q 14 (.q 3 (.q 22 (.q 23 (.nil)))))))))) (.one 21 (.ld 12 12607488 (.q 13 (.ld 8 12599296 (.q 14 (.q 3 (.q 22 (.q 23 (.nil))))))))))))) (.one 21 (.br 3 (.br 8 (.br 12 (.q 13 (.q 14 (.q 18 (.q 19 (.q 22 (.q 23 (.nil))))))) (.one 18 (.q 19 (.q 12 (.q 13 (.q 14 (.q 22 (.q 23 (.nil))))))))) (.br 12 (.q 13 (.br 8 (.q 14 (.q 18 (.q 19 (.q 22 (.q 23 (.nil)))))) (.one 18 (.q 19 (.q 8 (.q 14 (.q 22 (.q 23 (.nil))))))))) (.one 18 (.q 19 (.ld 12 12607488 (.q 13 (.q 8 (.q 14 (.q 22 (.q 23 (.nil))))))))))) (.br 8 (.br 3 (.br 12 (.q 13 (.q 14 (.q 18 (.q 19 (.q 22 (.q 23 (.nil))))))) (.one 18 (.q 19 (.q 12 (.q 13 (.q 14 (.q 22 (.q 23 (.nil))))))))) (.br 12 (.q 13 (.q 14 (.ld 18 13107200 (.q 19 (.q 3 (.q 22 (.q 23 (.nil)))))))) (.one 18 (.q 19 (.ld 12 12607488 (.q 13 (.q 14 (.q 3 (.q 22 (.q 23 (.nil))))))))))) (.br 12 (.q 13 (.br 3 (.br 8 (.q 14 (.q 18 (.q 19 (.q 22 (.q 23 (.nil)))))) (.one 18 (.q 19 (.q 8 (.q 14 (.q 22 (.q 23 (.nil)))))))) (.br 8 (.q 14 (.ld 18 13107200 (.q 19 (.q 3 (.q 22 (.q 23 (.nil))))))) (.one 18 (.q 19 (.ld 8 12599296 (.q 14 (.q 3 (.q 22 (.q 23 (.nil))))))))))) (.one 18 (.q 19 (.ld 12 12607488 (.q 13 (.ld 8 12599296 (.q 14 (.q 3 (.q 22 (.q 23 (.nil))))))))))))))))))))))))))))))), []⟩, ⟨3, .q 0 (.q 1 (.q 2 (.q 3 (.q 5 (.br 4 (.q 6 (.q 7 (.q 8 (.nil)))) (.one 6 (.q 4 (.q 7 (.q 8 (.nil)))))))))), []⟩], []⟩
def spare_Bank_say.lc : List Cut := []
def spare_Bank_say.rc : List Cut := [⟨2, [0, 1, 5], []⟩]
def spare_Bank_say.J2 (b : Option Addr) (n : Int) (e : Int) (h : Heap) (Q : Value → Heap → Prop) : Prop :=
  TW Tryz.prog 116 40 [.code (cAt (bodyOf Tryz.f116) [1, 1, 0, 0]), .code (cAt (bodyOf Tryz.f116) [1, 1, 0, 1]), .code (cAt (bodyOf Tryz.f116) [1, 1, 1])] ⟨[(0, .v (.pointer b)), (1, .v (.int .u64 n)), (5, .v (.int .i64 e))], []⟩ h Q
def spare_Bank_say.wp (b : Option Addr) (n : Int) (h : Heap) (Q : Value → Heap → Prop) : Prop :=
  atBase b fun (b_1 o : Nat) =>
    atBase b fun (b_2 o_1 : Nat) =>
      atBase b fun (b_3 o_2 : Nat) =>
        atBase b fun (b_4 o_3 : Nat) =>
          (∃ (x : Option Addr),
              h.cell b_1 (o + 0) = some (Value.pointer x) ∧
                (∃ (x_1 : Int),
                    h.cell b_2 (o_1 + 1 + 0) = some (Value.int IntKind.i64 x_1) ∧
                      (∃ (x_2 : Int),
                          h.cell b_3 (o_2 + 4) = some (Value.int IntKind.i64 x_2) ∧
                            (∃ (x_3 : Int),
                                h.cell b_4 (o_3 + 4) = some (Value.int IntKind.i64 x_3) ∧
                                  C Tryz.prog 148 #[Value.int IntKind.u64 n] h fun (r : Value) (h' : Heap) =>
                                    ∃ (x_4 : Int),
                                      r = Value.int IntKind.u64 x_4 ∧
                                        C Tryz.prog 73 #[Value.pointer x, Value.int IntKind.i64 (IntKind.i64.wrap (x_1 + iquo IntKind.i64 x_2 8)), Value.int IntKind.i64 (irem x_3 8), Value.int IntKind.u64 x_4] h'
                                          fun (r : Value) (h' : Heap) => ∃ (x : Int), r = Value.int IntKind.i64 x ∧ spare_Bank_say.J2 b n x h' Q) ∧
                              C Tryz.prog 148 #[Value.int IntKind.u64 n] h fun (r : Value) (h' : Heap) =>
                                ∃ (x_3 : Int),
                                  r = Value.int IntKind.u64 x_3 ∧
                                    ∃ (x_4 : Int),
                                      h'.cell b_4 (o_3 + 4) = some (Value.int IntKind.i64 x_4) ∧
                                        C Tryz.prog 73 #[Value.pointer x, Value.int IntKind.i64 (IntKind.i64.wrap (x_1 + iquo IntKind.i64 x_2 8)), Value.int IntKind.i64 (irem x_4 8), Value.int IntKind.u64 x_3] h'
                                          fun (r : Value) (h' : Heap) => ∃ (x : Int), r = Value.int IntKind.i64 x ∧ spare_Bank_say.J2 b n x h' Q) ∧
                        (∃ (x_2 : Int),
                            h.cell b_4 (o_3 + 4) = some (Value.int IntKind.i64 x_2) ∧
                              (∃ (x_3 : Int),
                                  h.cell b_3 (o_2 + 4) = some (Value.int IntKind.i64 x_3) ∧
                                    C Tryz.prog 148 #[Value.int IntKind.u64 n] h fun (r : Value) (h' : Heap) =>
                                      ∃ (x_4 : Int),
                                        r = Value.int IntKind.u64 x_4 ∧
                                          C Tryz.prog 73 #[Value.pointer x, Value.int IntKind.i64 (IntKind.i64.wrap (x_1 + iquo IntKind.i64 x_3 8)), Value.int IntKind.i64 (irem x_2 8), Value.int IntKind.u64 x_4] h'
                                            fun (r : Value) (h' : Heap) => ∃ (x : Int), r = Value.int IntKind.i64 x ∧ spare_Bank_say.J2 b n x h' Q) ∧
                                C Tryz.prog 148 #[Value.int IntKind.u64 n] h fun (r : Value) (h' : Heap) =>
                                  ∃ (x_3 : Int),
                                    r = Value.int IntKind.u64 x_3 ∧
                                      ∃ (x_4 : Int),
                                        h'.cell b_3 (o_2 + 4) = some (Value.int IntKind.i64 x_4) ∧
                                          C Tryz.prog 73 #[Value.pointer x, Value.int IntKind.i64 (IntKind.i64.wrap (x_1 + iquo IntKind.i64 x_4 8)), Value.int IntKind.i64 (irem x_2 8), Value.int IntKind.u64 x_3] h'
                                            fun (r : Value) (h' : Heap) => ∃ (x : Int), r = Value.int IntKind.i64 x ∧ spare_Bank_say.J2 b n x h' Q) ∧
                          C Tryz.prog 148 #[Value.int IntKind.u64 n] h fun (r : Value) (h' : Heap) =>
                            ∃ (x_2 : Int),
                              r = Value.int IntKind.u64 x_2 ∧
                                (∃ (x_3 : Int),
                                    h'.cell b_3 (o_2 + 4) = some (Value.int IntKind.i64 x_3) ∧
                                      ∃ (x_4 : Int),
                                        h'.cell b_4 (o_3 + 4) = some (Value.int IntKind.i64 x_4) ∧
                                          C Tryz.prog 73 #[Value.pointer x, Value.int IntKind.i64 (IntKind.i64.wrap (x_1 + iquo IntKind.i64 x_3 8)), Value.int IntKind.i64 (irem x_4 8), Value.int IntKind.u64 x_2] h'
                                            fun (r : Value) (h' : Heap) => ∃ (x : Int), r = Value.int IntKind.i64 x ∧ spare_Bank_say.J2 b n x h' Q) ∧
                                  ∃ (x_3 : Int),
                                    h'.cell b_4 (o_3 + 4) = some (Value.int IntKind.i64 x_3) ∧
                                      ∃ (x_4 : Int),
                                        h'.cell b_3 (o_2 + 4) = some (Value.int IntKind.i64 x_4) ∧
                                          C Tryz.prog 73 #[Value.pointer x, Value.int IntKind.i64 (IntKind.i64.wrap (x_1 + iquo IntKind.i64 x_4 8)), Value.int IntKind.i64 (irem x_3 8), Value.int IntKind.u64 x_2] h'
                                            fun (r : Value) (h' : Heap) => ∃ (x : Int), r = Value.int IntKind.i64 x ∧ spare_Bank_say.J2 b n x h' Q) ∧
                  (∃ (x_1 : Int),
                      h.cell b_3 (o_2 + 4) = some (Value.int IntKind.i64 x_1) ∧
                        (∃ (x_2 : Int),
                            h.cell b_2 (o_1 + 1 + 0) = some (Value.int IntKind.i64 x_2) ∧
                              (∃ (x_3 : Int),
                                  h.cell b_4 (o_3 + 4) = some (Value.int IntKind.i64 x_3) ∧
                                    C Tryz.prog 148 #[Value.int IntKind.u64 n] h fun (r : Value) (h' : Heap) =>
                                      ∃ (x_4 : Int),
                                        r = Value.int IntKind.u64 x_4 ∧
                                          C Tryz.prog 73 #[Value.pointer x, Value.int IntKind.i64 (IntKind.i64.wrap (x_2 + iquo IntKind.i64 x_1 8)), Value.int IntKind.i64 (irem x_3 8), Value.int IntKind.u64 x_4] h'
                                            fun (r : Value) (h' : Heap) => ∃ (x : Int), r = Value.int IntKind.i64 x ∧ spare_Bank_say.J2 b n x h' Q) ∧
                                C Tryz.prog 148 #[Value.int IntKind.u64 n] h fun (r : Value) (h' : Heap) =>
                                  ∃ (x_3 : Int),
                                    r = Value.int IntKind.u64 x_3 ∧
                                      ∃ (x_4 : Int),
                                        h'.cell b_4 (o_3 + 4) = some (Value.int IntKind.i64 x_4) ∧
                                          C Tryz.prog 73 #[Value.pointer x, Value.int IntKind.i64 (IntKind.i64.wrap (x_2 + iquo IntKind.i64 x_1 8)), Value.int IntKind.i64 (irem x_4 8), Value.int IntKind.u64 x_3] h'
                                            fun (r : Value) (h' : Heap) => ∃ (x : Int), r = Value.int IntKind.i64 x ∧ spare_Bank_say.J2 b n x h' Q) ∧
                          (∃ (x_2 : Int),
                              h.cell b_4 (o_3 + 4) = some (Value.int IntKind.i64 x_2) ∧
                                (∃ (x_3 : Int),
                                    h.cell b_2 (o_1 + 1 + 0) = some (Value.int IntKind.i64 x_3) ∧
                                      C Tryz.prog 148 #[Value.int IntKind.u64 n] h fun (r : Value) (h' : Heap) =>
                                        ∃ (x_4 : Int),
                                          r = Value.int IntKind.u64 x_4 ∧
                                            C Tryz.prog 73 #[Value.pointer x, Value.int IntKind.i64 (IntKind.i64.wrap (x_3 + iquo IntKind.i64 x_1 8)), Value.int IntKind.i64 (irem x_2 8), Value.int IntKind.u64 x_4] h'
                                              fun (r : Value) (h' : Heap) => ∃ (x : Int), r = Value.int IntKind.i64 x ∧ spare_Bank_say.J2 b n x h' Q) ∧
                                  C Tryz.prog 148 #[Value.int IntKind.u64 n] h fun (r : Value) (h' : Heap) =>
                                    ∃ (x_3 : Int),
                                      r = Value.int IntKind.u64 x_3 ∧
                                        ∃ (x_4 : Int),
                                          h'.cell b_2 (o_1 + 1 + 0) = some (Value.int IntKind.i64 x_4) ∧
                                            C Tryz.prog 73 #[Value.pointer x, Value.int IntKind.i64 (IntKind.i64.wrap (x_4 + iquo IntKind.i64 x_1 8)), Value.int IntKind.i64 (irem x_2 8), Value.int IntKind.u64 x_3] h'
                                              fun (r : Value) (h' : Heap) => ∃ (x : Int), r = Value.int IntKind.i64 x ∧ spare_Bank_say.J2 b n x h' Q) ∧
                            C Tryz.prog 148 #[Value.int IntKind.u64 n] h fun (r : Value) (h' : Heap) =>
                              ∃ (x_2 : Int),
                                r = Value.int IntKind.u64 x_2 ∧
                                  (∃ (x_3 : Int),
                                      h'.cell b_2 (o_1 + 1 + 0) = some (Value.int IntKind.i64 x_3) ∧
                                        ∃ (x_4 : Int),
                                          h'.cell b_4 (o_3 + 4) = some (Value.int IntKind.i64 x_4) ∧
                                            C Tryz.prog 73 #[Value.pointer x, Value.int IntKind.i64 (IntKind.i64.wrap (x_3 + iquo IntKind.i64 x_1 8)), Value.int IntKind.i64 (irem x_4 8), Value.int IntKind.u64 x_2] h'
                                              fun (r : Value) (h' : Heap) => ∃ (x : Int), r = Value.int IntKind.i64 x ∧ spare_Bank_say.J2 b n x h' Q) ∧
                                    ∃ (x_3 : Int),
                                      h'.cell b_4 (o_3 + 4) = some (Value.int IntKind.i64 x_3) ∧
                                        ∃ (x_4 : Int),
                                          h'.cell b_2 (o_1 + 1 + 0) = some (Value.int IntKind.i64 x_4) ∧
                                            C Tryz.prog 73 #[Value.pointer x, Value.int IntKind.i64 (IntKind.i64.wrap (x_4 + iquo IntKind.i64 x_1 8)), Value.int IntKind.i64 (irem x_3 8), Value.int IntKind.u64 x_2] h'
                                              fun (r : Value) (h' : Heap) => ∃ (x : Int), r = Value.int IntKind.i64 x ∧ spare_Bank_say.J2 b n x h' Q) ∧
                    (∃ (x_1 : Int),
                        h.cell b_4 (o_3 + 4) = some (Value.int IntKind.i64 x_1) ∧
                          (∃ (x_2 : Int),
                              h.cell b_2 (o_1 + 1 + 0) = some (Value.int IntKind.i64 x_2) ∧
                                (∃ (x_3 : Int),
                                    h.cell b_3 (o_2 + 4) = some (Value.int IntKind.i64 x_3) ∧
                                      C Tryz.prog 148 #[Value.int IntKind.u64 n] h fun (r : Value) (h' : Heap) =>
                                        ∃ (x_4 : Int),
                                          r = Value.int IntKind.u64 x_4 ∧
                                            C Tryz.prog 73 #[Value.pointer x, Value.int IntKind.i64 (IntKind.i64.wrap (x_2 + iquo IntKind.i64 x_3 8)), Value.int IntKind.i64 (irem x_1 8), Value.int IntKind.u64 x_4] h'
                                              fun (r : Value) (h' : Heap) => ∃ (x : Int), r = Value.int IntKind.i64 x ∧ spare_Bank_say.J2 b n x h' Q) ∧
                                  C Tryz.prog 148 #[Value.int IntKind.u64 n] h fun (r : Value) (h' : Heap) =>
                                    ∃ (x_3 : Int),
                                      r = Value.int IntKind.u64 x_3 ∧
                                        ∃ (x_4 : Int),
                                          h'.cell b_3 (o_2 + 4) = some (Value.int IntKind.i64 x_4) ∧
                                            C Tryz.prog 73 #[Value.pointer x, Value.int IntKind.i64 (IntKind.i64.wrap (x_2 + iquo IntKind.i64 x_4 8)), Value.int IntKind.i64 (irem x_1 8), Value.int IntKind.u64 x_3] h'
                                              fun (r : Value) (h' : Heap) => ∃ (x : Int), r = Value.int IntKind.i64 x ∧ spare_Bank_say.J2 b n x h' Q) ∧
                            (∃ (x_2 : Int),
                                h.cell b_3 (o_2 + 4) = some (Value.int IntKind.i64 x_2) ∧
                                  (∃ (x_3 : Int),
                                      h.cell b_2 (o_1 + 1 + 0) = some (Value.int IntKind.i64 x_3) ∧
                                        C Tryz.prog 148 #[Value.int IntKind.u64 n] h fun (r : Value) (h' : Heap) =>
                                          ∃ (x_4 : Int),
                                            r = Value.int IntKind.u64 x_4 ∧
                                              C Tryz.prog 73 #[Value.pointer x, Value.int IntKind.i64 (IntKind.i64.wrap (x_3 + iquo IntKind.i64 x_2 8)), Value.int IntKind.i64 (irem x_1 8), Value.int IntKind.u64 x_4] h'
                                                fun (r : Value) (h' : Heap) => ∃ (x : Int), r = Value.int IntKind.i64 x ∧ spare_Bank_say.J2 b n x h' Q) ∧
                                    C Tryz.prog 148 #[Value.int IntKind.u64 n] h fun (r : Value) (h' : Heap) =>
                                      ∃ (x_3 : Int),
                                        r = Value.int IntKind.u64 x_3 ∧
                                          ∃ (x_4 : Int),
                                            h'.cell b_2 (o_1 + 1 + 0) = some (Value.int IntKind.i64 x_4) ∧
                                              C Tryz.prog 73 #[Value.pointer x, Value.int IntKind.i64 (IntKind.i64.wrap (x_4 + iquo IntKind.i64 x_2 8)), Value.int IntKind.i64 (irem x_1 8), Value.int IntKind.u64 x_3] h'
                                                fun (r : Value) (h' : Heap) => ∃ (x : Int), r = Value.int IntKind.i64 x ∧ spare_Bank_say.J2 b n x h' Q) ∧
                              C Tryz.prog 148 #[Value.int IntKind.u64 n] h fun (r : Value) (h' : Heap) =>
                                ∃ (x_2 : Int),
                                  r = Value.int IntKind.u64 x_2 ∧
                                    ∃ (x_3 : Int),
                                      h'.cell b_3 (o_2 + 4) = some (Value.int IntKind.i64 x_3) ∧
                                        ∃ (x_4 : Int),
                                          h'.cell b_2 (o_1 + 1 + 0) = some (Value.int IntKind.i64 x_4) ∧
                                            C Tryz.prog 73 #[Value.pointer x, Value.int IntKind.i64 (IntKind.i64.wrap (x_4 + iquo IntKind.i64 x_3 8)), Value.int IntKind.i64 (irem x_1 8), Value.int IntKind.u64 x_2] h'
                                              fun (r : Value) (h' : Heap) => ∃ (x : Int), r = Value.int IntKind.i64 x ∧ spare_Bank_say.J2 b n x h' Q) ∧
                      C Tryz.prog 148 #[Value.int IntKind.u64 n] h fun (r : Value) (h' : Heap) =>
                        ∃ (x_1 : Int),
                          r = Value.int IntKind.u64 x_1 ∧
                            (∃ (x_2 : Int),
                                h'.cell b_2 (o_1 + 1 + 0) = some (Value.int IntKind.i64 x_2) ∧
                                  (∃ (x_3 : Int),
                                      h'.cell b_3 (o_2 + 4) = some (Value.int IntKind.i64 x_3) ∧
                                        ∃ (x_4 : Int),
                                          h'.cell b_4 (o_3 + 4) = some (Value.int IntKind.i64 x_4) ∧
                                            C Tryz.prog 73 #[Value.pointer x, Value.int IntKind.i64 (IntKind.i64.wrap (x_2 + iquo IntKind.i64 x_3 8)), Value.int IntKind.i64 (irem x_4 8), Value.int IntKind.u64 x_1] h'
                                              fun (r : Value) (h' : Heap) => ∃ (x : Int), r = Value.int IntKind.i64 x ∧ spare_Bank_say.J2 b n x h' Q) ∧
                                    ∃ (x_3 : Int),
                                      h'.cell b_4 (o_3 + 4) = some (Value.int IntKind.i64 x_3) ∧
                                        ∃ (x_4 : Int),
                                          h'.cell b_3 (o_2 + 4) = some (Value.int IntKind.i64 x_4) ∧
                                            C Tryz.prog 73 #[Value.pointer x, Value.int IntKind.i64 (IntKind.i64.wrap (x_2 + iquo IntKind.i64 x_4 8)), Value.int IntKind.i64 (irem x_3 8), Value.int IntKind.u64 x_1] h'
                                              fun (r : Value) (h' : Heap) => ∃ (x : Int), r = Value.int IntKind.i64 x ∧ spare_Bank_say.J2 b n x h' Q) ∧
                              (∃ (x_2 : Int),
                                  h'.cell b_3 (o_2 + 4) = some (Value.int IntKind.i64 x_2) ∧
                                    (∃ (x_3 : Int),
                                        h'.cell b_2 (o_1 + 1 + 0) = some (Value.int IntKind.i64 x_3) ∧
                                          ∃ (x_4 : Int),
                                            h'.cell b_4 (o_3 + 4) = some (Value.int IntKind.i64 x_4) ∧
                                              C Tryz.prog 73 #[Value.pointer x, Value.int IntKind.i64 (IntKind.i64.wrap (x_3 + iquo IntKind.i64 x_2 8)), Value.int IntKind.i64 (irem x_4 8), Value.int IntKind.u64 x_1] h'
                                                fun (r : Value) (h' : Heap) => ∃ (x : Int), r = Value.int IntKind.i64 x ∧ spare_Bank_say.J2 b n x h' Q) ∧
                                      ∃ (x_3 : Int),
                                        h'.cell b_4 (o_3 + 4) = some (Value.int IntKind.i64 x_3) ∧
                                          ∃ (x_4 : Int),
                                            h'.cell b_2 (o_1 + 1 + 0) = some (Value.int IntKind.i64 x_4) ∧
                                              C Tryz.prog 73 #[Value.pointer x, Value.int IntKind.i64 (IntKind.i64.wrap (x_4 + iquo IntKind.i64 x_2 8)), Value.int IntKind.i64 (irem x_3 8), Value.int IntKind.u64 x_1] h'
                                                fun (r : Value) (h' : Heap) => ∃ (x : Int), r = Value.int IntKind.i64 x ∧ spare_Bank_say.J2 b n x h' Q) ∧
                                ∃ (x_2 : Int),
                                  h'.cell b_4 (o_3 + 4) = some (Value.int IntKind.i64 x_2) ∧
                                    ∃ (x_3 : Int),
                                      h'.cell b_3 (o_2 + 4) = some (Value.int IntKind.i64 x_3) ∧
                                        ∃ (x_4 : Int),
                                          h'.cell b_2 (o_1 + 1 + 0) = some (Value.int IntKind.i64 x_4) ∧
                                            C Tryz.prog 73 #[Value.pointer x, Value.int IntKind.i64 (IntKind.i64.wrap (x_4 + iquo IntKind.i64 x_3 8)), Value.int IntKind.i64 (irem x_2 8), Value.int IntKind.u64 x_1] h'
                                              fun (r : Value) (h' : Heap) => ∃ (x : Int), r = Value.int IntKind.i64 x ∧ spare_Bank_say.J2 b n x h' Q) ∧
            (∃ (x : Int),
                h.cell b_2 (o_1 + 1 + 0) = some (Value.int IntKind.i64 x) ∧
                  (∃ (x_1 : Option Addr),
                      h.cell b_1 (o + 0) = some (Value.pointer x_1) ∧
                        (∃ (x_2 : Int),
                            h.cell b_3 (o_2 + 4) = some (Value.int IntKind.i64 x_2) ∧
                              (∃ (x_3 : Int),
                                  h.cell b_4 (o_3 + 4) = some (Value.int IntKind.i64 x_3) ∧
                                    C Tryz.prog 148 #[Value.int IntKind.u64 n] h fun (r : Value) (h' : Heap) =>
                                      ∃ (x_4 : Int),
                                        r = Value.int IntKind.u64 x_4 ∧
                                          C Tryz.prog 73 #[Value.pointer x_1, Value.int IntKind.i64 (IntKind.i64.wrap (x + iquo IntKind.i64 x_2 8)), Value.int IntKind.i64 (irem x_3 8), Value.int IntKind.u64 x_4] h'
                                            fun (r : Value) (h' : Heap) => ∃ (x : Int), r = Value.int IntKind.i64 x ∧ spare_Bank_say.J2 b n x h' Q) ∧
                                C Tryz.prog 148 #[Value.int IntKind.u64 n] h fun (r : Value) (h' : Heap) =>
                                  ∃ (x_3 : Int),
                                    r = Value.int IntKind.u64 x_3 ∧
                                      ∃ (x_4 : Int),
                                        h'.cell b_4 (o_3 + 4) = some (Value.int IntKind.i64 x_4) ∧
                                          C Tryz.prog 73 #[Value.pointer x_1, Value.int IntKind.i64 (IntKind.i64.wrap (x + iquo IntKind.i64 x_2 8)), Value.int IntKind.i64 (irem x_4 8), Value.int IntKind.u64 x_3] h'
                                            fun (r : Value) (h' : Heap) => ∃ (x : Int), r = Value.int IntKind.i64 x ∧ spare_Bank_say.J2 b n x h' Q) ∧
                          (∃ (x_2 : Int),
                              h.cell b_4 (o_3 + 4) = some (Value.int IntKind.i64 x_2) ∧
                                (∃ (x_3 : Int),
                                    h.cell b_3 (o_2 + 4) = some (Value.int IntKind.i64 x_3) ∧
                                      C Tryz.prog 148 #[Value.int IntKind.u64 n] h fun (r : Value) (h' : Heap) =>
                                        ∃ (x_4 : Int),
                                          r = Value.int IntKind.u64 x_4 ∧
                                            C Tryz.prog 73 #[Value.pointer x_1, Value.int IntKind.i64 (IntKind.i64.wrap (x + iquo IntKind.i64 x_3 8)), Value.int IntKind.i64 (irem x_2 8), Value.int IntKind.u64 x_4] h'
                                              fun (r : Value) (h' : Heap) => ∃ (x : Int), r = Value.int IntKind.i64 x ∧ spare_Bank_say.J2 b n x h' Q) ∧
                                  C Tryz.prog 148 #[Value.int IntKind.u64 n] h fun (r : Value) (h' : Heap) =>
                                    ∃ (x_3 : Int),
                                      r = Value.int IntKind.u64 x_3 ∧
                                        ∃ (x_4 : Int),
                                          h'.cell b_3 (o_2 + 4) = some (Value.int IntKind.i64 x_4) ∧
                                            C Tryz.prog 73 #[Value.pointer x_1, Value.int IntKind.i64 (IntKind.i64.wrap (x + iquo IntKind.i64 x_4 8)), Value.int IntKind.i64 (irem x_2 8), Value.int IntKind.u64 x_3] h'
                                              fun (r : Value) (h' : Heap) => ∃ (x : Int), r = Value.int IntKind.i64 x ∧ spare_Bank_say.J2 b n x h' Q) ∧
                            C Tryz.prog 148 #[Value.int IntKind.u64 n] h fun (r : Value) (h' : Heap) =>
                              ∃ (x_2 : Int),
                                r = Value.int IntKind.u64 x_2 ∧
                                  (∃ (x_3 : Int),
                                      h'.cell b_3 (o_2 + 4) = some (Value.int IntKind.i64 x_3) ∧
                                        ∃ (x_4 : Int),
                                          h'.cell b_4 (o_3 + 4) = some (Value.int IntKind.i64 x_4) ∧
                                            C Tryz.prog 73 #[Value.pointer x_1, Value.int IntKind.i64 (IntKind.i64.wrap (x + iquo IntKind.i64 x_3 8)), Value.int IntKind.i64 (irem x_4 8), Value.int IntKind.u64 x_2] h'
                                              fun (r : Value) (h' : Heap) => ∃ (x : Int), r = Value.int IntKind.i64 x ∧ spare_Bank_say.J2 b n x h' Q) ∧
                                    ∃ (x_3 : Int),
                                      h'.cell b_4 (o_3 + 4) = some (Value.int IntKind.i64 x_3) ∧
                                        ∃ (x_4 : Int),
                                          h'.cell b_3 (o_2 + 4) = some (Value.int IntKind.i64 x_4) ∧
                                            C Tryz.prog 73 #[Value.pointer x_1, Value.int IntKind.i64 (IntKind.i64.wrap (x + iquo IntKind.i64 x_4 8)), Value.int IntKind.i64 (irem x_3 8), Value.int IntKind.u64 x_2] h'
                                              fun (r : Value) (h' : Heap) => ∃ (x : Int), r = Value.int IntKind.i64 x ∧ spare_Bank_say.J2 b n x h' Q) ∧
                    (∃ (x_1 : Int),
                        h.cell b_3 (o_2 + 4) = some (Value.int IntKind.i64 x_1) ∧
                          (∃ (x_2 : Option Addr),
                              h.cell b_1 (o + 0) = some (Value.pointer x_2) ∧
                                (∃ (x_3 : Int),
                                    h.cell b_4 (o_3 + 4) = some (Value.int IntKind.i64 x_3) ∧
                                      C Tryz.prog 148 #[Value.int IntKind.u64 n] h fun (r : Value) (h' : Heap) =>
                                        ∃ (x_4 : Int),
                                          r = Value.int IntKind.u64 x_4 ∧
                                            C Tryz.prog 73 #[Value.pointer x_2, Value.int IntKind.i64 (IntKind.i64.wrap (x + iquo IntKind.i64 x_1 8)), Value.int IntKind.i64 (irem x_3 8), Value.int IntKind.u64 x_4] h'
                                              fun (r : Value) (h' : Heap) => ∃ (x : Int), r = Value.int IntKind.i64 x ∧ spare_Bank_say.J2 b n x h' Q) ∧
                                  C Tryz.prog 148 #[Value.int IntKind.u64 n] h fun (r : Value) (h' : Heap) =>
                                    ∃ (x_3 : Int),
                                      r = Value.int IntKind.u64 x_3 ∧
                                        ∃ (x_4 : Int),
                                          h'.cell b_4 (o_3 + 4) = some (Value.int IntKind.i64 x_4) ∧
                                            C Tryz.prog 73 #[Value.pointer x_2, Value.int IntKind.i64 (IntKind.i64.wrap (x + iquo IntKind.i64 x_1 8)), Value.int IntKind.i64 (irem x_4 8), Value.int IntKind.u64 x_3] h'
                                              fun (r : Value) (h' : Heap) => ∃ (x : Int), r = Value.int IntKind.i64 x ∧ spare_Bank_say.J2 b n x h' Q) ∧
                            (∃ (x_2 : Int),
                                h.cell b_4 (o_3 + 4) = some (Value.int IntKind.i64 x_2) ∧
                                  (∃ (x_3 : Option Addr),
                                      h.cell b_1 (o + 0) = some (Value.pointer x_3) ∧
                                        C Tryz.prog 148 #[Value.int IntKind.u64 n] h fun (r : Value) (h' : Heap) =>
                                          ∃ (x_4 : Int),
                                            r = Value.int IntKind.u64 x_4 ∧
                                              C Tryz.prog 73 #[Value.pointer x_3, Value.int IntKind.i64 (IntKind.i64.wrap (x + iquo IntKind.i64 x_1 8)), Value.int IntKind.i64 (irem x_2 8), Value.int IntKind.u64 x_4] h'
                                                fun (r : Value) (h' : Heap) => ∃ (x : Int), r = Value.int IntKind.i64 x ∧ spare_Bank_say.J2 b n x h' Q) ∧
                                    C Tryz.prog 148 #[Value.int IntKind.u64 n] h fun (r : Value) (h' : Heap) =>
                                      ∃ (x_3 : Int),
                                        r = Value.int IntKind.u64 x_3 ∧
                                          ∃ (x_4 : Option Addr),
                                            h'.cell b_1 (o + 0) = some (Value.pointer x_4) ∧
                                              C Tryz.prog 73 #[Value.pointer x_4, Value.int IntKind.i64 (IntKind.i64.wrap (x + iquo IntKind.i64 x_1 8)), Value.int IntKind.i64 (irem x_2 8), Value.int IntKind.u64 x_3] h'
                                                fun (r : Value) (h' : Heap) => ∃ (x : Int), r = Value.int IntKind.i64 x ∧ spare_Bank_say.J2 b n x h' Q) ∧
                              C Tryz.prog 148 #[Value.int IntKind.u64 n] h fun (r : Value) (h' : Heap) =>
                                ∃ (x_2 : Int),
                                  r = Value.int IntKind.u64 x_2 ∧
                                    ∃ (x_3 : Int),
                                      h'.cell b_4 (o_3 + 4) = some (Value.int IntKind.i64 x_3) ∧
                                        ∃ (x_4 : Option Addr),
                                          h'.cell b_1 (o + 0) = some (Value.pointer x_4) ∧
                                            C Tryz.prog 73 #[Value.pointer x_4, Value.int IntKind.i64 (IntKind.i64.wrap (x + iquo IntKind.i64 x_1 8)), Value.int IntKind.i64 (irem x_3 8), Value.int IntKind.u64 x_2] h'
                                              fun (r : Value) (h' : Heap) => ∃ (x : Int), r = Value.int IntKind.i64 x ∧ spare_Bank_say.J2 b n x h' Q) ∧
                      (∃ (x_1 : Int),
                          h.cell b_4 (o_3 + 4) = some (Value.int IntKind.i64 x_1) ∧
                            (∃ (x_2 : Option Addr),
                                h.cell b_1 (o + 0) = some (Value.pointer x_2) ∧
                                  (∃ (x_3 : Int),
                                      h.cell b_3 (o_2 + 4) = some (Value.int IntKind.i64 x_3) ∧
                                        C Tryz.prog 148 #[Value.int IntKind.u64 n] h fun (r : Value) (h' : Heap) =>
                                          ∃ (x_4 : Int),
                                            r = Value.int IntKind.u64 x_4 ∧
                                              C Tryz.prog 73 #[Value.pointer x_2, Value.int IntKind.i64 (IntKind.i64.wrap (x + iquo IntKind.i64 x_3 8)), Value.int IntKind.i64 (irem x_1 8), Value.int IntKind.u64 x_4] h'
                                                fun (r : Value) (h' : Heap) => ∃ (x : Int), r = Value.int IntKind.i64 x ∧ spare_Bank_say.J2 b n x h' Q) ∧
                                    C Tryz.prog 148 #[Value.int IntKind.u64 n] h fun (r : Value) (h' : Heap) =>
                                      ∃ (x_3 : Int),
                                        r = Value.int IntKind.u64 x_3 ∧
                                          ∃ (x_4 : Int),
                                            h'.cell b_3 (o_2 + 4) = some (Value.int IntKind.i64 x_4) ∧
                                              C Tryz.prog 73 #[Value.pointer x_2, Value.int IntKind.i64 (IntKind.i64.wrap (x + iquo IntKind.i64 x_4 8)), Value.int IntKind.i64 (irem x_1 8), Value.int IntKind.u64 x_3] h'
                                                fun (r : Value) (h' : Heap) => ∃ (x : Int), r = Value.int IntKind.i64 x ∧ spare_Bank_say.J2 b n x h' Q) ∧
                              (∃ (x_2 : Int),
                                  h.cell b_3 (o_2 + 4) = some (Value.int IntKind.i64 x_2) ∧
                                    (∃ (x_3 : Option Addr),
                                        h.cell b_1 (o + 0) = some (Value.pointer x_3) ∧
                                          C Tryz.prog 148 #[Value.int IntKind.u64 n] h fun (r : Value) (h' : Heap) =>
                                            ∃ (x_4 : Int),
                                              r = Value.int IntKind.u64 x_4 ∧
                                                C Tryz.prog 73 #[Value.pointer x_3, Value.int IntKind.i64 (IntKind.i64.wrap (x + iquo IntKind.i64 x_2 8)), Value.int IntKind.i64 (irem x_1 8), Value.int IntKind.u64 x_4] h'
                                                  fun (r : Value) (h' : Heap) => ∃ (x : Int), r = Value.int IntKind.i64 x ∧ spare_Bank_say.J2 b n x h' Q) ∧
                                      C Tryz.prog 148 #[Value.int IntKind.u64 n] h fun (r : Value) (h' : Heap) =>
                                        ∃ (x_3 : Int),
                                          r = Value.int IntKind.u64 x_3 ∧
                                            ∃ (x_4 : Option Addr),
                                              h'.cell b_1 (o + 0) = some (Value.pointer x_4) ∧
                                                C Tryz.prog 73 #[Value.pointer x_4, Value.int IntKind.i64 (IntKind.i64.wrap (x + iquo IntKind.i64 x_2 8)), Value.int IntKind.i64 (irem x_1 8), Value.int IntKind.u64 x_3] h'
                                                  fun (r : Value) (h' : Heap) => ∃ (x : Int), r = Value.int IntKind.i64 x ∧ spare_Bank_say.J2 b n x h' Q) ∧
                                C Tryz.prog 148 #[Value.int IntKind.u64 n] h fun (r : Value) (h' : Heap) =>
                                  ∃ (x_2 : Int),
                                    r = Value.int IntKind.u64 x_2 ∧
                                      ∃ (x_3 : Int),
                                        h'.cell b_3 (o_2 + 4) = some (Value.int IntKind.i64 x_3) ∧
                                          ∃ (x_4 : Option Addr),
                                            h'.cell b_1 (o + 0) = some (Value.pointer x_4) ∧
                                              C Tryz.prog 73 #[Value.pointer x_4, Value.int IntKind.i64 (IntKind.i64.wrap (x + iquo IntKind.i64 x_3 8)), Value.int IntKind.i64 (irem x_1 8), Value.int IntKind.u64 x_2] h'
                                                fun (r : Value) (h' : Heap) => ∃ (x : Int), r = Value.int IntKind.i64 x ∧ spare_Bank_say.J2 b n x h' Q) ∧
                        C Tryz.prog 148 #[Value.int IntKind.u64 n] h fun (r : Value) (h' : Heap) =>
                          ∃ (x_1 : Int),
                            r = Value.int IntKind.u64 x_1 ∧
                              (∃ (x_2 : Option Addr),
                                  h'.cell b_1 (o + 0) = some (Value.pointer x_2) ∧
                                    (∃ (x_3 : Int),
                                        h'.cell b_3 (o_2 + 4) = some (Value.int IntKind.i64 x_3) ∧
                                          ∃ (x_4 : Int),
                                            h'.cell b_4 (o_3 + 4) = some (Value.int IntKind.i64 x_4) ∧
                                              C Tryz.prog 73 #[Value.pointer x_2, Value.int IntKind.i64 (IntKind.i64.wrap (x + iquo IntKind.i64 x_3 8)), Value.int IntKind.i64 (irem x_4 8), Value.int IntKind.u64 x_1] h'
                                                fun (r : Value) (h' : Heap) => ∃ (x : Int), r = Value.int IntKind.i64 x ∧ spare_Bank_say.J2 b n x h' Q) ∧
                                      ∃ (x_3 : Int),
                                        h'.cell b_4 (o_3 + 4) = some (Value.int IntKind.i64 x_3) ∧
                                          ∃ (x_4 : Int),
                                            h'.cell b_3 (o_2 + 4) = some (Value.int IntKind.i64 x_4) ∧
                                              C Tryz.prog 73 #[Value.pointer x_2, Value.int IntKind.i64 (IntKind.i64.wrap (x + iquo IntKind.i64 x_4 8)), Value.int IntKind.i64 (irem x_3 8), Value.int IntKind.u64 x_1] h'
                                                fun (r : Value) (h' : Heap) => ∃ (x : Int), r = Value.int IntKind.i64 x ∧ spare_Bank_say.J2 b n x h' Q) ∧
                                (∃ (x_2 : Int),
                                    h'.cell b_3 (o_2 + 4) = some (Value.int IntKind.i64 x_2) ∧
                                      ∃ (x_3 : Int),
                                        h'.cell b_4 (o_3 + 4) = some (Value.int IntKind.i64 x_3) ∧
                                          ∃ (x_4 : Option Addr),
                                            h'.cell b_1 (o + 0) = some (Value.pointer x_4) ∧
                                              C Tryz.prog 73 #[Value.pointer x_4, Value.int IntKind.i64 (IntKind.i64.wrap (x + iquo IntKind.i64 x_2 8)), Value.int IntKind.i64 (irem x_3 8), Value.int IntKind.u64 x_1] h'
                                                fun (r : Value) (h' : Heap) => ∃ (x : Int), r = Value.int IntKind.i64 x ∧ spare_Bank_say.J2 b n x h' Q) ∧
                                  ∃ (x_2 : Int),
                                    h'.cell b_4 (o_3 + 4) = some (Value.int IntKind.i64 x_2) ∧
                                      ∃ (x_3 : Int),
                                        h'.cell b_3 (o_2 + 4) = some (Value.int IntKind.i64 x_3) ∧
                                          ∃ (x_4 : Option Addr),
                                            h'.cell b_1 (o + 0) = some (Value.pointer x_4) ∧
                                              C Tryz.prog 73 #[Value.pointer x_4, Value.int IntKind.i64 (IntKind.i64.wrap (x + iquo IntKind.i64 x_3 8)), Value.int IntKind.i64 (irem x_2 8), Value.int IntKind.u64 x_1] h'
                                                fun (r : Value) (h' : Heap) => ∃ (x : Int), r = Value.int IntKind.i64 x ∧ spare_Bank_say.J2 b n x h' Q) ∧
              (∃ (x : Int),
                  h.cell b_3 (o_2 + 4) = some (Value.int IntKind.i64 x) ∧
                    (∃ (x_1 : Option Addr),
                        h.cell b_1 (o + 0) = some (Value.pointer x_1) ∧
                          (∃ (x_2 : Int),
                              h.cell b_2 (o_1 + 1 + 0) = some (Value.int IntKind.i64 x_2) ∧
                                (∃ (x_3 : Int),
                                    h.cell b_4 (o_3 + 4) = some (Value.int IntKind.i64 x_3) ∧
                                      C Tryz.prog 148 #[Value.int IntKind.u64 n] h fun (r : Value) (h' : Heap) =>
                                        ∃ (x_4 : Int),
                                          r = Value.int IntKind.u64 x_4 ∧
                                            C Tryz.prog 73 #[Value.pointer x_1, Value.int IntKind.i64 (IntKind.i64.wrap (x_2 + iquo IntKind.i64 x 8)), Value.int IntKind.i64 (irem x_3 8), Value.int IntKind.u64 x_4] h'
                                              fun (r : Value) (h' : Heap) => ∃ (x : Int), r = Value.int IntKind.i64 x ∧ spare_Bank_say.J2 b n x h' Q) ∧
                                  C Tryz.prog 148 #[Value.int IntKind.u64 n] h fun (r : Value) (h' : Heap) =>
                                    ∃ (x_3 : Int),
                                      r = Value.int IntKind.u64 x_3 ∧
                                        ∃ (x_4 : Int),
                                          h'.cell b_4 (o_3 + 4) = some (Value.int IntKind.i64 x_4) ∧
                                            C Tryz.prog 73 #[Value.pointer x_1, Value.int IntKind.i64 (IntKind.i64.wrap (x_2 + iquo IntKind.i64 x 8)), Value.int IntKind.i64 (irem x_4 8), Value.int IntKind.u64 x_3] h'
                                              fun (r : Value) (h' : Heap) => ∃ (x : Int), r = Value.int IntKind.i64 x ∧ spare_Bank_say.J2 b n x h' Q) ∧
                            (∃ (x_2 : Int),
                                h.cell b_4 (o_3 + 4) = some (Value.int IntKind.i64 x_2) ∧
                                  (∃ (x_3 : Int),
                                      h.cell b_2 (o_1 + 1 + 0) = some (Value.int IntKind.i64 x_3) ∧
                                        C Tryz.prog 148 #[Value.int IntKind.u64 n] h fun (r : Value) (h' : Heap) =>
                                          ∃ (x_4 : Int),
                                            r = Value.int IntKind.u64 x_4 ∧
                                              C Tryz.prog 73 #[Value.pointer x_1, Value.int IntKind.i64 (IntKind.i64.wrap (x_3 + iquo IntKind.i64 x 8)), Value.int IntKind.i64 (irem x_2 8), Value.int IntKind.u64 x_4] h'
                                                fun (r : Value) (h' : Heap) => ∃ (x : Int), r = Value.int IntKind.i64 x ∧ spare_Bank_say.J2 b n x h' Q) ∧
                                    C Tryz.prog 148 #[Value.int IntKind.u64 n] h fun (r : Value) (h' : Heap) =>
                                      ∃ (x_3 : Int),
                                        r = Value.int IntKind.u64 x_3 ∧
                                          ∃ (x_4 : Int),
                                            h'.cell b_2 (o_1 + 1 + 0) = some (Value.int IntKind.i64 x_4) ∧
                                              C Tryz.prog 73 #[Value.pointer x_1, Value.int IntKind.i64 (IntKind.i64.wrap (x_4 + iquo IntKind.i64 x 8)), Value.int IntKind.i64 (irem x_2 8), Value.int IntKind.u64 x_3] h'
                                                fun (r : Value) (h' : Heap) => ∃ (x : Int), r = Value.int IntKind.i64 x ∧ spare_Bank_say.J2 b n x h' Q) ∧
                              C Tryz.prog 148 #[Value.int IntKind.u64 n] h fun (r : Value) (h' : Heap) =>
                                ∃ (x_2 : Int),
                                  r = Value.int IntKind.u64 x_2 ∧
                                    (∃ (x_3 : Int),
                                        h'.cell b_2 (o_1 + 1 + 0) = some (Value.int IntKind.i64 x_3) ∧
                                          ∃ (x_4 : Int),
                                            h'.cell b_4 (o_3 + 4) = some (Value.int IntKind.i64 x_4) ∧
                                              C Tryz.prog 73 #[Value.pointer x_1, Value.int IntKind.i64 (IntKind.i64.wrap (x_3 + iquo IntKind.i64 x 8)), Value.int IntKind.i64 (irem x_4 8), Value.int IntKind.u64 x_2] h'
                                                fun (r : Value) (h' : Heap) => ∃ (x : Int), r = Value.int IntKind.i64 x ∧ spare_Bank_say.J2 b n x h' Q) ∧
                                      ∃ (x_3 : Int),
                                        h'.cell b_4 (o_3 + 4) = some (Value.int IntKind.i64 x_3) ∧
                                          ∃ (x_4 : Int),
                                            h'.cell b_2 (o_1 + 1 + 0) = some (Value.int IntKind.i64 x_4) ∧
                                              C Tryz.prog 73 #[Value.pointer x_1, Value.int IntKind.i64 (IntKind.i64.wrap (x_4 + iquo IntKind.i64 x 8)), Value.int IntKind.i64 (irem x_3 8), Value.int IntKind.u64 x_2] h'
                                                fun (r : Value) (h' : Heap) => ∃ (x : Int), r = Value.int IntKind.i64 x ∧ spare_Bank_say.J2 b n x h' Q) ∧
                      (∃ (x_1 : Int),
                          h.cell b_2 (o_1 + 1 + 0) = some (Value.int IntKind.i64 x_1) ∧
                            (∃ (x_2 : Option Addr),
                                h.cell b_1 (o + 0) = some (Value.pointer x_2) ∧
                                  (∃ (x_3 : Int),
                                      h.cell b_4 (o_3 + 4) = some (Value.int IntKind.i64 x_3) ∧
                                        C Tryz.prog 148 #[Value.int IntKind.u64 n] h fun (r : Value) (h' : Heap) =>
                                          ∃ (x_4 : Int),
                                            r = Value.int IntKind.u64 x_4 ∧
                                              C Tryz.prog 73 #[Value.pointer x_2, Value.int IntKind.i64 (IntKind.i64.wrap (x_1 + iquo IntKind.i64 x 8)), Value.int IntKind.i64 (irem x_3 8), Value.int IntKind.u64 x_4] h'
                                                fun (r : Value) (h' : Heap) => ∃ (x : Int), r = Value.int IntKind.i64 x ∧ spare_Bank_say.J2 b n x h' Q) ∧
                                    C Tryz.prog 148 #[Value.int IntKind.u64 n] h fun (r : Value) (h' : Heap) =>
                                      ∃ (x_3 : Int),
                                        r = Value.int IntKind.u64 x_3 ∧
                                          ∃ (x_4 : Int),
                                            h'.cell b_4 (o_3 + 4) = some (Value.int IntKind.i64 x_4) ∧
                                              C Tryz.prog 73 #[Value.pointer x_2, Value.int IntKind.i64 (IntKind.i64.wrap (x_1 + iquo IntKind.i64 x 8)), Value.int IntKind.i64 (irem x_4 8), Value.int IntKind.u64 x_3] h'
                                                fun (r : Value) (h' : Heap) => ∃ (x : Int), r = Value.int IntKind.i64 x ∧ spare_Bank_say.J2 b n x h' Q) ∧
                              (∃ (x_2 : Int),
                                  h.cell b_4 (o_3 + 4) = some (Value.int IntKind.i64 x_2) ∧
                                    (∃ (x_3 : Option Addr),
                                        h.cell b_1 (o + 0) = some (Value.pointer x_3) ∧
                                          C Tryz.prog 148 #[Value.int IntKind.u64 n] h fun (r : Value) (h' : Heap) =>
                                            ∃ (x_4 : Int),
                                              r = Value.int IntKind.u64 x_4 ∧
                                                C Tryz.prog 73 #[Value.pointer x_3, Value.int IntKind.i64 (IntKind.i64.wrap (x_1 + iquo IntKind.i64 x 8)), Value.int IntKind.i64 (irem x_2 8), Value.int IntKind.u64 x_4] h'
                                                  fun (r : Value) (h' : Heap) => ∃ (x : Int), r = Value.int IntKind.i64 x ∧ spare_Bank_say.J2 b n x h' Q) ∧
                                      C Tryz.prog 148 #[Value.int IntKind.u64 n] h fun (r : Value) (h' : Heap) =>
                                        ∃ (x_3 : Int),
                                          r = Value.int IntKind.u64 x_3 ∧
                                            ∃ (x_4 : Option Addr),
                                              h'.cell b_1 (o + 0) = some (Value.pointer x_4) ∧
                                                C Tryz.prog 73 #[Value.pointer x_4, Value.int IntKind.i64 (IntKind.i64.wrap (x_1 + iquo IntKind.i64 x 8)), Value.int IntKind.i64 (irem x_2 8), Value.int IntKind.u64 x_3] h'
                                                  fun (r : Value) (h' : Heap) => ∃ (x : Int), r = Value.int IntKind.i64 x ∧ spare_Bank_say.J2 b n x h' Q) ∧
                                C Tryz.prog 148 #[Value.int IntKind.u64 n] h fun (r : Value) (h' : Heap) =>
                                  ∃ (x_2 : Int),
                                    r = Value.int IntKind.u64 x_2 ∧
                                      ∃ (x_3 : Int),
                                        h'.cell b_4 (o_3 + 4) = some (Value.int IntKind.i64 x_3) ∧
                                          ∃ (x_4 : Option Addr),
                                            h'.cell b_1 (o + 0) = some (Value.pointer x_4) ∧
                                              C Tryz.prog 73 #[Value.pointer x_4, Value.int IntKind.i64 (IntKind.i64.wrap (x_1 + iquo IntKind.i64 x 8)), Value.int IntKind.i64 (irem x_3 8), Value.int IntKind.u64 x_2] h'
                                                fun (r : Value) (h' : Heap) => ∃ (x : Int), r = Value.int IntKind.i64 x ∧ spare_Bank_say.J2 b n x h' Q) ∧
                        (∃ (x_1 : Int),
                            h.cell b_4 (o_3 + 4) = some (Value.int IntKind.i64 x_1) ∧
                              (∃ (x_2 : Option Addr),
                                  h.cell b_1 (o + 0) = some (Value.pointer x_2) ∧
                                    (∃ (x_3 : Int),
                                        h.cell b_2 (o_1 + 1 + 0) = some (Value.int IntKind.i64 x_3) ∧
                                          C Tryz.prog 148 #[Value.int IntKind.u64 n] h fun (r : Value) (h' : Heap) =>
                                            ∃ (x_4 : Int),
                                              r = Value.int IntKind.u64 x_4 ∧
                                                C Tryz.prog 73 #[Value.pointer x_2, Value.int IntKind.i64 (IntKind.i64.wrap (x_3 + iquo IntKind.i64 x 8)), Value.int IntKind.i64 (irem x_1 8), Value.int IntKind.u64 x_4] h'
                                                  fun (r : Value) (h' : Heap) => ∃ (x : Int), r = Value.int IntKind.i64 x ∧ spare_Bank_say.J2 b n x h' Q) ∧
                                      C Tryz.prog 148 #[Value.int IntKind.u64 n] h fun (r : Value) (h' : Heap) =>
                                        ∃ (x_3 : Int),
                                          r = Value.int IntKind.u64 x_3 ∧
                                            ∃ (x_4 : Int),
                                              h'.cell b_2 (o_1 + 1 + 0) = some (Value.int IntKind.i64 x_4) ∧
                                                C Tryz.prog 73 #[Value.pointer x_2, Value.int IntKind.i64 (IntKind.i64.wrap (x_4 + iquo IntKind.i64 x 8)), Value.int IntKind.i64 (irem x_1 8), Value.int IntKind.u64 x_3] h'
                                                  fun (r : Value) (h' : Heap) => ∃ (x : Int), r = Value.int IntKind.i64 x ∧ spare_Bank_say.J2 b n x h' Q) ∧
                                (∃ (x_2 : Int),
                                    h.cell b_2 (o_1 + 1 + 0) = some (Value.int IntKind.i64 x_2) ∧
                                      (∃ (x_3 : Option Addr),
                                          h.cell b_1 (o + 0) = some (Value.pointer x_3) ∧
                                            C Tryz.prog 148 #[Value.int IntKind.u64 n] h fun (r : Value) (h' : Heap) =>
                                              ∃ (x_4 : Int),
                                                r = Value.int IntKind.u64 x_4 ∧
                                                  C Tryz.prog 73 #[Value.pointer x_3, Value.int IntKind.i64 (IntKind.i64.wrap (x_2 + iquo IntKind.i64 x 8)), Value.int IntKind.i64 (irem x_1 8), Value.int IntKind.u64 x_4] h'
                                                    fun (r : Value) (h' : Heap) => ∃ (x : Int), r = Value.int IntKind.i64 x ∧ spare_Bank_say.J2 b n x h' Q) ∧
                                        C Tryz.prog 148 #[Value.int IntKind.u64 n] h fun (r : Value) (h' : Heap) =>
                                          ∃ (x_3 : Int),
                                            r = Value.int IntKind.u64 x_3 ∧
                                              ∃ (x_4 : Option Addr),
                                                h'.cell b_1 (o + 0) = some (Value.pointer x_4) ∧
                                                  C Tryz.prog 73 #[Value.pointer x_4, Value.int IntKind.i64 (IntKind.i64.wrap (x_2 + iquo IntKind.i64 x 8)), Value.int IntKind.i64 (irem x_1 8), Value.int IntKind.u64 x_3] h'
                                                    fun (r : Value) (h' : Heap) => ∃ (x : Int), r = Value.int IntKind.i64 x ∧ spare_Bank_say.J2 b n x h' Q) ∧
                                  C Tryz.prog 148 #[Value.int IntKind.u64 n] h fun (r : Value) (h' : Heap) =>
                                    ∃ (x_2 : Int),
                                      r = Value.int IntKind.u64 x_2 ∧
                                        ∃ (x_3 : Int),
                                          h'.cell b_2 (o_1 + 1 + 0) = some (Value.int IntKind.i64 x_3) ∧
                                            ∃ (x_4 : Option Addr),
                                              h'.cell b_1 (o + 0) = some (Value.pointer x_4) ∧
                                                C Tryz.prog 73 #[Value.pointer x_4, Value.int IntKind.i64 (IntKind.i64.wrap (x_3 + iquo IntKind.i64 x 8)), Value.int IntKind.i64 (irem x_1 8), Value.int IntKind.u64 x_2] h'
                                                  fun (r : Value) (h' : Heap) => ∃ (x : Int), r = Value.int IntKind.i64 x ∧ spare_Bank_say.J2 b n x h' Q) ∧
                          C Tryz.prog 148 #[Value.int IntKind.u64 n] h fun (r : Value) (h' : Heap) =>
                            ∃ (x_1 : Int),
                              r = Value.int IntKind.u64 x_1 ∧
                                (∃ (x_2 : Option Addr),
                                    h'.cell b_1 (o + 0) = some (Value.pointer x_2) ∧
                                      (∃ (x_3 : Int),
                                          h'.cell b_2 (o_1 + 1 + 0) = some (Value.int IntKind.i64 x_3) ∧
                                            ∃ (x_4 : Int),
                                              h'.cell b_4 (o_3 + 4) = some (Value.int IntKind.i64 x_4) ∧
                                                C Tryz.prog 73 #[Value.pointer x_2, Value.int IntKind.i64 (IntKind.i64.wrap (x_3 + iquo IntKind.i64 x 8)), Value.int IntKind.i64 (irem x_4 8), Value.int IntKind.u64 x_1] h'
                                                  fun (r : Value) (h' : Heap) => ∃ (x : Int), r = Value.int IntKind.i64 x ∧ spare_Bank_say.J2 b n x h' Q) ∧
                                        ∃ (x_3 : Int),
                                          h'.cell b_4 (o_3 + 4) = some (Value.int IntKind.i64 x_3) ∧
                                            ∃ (x_4 : Int),
                                              h'.cell b_2 (o_1 + 1 + 0) = some (Value.int IntKind.i64 x_4) ∧
                                                C Tryz.prog 73 #[Value.pointer x_2, Value.int IntKind.i64 (IntKind.i64.wrap (x_4 + iquo IntKind.i64 x 8)), Value.int IntKind.i64 (irem x_3 8), Value.int IntKind.u64 x_1] h'
                                                  fun (r : Value) (h' : Heap) => ∃ (x : Int), r = Value.int IntKind.i64 x ∧ spare_Bank_say.J2 b n x h' Q) ∧
                                  (∃ (x_2 : Int),
                                      h'.cell b_2 (o_1 + 1 + 0) = some (Value.int IntKind.i64 x_2) ∧
                                        ∃ (x_3 : Int),
                                          h'.cell b_4 (o_3 + 4) = some (Value.int IntKind.i64 x_3) ∧
                                            ∃ (x_4 : Option Addr),
                                              h'.cell b_1 (o + 0) = some (Value.pointer x_4) ∧
                                                C Tryz.prog 73 #[Value.pointer x_4, Value.int IntKind.i64 (IntKind.i64.wrap (x_2 + iquo IntKind.i64 x 8)), Value.int IntKind.i64 (irem x_3 8), Value.int IntKind.u64 x_1] h'
                                                  fun (r : Value) (h' : Heap) => ∃ (x : Int), r = Value.int IntKind.i64 x ∧ spare_Bank_say.J2 b n x h' Q) ∧
                                    ∃ (x_2 : Int),
                                      h'.cell b_4 (o_3 + 4) = some (Value.int IntKind.i64 x_2) ∧
                                        ∃ (x_3 : Int),
                                          h'.cell b_2 (o_1 + 1 + 0) = some (Value.int IntKind.i64 x_3) ∧
                                            ∃ (x_4 : Option Addr),
                                              h'.cell b_1 (o + 0) = some (Value.pointer x_4) ∧
                                                C Tryz.prog 73 #[Value.pointer x_4, Value.int IntKind.i64 (IntKind.i64.wrap (x_3 + iquo IntKind.i64 x 8)), Value.int IntKind.i64 (irem x_2 8), Value.int IntKind.u64 x_1] h'
                                                  fun (r : Value) (h' : Heap) => ∃ (x : Int), r = Value.int IntKind.i64 x ∧ spare_Bank_say.J2 b n x h' Q) ∧
                (∃ (x : Int),
                    h.cell b_4 (o_3 + 4) = some (Value.int IntKind.i64 x) ∧
                      (∃ (x_1 : Option Addr),
                          h.cell b_1 (o + 0) = some (Value.pointer x_1) ∧
                            (∃ (x_2 : Int),
                                h.cell b_2 (o_1 + 1 + 0) = some (Value.int IntKind.i64 x_2) ∧
                                  (∃ (x_3 : Int),
                                      h.cell b_3 (o_2 + 4) = some (Value.int IntKind.i64 x_3) ∧
                                        C Tryz.prog 148 #[Value.int IntKind.u64 n] h fun (r : Value) (h' : Heap) =>
                                          ∃ (x_4 : Int),
                                            r = Value.int IntKind.u64 x_4 ∧
                                              C Tryz.prog 73 #[Value.pointer x_1, Value.int IntKind.i64 (IntKind.i64.wrap (x_2 + iquo IntKind.i64 x_3 8)), Value.int IntKind.i64 (irem x 8), Value.int IntKind.u64 x_4] h'
                                                fun (r : Value) (h' : Heap) => ∃ (x : Int), r = Value.int IntKind.i64 x ∧ spare_Bank_say.J2 b n x h' Q) ∧
                                    C Tryz.prog 148 #[Value.int IntKind.u64 n] h fun (r : Value) (h' : Heap) =>
                                      ∃ (x_3 : Int),
                                        r = Value.int IntKind.u64 x_3 ∧
                                          ∃ (x_4 : Int),
                                            h'.cell b_3 (o_2 + 4) = some (Value.int IntKind.i64 x_4) ∧
                                              C Tryz.prog 73 #[Value.pointer x_1, Value.int IntKind.i64 (IntKind.i64.wrap (x_2 + iquo IntKind.i64 x_4 8)), Value.int IntKind.i64 (irem x 8), Value.int IntKind.u64 x_3] h'
                                                fun (r : Value) (h' : Heap) => ∃ (x : Int), r = Value.int IntKind.i64 x ∧ spare_Bank_say.J2 b n x h' Q) ∧
                              (∃ (x_2 : Int),
                                  h.cell b_3 (o_2 + 4) = some (Value.int IntKind.i64 x_2) ∧
                                    (∃ (x_3 : Int),
                                        h.cell b_2 (o_1 + 1 + 0) = some (Value.int IntKind.i64 x_3) ∧
                                          C Tryz.prog 148 #[Value.int IntKind.u64 n] h fun (r : Value) (h' : Heap) =>
                                            ∃ (x_4 : Int),
                                              r = Value.int IntKind.u64 x_4 ∧
                                                C Tryz.prog 73 #[Value.pointer x_1, Value.int IntKind.i64 (IntKind.i64.wrap (x_3 + iquo IntKind.i64 x_2 8)), Value.int IntKind.i64 (irem x 8), Value.int IntKind.u64 x_4] h'
                                                  fun (r : Value) (h' : Heap) => ∃ (x : Int), r = Value.int IntKind.i64 x ∧ spare_Bank_say.J2 b n x h' Q) ∧
                                      C Tryz.prog 148 #[Value.int IntKind.u64 n] h fun (r : Value) (h' : Heap) =>
                                        ∃ (x_3 : Int),
                                          r = Value.int IntKind.u64 x_3 ∧
                                            ∃ (x_4 : Int),
                                              h'.cell b_2 (o_1 + 1 + 0) = some (Value.int IntKind.i64 x_4) ∧
                                                C Tryz.prog 73 #[Value.pointer x_1, Value.int IntKind.i64 (IntKind.i64.wrap (x_4 + iquo IntKind.i64 x_2 8)), Value.int IntKind.i64 (irem x 8), Value.int IntKind.u64 x_3] h'
                                                  fun (r : Value) (h' : Heap) => ∃ (x : Int), r = Value.int IntKind.i64 x ∧ spare_Bank_say.J2 b n x h' Q) ∧
                                C Tryz.prog 148 #[Value.int IntKind.u64 n] h fun (r : Value) (h' : Heap) =>
                                  ∃ (x_2 : Int),
                                    r = Value.int IntKind.u64 x_2 ∧
                                      ∃ (x_3 : Int),
                                        h'.cell b_3 (o_2 + 4) = some (Value.int IntKind.i64 x_3) ∧
                                          ∃ (x_4 : Int),
                                            h'.cell b_2 (o_1 + 1 + 0) = some (Value.int IntKind.i64 x_4) ∧
                                              C Tryz.prog 73 #[Value.pointer x_1, Value.int IntKind.i64 (IntKind.i64.wrap (x_4 + iquo IntKind.i64 x_3 8)), Value.int IntKind.i64 (irem x 8), Value.int IntKind.u64 x_2] h'
                                                fun (r : Value) (h' : Heap) => ∃ (x : Int), r = Value.int IntKind.i64 x ∧ spare_Bank_say.J2 b n x h' Q) ∧
                        (∃ (x_1 : Int),
                            h.cell b_2 (o_1 + 1 + 0) = some (Value.int IntKind.i64 x_1) ∧
                              (∃ (x_2 : Option Addr),
                                  h.cell b_1 (o + 0) = some (Value.pointer x_2) ∧
                                    (∃ (x_3 : Int),
                                        h.cell b_3 (o_2 + 4) = some (Value.int IntKind.i64 x_3) ∧
                                          C Tryz.prog 148 #[Value.int IntKind.u64 n] h fun (r : Value) (h' : Heap) =>
                                            ∃ (x_4 : Int),
                                              r = Value.int IntKind.u64 x_4 ∧
                                                C Tryz.prog 73 #[Value.pointer x_2, Value.int IntKind.i64 (IntKind.i64.wrap (x_1 + iquo IntKind.i64 x_3 8)), Value.int IntKind.i64 (irem x 8), Value.int IntKind.u64 x_4] h'
                                                  fun (r : Value) (h' : Heap) => ∃ (x : Int), r = Value.int IntKind.i64 x ∧ spare_Bank_say.J2 b n x h' Q) ∧
                                      C Tryz.prog 148 #[Value.int IntKind.u64 n] h fun (r : Value) (h' : Heap) =>
                                        ∃ (x_3 : Int),
                                          r = Value.int IntKind.u64 x_3 ∧
                                            ∃ (x_4 : Int),
                                              h'.cell b_3 (o_2 + 4) = some (Value.int IntKind.i64 x_4) ∧
                                                C Tryz.prog 73 #[Value.pointer x_2, Value.int IntKind.i64 (IntKind.i64.wrap (x_1 + iquo IntKind.i64 x_4 8)), Value.int IntKind.i64 (irem x 8), Value.int IntKind.u64 x_3] h'
                                                  fun (r : Value) (h' : Heap) => ∃ (x : Int), r = Value.int IntKind.i64 x ∧ spare_Bank_say.J2 b n x h' Q) ∧
                                (∃ (x_2 : Int),
                                    h.cell b_3 (o_2 + 4) = some (Value.int IntKind.i64 x_2) ∧
                                      (∃ (x_3 : Option Addr),
                                          h.cell b_1 (o + 0) = some (Value.pointer x_3) ∧
                                            C Tryz.prog 148 #[Value.int IntKind.u64 n] h fun (r : Value) (h' : Heap) =>
                                              ∃ (x_4 : Int),
                                                r = Value.int IntKind.u64 x_4 ∧
                                                  C Tryz.prog 73 #[Value.pointer x_3, Value.int IntKind.i64 (IntKind.i64.wrap (x_1 + iquo IntKind.i64 x_2 8)), Value.int IntKind.i64 (irem x 8), Value.int IntKind.u64 x_4] h'
                                                    fun (r : Value) (h' : Heap) => ∃ (x : Int), r = Value.int IntKind.i64 x ∧ spare_Bank_say.J2 b n x h' Q) ∧
                                        C Tryz.prog 148 #[Value.int IntKind.u64 n] h fun (r : Value) (h' : Heap) =>
                                          ∃ (x_3 : Int),
                                            r = Value.int IntKind.u64 x_3 ∧
                                              ∃ (x_4 : Option Addr),
                                                h'.cell b_1 (o + 0) = some (Value.pointer x_4) ∧
                                                  C Tryz.prog 73 #[Value.pointer x_4, Value.int IntKind.i64 (IntKind.i64.wrap (x_1 + iquo IntKind.i64 x_2 8)), Value.int IntKind.i64 (irem x 8), Value.int IntKind.u64 x_3] h'
                                                    fun (r : Value) (h' : Heap) => ∃ (x : Int), r = Value.int IntKind.i64 x ∧ spare_Bank_say.J2 b n x h' Q) ∧
                                  C Tryz.prog 148 #[Value.int IntKind.u64 n] h fun (r : Value) (h' : Heap) =>
                                    ∃ (x_2 : Int),
                                      r = Value.int IntKind.u64 x_2 ∧
                                        ∃ (x_3 : Int),
                                          h'.cell b_3 (o_2 + 4) = some (Value.int IntKind.i64 x_3) ∧
                                            ∃ (x_4 : Option Addr),
                                              h'.cell b_1 (o + 0) = some (Value.pointer x_4) ∧
                                                C Tryz.prog 73 #[Value.pointer x_4, Value.int IntKind.i64 (IntKind.i64.wrap (x_1 + iquo IntKind.i64 x_3 8)), Value.int IntKind.i64 (irem x 8), Value.int IntKind.u64 x_2] h'
                                                  fun (r : Value) (h' : Heap) => ∃ (x : Int), r = Value.int IntKind.i64 x ∧ spare_Bank_say.J2 b n x h' Q) ∧
                          (∃ (x_1 : Int),
                              h.cell b_3 (o_2 + 4) = some (Value.int IntKind.i64 x_1) ∧
                                (∃ (x_2 : Option Addr),
                                    h.cell b_1 (o + 0) = some (Value.pointer x_2) ∧
                                      (∃ (x_3 : Int),
                                          h.cell b_2 (o_1 + 1 + 0) = some (Value.int IntKind.i64 x_3) ∧
                                            C Tryz.prog 148 #[Value.int IntKind.u64 n] h fun (r : Value) (h' : Heap) =>
                                              ∃ (x_4 : Int),
                                                r = Value.int IntKind.u64 x_4 ∧
                                                  C Tryz.prog 73 #[Value.pointer x_2, Value.int IntKind.i64 (IntKind.i64.wrap (x_3 + iquo IntKind.i64 x_1 8)), Value.int IntKind.i64 (irem x 8), Value.int IntKind.u64 x_4] h'
                                                    fun (r : Value) (h' : Heap) => ∃ (x : Int), r = Value.int IntKind.i64 x ∧ spare_Bank_say.J2 b n x h' Q) ∧
                                        C Tryz.prog 148 #[Value.int IntKind.u64 n] h fun (r : Value) (h' : Heap) =>
                                          ∃ (x_3 : Int),
                                            r = Value.int IntKind.u64 x_3 ∧
                                              ∃ (x_4 : Int),
                                                h'.cell b_2 (o_1 + 1 + 0) = some (Value.int IntKind.i64 x_4) ∧
                                                  C Tryz.prog 73 #[Value.pointer x_2, Value.int IntKind.i64 (IntKind.i64.wrap (x_4 + iquo IntKind.i64 x_1 8)), Value.int IntKind.i64 (irem x 8), Value.int IntKind.u64 x_3] h'
                                                    fun (r : Value) (h' : Heap) => ∃ (x : Int), r = Value.int IntKind.i64 x ∧ spare_Bank_say.J2 b n x h' Q) ∧
                                  (∃ (x_2 : Int),
                                      h.cell b_2 (o_1 + 1 + 0) = some (Value.int IntKind.i64 x_2) ∧
                                        (∃ (x_3 : Option Addr),
                                            h.cell b_1 (o + 0) = some (Value.pointer x_3) ∧
                                              C Tryz.prog 148 #[Value.int IntKind.u64 n] h fun (r : Value) (h' : Heap) =>
                                                ∃ (x_4 : Int),
                                                  r = Value.int IntKind.u64 x_4 ∧
                                                    C Tryz.prog 73 #[Value.pointer x_3, Value.int IntKind.i64 (IntKind.i64.wrap (x_2 + iquo IntKind.i64 x_1 8)), Value.int IntKind.i64 (irem x 8), Value.int IntKind.u64 x_4] h'
                                                      fun (r : Value) (h' : Heap) => ∃ (x : Int), r = Value.int IntKind.i64 x ∧ spare_Bank_say.J2 b n x h' Q) ∧
                                          C Tryz.prog 148 #[Value.int IntKind.u64 n] h fun (r : Value) (h' : Heap) =>
                                            ∃ (x_3 : Int),
                                              r = Value.int IntKind.u64 x_3 ∧
                                                ∃ (x_4 : Option Addr),
                                                  h'.cell b_1 (o + 0) = some (Value.pointer x_4) ∧
                                                    C Tryz.prog 73 #[Value.pointer x_4, Value.int IntKind.i64 (IntKind.i64.wrap (x_2 + iquo IntKind.i64 x_1 8)), Value.int IntKind.i64 (irem x 8), Value.int IntKind.u64 x_3] h'
                                                      fun (r : Value) (h' : Heap) => ∃ (x : Int), r = Value.int IntKind.i64 x ∧ spare_Bank_say.J2 b n x h' Q) ∧
                                    C Tryz.prog 148 #[Value.int IntKind.u64 n] h fun (r : Value) (h' : Heap) =>
                                      ∃ (x_2 : Int),
                                        r = Value.int IntKind.u64 x_2 ∧
                                          ∃ (x_3 : Int),
                                            h'.cell b_2 (o_1 + 1 + 0) = some (Value.int IntKind.i64 x_3) ∧
                                              ∃ (x_4 : Option Addr),
                                                h'.cell b_1 (o + 0) = some (Value.pointer x_4) ∧
                                                  C Tryz.prog 73 #[Value.pointer x_4, Value.int IntKind.i64 (IntKind.i64.wrap (x_3 + iquo IntKind.i64 x_1 8)), Value.int IntKind.i64 (irem x 8), Value.int IntKind.u64 x_2] h'
                                                    fun (r : Value) (h' : Heap) => ∃ (x : Int), r = Value.int IntKind.i64 x ∧ spare_Bank_say.J2 b n x h' Q) ∧
                            C Tryz.prog 148 #[Value.int IntKind.u64 n] h fun (r : Value) (h' : Heap) =>
                              ∃ (x_1 : Int),
                                r = Value.int IntKind.u64 x_1 ∧
                                  ∃ (x_2 : Int),
                                    h'.cell b_3 (o_2 + 4) = some (Value.int IntKind.i64 x_2) ∧
                                      ∃ (x_3 : Int),
                                        h'.cell b_2 (o_1 + 1 + 0) = some (Value.int IntKind.i64 x_3) ∧
                                          ∃ (x_4 : Option Addr),
                                            h'.cell b_1 (o + 0) = some (Value.pointer x_4) ∧
                                              C Tryz.prog 73 #[Value.pointer x_4, Value.int IntKind.i64 (IntKind.i64.wrap (x_3 + iquo IntKind.i64 x_2 8)), Value.int IntKind.i64 (irem x 8), Value.int IntKind.u64 x_1] h'
                                                fun (r : Value) (h' : Heap) => ∃ (x : Int), r = Value.int IntKind.i64 x ∧ spare_Bank_say.J2 b n x h' Q) ∧
                  C Tryz.prog 148 #[Value.int IntKind.u64 n] h fun (r : Value) (h' : Heap) =>
                    ∃ (x : Int),
                      r = Value.int IntKind.u64 x ∧
                        (∃ (x_1 : Option Addr),
                            h'.cell b_1 (o + 0) = some (Value.pointer x_1) ∧
                              (∃ (x_2 : Int),
                                  h'.cell b_2 (o_1 + 1 + 0) = some (Value.int IntKind.i64 x_2) ∧
                                    (∃ (x_3 : Int),
                                        h'.cell b_3 (o_2 + 4) = some (Value.int IntKind.i64 x_3) ∧
                                          ∃ (x_4 : Int),
                                            h'.cell b_4 (o_3 + 4) = some (Value.int IntKind.i64 x_4) ∧
                                              C Tryz.prog 73 #[Value.pointer x_1, Value.int IntKind.i64 (IntKind.i64.wrap (x_2 + iquo IntKind.i64 x_3 8)), Value.int IntKind.i64 (irem x_4 8), Value.int IntKind.u64 x] h'
                                                fun (r : Value) (h' : Heap) => ∃ (x : Int), r = Value.int IntKind.i64 x ∧ spare_Bank_say.J2 b n x h' Q) ∧
                                      ∃ (x_3 : Int),
                                        h'.cell b_4 (o_3 + 4) = some (Value.int IntKind.i64 x_3) ∧
                                          ∃ (x_4 : Int),
                                            h'.cell b_3 (o_2 + 4) = some (Value.int IntKind.i64 x_4) ∧
                                              C Tryz.prog 73 #[Value.pointer x_1, Value.int IntKind.i64 (IntKind.i64.wrap (x_2 + iquo IntKind.i64 x_4 8)), Value.int IntKind.i64 (irem x_3 8), Value.int IntKind.u64 x] h'
                                                fun (r : Value) (h' : Heap) => ∃ (x : Int), r = Value.int IntKind.i64 x ∧ spare_Bank_say.J2 b n x h' Q) ∧
                                (∃ (x_2 : Int),
                                    h'.cell b_3 (o_2 + 4) = some (Value.int IntKind.i64 x_2) ∧
                                      (∃ (x_3 : Int),
                                          h'.cell b_2 (o_1 + 1 + 0) = some (Value.int IntKind.i64 x_3) ∧
                                            ∃ (x_4 : Int),
                                              h'.cell b_4 (o_3 + 4) = some (Value.int IntKind.i64 x_4) ∧
                                                C Tryz.prog 73 #[Value.pointer x_1, Value.int IntKind.i64 (IntKind.i64.wrap (x_3 + iquo IntKind.i64 x_2 8)), Value.int IntKind.i64 (irem x_4 8), Value.int IntKind.u64 x] h'
                                                  fun (r : Value) (h' : Heap) => ∃ (x : Int), r = Value.int IntKind.i64 x ∧ spare_Bank_say.J2 b n x h' Q) ∧
                                        ∃ (x_3 : Int),
                                          h'.cell b_4 (o_3 + 4) = some (Value.int IntKind.i64 x_3) ∧
                                            ∃ (x_4 : Int),
                                              h'.cell b_2 (o_1 + 1 + 0) = some (Value.int IntKind.i64 x_4) ∧
                                                C Tryz.prog 73 #[Value.pointer x_1, Value.int IntKind.i64 (IntKind.i64.wrap (x_4 + iquo IntKind.i64 x_2 8)), Value.int IntKind.i64 (irem x_3 8), Value.int IntKind.u64 x] h'
                                                  fun (r : Value) (h' : Heap) => ∃ (x : Int), r = Value.int IntKind.i64 x ∧ spare_Bank_say.J2 b n x h' Q) ∧
                                  ∃ (x_2 : Int),
                                    h'.cell b_4 (o_3 + 4) = some (Value.int IntKind.i64 x_2) ∧
                                      ∃ (x_3 : Int),
                                        h'.cell b_3 (o_2 + 4) = some (Value.int IntKind.i64 x_3) ∧
                                          ∃ (x_4 : Int),
                                            h'.cell b_2 (o_1 + 1 + 0) = some (Value.int IntKind.i64 x_4) ∧
                                              C Tryz.prog 73 #[Value.pointer x_1, Value.int IntKind.i64 (IntKind.i64.wrap (x_4 + iquo IntKind.i64 x_3 8)), Value.int IntKind.i64 (irem x_2 8), Value.int IntKind.u64 x] h'
                                                fun (r : Value) (h' : Heap) => ∃ (x : Int), r = Value.int IntKind.i64 x ∧ spare_Bank_say.J2 b n x h' Q) ∧
                          (∃ (x_1 : Int),
                              h'.cell b_2 (o_1 + 1 + 0) = some (Value.int IntKind.i64 x_1) ∧
                                (∃ (x_2 : Option Addr),
                                    h'.cell b_1 (o + 0) = some (Value.pointer x_2) ∧
                                      (∃ (x_3 : Int),
                                          h'.cell b_3 (o_2 + 4) = some (Value.int IntKind.i64 x_3) ∧
                                            ∃ (x_4 : Int),
                                              h'.cell b_4 (o_3 + 4) = some (Value.int IntKind.i64 x_4) ∧
                                                C Tryz.prog 73 #[Value.pointer x_2, Value.int IntKind.i64 (IntKind.i64.wrap (x_1 + iquo IntKind.i64 x_3 8)), Value.int IntKind.i64 (irem x_4 8), Value.int IntKind.u64 x] h'
                                                  fun (r : Value) (h' : Heap) => ∃ (x : Int), r = Value.int IntKind.i64 x ∧ spare_Bank_say.J2 b n x h' Q) ∧
                                        ∃ (x_3 : Int),
                                          h'.cell b_4 (o_3 + 4) = some (Value.int IntKind.i64 x_3) ∧
                                            ∃ (x_4 : Int),
                                              h'.cell b_3 (o_2 + 4) = some (Value.int IntKind.i64 x_4) ∧
                                                C Tryz.prog 73 #[Value.pointer x_2, Value.int IntKind.i64 (IntKind.i64.wrap (x_1 + iquo IntKind.i64 x_4 8)), Value.int IntKind.i64 (irem x_3 8), Value.int IntKind.u64 x] h'
                                                  fun (r : Value) (h' : Heap) => ∃ (x : Int), r = Value.int IntKind.i64 x ∧ spare_Bank_say.J2 b n x h' Q) ∧
                                  (∃ (x_2 : Int),
                                      h'.cell b_3 (o_2 + 4) = some (Value.int IntKind.i64 x_2) ∧
                                        ∃ (x_3 : Int),
                                          h'.cell b_4 (o_3 + 4) = some (Value.int IntKind.i64 x_3) ∧
                                            ∃ (x_4 : Option Addr),
                                              h'.cell b_1 (o + 0) = some (Value.pointer x_4) ∧
                                                C Tryz.prog 73 #[Value.pointer x_4, Value.int IntKind.i64 (IntKind.i64.wrap (x_1 + iquo IntKind.i64 x_2 8)), Value.int IntKind.i64 (irem x_3 8), Value.int IntKind.u64 x] h'
                                                  fun (r : Value) (h' : Heap) => ∃ (x : Int), r = Value.int IntKind.i64 x ∧ spare_Bank_say.J2 b n x h' Q) ∧
                                    ∃ (x_2 : Int),
                                      h'.cell b_4 (o_3 + 4) = some (Value.int IntKind.i64 x_2) ∧
                                        ∃ (x_3 : Int),
                                          h'.cell b_3 (o_2 + 4) = some (Value.int IntKind.i64 x_3) ∧
                                            ∃ (x_4 : Option Addr),
                                              h'.cell b_1 (o + 0) = some (Value.pointer x_4) ∧
                                                C Tryz.prog 73 #[Value.pointer x_4, Value.int IntKind.i64 (IntKind.i64.wrap (x_1 + iquo IntKind.i64 x_3 8)), Value.int IntKind.i64 (irem x_2 8), Value.int IntKind.u64 x] h'
                                                  fun (r : Value) (h' : Heap) => ∃ (x : Int), r = Value.int IntKind.i64 x ∧ spare_Bank_say.J2 b n x h' Q) ∧
                            (∃ (x_1 : Int),
                                h'.cell b_3 (o_2 + 4) = some (Value.int IntKind.i64 x_1) ∧
                                  (∃ (x_2 : Option Addr),
                                      h'.cell b_1 (o + 0) = some (Value.pointer x_2) ∧
                                        (∃ (x_3 : Int),
                                            h'.cell b_2 (o_1 + 1 + 0) = some (Value.int IntKind.i64 x_3) ∧
                                              ∃ (x_4 : Int),
                                                h'.cell b_4 (o_3 + 4) = some (Value.int IntKind.i64 x_4) ∧
                                                  C Tryz.prog 73 #[Value.pointer x_2, Value.int IntKind.i64 (IntKind.i64.wrap (x_3 + iquo IntKind.i64 x_1 8)), Value.int IntKind.i64 (irem x_4 8), Value.int IntKind.u64 x] h'
                                                    fun (r : Value) (h' : Heap) => ∃ (x : Int), r = Value.int IntKind.i64 x ∧ spare_Bank_say.J2 b n x h' Q) ∧
                                          ∃ (x_3 : Int),
                                            h'.cell b_4 (o_3 + 4) = some (Value.int IntKind.i64 x_3) ∧
                                              ∃ (x_4 : Int),
                                                h'.cell b_2 (o_1 + 1 + 0) = some (Value.int IntKind.i64 x_4) ∧
                                                  C Tryz.prog 73 #[Value.pointer x_2, Value.int IntKind.i64 (IntKind.i64.wrap (x_4 + iquo IntKind.i64 x_1 8)), Value.int IntKind.i64 (irem x_3 8), Value.int IntKind.u64 x] h'
                                                    fun (r : Value) (h' : Heap) => ∃ (x : Int), r = Value.int IntKind.i64 x ∧ spare_Bank_say.J2 b n x h' Q) ∧
                                    (∃ (x_2 : Int),
                                        h'.cell b_2 (o_1 + 1 + 0) = some (Value.int IntKind.i64 x_2) ∧
                                          ∃ (x_3 : Int),
                                            h'.cell b_4 (o_3 + 4) = some (Value.int IntKind.i64 x_3) ∧
                                              ∃ (x_4 : Option Addr),
                                                h'.cell b_1 (o + 0) = some (Value.pointer x_4) ∧
                                                  C Tryz.prog 73 #[Value.pointer x_4, Value.int IntKind.i64 (IntKind.i64.wrap (x_2 + iquo IntKind.i64 x_1 8)), Value.int IntKind.i64 (irem x_3 8), Value.int IntKind.u64 x] h'
                                                    fun (r : Value) (h' : Heap) => ∃ (x : Int), r = Value.int IntKind.i64 x ∧ spare_Bank_say.J2 b n x h' Q) ∧
                                      ∃ (x_2 : Int),
                                        h'.cell b_4 (o_3 + 4) = some (Value.int IntKind.i64 x_2) ∧
                                          ∃ (x_3 : Int),
                                            h'.cell b_2 (o_1 + 1 + 0) = some (Value.int IntKind.i64 x_3) ∧
                                              ∃ (x_4 : Option Addr),
                                                h'.cell b_1 (o + 0) = some (Value.pointer x_4) ∧
                                                  C Tryz.prog 73 #[Value.pointer x_4, Value.int IntKind.i64 (IntKind.i64.wrap (x_3 + iquo IntKind.i64 x_1 8)), Value.int IntKind.i64 (irem x_2 8), Value.int IntKind.u64 x] h'
                                                    fun (r : Value) (h' : Heap) => ∃ (x : Int), r = Value.int IntKind.i64 x ∧ spare_Bank_say.J2 b n x h' Q) ∧
                              ∃ (x_1 : Int),
                                h'.cell b_4 (o_3 + 4) = some (Value.int IntKind.i64 x_1) ∧
                                  ∃ (x_2 : Int),
                                    h'.cell b_3 (o_2 + 4) = some (Value.int IntKind.i64 x_2) ∧
                                      ∃ (x_3 : Int),
                                        h'.cell b_2 (o_1 + 1 + 0) = some (Value.int IntKind.i64 x_3) ∧
                                          ∃ (x_4 : Option Addr),
                                            h'.cell b_1 (o + 0) = some (Value.pointer x_4) ∧
                                              C Tryz.prog 73 #[Value.pointer x_4, Value.int IntKind.i64 (IntKind.i64.wrap (x_3 + iquo IntKind.i64 x_2 8)), Value.int IntKind.i64 (irem x_1 8), Value.int IntKind.u64 x] h'
                                                fun (r : Value) (h' : Heap) => ∃ (x : Int), r = Value.int IntKind.i64 x ∧ spare_Bank_say.J2 b n x h' Q
def spare_Bank_say.J2.wp (b : Option Addr) (n : Int) (e : Int) (h : Heap) (Q : Value → Heap → Prop) : Prop :=
  xsIf (decide (e = 0))
    (atBase b fun (b_1 o : Nat) =>
      (∃ (x : Int),
          h.cell b_1 (o + 4) = some (Value.int IntKind.i64 x) ∧
            C Tryz.prog 148 #[Value.int IntKind.u64 n] h fun (r : Value) (h' : Heap) =>
              ∃ (x_1 : Int),
                r = Value.int IntKind.u64 x_1 ∧
                  C Tryz.prog 65 #[Value.pointer b, Value.int IntKind.i64 x, Value.int IntKind.u64 x_1] h' fun (r : Value) (h' : Heap) => ∃ (x : Int), r = Value.int IntKind.i64 x ∧ Q (Value.int IntKind.i64 x) h') ∧
        C Tryz.prog 148 #[Value.int IntKind.u64 n] h fun (r : Value) (h' : Heap) =>
          ∃ (x : Int),
            r = Value.int IntKind.u64 x ∧
              ∃ (x_1 : Int),
                h'.cell b_1 (o + 4) = some (Value.int IntKind.i64 x_1) ∧
                  C Tryz.prog 65 #[Value.pointer b, Value.int IntKind.i64 x_1, Value.int IntKind.u64 x] h' fun (r : Value) (h' : Heap) => ∃ (x : Int), r = Value.int IntKind.i64 x ∧ Q (Value.int IntKind.i64 x) h')
    (Q (Value.int IntKind.i64 e) h)
theorem spare_Bank_say.ok {b : Option Addr} {n : Int} {h : Heap} {Q : Value → Heap → Prop} (hk : spare_Bank_say.wp b n h Q) : C Tryz.prog 116 #[.pointer b, .int .u64 n] h Q :=
  C_of_xs (H := spare_Bank_say.H) (lcuts := spare_Bank_say.lc) (rcuts := spare_Bank_say.rc) (l := [.pointer b, .int .u64 n]) 2000 mixed Tryz.func116 rfl (by kernel_rfl) (@cast (spare_Bank_say.wp b n h Q) _ (by kernel_rfl) hk)
theorem spare_Bank_say.J2.ok {b : Option Addr} {n : Int} {e : Int} {h : Heap} {Q : Value → Heap → Prop} (hk : spare_Bank_say.J2.wp b n e h Q) : spare_Bank_say.J2 b n e h Q :=
  xs_ok (H := spare_Bank_say.H) (lcuts := spare_Bank_say.lc) (rcuts := []) (fn := Tryz.f116) mixed Tryz.func116 2000 _ _ _ (@cast (spare_Bank_say.J2.wp b n e h Q) _ (by kernel_rfl) hk)

/-! (*gabion/spare.Bank).retire -/
def spare_Bank_retire.H : Hn := ⟨[], [], [⟨2, .q 0 (.q 1 (.q 2 (.q 4 (.q 5 (.q 6 (.ld 3 768 (.q 7 (.q 8 (.q 9 (.nil)))))))))), []⟩], []⟩
def spare_Bank_retire.lc : List Cut := [⟨1, [0, 1, 2], []⟩]
def spare_Bank_retire.rc : List Cut := []
def spare_Bank_retire.L1 (b : Option Addr) (i : Int) (s : ByteArray) (h : Heap) (Q : Value → Heap → Prop) : Prop :=
  TW Tryz.prog 61 49 [.code (cAt (bodyOf Tryz.f61) [1, 0, 0, 0]), .inLoop (cAt (bodyOf Tryz.f61) [1, 0, 0, 0]), .inBlock 0, .code (cAt (bodyOf Tryz.f61) [1, 1])] ⟨[(0, .v (.pointer b)), (1, .v (.int .i64 i)), (2, .v (.string s))], []⟩ h Q
def spare_Bank_retire.wp (b : Option Addr) (i : Int) (s : ByteArray) (h : Heap) (Q : Value → Heap → Prop) : Prop :=
  spare_Bank_retire.L1 b i s h Q
def spare_Bank_retire.L1.wp (b : Option Addr) (i : Int) (s : ByteArray) (h : Heap) (Q : Value → Heap → Prop) : Prop :=
  C Tryz.prog 18 #[Value.pointer b] h fun (r : Value) (h' : Heap) =>
    ∃ (x : Int),
      r = Value.int IntKind.i64 x ∧
        xsIf (decide (0 < x))
          (atBase b fun (b_1 o : Nat) =>
            atBase b fun (b_2 o_1 : Nat) =>
              ∃ (x : Int),
                h'.cell b_1 (o + 1) = some (Value.int IntKind.i64 x) ∧
                  ∃ (x_1 : Int),
                    h'.cell b_1 (o + 1 + 1) = some (Value.int IntKind.i64 x_1) ∧
                      ∃ (x_2 : Int),
                        h'.cell b_1 (o + 1 + 1 + 1) = some (Value.int IntKind.i64 x_2) ∧
                          ∃ (x_3 : Int),
                            h'.cell b_2 (o_1 + 4) = some (Value.int IntKind.i64 x_3) ∧
                              C Tryz.prog 67 #[Value.agg #[Value.int IntKind.i64 x, Value.int IntKind.i64 x_1, Value.int IntKind.i64 x_2], Value.int IntKind.i64 x_3] h' fun (r : Value) (h' : Heap) =>
                                ∃ (x : Int),
                                  r = Value.int IntKind.i64 x ∧
                                    atBase b fun (b_3 o : Nat) =>
                                      ∃ (x_4 : Option Addr),
                                        h'.cell b_3 (o + 0) = some (Value.pointer x_4) ∧
                                          C Tryz.prog 59 #[Value.pointer x_4, Value.int IntKind.i64 x, Value.string s] h' fun (r : Value) (h' : Heap) =>
                                            ∃ (x_5 : Int),
                                              r = Value.int IntKind.i64 x_5 ∧
                                                xsIf (decide (x_5 ≠ 0)) (Q (Value.int IntKind.i64 x_5) h')
                                                  (atBase b fun (b_4 o : Nat) =>
                                                    ∃ (x_6 : Option Addr),
                                                      h'.cell b_4 (o + 0) = some (Value.pointer x_6) ∧
                                                        C Tryz.prog 60 #[Value.pointer x_6, Value.int IntKind.i64 x, Value.string s] h' fun (r : Value) (h' : Heap) =>
                                                          ∃ (x : Bool),
                                                            r = Value.bool x ∧
                                                              xsIf x
                                                                (C Tryz.prog 116 #[Value.pointer b, Value.int IntKind.u64 (IntKind.u64.wrap (IntKind.u64.wrap i + 1))] h' fun (r : Value) (h' : Heap) =>
                                                                  ∃ (x : Int), r = Value.int IntKind.i64 x ∧ Q (Value.int IntKind.i64 x) h')
                                                                (C Tryz.prog 116 #[Value.pointer b, Value.int IntKind.u64 65535] h' fun (r : Value) (h' : Heap) =>
                                                                  ∃ (x : Int), r = Value.int IntKind.i64 x ∧ xsIf (decide (x ≠ 0)) (Q (Value.int IntKind.i64 x) h') (spare_Bank_retire.L1 b i s h' Q))))
          (Q (Value.int IntKind.i64 10) h')
theorem spare_Bank_retire.ok {b : Option Addr} {i : Int} {s : ByteArray} {h : Heap} {Q : Value → Heap → Prop} (hk : spare_Bank_retire.wp b i s h Q) : C Tryz.prog 61 #[.pointer b, .int .i64 i, .string s] h Q :=
  C_of_xs (H := spare_Bank_retire.H) (lcuts := spare_Bank_retire.lc) (rcuts := spare_Bank_retire.rc) (l := [.pointer b, .int .i64 i, .string s]) 2000 mixed Tryz.func61 rfl (by kernel_rfl) (@cast (spare_Bank_retire.wp b i s h Q) _ (by kernel_rfl) hk)
theorem spare_Bank_retire.L1.ok {b : Option Addr} {i : Int} {s : ByteArray} {h : Heap} {Q : Value → Heap → Prop} (hk : spare_Bank_retire.L1.wp b i s h Q) : spare_Bank_retire.L1 b i s h Q :=
  xs_ok (H := spare_Bank_retire.H) (lcuts := spare_Bank_retire.lc) (rcuts := spare_Bank_retire.rc) (fn := Tryz.f61) mixed Tryz.func61 2000 _ _ _ (@cast (spare_Bank_retire.L1.wp b i s h Q) _ (by kernel_rfl) hk)

/-! (*gabion/spare.Bank).Write -/
def spare_Bank_Write.H : Hn := ⟨[], [], [], []⟩
def spare_Bank_Write.lc : List Cut := []
def spare_Bank_Write.rc : List Cut := []
def spare_Bank_Write.wp (b : Option Addr) (i : Int) (s : ByteArray) (h : Heap) (Q : Value → Heap → Prop) : Prop :=
  C Tryz.prog 21 #[Value.pointer b, Value.int IntKind.i64 i] h fun (r : Value) (h' : Heap) =>
    ∃ (x : Int),
      ∃ (x_1 : Int),
        r = Value.tuple #[Value.int IntKind.i64 x, Value.int IntKind.i64 x_1] ∧
          xsIf (decide (x_1 = 1)) (Q (Value.int IntKind.i64 x_1) h')
            (xsIf (decide ((↑s.size : Int) ≠ 64)) (Q (Value.int IntKind.i64 2) h')
              (xsIf (decide (x_1 ≠ 0)) (Q (Value.int IntKind.i64 x_1) h')
                (atBase b fun (b_1 o : Nat) =>
                  ∃ (x_2 : Option Addr),
                    h'.cell b_1 (o + 0) = some (Value.pointer x_2) ∧
                      C Tryz.prog 59 #[Value.pointer x_2, Value.int IntKind.i64 x, Value.string s] h' fun (r : Value) (h' : Heap) =>
                        ∃ (x_3 : Int),
                          r = Value.int IntKind.i64 x_3 ∧
                            xsIf (decide (x_3 ≠ 0)) (Q (Value.int IntKind.i64 x_3) h')
                              (atBase b fun (b_2 o : Nat) =>
                                ∃ (x_4 : Option Addr),
                                  h'.cell b_2 (o + 0) = some (Value.pointer x_4) ∧
                                    C Tryz.prog 60 #[Value.pointer x_4, Value.int IntKind.i64 x, Value.string s] h' fun (r : Value) (h' : Heap) =>
                                      ∃ (x : Bool),
                                        r = Value.bool x ∧
                                          xsIf x (Q (Value.int IntKind.i64 0) h')
                                            (C Tryz.prog 61 #[Value.pointer b, Value.int IntKind.i64 i, Value.string s] h' fun (r : Value) (h' : Heap) =>
                                              ∃ (x : Int), r = Value.int IntKind.i64 x ∧ Q (Value.int IntKind.i64 x) h')))))
theorem spare_Bank_Write.ok {b : Option Addr} {i : Int} {s : ByteArray} {h : Heap} {Q : Value → Heap → Prop} (hk : spare_Bank_Write.wp b i s h Q) : C Tryz.prog 15 #[.pointer b, .int .i64 i, .string s] h Q :=
  C_of_xs (H := spare_Bank_Write.H) (lcuts := spare_Bank_Write.lc) (rcuts := spare_Bank_Write.rc) (l := [.pointer b, .int .i64 i, .string s]) 2000 mixed Tryz.func15 rfl (by kernel_rfl) (@cast (spare_Bank_Write.wp b i s h Q) _ (by kernel_rfl) hk)

/-! (*gabion/pm.Device).Off -/
def pm_Device_Off.H : Hn := ⟨[], [], [], []⟩
def pm_Device_Off.lc : List Cut := []
def pm_Device_Off.rc : List Cut := []
def pm_Device_Off.wp (d : Option Addr) (h : Heap) (Q : Value → Heap → Prop) : Prop :=
  xsIf (!d.isNone) (atBase d fun (b o : Nat) => ∃ (x : Bool), h.cell b (o + 5) = some (Value.bool x) ∧ Q (Value.bool x) h) (Q (Value.bool false) h)
theorem pm_Device_Off.ok {d : Option Addr} {h : Heap} {Q : Value → Heap → Prop} (hk : pm_Device_Off.wp d h Q) : C Tryz.prog 38 #[.pointer d] h Q :=
  C_of_xs (H := pm_Device_Off.H) (lcuts := pm_Device_Off.lc) (rcuts := pm_Device_Off.rc) (l := [.pointer d]) 2000 mixed Tryz.func38 rfl (by kernel_rfl) (@cast (pm_Device_Off.wp d h Q) _ (by kernel_rfl) hk)

/-! gabion/le.Text -/
def le_Text.H : Hn := ⟨[], [], [], []⟩
def le_Text.lc : List Cut := [⟨3, [3, 6, 7], []⟩]
def le_Text.rc : List Cut := []
def le_Text.L3 (s : ByteArray) (t6_0 : Int) (t6_1 : Int) (t6_2 : Int) (t6_3 : Int) (t6_4 : Int) (t6_5 : Int) (t6_6 : Int) (t6_7 : Int) (t7 : Int) (h : Heap) (Q : Value → Heap → Prop) : Prop :=
  TW Tryz.prog 126 16 [.code (cAt (bodyOf Tryz.f126) [1, 1, 0, 1, 0, 0]), .inLoop (cAt (bodyOf Tryz.f126) [1, 1, 0, 1, 0, 0]), .inBlock 0, .code (cAt (bodyOf Tryz.f126) [1, 1, 1])] ⟨[(3, .v (.string s)), (6, .v (.agg #[.int .u64 t6_0, .int .u64 t6_1, .int .u64 t6_2, .int .u64 t6_3, .int .u64 t6_4, .int .u64 t6_5, .int .u64 t6_6, .int .u64 t6_7])), (7, .v (.int .i64 t7))], []⟩ h Q
def le_Text.wp (w_0 : Int) (w_1 : Int) (w_2 : Int) (w_3 : Int) (w_4 : Int) (w_5 : Int) (w_6 : Int) (w_7 : Int) (h : Heap) (Q : Value → Heap → Prop) : Prop :=
  le_Text.L3 { data := #[] } w_0 w_1 w_2 w_3 w_4 w_5 w_6 w_7 0 h Q
def le_Text.L3.wp (s : ByteArray) (t6_0 : Int) (t6_1 : Int) (t6_2 : Int) (t6_3 : Int) (t6_4 : Int) (t6_5 : Int) (t6_6 : Int) (t6_7 : Int) (t7 : Int) (h : Heap) (Q : Value → Heap → Prop) : Prop :=
  xsIf (decide (t7 < 8))
    ((0 ≤ t7 ∧ t7 < (↑8 : Int)) ∧
      ∃ (x : Int),
        lget [Value.int IntKind.u64 t6_0, Value.int IntKind.u64 t6_1, Value.int IntKind.u64 t6_2, Value.int IntKind.u64 t6_3, Value.int IntKind.u64 t6_4, Value.int IntKind.u64 t6_5, Value.int IntKind.u64 t6_6, Value.int IntKind.u64 t6_7]
              (t7.toNat * 1) =
            some (Value.int IntKind.u64 x) ∧
          C Tryz.prog 72 #[Value.int IntKind.u64 x, Value.int IntKind.i64 8] h fun (r : Value) (h' : Heap) =>
            ∃ (x : ByteArray), r = Value.string x ∧ (↑(s.size + x.size) : Int) ≤ 9223372036854775807 ∧ le_Text.L3 (s ++ x) t6_0 t6_1 t6_2 t6_3 t6_4 t6_5 t6_6 t6_7 (IntKind.i64.wrap (t7 + 1)) h' Q)
    (Q (Value.string s) h)
theorem le_Text.ok {w_0 : Int} {w_1 : Int} {w_2 : Int} {w_3 : Int} {w_4 : Int} {w_5 : Int} {w_6 : Int} {w_7 : Int} {h : Heap} {Q : Value → Heap → Prop} (hk : le_Text.wp w_0 w_1 w_2 w_3 w_4 w_5 w_6 w_7 h Q) : C Tryz.prog 126 #[.agg #[.int .u64 w_0, .int .u64 w_1, .int .u64 w_2, .int .u64 w_3, .int .u64 w_4, .int .u64 w_5, .int .u64 w_6, .int .u64 w_7]] h Q :=
  C_of_xs (H := le_Text.H) (lcuts := le_Text.lc) (rcuts := le_Text.rc) (l := [.agg #[.int .u64 w_0, .int .u64 w_1, .int .u64 w_2, .int .u64 w_3, .int .u64 w_4, .int .u64 w_5, .int .u64 w_6, .int .u64 w_7]]) 2000 mixed Tryz.func126 rfl (by kernel_rfl) (@cast (le_Text.wp w_0 w_1 w_2 w_3 w_4 w_5 w_6 w_7 h Q) _ (by kernel_rfl) hk)
theorem le_Text.L3.ok {s : ByteArray} {t6_0 : Int} {t6_1 : Int} {t6_2 : Int} {t6_3 : Int} {t6_4 : Int} {t6_5 : Int} {t6_6 : Int} {t6_7 : Int} {t7 : Int} {h : Heap} {Q : Value → Heap → Prop} (hk : le_Text.L3.wp s t6_0 t6_1 t6_2 t6_3 t6_4 t6_5 t6_6 t6_7 t7 h Q) : le_Text.L3 s t6_0 t6_1 t6_2 t6_3 t6_4 t6_5 t6_6 t6_7 t7 h Q :=
  xs_ok (H := le_Text.H) (lcuts := le_Text.lc) (rcuts := le_Text.rc) (fn := Tryz.f126) mixed Tryz.func126 2000 _ _ _ (@cast (le_Text.L3.wp s t6_0 t6_1 t6_2 t6_3 t6_4 t6_5 t6_6 t6_7 t7 h Q) _ (by kernel_rfl) hk)

/-! gabion/line.Get -/
def line_Get.H : Hn := ⟨[], [7], [], []⟩
def line_Get.lc : List Cut := [⟨6, [0, 1, 7, 22], [7]⟩]
def line_Get.rc : List Cut := [⟨4, [0, 1], []⟩]
def line_Get.J4 (d : Option Addr) (at0 : Int) (h : Heap) (Q : Value → Heap → Prop) : Prop :=
  TW Tryz.prog 66 43 [.code (cAt (bodyOf Tryz.f66) [1, 1, 0]), .code (cAt (bodyOf Tryz.f66) [1, 1, 1])] ⟨[(0, .v (.pointer d)), (1, .v (.int .i64 at0))], []⟩ h Q
def line_Get.L6 (d : Option Addr) (at0 : Int) (t22 : Int) (w : List Value) (h : Heap) (Q : Value → Heap → Prop) : Prop :=
  TW Tryz.prog 66 43 [.code (cAt (bodyOf Tryz.f66) [1, 1, 1, 0, 1, 0, 0]), .inLoop (cAt (bodyOf Tryz.f66) [1, 1, 1, 0, 1, 0, 0]), .inBlock 0, .code (cAt (bodyOf Tryz.f66) [1, 1, 1, 1])] ⟨[(0, .v (.pointer d)), (1, .v (.int .i64 at0)), (7, .p 7 0), (22, .v (.int .i64 t22))], [(7, w)]⟩ h Q
def line_Get.wp (d : Option Addr) (at0 : Int) (h : Heap) (Q : Value → Heap → Prop) : Prop :=
  C Tryz.prog 112 #[Value.pointer d, Value.int IntKind.i64 at0] h fun (r : Value) (h' : Heap) =>
    ∃ (x : Int),
      r = Value.int IntKind.i64 x ∧
        xsIf (decide (x ≠ 0))
          (C Tryz.prog 38 #[Value.pointer d] h' fun (r : Value) (h' : Heap) =>
            ∃ (x_1 : Bool), r = Value.bool x_1 ∧ xsIf (!x_1) (Q (Value.tuple #[Value.string { data := #[] }, Value.int IntKind.i64 x]) h') (line_Get.J4 d at0 h' Q))
          (line_Get.J4 d at0 h' Q)
def line_Get.J4.wp (d : Option Addr) (at0 : Int) (h : Heap) (Q : Value → Heap → Prop) : Prop :=
  line_Get.L6 d at0 0 [Value.int IntKind.u64 0, Value.int IntKind.u64 0, Value.int IntKind.u64 0, Value.int IntKind.u64 0, Value.int IntKind.u64 0, Value.int IntKind.u64 0, Value.int IntKind.u64 0, Value.int IntKind.u64 0] h Q
def line_Get.L6.wp (d : Option Addr) (at0 : Int) (t22 : Int) (w : List Value) (h : Heap) (Q : Value → Heap → Prop) : Prop :=
  xsIf (decide (t22 < 8))
    (C Tryz.prog 64 #[Value.pointer d, Value.int IntKind.i64 (IntKind.i64.wrap (IntKind.i64.wrap (at0 * 8) + t22))] h fun (r : Value) (h' : Heap) =>
      ∃ (x : Int),
        ∃ (x_1 : Int),
          r = Value.tuple #[Value.int IntKind.u64 x, Value.int IntKind.i64 x_1] ∧
            xsIf (decide (x_1 ≠ 0)) (Q (Value.tuple #[Value.string { data := #[] }, Value.int IntKind.i64 x_1]) h')
              ((0 ≤ t22 ∧ t22 < (↑8 : Int)) ∧ 0 + t22.toNat * 1 + 1 ≤ w.length ∧ line_Get.L6 d at0 (IntKind.i64.wrap (t22 + 1)) (lput w (0 + t22.toNat * 1) [Value.int IntKind.u64 x]) h' Q))
    (8 ≤ w.length ∧
      ∃ (x : Int),
        lget w 0 = some (Value.int IntKind.u64 x) ∧
          ∃ (x_1 : Int),
            lget w 1 = some (Value.int IntKind.u64 x_1) ∧
              ∃ (x_2 : Int),
                lget w 2 = some (Value.int IntKind.u64 x_2) ∧
                  ∃ (x_3 : Int),
                    lget w 3 = some (Value.int IntKind.u64 x_3) ∧
                      ∃ (x_4 : Int),
                        lget w 4 = some (Value.int IntKind.u64 x_4) ∧
                          ∃ (x_5 : Int),
                            lget w 5 = some (Value.int IntKind.u64 x_5) ∧
                              ∃ (x_6 : Int),
                                lget w 6 = some (Value.int IntKind.u64 x_6) ∧
                                  ∃ (x_7 : Int),
                                    lget w 7 = some (Value.int IntKind.u64 x_7) ∧
                                      C Tryz.prog 126
                                        #[Value.agg
                                                #[Value.int IntKind.u64 x, Value.int IntKind.u64 x_1, Value.int IntKind.u64 x_2, Value.int IntKind.u64 x_3, Value.int IntKind.u64 x_4, Value.int IntKind.u64 x_5, Value.int IntKind.u64 x_6,
                                                      Value.int IntKind.u64 x_7]]
                                        h fun (r : Value) (h' : Heap) => ∃ (x : ByteArray), r = Value.string x ∧ Q (Value.tuple #[Value.string x, Value.int IntKind.i64 0]) h')
theorem line_Get.ok {d : Option Addr} {at0 : Int} {h : Heap} {Q : Value → Heap → Prop} (hk : line_Get.wp d at0 h Q) : C Tryz.prog 66 #[.pointer d, .int .i64 at0] h Q :=
  C_of_xs (H := line_Get.H) (lcuts := line_Get.lc) (rcuts := line_Get.rc) (l := [.pointer d, .int .i64 at0]) 2000 mixed Tryz.func66 rfl (by kernel_rfl) (@cast (line_Get.wp d at0 h Q) _ (by kernel_rfl) hk)
theorem line_Get.J4.ok {d : Option Addr} {at0 : Int} {h : Heap} {Q : Value → Heap → Prop} (hk : line_Get.J4.wp d at0 h Q) : line_Get.J4 d at0 h Q :=
  xs_ok (H := line_Get.H) (lcuts := line_Get.lc) (rcuts := []) (fn := Tryz.f66) mixed Tryz.func66 2000 _ _ _ (@cast (line_Get.J4.wp d at0 h Q) _ (by kernel_rfl) hk)
theorem line_Get.L6.ok {d : Option Addr} {at0 : Int} {t22 : Int} {w : List Value} {h : Heap} {Q : Value → Heap → Prop} (hk : line_Get.L6.wp d at0 t22 w h Q) : line_Get.L6 d at0 t22 w h Q :=
  xs_ok (H := line_Get.H) (lcuts := line_Get.lc) (rcuts := line_Get.rc) (fn := Tryz.f66) mixed Tryz.func66 2000 _ _ _ (@cast (line_Get.L6.wp d at0 t22 w h Q) _ (by kernel_rfl) hk)

/-! (*gabion/spare.Bank).Read -/
def spare_Bank_Read.H : Hn := ⟨[], [], [], []⟩
def spare_Bank_Read.lc : List Cut := []
def spare_Bank_Read.rc : List Cut := []
def spare_Bank_Read.wp (b : Option Addr) (i : Int) (h : Heap) (Q : Value → Heap → Prop) : Prop :=
  C Tryz.prog 21 #[Value.pointer b, Value.int IntKind.i64 i] h fun (r : Value) (h' : Heap) =>
    ∃ (x : Int),
      ∃ (x_1 : Int),
        r = Value.tuple #[Value.int IntKind.i64 x, Value.int IntKind.i64 x_1] ∧
          xsIf (decide (x_1 ≠ 0)) (Q (Value.tuple #[Value.string { data := #[] }, Value.int IntKind.i64 x_1]) h')
            (atBase b fun (b o : Nat) =>
              ∃ (x_2 : Option Addr),
                h'.cell b (o + 0) = some (Value.pointer x_2) ∧
                  C Tryz.prog 66 #[Value.pointer x_2, Value.int IntKind.i64 x] h' fun (r : Value) (h' : Heap) =>
                    ∃ (x : ByteArray), ∃ (x_3 : Int), r = Value.tuple #[Value.string x, Value.int IntKind.i64 x_3] ∧ Q (Value.tuple #[Value.string x, Value.int IntKind.i64 x_3]) h')
theorem spare_Bank_Read.ok {b : Option Addr} {i : Int} {h : Heap} {Q : Value → Heap → Prop} (hk : spare_Bank_Read.wp b i h Q) : C Tryz.prog 20 #[.pointer b, .int .i64 i] h Q :=
  C_of_xs (H := spare_Bank_Read.H) (lcuts := spare_Bank_Read.lc) (rcuts := spare_Bank_Read.rc) (l := [.pointer b, .int .i64 i]) 2000 mixed Tryz.func20 rfl (by kernel_rfl) (@cast (spare_Bank_Read.wp b i h Q) _ (by kernel_rfl) hk)

/-! (*gabion/spare.Bank).Lines -/
def spare_Bank_Lines.H : Hn := ⟨[], [], [], []⟩
def spare_Bank_Lines.lc : List Cut := []
def spare_Bank_Lines.rc : List Cut := []
def spare_Bank_Lines.wp (b : Option Addr) (h : Heap) (Q : Value → Heap → Prop) : Prop :=
  xsIf b.isNone (Q (Value.int IntKind.i64 0) h) (atBase b fun (b o : Nat) => ∃ (x : Int), h.cell b (o + 1 + 1) = some (Value.int IntKind.i64 x) ∧ Q (Value.int IntKind.i64 x) h)
theorem spare_Bank_Lines.ok {b : Option Addr} {h : Heap} {Q : Value → Heap → Prop} (hk : spare_Bank_Lines.wp b h Q) : C Tryz.prog 19 #[.pointer b] h Q :=
  C_of_xs (H := spare_Bank_Lines.H) (lcuts := spare_Bank_Lines.lc) (rcuts := spare_Bank_Lines.rc) (l := [.pointer b]) 2000 mixed Tryz.func19 rfl (by kernel_rfl) (@cast (spare_Bank_Lines.wp b h Q) _ (by kernel_rfl) hk)

/-! gabion/gabionlaw05.wakes -/
def gabionlaw05_wakes.H : Hn := ⟨[], [], [], []⟩
def gabionlaw05_wakes.lc : List Cut := []
def gabionlaw05_wakes.rc : List Cut := [⟨7, [2, 5], []⟩]
def gabionlaw05_wakes.J7 (d : Option Addr) (b : Option Addr) (h : Heap) (Q : Value → Heap → Prop) : Prop :=
  TW Tryz.prog 13 85 [.code (cAt (bodyOf Tryz.f13) [1, 1, 1, 1, 1, 1, 0]), .code (cAt (bodyOf Tryz.f13) [1, 1, 1, 1, 1, 1, 1])] ⟨[(2, .v (.pointer d)), (5, .v (.pointer b))], []⟩ h Q
def gabionlaw05_wakes.wp  (h : Heap) (Q : Value → Heap → Prop) : Prop :=
  C Tryz.prog 26 #[Value.int IntKind.i64 7] h fun (r : Value) (h' : Heap) =>
    ∃ (x : Option Addr),
      ∃ (x_1 : Int),
        r = Value.tuple #[Value.pointer x, Value.int IntKind.i64 x_1] ∧
          C Tryz.prog 27 #[Value.pointer x, Value.agg #[Value.int IntKind.i64 0, Value.int IntKind.i64 4, Value.int IntKind.i64 2]] h' fun (r : Value) (h' : Heap) =>
            ∃ (x_2 : Int),
              r = Value.int IntKind.i64 x_2 ∧
                C Tryz.prog 17 #[Value.pointer x, Value.agg #[Value.int IntKind.i64 0, Value.int IntKind.i64 4, Value.int IntKind.i64 2]] h' fun (r : Value) (h' : Heap) =>
                  ∃ (x_3 : Option Addr),
                    ∃ (x_4 : Int),
                      r = Value.tuple #[Value.pointer x_3, Value.int IntKind.i64 x_4] ∧
                        xsIf (decide (x_1 ≠ 0)) (Q (Value.bool false) h')
                          (xsIf (decide (x_2 ≠ 0)) (Q (Value.bool false) h')
                            (xsIf (decide (x_4 ≠ 0)) (Q (Value.bool false) h')
                              (C Tryz.prog 25 #[Value.agg #[Value.int IntKind.i64 0, Value.int IntKind.i64 4, Value.int IntKind.i64 2]] h' fun (r : Value) (h' : Heap) =>
                                ∃ (x_5 : Int), r = Value.int IntKind.i64 x_5 ∧ xsIf (decide (x_5 ≠ 7)) (Q (Value.bool false) h') (gabionlaw05_wakes.J7 x x_3 h' Q))))
def gabionlaw05_wakes.J7.wp (d : Option Addr) (b : Option Addr) (h : Heap) (Q : Value → Heap → Prop) : Prop :=
  C Tryz.prog 14 #[Value.pointer d, Value.int IntKind.i64 1] h fun (r : Value) (h' : Heap) =>
    C Tryz.prog 16 #[Value.string { data := #[UInt8.ofNat 97, UInt8.ofNat 98, UInt8.ofNat 99] }] h' fun (r : Value) (h' : Heap) =>
      ∃ (x : ByteArray),
        r = Value.string x ∧
          C Tryz.prog 15 #[Value.pointer b, Value.int IntKind.i64 0, Value.string x] h' fun (r : Value) (h' : Heap) =>
            ∃ (x : Int),
              r = Value.int IntKind.i64 x ∧
                C Tryz.prog 21 #[Value.pointer b, Value.int IntKind.i64 0] h' fun (r : Value) (h' : Heap) =>
                  ∃ (x_1 : Int),
                    ∃ (x_2 : Int),
                      r = Value.tuple #[Value.int IntKind.i64 x_1, Value.int IntKind.i64 x_2] ∧
                        C Tryz.prog 20 #[Value.pointer b, Value.int IntKind.i64 0] h' fun (r : Value) (h' : Heap) =>
                          ∃ (x_3 : ByteArray),
                            ∃ (x_4 : Int),
                              r = Value.tuple #[Value.string x_3, Value.int IntKind.i64 x_4] ∧
                                xsIf (decide (x = 0))
                                  (xsIf (decide (x_2 = 0))
                                    (xsIf (decide (x_1 = 5))
                                      (xsIf (decide (x_4 = 0))
                                        (C Tryz.prog 16 #[Value.string { data := #[UInt8.ofNat 97, UInt8.ofNat 98, UInt8.ofNat 99] }] h' fun (r : Value) (h' : Heap) =>
                                          ∃ (x : ByteArray),
                                            r = Value.string x ∧
                                              xsIf (decide (x_3 = x))
                                                (C Tryz.prog 18 #[Value.pointer b] h' fun (r : Value) (h' : Heap) =>
                                                  ∃ (x : Int),
                                                    r = Value.int IntKind.i64 x ∧
                                                      xsIf (decide (x = 1)) (C Tryz.prog 19 #[Value.pointer b] h' fun (r : Value) (h' : Heap) => ∃ (x : Int), r = Value.int IntKind.i64 x ∧ Q (Value.bool (decide (x = 4))) h')
                                                        (Q (Value.bool false) h'))
                                                (Q (Value.bool false) h'))
                                        (Q (Value.bool false) h'))
                                      (Q (Value.bool false) h'))
                                    (Q (Value.bool false) h'))
                                  (Q (Value.bool false) h')
theorem gabionlaw05_wakes.ok {h : Heap} {Q : Value → Heap → Prop} (hk : gabionlaw05_wakes.wp h Q) : C Tryz.prog 13 #[] h Q :=
  C_of_xs (H := gabionlaw05_wakes.H) (lcuts := gabionlaw05_wakes.lc) (rcuts := gabionlaw05_wakes.rc) (l := []) 2000 mixed Tryz.func13 rfl (by kernel_rfl) (@cast (gabionlaw05_wakes.wp h Q) _ (by kernel_rfl) hk)
theorem gabionlaw05_wakes.J7.ok {d : Option Addr} {b : Option Addr} {h : Heap} {Q : Value → Heap → Prop} (hk : gabionlaw05_wakes.J7.wp d b h Q) : gabionlaw05_wakes.J7 d b h Q :=
  xs_ok (H := gabionlaw05_wakes.H) (lcuts := gabionlaw05_wakes.lc) (rcuts := []) (fn := Tryz.f13) mixed Tryz.func13 2000 _ _ _ (@cast (gabionlaw05_wakes.J7.wp d b h Q) _ (by kernel_rfl) hk)

/-! (*gabion/pm.Device).Fuse -/
def pm_Device_Fuse.H : Hn := ⟨[], [], [], []⟩
def pm_Device_Fuse.lc : List Cut := []
def pm_Device_Fuse.rc : List Cut := []
def pm_Device_Fuse.wp (d : Option Addr) (n : Int) (h : Heap) (Q : Value → Heap → Prop) : Prop :=
  xsIf (!d.isNone) (atBase d fun (b o : Nat) => h.can b (o + 4) 1 ∧ Q (Value.tuple #[]) (h.put b (o + 4) [Value.int IntKind.i64 (imax n 0)])) (Q (Value.tuple #[]) h)
theorem pm_Device_Fuse.ok {d : Option Addr} {n : Int} {h : Heap} {Q : Value → Heap → Prop} (hk : pm_Device_Fuse.wp d n h Q) : C Tryz.prog 35 #[.pointer d, .int .i64 n] h Q :=
  C_of_xs (H := pm_Device_Fuse.H) (lcuts := pm_Device_Fuse.lc) (rcuts := pm_Device_Fuse.rc) (l := [.pointer d, .int .i64 n]) 2000 mixed Tryz.func35 rfl (by kernel_rfl) (@cast (pm_Device_Fuse.wp d n h Q) _ (by kernel_rfl) hk)

/-! (*gabion/spare.Bank).WriteWord -/
def spare_Bank_WriteWord.H : Hn := ⟨[], [], [⟨11, .q 0 (.q 1 (.q 2 (.q 3 (.q 4 (.q 7 (.q 8 (.q 9 (.q 10 (.q 11 (.q 5 (.q 6 (.q 12 (.q 13 (.nil)))))))))))))), []⟩], []⟩
def spare_Bank_WriteWord.lc : List Cut := []
def spare_Bank_WriteWord.rc : List Cut := []
def spare_Bank_WriteWord.wp (b : Option Addr) (i : Int) (k0 : Int) (v : Int) (h : Heap) (Q : Value → Heap → Prop) : Prop :=
  C Tryz.prog 21 #[Value.pointer b, Value.int IntKind.i64 i] h fun (r : Value) (h' : Heap) =>
    ∃ (x : Int),
      ∃ (x_1 : Int),
        r = Value.tuple #[Value.int IntKind.i64 x, Value.int IntKind.i64 x_1] ∧
          xsIf (decide (x_1 = 1)) (Q (Value.int IntKind.i64 x_1) h')
            (xsIf (decide (k0 < 0)) (Q (Value.int IntKind.i64 2) h')
              (xsIf (decide (8 ≤ k0)) (Q (Value.int IntKind.i64 2) h')
                (xsIf (decide (x_1 ≠ 0)) (Q (Value.int IntKind.i64 x_1) h')
                  (atBase b fun (b_1 o : Nat) =>
                    ∃ (x_2 : Option Addr),
                      h'.cell b_1 (o + 0) = some (Value.pointer x_2) ∧
                        C Tryz.prog 66 #[Value.pointer x_2, Value.int IntKind.i64 x] h' fun (r : Value) (h' : Heap) =>
                          ∃ (x_3 : ByteArray),
                            ∃ (x_4 : Int),
                              r = Value.tuple #[Value.string x_3, Value.int IntKind.i64 x_4] ∧
                                xsIf (decide (x_4 ≠ 0)) (Q (Value.int IntKind.i64 x_4) h')
                                  ((0 ≤ IntKind.i64.wrap (8 * k0) ∧ IntKind.i64.wrap (8 * k0) ≤ (↑x_3.size : Int)) ∧
                                    (0 ≤ IntKind.i64.wrap (8 * IntKind.i64.wrap (k0 + 1)) ∧ IntKind.i64.wrap (8 * IntKind.i64.wrap (k0 + 1)) ≤ (↑x_3.size : Int)) ∧
                                      C Tryz.prog 72 #[Value.int IntKind.u64 v, Value.int IntKind.i64 8] h' fun (r : Value) (h' : Heap) =>
                                        ∃ (x_5 : ByteArray),
                                          r = Value.string x_5 ∧
                                            (↑((sext x_3 0 (IntKind.i64.wrap (8 * k0))).size + x_5.size) : Int) ≤ 9223372036854775807 ∧
                                              (↑((sext x_3 0 (IntKind.i64.wrap (8 * k0)) ++ x_5).size + (sext x_3 (IntKind.i64.wrap (8 * IntKind.i64.wrap (k0 + 1))) (↑x_3.size : Int)).size) : Int) ≤ 9223372036854775807 ∧
                                                atBase b fun (b_2 o : Nat) =>
                                                  ∃ (x_6 : Option Addr),
                                                    h'.cell b_2 (o + 0) = some (Value.pointer x_6) ∧
                                                      C Tryz.prog 73 #[Value.pointer x_6, Value.int IntKind.i64 x, Value.int IntKind.i64 k0, Value.int IntKind.u64 v] h' fun (r : Value) (h' : Heap) =>
                                                        ∃ (x_7 : Int),
                                                          r = Value.int IntKind.i64 x_7 ∧
                                                            xsIf (decide (x_7 ≠ 0)) (Q (Value.int IntKind.i64 x_7) h')
                                                              (atBase b fun (b_3 o : Nat) =>
                                                                ∃ (x_8 : Option Addr),
                                                                  h'.cell b_3 (o + 0) = some (Value.pointer x_8) ∧
                                                                    C Tryz.prog 60
                                                                      #[Value.pointer x_8, Value.int IntKind.i64 x,
                                                                            Value.string (sext x_3 0 (IntKind.i64.wrap (8 * k0)) ++ x_5 ++ sext x_3 (IntKind.i64.wrap (8 * IntKind.i64.wrap (k0 + 1))) (↑x_3.size : Int))]
                                                                      h' fun (r : Value) (h' : Heap) =>
                                                                      ∃ (x : Bool),
                                                                        r = Value.bool x ∧
                                                                          xsIf x (Q (Value.int IntKind.i64 0) h')
                                                                            (C Tryz.prog 61
                                                                              #[Value.pointer b, Value.int IntKind.i64 i,
                                                                                    Value.string (sext x_3 0 (IntKind.i64.wrap (8 * k0)) ++ x_5 ++ sext x_3 (IntKind.i64.wrap (8 * IntKind.i64.wrap (k0 + 1))) (↑x_3.size : Int))]
                                                                              h' fun (r : Value) (h' : Heap) => ∃ (x : Int), r = Value.int IntKind.i64 x ∧ Q (Value.int IntKind.i64 x) h')))))))
theorem spare_Bank_WriteWord.ok {b : Option Addr} {i : Int} {k0 : Int} {v : Int} {h : Heap} {Q : Value → Heap → Prop} (hk : spare_Bank_WriteWord.wp b i k0 v h Q) : C Tryz.prog 28 #[.pointer b, .int .i64 i, .int .i64 k0, .int .u64 v] h Q :=
  C_of_xs (H := spare_Bank_WriteWord.H) (lcuts := spare_Bank_WriteWord.lc) (rcuts := spare_Bank_WriteWord.rc) (l := [.pointer b, .int .i64 i, .int .i64 k0, .int .u64 v]) 2000 mixed Tryz.func28 rfl (by kernel_rfl) (@cast (spare_Bank_WriteWord.wp b i k0 v h Q) _ (by kernel_rfl) hk)

/-! (*gabion/pm.Device).Boot -/
def pm_Device_Boot.H : Hn := ⟨[], [], [], []⟩
def pm_Device_Boot.lc : List Cut := [⟨3, [0, 1, 4, 10, 11, 12], []⟩]
def pm_Device_Boot.rc : List Cut := [⟨7, [0, 1, 4, 10, 11, 12], []⟩]
def pm_Device_Boot.L3 (d : Option Addr) (keep : Option Addr) (keep_n : Nat) (keep_c : Nat) (kept : Option Addr) (kept_n : Nat) (kept_c : Nat) (t10 : Option Addr) (t10_n : Nat) (t10_c : Nat) (t11 : Int) (t12 : Int) (h : Heap) (Q : Value → Heap → Prop) : Prop :=
  TW Tryz.prog 36 45 [.code (cAt (bodyOf Tryz.f36) [1, 1, 0, 1, 0, 0]), .inLoop (cAt (bodyOf Tryz.f36) [1, 1, 0, 1, 0, 0]), .inBlock 0, .code (cAt (bodyOf Tryz.f36) [1, 1, 1])] ⟨[(0, .v (.pointer d)), (1, .v (.slice keep keep_n keep_c)), (4, .v (.slice kept kept_n kept_c)), (10, .v (.slice t10 t10_n t10_c)), (11, .v (.int .i64 t11)), (12, .v (.int .i64 t12))], []⟩ h Q
def pm_Device_Boot.J7 (d : Option Addr) (keep : Option Addr) (keep_n : Nat) (keep_c : Nat) (kept : Option Addr) (kept_n : Nat) (kept_c : Nat) (t10 : Option Addr) (t10_n : Nat) (t10_c : Nat) (t11 : Int) (t12 : Int) (h : Heap) (Q : Value → Heap → Prop) : Prop :=
  TW Tryz.prog 36 45 [.code (cAt (bodyOf Tryz.f36) [1, 1, 0, 1, 0, 0, 1, 1, 1]), .inLoop (cAt (bodyOf Tryz.f36) [1, 1, 0, 1, 0, 0]), .inBlock 0, .code (cAt (bodyOf Tryz.f36) [1, 1, 1])] ⟨[(0, .v (.pointer d)), (1, .v (.slice keep keep_n keep_c)), (4, .v (.slice kept kept_n kept_c)), (10, .v (.slice t10 t10_n t10_c)), (11, .v (.int .i64 t11)), (12, .v (.int .i64 t12))], []⟩ h Q
def pm_Device_Boot.wp (d : Option Addr) (keep : Option Addr) (keep_n : Nat) (keep_c : Nat) (h : Heap) (Q : Value → Heap → Prop) : Prop :=
  xsIf d.isNone (Q (Value.tuple #[]) h)
    (C Tryz.prog 83 #[Value.pointer d] h fun (r : Value) (h' : Heap) => ∃ (x : Option Addr), ∃ (n : Nat), ∃ (m : Nat), r = Value.slice x n m ∧ pm_Device_Boot.L3 d keep keep_n keep_c none 0 0 x n m (↑n : Int) 0 h' Q)
def pm_Device_Boot.L3.wp (d : Option Addr) (keep : Option Addr) (keep_n : Nat) (keep_c : Nat) (kept : Option Addr) (kept_n : Nat) (kept_c : Nat) (t10 : Option Addr) (t10_n : Nat) (t10_c : Nat) (t11 : Int) (t12 : Int) (h : Heap) (Q : Value → Heap → Prop) : Prop :=
  xsIf (decide (t12 < t11))
    ((0 ≤ t12 ∧ t12 < (↑t10_n : Int)) ∧
      atBase t10 fun (b o : Nat) =>
        ∃ (x : Int),
          h.cell b (o + t12.toNat * 1) = some (Value.int IntKind.i64 x) ∧
            xsIf (decide (t12 < (↑keep_n : Int)))
              ((0 ≤ t12 ∧ t12 < (↑keep_n : Int)) ∧
                atBase keep fun (b o : Nat) =>
                  ∃ (x_1 : Bool),
                    h.cell b (o + t12.toNat * 1) = some (Value.bool x_1) ∧
                      xsIf x_1
                        (∀ (b : Nat),
                          h b = none →
                            xsApp Tryz.prog 3 (upd h b (Obj.cells #[Value.int IntKind.i64 x] 3 (0, 0))) kept kept_n kept_c (some { block := b, off := 0 }) 1 fun (a' : Option Addr) (n' c' : Nat) (h' : Heap) =>
                              pm_Device_Boot.J7 d keep keep_n keep_c a' n' c' t10 t10_n t10_c t11 t12 h' Q)
                        (pm_Device_Boot.J7 d keep keep_n keep_c kept kept_n kept_c t10 t10_n t10_c t11 t12 h Q))
              (pm_Device_Boot.J7 d keep keep_n keep_c kept kept_n kept_c t10 t10_n t10_c t11 t12 h Q))
    (C Tryz.prog 84 #[Value.pointer d, Value.slice kept kept_n kept_c] h fun (r : Value) (h' : Heap) =>
      atBase d fun (b o : Nat) =>
        ∃ (x : Option Nat),
          h'.cell b (o + 1) = some (Value.map x) ∧
            atMap x fun (r : Nat) =>
              ∃ (l : List (Int × Value × Nat)),
                ∃ (c : Nat),
                  h' r = some (mapO (Value.int IntKind.i64) l c) ∧
                    atBase d fun (b o : Nat) =>
                      (upd h' r (mapO (Value.int IntKind.i64) [] c)).can b (o + 5) 1 ∧
                        atBase d fun (b_1 o_1 : Nat) =>
                          ((upd h' r (mapO (Value.int IntKind.i64) [] c)).put b (o + 5) [Value.bool false]).can b_1 (o_1 + 4) 1 ∧
                            Q (Value.tuple #[]) (((upd h' r (mapO (Value.int IntKind.i64) [] c)).put b (o + 5) [Value.bool false]).put b_1 (o_1 + 4) [Value.int IntKind.i64 0]))
def pm_Device_Boot.J7.wp (d : Option Addr) (keep : Option Addr) (keep_n : Nat) (keep_c : Nat) (kept : Option Addr) (kept_n : Nat) (kept_c : Nat) (t10 : Option Addr) (t10_n : Nat) (t10_c : Nat) (t11 : Int) (t12 : Int) (h : Heap) (Q : Value → Heap → Prop) : Prop :=
  pm_Device_Boot.L3 d keep keep_n keep_c kept kept_n kept_c t10 t10_n t10_c t11 (IntKind.i64.wrap (t12 + 1)) h Q
theorem pm_Device_Boot.ok {d : Option Addr} {keep : Option Addr} {keep_n : Nat} {keep_c : Nat} {h : Heap} {Q : Value → Heap → Prop} (hk : pm_Device_Boot.wp d keep keep_n keep_c h Q) : C Tryz.prog 36 #[.pointer d, .slice keep keep_n keep_c] h Q :=
  C_of_xs (H := pm_Device_Boot.H) (lcuts := pm_Device_Boot.lc) (rcuts := pm_Device_Boot.rc) (l := [.pointer d, .slice keep keep_n keep_c]) 2000 mixed Tryz.func36 rfl (by kernel_rfl) (@cast (pm_Device_Boot.wp d keep keep_n keep_c h Q) _ (by kernel_rfl) hk)
theorem pm_Device_Boot.L3.ok {d : Option Addr} {keep : Option Addr} {keep_n : Nat} {keep_c : Nat} {kept : Option Addr} {kept_n : Nat} {kept_c : Nat} {t10 : Option Addr} {t10_n : Nat} {t10_c : Nat} {t11 : Int} {t12 : Int} {h : Heap} {Q : Value → Heap → Prop} (hk : pm_Device_Boot.L3.wp d keep keep_n keep_c kept kept_n kept_c t10 t10_n t10_c t11 t12 h Q) : pm_Device_Boot.L3 d keep keep_n keep_c kept kept_n kept_c t10 t10_n t10_c t11 t12 h Q :=
  xs_ok (H := pm_Device_Boot.H) (lcuts := pm_Device_Boot.lc) (rcuts := pm_Device_Boot.rc) (fn := Tryz.f36) mixed Tryz.func36 2000 _ _ _ (@cast (pm_Device_Boot.L3.wp d keep keep_n keep_c kept kept_n kept_c t10 t10_n t10_c t11 t12 h Q) _ (by kernel_rfl) hk)
theorem pm_Device_Boot.J7.ok {d : Option Addr} {keep : Option Addr} {keep_n : Nat} {keep_c : Nat} {kept : Option Addr} {kept_n : Nat} {kept_c : Nat} {t10 : Option Addr} {t10_n : Nat} {t10_c : Nat} {t11 : Int} {t12 : Int} {h : Heap} {Q : Value → Heap → Prop} (hk : pm_Device_Boot.J7.wp d keep keep_n keep_c kept kept_n kept_c t10 t10_n t10_c t11 t12 h Q) : pm_Device_Boot.J7 d keep keep_n keep_c kept kept_n kept_c t10 t10_n t10_c t11 t12 h Q :=
  xs_ok (H := pm_Device_Boot.H) (lcuts := pm_Device_Boot.lc) (rcuts := []) (fn := Tryz.f36) mixed Tryz.func36 2000 _ _ _ (@cast (pm_Device_Boot.J7.wp d keep keep_n keep_c kept kept_n kept_c t10 t10_n t10_c t11 t12 h Q) _ (by kernel_rfl) hk)

/-! gabion/line.Mixed -/
def line_Mixed.H : Hn := ⟨[], [7, 9], [], []⟩
def line_Mixed.lc : List Cut := [⟨7, [7, 9, 40, 41], [7, 9]⟩]
def line_Mixed.rc : List Cut := [⟨6, [7, 9, 11], [7, 9, 11]⟩]
def line_Mixed.J6 (a : List Value) (b : List Value) (c_0 : Int) (c_1 : Int) (c_2 : Int) (c_3 : Int) (c_4 : Int) (c_5 : Int) (c_6 : Int) (c_7 : Int) (h : Heap) (Q : Value → Heap → Prop) : Prop :=
  TW Tryz.prog 39 58 [.code (cAt (bodyOf Tryz.f39) [1, 1, 1, 1, 1, 0, 0]), .code (cAt (bodyOf Tryz.f39) [1, 1, 1, 1, 1, 0, 1]), .code (cAt (bodyOf Tryz.f39) [1, 1, 1, 1, 1, 1])] ⟨[(7, .p 7 0), (9, .p 9 0), (11, .p 11 0)], [(7, a), (9, b), (11, [.int .u64 c_0, .int .u64 c_1, .int .u64 c_2, .int .u64 c_3, .int .u64 c_4, .int .u64 c_5, .int .u64 c_6, .int .u64 c_7])]⟩ h Q
def line_Mixed.L7 (t40_0 : Int) (t40_1 : Int) (t40_2 : Int) (t40_3 : Int) (t40_4 : Int) (t40_5 : Int) (t40_6 : Int) (t40_7 : Int) (t41 : Int) (a : List Value) (b : List Value) (h : Heap) (Q : Value → Heap → Prop) : Prop :=
  TW Tryz.prog 39 58 [.code (cAt (bodyOf Tryz.f39) [1, 1, 1, 1, 1, 0, 1, 0, 0]), .inLoop (cAt (bodyOf Tryz.f39) [1, 1, 1, 1, 1, 0, 1, 0, 0]), .inBlock 0, .code (cAt (bodyOf Tryz.f39) [1, 1, 1, 1, 1, 1])] ⟨[(7, .p 7 0), (9, .p 9 0), (40, .v (.agg #[.int .u64 t40_0, .int .u64 t40_1, .int .u64 t40_2, .int .u64 t40_3, .int .u64 t40_4, .int .u64 t40_5, .int .u64 t40_6, .int .u64 t40_7])), (41, .v (.int .i64 t41))], [(7, a), (9, b)]⟩ h Q
def line_Mixed.wp (was : ByteArray) (is0 : ByteArray) (got : ByteArray) (h : Heap) (Q : Value → Heap → Prop) : Prop :=
  C Tryz.prog 86 #[Value.string was] h fun (r : Value) (h' : Heap) =>
    ∃ (x : Int),
      ∃ (x_1 : Int),
        ∃ (x_2 : Int),
          ∃ (x_3 : Int),
            ∃ (x_4 : Int),
              ∃ (x_5 : Int),
                ∃ (x_6 : Int),
                  ∃ (x_7 : Int),
                    ∃ (x_8 : Int),
                      r =
                          Value.tuple
                            #[Value.agg
                                    #[Value.int IntKind.u64 x, Value.int IntKind.u64 x_1, Value.int IntKind.u64 x_2, Value.int IntKind.u64 x_3, Value.int IntKind.u64 x_4, Value.int IntKind.u64 x_5, Value.int IntKind.u64 x_6,
                                          Value.int IntKind.u64 x_7],
                                  Value.int IntKind.i64 x_8] ∧
                        8 ≤ 8 ∧
                          C Tryz.prog 86 #[Value.string is0] h' fun (r : Value) (h' : Heap) =>
                            ∃ (x_9 : Int),
                              ∃ (x_10 : Int),
                                ∃ (x_11 : Int),
                                  ∃ (x_12 : Int),
                                    ∃ (x_13 : Int),
                                      ∃ (x_14 : Int),
                                        ∃ (x_15 : Int),
                                          ∃ (x_16 : Int),
                                            ∃ (x_17 : Int),
                                              r =
                                                  Value.tuple
                                                    #[Value.agg
                                                            #[Value.int IntKind.u64 x_9, Value.int IntKind.u64 x_10, Value.int IntKind.u64 x_11, Value.int IntKind.u64 x_12, Value.int IntKind.u64 x_13, Value.int IntKind.u64 x_14,
                                                                  Value.int IntKind.u64 x_15, Value.int IntKind.u64 x_16],
                                                          Value.int IntKind.i64 x_17] ∧
                                                8 ≤ 8 ∧
                                                  C Tryz.prog 86 #[Value.string got] h' fun (r : Value) (h' : Heap) =>
                                                    ∃ (x_18 : Int),
                                                      ∃ (x_19 : Int),
                                                        ∃ (x_20 : Int),
                                                          ∃ (x_21 : Int),
                                                            ∃ (x_22 : Int),
                                                              ∃ (x_23 : Int),
                                                                ∃ (x_24 : Int),
                                                                  ∃ (x_25 : Int),
                                                                    ∃ (x_26 : Int),
                                                                      r =
                                                                          Value.tuple
                                                                            #[Value.agg
                                                                                    #[Value.int IntKind.u64 x_18, Value.int IntKind.u64 x_19, Value.int IntKind.u64 x_20, Value.int IntKind.u64 x_21, Value.int IntKind.u64 x_22,
                                                                                          Value.int IntKind.u64 x_23, Value.int IntKind.u64 x_24, Value.int IntKind.u64 x_25],
                                                                                  Value.int IntKind.i64 x_26] ∧
                                                                        xsIf (decide (x_8 ≠ 0)) (Q (Value.bool false) h')
                                                                          (xsIf (decide (x_17 ≠ 0)) (Q (Value.bool false) h')
                                                                            (xsIf (decide (x_26 ≠ 0)) (Q (Value.bool false) h')
                                                                              (line_Mixed.J6
                                                                                (lput
                                                                                  [Value.int IntKind.u64 0, Value.int IntKind.u64 0, Value.int IntKind.u64 0, Value.int IntKind.u64 0, Value.int IntKind.u64 0, Value.int IntKind.u64 0,
                                                                                    Value.int IntKind.u64 0, Value.int IntKind.u64 0]
                                                                                  0
                                                                                  [Value.int IntKind.u64 x, Value.int IntKind.u64 x_1, Value.int IntKind.u64 x_2, Value.int IntKind.u64 x_3, Value.int IntKind.u64 x_4, Value.int IntKind.u64 x_5,
                                                                                    Value.int IntKind.u64 x_6, Value.int IntKind.u64 x_7])
                                                                                (lput
                                                                                  [Value.int IntKind.u64 0, Value.int IntKind.u64 0, Value.int IntKind.u64 0, Value.int IntKind.u64 0, Value.int IntKind.u64 0, Value.int IntKind.u64 0,
                                                                                    Value.int IntKind.u64 0, Value.int IntKind.u64 0]
                                                                                  0
                                                                                  [Value.int IntKind.u64 x_9, Value.int IntKind.u64 x_10, Value.int IntKind.u64 x_11, Value.int IntKind.u64 x_12, Value.int IntKind.u64 x_13,
                                                                                    Value.int IntKind.u64 x_14, Value.int IntKind.u64 x_15, Value.int IntKind.u64 x_16])
                                                                                x_18 x_19 x_20 x_21 x_22 x_23 x_24 x_25 h' Q)))
def line_Mixed.J6.wp (a : List Value) (b : List Value) (c_0 : Int) (c_1 : Int) (c_2 : Int) (c_3 : Int) (c_4 : Int) (c_5 : Int) (c_6 : Int) (c_7 : Int) (h : Heap) (Q : Value → Heap → Prop) : Prop :=
  line_Mixed.L7 c_0 c_1 c_2 c_3 c_4 c_5 c_6 c_7 0 a b h Q
def line_Mixed.L7.wp (t40_0 : Int) (t40_1 : Int) (t40_2 : Int) (t40_3 : Int) (t40_4 : Int) (t40_5 : Int) (t40_6 : Int) (t40_7 : Int) (t41 : Int) (a : List Value) (b : List Value) (h : Heap) (Q : Value → Heap → Prop) : Prop :=
  xsIf (decide (t41 < 8))
    ((0 ≤ t41 ∧ t41 < (↑8 : Int)) ∧
      ∃ (x : Int),
        lget
              [Value.int IntKind.u64 t40_0, Value.int IntKind.u64 t40_1, Value.int IntKind.u64 t40_2, Value.int IntKind.u64 t40_3, Value.int IntKind.u64 t40_4, Value.int IntKind.u64 t40_5, Value.int IntKind.u64 t40_6,
                Value.int IntKind.u64 t40_7]
              (t41.toNat * 1) =
            some (Value.int IntKind.u64 x) ∧
          (0 ≤ t41 ∧ t41 < (↑8 : Int)) ∧
            ∃ (x_1 : Int),
              lget a (0 + t41.toNat * 1) = some (Value.int IntKind.u64 x_1) ∧
                xsIf (decide (x ≠ x_1))
                  ((0 ≤ t41 ∧ t41 < (↑8 : Int)) ∧
                    ∃ (x_2 : Int),
                      lget b (0 + t41.toNat * 1) = some (Value.int IntKind.u64 x_2) ∧ xsIf (decide (x ≠ x_2)) (Q (Value.bool false) h) (line_Mixed.L7 t40_0 t40_1 t40_2 t40_3 t40_4 t40_5 t40_6 t40_7 (IntKind.i64.wrap (t41 + 1)) a b h Q))
                  (line_Mixed.L7 t40_0 t40_1 t40_2 t40_3 t40_4 t40_5 t40_6 t40_7 (IntKind.i64.wrap (t41 + 1)) a b h Q))
    (Q (Value.bool true) h)
theorem line_Mixed.ok {was : ByteArray} {is0 : ByteArray} {got : ByteArray} {h : Heap} {Q : Value → Heap → Prop} (hk : line_Mixed.wp was is0 got h Q) : C Tryz.prog 39 #[.string was, .string is0, .string got] h Q :=
  C_of_xs (H := line_Mixed.H) (lcuts := line_Mixed.lc) (rcuts := line_Mixed.rc) (l := [.string was, .string is0, .string got]) 2000 mixed Tryz.func39 rfl (by kernel_rfl) (@cast (line_Mixed.wp was is0 got h Q) _ (by kernel_rfl) hk)
theorem line_Mixed.J6.ok {a : List Value} {b : List Value} {c_0 : Int} {c_1 : Int} {c_2 : Int} {c_3 : Int} {c_4 : Int} {c_5 : Int} {c_6 : Int} {c_7 : Int} {h : Heap} {Q : Value → Heap → Prop} (hk : line_Mixed.J6.wp a b c_0 c_1 c_2 c_3 c_4 c_5 c_6 c_7 h Q) : line_Mixed.J6 a b c_0 c_1 c_2 c_3 c_4 c_5 c_6 c_7 h Q :=
  xs_ok (H := line_Mixed.H) (lcuts := line_Mixed.lc) (rcuts := []) (fn := Tryz.f39) mixed Tryz.func39 2000 _ _ _ (@cast (line_Mixed.J6.wp a b c_0 c_1 c_2 c_3 c_4 c_5 c_6 c_7 h Q) _ (by kernel_rfl) hk)
theorem line_Mixed.L7.ok {t40_0 : Int} {t40_1 : Int} {t40_2 : Int} {t40_3 : Int} {t40_4 : Int} {t40_5 : Int} {t40_6 : Int} {t40_7 : Int} {t41 : Int} {a : List Value} {b : List Value} {h : Heap} {Q : Value → Heap → Prop} (hk : line_Mixed.L7.wp t40_0 t40_1 t40_2 t40_3 t40_4 t40_5 t40_6 t40_7 t41 a b h Q) : line_Mixed.L7 t40_0 t40_1 t40_2 t40_3 t40_4 t40_5 t40_6 t40_7 t41 a b h Q :=
  xs_ok (H := line_Mixed.H) (lcuts := line_Mixed.lc) (rcuts := line_Mixed.rc) (fn := Tryz.f39) mixed Tryz.func39 2000 _ _ _ (@cast (line_Mixed.L7.wp t40_0 t40_1 t40_2 t40_3 t40_4 t40_5 t40_6 t40_7 t41 a b h Q) _ (by kernel_rfl) hk)

/-! gabion/gabionlaw05.SpareTorn -/
def gabionlaw05_SpareTorn.H : Hn := ⟨[], [], [⟨19, .q 0 (.q 1 (.q 5 (.q 6 (.q 2 (.q 3 (.q 4 (.q 7 (.q 8 (.q 9 (.q 10 (.nil))))))))))), []⟩], []⟩
def gabionlaw05_SpareTorn.lc : List Cut := [⟨3, [0, 4, 5, 7, 28], [4, 5, 7]⟩, ⟨12, [0, 4, 5, 7, 8, 9, 11, 28, 73, 74, 75], [4, 5, 7]⟩, ⟨26, [0, 4, 5, 7, 8, 9, 15, 16, 17, 28, 115], [4, 5, 7]⟩]
def gabionlaw05_SpareTorn.rc : List Cut := [⟨8, [0, 4, 5, 7, 8, 9, 28], [4, 5, 7]⟩, ⟨11, [0, 4, 5, 7, 8, 9, 11, 28], [4, 5, 7]⟩, ⟨20, [0, 4, 5, 7, 8, 9, 11, 15, 28], [4, 5, 7]⟩, ⟨24, [0, 4, 5, 7, 8, 9, 15, 16, 28], [4, 5, 7]⟩, ⟨34, [0, 4, 5, 7, 8, 15, 16, 19, 28], [4, 5, 7]⟩, ⟨39, [0, 4, 5, 7, 8, 15, 16, 21, 28], [4, 5, 7]⟩, ⟨41, [], []⟩]
def gabionlaw05_SpareTorn.L3 (bad : Option Addr) (bad_n : Nat) (bad_c : Nat) (t28 : Int) (s_4_0 : ByteArray) (s_4_1 : ByteArray) (cut_5_0 : Int) (cut_5_1 : Int) (cut_5_2 : Int) (p_0 : Int) (p_1 : Int) (p_2 : Int) (h : Heap) (Q : Value → Heap → Prop) : Prop :=
  TW Tryz.prog 6 234 [.code (cAt (bodyOf Tryz.f6) [1, 1, 0, 1, 0, 0]), .inLoop (cAt (bodyOf Tryz.f6) [1, 1, 0, 1, 0, 0]), .inBlock 0, .code (cAt (bodyOf Tryz.f6) [1, 1, 1])] ⟨[(0, .v (.slice bad bad_n bad_c)), (4, .p 4 0), (5, .p 5 0), (7, .p 7 0), (28, .v (.int .i64 t28))], [(4, [.string s_4_0, .string s_4_1]), (5, [.int .u8 cut_5_0, .int .u8 cut_5_1, .int .u8 cut_5_2]), (7, [.int .i64 p_0, .int .i64 p_1, .int .i64 p_2])]⟩ h Q
def gabionlaw05_SpareTorn.J8 (bad : Option Addr) (bad_n : Nat) (bad_c : Nat) (turn : Int) (d : Option Addr) (t28 : Int) (s_4_0 : ByteArray) (s_4_1 : ByteArray) (cut_5_0 : Int) (cut_5_1 : Int) (cut_5_2 : Int) (p_0 : Int) (p_1 : Int) (p_2 : Int) (h : Heap) (Q : Value → Heap → Prop) : Prop :=
  TW Tryz.prog 6 234 [.code (cAt (bodyOf Tryz.f6) [1, 1, 0, 1, 0, 0, 1, 1, 0, 0, 1, 1, 1, 0]), .code (cAt (bodyOf Tryz.f6) [1, 1, 0, 1, 0, 0, 1, 1, 0, 0, 1, 1, 1, 1]), .inBlock 1, .code (cAt (bodyOf Tryz.f6) [1, 1, 0, 1, 0, 0, 1, 1, 1]), .inLoop (cAt (bodyOf Tryz.f6) [1, 1, 0, 1, 0, 0]), .inBlock 0, .code (cAt (bodyOf Tryz.f6) [1, 1, 1])] ⟨[(0, .v (.slice bad bad_n bad_c)), (4, .p 4 0), (5, .p 5 0), (7, .p 7 0), (8, .v (.int .i64 turn)), (9, .v (.pointer d)), (28, .v (.int .i64 t28))], [(4, [.string s_4_0, .string s_4_1]), (5, [.int .u8 cut_5_0, .int .u8 cut_5_1, .int .u8 cut_5_2]), (7, [.int .i64 p_0, .int .i64 p_1, .int .i64 p_2])]⟩ h Q
def gabionlaw05_SpareTorn.J11 (bad : Option Addr) (bad_n : Nat) (bad_c : Nat) (turn : Int) (d : Option Addr) (b : Option Addr) (t28 : Int) (s_4_0 : ByteArray) (s_4_1 : ByteArray) (cut_5_0 : Int) (cut_5_1 : Int) (cut_5_2 : Int) (p_0 : Int) (p_1 : Int) (p_2 : Int) (h : Heap) (Q : Value → Heap → Prop) : Prop :=
  TW Tryz.prog 6 234 [.code (cAt (bodyOf Tryz.f6) [1, 1, 0, 1, 0, 0, 1, 1, 0, 0, 1, 1, 1, 1, 1, 0, 0]), .code (cAt (bodyOf Tryz.f6) [1, 1, 0, 1, 0, 0, 1, 1, 0, 0, 1, 1, 1, 1, 1, 0, 1]), .code (cAt (bodyOf Tryz.f6) [1, 1, 0, 1, 0, 0, 1, 1, 0, 0, 1, 1, 1, 1, 1, 1]), .inBlock 1, .code (cAt (bodyOf Tryz.f6) [1, 1, 0, 1, 0, 0, 1, 1, 1]), .inLoop (cAt (bodyOf Tryz.f6) [1, 1, 0, 1, 0, 0]), .inBlock 0, .code (cAt (bodyOf Tryz.f6) [1, 1, 1])] ⟨[(0, .v (.slice bad bad_n bad_c)), (4, .p 4 0), (5, .p 5 0), (7, .p 7 0), (8, .v (.int .i64 turn)), (9, .v (.pointer d)), (11, .v (.pointer b)), (28, .v (.int .i64 t28))], [(4, [.string s_4_0, .string s_4_1]), (5, [.int .u8 cut_5_0, .int .u8 cut_5_1, .int .u8 cut_5_2]), (7, [.int .i64 p_0, .int .i64 p_1, .int .i64 p_2])]⟩ h Q
def gabionlaw05_SpareTorn.L12 (bad : Option Addr) (bad_n : Nat) (bad_c : Nat) (turn : Int) (d : Option Addr) (b : Option Addr) (t28 : Int) (t73 : Option Addr) (t73_n : Nat) (t73_c : Nat) (t74 : Int) (t75 : Int) (s_4_0 : ByteArray) (s_4_1 : ByteArray) (cut_5_0 : Int) (cut_5_1 : Int) (cut_5_2 : Int) (p_0 : Int) (p_1 : Int) (p_2 : Int) (h : Heap) (Q : Value → Heap → Prop) : Prop :=
  TW Tryz.prog 6 234 [.code (cAt (bodyOf Tryz.f6) [1, 1, 0, 1, 0, 0, 1, 1, 0, 0, 1, 1, 1, 1, 1, 0, 1, 0, 0]), .inLoop (cAt (bodyOf Tryz.f6) [1, 1, 0, 1, 0, 0, 1, 1, 0, 0, 1, 1, 1, 1, 1, 0, 1, 0, 0]), .inBlock 2, .code (cAt (bodyOf Tryz.f6) [1, 1, 0, 1, 0, 0, 1, 1, 0, 0, 1, 1, 1, 1, 1, 1]), .inBlock 1, .code (cAt (bodyOf Tryz.f6) [1, 1, 0, 1, 0, 0, 1, 1, 1]), .inLoop (cAt (bodyOf Tryz.f6) [1, 1, 0, 1, 0, 0]), .inBlock 0, .code (cAt (bodyOf Tryz.f6) [1, 1, 1])] ⟨[(0, .v (.slice bad bad_n bad_c)), (4, .p 4 0), (5, .p 5 0), (7, .p 7 0), (8, .v (.int .i64 turn)), (9, .v (.pointer d)), (11, .v (.pointer b)), (28, .v (.int .i64 t28)), (73, .v (.slice t73 t73_n t73_c)), (74, .v (.int .i64 t74)), (75, .v (.int .i64 t75))], [(4, [.string s_4_0, .string s_4_1]), (5, [.int .u8 cut_5_0, .int .u8 cut_5_1, .int .u8 cut_5_2]), (7, [.int .i64 p_0, .int .i64 p_1, .int .i64 p_2])]⟩ h Q
def gabionlaw05_SpareTorn.J20 (bad : Option Addr) (bad_n : Nat) (bad_c : Nat) (turn : Int) (d : Option Addr) (b : Option Addr) (is0 : ByteArray) (t28 : Int) (s_4_0 : ByteArray) (s_4_1 : ByteArray) (cut_5_0 : Int) (cut_5_1 : Int) (cut_5_2 : Int) (p_0 : Int) (p_1 : Int) (p_2 : Int) (h : Heap) (Q : Value → Heap → Prop) : Prop :=
  TW Tryz.prog 6 234 [.code (cAt (bodyOf Tryz.f6) [1, 1, 0, 1, 0, 0, 1, 1, 0, 0, 1, 1, 1, 1, 1, 1, 1, 1, 1, 0]), .code (cAt (bodyOf Tryz.f6) [1, 1, 0, 1, 0, 0, 1, 1, 0, 0, 1, 1, 1, 1, 1, 1, 1, 1, 1, 1]), .inBlock 1, .code (cAt (bodyOf Tryz.f6) [1, 1, 0, 1, 0, 0, 1, 1, 1]), .inLoop (cAt (bodyOf Tryz.f6) [1, 1, 0, 1, 0, 0]), .inBlock 0, .code (cAt (bodyOf Tryz.f6) [1, 1, 1])] ⟨[(0, .v (.slice bad bad_n bad_c)), (4, .p 4 0), (5, .p 5 0), (7, .p 7 0), (8, .v (.int .i64 turn)), (9, .v (.pointer d)), (11, .v (.pointer b)), (15, .v (.string is0)), (28, .v (.int .i64 t28))], [(4, [.string s_4_0, .string s_4_1]), (5, [.int .u8 cut_5_0, .int .u8 cut_5_1, .int .u8 cut_5_2]), (7, [.int .i64 p_0, .int .i64 p_1, .int .i64 p_2])]⟩ h Q
def gabionlaw05_SpareTorn.J24 (bad : Option Addr) (bad_n : Nat) (bad_c : Nat) (turn : Int) (d : Option Addr) (is0 : ByteArray) (f : Int) (t28 : Int) (s_4_0 : ByteArray) (s_4_1 : ByteArray) (cut_5_0 : Int) (cut_5_1 : Int) (cut_5_2 : Int) (p_0 : Int) (p_1 : Int) (p_2 : Int) (h : Heap) (Q : Value → Heap → Prop) : Prop :=
  TW Tryz.prog 6 234 [.code (cAt (bodyOf Tryz.f6) [1, 1, 0, 1, 0, 0, 1, 1, 0, 0, 1, 1, 1, 1, 1, 1, 1, 1, 1, 1, 1, 0]), .code (cAt (bodyOf Tryz.f6) [1, 1, 0, 1, 0, 0, 1, 1, 0, 0, 1, 1, 1, 1, 1, 1, 1, 1, 1, 1, 1, 1]), .inBlock 1, .code (cAt (bodyOf Tryz.f6) [1, 1, 0, 1, 0, 0, 1, 1, 1]), .inLoop (cAt (bodyOf Tryz.f6) [1, 1, 0, 1, 0, 0]), .inBlock 0, .code (cAt (bodyOf Tryz.f6) [1, 1, 1])] ⟨[(0, .v (.slice bad bad_n bad_c)), (4, .p 4 0), (5, .p 5 0), (7, .p 7 0), (8, .v (.int .i64 turn)), (9, .v (.pointer d)), (15, .v (.string is0)), (16, .v (.int .i64 f)), (28, .v (.int .i64 t28))], [(4, [.string s_4_0, .string s_4_1]), (5, [.int .u8 cut_5_0, .int .u8 cut_5_1, .int .u8 cut_5_2]), (7, [.int .i64 p_0, .int .i64 p_1, .int .i64 p_2])]⟩ h Q
def gabionlaw05_SpareTorn.L26 (bad : Option Addr) (bad_n : Nat) (bad_c : Nat) (turn : Int) (d : Option Addr) (is0 : ByteArray) (f : Int) (keep : Option Addr) (keep_n : Nat) (keep_c : Nat) (t28 : Int) (t115 : Int) (s_4_0 : ByteArray) (s_4_1 : ByteArray) (cut_5_0 : Int) (cut_5_1 : Int) (cut_5_2 : Int) (p_0 : Int) (p_1 : Int) (p_2 : Int) (h : Heap) (Q : Value → Heap → Prop) : Prop :=
  TW Tryz.prog 6 234 [.code (cAt (bodyOf Tryz.f6) [1, 1, 0, 1, 0, 0, 1, 1, 0, 0, 1, 1, 1, 1, 1, 1, 1, 1, 1, 1, 1, 1, 0, 1, 0, 0]), .inLoop (cAt (bodyOf Tryz.f6) [1, 1, 0, 1, 0, 0, 1, 1, 0, 0, 1, 1, 1, 1, 1, 1, 1, 1, 1, 1, 1, 1, 0, 1, 0, 0]), .inBlock 4, .code (cAt (bodyOf Tryz.f6) [1, 1, 0, 1, 0, 0, 1, 1, 0, 0, 1, 1, 1, 1, 1, 1, 1, 1, 1, 1, 1, 1, 1]), .inBlock 1, .code (cAt (bodyOf Tryz.f6) [1, 1, 0, 1, 0, 0, 1, 1, 1]), .inLoop (cAt (bodyOf Tryz.f6) [1, 1, 0, 1, 0, 0]), .inBlock 0, .code (cAt (bodyOf Tryz.f6) [1, 1, 1])] ⟨[(0, .v (.slice bad bad_n bad_c)), (4, .p 4 0), (5, .p 5 0), (7, .p 7 0), (8, .v (.int .i64 turn)), (9, .v (.pointer d)), (15, .v (.string is0)), (16, .v (.int .i64 f)), (17, .v (.slice keep keep_n keep_c)), (28, .v (.int .i64 t28)), (115, .v (.int .i64 t115))], [(4, [.string s_4_0, .string s_4_1]), (5, [.int .u8 cut_5_0, .int .u8 cut_5_1, .int .u8 cut_5_2]), (7, [.int .i64 p_0, .int .i64 p_1, .int .i64 p_2])]⟩ h Q
def gabionlaw05_SpareTorn.J34 (bad : Option Addr) (bad_n : Nat) (bad_c : Nat) (turn : Int) (is0 : ByteArray) (f : Int) (again : Option Addr) (t28 : Int) (s_4_0 : ByteArray) (s_4_1 : ByteArray) (cut_5_0 : Int) (cut_5_1 : Int) (cut_5_2 : Int) (p_0 : Int) (p_1 : Int) (p_2 : Int) (h : Heap) (Q : Value → Heap → Prop) : Prop :=
  TW Tryz.prog 6 234 [.code (cAt (bodyOf Tryz.f6) [1, 1, 0, 1, 0, 0, 1, 1, 0, 0, 1, 1, 1, 1, 1, 1, 1, 1, 1, 1, 1, 1, 1, 1, 1, 1, 0]), .code (cAt (bodyOf Tryz.f6) [1, 1, 0, 1, 0, 0, 1, 1, 0, 0, 1, 1, 1, 1, 1, 1, 1, 1, 1, 1, 1, 1, 1, 1, 1, 1, 1]), .inBlock 1, .code (cAt (bodyOf Tryz.f6) [1, 1, 0, 1, 0, 0, 1, 1, 1]), .inLoop (cAt (bodyOf Tryz.f6) [1, 1, 0, 1, 0, 0]), .inBlock 0, .code (cAt (bodyOf Tryz.f6) [1, 1, 1])] ⟨[(0, .v (.slice bad bad_n bad_c)), (4, .p 4 0), (5, .p 5 0), (7, .p 7 0), (8, .v (.int .i64 turn)), (15, .v (.string is0)), (16, .v (.int .i64 f)), (19, .v (.pointer again)), (28, .v (.int .i64 t28))], [(4, [.string s_4_0, .string s_4_1]), (5, [.int .u8 cut_5_0, .int .u8 cut_5_1, .int .u8 cut_5_2]), (7, [.int .i64 p_0, .int .i64 p_1, .int .i64 p_2])]⟩ h Q
def gabionlaw05_SpareTorn.J39 (bad : Option Addr) (bad_n : Nat) (bad_c : Nat) (turn : Int) (is0 : ByteArray) (f : Int) (got : ByteArray) (t28 : Int) (s_4_0 : ByteArray) (s_4_1 : ByteArray) (cut_5_0 : Int) (cut_5_1 : Int) (cut_5_2 : Int) (p_0 : Int) (p_1 : Int) (p_2 : Int) (h : Heap) (Q : Value → Heap → Prop) : Prop :=
  TW Tryz.prog 6 234 [.code (cAt (bodyOf Tryz.f6) [1, 1, 0, 1, 0, 0, 1, 1, 0, 0, 1, 1, 1, 1, 1, 1, 1, 1, 1, 1, 1, 1, 1, 1, 1, 1, 1, 1, 1, 1, 0, 0, 0]), .code (cAt (bodyOf Tryz.f6) [1, 1, 0, 1, 0, 0, 1, 1, 0, 0, 1, 1, 1, 1, 1, 1, 1, 1, 1, 1, 1, 1, 1, 1, 1, 1, 1, 1, 1, 1, 0, 0, 1]), .code (cAt (bodyOf Tryz.f6) [1, 1, 0, 1, 0, 0, 1, 1, 0, 0, 1, 1, 1, 1, 1, 1, 1, 1, 1, 1, 1, 1, 1, 1, 1, 1, 1, 1, 1, 1, 0, 1]), .inBlock 6, .inBlock 1, .code (cAt (bodyOf Tryz.f6) [1, 1, 0, 1, 0, 0, 1, 1, 1]), .inLoop (cAt (bodyOf Tryz.f6) [1, 1, 0, 1, 0, 0]), .inBlock 0, .code (cAt (bodyOf Tryz.f6) [1, 1, 1])] ⟨[(0, .v (.slice bad bad_n bad_c)), (4, .p 4 0), (5, .p 5 0), (7, .p 7 0), (8, .v (.int .i64 turn)), (15, .v (.string is0)), (16, .v (.int .i64 f)), (21, .v (.string got)), (28, .v (.int .i64 t28))], [(4, [.string s_4_0, .string s_4_1]), (5, [.int .u8 cut_5_0, .int .u8 cut_5_1, .int .u8 cut_5_2]), (7, [.int .i64 p_0, .int .i64 p_1, .int .i64 p_2])]⟩ h Q
def gabionlaw05_SpareTorn.J41  (h : Heap) (Q : Value → Heap → Prop) : Prop :=
  TW Tryz.prog 6 234 [.code (cAt (bodyOf Tryz.f6) [1, 1, 0, 1, 0, 0, 1, 1, 0, 0, 1, 1, 1, 1, 1, 1, 1, 1, 1, 1, 1, 1, 1, 1, 1, 1, 1, 1, 1, 1, 0, 1, 0, 0]), .code (cAt (bodyOf Tryz.f6) [1, 1, 0, 1, 0, 0, 1, 1, 0, 0, 1, 1, 1, 1, 1, 1, 1, 1, 1, 1, 1, 1, 1, 1, 1, 1, 1, 1, 1, 1, 0, 1, 0, 1]), .inBlock 6, .inBlock 1, .code (cAt (bodyOf Tryz.f6) [1, 1, 0, 1, 0, 0, 1, 1, 1]), .inLoop (cAt (bodyOf Tryz.f6) [1, 1, 0, 1, 0, 0]), .inBlock 0, .code (cAt (bodyOf Tryz.f6) [1, 1, 1])] ⟨[], []⟩ h Q
def gabionlaw05_SpareTorn.wp (bad : Option Addr) (bad_n : Nat) (bad_c : Nat) (s_0 : ByteArray) (s_1 : ByteArray) (cut_0 : Int) (cut_1 : Int) (cut_2 : Int) (h : Heap) (Q : Value → Heap → Prop) : Prop :=
  gabionlaw05_SpareTorn.L3 bad bad_n bad_c 0 s_0 s_1 cut_0 cut_1 cut_2 1 3 5 h Q
def gabionlaw05_SpareTorn.L3.wp (bad : Option Addr) (bad_n : Nat) (bad_c : Nat) (t28 : Int) (s_4_0 : ByteArray) (s_4_1 : ByteArray) (cut_5_0 : Int) (cut_5_1 : Int) (cut_5_2 : Int) (p_0 : Int) (p_1 : Int) (p_2 : Int) (h : Heap) (Q : Value → Heap → Prop) : Prop :=
  xsIf (decide (t28 < 2))
    (C Tryz.prog 26 #[Value.int IntKind.i64 12] h fun (r : Value) (h' : Heap) =>
      ∃ (x : Option Addr),
        ∃ (x_1 : Int),
          r = Value.tuple #[Value.pointer x, Value.int IntKind.i64 x_1] ∧
            C Tryz.prog 27 #[Value.pointer x, Value.agg #[Value.int IntKind.i64 p_0, Value.int IntKind.i64 p_1, Value.int IntKind.i64 p_2]] h' fun (r : Value) (h' : Heap) =>
              ∃ (x_2 : Int),
                r = Value.int IntKind.i64 x_2 ∧
                  xsIf (decide (x_2 ≠ 0)) (Q (Value.bool false) h')
                    (C Tryz.prog 13 #[] h' fun (r : Value) (h' : Heap) =>
                      ∃ (x_3 : Bool), r = Value.bool x_3 ∧ xsIf (!x_3) (Q (Value.bool false) h') (gabionlaw05_SpareTorn.J8 bad bad_n bad_c t28 x t28 s_4_0 s_4_1 cut_5_0 cut_5_1 cut_5_2 p_0 p_1 p_2 h' Q)))
    (Q (Value.bool true) h)
def gabionlaw05_SpareTorn.J8.wp (bad : Option Addr) (bad_n : Nat) (bad_c : Nat) (turn : Int) (d : Option Addr) (t28 : Int) (s_4_0 : ByteArray) (s_4_1 : ByteArray) (cut_5_0 : Int) (cut_5_1 : Int) (cut_5_2 : Int) (p_0 : Int) (p_1 : Int) (p_2 : Int) (h : Heap) (Q : Value → Heap → Prop) : Prop :=
  C Tryz.prog 17 #[Value.pointer d, Value.agg #[Value.int IntKind.i64 p_0, Value.int IntKind.i64 p_1, Value.int IntKind.i64 p_2]] h fun (r : Value) (h' : Heap) =>
    ∃ (x : Option Addr),
      ∃ (x_1 : Int),
        r = Value.tuple #[Value.pointer x, Value.int IntKind.i64 x_1] ∧
          xsIf (decide (x_1 ≠ 0)) (Q (Value.bool false) h')
            (xsIf x.isNone (Q (Value.bool false) h')
              (C Tryz.prog 16 #[Value.string s_4_0] h' fun (r : Value) (h' : Heap) =>
                ∃ (x_2 : ByteArray),
                  r = Value.string x_2 ∧
                    C Tryz.prog 15 #[Value.pointer x, Value.int IntKind.i64 0, Value.string x_2] h' fun (r : Value) (h' : Heap) =>
                      ∃ (x_3 : Int),
                        r = Value.int IntKind.i64 x_3 ∧
                          xsIf (decide (x_3 ≠ 0)) (Q (Value.bool false) h')
                            (C Tryz.prog 16 #[Value.string { data := #[UInt8.ofNat 98] }] h' fun (r : Value) (h' : Heap) =>
                              ∃ (x_4 : ByteArray),
                                r = Value.string x_4 ∧
                                  C Tryz.prog 15 #[Value.pointer x, Value.int IntKind.i64 1, Value.string x_4] h' fun (r : Value) (h' : Heap) =>
                                    ∃ (x_5 : Int),
                                      r = Value.int IntKind.i64 x_5 ∧ xsIf (decide (x_5 ≠ 0)) (Q (Value.bool false) h') (gabionlaw05_SpareTorn.J11 bad bad_n bad_c turn d x t28 s_4_0 s_4_1 cut_5_0 cut_5_1 cut_5_2 p_0 p_1 p_2 h' Q))))
def gabionlaw05_SpareTorn.J11.wp (bad : Option Addr) (bad_n : Nat) (bad_c : Nat) (turn : Int) (d : Option Addr) (b : Option Addr) (t28 : Int) (s_4_0 : ByteArray) (s_4_1 : ByteArray) (cut_5_0 : Int) (cut_5_1 : Int) (cut_5_2 : Int) (p_0 : Int) (p_1 : Int) (p_2 : Int) (h : Heap) (Q : Value → Heap → Prop) : Prop :=
  (0 ≤ imin (↑bad_n : Int) 12 ∧ imin (↑bad_n : Int) 12 ≤ (↑bad_c : Int)) ∧
    gabionlaw05_SpareTorn.L12 bad bad_n bad_c turn d b t28 (slBase bad (↑bad_c : Int) 0 1) (imin (↑bad_n : Int) 12 - 0).toNat ((↑bad_c : Int) - 0).toNat (↑(imin (↑bad_n : Int) 12 - 0).toNat : Int) 0 s_4_0 s_4_1 cut_5_0 cut_5_1 cut_5_2 p_0 p_1
      p_2 h Q
def gabionlaw05_SpareTorn.L12.wp (bad : Option Addr) (bad_n : Nat) (bad_c : Nat) (turn : Int) (d : Option Addr) (b : Option Addr) (t28 : Int) (t73 : Option Addr) (t73_n : Nat) (t73_c : Nat) (t74 : Int) (t75 : Int) (s_4_0 : ByteArray) (s_4_1 : ByteArray) (cut_5_0 : Int) (cut_5_1 : Int) (cut_5_2 : Int) (p_0 : Int) (p_1 : Int) (p_2 : Int) (h : Heap) (Q : Value → Heap → Prop) : Prop :=
  xsIf (decide (t75 < t74))
    ((0 ≤ t75 ∧ t75 < (↑t73_n : Int)) ∧
      atBase t73 fun (b_1 o : Nat) =>
        ∃ (x : Int),
          h.cell b_1 (o + t75.toNat * 1) = some (Value.int IntKind.u8 x) ∧
            C Tryz.prog 14 #[Value.pointer d, Value.int IntKind.i64 (IntKind.i64.wrap (2 + IntKind.i64.wrap (irem x 8)))] h fun (r : Value) (h' : Heap) =>
              gabionlaw05_SpareTorn.L12 bad bad_n bad_c turn d b t28 t73 t73_n t73_c t74 (IntKind.i64.wrap (t75 + 1)) s_4_0 s_4_1 cut_5_0 cut_5_1 cut_5_2 p_0 p_1 p_2 h' Q)
    (C Tryz.prog 35 #[Value.pointer d, Value.int IntKind.i64 (IntKind.i64.wrap (1 + IntKind.i64.wrap (irem cut_5_0 90)))] h fun (r : Value) (h' : Heap) =>
      C Tryz.prog 16 #[Value.string s_4_1] h' fun (r : Value) (h' : Heap) =>
        ∃ (x : ByteArray),
          r = Value.string x ∧
            xsIf (decide (turn = 1))
              (C Tryz.prog 16 #[Value.string s_4_0] h' fun (r : Value) (h' : Heap) =>
                ∃ (x : ByteArray),
                  r = Value.string x ∧
                    ((0 : Int) ≤ 8 ∧ (8 : Int) ≤ (↑x.size : Int)) ∧
                      (↑((sext x 0 8).size + 8) : Int) ≤ 9223372036854775807 ∧
                        C Tryz.prog 16 #[Value.string s_4_0] h' fun (r : Value) (h' : Heap) =>
                          ∃ (x_1 : ByteArray),
                            r = Value.string x_1 ∧
                              ((0 : Int) ≤ 16 ∧ (16 : Int) ≤ (↑x_1.size : Int)) ∧
                                (↑((sext x 0 8 ++ { data := #[UInt8.ofNat 1, UInt8.ofNat 2, UInt8.ofNat 3, UInt8.ofNat 4, UInt8.ofNat 5, UInt8.ofNat 6, UInt8.ofNat 7, UInt8.ofNat 8] }).size +
                                          (sext x_1 16 (↑x_1.size : Int)).size) :
                                      Int) ≤
                                    9223372036854775807 ∧
                                  gabionlaw05_SpareTorn.J20 bad bad_n bad_c turn d b
                                    (sext x 0 8 ++ { data := #[UInt8.ofNat 1, UInt8.ofNat 2, UInt8.ofNat 3, UInt8.ofNat 4, UInt8.ofNat 5, UInt8.ofNat 6, UInt8.ofNat 7, UInt8.ofNat 8] } ++ sext x_1 16 (↑x_1.size : Int)) t28 s_4_0
                                    s_4_1 cut_5_0 cut_5_1 cut_5_2 p_0 p_1 p_2 h' Q)
              (gabionlaw05_SpareTorn.J20 bad bad_n bad_c turn d b x t28 s_4_0 s_4_1 cut_5_0 cut_5_1 cut_5_2 p_0 p_1 p_2 h' Q))
def gabionlaw05_SpareTorn.J20.wp (bad : Option Addr) (bad_n : Nat) (bad_c : Nat) (turn : Int) (d : Option Addr) (b : Option Addr) (is0 : ByteArray) (t28 : Int) (s_4_0 : ByteArray) (s_4_1 : ByteArray) (cut_5_0 : Int) (cut_5_1 : Int) (cut_5_2 : Int) (p_0 : Int) (p_1 : Int) (p_2 : Int) (h : Heap) (Q : Value → Heap → Prop) : Prop :=
  xsIf (decide (turn = 0))
    (C Tryz.prog 15 #[Value.pointer b, Value.int IntKind.i64 0, Value.string is0] h fun (r : Value) (h' : Heap) =>
      ∃ (x : Int), r = Value.int IntKind.i64 x ∧ gabionlaw05_SpareTorn.J24 bad bad_n bad_c turn d is0 x t28 s_4_0 s_4_1 cut_5_0 cut_5_1 cut_5_2 p_0 p_1 p_2 h' Q)
    (C Tryz.prog 28 #[Value.pointer b, Value.int IntKind.i64 0, Value.int IntKind.i64 1, Value.int IntKind.u64 578437695752307201] h fun (r : Value) (h' : Heap) =>
      ∃ (x : Int), r = Value.int IntKind.i64 x ∧ gabionlaw05_SpareTorn.J24 bad bad_n bad_c turn d is0 x t28 s_4_0 s_4_1 cut_5_0 cut_5_1 cut_5_2 p_0 p_1 p_2 h' Q)
def gabionlaw05_SpareTorn.J24.wp (bad : Option Addr) (bad_n : Nat) (bad_c : Nat) (turn : Int) (d : Option Addr) (is0 : ByteArray) (f : Int) (t28 : Int) (s_4_0 : ByteArray) (s_4_1 : ByteArray) (cut_5_0 : Int) (cut_5_1 : Int) (cut_5_2 : Int) (p_0 : Int) (p_1 : Int) (p_2 : Int) (h : Heap) (Q : Value → Heap → Prop) : Prop :=
  gabionlaw05_SpareTorn.L26 bad bad_n bad_c turn d is0 f none 0 0 t28 0 s_4_0 s_4_1 cut_5_0 cut_5_1 cut_5_2 p_0 p_1 p_2 h Q
def gabionlaw05_SpareTorn.L26.wp (bad : Option Addr) (bad_n : Nat) (bad_c : Nat) (turn : Int) (d : Option Addr) (is0 : ByteArray) (f : Int) (keep : Option Addr) (keep_n : Nat) (keep_c : Nat) (t28 : Int) (t115 : Int) (s_4_0 : ByteArray) (s_4_1 : ByteArray) (cut_5_0 : Int) (cut_5_1 : Int) (cut_5_2 : Int) (p_0 : Int) (p_1 : Int) (p_2 : Int) (h : Heap) (Q : Value → Heap → Prop) : Prop :=
  xsIf (decide (t115 < 8))
    (0 ≤ t115 ∧
      ∀ (b : Nat),
        h b = none →
          xsApp Tryz.prog 4 (upd h b (Obj.cells #[Value.bool (decide (iand IntKind.u8 (ishr IntKind.u8 cut_5_1 t115) 1 = 1))] 4 (0, 0))) keep keep_n keep_c (some { block := b, off := 0 }) 1
            fun (a' : Option Addr) (n' c' : Nat) (h' : Heap) => gabionlaw05_SpareTorn.L26 bad bad_n bad_c turn d is0 f a' n' c' t28 (IntKind.i64.wrap (t115 + 1)) s_4_0 s_4_1 cut_5_0 cut_5_1 cut_5_2 p_0 p_1 p_2 h' Q)
    (C Tryz.prog 36 #[Value.pointer d, Value.slice keep keep_n keep_c] h fun (r : Value) (h' : Heap) =>
      C Tryz.prog 17 #[Value.pointer d, Value.agg #[Value.int IntKind.i64 p_0, Value.int IntKind.i64 p_1, Value.int IntKind.i64 p_2]] h' fun (r : Value) (h' : Heap) =>
        ∃ (x : Option Addr),
          ∃ (x_1 : Int),
            r = Value.tuple #[Value.pointer x, Value.int IntKind.i64 x_1] ∧
              xsIf (decide (x_1 ≠ 0)) (Q (Value.bool false) h')
                (xsIf x.isNone (Q (Value.bool false) h')
                  (xsIf (decide (f ≠ 0))
                    (xsIf (decide (f ≠ 6)) (xsIf (decide (f ≠ 10)) (Q (Value.bool false) h') (gabionlaw05_SpareTorn.J34 bad bad_n bad_c turn is0 f x t28 s_4_0 s_4_1 cut_5_0 cut_5_1 cut_5_2 p_0 p_1 p_2 h' Q))
                      (gabionlaw05_SpareTorn.J34 bad bad_n bad_c turn is0 f x t28 s_4_0 s_4_1 cut_5_0 cut_5_1 cut_5_2 p_0 p_1 p_2 h' Q))
                    (gabionlaw05_SpareTorn.J34 bad bad_n bad_c turn is0 f x t28 s_4_0 s_4_1 cut_5_0 cut_5_1 cut_5_2 p_0 p_1 p_2 h' Q))))
def gabionlaw05_SpareTorn.J34.wp (bad : Option Addr) (bad_n : Nat) (bad_c : Nat) (turn : Int) (is0 : ByteArray) (f : Int) (again : Option Addr) (t28 : Int) (s_4_0 : ByteArray) (s_4_1 : ByteArray) (cut_5_0 : Int) (cut_5_1 : Int) (cut_5_2 : Int) (p_0 : Int) (p_1 : Int) (p_2 : Int) (h : Heap) (Q : Value → Heap → Prop) : Prop :=
  C Tryz.prog 20 #[Value.pointer again, Value.int IntKind.i64 0] h fun (r : Value) (h' : Heap) =>
    ∃ (x : ByteArray),
      ∃ (x_1 : Int),
        r = Value.tuple #[Value.string x, Value.int IntKind.i64 x_1] ∧
          C Tryz.prog 20 #[Value.pointer again, Value.int IntKind.i64 1] h' fun (r : Value) (h' : Heap) =>
            ∃ (x_2 : ByteArray),
              ∃ (x_3 : Int),
                r = Value.tuple #[Value.string x_2, Value.int IntKind.i64 x_3] ∧
                  C Tryz.prog 20 #[Value.pointer again, Value.int IntKind.i64 2] h' fun (r : Value) (h' : Heap) =>
                    ∃ (x_4 : ByteArray),
                      ∃ (x_5 : Int),
                        r = Value.tuple #[Value.string x_4, Value.int IntKind.i64 x_5] ∧
                          xsIf (decide (x_1 ≠ 0)) (Q (Value.bool false) h')
                            (xsIf (decide (x_3 ≠ 0)) (Q (Value.bool false) h')
                              (xsIf (decide (x_5 ≠ 0)) (Q (Value.bool false) h')
                                (C Tryz.prog 16 #[Value.string { data := #[UInt8.ofNat 98] }] h' fun (r : Value) (h' : Heap) =>
                                  ∃ (x_6 : ByteArray),
                                    r = Value.string x_6 ∧
                                      xsIf (decide (x_2 ≠ x_6)) (Q (Value.bool false) h')
                                        (C Tryz.prog 16 #[Value.string { data := #[] }] h' fun (r : Value) (h' : Heap) =>
                                          ∃ (x_7 : ByteArray),
                                            r = Value.string x_7 ∧ xsIf (decide (x_4 ≠ x_7)) (Q (Value.bool false) h') (gabionlaw05_SpareTorn.J39 bad bad_n bad_c turn is0 f x t28 s_4_0 s_4_1 cut_5_0 cut_5_1 cut_5_2 p_0 p_1 p_2 h' Q)))))
def gabionlaw05_SpareTorn.J39.wp (bad : Option Addr) (bad_n : Nat) (bad_c : Nat) (turn : Int) (is0 : ByteArray) (f : Int) (got : ByteArray) (t28 : Int) (s_4_0 : ByteArray) (s_4_1 : ByteArray) (cut_5_0 : Int) (cut_5_1 : Int) (cut_5_2 : Int) (p_0 : Int) (p_1 : Int) (p_2 : Int) (h : Heap) (Q : Value → Heap → Prop) : Prop :=
  xsIf (decide (f = 0))
    (xsIf (decide (got ≠ is0))
      (xsIf (decide (got ≠ is0)) (gabionlaw05_SpareTorn.J41 h Q)
        (xsIf (decide (turn = 0))
          (C Tryz.prog 16 #[Value.string s_4_0] h fun (r : Value) (h' : Heap) =>
            ∃ (x : ByteArray),
              r = Value.string x ∧
                C Tryz.prog 39 #[Value.string x, Value.string is0, Value.string got] h' fun (r : Value) (h' : Heap) =>
                  ∃ (x : Bool),
                    r = Value.bool x ∧
                      xsIf (!x) (xsIf (!x) (Q (Value.bool false) h') (gabionlaw05_SpareTorn.L3 bad bad_n bad_c (IntKind.i64.wrap (t28 + 1)) s_4_0 s_4_1 cut_5_0 cut_5_1 cut_5_2 p_0 p_1 p_2 h' Q))
                        (xsIf (decide (turn = 1))
                          (xsIf (decide (got ≠ is0))
                            (C Tryz.prog 16 #[Value.string s_4_0] h' fun (r : Value) (h' : Heap) =>
                              ∃ (x : ByteArray),
                                r = Value.string x ∧ xsIf (decide (got ≠ x)) (Q (Value.bool false) h') (gabionlaw05_SpareTorn.L3 bad bad_n bad_c (IntKind.i64.wrap (t28 + 1)) s_4_0 s_4_1 cut_5_0 cut_5_1 cut_5_2 p_0 p_1 p_2 h' Q))
                            (gabionlaw05_SpareTorn.L3 bad bad_n bad_c (IntKind.i64.wrap (t28 + 1)) s_4_0 s_4_1 cut_5_0 cut_5_1 cut_5_2 p_0 p_1 p_2 h' Q))
                          (gabionlaw05_SpareTorn.L3 bad bad_n bad_c (IntKind.i64.wrap (t28 + 1)) s_4_0 s_4_1 cut_5_0 cut_5_1 cut_5_2 p_0 p_1 p_2 h' Q)))
          (xsIf (decide (turn = 1))
            (xsIf (decide (got ≠ is0))
              (C Tryz.prog 16 #[Value.string s_4_0] h fun (r : Value) (h' : Heap) =>
                ∃ (x : ByteArray), r = Value.string x ∧ xsIf (decide (got ≠ x)) (Q (Value.bool false) h') (gabionlaw05_SpareTorn.L3 bad bad_n bad_c (IntKind.i64.wrap (t28 + 1)) s_4_0 s_4_1 cut_5_0 cut_5_1 cut_5_2 p_0 p_1 p_2 h' Q))
              (gabionlaw05_SpareTorn.L3 bad bad_n bad_c (IntKind.i64.wrap (t28 + 1)) s_4_0 s_4_1 cut_5_0 cut_5_1 cut_5_2 p_0 p_1 p_2 h Q))
            (gabionlaw05_SpareTorn.L3 bad bad_n bad_c (IntKind.i64.wrap (t28 + 1)) s_4_0 s_4_1 cut_5_0 cut_5_1 cut_5_2 p_0 p_1 p_2 h Q))))
      (xsIf (decide (f = 10))
        (C Tryz.prog 16 #[Value.string s_4_0] h fun (r : Value) (h' : Heap) =>
          ∃ (x : ByteArray),
            r = Value.string x ∧
              xsIf (decide (got ≠ x)) (gabionlaw05_SpareTorn.J41 h' Q)
                (xsIf (decide (turn = 0))
                  (C Tryz.prog 16 #[Value.string s_4_0] h' fun (r : Value) (h' : Heap) =>
                    ∃ (x : ByteArray),
                      r = Value.string x ∧
                        C Tryz.prog 39 #[Value.string x, Value.string is0, Value.string got] h' fun (r : Value) (h' : Heap) =>
                          ∃ (x : Bool),
                            r = Value.bool x ∧
                              xsIf (!x) (xsIf (!x) (Q (Value.bool false) h') (gabionlaw05_SpareTorn.L3 bad bad_n bad_c (IntKind.i64.wrap (t28 + 1)) s_4_0 s_4_1 cut_5_0 cut_5_1 cut_5_2 p_0 p_1 p_2 h' Q))
                                (xsIf (decide (turn = 1))
                                  (xsIf (decide (got ≠ is0))
                                    (C Tryz.prog 16 #[Value.string s_4_0] h' fun (r : Value) (h' : Heap) =>
                                      ∃ (x : ByteArray),
                                        r = Value.string x ∧ xsIf (decide (got ≠ x)) (Q (Value.bool false) h') (gabionlaw05_SpareTorn.L3 bad bad_n bad_c (IntKind.i64.wrap (t28 + 1)) s_4_0 s_4_1 cut_5_0 cut_5_1 cut_5_2 p_0 p_1 p_2 h' Q))
                                    (gabionlaw05_SpareTorn.L3 bad bad_n bad_c (IntKind.i64.wrap (t28 + 1)) s_4_0 s_4_1 cut_5_0 cut_5_1 cut_5_2 p_0 p_1 p_2 h' Q))
                                  (gabionlaw05_SpareTorn.L3 bad bad_n bad_c (IntKind.i64.wrap (t28 + 1)) s_4_0 s_4_1 cut_5_0 cut_5_1 cut_5_2 p_0 p_1 p_2 h' Q)))
                  (xsIf (decide (turn = 1))
                    (xsIf (decide (got ≠ is0))
                      (C Tryz.prog 16 #[Value.string s_4_0] h' fun (r : Value) (h' : Heap) =>
                        ∃ (x : ByteArray), r = Value.string x ∧ xsIf (decide (got ≠ x)) (Q (Value.bool false) h') (gabionlaw05_SpareTorn.L3 bad bad_n bad_c (IntKind.i64.wrap (t28 + 1)) s_4_0 s_4_1 cut_5_0 cut_5_1 cut_5_2 p_0 p_1 p_2 h' Q))
                      (gabionlaw05_SpareTorn.L3 bad bad_n bad_c (IntKind.i64.wrap (t28 + 1)) s_4_0 s_4_1 cut_5_0 cut_5_1 cut_5_2 p_0 p_1 p_2 h' Q))
                    (gabionlaw05_SpareTorn.L3 bad bad_n bad_c (IntKind.i64.wrap (t28 + 1)) s_4_0 s_4_1 cut_5_0 cut_5_1 cut_5_2 p_0 p_1 p_2 h' Q))))
        (xsIf (decide (turn = 0))
          (C Tryz.prog 16 #[Value.string s_4_0] h fun (r : Value) (h' : Heap) =>
            ∃ (x : ByteArray),
              r = Value.string x ∧
                C Tryz.prog 39 #[Value.string x, Value.string is0, Value.string got] h' fun (r : Value) (h' : Heap) =>
                  ∃ (x : Bool),
                    r = Value.bool x ∧
                      xsIf (!x) (xsIf (!x) (Q (Value.bool false) h') (gabionlaw05_SpareTorn.L3 bad bad_n bad_c (IntKind.i64.wrap (t28 + 1)) s_4_0 s_4_1 cut_5_0 cut_5_1 cut_5_2 p_0 p_1 p_2 h' Q))
                        (xsIf (decide (turn = 1))
                          (xsIf (decide (got ≠ is0))
                            (C Tryz.prog 16 #[Value.string s_4_0] h' fun (r : Value) (h' : Heap) =>
                              ∃ (x : ByteArray),
                                r = Value.string x ∧ xsIf (decide (got ≠ x)) (Q (Value.bool false) h') (gabionlaw05_SpareTorn.L3 bad bad_n bad_c (IntKind.i64.wrap (t28 + 1)) s_4_0 s_4_1 cut_5_0 cut_5_1 cut_5_2 p_0 p_1 p_2 h' Q))
                            (gabionlaw05_SpareTorn.L3 bad bad_n bad_c (IntKind.i64.wrap (t28 + 1)) s_4_0 s_4_1 cut_5_0 cut_5_1 cut_5_2 p_0 p_1 p_2 h' Q))
                          (gabionlaw05_SpareTorn.L3 bad bad_n bad_c (IntKind.i64.wrap (t28 + 1)) s_4_0 s_4_1 cut_5_0 cut_5_1 cut_5_2 p_0 p_1 p_2 h' Q)))
          (xsIf (decide (turn = 1))
            (xsIf (decide (got ≠ is0))
              (C Tryz.prog 16 #[Value.string s_4_0] h fun (r : Value) (h' : Heap) =>
                ∃ (x : ByteArray), r = Value.string x ∧ xsIf (decide (got ≠ x)) (Q (Value.bool false) h') (gabionlaw05_SpareTorn.L3 bad bad_n bad_c (IntKind.i64.wrap (t28 + 1)) s_4_0 s_4_1 cut_5_0 cut_5_1 cut_5_2 p_0 p_1 p_2 h' Q))
              (gabionlaw05_SpareTorn.L3 bad bad_n bad_c (IntKind.i64.wrap (t28 + 1)) s_4_0 s_4_1 cut_5_0 cut_5_1 cut_5_2 p_0 p_1 p_2 h Q))
            (gabionlaw05_SpareTorn.L3 bad bad_n bad_c (IntKind.i64.wrap (t28 + 1)) s_4_0 s_4_1 cut_5_0 cut_5_1 cut_5_2 p_0 p_1 p_2 h Q)))))
    (xsIf (decide (f = 10))
      (C Tryz.prog 16 #[Value.string s_4_0] h fun (r : Value) (h' : Heap) =>
        ∃ (x : ByteArray),
          r = Value.string x ∧
            xsIf (decide (got ≠ x)) (gabionlaw05_SpareTorn.J41 h' Q)
              (xsIf (decide (turn = 0))
                (C Tryz.prog 16 #[Value.string s_4_0] h' fun (r : Value) (h' : Heap) =>
                  ∃ (x : ByteArray),
                    r = Value.string x ∧
                      C Tryz.prog 39 #[Value.string x, Value.string is0, Value.string got] h' fun (r : Value) (h' : Heap) =>
                        ∃ (x : Bool),
                          r = Value.bool x ∧
                            xsIf (!x) (xsIf (!x) (Q (Value.bool false) h') (gabionlaw05_SpareTorn.L3 bad bad_n bad_c (IntKind.i64.wrap (t28 + 1)) s_4_0 s_4_1 cut_5_0 cut_5_1 cut_5_2 p_0 p_1 p_2 h' Q))
                              (xsIf (decide (turn = 1))
                                (xsIf (decide (got ≠ is0))
                                  (C Tryz.prog 16 #[Value.string s_4_0] h' fun (r : Value) (h' : Heap) =>
                                    ∃ (x : ByteArray),
                                      r = Value.string x ∧ xsIf (decide (got ≠ x)) (Q (Value.bool false) h') (gabionlaw05_SpareTorn.L3 bad bad_n bad_c (IntKind.i64.wrap (t28 + 1)) s_4_0 s_4_1 cut_5_0 cut_5_1 cut_5_2 p_0 p_1 p_2 h' Q))
                                  (gabionlaw05_SpareTorn.L3 bad bad_n bad_c (IntKind.i64.wrap (t28 + 1)) s_4_0 s_4_1 cut_5_0 cut_5_1 cut_5_2 p_0 p_1 p_2 h' Q))
                                (gabionlaw05_SpareTorn.L3 bad bad_n bad_c (IntKind.i64.wrap (t28 + 1)) s_4_0 s_4_1 cut_5_0 cut_5_1 cut_5_2 p_0 p_1 p_2 h' Q)))
                (xsIf (decide (turn = 1))
                  (xsIf (decide (got ≠ is0))
                    (C Tryz.prog 16 #[Value.string s_4_0] h' fun (r : Value) (h' : Heap) =>
                      ∃ (x : ByteArray), r = Value.string x ∧ xsIf (decide (got ≠ x)) (Q (Value.bool false) h') (gabionlaw05_SpareTorn.L3 bad bad_n bad_c (IntKind.i64.wrap (t28 + 1)) s_4_0 s_4_1 cut_5_0 cut_5_1 cut_5_2 p_0 p_1 p_2 h' Q))
                    (gabionlaw05_SpareTorn.L3 bad bad_n bad_c (IntKind.i64.wrap (t28 + 1)) s_4_0 s_4_1 cut_5_0 cut_5_1 cut_5_2 p_0 p_1 p_2 h' Q))
                  (gabionlaw05_SpareTorn.L3 bad bad_n bad_c (IntKind.i64.wrap (t28 + 1)) s_4_0 s_4_1 cut_5_0 cut_5_1 cut_5_2 p_0 p_1 p_2 h' Q))))
      (xsIf (decide (turn = 0))
        (C Tryz.prog 16 #[Value.string s_4_0] h fun (r : Value) (h' : Heap) =>
          ∃ (x : ByteArray),
            r = Value.string x ∧
              C Tryz.prog 39 #[Value.string x, Value.string is0, Value.string got] h' fun (r : Value) (h' : Heap) =>
                ∃ (x : Bool),
                  r = Value.bool x ∧
                    xsIf (!x) (xsIf (!x) (Q (Value.bool false) h') (gabionlaw05_SpareTorn.L3 bad bad_n bad_c (IntKind.i64.wrap (t28 + 1)) s_4_0 s_4_1 cut_5_0 cut_5_1 cut_5_2 p_0 p_1 p_2 h' Q))
                      (xsIf (decide (turn = 1))
                        (xsIf (decide (got ≠ is0))
                          (C Tryz.prog 16 #[Value.string s_4_0] h' fun (r : Value) (h' : Heap) =>
                            ∃ (x : ByteArray),
                              r = Value.string x ∧ xsIf (decide (got ≠ x)) (Q (Value.bool false) h') (gabionlaw05_SpareTorn.L3 bad bad_n bad_c (IntKind.i64.wrap (t28 + 1)) s_4_0 s_4_1 cut_5_0 cut_5_1 cut_5_2 p_0 p_1 p_2 h' Q))
                          (gabionlaw05_SpareTorn.L3 bad bad_n bad_c (IntKind.i64.wrap (t28 + 1)) s_4_0 s_4_1 cut_5_0 cut_5_1 cut_5_2 p_0 p_1 p_2 h' Q))
                        (gabionlaw05_SpareTorn.L3 bad bad_n bad_c (IntKind.i64.wrap (t28 + 1)) s_4_0 s_4_1 cut_5_0 cut_5_1 cut_5_2 p_0 p_1 p_2 h' Q)))
        (xsIf (decide (turn = 1))
          (xsIf (decide (got ≠ is0))
            (C Tryz.prog 16 #[Value.string s_4_0] h fun (r : Value) (h' : Heap) =>
              ∃ (x : ByteArray), r = Value.string x ∧ xsIf (decide (got ≠ x)) (Q (Value.bool false) h') (gabionlaw05_SpareTorn.L3 bad bad_n bad_c (IntKind.i64.wrap (t28 + 1)) s_4_0 s_4_1 cut_5_0 cut_5_1 cut_5_2 p_0 p_1 p_2 h' Q))
            (gabionlaw05_SpareTorn.L3 bad bad_n bad_c (IntKind.i64.wrap (t28 + 1)) s_4_0 s_4_1 cut_5_0 cut_5_1 cut_5_2 p_0 p_1 p_2 h Q))
          (gabionlaw05_SpareTorn.L3 bad bad_n bad_c (IntKind.i64.wrap (t28 + 1)) s_4_0 s_4_1 cut_5_0 cut_5_1 cut_5_2 p_0 p_1 p_2 h Q))))
def gabionlaw05_SpareTorn.J41.wp  (h : Heap) (Q : Value → Heap → Prop) : Prop :=
  Q (Value.bool false) h
theorem gabionlaw05_SpareTorn.ok {bad : Option Addr} {bad_n : Nat} {bad_c : Nat} {s_0 : ByteArray} {s_1 : ByteArray} {cut_0 : Int} {cut_1 : Int} {cut_2 : Int} {h : Heap} {Q : Value → Heap → Prop} (hk : gabionlaw05_SpareTorn.wp bad bad_n bad_c s_0 s_1 cut_0 cut_1 cut_2 h Q) : C Tryz.prog 6 #[.slice bad bad_n bad_c, .agg #[.string s_0, .string s_1], .agg #[.int .u8 cut_0, .int .u8 cut_1, .int .u8 cut_2]] h Q :=
  C_of_xs (H := gabionlaw05_SpareTorn.H) (lcuts := gabionlaw05_SpareTorn.lc) (rcuts := gabionlaw05_SpareTorn.rc) (l := [.slice bad bad_n bad_c, .agg #[.string s_0, .string s_1], .agg #[.int .u8 cut_0, .int .u8 cut_1, .int .u8 cut_2]]) 2000 mixed Tryz.func6 rfl (by kernel_rfl) (@cast (gabionlaw05_SpareTorn.wp bad bad_n bad_c s_0 s_1 cut_0 cut_1 cut_2 h Q) _ (by kernel_rfl) hk)
theorem gabionlaw05_SpareTorn.L3.ok {bad : Option Addr} {bad_n : Nat} {bad_c : Nat} {t28 : Int} {s_4_0 : ByteArray} {s_4_1 : ByteArray} {cut_5_0 : Int} {cut_5_1 : Int} {cut_5_2 : Int} {p_0 : Int} {p_1 : Int} {p_2 : Int} {h : Heap} {Q : Value → Heap → Prop} (hk : gabionlaw05_SpareTorn.L3.wp bad bad_n bad_c t28 s_4_0 s_4_1 cut_5_0 cut_5_1 cut_5_2 p_0 p_1 p_2 h Q) : gabionlaw05_SpareTorn.L3 bad bad_n bad_c t28 s_4_0 s_4_1 cut_5_0 cut_5_1 cut_5_2 p_0 p_1 p_2 h Q :=
  xs_ok (H := gabionlaw05_SpareTorn.H) (lcuts := gabionlaw05_SpareTorn.lc) (rcuts := gabionlaw05_SpareTorn.rc) (fn := Tryz.f6) mixed Tryz.func6 2000 _ _ _ (@cast (gabionlaw05_SpareTorn.L3.wp bad bad_n bad_c t28 s_4_0 s_4_1 cut_5_0 cut_5_1 cut_5_2 p_0 p_1 p_2 h Q) _ (by kernel_rfl) hk)
theorem gabionlaw05_SpareTorn.J8.ok {bad : Option Addr} {bad_n : Nat} {bad_c : Nat} {turn : Int} {d : Option Addr} {t28 : Int} {s_4_0 : ByteArray} {s_4_1 : ByteArray} {cut_5_0 : Int} {cut_5_1 : Int} {cut_5_2 : Int} {p_0 : Int} {p_1 : Int} {p_2 : Int} {h : Heap} {Q : Value → Heap → Prop} (hk : gabionlaw05_SpareTorn.J8.wp bad bad_n bad_c turn d t28 s_4_0 s_4_1 cut_5_0 cut_5_1 cut_5_2 p_0 p_1 p_2 h Q) : gabionlaw05_SpareTorn.J8 bad bad_n bad_c turn d t28 s_4_0 s_4_1 cut_5_0 cut_5_1 cut_5_2 p_0 p_1 p_2 h Q :=
  xs_ok (H := gabionlaw05_SpareTorn.H) (lcuts := gabionlaw05_SpareTorn.lc) (rcuts := [⟨11, [0, 4, 5, 7, 8, 9, 11, 28], [4, 5, 7]⟩, ⟨20, [0, 4, 5, 7, 8, 9, 11, 15, 28], [4, 5, 7]⟩, ⟨24, [0, 4, 5, 7, 8, 9, 15, 16, 28], [4, 5, 7]⟩, ⟨34, [0, 4, 5, 7, 8, 15, 16, 19, 28], [4, 5, 7]⟩, ⟨39, [0, 4, 5, 7, 8, 15, 16, 21, 28], [4, 5, 7]⟩, ⟨41, [], []⟩]) (fn := Tryz.f6) mixed Tryz.func6 2000 _ _ _ (@cast (gabionlaw05_SpareTorn.J8.wp bad bad_n bad_c turn d t28 s_4_0 s_4_1 cut_5_0 cut_5_1 cut_5_2 p_0 p_1 p_2 h Q) _ (by kernel_rfl) hk)
theorem gabionlaw05_SpareTorn.J11.ok {bad : Option Addr} {bad_n : Nat} {bad_c : Nat} {turn : Int} {d : Option Addr} {b : Option Addr} {t28 : Int} {s_4_0 : ByteArray} {s_4_1 : ByteArray} {cut_5_0 : Int} {cut_5_1 : Int} {cut_5_2 : Int} {p_0 : Int} {p_1 : Int} {p_2 : Int} {h : Heap} {Q : Value → Heap → Prop} (hk : gabionlaw05_SpareTorn.J11.wp bad bad_n bad_c turn d b t28 s_4_0 s_4_1 cut_5_0 cut_5_1 cut_5_2 p_0 p_1 p_2 h Q) : gabionlaw05_SpareTorn.J11 bad bad_n bad_c turn d b t28 s_4_0 s_4_1 cut_5_0 cut_5_1 cut_5_2 p_0 p_1 p_2 h Q :=
  xs_ok (H := gabionlaw05_SpareTorn.H) (lcuts := gabionlaw05_SpareTorn.lc) (rcuts := [⟨8, [0, 4, 5, 7, 8, 9, 28], [4, 5, 7]⟩, ⟨20, [0, 4, 5, 7, 8, 9, 11, 15, 28], [4, 5, 7]⟩, ⟨24, [0, 4, 5, 7, 8, 9, 15, 16, 28], [4, 5, 7]⟩, ⟨34, [0, 4, 5, 7, 8, 15, 16, 19, 28], [4, 5, 7]⟩, ⟨39, [0, 4, 5, 7, 8, 15, 16, 21, 28], [4, 5, 7]⟩, ⟨41, [], []⟩]) (fn := Tryz.f6) mixed Tryz.func6 2000 _ _ _ (@cast (gabionlaw05_SpareTorn.J11.wp bad bad_n bad_c turn d b t28 s_4_0 s_4_1 cut_5_0 cut_5_1 cut_5_2 p_0 p_1 p_2 h Q) _ (by kernel_rfl) hk)
theorem gabionlaw05_SpareTorn.L12.ok {bad : Option Addr} {bad_n : Nat} {bad_c : Nat} {turn : Int} {d : Option Addr} {b : Option Addr} {t28 : Int} {t73 : Option Addr} {t73_n : Nat} {t73_c : Nat} {t74 : Int} {t75 : Int} {s_4_0 : ByteArray} {s_4_1 : ByteArray} {cut_5_0 : Int} {cut_5_1 : Int} {cut_5_2 : Int} {p_0 : Int} {p_1 : Int} {p_2 : Int} {h : Heap} {Q : Value → Heap → Prop} (hk : gabionlaw05_SpareTorn.L12.wp bad bad_n bad_c turn d b t28 t73 t73_n t73_c t74 t75 s_4_0 s_4_1 cut_5_0 cut_5_1 cut_5_2 p_0 p_1 p_2 h Q) : gabionlaw05_SpareTorn.L12 bad bad_n bad_c turn d b t28 t73 t73_n t73_c t74 t75 s_4_0 s_4_1 cut_5_0 cut_5_1 cut_5_2 p_0 p_1 p_2 h Q :=
  xs_ok (H := gabionlaw05_SpareTorn.H) (lcuts := gabionlaw05_SpareTorn.lc) (rcuts := gabionlaw05_SpareTorn.rc) (fn := Tryz.f6) mixed Tryz.func6 2000 _ _ _ (@cast (gabionlaw05_SpareTorn.L12.wp bad bad_n bad_c turn d b t28 t73 t73_n t73_c t74 t75 s_4_0 s_4_1 cut_5_0 cut_5_1 cut_5_2 p_0 p_1 p_2 h Q) _ (by kernel_rfl) hk)
theorem gabionlaw05_SpareTorn.J20.ok {bad : Option Addr} {bad_n : Nat} {bad_c : Nat} {turn : Int} {d : Option Addr} {b : Option Addr} {is0 : ByteArray} {t28 : Int} {s_4_0 : ByteArray} {s_4_1 : ByteArray} {cut_5_0 : Int} {cut_5_1 : Int} {cut_5_2 : Int} {p_0 : Int} {p_1 : Int} {p_2 : Int} {h : Heap} {Q : Value → Heap → Prop} (hk : gabionlaw05_SpareTorn.J20.wp bad bad_n bad_c turn d b is0 t28 s_4_0 s_4_1 cut_5_0 cut_5_1 cut_5_2 p_0 p_1 p_2 h Q) : gabionlaw05_SpareTorn.J20 bad bad_n bad_c turn d b is0 t28 s_4_0 s_4_1 cut_5_0 cut_5_1 cut_5_2 p_0 p_1 p_2 h Q :=
  xs_ok (H := gabionlaw05_SpareTorn.H) (lcuts := gabionlaw05_SpareTorn.lc) (rcuts := [⟨8, [0, 4, 5, 7, 8, 9, 28], [4, 5, 7]⟩, ⟨11, [0, 4, 5, 7, 8, 9, 11, 28], [4, 5, 7]⟩, ⟨24, [0, 4, 5, 7, 8, 9, 15, 16, 28], [4, 5, 7]⟩, ⟨34, [0, 4, 5, 7, 8, 15, 16, 19, 28], [4, 5, 7]⟩, ⟨39, [0, 4, 5, 7, 8, 15, 16, 21, 28], [4, 5, 7]⟩, ⟨41, [], []⟩]) (fn := Tryz.f6) mixed Tryz.func6 2000 _ _ _ (@cast (gabionlaw05_SpareTorn.J20.wp bad bad_n bad_c turn d b is0 t28 s_4_0 s_4_1 cut_5_0 cut_5_1 cut_5_2 p_0 p_1 p_2 h Q) _ (by kernel_rfl) hk)
theorem gabionlaw05_SpareTorn.J24.ok {bad : Option Addr} {bad_n : Nat} {bad_c : Nat} {turn : Int} {d : Option Addr} {is0 : ByteArray} {f : Int} {t28 : Int} {s_4_0 : ByteArray} {s_4_1 : ByteArray} {cut_5_0 : Int} {cut_5_1 : Int} {cut_5_2 : Int} {p_0 : Int} {p_1 : Int} {p_2 : Int} {h : Heap} {Q : Value → Heap → Prop} (hk : gabionlaw05_SpareTorn.J24.wp bad bad_n bad_c turn d is0 f t28 s_4_0 s_4_1 cut_5_0 cut_5_1 cut_5_2 p_0 p_1 p_2 h Q) : gabionlaw05_SpareTorn.J24 bad bad_n bad_c turn d is0 f t28 s_4_0 s_4_1 cut_5_0 cut_5_1 cut_5_2 p_0 p_1 p_2 h Q :=
  xs_ok (H := gabionlaw05_SpareTorn.H) (lcuts := gabionlaw05_SpareTorn.lc) (rcuts := [⟨8, [0, 4, 5, 7, 8, 9, 28], [4, 5, 7]⟩, ⟨11, [0, 4, 5, 7, 8, 9, 11, 28], [4, 5, 7]⟩, ⟨20, [0, 4, 5, 7, 8, 9, 11, 15, 28], [4, 5, 7]⟩, ⟨34, [0, 4, 5, 7, 8, 15, 16, 19, 28], [4, 5, 7]⟩, ⟨39, [0, 4, 5, 7, 8, 15, 16, 21, 28], [4, 5, 7]⟩, ⟨41, [], []⟩]) (fn := Tryz.f6) mixed Tryz.func6 2000 _ _ _ (@cast (gabionlaw05_SpareTorn.J24.wp bad bad_n bad_c turn d is0 f t28 s_4_0 s_4_1 cut_5_0 cut_5_1 cut_5_2 p_0 p_1 p_2 h Q) _ (by kernel_rfl) hk)
theorem gabionlaw05_SpareTorn.L26.ok {bad : Option Addr} {bad_n : Nat} {bad_c : Nat} {turn : Int} {d : Option Addr} {is0 : ByteArray} {f : Int} {keep : Option Addr} {keep_n : Nat} {keep_c : Nat} {t28 : Int} {t115 : Int} {s_4_0 : ByteArray} {s_4_1 : ByteArray} {cut_5_0 : Int} {cut_5_1 : Int} {cut_5_2 : Int} {p_0 : Int} {p_1 : Int} {p_2 : Int} {h : Heap} {Q : Value → Heap → Prop} (hk : gabionlaw05_SpareTorn.L26.wp bad bad_n bad_c turn d is0 f keep keep_n keep_c t28 t115 s_4_0 s_4_1 cut_5_0 cut_5_1 cut_5_2 p_0 p_1 p_2 h Q) : gabionlaw05_SpareTorn.L26 bad bad_n bad_c turn d is0 f keep keep_n keep_c t28 t115 s_4_0 s_4_1 cut_5_0 cut_5_1 cut_5_2 p_0 p_1 p_2 h Q :=
  xs_ok (H := gabionlaw05_SpareTorn.H) (lcuts := gabionlaw05_SpareTorn.lc) (rcuts := gabionlaw05_SpareTorn.rc) (fn := Tryz.f6) mixed Tryz.func6 2000 _ _ _ (@cast (gabionlaw05_SpareTorn.L26.wp bad bad_n bad_c turn d is0 f keep keep_n keep_c t28 t115 s_4_0 s_4_1 cut_5_0 cut_5_1 cut_5_2 p_0 p_1 p_2 h Q) _ (by kernel_rfl) hk)
theorem gabionlaw05_SpareTorn.J34.ok {bad : Option Addr} {bad_n : Nat} {bad_c : Nat} {turn : Int} {is0 : ByteArray} {f : Int} {again : Option Addr} {t28 : Int} {s_4_0 : ByteArray} {s_4_1 : ByteArray} {cut_5_0 : Int} {cut_5_1 : Int} {cut_5_2 : Int} {p_0 : Int} {p_1 : Int} {p_2 : Int} {h : Heap} {Q : Value → Heap → Prop} (hk : gabionlaw05_SpareTorn.J34.wp bad bad_n bad_c turn is0 f again t28 s_4_0 s_4_1 cut_5_0 cut_5_1 cut_5_2 p_0 p_1 p_2 h Q) : gabionlaw05_SpareTorn.J34 bad bad_n bad_c turn is0 f again t28 s_4_0 s_4_1 cut_5_0 cut_5_1 cut_5_2 p_0 p_1 p_2 h Q :=
  xs_ok (H := gabionlaw05_SpareTorn.H) (lcuts := gabionlaw05_SpareTorn.lc) (rcuts := [⟨8, [0, 4, 5, 7, 8, 9, 28], [4, 5, 7]⟩, ⟨11, [0, 4, 5, 7, 8, 9, 11, 28], [4, 5, 7]⟩, ⟨20, [0, 4, 5, 7, 8, 9, 11, 15, 28], [4, 5, 7]⟩, ⟨24, [0, 4, 5, 7, 8, 9, 15, 16, 28], [4, 5, 7]⟩, ⟨39, [0, 4, 5, 7, 8, 15, 16, 21, 28], [4, 5, 7]⟩, ⟨41, [], []⟩]) (fn := Tryz.f6) mixed Tryz.func6 2000 _ _ _ (@cast (gabionlaw05_SpareTorn.J34.wp bad bad_n bad_c turn is0 f again t28 s_4_0 s_4_1 cut_5_0 cut_5_1 cut_5_2 p_0 p_1 p_2 h Q) _ (by kernel_rfl) hk)
theorem gabionlaw05_SpareTorn.J39.ok {bad : Option Addr} {bad_n : Nat} {bad_c : Nat} {turn : Int} {is0 : ByteArray} {f : Int} {got : ByteArray} {t28 : Int} {s_4_0 : ByteArray} {s_4_1 : ByteArray} {cut_5_0 : Int} {cut_5_1 : Int} {cut_5_2 : Int} {p_0 : Int} {p_1 : Int} {p_2 : Int} {h : Heap} {Q : Value → Heap → Prop} (hk : gabionlaw05_SpareTorn.J39.wp bad bad_n bad_c turn is0 f got t28 s_4_0 s_4_1 cut_5_0 cut_5_1 cut_5_2 p_0 p_1 p_2 h Q) : gabionlaw05_SpareTorn.J39 bad bad_n bad_c turn is0 f got t28 s_4_0 s_4_1 cut_5_0 cut_5_1 cut_5_2 p_0 p_1 p_2 h Q :=
  xs_ok (H := gabionlaw05_SpareTorn.H) (lcuts := gabionlaw05_SpareTorn.lc) (rcuts := [⟨8, [0, 4, 5, 7, 8, 9, 28], [4, 5, 7]⟩, ⟨11, [0, 4, 5, 7, 8, 9, 11, 28], [4, 5, 7]⟩, ⟨20, [0, 4, 5, 7, 8, 9, 11, 15, 28], [4, 5, 7]⟩, ⟨24, [0, 4, 5, 7, 8, 9, 15, 16, 28], [4, 5, 7]⟩, ⟨34, [0, 4, 5, 7, 8, 15, 16, 19, 28], [4, 5, 7]⟩, ⟨41, [], []⟩]) (fn := Tryz.f6) mixed Tryz.func6 2000 _ _ _ (@cast (gabionlaw05_SpareTorn.J39.wp bad bad_n bad_c turn is0 f got t28 s_4_0 s_4_1 cut_5_0 cut_5_1 cut_5_2 p_0 p_1 p_2 h Q) _ (by kernel_rfl) hk)
theorem gabionlaw05_SpareTorn.J41.ok {h : Heap} {Q : Value → Heap → Prop} (hk : gabionlaw05_SpareTorn.J41.wp  h Q) : gabionlaw05_SpareTorn.J41  h Q :=
  xs_ok (H := gabionlaw05_SpareTorn.H) (lcuts := gabionlaw05_SpareTorn.lc) (rcuts := [⟨8, [0, 4, 5, 7, 8, 9, 28], [4, 5, 7]⟩, ⟨11, [0, 4, 5, 7, 8, 9, 11, 28], [4, 5, 7]⟩, ⟨20, [0, 4, 5, 7, 8, 9, 11, 15, 28], [4, 5, 7]⟩, ⟨24, [0, 4, 5, 7, 8, 9, 15, 16, 28], [4, 5, 7]⟩, ⟨34, [0, 4, 5, 7, 8, 15, 16, 19, 28], [4, 5, 7]⟩, ⟨39, [0, 4, 5, 7, 8, 15, 16, 21, 28], [4, 5, 7]⟩]) (fn := Tryz.f6) mixed Tryz.func6 2000 _ _ _ (@cast (gabionlaw05_SpareTorn.J41.wp  h Q) _ (by kernel_rfl) hk)
end Go.Gb
