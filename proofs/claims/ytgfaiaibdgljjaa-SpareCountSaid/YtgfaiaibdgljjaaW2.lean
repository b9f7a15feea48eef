/- Own text for the seat: W2. -/
import Derived.Test.YtgfaiaibdgljjaaW1
set_option linter.unusedVariables false
set_option linter.unusedSimpArgs false
set_option linter.unnecessarySimpa false
set_option linter.deprecated false
set_option maxRecDepth 100000
namespace Go.Gb
open Go.Proofs

/-! (*gabion/spare.Bank).say -/
def spare_Bank_say.H : Hn := ⟨[], [], [⟨1, .q 0 (.q 1 (.q 2 (.q 4 (.q 5 (.q 6 (.q 7 (.q 9 (.q 10 (.q 11 (.q 15 (.q 16 (.q 17 (.q 20 (.br 3 (.br 8 (.br 12 (.q 13 (.q 14 (.br 18 (.q 19 (.q 21 (.q 22 (.q 23 (.nil))))) (.one 21 (.q 18 (.q 19 (.q 22 (.q 23 (.nil))))))))) (.br 18 (.q 19 (.br 12 (.q 13 (.q 14 (.q 21 (.q 22 (.q 23 (.nil)))))) (.one 21 (.q 12 (.q 13 (.q 14 (.q 22 (.q 23 (.nil))))))))) (.one 21 (.br 12 (.q 13 (.q 14 (.q 18 (.q 19 (.q 22 (.q 23 (.nil))))))) (.one 18 (.q 19 (.q 12 (.q 13 (.q 14 (.q 22 (.q 23 (.nil)))))))))))) (.br 12 (.q 13 (.br 8 (.q 14 (.br 18 (.q 19 (.q 21 (.q 22 (.q 23 (.nil))))) (.one 21 (.q 18 (.q 19 (.q 22 (.q 23 (.nil)))))))) (.br 18 (.q 19 (.br 8 (.q 14 (.q 21 (.q 22 (.q 23 (.nil))))) (.one 21 (.q 8 (.q 14 (.q 22 (.q 23 (.nil)))))))) (.one 21 (.br 8 (.q 14 (.q 18 (.q 19 (.q 22 (.q 23 (.nil)))))) (.one 18 (.q 19 (.q 8 (.q 14 (.q 22 (.q 23 (.nil)))))))))))) (.br 18 (.q 19 (.br 8 (.br 12 (.q 13 (.q 14 (.q 21 (.q 22 (.q 23 (.nil)))))) (.one 21 (.q 12 (.q 13 (.q 14 (.q 22 (.q 23 (.nil)))))))) (.br 12 (.q 13 (.br 8 (.q 14 (.q 21 (.q 22 (.q 23 (.nil))))) (.one 21 (.q 8 (.q 14 (.q 22 (.q 23 (.nil)))))))) (.one 21 (.ld 12 12607488 (.q 13 (.q 8 (.q 14 (.q 22 (.q 23 (.nil))))))))))) (.one 21 (.br 8 (.br 12 (.q 13 (.q 14 (.q 18 (.q 19 (.q 22 (.q 23 (.nil))))))) (.one 18 (.q 19 (.q 12 (.q 13 (.q 14 (.q 22 (.q 23 (.nil))))))))) (.br 12 (.q 13 (.br 8 (.q 14 (.q 18 (.q 19 (.q 22 (.q 23 (.nil)))))) (.one 18 (.q 19 (.q 8 (.q 14 (.q 22 (.q 23 (.nil))))))))) (.one 18 (.q 19 (.ld 12 12607488 (.q 13 (.q 8 (.q 14 (.q 22 (.q 23 (.nil))))))))))))))) (.br 8 (.br 3 (.br 12 (.q 13 (.q 14 (.br 18 (.q 19 (.q 21 (.q 22 (.q 23 (.nil))))) (.one 21 (.q 18 (.q 19 (.q 22 (.q 23 (.nil))))))))) (.br 18 (.q 19 (.br 12 (.q 13 (.q 14 (.q 21 (.q 22 (.q 23 (.nil)))))) (.one 21 (.q 12 (.q 13 (.q 14 (.q 22 (.q 23 (.nil))))))))) (.one 21 (.br 12 (.q 13 (.q 14 (.q 18 (.q 19 (.q 22 (.q 23 (.nil))))))) (.one 18 (.q 19 (.q 12 (.q 13 (.q 14 (.q 22 (.q 23 (.nil)))))))))))) (.br 12 (.q 13 (.q 14 (.br 3 (.br 18 (.q 19 (.q 21 (.q 22 (.q 23 (.nil))))) (.one 21 (.q 18 (.q 19 (.q 22 (.q 23 (.nil))))))) (.br 18 (.q 19 (.br 3 (.q 21 (.q 22 (.q 23 (.nil)))) (.one 21 (.q 3 (.q 22 (.q 23 (.nil))))))) (.one 21 (.ld 18 13107200 (.q 19 (.q 3 (.q 22 (.q 23 (.nil))))))))))) (.br 18 (.q 19 (.br 3 (.br 12 (.q 13 (.q 14 (.q 21 (.q 22 (.q 23 (.nil)))))) (.one 21 (.q 12 (.q 13 (.q 14 (.q 22 (.q 23 (.nil)))))))) (.br 12 (.q 13 (.q 14 (.br 3 (.q 21 (.q 22 (.q 23 (.nil)))) (.one 21 (.q 3 (.q 22 (.q 23 (.nil)))))))) (.one 21 (.ld 12 12607488 (.q 13 (.q 14 (.q 3 (.q 22 (.q 23 (.nil))))))))))) (.one 21 (.br 3 (.br 12 (.q 13 (.q 14 (.q 18 (.q 19 (.q 22 (.q 23 (.nil))))))) (.one 18 (.q 19 (.q 12 (.q 13 (.q 14 (.q 22 (.q 23 (.nil))))))))) (.br 12 (.q 13 (.q 14 (.ld 18 13107200 (.q 19 (.q 3 (.q 22 (.q 23 (.nil)))))))) (.one 18 (.q 19 (.ld 12 12607488 (.q 13 (.q 14 (.q 3 (.q 22 (.q 23 (.nil))))))))))))))) (.br 12 (.q 13 (.br 3 (.br 8 (.q 14 (.br 18 (.q 19 (.q 21 (.q 22 (.q 23 (.nil))))) (.one 21 (.q 18 (.q 19 (.q 22 (.q 23 (.nil)))))))) (.br 18 (.q 19 (.br 8 (.q 14 (.q 21 (.q 22 (.q 23 (.nil))))) (.one 21 (.q 8 (.q 14 (.q 22 (.q 23 (.nil)))))))) (.one 21 (.br 8 (.q 14 (.q 18 (.q 19 (.q 22 (.q 23 (.nil)))))) (.one 18 (.q 19 (.q 8 (.q 14 (.q 22 (.q 23 (.nil))))))))))) (.br 8 (.q 14 (.br 3 (.br 18 (.q 19 (.q 21 (.q 22 (.q 23 (.nil))))) (.one 21 (.q 18 (.q 19 (.q 22 (.q 23 (.nil))))))) (.br 18 (.q 19 (.br 3 (.q 21 (.q 22 (.q 23 (.nil)))) (.one 21 (.q 3 (.q 22 (.q 23 (.nil))))))) (.one 21 (.ld 18 13107200 (.q 19 (.q 3 (.q 22 (.q 23 (.nil)))))))))) (.br 18 (.q 19 (.br 3 (.br 8 (.q 14 (.q 21 (.q 22 (.q 23 (.nil))))) (.one 21 (.q 8 (.q 14 (.q 22 (.q 23 (.nil))))))) (.br 8 (.q 14 (.br 3 (.q 21 (.q 22 (.q 23 (.nil)))) (.one 21 (.q 3 (.q 22 (.q 23 (.nil))))))) (.one 21 (.ld 8 12599296 (.q 14 (.q 3 (.q 22 (.q 23 (.nil)))))))))) (.one 21 (.br 3 (.br 8 (.q 14 (.q 18 (.q 19 (.q 22 (.q 23 (.nil)))))) (.one 18 (.q 19 (.q 8 (.q 14 (.q 22 (.q 23 (.nil)))))))) (.br 8 (.q 14 (.ld 18 13107200 (.q 19 (.q 3 (.q 22 (.q 23 (.nil))))))) (.one 18 (.q 19 (.ld 8 12599296 (.q 14 (.q 3 (.q 22 (.q 23 (.nil))))))))))))))) (.br 18 (.q 19 (.br 3 (.br 8 (.br 12 (.q 13 (.q 14 (.q 21 (.q 22 (.q 23 (.nil)))))) (.one 21 (.q 12 (.q 13 (.q 14 (.q 22 (.q 23 (.nil)))))))) (.br 12 (.q 13 (.br 8 (.q 14 (.q 21 (.q 22 (.q 23 (.nil))))) (.one 21 (.q 8 (.q 14 (.q 22 (.q 23 (.nil)))))))) (.one 21 (.ld 12 12607488 (.q 13 (.q 8 (.q 14 (.q 22 (.q 23 (.nil)))))))))) (.br 8 (.br 3 (.br 12 (.q 13 (.q 14 (.q 21 (.q 22 (.q 23 (.nil)))))) (.one 21 (.q 12 (.q 13 (.q 14 (.q 22 (.q 23 (.nil)))))))) (.br 12 (.q 13 (.q 14 (.br 3 (.q 21 (.q 22 (.q 23 (.nil)))) (.one 21 (.q 3 (.q 22 (.q 23 (.nil)))))))) (.one 21 (.ld 12 12607488 (.q 13 (.q 14 (.q 3 (.q 22 (.q 23 (.nil)))))))))) (.br 12 (.q 13 (.br 3 (.br 8 (.q 14 (.q 21 (.q 22 (.q 23 (.nil))))) (.one 21 (.q 8 (.q 14 (.q 22 (.q 23 (.nil))))))) (.br 8 (.q 14 (.br 3 (.q 21 (.q 22 (.q 23 (.nil)))) (.one 21 (.q 3 (.q 22 (.q 23 (.nil))))))) (.one 21 (.ld 8 12599296 (.q 14 (.q 3 (.q 22 (.q 23 (.nil)))))))))) (.one 21 (.ld 12 12607488 (.q 13 (.ld 8 12599296 (.q 14 (.q 3 (.q 22 (.q 23 (.nil))))))))))))) (.one 21 (.br 3 (.br 8 (.br 12 (.q 13 (.q 14 (.q 18 (.q 19 (.q 22 (.q 23 (.nil))))))) (.one 18 (.q 19 (.q 12 (.q 13 (.q 14 (.q 22 (.q 23 (.nil))))))))) (.br 12 (.q 13 (.br 8 (.q 14 (.q 18 (.q 19 (.q 22 (.q 23 (.nil)))))) (.one 18 (.q 19 (.q 8 (.q 14 (.q 22 (.q 23 (.nil))))))))) (.one 18 (.q 19 (.ld 12 12607488 (.q 13 (.q 8 (.q 14 (.q 22 (.q 23 (.nil))))))))))) (.br 8 (.br 3 (.br 12 (.q 13 (.q 14 (.q 18 (.q 19 (.q 22 (.q 23 (.nil))))))) (.one 18 (.q 19 (.q 12 (.q 13 (.q 14 (.q 22 (.q 23 (.nil))))))))) (.br 12 (.q 13 (.q 14 (.ld 18 13107200 (.q 19 (.q 3 (.q 22 (.q 23 (.nil)))))))) (.one 18 (.q 19 (.ld 12 12607488 (.q 13 (.q 14 (.q 3 (.q 22 (.q 23 (.nil))))))))))) (.br 12 (.q 13 (.br 3 (.br 8 (.q 14 (.q 18 (.q 19 (.q 22 (.q 23 (.nil)))))) (.one 18 (.q 19 (.q 8 (.q 14 (.q 22 (.q 23 (.nil)))))))) (.br 8 (.q 14 (.ld 18 13107200 (.q 19 (.q 3 (.q 22 (.q 23 (.nil))))))) (.one 18 (.q 19 (.ld 8 12599296 (.q 14 (.q 3 (.q 22 (.q 23 (.nil))))))))))) (.one 18 (.q 19 (.ld 12 12607488 (.q 13 (.ld 8 12599296 (.q 14 (.q 3 (.q 22 (.q 23 (.nil))))))))))))))))))))))))))))))), []⟩, ⟨3, .q 0 (.q 1 (.q 2 (.q 3 (.q 5 (.br 4 (.q 6 (.q 7 (.q 8 (.nil)))) (.one 6 (.q 4 (.q 7 (.q 8 (.nil)))))))))), []⟩], []⟩
def spare_Bank_say.lc : List Cut := []
def spare_Bank_say.rc : List Cut := [⟨2, [0, 1, 5], []⟩]
def spare_Bank_say.J2 (b : Option Addr) (n : Int) (e : Int) (h : Heap) (Q : Value → Heap → Prop) : Prop :=
  TW Try.prog 45 40 [.code (cAt (bodyOf Try.f45) [1, 1, 0, 0]), .code (cAt (bodyOf Try.f45) [1, 1, 0, 1]), .code (cAt (bodyOf Try.f45) [1, 1, 1])] ⟨[(0, .v (.pointer b)), (1, .v (.int .u64 n)), (5, .v (.int .i64 e))], []⟩ h Q
def spare_Bank_say.wp (b : Option Addr) (n : Int) (h : Heap) (Q : Value → Heap → Prop) : Prop :=
  atBase b fun (b_1 o : Nat) =>
    atBase b fun (b_2 o_1 : Nat) =>
      atBase b fun (b_3 o_2 : Nat) =>
        atBase b fun (b_4 o_3 : Nat) =>
          (∃ (x : Option Addr),
              h.cell b_1 (o + 0) = some (Value.pointer x) ∧
                (∃ (x_1 : Int),
                    h.cell b_2 (o_1 + 1 + 0) = some (Value.int IntKind.i64 x_1) ∧
                      (∃ (x_2 : Int),
                          h.cell b_3 (o_2 + 4) = some (Value.int IntKind.i64 x_2) ∧
                            (∃ (x_3 : Int),
                                h.cell b_4 (o_3 + 4) = some (Value.int IntKind.i64 x_3) ∧
                                  C Try.prog 59 #[Value.int IntKind.u64 n] h fun (r : Value) (h' : Heap) =>
                                    ∃ (x_4 : Int),
                                      r = Value.int IntKind.u64 x_4 ∧
                                        C Try.prog 60 #[Value.pointer x, Value.int IntKind.i64 (IntKind.i64.wrap (x_1 + iquo IntKind.i64 x_2 8)), Value.int IntKind.i64 (irem x_3 8), Value.int IntKind.u64 x_4] h'
                                          fun (r : Value) (h' : Heap) => ∃ (x : Int), r = Value.int IntKind.i64 x ∧ spare_Bank_say.J2 b n x h' Q) ∧
                              C Try.prog 59 #[Value.int IntKind.u64 n] h fun (r : Value) (h' : Heap) =>
                                ∃ (x_3 : Int),
                                  r = Value.int IntKind.u64 x_3 ∧
                                    ∃ (x_4 : Int),
                                      h'.cell b_4 (o_3 + 4) = some (Value.int IntKind.i64 x_4) ∧
                                        C Try.prog 60 #[Value.pointer x, Value.int IntKind.i64 (IntKind.i64.wrap (x_1 + iquo IntKind.i64 x_2 8)), Value.int IntKind.i64 (irem x_4 8), Value.int IntKind.u64 x_3] h'
                                          fun (r : Value) (h' : Heap) => ∃ (x : Int), r = Value.int IntKind.i64 x ∧ spare_Bank_say.J2 b n x h' Q) ∧
                        (∃ (x_2 : Int),
                            h.cell b_4 (o_3 + 4) = some (Value.int IntKind.i64 x_2) ∧
                              (∃ (x_3 : Int),
                                  h.cell b_3 (o_2 + 4) = some (Value.int IntKind.i64 x_3) ∧
                                    C Try.prog 59 #[Value.int IntKind.u64 n] h fun (r : Value) (h' : Heap) =>
                                      ∃ (x_4 : Int),
                                        r = Value.int IntKind.u64 x_4 ∧
                                          C Try.prog 60 #[Value.pointer x, Value.int IntKind.i64 (IntKind.i64.wrap (x_1 + iquo IntKind.i64 x_3 8)), Value.int IntKind.i64 (irem x_2 8), Value.int IntKind.u64 x_4] h'
                                            fun (r : Value) (h' : Heap) => ∃ (x : Int), r = Value.int IntKind.i64 x ∧ spare_Bank_say.J2 b n x h' Q) ∧
                                C Try.prog 59 #[Value.int IntKind.u64 n] h fun (r : Value) (h' : Heap) =>
                                  ∃ (x_3 : Int),
                                    r = Value.int IntKind.u64 x_3 ∧
                                      ∃ (x_4 : Int),
                                        h'.cell b_3 (o_2 + 4) = some (Value.int IntKind.i64 x_4) ∧
                                          C Try.prog 60 #[Value.pointer x, Value.int IntKind.i64 (IntKind.i64.wrap (x_1 + iquo IntKind.i64 x_4 8)), Value.int IntKind.i64 (irem x_2 8), Value.int IntKind.u64 x_3] h'
                                            fun (r : Value) (h' : Heap) => ∃ (x : Int), r = Value.int IntKind.i64 x ∧ spare_Bank_say.J2 b n x h' Q) ∧
                          C Try.prog 59 #[Value.int IntKind.u64 n] h fun (r : Value) (h' : Heap) =>
                            ∃ (x_2 : Int),
                              r = Value.int IntKind.u64 x_2 ∧
                                (∃ (x_3 : Int),
                                    h'.cell b_3 (o_2 + 4) = some (Value.int IntKind.i64 x_3) ∧
                                      ∃ (x_4 : Int),
                                        h'.cell b_4 (o_3 + 4) = some (Value.int IntKind.i64 x_4) ∧
                                          C Try.prog 60 #[Value.pointer x, Value.int IntKind.i64 (IntKind.i64.wrap (x_1 + iquo IntKind.i64 x_3 8)), Value.int IntKind.i64 (irem x_4 8), Value.int IntKind.u64 x_2] h'
                                            fun (r : Value) (h' : Heap) => ∃ (x : Int), r = Value.int IntKind.i64 x ∧ spare_Bank_say.J2 b n x h' Q) ∧
                                  ∃ (x_3 : Int),
                                    h'.cell b_4 (o_3 + 4) = some (Value.int IntKind.i64 x_3) ∧
                                      ∃ (x_4 : Int),
                                        h'.cell b_3 (o_2 + 4) = some (Value.int IntKind.i64 x_4) ∧
                                          C Try.prog 60 #[Value.pointer x, Value.int IntKind.i64 (IntKind.i64.wrap (x_1 + iquo IntKind.i64 x_4 8)), Value.int IntKind.i64 (irem x_3 8), Value.int IntKind.u64 x_2] h'
                                            fun (r : Value) (h' : Heap) => ∃ (x : Int), r = Value.int IntKind.i64 x ∧ spare_Bank_say.J2 b n x h' Q) ∧
                  (∃ (x_1 : Int),
                      h.cell b_3 (o_2 + 4) = some (Value.int IntKind.i64 x_1) ∧
                        (∃ (x_2 : Int),
                            h.cell b_2 (o_1 + 1 + 0) = some (Value.int IntKind.i64 x_2) ∧
                              (∃ (x_3 : Int),
                                  h.cell b_4 (o_3 + 4) = some (Value.int IntKind.i64 x_3) ∧
                                    C Try.prog 59 #[Value.int IntKind.u64 n] h fun (r : Value) (h' : Heap) =>
                                      ∃ (x_4 : Int),
                                        r = Value.int IntKind.u64 x_4 ∧
                                          C Try.prog 60 #[Value.pointer x, Value.int IntKind.i64 (IntKind.i64.wrap (x_2 + iquo IntKind.i64 x_1 8)), Value.int IntKind.i64 (irem x_3 8), Value.int IntKind.u64 x_4] h'
                                            fun (r : Value) (h' : Heap) => ∃ (x : Int), r = Value.int IntKind.i64 x ∧ spare_Bank_say.J2 b n x h' Q) ∧
                                C Try.prog 59 #[Value.int IntKind.u64 n] h fun (r : Value) (h' : Heap) =>
                                  ∃ (x_3 : Int),
                                    r = Value.int IntKind.u64 x_3 ∧
                                      ∃ (x_4 : Int),
                                        h'.cell b_4 (o_3 + 4) = some (Value.int IntKind.i64 x_4) ∧
                                          C Try.prog 60 #[Value.pointer x, Value.int IntKind.i64 (IntKind.i64.wrap (x_2 + iquo IntKind.i64 x_1 8)), Value.int IntKind.i64 (irem x_4 8), Value.int IntKind.u64 x_3] h'
                                            fun (r : Value) (h' : Heap) => ∃ (x : Int), r = Value.int IntKind.i64 x ∧ spare_Bank_say.J2 b n x h' Q) ∧
                          (∃ (x_2 : Int),
                              h.cell b_4 (o_3 + 4) = some (Value.int IntKind.i64 x_2) ∧
                                (∃ (x_3 : Int),
                                    h.cell b_2 (o_1 + 1 + 0) = some (Value.int IntKind.i64 x_3) ∧
                                      C Try.prog 59 #[Value.int IntKind.u64 n] h fun (r : Value) (h' : Heap) =>
                                        ∃ (x_4 : Int),
                                          r = Value.int IntKind.u64 x_4 ∧
                                            C Try.prog 60 #[Value.pointer x, Value.int IntKind.i64 (IntKind.i64.wrap (x_3 + iquo IntKind.i64 x_1 8)), Value.int IntKind.i64 (irem x_2 8), Value.int IntKind.u64 x_4] h'
                                              fun (r : Value) (h' : Heap) => ∃ (x : Int), r = Value.int IntKind.i64 x ∧ spare_Bank_say.J2 b n x h' Q) ∧
                                  C Try.prog 59 #[Value.int IntKind.u64 n] h fun (r : Value) (h' : Heap) =>
                                    ∃ (x_3 : Int),
                                      r = Value.int IntKind.u64 x_3 ∧
                                        ∃ (x_4 : Int),
                                          h'.cell b_2 (o_1 + 1 + 0) = some (Value.int IntKind.i64 x_4) ∧
                                            C Try.prog 60 #[Value.pointer x, Value.int IntKind.i64 (IntKind.i64.wrap (x_4 + iquo IntKind.i64 x_1 8)), Value.int IntKind.i64 (irem x_2 8), Value.int IntKind.u64 x_3] h'
                                              fun (r : Value) (h' : Heap) => ∃ (x : Int), r = Value.int IntKind.i64 x ∧ spare_Bank_say.J2 b n x h' Q) ∧
                            C Try.prog 59 #[Value.int IntKind.u64 n] h fun (r : Value) (h' : Heap) =>
                              ∃ (x_2 : Int),
                                r = Value.int IntKind.u64 x_2 ∧
                                  (∃ (x_3 : Int),
                                      h'.cell b_2 (o_1 + 1 + 0) = some (Value.int IntKind.i64 x_3) ∧
                                        ∃ (x_4 : Int),
                                          h'.cell b_4 (o_3 + 4) = some (Value.int IntKind.i64 x_4) ∧
                                            C Try.prog 60 #[Value.pointer x, Value.int IntKind.i64 (IntKind.i64.wrap (x_3 + iquo IntKind.i64 x_1 8)), Value.int IntKind.i64 (irem x_4 8), Value.int IntKind.u64 x_2] h'
                                              fun (r : Value) (h' : Heap) => ∃ (x : Int), r = Value.int IntKind.i64 x ∧ spare_Bank_say.J2 b n x h' Q) ∧
                                    ∃ (x_3 : Int),
                                      h'.cell b_4 (o_3 + 4) = some (Value.int IntKind.i64 x_3) ∧
                                        ∃ (x_4 : Int),
                                          h'.cell b_2 (o_1 + 1 + 0) = some (Value.int IntKind.i64 x_4) ∧
                                            C Try.prog 60 #[Value.pointer x, Value.int IntKind.i64 (IntKind.i64.wrap (x_4 + iquo IntKind.i64 x_1 8)), Value.int IntKind.i64 (irem x_3 8), Value.int IntKind.u64 x_2] h'
                                              fun (r : Value) (h' : Heap) => ∃ (x : Int), r = Value.int IntKind.i64 x ∧ spare_Bank_say.J2 b n x h' Q) ∧
                    (∃ (x_1 : Int),
                        h.cell b_4 (o_3 + 4) = some (Value.int IntKind.i64 x_1) ∧
                          (∃ (x_2 : Int),
                              h.cell b_2 (o_1 + 1 + 0) = some (Value.int IntKind.i64 x_2) ∧
                                (∃ (x_3 : Int),
                                    h.cell b_3 (o_2 + 4) = some (Value.int IntKind.i64 x_3) ∧
                                      C Try.prog 59 #[Value.int IntKind.u64 n] h fun (r : Value) (h' : Heap) =>
                                        ∃ (x_4 : Int),
                                          r = Value.int IntKind.u64 x_4 ∧
                                            C Try.prog 60 #[Value.pointer x, Value.int IntKind.i64 (IntKind.i64.wrap (x_2 + iquo IntKind.i64 x_3 8)), Value.int IntKind.i64 (irem x_1 8), Value.int IntKind.u64 x_4] h'
                                              fun (r : Value) (h' : Heap) => ∃ (x : Int), r = Value.int IntKind.i64 x ∧ spare_Bank_say.J2 b n x h' Q) ∧
                                  C Try.prog 59 #[Value.int IntKind.u64 n] h fun (r : Value) (h' : Heap) =>
                                    ∃ (x_3 : Int),
                                      r = Value.int IntKind.u64 x_3 ∧
                                        ∃ (x_4 : Int),
                                          h'.cell b_3 (o_2 + 4) = some (Value.int IntKind.i64 x_4) ∧
                                            C Try.prog 60 #[Value.pointer x, Value.int IntKind.i64 (IntKind.i64.wrap (x_2 + iquo IntKind.i64 x_4 8)), Value.int IntKind.i64 (irem x_1 8), Value.int IntKind.u64 x_3] h'
                                              fun (r : Value) (h' : Heap) => ∃ (x : Int), r = Value.int IntKind.i64 x ∧ spare_Bank_say.J2 b n x h' Q) ∧
                            (∃ (x_2 : Int),
                                h.cell b_3 (o_2 + 4) = some (Value.int IntKind.i64 x_2) ∧
                                  (∃ (x_3 : Int),
                                      h.cell b_2 (o_1 + 1 + 0) = some (Value.int IntKind.i64 x_3) ∧
                                        C Try.prog 59 #[Value.int IntKind.u64 n] h fun (r : Value) (h' : Heap) =>
                                          ∃ (x_4 : Int),
                                            r = Value.int IntKind.u64 x_4 ∧
                                              C Try.prog 60 #[Value.pointer x, Value.int IntKind.i64 (IntKind.i64.wrap (x_3 + iquo IntKind.i64 x_2 8)), Value.int IntKind.i64 (irem x_1 8), Value.int IntKind.u64 x_4] h'
                                                fun (r : Value) (h' : Heap) => ∃ (x : Int), r = Value.int IntKind.i64 x ∧ spare_Bank_say.J2 b n x h' Q) ∧
                                    C Try.prog 59 #[Value.int IntKind.u64 n] h fun (r : Value) (h' : Heap) =>
                                      ∃ (x_3 : Int),
                                        r = Value.int IntKind.u64 x_3 ∧
                                          ∃ (x_4 : Int),
                                            h'.cell b_2 (o_1 + 1 + 0) = some (Value.int IntKind.i64 x_4) ∧
                                              C Try.prog 60 #[Value.pointer x, Value.int IntKind.i64 (IntKind.i64.wrap (x_4 + iquo IntKind.i64 x_2 8)), Value.int IntKind.i64 (irem x_1 8), Value.int IntKind.u64 x_3] h'
                                                fun (r : Value) (h' : Heap) => ∃ (x : Int), r = Value.int IntKind.i64 x ∧ spare_Bank_say.J2 b n x h' Q) ∧
                              C Try.prog 59 #[Value.int IntKind.u64 n] h fun (r : Value) (h' : Heap) =>
                                ∃ (x_2 : Int),
                                  r = Value.int IntKind.u64 x_2 ∧
                                    ∃ (x_3 : Int),
                                      h'.cell b_3 (o_2 + 4) = some (Value.int IntKind.i64 x_3) ∧
                                        ∃ (x_4 : Int),
                                          h'.cell b_2 (o_1 + 1 + 0) = some (Value.int IntKind.i64 x_4) ∧
                                            C Try.prog 60 #[Value.pointer x, Value.int IntKind.i64 (IntKind.i64.wrap (x_4 + iquo IntKind.i64 x_3 8)), Value.int IntKind.i64 (irem x_1 8), Value.int IntKind.u64 x_2] h'
                                              fun (r : Value) (h' : Heap) => ∃ (x : Int), r = Value.int IntKind.i64 x ∧ spare_Bank_say.J2 b n x h' Q) ∧
                      C Try.prog 59 #[Value.int IntKind.u64 n] h fun (r : Value) (h' : Heap) =>
                        ∃ (x_1 : Int),
                          r = Value.int IntKind.u64 x_1 ∧
                            (∃ (x_2 : Int),
                                h'.cell b_2 (o_1 + 1 + 0) = some (Value.int IntKind.i64 x_2) ∧
                                  (∃ (x_3 : Int),
                                      h'.cell b_3 (o_2 + 4) = some (Value.int IntKind.i64 x_3) ∧
                                        ∃ (x_4 : Int),
                                          h'.cell b_4 (o_3 + 4) = some (Value.int IntKind.i64 x_4) ∧
                                            C Try.prog 60 #[Value.pointer x, Value.int IntKind.i64 (IntKind.i64.wrap (x_2 + iquo IntKind.i64 x_3 8)), Value.int IntKind.i64 (irem x_4 8), Value.int IntKind.u64 x_1] h'
                                              fun (r : Value) (h' : Heap) => ∃ (x : Int), r = Value.int IntKind.i64 x ∧ spare_Bank_say.J2 b n x h' Q) ∧
                                    ∃ (x_3 : Int),
                                      h'.cell b_4 (o_3 + 4) = some (Value.int IntKind.i64 x_3) ∧
                                        ∃ (x_4 : Int),
                                          h'.cell b_3 (o_2 + 4) = some (Value.int IntKind.i64 x_4) ∧
                                            C Try.prog 60 #[Value.pointer x, Value.int IntKind.i64 (IntKind.i64.wrap (x_2 + iquo IntKind.i64 x_4 8)), Value.int IntKind.i64 (irem x_3 8), Value.int IntKind.u64 x_1] h'
                                              fun (r : Value) (h' : Heap) => ∃ (x : Int), r = Value.int IntKind.i64 x ∧ spare_Bank_say.J2 b n x h' Q) ∧
                              (∃ (x_2 : Int),
                                  h'.cell b_3 (o_2 + 4) = some (Value.int IntKind.i64 x_2) ∧
                                    (∃ (x_3 : Int),
                                        h'.cell b_2 (o_1 + 1 + 0) = some (Value.int IntKind.i64 x_3) ∧
                                          ∃ (x_4 : Int),
                                            h'.cell b_4 (o_3 + 4) = some (Value.int IntKind.i64 x_4) ∧
                                              C Try.prog 60 #[Value.pointer x, Value.int IntKind.i64 (IntKind.i64.wrap (x_3 + iquo IntKind.i64 x_2 8)), Value.int IntKind.i64 (irem x_4 8), Value.int IntKind.u64 x_1] h'
                                                fun (r : Value) (h' : Heap) => ∃ (x : Int), r = Value.int IntKind.i64 x ∧ spare_Bank_say.J2 b n x h' Q) ∧
                                      ∃ (x_3 : Int),
                                        h'.cell b_4 (o_3 + 4) = some (Value.int IntKind.i64 x_3) ∧
                                          ∃ (x_4 : Int),
                                            h'.cell b_2 (o_1 + 1 + 0) = some (Value.int IntKind.i64 x_4) ∧
                                              C Try.prog 60 #[Value.pointer x, Value.int IntKind.i64 (IntKind.i64.wrap (x_4 + iquo IntKind.i64 x_2 8)), Value.int IntKind.i64 (irem x_3 8), Value.int IntKind.u64 x_1] h'
                                                fun (r : Value) (h' : Heap) => ∃ (x : Int), r = Value.int IntKind.i64 x ∧ spare_Bank_say.J2 b n x h' Q) ∧
                                ∃ (x_2 : Int),
                                  h'.cell b_4 (o_3 + 4) = some (Value.int IntKind.i64 x_2) ∧
                                    ∃ (x_3 : Int),
                                      h'.cell b_3 (o_2 + 4) = some (Value.int IntKind.i64 x_3) ∧
                                        ∃ (x_4 : Int),
                                          h'.cell b_2 (o_1 + 1 + 0) = some (Value.int IntKind.i64 x_4) ∧
                                            C Try.prog 60 #[Value.pointer x, Value.int IntKind.i64 (IntKind.i64.wrap (x_4 + iquo IntKind.i64 x_3 8)), Value.int IntKind.i64 (irem x_2 8), Value.int IntKind.u64 x_1] h'
                                              fun (r : Value) (h' : Heap) => ∃ (x : Int), r = Value.int IntKind.i64 x ∧ spare_Bank_say.J2 b n x h' Q) ∧
            (∃ (x : Int),
                h.cell b_2 (o_1 + 1 + 0) = some (Value.int IntKind.i64 x) ∧
                  (∃ (x_1 : Option Addr),
                      h.cell b_1 (o + 0) = some (Value.pointer x_1) ∧
                        (∃ (x_2 : Int),
                            h.cell b_3 (o_2 + 4) = some (Value.int IntKind.i64 x_2) ∧
                              (∃ (x_3 : Int),
                                  h.cell b_4 (o_3 + 4) = some (Value.int IntKind.i64 x_3) ∧
                                    C Try.prog 59 #[Value.int IntKind.u64 n] h fun (r : Value) (h' : Heap) =>
                                      ∃ (x_4 : Int),
                                        r = Value.int IntKind.u64 x_4 ∧
                                          C Try.prog 60 #[Value.pointer x_1, Value.int IntKind.i64 (IntKind.i64.wrap (x + iquo IntKind.i64 x_2 8)), Value.int IntKind.i64 (irem x_3 8), Value.int IntKind.u64 x_4] h'
                                            fun (r : Value) (h' : Heap) => ∃ (x : Int), r = Value.int IntKind.i64 x ∧ spare_Bank_say.J2 b n x h' Q) ∧
                                C Try.prog 59 #[Value.int IntKind.u64 n] h fun (r : Value) (h' : Heap) =>
                                  ∃ (x_3 : Int),
                                    r = Value.int IntKind.u64 x_3 ∧
                                      ∃ (x_4 : Int),
                                        h'.cell b_4 (o_3 + 4) = some (Value.int IntKind.i64 x_4) ∧
                                          C Try.prog 60 #[Value.pointer x_1, Value.int IntKind.i64 (IntKind.i64.wrap (x + iquo IntKind.i64 x_2 8)), Value.int IntKind.i64 (irem x_4 8), Value.int IntKind.u64 x_3] h'
                                            fun (r : Value) (h' : Heap) => ∃ (x : Int), r = Value.int IntKind.i64 x ∧ spare_Bank_say.J2 b n x h' Q) ∧
                          (∃ (x_2 : Int),
                              h.cell b_4 (o_3 + 4) = some (Value.int IntKind.i64 x_2) ∧
                                (∃ (x_3 : Int),
                                    h.cell b_3 (o_2 + 4) = some (Value.int IntKind.i64 x_3) ∧
                                      C Try.prog 59 #[Value.int IntKind.u64 n] h fun (r : Value) (h' : Heap) =>
                                        ∃ (x_4 : Int),
                                          r = Value.int IntKind.u64 x_4 ∧
                                            C Try.prog 60 #[Value.pointer x_1, Value.int IntKind.i64 (IntKind.i64.wrap (x + iquo IntKind.i64 x_3 8)), Value.int IntKind.i64 (irem x_2 8), Value.int IntKind.u64 x_4] h'
                                              fun (r : Value) (h' : Heap) => ∃ (x : Int), r = Value.int IntKind.i64 x ∧ spare_Bank_say.J2 b n x h' Q) ∧
                                  C Try.prog 59 #[Value.int IntKind.u64 n] h fun (r : Value) (h' : Heap) =>
                                    ∃ (x_3 : Int),
                                      r = Value.int IntKind.u64 x_3 ∧
                                        ∃ (x_4 : Int),
                                          h'.cell b_3 (o_2 + 4) = some (Value.int IntKind.i64 x_4) ∧
                                            C Try.prog 60 #[Value.pointer x_1, Value.int IntKind.i64 (IntKind.i64.wrap (x + iquo IntKind.i64 x_4 8)), Value.int IntKind.i64 (irem x_2 8), Value.int IntKind.u64 x_3] h'
                                              fun (r : Value) (h' : Heap) => ∃ (x : Int), r = Value.int IntKind.i64 x ∧ spare_Bank_say.J2 b n x h' Q) ∧
                            C Try.prog 59 #[Value.int IntKind.u64 n] h fun (r : Value) (h' : Heap) =>
                              ∃ (x_2 : Int),
                                r = Value.int IntKind.u64 x_2 ∧
                                  (∃ (x_3 : Int),
                                      h'.cell b_3 (o_2 + 4) = some (Value.int IntKind.i64 x_3) ∧
                                        ∃ (x_4 : Int),
                                          h'.cell b_4 (o_3 + 4) = some (Value.int IntKind.i64 x_4) ∧
                                            C Try.prog 60 #[Value.pointer x_1, Value.int IntKind.i64 (IntKind.i64.wrap (x + iquo IntKind.i64 x_3 8)), Value.int IntKind.i64 (irem x_4 8), Value.int IntKind.u64 x_2] h'
                                              fun (r : Value) (h' : Heap) => ∃ (x : Int), r = Value.int IntKind.i64 x ∧ spare_Bank_say.J2 b n x h' Q) ∧
                                    ∃ (x_3 : Int),
                                      h'.cell b_4 (o_3 + 4) = some (Value.int IntKind.i64 x_3) ∧
                                        ∃ (x_4 : Int),
                                          h'.cell b_3 (o_2 + 4) = some (Value.int IntKind.i64 x_4) ∧
                                            C Try.prog 60 #[Value.pointer x_1, Value.int IntKind.i64 (IntKind.i64.wrap (x + iquo IntKind.i64 x_4 8)), Value.int IntKind.i64 (irem x_3 8), Value.int IntKind.u64 x_2] h'
                                              fun (r : Value) (h' : Heap) => ∃ (x : Int), r = Value.int IntKind.i64 x ∧ spare_Bank_say.J2 b n x h' Q) ∧
                    (∃ (x_1 : Int),
                        h.cell b_3 (o_2 + 4) = some (Value.int IntKind.i64 x_1) ∧
                          (∃ (x_2 : Option Addr),
                              h.cell b_1 (o + 0) = some (Value.pointer x_2) ∧
                                (∃ (x_3 : Int),
                                    h.cell b_4 (o_3 + 4) = some (Value.int IntKind.i64 x_3) ∧
                                      C Try.prog 59 #[Value.int IntKind.u64 n] h fun (r : Value) (h' : Heap) =>
                                        ∃ (x_4 : Int),
                                          r = Value.int IntKind.u64 x_4 ∧
                                            C Try.prog 60 #[Value.pointer x_2, Value.int IntKind.i64 (IntKind.i64.wrap (x + iquo IntKind.i64 x_1 8)), Value.int IntKind.i64 (irem x_3 8), Value.int IntKind.u64 x_4] h'
                                              fun (r : Value) (h' : Heap) => ∃ (x : Int), r = Value.int IntKind.i64 x ∧ spare_Bank_say.J2 b n x h' Q) ∧
                                  C Try.prog 59 #[Value.int IntKind.u64 n] h fun (r : Value) (h' : Heap) =>
                                    ∃ (x_3 : Int),
                                      r = Value.int IntKind.u64 x_3 ∧
                                        ∃ (x_4 : Int),
                                          h'.cell b_4 (o_3 + 4) = some (Value.int IntKind.i64 x_4) ∧
                                            C Try.prog 60 #[Value.pointer x_2, Value.int IntKind.i64 (IntKind.i64.wrap (x + iquo IntKind.i64 x_1 8)), Value.int IntKind.i64 (irem x_4 8), Value.int IntKind.u64 x_3] h'
                                              fun (r : Value) (h' : Heap) => ∃ (x : Int), r = Value.int IntKind.i64 x ∧ spare_Bank_say.J2 b n x h' Q) ∧
                            (∃ (x_2 : Int),
                                h.cell b_4 (o_3 + 4) = some (Value.int IntKind.i64 x_2) ∧
                                  (∃ (x_3 : Option Addr),
                                      h.cell b_1 (o + 0) = some (Value.pointer x_3) ∧
                                        C Try.prog 59 #[Value.int IntKind.u64 n] h fun (r : Value) (h' : Heap) =>
                                          ∃ (x_4 : Int),
                                            r = Value.int IntKind.u64 x_4 ∧
                                              C Try.prog 60 #[Value.pointer x_3, Value.int IntKind.i64 (IntKind.i64.wrap (x + iquo IntKind.i64 x_1 8)), Value.int IntKind.i64 (irem x_2 8), Value.int IntKind.u64 x_4] h'
                                                fun (r : Value) (h' : Heap) => ∃ (x : Int), r = Value.int IntKind.i64 x ∧ spare_Bank_say.J2 b n x h' Q) ∧
                                    C Try.prog 59 #[Value.int IntKind.u64 n] h fun (r : Value) (h' : Heap) =>
                                      ∃ (x_3 : Int),
                                        r = Value.int IntKind.u64 x_3 ∧
                                          ∃ (x_4 : Option Addr),
                                            h'.cell b_1 (o + 0) = some (Value.pointer x_4) ∧
                                              C Try.prog 60 #[Value.pointer x_4, Value.int IntKind.i64 (IntKind.i64.wrap (x + iquo IntKind.i64 x_1 8)), Value.int IntKind.i64 (irem x_2 8), Value.int IntKind.u64 x_3] h'
                                                fun (r : Value) (h' : Heap) => ∃ (x : Int), r = Value.int IntKind.i64 x ∧ spare_Bank_say.J2 b n x h' Q) ∧
                              C Try.prog 59 #[Value.int IntKind.u64 n] h fun (r : Value) (h' : Heap) =>
                                ∃ (x_2 : Int),
                                  r = Value.int IntKind.u64 x_2 ∧
                                    ∃ (x_3 : Int),
                                      h'.cell b_4 (o_3 + 4) = some (Value.int IntKind.i64 x_3) ∧
                                        ∃ (x_4 : Option Addr),
                                          h'.cell b_1 (o + 0) = some (Value.pointer x_4) ∧
                                            C Try.prog 60 #[Value.pointer x_4, Value.int IntKind.i64 (IntKind.i64.wrap (x + iquo IntKind.i64 x_1 8)), Value.int IntKind.i64 (irem x_3 8), Value.int IntKind.u64 x_2] h'
                                              fun (r : Value) (h' : Heap) => ∃ (x : Int), r = Value.int IntKind.i64 x ∧ spare_Bank_say.J2 b n x h' Q) ∧
                      (∃ (x_1 : Int),
                          h.cell b_4 (o_3 + 4) = some (Value.int IntKind.i64 x_1) ∧
                            (∃ (x_2 : Option Addr),
                                h.cell b_1 (o + 0) = some (Value.pointer x_2) ∧
                                  (∃ (x_3 : Int),
                                      h.cell b_3 (o_2 + 4) = some (Value.int IntKind.i64 x_3) ∧
                                        C Try.prog 59 #[Value.int IntKind.u64 n] h fun (r : Value) (h' : Heap) =>
                                          ∃ (x_4 : Int),
                                            r = Value.int IntKind.u64 x_4 ∧
                                              C Try.prog 60 #[Value.pointer x_2, Value.int IntKind.i64 (IntKind.i64.wrap (x + iquo IntKind.i64 x_3 8)), Value.int IntKind.i64 (irem x_1 8), Value.int IntKind.u64 x_4] h'
                                                fun (r : Value) (h' : Heap) => ∃ (x : Int), r = Value.int IntKind.i64 x ∧ spare_Bank_say.J2 b n x h' Q) ∧
                                    C Try.prog 59 #[Value.int IntKind.u64 n] h fun (r : Value) (h' : Heap) =>
                                      ∃ (x_3 : Int),
                                        r = Value.int IntKind.u64 x_3 ∧
                                          ∃ (x_4 : Int),
                                            h'.cell b_3 (o_2 + 4) = some (Value.int IntKind.i64 x_4) ∧
                                              C Try.prog 60 #[Value.pointer x_2, Value.int IntKind.i64 (IntKind.i64.wrap (x + iquo IntKind.i64 x_4 8)), Value.int IntKind.i64 (irem x_1 8), Value.int IntKind.u64 x_3] h'
                                                fun (r : Value) (h' : Heap) => ∃ (x : Int), r = Value.int IntKind.i64 x ∧ spare_Bank_say.J2 b n x h' Q) ∧
                              (∃ (x_2 : Int),
                                  h.cell b_3 (o_2 + 4) = some (Value.int IntKind.i64 x_2) ∧
                                    (∃ (x_3 : Option Addr),
                                        h.cell b_1 (o + 0) = some (Value.pointer x_3) ∧
                                          C Try.prog 59 #[Value.int IntKind.u64 n] h fun (r : Value) (h' : Heap) =>
                                            ∃ (x_4 : Int),
                                              r = Value.int IntKind.u64 x_4 ∧
                                                C Try.prog 60 #[Value.pointer x_3, Value.int IntKind.i64 (IntKind.i64.wrap (x + iquo IntKind.i64 x_2 8)), Value.int IntKind.i64 (irem x_1 8), Value.int IntKind.u64 x_4] h'
                                                  fun (r : Value) (h' : Heap) => ∃ (x : Int), r = Value.int IntKind.i64 x ∧ spare_Bank_say.J2 b n x h' Q) ∧
                                      C Try.prog 59 #[Value.int IntKind.u64 n] h fun (r : Value) (h' : Heap) =>
                                        ∃ (x_3 : Int),
                                          r = Value.int IntKind.u64 x_3 ∧
                                            ∃ (x_4 : Option Addr),
                                              h'.cell b_1 (o + 0) = some (Value.pointer x_4) ∧
                                                C Try.prog 60 #[Value.pointer x_4, Value.int IntKind.i64 (IntKind.i64.wrap (x + iquo IntKind.i64 x_2 8)), Value.int IntKind.i64 (irem x_1 8), Value.int IntKind.u64 x_3] h'
                                                  fun (r : Value) (h' : Heap) => ∃ (x : Int), r = Value.int IntKind.i64 x ∧ spare_Bank_say.J2 b n x h' Q) ∧
                                C Try.prog 59 #[Value.int IntKind.u64 n] h fun (r : Value) (h' : Heap) =>
                                  ∃ (x_2 : Int),
                                    r = Value.int IntKind.u64 x_2 ∧
                                      ∃ (x_3 : Int),
                                        h'.cell b_3 (o_2 + 4) = some (Value.int IntKind.i64 x_3) ∧
                                          ∃ (x_4 : Option Addr),
                                            h'.cell b_1 (o + 0) = some (Value.pointer x_4) ∧
                                              C Try.prog 60 #[Value.pointer x_4, Value.int IntKind.i64 (IntKind.i64.wrap (x + iquo IntKind.i64 x_3 8)), Value.int IntKind.i64 (irem x_1 8), Value.int IntKind.u64 x_2] h'
                                                fun (r : Value) (h' : Heap) => ∃ (x : Int), r = Value.int IntKind.i64 x ∧ spare_Bank_say.J2 b n x h' Q) ∧
                        C Try.prog 59 #[Value.int IntKind.u64 n] h fun (r : Value) (h' : Heap) =>
                          ∃ (x_1 : Int),
                            r = Value.int IntKind.u64 x_1 ∧
                              (∃ (x_2 : Option Addr),
                                  h'.cell b_1 (o + 0) = some (Value.pointer x_2) ∧
                                    (∃ (x_3 : Int),
                                        h'.cell b_3 (o_2 + 4) = some (Value.int IntKind.i64 x_3) ∧
                                          ∃ (x_4 : Int),
                                            h'.cell b_4 (o_3 + 4) = some (Value.int IntKind.i64 x_4) ∧
                                              C Try.prog 60 #[Value.pointer x_2, Value.int IntKind.i64 (IntKind.i64.wrap (x + iquo IntKind.i64 x_3 8)), Value.int IntKind.i64 (irem x_4 8), Value.int IntKind.u64 x_1] h'
                                                fun (r : Value) (h' : Heap) => ∃ (x : Int), r = Value.int IntKind.i64 x ∧ spare_Bank_say.J2 b n x h' Q) ∧
                                      ∃ (x_3 : Int),
                                        h'.cell b_4 (o_3 + 4) = some (Value.int IntKind.i64 x_3) ∧
                                          ∃ (x_4 : Int),
                                            h'.cell b_3 (o_2 + 4) = some (Value.int IntKind.i64 x_4) ∧
                                              C Try.prog 60 #[Value.pointer x_2, Value.int IntKind.i64 (IntKind.i64.wrap (x + iquo IntKind.i64 x_4 8)), Value.int IntKind.i64 (irem x_3 8), Value.int IntKind.u64 x_1] h'
                                                fun (r : Value) (h' : Heap) => ∃ (x : Int), r = Value.int IntKind.i64 x ∧ spare_Bank_say.J2 b n x h' Q) ∧
                                (∃ (x_2 : Int),
                                    h'.cell b_3 (o_2 + 4) = some (Value.int IntKind.i64 x_2) ∧
                                      ∃ (x_3 : Int),
                                        h'.cell b_4 (o_3 + 4) = some (Value.int IntKind.i64 x_3) ∧
                                          ∃ (x_4 : Option Addr),
                                            h'.cell b_1 (o + 0) = some (Value.pointer x_4) ∧
                                              C Try.prog 60 #[Value.pointer x_4, Value.int IntKind.i64 (IntKind.i64.wrap (x + iquo IntKind.i64 x_2 8)), Value.int IntKind.i64 (irem x_3 8), Value.int IntKind.u64 x_1] h'
                                                fun (r : Value) (h' : Heap) => ∃ (x : Int), r = Value.int IntKind.i64 x ∧ spare_Bank_say.J2 b n x h' Q) ∧
                                  ∃ (x_2 : Int),
                                    h'.cell b_4 (o_3 + 4) = some (Value.int IntKind.i64 x_2) ∧
                                      ∃ (x_3 : Int),
                                        h'.cell b_3 (o_2 + 4) = some (Value.int IntKind.i64 x_3) ∧
                                          ∃ (x_4 : Option Addr),
                                            h'.cell b_1 (o + 0) = some (Value.pointer x_4) ∧
                                              C Try.prog 60 #[Value.pointer x_4, Value.int IntKind.i64 (IntKind.i64.wrap (x + iquo IntKind.i64 x_3 8)), Value.int IntKind.i64 (irem x_2 8), Value.int IntKind.u64 x_1] h'
                                                fun (r : Value) (h' : Heap) => ∃ (x : Int), r = Value.int IntKind.i64 x ∧ spare_Bank_say.J2 b n x h' Q) ∧
              (∃ (x : Int),
                  h.cell b_3 (o_2 + 4) = some (Value.int IntKind.i64 x) ∧
                    (∃ (x_1 : Option Addr),
                        h.cell b_1 (o + 0) = some (Value.pointer x_1) ∧
                          (∃ (x_2 : Int),
                              h.cell b_2 (o_1 + 1 + 0) = some (Value.int IntKind.i64 x_2) ∧
                                (∃ (x_3 : Int),
                                    h.cell b_4 (o_3 + 4) = some (Value.int IntKind.i64 x_3) ∧
                                      C Try.prog 59 #[Value.int IntKind.u64 n] h fun (r : Value) (h' : Heap) =>
                                        ∃ (x_4 : Int),
                                          r = Value.int IntKind.u64 x_4 ∧
                                            C Try.prog 60 #[Value.pointer x_1, Value.int IntKind.i64 (IntKind.i64.wrap (x_2 + iquo IntKind.i64 x 8)), Value.int IntKind.i64 (irem x_3 8), Value.int IntKind.u64 x_4] h'
                                              fun (r : Value) (h' : Heap) => ∃ (x : Int), r = Value.int IntKind.i64 x ∧ spare_Bank_say.J2 b n x h' Q) ∧
                                  C Try.prog 59 #[Value.int IntKind.u64 n] h fun (r : Value) (h' : Heap) =>
                                    ∃ (x_3 : Int),
                                      r = Value.int IntKind.u64 x_3 ∧
                                        ∃ (x_4 : Int),
                                          h'.cell b_4 (o_3 + 4) = some (Value.int IntKind.i64 x_4) ∧
                                            C Try.prog 60 #[Value.pointer x_1, Value.int IntKind.i64 (IntKind.i64.wrap (x_2 + iquo IntKind.i64 x 8)), Value.int IntKind.i64 (irem x_4 8), Value.int IntKind.u64 x_3] h'
                                              fun (r : Value) (h' : Heap) => ∃ (x : Int), r = Value.int IntKind.i64 x ∧ spare_Bank_say.J2 b n x h' Q) ∧
                            (∃ (x_2 : Int),
                                h.cell b_4 (o_3 + 4) = some (Value.int IntKind.i64 x_2) ∧
                                  (∃ (x_3 : Int),
                                      h.cell b_2 (o_1 + 1 + 0) = some (Value.int IntKind.i64 x_3) ∧
                                        C Try.prog 59 #[Value.int IntKind.u64 n] h fun (r : Value) (h' : Heap) =>
                                          ∃ (x_4 : Int),
                                            r = Value.int IntKind.u64 x_4 ∧
                                              C Try.prog 60 #[Value.pointer x_1, Value.int IntKind.i64 (IntKind.i64.wrap (x_3 + iquo IntKind.i64 x 8)), Value.int IntKind.i64 (irem x_2 8), Value.int IntKind.u64 x_4] h'
                                                fun (r : Value) (h' : Heap) => ∃ (x : Int), r = Value.int IntKind.i64 x ∧ spare_Bank_say.J2 b n x h' Q) ∧
                                    C Try.prog 59 #[Value.int IntKind.u64 n] h fun (r : Value) (h' : Heap) =>
                                      ∃ (x_3 : Int),
                                        r = Value.int IntKind.u64 x_3 ∧
                                          ∃ (x_4 : Int),
                                            h'.cell b_2 (o_1 + 1 + 0) = some (Value.int IntKind.i64 x_4) ∧
                                              C Try.prog 60 #[Value.pointer x_1, Value.int IntKind.i64 (IntKind.i64.wrap (x_4 + iquo IntKind.i64 x 8)), Value.int IntKind.i64 (irem x_2 8), Value.int IntKind.u64 x_3] h'
                                                fun (r : Value) (h' : Heap) => ∃ (x : Int), r = Value.int IntKind.i64 x ∧ spare_Bank_say.J2 b n x h' Q) ∧
                              C Try.prog 59 #[Value.int IntKind.u64 n] h fun (r : Value) (h' : Heap) =>
                                ∃ (x_2 : Int),
                                  r = Value.int IntKind.u64 x_2 ∧
                                    (∃ (x_3 : Int),
                                        h'.cell b_2 (o_1 + 1 + 0) = some (Value.int IntKind.i64 x_3) ∧
                                          ∃ (x_4 : Int),
                                            h'.cell b_4 (o_3 + 4) = some (Value.int IntKind.i64 x_4) ∧
                                              C Try.prog 60 #[Value.pointer x_1, Value.int IntKind.i64 (IntKind.i64.wrap (x_3 + iquo IntKind.i64 x 8)), Value.int IntKind.i64 (irem x_4 8), Value.int IntKind.u64 x_2] h'
                                                fun (r : Value) (h' : Heap) => ∃ (x : Int), r = Value.int IntKind.i64 x ∧ spare_Bank_say.J2 b n x h' Q) ∧
                                      ∃ (x_3 : Int),
                                        h'.cell b_4 (o_3 + 4) = some (Value.int IntKind.i64 x_3) ∧
                                          ∃ (x_4 : Int),
                                            h'.cell b_2 (o_1 + 1 + 0) = some (Value.int IntKind.i64 x_4) ∧
                                              C Try.prog 60 #[Value.pointer x_1, Value.int IntKind.i64 (IntKind.i64.wrap (x_4 + iquo IntKind.i64 x 8)), Value.int IntKind.i64 (irem x_3 8), Value.int IntKind.u64 x_2] h'
                                                fun (r : Value) (h' : Heap) => ∃ (x : Int), r = Value.int IntKind.i64 x ∧ spare_Bank_say.J2 b n x h' Q) ∧
                      (∃ (x_1 : Int),
                          h.cell b_2 (o_1 + 1 + 0) = some (Value.int IntKind.i64 x_1) ∧
                            (∃ (x_2 : Option Addr),
                                h.cell b_1 (o + 0) = some (Value.pointer x_2) ∧
                                  (∃ (x_3 : Int),
                                      h.cell b_4 (o_3 + 4) = some (Value.int IntKind.i64 x_3) ∧
                                        C Try.prog 59 #[Value.int IntKind.u64 n] h fun (r : Value) (h' : Heap) =>
                                          ∃ (x_4 : Int),
                                            r = Value.int IntKind.u64 x_4 ∧
                                              C Try.prog 60 #[Value.pointer x_2, Value.int IntKind.i64 (IntKind.i64.wrap (x_1 + iquo IntKind.i64 x 8)), Value.int IntKind.i64 (irem x_3 8), Value.int IntKind.u64 x_4] h'
                                                fun (r : Value) (h' : Heap) => ∃ (x : Int), r = Value.int IntKind.i64 x ∧ spare_Bank_say.J2 b n x h' Q) ∧
                                    C Try.prog 59 #[Value.int IntKind.u64 n] h fun (r : Value) (h' : Heap) =>
                                      ∃ (x_3 : Int),
                                        r = Value.int IntKind.u64 x_3 ∧
                                          ∃ (x_4 : Int),
                                            h'.cell b_4 (o_3 + 4) = some (Value.int IntKind.i64 x_4) ∧
                                              C Try.prog 60 #[Value.pointer x_2, Value.int IntKind.i64 (IntKind.i64.wrap (x_1 + iquo IntKind.i64 x 8)), Value.int IntKind.i64 (irem x_4 8), Value.int IntKind.u64 x_3] h'
                                                fun (r : Value) (h' : Heap) => ∃ (x : Int), r = Value.int IntKind.i64 x ∧ spare_Bank_say.J2 b n x h' Q) ∧
                              (∃ (x_2 : Int),
                                  h.cell b_4 (o_3 + 4) = some (Value.int IntKind.i64 x_2) ∧
                                    (∃ (x_3 : Option Addr),
                                        h.cell b_1 (o + 0) = some (Value.pointer x_3) ∧
                                          C Try.prog 59 #[Value.int IntKind.u64 n] h fun (r : Value) (h' : Heap) =>
                                            ∃ (x_4 : Int),
                                              r = Value.int IntKind.u64 x_4 ∧
                                                C Try.prog 60 #[Value.pointer x_3, Value.int IntKind.i64 (IntKind.i64.wrap (x_1 + iquo IntKind.i64 x 8)), Value.int IntKind.i64 (irem x_2 8), Value.int IntKind.u64 x_4] h'
                                                  fun (r : Value) (h' : Heap) => ∃ (x : Int), r = Value.int IntKind.i64 x ∧ spare_Bank_say.J2 b n x h' Q) ∧
                                      C Try.prog 59 #[Value.int IntKind.u64 n] h fun (r : Value) (h' : Heap) =>
                                        ∃ (x_3 : Int),
                                          r = Value.int IntKind.u64 x_3 ∧
                                            ∃ (x_4 : Option Addr),
                                              h'.cell b_1 (o + 0) = some (Value.pointer x_4) ∧
                                                C Try.prog 60 #[Value.pointer x_4, Value.int IntKind.i64 (IntKind.i64.wrap (x_1 + iquo IntKind.i64 x 8)), Value.int IntKind.i64 (irem x_2 8), Value.int IntKind.u64 x_3] h'
                                                  fun (r : Value) (h' : Heap) => ∃ (x : Int), r = Value.int IntKind.i64 x ∧ spare_Bank_say.J2 b n x h' Q) ∧
                                C Try.prog 59 #[Value.int IntKind.u64 n] h fun (r : Value) (h' : Heap) =>
                                  ∃ (x_2 : Int),
                                    r = Value.int IntKind.u64 x_2 ∧
                                      ∃ (x_3 : Int),
                                        h'.cell b_4 (o_3 + 4) = some (Value.int IntKind.i64 x_3) ∧
                                          ∃ (x_4 : Option Addr),
                                            h'.cell b_1 (o + 0) = some (Value.pointer x_4) ∧
                                              C Try.prog 60 #[Value.pointer x_4, Value.int IntKind.i64 (IntKind.i64.wrap (x_1 + iquo IntKind.i64 x 8)), Value.int IntKind.i64 (irem x_3 8), Value.int IntKind.u64 x_2] h'
                                                fun (r : Value) (h' : Heap) => ∃ (x : Int), r = Value.int IntKind.i64 x ∧ spare_Bank_say.J2 b n x h' Q) ∧
                        (∃ (x_1 : Int),
                            h.cell b_4 (o_3 + 4) = some (Value.int IntKind.i64 x_1) ∧
                              (∃ (x_2 : Option Addr),
                                  h.cell b_1 (o + 0) = some (Value.pointer x_2) ∧
                                    (∃ (x_3 : Int),
                                        h.cell b_2 (o_1 + 1 + 0) = some (Value.int IntKind.i64 x_3) ∧
                                          C Try.prog 59 #[Value.int IntKind.u64 n] h fun (r : Value) (h' : Heap) =>
                                            ∃ (x_4 : Int),
                                              r = Value.int IntKind.u64 x_4 ∧
                                                C Try.prog 60 #[Value.pointer x_2, Value.int IntKind.i64 (IntKind.i64.wrap (x_3 + iquo IntKind.i64 x 8)), Value.int IntKind.i64 (irem x_1 8), Value.int IntKind.u64 x_4] h'
                                                  fun (r : Value) (h' : Heap) => ∃ (x : Int), r = Value.int IntKind.i64 x ∧ spare_Bank_say.J2 b n x h' Q) ∧
                                      C Try.prog 59 #[Value.int IntKind.u64 n] h fun (r : Value) (h' : Heap) =>
                                        ∃ (x_3 : Int),
                                          r = Value.int IntKind.u64 x_3 ∧
                                            ∃ (x_4 : Int),
                                              h'.cell b_2 (o_1 + 1 + 0) = some (Value.int IntKind.i64 x_4) ∧
                                                C Try.prog 60 #[Value.pointer x_2, Value.int IntKind.i64 (IntKind.i64.wrap (x_4 + iquo IntKind.i64 x 8)), Value.int IntKind.i64 (irem x_1 8), Value.int IntKind.u64 x_3] h'
                                                  fun (r : Value) (h' : Heap) => ∃ (x : Int), r = Value.int IntKind.i64 x ∧ spare_Bank_say.J2 b n x h' Q) ∧
                                (∃ (x_2 : Int),
                                    h.cell b_2 (o_1 + 1 + 0) = some (Value.int IntKind.i64 x_2) ∧
                                      (∃ (x_3 : Option Addr),
                                          h.cell b_1 (o + 0) = some (Value.pointer x_3) ∧
                                            C Try.prog 59 #[Value.int IntKind.u64 n] h fun (r : Value) (h' : Heap) =>
                                              ∃ (x_4 : Int),
                                                r = Value.int IntKind.u64 x_4 ∧
                                                  C Try.prog 60 #[Value.pointer x_3, Value.int IntKind.i64 (IntKind.i64.wrap (x_2 + iquo IntKind.i64 x 8)), Value.int IntKind.i64 (irem x_1 8), Value.int IntKind.u64 x_4] h'
                                                    fun (r : Value) (h' : Heap) => ∃ (x : Int), r = Value.int IntKind.i64 x ∧ spare_Bank_say.J2 b n x h' Q) ∧
                                        C Try.prog 59 #[Value.int IntKind.u64 n] h fun (r : Value) (h' : Heap) =>
                                          ∃ (x_3 : Int),
                                            r = Value.int IntKind.u64 x_3 ∧
                                              ∃ (x_4 : Option Addr),
                                                h'.cell b_1 (o + 0) = some (Value.pointer x_4) ∧
                                                  C Try.prog 60 #[Value.pointer x_4, Value.int IntKind.i64 (IntKind.i64.wrap (x_2 + iquo IntKind.i64 x 8)), Value.int IntKind.i64 (irem x_1 8), Value.int IntKind.u64 x_3] h'
                                                    fun (r : Value) (h' : Heap) => ∃ (x : Int), r = Value.int IntKind.i64 x ∧ spare_Bank_say.J2 b n x h' Q) ∧
                                  C Try.prog 59 #[Value.int IntKind.u64 n] h fun (r : Value) (h' : Heap) =>
                                    ∃ (x_2 : Int),
                                      r = Value.int IntKind.u64 x_2 ∧
                                        ∃ (x_3 : Int),
                                          h'.cell b_2 (o_1 + 1 + 0) = some (Value.int IntKind.i64 x_3) ∧
                                            ∃ (x_4 : Option Addr),
                                              h'.cell b_1 (o + 0) = some (Value.pointer x_4) ∧
                                                C Try.prog 60 #[Value.pointer x_4, Value.int IntKind.i64 (IntKind.i64.wrap (x_3 + iquo IntKind.i64 x 8)), Value.int IntKind.i64 (irem x_1 8), Value.int IntKind.u64 x_2] h'
                                                  fun (r : Value) (h' : Heap) => ∃ (x : Int), r = Value.int IntKind.i64 x ∧ spare_Bank_say.J2 b n x h' Q) ∧
                          C Try.prog 59 #[Value.int IntKind.u64 n] h fun (r : Value) (h' : Heap) =>
                            ∃ (x_1 : Int),
                              r = Value.int IntKind.u64 x_1 ∧
                                (∃ (x_2 : Option Addr),
                                    h'.cell b_1 (o + 0) = some (Value.pointer x_2) ∧
                                      (∃ (x_3 : Int),
                                          h'.cell b_2 (o_1 + 1 + 0) = some (Value.int IntKind.i64 x_3) ∧
                                            ∃ (x_4 : Int),
                                              h'.cell b_4 (o_3 + 4) = some (Value.int IntKind.i64 x_4) ∧
                                                C Try.prog 60 #[Value.pointer x_2, Value.int IntKind.i64 (IntKind.i64.wrap (x_3 + iquo IntKind.i64 x 8)), Value.int IntKind.i64 (irem x_4 8), Value.int IntKind.u64 x_1] h'
                                                  fun (r : Value) (h' : Heap) => ∃ (x : Int), r = Value.int IntKind.i64 x ∧ spare_Bank_say.J2 b n x h' Q) ∧
                                        ∃ (x_3 : Int),
                                          h'.cell b_4 (o_3 + 4) = some (Value.int IntKind.i64 x_3) ∧
                                            ∃ (x_4 : Int),
                                              h'.cell b_2 (o_1 + 1 + 0) = some (Value.int IntKind.i64 x_4) ∧
                                                C Try.prog 60 #[Value.pointer x_2, Value.int IntKind.i64 (IntKind.i64.wrap (x_4 + iquo IntKind.i64 x 8)), Value.int IntKind.i64 (irem x_3 8), Value.int IntKind.u64 x_1] h'
                                                  fun (r : Value) (h' : Heap) => ∃ (x : Int), r = Value.int IntKind.i64 x ∧ spare_Bank_say.J2 b n x h' Q) ∧
                                  (∃ (x_2 : Int),
                                      h'.cell b_2 (o_1 + 1 + 0) = some (Value.int IntKind.i64 x_2) ∧
                                        ∃ (x_3 : Int),
                                          h'.cell b_4 (o_3 + 4) = some (Value.int IntKind.i64 x_3) ∧
                                            ∃ (x_4 : Option Addr),
                                              h'.cell b_1 (o + 0) = some (Value.pointer x_4) ∧
                                                C Try.prog 60 #[Value.pointer x_4, Value.int IntKind.i64 (IntKind.i64.wrap (x_2 + iquo IntKind.i64 x 8)), Value.int IntKind.i64 (irem x_3 8), Value.int IntKind.u64 x_1] h'
                                                  fun (r : Value) (h' : Heap) => ∃ (x : Int), r = Value.int IntKind.i64 x ∧ spare_Bank_say.J2 b n x h' Q) ∧
                                    ∃ (x_2 : Int),
                                      h'.cell b_4 (o_3 + 4) = some (Value.int IntKind.i64 x_2) ∧
                                        ∃ (x_3 : Int),
                                          h'.cell b_2 (o_1 + 1 + 0) = some (Value.int IntKind.i64 x_3) ∧
                                            ∃ (x_4 : Option Addr),
                                              h'.cell b_1 (o + 0) = some (Value.pointer x_4) ∧
                                                C Try.prog 60 #[Value.pointer x_4, Value.int IntKind.i64 (IntKind.i64.wrap (x_3 + iquo IntKind.i64 x 8)), Value.int IntKind.i64 (irem x_2 8), Value.int IntKind.u64 x_1] h'
                                                  fun (r : Value) (h' : Heap) => ∃ (x : Int), r = Value.int IntKind.i64 x ∧ spare_Bank_say.J2 b n x h' Q) ∧
                (∃ (x : Int),
                    h.cell b_4 (o_3 + 4) = some (Value.int IntKind.i64 x) ∧
                      (∃ (x_1 : Option Addr),
                          h.cell b_1 (o + 0) = some (Value.pointer x_1) ∧
                            (∃ (x_2 : Int),
                                h.cell b_2 (o_1 + 1 + 0) = some (Value.int IntKind.i64 x_2) ∧
                                  (∃ (x_3 : Int),
                                      h.cell b_3 (o_2 + 4) = some (Value.int IntKind.i64 x_3) ∧
                                        C Try.prog 59 #[Value.int IntKind.u64 n] h fun (r : Value) (h' : Heap) =>
                                          ∃ (x_4 : Int),
                                            r = Value.int IntKind.u64 x_4 ∧
                                              C Try.prog 60 #[Value.pointer x_1, Value.int IntKind.i64 (IntKind.i64.wrap (x_2 + iquo IntKind.i64 x_3 8)), Value.int IntKind.i64 (irem x 8), Value.int IntKind.u64 x_4] h'
                                                fun (r : Value) (h' : Heap) => ∃ (x : Int), r = Value.int IntKind.i64 x ∧ spare_Bank_say.J2 b n x h' Q) ∧
                                    C Try.prog 59 #[Value.int IntKind.u64 n] h fun (r : Value) (h' : Heap) =>
                                      ∃ (x_3 : Int),
                                        r = Value.int IntKind.u64 x_3 ∧
                                          ∃ (x_4 : Int),
                                            h'.cell b_3 (o_2 + 4) = some (Value.int IntKind.i64 x_4) ∧
                                              C Try.prog 60 #[Value.pointer x_1, Value.int IntKind.i64 (IntKind.i64.wrap (x_2 + iquo IntKind.i64 x_4 8)), Value.int IntKind.i64 (irem x 8), Value.int IntKind.u64 x_3] h'
                                                fun (r : Value) (h' : Heap) => ∃ (x : Int), r = Value.int IntKind.i64 x ∧ spare_Bank_say.J2 b n x h' Q) ∧
                              (∃ (x_2 : Int),
                                  h.cell b_3 (o_2 + 4) = some (Value.int IntKind.i64 x_2) ∧
                                    (∃ (x_3 : Int),
                                        h.cell b_2 (o_1 + 1 + 0) = some (Value.int IntKind.i64 x_3) ∧
                                          C Try.prog 59 #[Value.int IntKind.u64 n] h fun (r : Value) (h' : Heap) =>
                                            ∃ (x_4 : Int),
                                              r = Value.int IntKind.u64 x_4 ∧
                                                C Try.prog 60 #[Value.pointer x_1, Value.int IntKind.i64 (IntKind.i64.wrap (x_3 + iquo IntKind.i64 x_2 8)), Value.int IntKind.i64 (irem x 8), Value.int IntKind.u64 x_4] h'
                                                  fun (r : Value) (h' : Heap) => ∃ (x : Int), r = Value.int IntKind.i64 x ∧ spare_Bank_say.J2 b n x h' Q) ∧
                                      C Try.prog 59 #[Value.int IntKind.u64 n] h fun (r : Value) (h' : Heap) =>
                                        ∃ (x_3 : Int),
                                          r = Value.int IntKind.u64 x_3 ∧
                                            ∃ (x_4 : Int),
                                              h'.cell b_2 (o_1 + 1 + 0) = some (Value.int IntKind.i64 x_4) ∧
                                                C Try.prog 60 #[Value.pointer x_1, Value.int IntKind.i64 (IntKind.i64.wrap (x_4 + iquo IntKind.i64 x_2 8)), Value.int IntKind.i64 (irem x 8), Value.int IntKind.u64 x_3] h'
                                                  fun (r : Value) (h' : Heap) => ∃ (x : Int), r = Value.int IntKind.i64 x ∧ spare_Bank_say.J2 b n x h' Q) ∧
                                C Try.prog 59 #[Value.int IntKind.u64 n] h fun (r : Value) (h' : Heap) =>
                                  ∃ (x_2 : Int),
                                    r = Value.int IntKind.u64 x_2 ∧
                                      ∃ (x_3 : Int),
                                        h'.cell b_3 (o_2 + 4) = some (Value.int IntKind.i64 x_3) ∧
                                          ∃ (x_4 : Int),
                                            h'.cell b_2 (o_1 + 1 + 0) = some (Value.int IntKind.i64 x_4) ∧
                                              C Try.prog 60 #[Value.pointer x_1, Value.int IntKind.i64 (IntKind.i64.wrap (x_4 + iquo IntKind.i64 x_3 8)), Value.int IntKind.i64 (irem x 8), Value.int IntKind.u64 x_2] h'
                                                fun (r : Value) (h' : Heap) => ∃ (x : Int), r = Value.int IntKind.i64 x ∧ spare_Bank_say.J2 b n x h' Q) ∧
                        (∃ (x_1 : Int),
                            h.cell b_2 (o_1 + 1 + 0) = some (Value.int IntKind.i64 x_1) ∧
                              (∃ (x_2 : Option Addr),
                                  h.cell b_1 (o + 0) = some (Value.pointer x_2) ∧
                                    (∃ (x_3 : Int),
                                        h.cell b_3 (o_2 + 4) = some (Value.int IntKind.i64 x_3) ∧
                                          C Try.prog 59 #[Value.int IntKind.u64 n] h fun (r : Value) (h' : Heap) =>
                                            ∃ (x_4 : Int),
                                              r = Value.int IntKind.u64 x_4 ∧
                                                C Try.prog 60 #[Value.pointer x_2, Value.int IntKind.i64 (IntKind.i64.wrap (x_1 + iquo IntKind.i64 x_3 8)), Value.int IntKind.i64 (irem x 8), Value.int IntKind.u64 x_4] h'
                                                  fun (r : Value) (h' : Heap) => ∃ (x : Int), r = Value.int IntKind.i64 x ∧ spare_Bank_say.J2 b n x h' Q) ∧
                                      C Try.prog 59 #[Value.int IntKind.u64 n] h fun (r : Value) (h' : Heap) =>
                                        ∃ (x_3 : Int),
                                          r = Value.int IntKind.u64 x_3 ∧
                                            ∃ (x_4 : Int),
                                              h'.cell b_3 (o_2 + 4) = some (Value.int IntKind.i64 x_4) ∧
                                                C Try.prog 60 #[Value.pointer x_2, Value.int IntKind.i64 (IntKind.i64.wrap (x_1 + iquo IntKind.i64 x_4 8)), Value.int IntKind.i64 (irem x 8), Value.int IntKind.u64 x_3] h'
                                                  fun (r : Value) (h' : Heap) => ∃ (x : Int), r = Value.int IntKind.i64 x ∧ spare_Bank_say.J2 b n x h' Q) ∧
                                (∃ (x_2 : Int),
                                    h.cell b_3 (o_2 + 4) = some (Value.int IntKind.i64 x_2) ∧
                                      (∃ (x_3 : Option Addr),
                                          h.cell b_1 (o + 0) = some (Value.pointer x_3) ∧
                                            C Try.prog 59 #[Value.int IntKind.u64 n] h fun (r : Value) (h' : Heap) =>
                                              ∃ (x_4 : Int),
                                                r = Value.int IntKind.u64 x_4 ∧
                                                  C Try.prog 60 #[Value.pointer x_3, Value.int IntKind.i64 (IntKind.i64.wrap (x_1 + iquo IntKind.i64 x_2 8)), Value.int IntKind.i64 (irem x 8), Value.int IntKind.u64 x_4] h'
                                                    fun (r : Value) (h' : Heap) => ∃ (x : Int), r = Value.int IntKind.i64 x ∧ spare_Bank_say.J2 b n x h' Q) ∧
                                        C Try.prog 59 #[Value.int IntKind.u64 n] h fun (r : Value) (h' : Heap) =>
                                          ∃ (x_3 : Int),
                                            r = Value.int IntKind.u64 x_3 ∧
                                              ∃ (x_4 : Option Addr),
                                                h'.cell b_1 (o + 0) = some (Value.pointer x_4) ∧
                                                  C Try.prog 60 #[Value.pointer x_4, Value.int IntKind.i64 (IntKind.i64.wrap (x_1 + iquo IntKind.i64 x_2 8)), Value.int IntKind.i64 (irem x 8), Value.int IntKind.u64 x_3] h'
                                                    fun (r : Value) (h' : Heap) => ∃ (x : Int), r = Value.int IntKind.i64 x ∧ spare_Bank_say.J2 b n x h' Q) ∧
                                  C Try.prog 59 #[Value.int IntKind.u64 n] h fun (r : Value) (h' : Heap) =>
                                    ∃ (x_2 : Int),
                                      r = Value.int IntKind.u64 x_2 ∧
                                        ∃ (x_3 : Int),
                                          h'.cell b_3 (o_2 + 4) = some (Value.int IntKind.i64 x_3) ∧
                                            ∃ (x_4 : Option Addr),
                                              h'.cell b_1 (o + 0) = some (Value.pointer x_4) ∧
                                                C Try.prog 60 #[Value.pointer x_4, Value.int IntKind.i64 (IntKind.i64.wrap (x_1 + iquo IntKind.i64 x_3 8)), Value.int IntKind.i64 (irem x 8), Value.int IntKind.u64 x_2] h'
                                                  fun (r : Value) (h' : Heap) => ∃ (x : Int), r = Value.int IntKind.i64 x ∧ spare_Bank_say.J2 b n x h' Q) ∧
                          (∃ (x_1 : Int),
                              h.cell b_3 (o_2 + 4) = some (Value.int IntKind.i64 x_1) ∧
                                (∃ (x_2 : Option Addr),
                                    h.cell b_1 (o + 0) = some (Value.pointer x_2) ∧
                                      (∃ (x_3 : Int),
                                          h.cell b_2 (o_1 + 1 + 0) = some (Value.int IntKind.i64 x_3) ∧
                                            C Try.prog 59 #[Value.int IntKind.u64 n] h fun (r : Value) (h' : Heap) =>
                                              ∃ (x_4 : Int),
                                                r = Value.int IntKind.u64 x_4 ∧
                                                  C Try.prog 60 #[Value.pointer x_2, Value.int IntKind.i64 (IntKind.i64.wrap (x_3 + iquo IntKind.i64 x_1 8)), Value.int IntKind.i64 (irem x 8), Value.int IntKind.u64 x_4] h'
                                                    fun (r : Value) (h' : Heap) => ∃ (x : Int), r = Value.int IntKind.i64 x ∧ spare_Bank_say.J2 b n x h' Q) ∧
                                        C Try.prog 59 #[Value.int IntKind.u64 n] h fun (r : Value) (h' : Heap) =>
                                          ∃ (x_3 : Int),
                                            r = Value.int IntKind.u64 x_3 ∧
                                              ∃ (x_4 : Int),
                                                h'.cell b_2 (o_1 + 1 + 0) = some (Value.int IntKind.i64 x_4) ∧
                                                  C Try.prog 60 #[Value.pointer x_2, Value.int IntKind.i64 (IntKind.i64.wrap (x_4 + iquo IntKind.i64 x_1 8)), Value.int IntKind.i64 (irem x 8), Value.int IntKind.u64 x_3] h'
                                                    fun (r : Value) (h' : Heap) => ∃ (x : Int), r = Value.int IntKind.i64 x ∧ spare_Bank_say.J2 b n x h' Q) ∧
                                  (∃ (x_2 : Int),
                                      h.cell b_2 (o_1 + 1 + 0) = some (Value.int IntKind.i64 x_2) ∧
                                        (∃ (x_3 : Option Addr),
                                            h.cell b_1 (o + 0) = some (Value.pointer x_3) ∧
                                              C Try.prog 59 #[Value.int IntKind.u64 n] h fun (r : Value) (h' : Heap) =>
                                                ∃ (x_4 : Int),
                                                  r = Value.int IntKind.u64 x_4 ∧
                                                    C Try.prog 60 #[Value.pointer x_3, Value.int IntKind.i64 (IntKind.i64.wrap (x_2 + iquo IntKind.i64 x_1 8)), Value.int IntKind.i64 (irem x 8), Value.int IntKind.u64 x_4] h'
                                                      fun (r : Value) (h' : Heap) => ∃ (x : Int), r = Value.int IntKind.i64 x ∧ spare_Bank_say.J2 b n x h' Q) ∧
                                          C Try.prog 59 #[Value.int IntKind.u64 n] h fun (r : Value) (h' : Heap) =>
                                            ∃ (x_3 : Int),
                                              r = Value.int IntKind.u64 x_3 ∧
                                                ∃ (x_4 : Option Addr),
                                                  h'.cell b_1 (o + 0) = some (Value.pointer x_4) ∧
                                                    C Try.prog 60 #[Value.pointer x_4, Value.int IntKind.i64 (IntKind.i64.wrap (x_2 + iquo IntKind.i64 x_1 8)), Value.int IntKind.i64 (irem x 8), Value.int IntKind.u64 x_3] h'
                                                      fun (r : Value) (h' : Heap) => ∃ (x : Int), r = Value.int IntKind.i64 x ∧ spare_Bank_say.J2 b n x h' Q) ∧
                                    C Try.prog 59 #[Value.int IntKind.u64 n] h fun (r : Value) (h' : Heap) =>
                                      ∃ (x_2 : Int),
                                        r = Value.int IntKind.u64 x_2 ∧
                                          ∃ (x_3 : Int),
                                            h'.cell b_2 (o_1 + 1 + 0) = some (Value.int IntKind.i64 x_3) ∧
                                              ∃ (x_4 : Option Addr),
                                                h'.cell b_1 (o + 0) = some (Value.pointer x_4) ∧
                                                  C Try.prog 60 #[Value.pointer x_4, Value.int IntKind.i64 (IntKind.i64.wrap (x_3 + iquo IntKind.i64 x_1 8)), Value.int IntKind.i64 (irem x 8), Value.int IntKind.u64 x_2] h'
                                                    fun (r : Value) (h' : Heap) => ∃ (x : Int), r = Value.int IntKind.i64 x ∧ spare_Bank_say.J2 b n x h' Q) ∧
                            C Try.prog 59 #[Value.int IntKind.u64 n] h fun (r : Value) (h' : Heap) =>
                              ∃ (x_1 : Int),
                                r = Value.int IntKind.u64 x_1 ∧
                                  ∃ (x_2 : Int),
                                    h'.cell b_3 (o_2 + 4) = some (Value.int IntKind.i64 x_2) ∧
                                      ∃ (x_3 : Int),
                                        h'.cell b_2 (o_1 + 1 + 0) = some (Value.int IntKind.i64 x_3) ∧
                                          ∃ (x_4 : Option Addr),
                                            h'.cell b_1 (o + 0) = some (Value.pointer x_4) ∧
                                              C Try.prog 60 #[Value.pointer x_4, Value.int IntKind.i64 (IntKind.i64.wrap (x_3 + iquo IntKind.i64 x_2 8)), Value.int IntKind.i64 (irem x 8), Value.int IntKind.u64 x_1] h'
                                                fun (r : Value) (h' : Heap) => ∃ (x : Int), r = Value.int IntKind.i64 x ∧ spare_Bank_say.J2 b n x h' Q) ∧
                  C Try.prog 59 #[Value.int IntKind.u64 n] h fun (r : Value) (h' : Heap) =>
                    ∃ (x : Int),
                      r = Value.int IntKind.u64 x ∧
                        (∃ (x_1 : Option Addr),
                            h'.cell b_1 (o + 0) = some (Value.pointer x_1) ∧
                              (∃ (x_2 : Int),
                                  h'.cell b_2 (o_1 + 1 + 0) = some (Value.int IntKind.i64 x_2) ∧
                                    (∃ (x_3 : Int),
                                        h'.cell b_3 (o_2 + 4) = some (Value.int IntKind.i64 x_3) ∧
                                          ∃ (x_4 : Int),
                                            h'.cell b_4 (o_3 + 4) = some (Value.int IntKind.i64 x_4) ∧
                                              C Try.prog 60 #[Value.pointer x_1, Value.int IntKind.i64 (IntKind.i64.wrap (x_2 + iquo IntKind.i64 x_3 8)), Value.int IntKind.i64 (irem x_4 8), Value.int IntKind.u64 x] h'
                                                fun (r : Value) (h' : Heap) => ∃ (x : Int), r = Value.int IntKind.i64 x ∧ spare_Bank_say.J2 b n x h' Q) ∧
                                      ∃ (x_3 : Int),
                                        h'.cell b_4 (o_3 + 4) = some (Value.int IntKind.i64 x_3) ∧
                                          ∃ (x_4 : Int),
                                            h'.cell b_3 (o_2 + 4) = some (Value.int IntKind.i64 x_4) ∧
                                              C Try.prog 60 #[Value.pointer x_1, Value.int IntKind.i64 (IntKind.i64.wrap (x_2 + iquo IntKind.i64 x_4 8)), Value.int IntKind.i64 (irem x_3 8), Value.int IntKind.u64 x] h'
                                                fun (r : Value) (h' : Heap) => ∃ (x : Int), r = Value.int IntKind.i64 x ∧ spare_Bank_say.J2 b n x h' Q) ∧
                                (∃ (x_2 : Int),
                                    h'.cell b_3 (o_2 + 4) = some (Value.int IntKind.i64 x_2) ∧
                                      (∃ (x_3 : Int),
                                          h'.cell b_2 (o_1 + 1 + 0) = some (Value.int IntKind.i64 x_3) ∧
                                            ∃ (x_4 : Int),
                                              h'.cell b_4 (o_3 + 4) = some (Value.int IntKind.i64 x_4) ∧
                                                C Try.prog 60 #[Value.pointer x_1, Value.int IntKind.i64 (IntKind.i64.wrap (x_3 + iquo IntKind.i64 x_2 8)), Value.int IntKind.i64 (irem x_4 8), Value.int IntKind.u64 x] h'
                                                  fun (r : Value) (h' : Heap) => ∃ (x : Int), r = Value.int IntKind.i64 x ∧ spare_Bank_say.J2 b n x h' Q) ∧
                                        ∃ (x_3 : Int),
                                          h'.cell b_4 (o_3 + 4) = some (Value.int IntKind.i64 x_3) ∧
                                            ∃ (x_4 : Int),
                                              h'.cell b_2 (o_1 + 1 + 0) = some (Value.int IntKind.i64 x_4) ∧
                                                C Try.prog 60 #[Value.pointer x_1, Value.int IntKind.i64 (IntKind.i64.wrap (x_4 + iquo IntKind.i64 x_2 8)), Value.int IntKind.i64 (irem x_3 8), Value.int IntKind.u64 x] h'
                                                  fun (r : Value) (h' : Heap) => ∃ (x : Int), r = Value.int IntKind.i64 x ∧ spare_Bank_say.J2 b n x h' Q) ∧
                                  ∃ (x_2 : Int),
                                    h'.cell b_4 (o_3 + 4) = some (Value.int IntKind.i64 x_2) ∧
                                      ∃ (x_3 : Int),
                                        h'.cell b_3 (o_2 + 4) = some (Value.int IntKind.i64 x_3) ∧
                                          ∃ (x_4 : Int),
                                            h'.cell b_2 (o_1 + 1 + 0) = some (Value.int IntKind.i64 x_4) ∧
                                              C Try.prog 60 #[Value.pointer x_1, Value.int IntKind.i64 (IntKind.i64.wrap (x_4 + iquo IntKind.i64 x_3 8)), Value.int IntKind.i64 (irem x_2 8), Value.int IntKind.u64 x] h'
                                                fun (r : Value) (h' : Heap) => ∃ (x : Int), r = Value.int IntKind.i64 x ∧ spare_Bank_say.J2 b n x h' Q) ∧
                          (∃ (x_1 : Int),
                              h'.cell b_2 (o_1 + 1 + 0) = some (Value.int IntKind.i64 x_1) ∧
                                (∃ (x_2 : Option Addr),
                                    h'.cell b_1 (o + 0) = some (Value.pointer x_2) ∧
                                      (∃ (x_3 : Int),
                                          h'.cell b_3 (o_2 + 4) = some (Value.int IntKind.i64 x_3) ∧
                                            ∃ (x_4 : Int),
                                              h'.cell b_4 (o_3 + 4) = some (Value.int IntKind.i64 x_4) ∧
                                                C Try.prog 60 #[Value.pointer x_2, Value.int IntKind.i64 (IntKind.i64.wrap (x_1 + iquo IntKind.i64 x_3 8)), Value.int IntKind.i64 (irem x_4 8), Value.int IntKind.u64 x] h'
                                                  fun (r : Value) (h' : Heap) => ∃ (x : Int), r = Value.int IntKind.i64 x ∧ spare_Bank_say.J2 b n x h' Q) ∧
                                        ∃ (x_3 : Int),
                                          h'.cell b_4 (o_3 + 4) = some (Value.int IntKind.i64 x_3) ∧
                                            ∃ (x_4 : Int),
                                              h'.cell b_3 (o_2 + 4) = some (Value.int IntKind.i64 x_4) ∧
                                                C Try.prog 60 #[Value.pointer x_2, Value.int IntKind.i64 (IntKind.i64.wrap (x_1 + iquo IntKind.i64 x_4 8)), Value.int IntKind.i64 (irem x_3 8), Value.int IntKind.u64 x] h'
                                                  fun (r : Value) (h' : Heap) => ∃ (x : Int), r = Value.int IntKind.i64 x ∧ spare_Bank_say.J2 b n x h' Q) ∧
                                  (∃ (x_2 : Int),
                                      h'.cell b_3 (o_2 + 4) = some (Value.int IntKind.i64 x_2) ∧
                                        ∃ (x_3 : Int),
                                          h'.cell b_4 (o_3 + 4) = some (Value.int IntKind.i64 x_3) ∧
                                            ∃ (x_4 : Option Addr),
                                              h'.cell b_1 (o + 0) = some (Value.pointer x_4) ∧
                                                C Try.prog 60 #[Value.pointer x_4, Value.int IntKind.i64 (IntKind.i64.wrap (x_1 + iquo IntKind.i64 x_2 8)), Value.int IntKind.i64 (irem x_3 8), Value.int IntKind.u64 x] h'
                                                  fun (r : Value) (h' : Heap) => ∃ (x : Int), r = Value.int IntKind.i64 x ∧ spare_Bank_say.J2 b n x h' Q) ∧
                                    ∃ (x_2 : Int),
                                      h'.cell b_4 (o_3 + 4) = some (Value.int IntKind.i64 x_2) ∧
                                        ∃ (x_3 : Int),
                                          h'.cell b_3 (o_2 + 4) = some (Value.int IntKind.i64 x_3) ∧
                                            ∃ (x_4 : Option Addr),
                                              h'.cell b_1 (o + 0) = some (Value.pointer x_4) ∧
                                                C Try.prog 60 #[Value.pointer x_4, Value.int IntKind.i64 (IntKind.i64.wrap (x_1 + iquo IntKind.i64 x_3 8)), Value.int IntKind.i64 (irem x_2 8), Value.int IntKind.u64 x] h'
                                                  fun (r : Value) (h' : Heap) => ∃ (x : Int), r = Value.int IntKind.i64 x ∧ spare_Bank_say.J2 b n x h' Q) ∧
                            (∃ (x_1 : Int),
                                h'.cell b_3 (o_2 + 4) = some (Value.int IntKind.i64 x_1) ∧
                                  (∃ (x_2 : Option Addr),
                                      h'.cell b_1 (o + 0) = some (Value.pointer x_2) ∧
                                        (∃ (x_3 : Int),
                                            h'.cell b_2 (o_1 + 1 + 0) = some (Value.int IntKind.i64 x_3) ∧
                                              ∃ (x_4 : Int),
                                                h'.cell b_4 (o_3 + 4) = some (Value.int IntKind.i64 x_4) ∧
                                                  C Try.prog 60 #[Value.pointer x_2, Value.int IntKind.i64 (IntKind.i64.wrap (x_3 + iquo IntKind.i64 x_1 8)), Value.int IntKind.i64 (irem x_4 8), Value.int IntKind.u64 x] h'
                                                    fun (r : Value) (h' : Heap) => ∃ (x : Int), r = Value.int IntKind.i64 x ∧ spare_Bank_say.J2 b n x h' Q) ∧
                                          ∃ (x_3 : Int),
                                            h'.cell b_4 (o_3 + 4) = some (Value.int IntKind.i64 x_3) ∧
                                              ∃ (x_4 : Int),
                                                h'.cell b_2 (o_1 + 1 + 0) = some (Value.int IntKind.i64 x_4) ∧
                                                  C Try.prog 60 #[Value.pointer x_2, Value.int IntKind.i64 (IntKind.i64.wrap (x_4 + iquo IntKind.i64 x_1 8)), Value.int IntKind.i64 (irem x_3 8), Value.int IntKind.u64 x] h'
                                                    fun (r : Value) (h' : Heap) => ∃ (x : Int), r = Value.int IntKind.i64 x ∧ spare_Bank_say.J2 b n x h' Q) ∧
                                    (∃ (x_2 : Int),
                                        h'.cell b_2 (o_1 + 1 + 0) = some (Value.int IntKind.i64 x_2) ∧
                                          ∃ (x_3 : Int),
                                            h'.cell b_4 (o_3 + 4) = some (Value.int IntKind.i64 x_3) ∧
                                              ∃ (x_4 : Option Addr),
                                                h'.cell b_1 (o + 0) = some (Value.pointer x_4) ∧
                                                  C Try.prog 60 #[Value.pointer x_4, Value.int IntKind.i64 (IntKind.i64.wrap (x_2 + iquo IntKind.i64 x_1 8)), Value.int IntKind.i64 (irem x_3 8), Value.int IntKind.u64 x] h'
                                                    fun (r : Value) (h' : Heap) => ∃ (x : Int), r = Value.int IntKind.i64 x ∧ spare_Bank_say.J2 b n x h' Q) ∧
                                      ∃ (x_2 : Int),
                                        h'.cell b_4 (o_3 + 4) = some (Value.int IntKind.i64 x_2) ∧
                                          ∃ (x_3 : Int),
                                            h'.cell b_2 (o_1 + 1 + 0) = some (Value.int IntKind.i64 x_3) ∧
                                              ∃ (x_4 : Option Addr),
                                                h'.cell b_1 (o + 0) = some (Value.pointer x_4) ∧
                                                  C Try.prog 60 #[Value.pointer x_4, Value.int IntKind.i64 (IntKind.i64.wrap (x_3 + iquo IntKind.i64 x_1 8)), Value.int IntKind.i64 (irem x_2 8), Value.int IntKind.u64 x] h'
                                                    fun (r : Value) (h' : Heap) => ∃ (x : Int), r = Value.int IntKind.i64 x ∧ spare_Bank_say.J2 b n x h' Q) ∧
                              ∃ (x_1 : Int),
                                h'.cell b_4 (o_3 + 4) = some (Value.int IntKind.i64 x_1) ∧
                                  ∃ (x_2 : Int),
                                    h'.cell b_3 (o_2 + 4) = some (Value.int IntKind.i64 x_2) ∧
                                      ∃ (x_3 : Int),
                                        h'.cell b_2 (o_1 + 1 + 0) = some (Value.int IntKind.i64 x_3) ∧
                                          ∃ (x_4 : Option Addr),
                                            h'.cell b_1 (o + 0) = some (Value.pointer x_4) ∧
                                              C Try.prog 60 #[Value.pointer x_4, Value.int IntKind.i64 (IntKind.i64.wrap (x_3 + iquo IntKind.i64 x_2 8)), Value.int IntKind.i64 (irem x_1 8), Value.int IntKind.u64 x] h'
                                                fun (r : Value) (h' : Heap) => ∃ (x : Int), r = Value.int IntKind.i64 x ∧ spare_Bank_say.J2 b n x h' Q
def spare_Bank_say.J2.wp (b : Option Addr) (n : Int) (e : Int) (h : Heap) (Q : Value → Heap → Prop) : Prop :=
  xsIf (decide (e = 0))
    (atBase b fun (b_1 o : Nat) =>
      (∃ (x : Int),
          h.cell b_1 (o + 4) = some (Value.int IntKind.i64 x) ∧
            C Try.prog 59 #[Value.int IntKind.u64 n] h fun (r : Value) (h' : Heap) =>
              ∃ (x_1 : Int),
                r = Value.int IntKind.u64 x_1 ∧
                  C Try.prog 21 #[Value.pointer b, Value.int IntKind.i64 x, Value.int IntKind.u64 x_1] h' fun (r : Value) (h' : Heap) => ∃ (x : Int), r = Value.int IntKind.i64 x ∧ Q (Value.int IntKind.i64 x) h') ∧
        C Try.prog 59 #[Value.int IntKind.u64 n] h fun (r : Value) (h' : Heap) =>
          ∃ (x : Int),
            r = Value.int IntKind.u64 x ∧
              ∃ (x_1 : Int),
                h'.cell b_1 (o + 4) = some (Value.int IntKind.i64 x_1) ∧
                  C Try.prog 21 #[Value.pointer b, Value.int IntKind.i64 x_1, Value.int IntKind.u64 x] h' fun (r : Value) (h' : Heap) => ∃ (x : Int), r = Value.int IntKind.i64 x ∧ Q (Value.int IntKind.i64 x) h')
    (Q (Value.int IntKind.i64 e) h)
theorem spare_Bank_say.ok {b : Option Addr} {n : Int} {h : Heap} {Q : Value → Heap → Prop} (hk : spare_Bank_say.wp b n h Q) : C Try.prog 45 #[.pointer b, .int .u64 n] h Q :=
  C_of_xs (H := spare_Bank_say.H) (lcuts := spare_Bank_say.lc) (rcuts := spare_Bank_say.rc) (l := [.pointer b, .int .u64 n]) 2000 mixed Try.func45 rfl (by kernel_rfl) (@cast (spare_Bank_say.wp b n h Q) _ (by kernel_rfl) hk)
theorem spare_Bank_say.J2.ok {b : Option Addr} {n : Int} {e : Int} {h : Heap} {Q : Value → Heap → Prop} (hk : spare_Bank_say.J2.wp b n e h Q) : spare_Bank_say.J2 b n e h Q :=
  xs_ok (H := spare_Bank_say.H) (lcuts := spare_Bank_say.lc) (rcuts := []) (fn := Try.f45) mixed Try.func45 2000 _ _ _ (@cast (spare_Bank_say.J2.wp b n e h Q) _ (by kernel_rfl) hk)

/-! (*gabion/spare.Bank).retire -/
def spare_Bank_retire.H : Hn := ⟨[], [], [⟨2, .q 0 (.q 1 (.q 2 (.q 4 (.q 5 (.q 6 (.ld 3 768 (.q 7 (.q 8 (.q 9 (.nil)))))))))), []⟩], []⟩
def spare_Bank_retire.lc : List Cut := [⟨1, [0, 1, 2], []⟩]
def spare_Bank_retire.rc : List Cut := []
def spare_Bank_retire.L1 (b : Option Addr) (i : Int) (s : ByteArray) (h : Heap) (Q : Value → Heap → Prop) : Prop :=
  TW Try.prog 24 49 [.code (cAt (bodyOf Try.f24) [1, 0, 0, 0]), .inLoop (cAt (bodyOf Try.f24) [1, 0, 0, 0]), .inBlock 0, .code (cAt (bodyOf Try.f24) [1, 1])] ⟨[(0, .v (.pointer b)), (1, .v (.int .i64 i)), (2, .v (.string s))], []⟩ h Q
def spare_Bank_retire.wp (b : Option Addr) (i : Int) (s : ByteArray) (h : Heap) (Q : Value → Heap → Prop) : Prop :=
  spare_Bank_retire.L1 b i s h Q
def spare_Bank_retire.L1.wp (b : Option Addr) (i : Int) (s : ByteArray) (h : Heap) (Q : Value → Heap → Prop) : Prop :=
  C Try.prog 18 #[Value.pointer b] h fun (r : Value) (h' : Heap) =>
    ∃ (x : Int),
      r = Value.int IntKind.i64 x ∧
        xsIf (decide (0 < x))
          (atBase b fun (b_1 o : Nat) =>
            atBase b fun (b_2 o_1 : Nat) =>
              ∃ (x : Int),
                h'.cell b_1 (o + 1) = some (Value.int IntKind.i64 x) ∧
                  ∃ (x_1 : Int),
                    h'.cell b_1 (o + 1 + 1) = some (Value.int IntKind.i64 x_1) ∧
                      ∃ (x_2 : Int),
                        h'.cell b_1 (o + 1 + 1 + 1) = some (Value.int IntKind.i64 x_2) ∧
                          ∃ (x_3 : Int),
                            h'.cell b_2 (o_1 + 4) = some (Value.int IntKind.i64 x_3) ∧
                              C Try.prog 39 #[Value.agg #[Value.int IntKind.i64 x, Value.int IntKind.i64 x_1, Value.int IntKind.i64 x_2], Value.int IntKind.i64 x_3] h' fun (r : Value) (h' : Heap) =>
                                ∃ (x : Int),
                                  r = Value.int IntKind.i64 x ∧
                                    atBase b fun (b_3 o : Nat) =>
                                      ∃ (x_4 : Option Addr),
                                        h'.cell b_3 (o + 0) = some (Value.pointer x_4) ∧
                                          C Try.prog 14 #[Value.pointer x_4, Value.int IntKind.i64 x, Value.string s] h' fun (r : Value) (h' : Heap) =>
                                            ∃ (x_5 : Int),
                                              r = Value.int IntKind.i64 x_5 ∧
                                                xsIf (decide (x_5 ≠ 0)) (Q (Value.int IntKind.i64 x_5) h')
                                                  (atBase b fun (b_4 o : Nat) =>
                                                    ∃ (x_6 : Option Addr),
                                                      h'.cell b_4 (o + 0) = some (Value.pointer x_6) ∧
                                                        C Try.prog 23 #[Value.pointer x_6, Value.int IntKind.i64 x, Value.string s] h' fun (r : Value) (h' : Heap) =>
                                                          ∃ (x : Bool),
                                                            r = Value.bool x ∧
                                                              xsIf x
                                                                (C Try.prog 45 #[Value.pointer b, Value.int IntKind.u64 (IntKind.u64.wrap (IntKind.u64.wrap i + 1))] h' fun (r : Value) (h' : Heap) =>
                                                                  ∃ (x : Int), r = Value.int IntKind.i64 x ∧ Q (Value.int IntKind.i64 x) h')
                                                                (C Try.prog 45 #[Value.pointer b, Value.int IntKind.u64 65535] h' fun (r : Value) (h' : Heap) =>
                                                                  ∃ (x : Int), r = Value.int IntKind.i64 x ∧ xsIf (decide (x ≠ 0)) (Q (Value.int IntKind.i64 x) h') (spare_Bank_retire.L1 b i s h' Q))))
          (Q (Value.int IntKind.i64 10) h')
theorem spare_Bank_retire.ok {b : Option Addr} {i : Int} {s : ByteArray} {h : Heap} {Q : Value → Heap → Prop} (hk : spare_Bank_retire.wp b i s h Q) : C Try.prog 24 #[.pointer b, .int .i64 i, .string s] h Q :=
  C_of_xs (H := spare_Bank_retire.H) (lcuts := spare_Bank_retire.lc) (rcuts := spare_Bank_retire.rc) (l := [.pointer b, .int .i64 i, .string s]) 2000 mixed Try.func24 rfl (by kernel_rfl) (@cast (spare_Bank_retire.wp b i s h Q) _ (by kernel_rfl) hk)
theorem spare_Bank_retire.L1.ok {b : Option Addr} {i : Int} {s : ByteArray} {h : Heap} {Q : Value → Heap → Prop} (hk : spare_Bank_retire.L1.wp b i s h Q) : spare_Bank_retire.L1 b i s h Q :=
  xs_ok (H := spare_Bank_retire.H) (lcuts := spare_Bank_retire.lc) (rcuts := spare_Bank_retire.rc) (fn := Try.f24) mixed Try.func24 2000 _ _ _ (@cast (spare_Bank_retire.L1.wp b i s h Q) _ (by kernel_rfl) hk)

/-! (*gabion/spare.Bank).Write -/
def spare_Bank_Write.H : Hn := ⟨[], [], [], []⟩
def spare_Bank_Write.lc : List Cut := []
def spare_Bank_Write.rc : List Cut := []
def spare_Bank_Write.wp (b : Option Addr) (i : Int) (s : ByteArray) (h : Heap) (Q : Value → Heap → Prop) : Prop :=
  C Try.prog 17 #[Value.pointer b, Value.int IntKind.i64 i] h fun (r : Value) (h' : Heap) =>
    ∃ (x : Int),
      ∃ (x_1 : Int),
        r = Value.tuple #[Value.int IntKind.i64 x, Value.int IntKind.i64 x_1] ∧
          xsIf (decide (x_1 = 1)) (Q (Value.int IntKind.i64 x_1) h')
            (xsIf (decide ((↑s.size : Int) ≠ 64)) (Q (Value.int IntKind.i64 2) h')
              (xsIf (decide (x_1 ≠ 0)) (Q (Value.int IntKind.i64 x_1) h')
                (atBase b fun (b_1 o : Nat) =>
                  ∃ (x_2 : Option Addr),
                    h'.cell b_1 (o + 0) = some (Value.pointer x_2) ∧
                      C Try.prog 14 #[Value.pointer x_2, Value.int IntKind.i64 x, Value.string s] h' fun (r : Value) (h' : Heap) =>
                        ∃ (x_3 : Int),
                          r = Value.int IntKind.i64 x_3 ∧
                            xsIf (decide (x_3 ≠ 0)) (Q (Value.int IntKind.i64 x_3) h')
                              (atBase b fun (b_2 o : Nat) =>
                                ∃ (x_4 : Option Addr),
                                  h'.cell b_2 (o + 0) = some (Value.pointer x_4) ∧
                                    C Try.prog 23 #[Value.pointer x_4, Value.int IntKind.i64 x, Value.string s] h' fun (r : Value) (h' : Heap) =>
                                      ∃ (x : Bool),
                                        r = Value.bool x ∧
                                          xsIf x (Q (Value.int IntKind.i64 0) h')
                                            (C Try.prog 24 #[Value.pointer b, Value.int IntKind.i64 i, Value.string s] h' fun (r : Value) (h' : Heap) =>
                                              ∃ (x : Int), r = Value.int IntKind.i64 x ∧ Q (Value.int IntKind.i64 x) h')))))
theorem spare_Bank_Write.ok {b : Option Addr} {i : Int} {s : ByteArray} {h : Heap} {Q : Value → Heap → Prop} (hk : spare_Bank_Write.wp b i s h Q) : C Try.prog 9 #[.pointer b, .int .i64 i, .string s] h Q :=
  C_of_xs (H := spare_Bank_Write.H) (lcuts := spare_Bank_Write.lc) (rcuts := spare_Bank_Write.rc) (l := [.pointer b, .int .i64 i, .string s]) 2000 mixed Try.func9 rfl (by kernel_rfl) (@cast (spare_Bank_Write.wp b i s h Q) _ (by kernel_rfl) hk)

/-! (*gabion/pm.Device).Off -/
def pm_Device_Off.H : Hn := ⟨[], [], [], []⟩
def pm_Device_Off.lc : List Cut := []
def pm_Device_Off.rc : List Cut := []
def pm_Device_Off.wp (d : Option Addr) (h : Heap) (Q : Value → Heap → Prop) : Prop :=
  xsIf (!d.isNone) (atBase d fun (b o : Nat) => ∃ (x : Bool), h.cell b (o + 5) = some (Value.bool x) ∧ Q (Value.bool x) h) (Q (Value.bool false) h)
theorem pm_Device_Off.ok {d : Option Addr} {h : Heap} {Q : Value → Heap → Prop} (hk : pm_Device_Off.wp d h Q) : C Try.prog 46 #[.pointer d] h Q :=
  C_of_xs (H := pm_Device_Off.H) (lcuts := pm_Device_Off.lc) (rcuts := pm_Device_Off.rc) (l := [.pointer d]) 2000 mixed Try.func46 rfl (by kernel_rfl) (@cast (pm_Device_Off.wp d h Q) _ (by kernel_rfl) hk)

/-! gabion/le.Text -/
def le_Text.H : Hn := ⟨[], [], [], []⟩
def le_Text.lc : List Cut := [⟨3, [3, 6, 7], []⟩]
def le_Text.rc : List Cut := []
def le_Text.L3 (s : ByteArray) (t6_0 : Int) (t6_1 : Int) (t6_2 : Int) (t6_3 : Int) (t6_4 : Int) (t6_5 : Int) (t6_6 : Int) (t6_7 : Int) (t7 : Int) (h : Heap) (Q : Value → Heap → Prop) : Prop :=
  TW Try.prog 47 16 [.code (cAt (bodyOf Try.f47) [1, 1, 0, 1, 0, 0]), .inLoop (cAt (bodyOf Try.f47) [1, 1, 0, 1, 0, 0]), .inBlock 0, .code (cAt (bodyOf Try.f47) [1, 1, 1])] ⟨[(3, .v (.string s)), (6, .v (.agg #[.int .u64 t6_0, .int .u64 t6_1, .int .u64 t6_2, .int .u64 t6_3, .int .u64 t6_4, .int .u64 t6_5, .int .u64 t6_6, .int .u64 t6_7])), (7, .v (.int .i64 t7))], []⟩ h Q
def le_Text.wp (w_0 : Int) (w_1 : Int) (w_2 : Int) (w_3 : Int) (w_4 : Int) (w_5 : Int) (w_6 : Int) (w_7 : Int) (h : Heap) (Q : Value → Heap → Prop) : Prop :=
  le_Text.L3 { data := #[] } w_0 w_1 w_2 w_3 w_4 w_5 w_6 w_7 0 h Q
def le_Text.L3.wp (s : ByteArray) (t6_0 : Int) (t6_1 : Int) (t6_2 : Int) (t6_3 : Int) (t6_4 : Int) (t6_5 : Int) (t6_6 : Int) (t6_7 : Int) (t7 : Int) (h : Heap) (Q : Value → Heap → Prop) : Prop :=
  xsIf (decide (t7 < 8))
    ((0 ≤ t7 ∧ t7 < (↑8 : Int)) ∧
      ∃ (x : Int),
        lget [Value.int IntKind.u64 t6_0, Value.int IntKind.u64 t6_1, Value.int IntKind.u64 t6_2, Value.int IntKind.u64 t6_3, Value.int IntKind.u64 t6_4, Value.int IntKind.u64 t6_5, Value.int IntKind.u64 t6_6, Value.int IntKind.u64 t6_7]
              (t7.toNat * 1) =
            some (Value.int IntKind.u64 x) ∧
          C Try.prog 61 #[Value.int IntKind.u64 x, Value.int IntKind.i64 8] h fun (r : Value) (h' : Heap) =>
            ∃ (x : ByteArray), r = Value.string x ∧ (↑(s.size + x.size) : Int) ≤ 9223372036854775807 ∧ le_Text.L3 (s ++ x) t6_0 t6_1 t6_2 t6_3 t6_4 t6_5 t6_6 t6_7 (IntKind.i64.wrap (t7 + 1)) h' Q)
    (Q (Value.string s) h)
theorem le_Text.ok {w_0 : Int} {w_1 : Int} {w_2 : Int} {w_3 : Int} {w_4 : Int} {w_5 : Int} {w_6 : Int} {w_7 : Int} {h : Heap} {Q : Value → Heap → Prop} (hk : le_Text.wp w_0 w_1 w_2 w_3 w_4 w_5 w_6 w_7 h Q) : C Try.prog 47 #[.agg #[.int .u64 w_0, .int .u64 w_1, .int .u64 w_2, .int .u64 w_3, .int .u64 w_4, .int .u64 w_5, .int .u64 w_6, .int .u64 w_7]] h Q :=
  C_of_xs (H := le_Text.H) (lcuts := le_Text.lc) (rcuts := le_Text.rc) (l := [.agg #[.int .u64 w_0, .int .u64 w_1, .int .u64 w_2, .int .u64 w_3, .int .u64 w_4, .int .u64 w_5, .int .u64 w_6, .int .u64 w_7]]) 2000 mixed Try.func47 rfl (by kernel_rfl) (@cast (le_Text.wp w_0 w_1 w_2 w_3 w_4 w_5 w_6 w_7 h Q) _ (by kernel_rfl) hk)
theorem le_Text.L3.ok {s : ByteArray} {t6_0 : Int} {t6_1 : Int} {t6_2 : Int} {t6_3 : Int} {t6_4 : Int} {t6_5 : Int} {t6_6 : Int} {t6_7 : Int} {t7 : Int} {h : Heap} {Q : Value → Heap → Prop} (hk : le_Text.L3.wp s t6_0 t6_1 t6_2 t6_3 t6_4 t6_5 t6_6 t6_7 t7 h Q) : le_Text.L3 s t6_0 t6_1 t6_2 t6_3 t6_4 t6_5 t6_6 t6_7 t7 h Q :=
  xs_ok (H := le_Text.H) (lcuts := le_Text.lc) (rcuts := le_Text.rc) (fn := Try.f47) mixed Try.func47 2000 _ _ _ (@cast (le_Text.L3.wp s t6_0 t6_1 t6_2 t6_3 t6_4 t6_5 t6_6 t6_7 t7 h Q) _ (by kernel_rfl) hk)

/-! gabion/line.Get -/
def line_Get.H : Hn := ⟨[], [7], [], []⟩
def line_Get.lc : List Cut := [⟨6, [0, 1, 7, 22], [7]⟩]
def line_Get.rc : List Cut := [⟨4, [0, 1], []⟩]
def line_Get.J4 (d : Option Addr) (at0 : Int) (h : Heap) (Q : Value → Heap → Prop) : Prop :=
  TW Try.prog 25 43 [.code (cAt (bodyOf Try.f25) [1, 1, 0]), .code (cAt (bodyOf Try.f25) [1, 1, 1])] ⟨[(0, .v (.pointer d)), (1, .v (.int .i64 at0))], []⟩ h Q
def line_Get.L6 (d : Option Addr) (at0 : Int) (t22 : Int) (w : List Value) (h : Heap) (Q : Value → Heap → Prop) : Prop :=
  TW Try.prog 25 43 [.code (cAt (bodyOf Try.f25) [1, 1, 1, 0, 1, 0, 0]), .inLoop (cAt (bodyOf Try.f25) [1, 1, 1, 0, 1, 0, 0]), .inBlock 0, .code (cAt (bodyOf Try.f25) [1, 1, 1, 1])] ⟨[(0, .v (.pointer d)), (1, .v (.int .i64 at0)), (7, .p 7 0), (22, .v (.int .i64 t22))], [(7, w)]⟩ h Q
def line_Get.wp (d : Option Addr) (at0 : Int) (h : Heap) (Q : Value → Heap → Prop) : Prop :=
  C Try.prog 29 #[Value.pointer d, Value.int IntKind.i64 at0] h fun (r : Value) (h' : Heap) =>
    ∃ (x : Int),
      r = Value.int IntKind.i64 x ∧
        xsIf (decide (x ≠ 0))
          (C Try.prog 46 #[Value.pointer d] h' fun (r : Value) (h' : Heap) =>
            ∃ (x_1 : Bool), r = Value.bool x_1 ∧ xsIf (!x_1) (Q (Value.tuple #[Value.string { data := #[] }, Value.int IntKind.i64 x]) h') (line_Get.J4 d at0 h' Q))
          (line_Get.J4 d at0 h' Q)
def line_Get.J4.wp (d : Option Addr) (at0 : Int) (h : Heap) (Q : Value → Heap → Prop) : Prop :=
  line_Get.L6 d at0 0 [Value.int IntKind.u64 0, Value.int IntKind.u64 0, Value.int IntKind.u64 0, Value.int IntKind.u64 0, Value.int IntKind.u64 0, Value.int IntKind.u64 0, Value.int IntKind.u64 0, Value.int IntKind.u64 0] h Q
def line_Get.L6.wp (d : Option Addr) (at0 : Int) (t22 : Int) (w : List Value) (h : Heap) (Q : Value → Heap → Prop) : Prop :=
  xsIf (decide (t22 < 8))
    (C Try.prog 20 #[Value.pointer d, Value.int IntKind.i64 (IntKind.i64.wrap (IntKind.i64.wrap (at0 * 8) + t22))] h fun (r : Value) (h' : Heap) =>
      ∃ (x : Int),
        ∃ (x_1 : Int),
          r = Value.tuple #[Value.int IntKind.u64 x, Value.int IntKind.i64 x_1] ∧
            xsIf (decide (x_1 ≠ 0)) (Q (Value.tuple #[Value.string { data := #[] }, Value.int IntKind.i64 x_1]) h')
              ((0 ≤ t22 ∧ t22 < (↑8 : Int)) ∧ 0 + t22.toNat * 1 + 1 ≤ w.length ∧ line_Get.L6 d at0 (IntKind.i64.wrap (t22 + 1)) (lput w (0 + t22.toNat * 1) [Value.int IntKind.u64 x]) h' Q))
    (8 ≤ w.length ∧
      ∃ (x : Int),
        lget w 0 = some (Value.int IntKind.u64 x) ∧
          ∃ (x_1 : Int),
            lget w 1 = some (Value.int IntKind.u64 x_1) ∧
              ∃ (x_2 : Int),
                lget w 2 = some (Value.int IntKind.u64 x_2) ∧
                  ∃ (x_3 : Int),
                    lget w 3 = some (Value.int IntKind.u64 x_3) ∧
                      ∃ (x_4 : Int),
                        lget w 4 = some (Value.int IntKind.u64 x_4) ∧
                          ∃ (x_5 : Int),
                            lget w 5 = some (Value.int IntKind.u64 x_5) ∧
                              ∃ (x_6 : Int),
                                lget w 6 = some (Value.int IntKind.u64 x_6) ∧
                                  ∃ (x_7 : Int),
                                    lget w 7 = some (Value.int IntKind.u64 x_7) ∧
                                      C Try.prog 47
                                        #[Value.agg
                                                #[Value.int IntKind.u64 x, Value.int IntKind.u64 x_1, Value.int IntKind.u64 x_2, Value.int IntKind.u64 x_3, Value.int IntKind.u64 x_4, Value.int IntKind.u64 x_5, Value.int IntKind.u64 x_6,
                                                      Value.int IntKind.u64 x_7]]
                                        h fun (r : Value) (h' : Heap) => ∃ (x : ByteArray), r = Value.string x ∧ Q (Value.tuple #[Value.string x, Value.int IntKind.i64 0]) h')
theorem line_Get.ok {d : Option Addr} {at0 : Int} {h : Heap} {Q : Value → Heap → Prop} (hk : line_Get.wp d at0 h Q) : C Try.prog 25 #[.pointer d, .int .i64 at0] h Q :=
  C_of_xs (H := line_Get.H) (lcuts := line_Get.lc) (rcuts := line_Get.rc) (l := [.pointer d, .int .i64 at0]) 2000 mixed Try.func25 rfl (by kernel_rfl) (@cast (line_Get.wp d at0 h Q) _ (by kernel_rfl) hk)
theorem line_Get.J4.ok {d : Option Addr} {at0 : Int} {h : Heap} {Q : Value → Heap → Prop} (hk : line_Get.J4.wp d at0 h Q) : line_Get.J4 d at0 h Q :=
  xs_ok (H := line_Get.H) (lcuts := line_Get.lc) (rcuts := []) (fn := Try.f25) mixed Try.func25 2000 _ _ _ (@cast (line_Get.J4.wp d at0 h Q) _ (by kernel_rfl) hk)
theorem line_Get.L6.ok {d : Option Addr} {at0 : Int} {t22 : Int} {w : List Value} {h : Heap} {Q : Value → Heap → Prop} (hk : line_Get.L6.wp d at0 t22 w h Q) : line_Get.L6 d at0 t22 w h Q :=
  xs_ok (H := line_Get.H) (lcuts := line_Get.lc) (rcuts := line_Get.rc) (fn := Try.f25) mixed Try.func25 2000 _ _ _ (@cast (line_Get.L6.wp d at0 t22 w h Q) _ (by kernel_rfl) hk)

/-! (*gabion/spare.Bank).Read -/
def spare_Bank_Read.H : Hn := ⟨[], [], [], []⟩
def spare_Bank_Read.lc : List Cut := []
def spare_Bank_Read.rc : List Cut := []
def spare_Bank_Read.wp (b : Option Addr) (i : Int) (h : Heap) (Q : Value → Heap → Prop) : Prop :=
  C Try.prog 17 #[Value.pointer b, Value.int IntKind.i64 i] h fun (r : Value) (h' : Heap) =>
    ∃ (x : Int),
      ∃ (x_1 : Int),
        r = Value.tuple #[Value.int IntKind.i64 x, Value.int IntKind.i64 x_1] ∧
          xsIf (decide (x_1 ≠ 0)) (Q (Value.tuple #[Value.string { data := #[] }, Value.int IntKind.i64 x_1]) h')
            (atBase b fun (b o : Nat) =>
              ∃ (x_2 : Option Addr),
                h'.cell b (o + 0) = some (Value.pointer x_2) ∧
                  C Try.prog 25 #[Value.pointer x_2, Value.int IntKind.i64 x] h' fun (r : Value) (h' : Heap) =>
                    ∃ (x : ByteArray), ∃ (x_3 : Int), r = Value.tuple #[Value.string x, Value.int IntKind.i64 x_3] ∧ Q (Value.tuple #[Value.string x, Value.int IntKind.i64 x_3]) h')
theorem spare_Bank_Read.ok {b : Option Addr} {i : Int} {h : Heap} {Q : Value → Heap → Prop} (hk : spare_Bank_Read.wp b i h Q) : C Try.prog 11 #[.pointer b, .int .i64 i] h Q :=
  C_of_xs (H := spare_Bank_Read.H) (lcuts := spare_Bank_Read.lc) (rcuts := spare_Bank_Read.rc) (l := [.pointer b, .int .i64 i]) 2000 mixed Try.func11 rfl (by kernel_rfl) (@cast (spare_Bank_Read.wp b i h Q) _ (by kernel_rfl) hk)

/-! (*gabion/spare.Bank).Lines -/
def spare_Bank_Lines.H : Hn := ⟨[], [], [], []⟩
def spare_Bank_Lines.lc : List Cut := []
def spare_Bank_Lines.rc : List Cut := []
def spare_Bank_Lines.wp (b : Option Addr) (h : Heap) (Q : Value → Heap → Prop) : Prop :=
  xsIf b.isNone (Q (Value.int IntKind.i64 0) h) (atBase b fun (b o : Nat) => ∃ (x : Int), h.cell b (o + 1 + 1) = some (Value.int IntKind.i64 x) ∧ Q (Value.int IntKind.i64 x) h)
theorem spare_Bank_Lines.ok {b : Option Addr} {h : Heap} {Q : Value → Heap → Prop} (hk : spare_Bank_Lines.wp b h Q) : C Try.prog 19 #[.pointer b] h Q :=
  C_of_xs (H := spare_Bank_Lines.H) (lcuts := spare_Bank_Lines.lc) (rcuts := spare_Bank_Lines.rc) (l := [.pointer b]) 2000 mixed Try.func19 rfl (by kernel_rfl) (@cast (spare_Bank_Lines.wp b h Q) _ (by kernel_rfl) hk)

/-! gabion/gabionlaw05.wakes -/
def gabionlaw05_wakes.H : Hn := ⟨[], [], [], []⟩
def gabionlaw05_wakes.lc : List Cut := []
def gabionlaw05_wakes.rc : List Cut := [⟨7, [2, 5], []⟩]
def gabionlaw05_wakes.J7 (d : Option Addr) (b : Option Addr) (h : Heap) (Q : Value → Heap → Prop) : Prop :=
  TW Try.prog 6 85 [.code (cAt (bodyOf Try.f6) [1, 1, 1, 1, 1, 1, 0]), .code (cAt (bodyOf Try.f6) [1, 1, 1, 1, 1, 1, 1])] ⟨[(2, .v (.pointer d)), (5, .v (.pointer b))], []⟩ h Q
def gabionlaw05_wakes.wp  (h : Heap) (Q : Value → Heap → Prop) : Prop :=
  C Try.prog 4 #[Value.int IntKind.i64 7] h fun (r : Value) (h' : Heap) =>
    ∃ (x : Option Addr),
      ∃ (x_1 : Int),
        r = Value.tuple #[Value.pointer x, Value.int IntKind.i64 x_1] ∧
          C Try.prog 5 #[Value.pointer x, Value.agg #[Value.int IntKind.i64 0, Value.int IntKind.i64 4, Value.int IntKind.i64 2]] h' fun (r : Value) (h' : Heap) =>
            ∃ (x_2 : Int),
              r = Value.int IntKind.i64 x_2 ∧
                C Try.prog 7 #[Value.pointer x, Value.agg #[Value.int IntKind.i64 0, Value.int IntKind.i64 4, Value.int IntKind.i64 2]] h' fun (r : Value) (h' : Heap) =>
                  ∃ (x_3 : Option Addr),
                    ∃ (x_4 : Int),
                      r = Value.tuple #[Value.pointer x_3, Value.int IntKind.i64 x_4] ∧
                        xsIf (decide (x_1 ≠ 0)) (Q (Value.bool false) h')
                          (xsIf (decide (x_2 ≠ 0)) (Q (Value.bool false) h')
                            (xsIf (decide (x_4 ≠ 0)) (Q (Value.bool false) h')
                              (C Try.prog 16 #[Value.agg #[Value.int IntKind.i64 0, Value.int IntKind.i64 4, Value.int IntKind.i64 2]] h' fun (r : Value) (h' : Heap) =>
                                ∃ (x_5 : Int), r = Value.int IntKind.i64 x_5 ∧ xsIf (decide (x_5 ≠ 7)) (Q (Value.bool false) h') (gabionlaw05_wakes.J7 x x_3 h' Q))))
def gabionlaw05_wakes.J7.wp (d : Option Addr) (b : Option Addr) (h : Heap) (Q : Value → Heap → Prop) : Prop :=
  C Try.prog 8 #[Value.pointer d, Value.int IntKind.i64 1] h fun (r : Value) (h' : Heap) =>
    C Try.prog 10 #[Value.string { data := #[UInt8.ofNat 97, UInt8.ofNat 98, UInt8.ofNat 99] }] h' fun (r : Value) (h' : Heap) =>
      ∃ (x : ByteArray),
        r = Value.string x ∧
          C Try.prog 9 #[Value.pointer b, Value.int IntKind.i64 0, Value.string x] h' fun (r : Value) (h' : Heap) =>
            ∃ (x : Int),
              r = Value.int IntKind.i64 x ∧
                C Try.prog 17 #[Value.pointer b, Value.int IntKind.i64 0] h' fun (r : Value) (h' : Heap) =>
                  ∃ (x_1 : Int),
                    ∃ (x_2 : Int),
                      r = Value.tuple #[Value.int IntKind.i64 x_1, Value.int IntKind.i64 x_2] ∧
                        C Try.prog 11 #[Value.pointer b, Value.int IntKind.i64 0] h' fun (r : Value) (h' : Heap) =>
                          ∃ (x_3 : ByteArray),
                            ∃ (x_4 : Int),
                              r = Value.tuple #[Value.string x_3, Value.int IntKind.i64 x_4] ∧
                                xsIf (decide (x = 0))
                                  (xsIf (decide (x_2 = 0))
                                    (xsIf (decide (x_1 = 5))
                                      (xsIf (decide (x_4 = 0))
                                        (C Try.prog 10 #[Value.string { data := #[UInt8.ofNat 97, UInt8.ofNat 98, UInt8.ofNat 99] }] h' fun (r : Value) (h' : Heap) =>
                                          ∃ (x : ByteArray),
                                            r = Value.string x ∧
                                              xsIf (decide (x_3 = x))
                                                (C Try.prog 18 #[Value.pointer b] h' fun (r : Value) (h' : Heap) =>
                                                  ∃ (x : Int),
                                                    r = Value.int IntKind.i64 x ∧
                                                      xsIf (decide (x = 1)) (C Try.prog 19 #[Value.pointer b] h' fun (r : Value) (h' : Heap) => ∃ (x : Int), r = Value.int IntKind.i64 x ∧ Q (Value.bool (decide (x = 4))) h')
                                                        (Q (Value.bool false) h'))
                                                (Q (Value.bool false) h'))
                                        (Q (Value.bool false) h'))
                                      (Q (Value.bool false) h'))
                                    (Q (Value.bool false) h'))
                                  (Q (Value.bool false) h')
theorem gabionlaw05_wakes.ok {h : Heap} {Q : Value → Heap → Prop} (hk : gabionlaw05_wakes.wp h Q) : C Try.prog 6 #[] h Q :=
  C_of_xs (H := gabionlaw05_wakes.H) (lcuts := gabionlaw05_wakes.lc) (rcuts := gabionlaw05_wakes.rc) (l := []) 2000 mixed Try.func6 rfl (by kernel_rfl) (@cast (gabionlaw05_wakes.wp h Q) _ (by kernel_rfl) hk)
theorem gabionlaw05_wakes.J7.ok {d : Option Addr} {b : Option Addr} {h : Heap} {Q : Value → Heap → Prop} (hk : gabionlaw05_wakes.J7.wp d b h Q) : gabionlaw05_wakes.J7 d b h Q :=
  xs_ok (H := gabionlaw05_wakes.H) (lcuts := gabionlaw05_wakes.lc) (rcuts := []) (fn := Try.f6) mixed Try.func6 2000 _ _ _ (@cast (gabionlaw05_wakes.J7.wp d b h Q) _ (by kernel_rfl) hk)

/-! gabion/gabionlaw05.SpareCount -/
def gabionlaw05_SpareCount.H : Hn := ⟨[], [], [], []⟩
def gabionlaw05_SpareCount.lc : List Cut := [⟨10, [0, 1, 6, 8, 10, 42], []⟩, ⟨17, [6, 8, 10, 59, 60], []⟩]
def gabionlaw05_SpareCount.rc : List Cut := [⟨5, [0, 1, 5, 6], [5]⟩, ⟨8, [0, 1, 6, 8], []⟩, ⟨15, [0, 1, 6, 8, 10, 42], []⟩, ⟨28, [6, 8, 10, 12, 14, 59, 60], []⟩]
def gabionlaw05_SpareCount.J5 (dead : Int) (n : Int) (d : Option Addr) (p_0 : Int) (p_1 : Int) (p_2 : Int) (h : Heap) (Q : Value → Heap → Prop) : Prop :=
  TW Try.prog 3 102 [.code (cAt (bodyOf Try.f3) [1, 1, 1, 1, 0]), .code (cAt (bodyOf Try.f3) [1, 1, 1, 1, 1])] ⟨[(0, .v (.int .u8 dead)), (1, .v (.int .u8 n)), (5, .p 5 0), (6, .v (.pointer d))], [(5, [.int .i64 p_0, .int .i64 p_1, .int .i64 p_2])]⟩ h Q
def gabionlaw05_SpareCount.J8 (dead : Int) (n : Int) (d : Option Addr) (b : Option Addr) (h : Heap) (Q : Value → Heap → Prop) : Prop :=
  TW Try.prog 3 102 [.code (cAt (bodyOf Try.f3) [1, 1, 1, 1, 1, 1, 0]), .code (cAt (bodyOf Try.f3) [1, 1, 1, 1, 1, 1, 1])] ⟨[(0, .v (.int .u8 dead)), (1, .v (.int .u8 n)), (6, .v (.pointer d)), (8, .v (.pointer b))], []⟩ h Q
def gabionlaw05_SpareCount.L10 (dead : Int) (n : Int) (d : Option Addr) (b : Option Addr) (good : Int) (t42 : Int) (h : Heap) (Q : Value → Heap → Prop) : Prop :=
  TW Try.prog 3 102 [.code (cAt (bodyOf Try.f3) [1, 1, 1, 1, 1, 1, 1, 0, 1, 0, 0]), .inLoop (cAt (bodyOf Try.f3) [1, 1, 1, 1, 1, 1, 1, 0, 1, 0, 0]), .inBlock 0, .code (cAt (bodyOf Try.f3) [1, 1, 1, 1, 1, 1, 1, 1])] ⟨[(0, .v (.int .u8 dead)), (1, .v (.int .u8 n)), (6, .v (.pointer d)), (8, .v (.pointer b)), (10, .v (.int .i64 good)), (42, .v (.int .i64 t42))], []⟩ h Q
def gabionlaw05_SpareCount.J15 (dead : Int) (n : Int) (d : Option Addr) (b : Option Addr) (good : Int) (t42 : Int) (h : Heap) (Q : Value → Heap → Prop) : Prop :=
  TW Try.prog 3 102 [.code (cAt (bodyOf Try.f3) [1, 1, 1, 1, 1, 1, 1, 0, 1, 0, 0, 1, 1, 1]), .inLoop (cAt (bodyOf Try.f3) [1, 1, 1, 1, 1, 1, 1, 0, 1, 0, 0]), .inBlock 0, .code (cAt (bodyOf Try.f3) [1, 1, 1, 1, 1, 1, 1, 1])] ⟨[(0, .v (.int .u8 dead)), (1, .v (.int .u8 n)), (6, .v (.pointer d)), (8, .v (.pointer b)), (10, .v (.int .i64 good)), (42, .v (.int .i64 t42))], []⟩ h Q
def gabionlaw05_SpareCount.L17 (d : Option Addr) (b : Option Addr) (good : Int) (t59 : Int) (t60 : Int) (h : Heap) (Q : Value → Heap → Prop) : Prop :=
  TW Try.prog 3 102 [.code (cAt (bodyOf Try.f3) [1, 1, 1, 1, 1, 1, 1, 1, 0, 1, 0, 0]), .inLoop (cAt (bodyOf Try.f3) [1, 1, 1, 1, 1, 1, 1, 1, 0, 1, 0, 0]), .inBlock 2, .code (cAt (bodyOf Try.f3) [1, 1, 1, 1, 1, 1, 1, 1, 1])] ⟨[(6, .v (.pointer d)), (8, .v (.pointer b)), (10, .v (.int .i64 good)), (59, .v (.int .i64 t59)), (60, .v (.int .i64 t60))], []⟩ h Q
def gabionlaw05_SpareCount.J28 (d : Option Addr) (b : Option Addr) (good : Int) (i : Int) (want : ByteArray) (t59 : Int) (t60 : Int) (h : Heap) (Q : Value → Heap → Prop) : Prop :=
  TW Try.prog 3 102 [.code (cAt (bodyOf Try.f3) [1, 1, 1, 1, 1, 1, 1, 1, 0, 1, 0, 0, 1, 1, 0, 0, 1, 1, 1, 1, 1, 0]), .code (cAt (bodyOf Try.f3) [1, 1, 1, 1, 1, 1, 1, 1, 0, 1, 0, 0, 1, 1, 0, 0, 1, 1, 1, 1, 1, 1]), .inBlock 3, .code (cAt (bodyOf Try.f3) [1, 1, 1, 1, 1, 1, 1, 1, 0, 1, 0, 0, 1, 1, 1]), .inLoop (cAt (bodyOf Try.f3) [1, 1, 1, 1, 1, 1, 1, 1, 0, 1, 0, 0]), .inBlock 2, .code (cAt (bodyOf Try.f3) [1, 1, 1, 1, 1, 1, 1, 1, 1])] ⟨[(6, .v (.pointer d)), (8, .v (.pointer b)), (10, .v (.int .i64 good)), (12, .v (.int .i64 i)), (14, .v (.string want)), (59, .v (.int .i64 t59)), (60, .v (.int .i64 t60))], []⟩ h Q
def gabionlaw05_SpareCount.wp (dead : Int) (n : Int) (h : Heap) (Q : Value → Heap → Prop) : Prop :=
  C Try.prog 4 #[Value.int IntKind.i64 15] h fun (r : Value) (h' : Heap) =>
    ∃ (x : Option Addr),
      ∃ (x_1 : Int),
        r = Value.tuple #[Value.pointer x, Value.int IntKind.i64 x_1] ∧
          C Try.prog 5 #[Value.pointer x, Value.agg #[Value.int IntKind.i64 0, Value.int IntKind.i64 8, Value.int IntKind.i64 6]] h' fun (r : Value) (h' : Heap) =>
            ∃ (x_2 : Int),
              r = Value.int IntKind.i64 x_2 ∧
                xsIf (decide (x_2 ≠ 0)) (Q (Value.bool false) h')
                  (C Try.prog 6 #[] h' fun (r : Value) (h' : Heap) => ∃ (x_3 : Bool), r = Value.bool x_3 ∧ xsIf (!x_3) (Q (Value.bool false) h') (gabionlaw05_SpareCount.J5 dead n x 0 8 6 h' Q))
def gabionlaw05_SpareCount.J5.wp (dead : Int) (n : Int) (d : Option Addr) (p_0 : Int) (p_1 : Int) (p_2 : Int) (h : Heap) (Q : Value → Heap → Prop) : Prop :=
  C Try.prog 7 #[Value.pointer d, Value.agg #[Value.int IntKind.i64 p_0, Value.int IntKind.i64 p_1, Value.int IntKind.i64 p_2]] h fun (r : Value) (h' : Heap) =>
    ∃ (x : Option Addr),
      ∃ (x_1 : Int), r = Value.tuple #[Value.pointer x, Value.int IntKind.i64 x_1] ∧ xsIf (decide (x_1 ≠ 0)) (Q (Value.bool false) h') (xsIf x.isNone (Q (Value.bool false) h') (gabionlaw05_SpareCount.J8 dead n d x h' Q))
def gabionlaw05_SpareCount.J8.wp (dead : Int) (n : Int) (d : Option Addr) (b : Option Addr) (h : Heap) (Q : Value → Heap → Prop) : Prop :=
  gabionlaw05_SpareCount.L10 dead n d b 0 0 h Q
def gabionlaw05_SpareCount.L10.wp (dead : Int) (n : Int) (d : Option Addr) (b : Option Addr) (good : Int) (t42 : Int) (h : Heap) (Q : Value → Heap → Prop) : Prop :=
  xsIf (decide (t42 < 6))
    (0 ≤ t42 ∧
      xsIf (decide (iand IntKind.u8 (ishr IntKind.u8 dead t42) 1 = 1))
        (C Try.prog 8 #[Value.pointer d, Value.int IntKind.i64 (IntKind.i64.wrap (9 + t42))] h fun (r : Value) (h' : Heap) => gabionlaw05_SpareCount.J15 dead n d b good t42 h' Q)
        (gabionlaw05_SpareCount.J15 dead n d b (IntKind.i64.wrap (good + 1)) t42 h Q))
    (gabionlaw05_SpareCount.L17 d b good (IntKind.i64.wrap (irem n 9)) 0 h Q)
def gabionlaw05_SpareCount.J15.wp (dead : Int) (n : Int) (d : Option Addr) (b : Option Addr) (good : Int) (t42 : Int) (h : Heap) (Q : Value → Heap → Prop) : Prop :=
  gabionlaw05_SpareCount.L10 dead n d b good (IntKind.i64.wrap (t42 + 1)) h Q
def gabionlaw05_SpareCount.L17.wp (d : Option Addr) (b : Option Addr) (good : Int) (t59 : Int) (t60 : Int) (h : Heap) (Q : Value → Heap → Prop) : Prop :=
  xsIf (decide (t60 < t59))
    (C Try.prog 8 #[Value.pointer d, Value.int IntKind.i64 (IntKind.i64.wrap (1 + t60))] h fun (r : Value) (h' : Heap) =>
      C Try.prog 10 #[Value.string (Utf8.encode (IntKind.i32.wrap (IntKind.i64.wrap (97 + t60))))] h' fun (r : Value) (h' : Heap) =>
        ∃ (x : ByteArray),
          r = Value.string x ∧
            C Try.prog 9 #[Value.pointer b, Value.int IntKind.i64 t60, Value.string x] h' fun (r : Value) (h' : Heap) =>
              ∃ (x : Int),
                r = Value.int IntKind.i64 x ∧
                  C Try.prog 10 #[Value.string (Utf8.encode (IntKind.i32.wrap (IntKind.i64.wrap (97 + t60))))] h' fun (r : Value) (h' : Heap) =>
                    ∃ (x_1 : ByteArray),
                      r = Value.string x_1 ∧
                        xsIf (decide (good ≤ t60))
                          (xsIf (decide (x ≠ 10)) (Q (Value.bool false) h')
                            (C Try.prog 10 #[Value.string { data := #[] }] h' fun (r : Value) (h' : Heap) => ∃ (x : ByteArray), r = Value.string x ∧ gabionlaw05_SpareCount.J28 d b good t60 x t59 t60 h' Q))
                          (xsIf (decide (x ≠ 0)) (Q (Value.bool false) h') (gabionlaw05_SpareCount.J28 d b good t60 x_1 t59 t60 h' Q)))
    (Q (Value.bool true) h)
def gabionlaw05_SpareCount.J28.wp (d : Option Addr) (b : Option Addr) (good : Int) (i : Int) (want : ByteArray) (t59 : Int) (t60 : Int) (h : Heap) (Q : Value → Heap → Prop) : Prop :=
  C Try.prog 11 #[Value.pointer b, Value.int IntKind.i64 i] h fun (r : Value) (h' : Heap) =>
    ∃ (x : ByteArray),
      ∃ (x_1 : Int),
        r = Value.tuple #[Value.string x, Value.int IntKind.i64 x_1] ∧
          xsIf (decide (x_1 ≠ 0)) (Q (Value.bool false) h') (xsIf (decide (x ≠ want)) (Q (Value.bool false) h') (gabionlaw05_SpareCount.L17 d b good t59 (IntKind.i64.wrap (t60 + 1)) h' Q))
theorem gabionlaw05_SpareCount.ok {dead : Int} {n : Int} {h : Heap} {Q : Value → Heap → Prop} (hk : gabionlaw05_SpareCount.wp dead n h Q) : C Try.prog 3 #[.int .u8 dead, .int .u8 n] h Q :=
  C_of_xs (H := gabionlaw05_SpareCount.H) (lcuts := gabionlaw05_SpareCount.lc) (rcuts := gabionlaw05_SpareCount.rc) (l := [.int .u8 dead, .int .u8 n]) 2000 mixed Try.func3 rfl (by kernel_rfl) (@cast (gabionlaw05_SpareCount.wp dead n h Q) _ (by kernel_rfl) hk)
theorem gabionlaw05_SpareCount.J5.ok {dead : Int} {n : Int} {d : Option Addr} {p_0 : Int} {p_1 : Int} {p_2 : Int} {h : Heap} {Q : Value → Heap → Prop} (hk : gabionlaw05_SpareCount.J5.wp dead n d p_0 p_1 p_2 h Q) : gabionlaw05_SpareCount.J5 dead n d p_0 p_1 p_2 h Q :=
  xs_ok (H := gabionlaw05_SpareCount.H) (lcuts := gabionlaw05_SpareCount.lc) (rcuts := [⟨8, [0, 1, 6, 8], []⟩, ⟨15, [0, 1, 6, 8, 10, 42], []⟩, ⟨28, [6, 8, 10, 12, 14, 59, 60], []⟩]) (fn := Try.f3) mixed Try.func3 2000 _ _ _ (@cast (gabionlaw05_SpareCount.J5.wp dead n d p_0 p_1 p_2 h Q) _ (by kernel_rfl) hk)
theorem gabionlaw05_SpareCount.J8.ok {dead : Int} {n : Int} {d : Option Addr} {b : Option Addr} {h : Heap} {Q : Value → Heap → Prop} (hk : gabionlaw05_SpareCount.J8.wp dead n d b h Q) : gabionlaw05_SpareCount.J8 dead n d b h Q :=
  xs_ok (H := gabionlaw05_SpareCount.H) (lcuts := gabionlaw05_SpareCount.lc) (rcuts := [⟨5, [0, 1, 5, 6], [5]⟩, ⟨15, [0, 1, 6, 8, 10, 42], []⟩, ⟨28, [6, 8, 10, 12, 14, 59, 60], []⟩]) (fn := Try.f3) mixed Try.func3 2000 _ _ _ (@cast (gabionlaw05_SpareCount.J8.wp dead n d b h Q) _ (by kernel_rfl) hk)
theorem gabionlaw05_SpareCount.L10.ok {dead : Int} {n : Int} {d : Option Addr} {b : Option Addr} {good : Int} {t42 : Int} {h : Heap} {Q : Value → Heap → Prop} (hk : gabionlaw05_SpareCount.L10.wp dead n d b good t42 h Q) : gabionlaw05_SpareCount.L10 dead n d b good t42 h Q :=
  xs_ok (H := gabionlaw05_SpareCount.H) (lcuts := gabionlaw05_SpareCount.lc) (rcuts := gabionlaw05_SpareCount.rc) (fn := Try.f3) mixed Try.func3 2000 _ _ _ (@cast (gabionlaw05_SpareCount.L10.wp dead n d b good t42 h Q) _ (by kernel_rfl) hk)
theorem gabionlaw05_SpareCount.J15.ok {dead : Int} {n : Int} {d : Option Addr} {b : Option Addr} {good : Int} {t42 : Int} {h : Heap} {Q : Value → Heap → Prop} (hk : gabionlaw05_SpareCount.J15.wp dead n d b good t42 h Q) : gabionlaw05_SpareCount.J15 dead n d b good t42 h Q :=
  xs_ok (H := gabionlaw05_SpareCount.H) (lcuts := gabionlaw05_SpareCount.lc) (rcuts := [⟨5, [0, 1, 5, 6], [5]⟩, ⟨8, [0, 1, 6, 8], []⟩, ⟨28, [6, 8, 10, 12, 14, 59, 60], []⟩]) (fn := Try.f3) mixed Try.func3 2000 _ _ _ (@cast (gabionlaw05_SpareCount.J15.wp dead n d b good t42 h Q) _ (by kernel_rfl) hk)
theorem gabionlaw05_SpareCount.L17.ok {d : Option Addr} {b : Option Addr} {good : Int} {t59 : Int} {t60 : Int} {h : Heap} {Q : Value → Heap → Prop} (hk : gabionlaw05_SpareCount.L17.wp d b good t59 t60 h Q) : gabionlaw05_SpareCount.L17 d b good t59 t60 h Q :=
  xs_ok (H := gabionlaw05_SpareCount.H) (lcuts := gabionlaw05_SpareCount.lc) (rcuts := gabionlaw05_SpareCount.rc) (fn := Try.f3) mixed Try.func3 2000 _ _ _ (@cast (gabionlaw05_SpareCount.L17.wp d b good t59 t60 h Q) _ (by kernel_rfl) hk)
theorem gabionlaw05_SpareCount.J28.ok {d : Option Addr} {b : Option Addr} {good : Int} {i : Int} {want : ByteArray} {t59 : Int} {t60 : Int} {h : Heap} {Q : Value → Heap → Prop} (hk : gabionlaw05_SpareCount.J28.wp d b good i want t59 t60 h Q) : gabionlaw05_SpareCount.J28 d b good i want t59 t60 h Q :=
  xs_ok (H := gabionlaw05_SpareCount.H) (lcuts := gabionlaw05_SpareCount.lc) (rcuts := [⟨5, [0, 1, 5, 6], [5]⟩, ⟨8, [0, 1, 6, 8], []⟩, ⟨15, [0, 1, 6, 8, 10, 42], []⟩]) (fn := Try.f3) mixed Try.func3 2000 _ _ _ (@cast (gabionlaw05_SpareCount.J28.wp d b good i want t59 t60 h Q) _ (by kernel_rfl) hk)
end Go.Gb
