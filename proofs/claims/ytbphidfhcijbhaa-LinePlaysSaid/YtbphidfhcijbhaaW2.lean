/- Own text for the seat: W2. -/
import Derived.Test.YtbphidfhcijbhaaW1
set_option linter.unusedVariables false
set_option linter.unusedSimpArgs false
set_option linter.unnecessarySimpa false
set_option linter.deprecated false
set_option maxRecDepth 100000
namespace Go.Gb
open Go.Proofs

/-! gabion/gabionlaw03.same -/
def gabionlaw03_same.H : Hn := ⟨[], [], [⟨4, .q 0 (.q 1 (.q 3 (.q 4 (.q 2 (.q 5 (.nil)))))), []⟩, ⟨10, .q 0 (.q 1 (.q 3 (.q 4 (.q 5 (.q 7 (.br 2 (.q 6 (.q 8 (.q 9 (.q 10 (.q 11 (.q 12 (.q 13 (.q 15 (.q 16 (.q 17 (.q 19 (.br 14 (.q 18 (.q 20 (.q 21 (.q 22 (.q 23 (.nil)))))) (.one 18 (.q 20 (.br 14 (.q 21 (.q 22 (.q 23 (.nil)))) (.one 21 (.q 14 (.q 22 (.q 23 (.nil)))))))))))))))))))) (.one 6 (.q 8 (.br 2 (.q 9 (.q 10 (.q 11 (.q 12 (.q 13 (.q 15 (.q 16 (.q 17 (.q 19 (.br 14 (.q 18 (.q 20 (.q 21 (.q 22 (.q 23 (.nil)))))) (.one 18 (.q 20 (.br 14 (.q 21 (.q 22 (.q 23 (.nil)))) (.one 21 (.q 14 (.q 22 (.q 23 (.nil)))))))))))))))))) (.one 9 (.q 2 (.q 10 (.q 11 (.q 12 (.q 13 (.q 15 (.q 16 (.q 17 (.q 19 (.br 14 (.q 18 (.q 20 (.q 21 (.q 22 (.q 23 (.nil)))))) (.one 18 (.q 20 (.br 14 (.q 21 (.q 22 (.q 23 (.nil)))) (.one 21 (.q 14 (.q 22 (.q 23 (.nil)))))))))))))))))))))))))))), []⟩, ⟨14, .q 0 (.q 1 (.q 2 (.q 3 (.q 4 (.q 5 (.q 6 (.q 8 (.q 9 (.q 10 (.br 7 (.q 11 (.q 12 (.q 13 (.q 14 (.q 15 (.q 17 (.q 18 (.q 19 (.br 16 (.q 20 (.q 21 (.q 22 (.q 23 (.q 24 (.q 26 (.q 27 (.q 28 (.br 25 (.q 29 (.q 30 (.q 31 (.q 32 (.nil))))) (.one 29 (.q 30 (.q 25 (.q 31 (.q 32 (.nil))))))))))))))) (.one 20 (.q 16 (.q 21 (.q 22 (.q 23 (.q 24 (.q 26 (.q 27 (.q 28 (.br 25 (.q 29 (.q 30 (.q 31 (.q 32 (.nil))))) (.one 29 (.q 30 (.q 25 (.q 31 (.q 32 (.nil))))))))))))))))))))))))) (.one 11 (.q 7 (.q 12 (.q 13 (.q 14 (.q 15 (.q 17 (.q 18 (.q 19 (.br 16 (.q 20 (.q 21 (.q 22 (.q 23 (.q 24 (.q 26 (.q 27 (.q 28 (.br 25 (.q 29 (.q 30 (.q 31 (.q 32 (.nil))))) (.one 29 (.q 30 (.q 25 (.q 31 (.q 32 (.nil))))))))))))))) (.one 20 (.q 16 (.q 21 (.q 22 (.q 23 (.q 24 (.q 26 (.q 27 (.q 28 (.br 25 (.q 29 (.q 30 (.q 31 (.q 32 (.nil))))) (.one 29 (.q 30 (.q 25 (.q 31 (.q 32 (.nil)))))))))))))))))))))))))))))))))))), []⟩, ⟨19, .q 0 (.q 1 (.q 2 (.q 4 (.q 5 (.q 6 (.ld 3 256 (.q 7 (.q 8 (.nil))))))))), []⟩], []⟩
def gabionlaw03_same.lc : List Cut := [⟨2, [0, 1, 14, 15, 16], []⟩, ⟨8, [0, 1, 32, 33], []⟩, ⟨17, [8, 9, 99, 100], []⟩]
def gabionlaw03_same.rc : List Cut := [⟨16, [8, 9], []⟩]
def gabionlaw03_same.L2 (d : Option Addr) (m : Option Addr) (t14 : Option Addr) (t14_n : Nat) (t14_c : Nat) (t15 : Int) (t16 : Int) (h : Heap) (Q : Value → Heap → Prop) : Prop :=
  TW Try.prog 24 113 [.code (cAt (bodyOf Try.f24) [1, 0, 1, 0, 0]), .inLoop (cAt (bodyOf Try.f24) [1, 0, 1, 0, 0]), .inBlock 0, .code (cAt (bodyOf Try.f24) [1, 1])] ⟨[(0, .v (.pointer d)), (1, .v (.pointer m)), (14, .v (.slice t14 t14_n t14_c)), (15, .v (.int .i64 t15)), (16, .v (.int .i64 t16))], []⟩ h Q
def gabionlaw03_same.L8 (d : Option Addr) (m : Option Addr) (t32 : Int) (t33 : Int) (h : Heap) (Q : Value → Heap → Prop) : Prop :=
  TW Try.prog 24 113 [.code (cAt (bodyOf Try.f24) [1, 1, 0, 1, 0, 0]), .inLoop (cAt (bodyOf Try.f24) [1, 1, 0, 1, 0, 0]), .inBlock 2, .code (cAt (bodyOf Try.f24) [1, 1, 1])] ⟨[(0, .v (.pointer d)), (1, .v (.pointer m)), (32, .v (.int .i64 t32)), (33, .v (.int .i64 t33))], []⟩ h Q
def gabionlaw03_same.J16 (l : Option Addr) (l_n : Nat) (l_c : Nat) (want : Option Addr) (want_n : Nat) (want_c : Nat) (h : Heap) (Q : Value → Heap → Prop) : Prop :=
  TW Try.prog 24 113 [.code (cAt (bodyOf Try.f24) [1, 1, 1, 1, 1, 0, 0]), .code (cAt (bodyOf Try.f24) [1, 1, 1, 1, 1, 0, 1]), .code (cAt (bodyOf Try.f24) [1, 1, 1, 1, 1, 1])] ⟨[(8, .v (.slice l l_n l_c)), (9, .v (.slice want want_n want_c))], []⟩ h Q
def gabionlaw03_same.L17 (l : Option Addr) (l_n : Nat) (l_c : Nat) (want : Option Addr) (want_n : Nat) (want_c : Nat) (t99 : Int) (t100 : Int) (h : Heap) (Q : Value → Heap → Prop) : Prop :=
  TW Try.prog 24 113 [.code (cAt (bodyOf Try.f24) [1, 1, 1, 1, 1, 0, 1, 0, 0]), .inLoop (cAt (bodyOf Try.f24) [1, 1, 1, 1, 1, 0, 1, 0, 0]), .inBlock 4, .code (cAt (bodyOf Try.f24) [1, 1, 1, 1, 1, 1])] ⟨[(8, .v (.slice l l_n l_c)), (9, .v (.slice want want_n want_c)), (99, .v (.int .i64 t99)), (100, .v (.int .i64 t100))], []⟩ h Q
def gabionlaw03_same.wp (d : Option Addr) (m : Option Addr) (h : Heap) (Q : Value → Heap → Prop) : Prop :=
  atBase m fun (b o : Nat) => ∃ (x : Option Addr), ∃ (n : Nat), ∃ (m_1 : Nat), h.cell b (o + 0) = some (Value.slice x n m_1) ∧ gabionlaw03_same.L2 d m x n m_1 (↑n : Int) 0 h Q
def gabionlaw03_same.L2.wp (d : Option Addr) (m : Option Addr) (t14 : Option Addr) (t14_n : Nat) (t14_c : Nat) (t15 : Int) (t16 : Int) (h : Heap) (Q : Value → Heap → Prop) : Prop :=
  xsIf (decide (t16 < t15))
    ((0 ≤ t16 ∧ t16 < (↑t14_n : Int)) ∧
      atBase t14 fun (b o : Nat) =>
        ∃ (x : Int),
          h.cell b (o + t16.toNat * 4) = some (Value.int IntKind.u64 x) ∧
            ∃ (x_1 : Bool),
              h.cell b (o + t16.toNat * 4 + 1) = some (Value.bool x_1) ∧
                ∃ (x_2 : Int),
                  h.cell b (o + t16.toNat * 4 + 1 + 1) = some (Value.int IntKind.u64 x_2) ∧
                    ∃ (x_3 : Bool),
                      h.cell b (o + t16.toNat * 4 + 1 + 1 + 1) = some (Value.bool x_3) ∧
                        C Try.prog 20 #[Value.pointer d, Value.int IntKind.i64 t16] h fun (r : Value) (h' : Heap) =>
                          ∃ (x_4 : Int), r = Value.int IntKind.u64 x_4 ∧ xsIf (decide (x_4 ≠ x)) (Q (Value.bool false) h') (gabionlaw03_same.L2 d m t14 t14_n t14_c t15 (IntKind.i64.wrap (t16 + 1)) h' Q))
    (atBase m fun (b o : Nat) => ∃ (x : Option Addr), ∃ (n : Nat), ∃ (m_1 : Nat), h.cell b (o + 1) = some (Value.slice x n m_1) ∧ gabionlaw03_same.L8 d m (↑n : Int) 0 h Q)
def gabionlaw03_same.L8.wp (d : Option Addr) (m : Option Addr) (t32 : Int) (t33 : Int) (h : Heap) (Q : Value → Heap → Prop) : Prop :=
  xsIf (decide (t33 < t32))
    (atBase m fun (b o : Nat) =>
      (C Try.prog 21 #[Value.pointer d, Value.int IntKind.i64 t33] h fun (r : Value) (h' : Heap) =>
          ∃ (x : Int),
            r = Value.int IntKind.i64 x ∧
              ∃ (x_1 : Option Addr),
                ∃ (n : Nat),
                  ∃ (m_1 : Nat),
                    h'.cell b (o + 1) = some (Value.slice x_1 n m_1) ∧
                      (0 ≤ t33 ∧ t33 < (↑n : Int)) ∧
                        atBase x_1 fun (b o : Nat) =>
                          ∃ (x_2 : Int),
                            h'.cell b (o + t33.toNat * 1) = some (Value.int IntKind.i64 x_2) ∧
                              xsIf (decide (x ≠ x_2)) (Q (Value.bool false) h' ∧ Q (Value.bool false) h' ∧ Q (Value.bool false) h')
                                (atBase m fun (b o : Nat) =>
                                  (C Try.prog 29 #[Value.pointer d, Value.int IntKind.i64 t33] h' fun (r : Value) (h' : Heap) =>
                                      ∃ (x : Bool),
                                        r = Value.bool x ∧
                                          ∃ (x_3 : Option Addr),
                                            ∃ (n : Nat),
                                              ∃ (m_2 : Nat),
                                                h'.cell b (o + 2) = some (Value.slice x_3 n m_2) ∧
                                                  (0 ≤ t33 ∧ t33 < (↑n : Int)) ∧
                                                    atBase x_3 fun (b o : Nat) =>
                                                      ∃ (x_4 : Bool), h'.cell b (o + t33.toNat * 1) = some (Value.bool x_4) ∧ xsIf (!x == x_4) (Q (Value.bool false) h') (gabionlaw03_same.L8 d m t32 (IntKind.i64.wrap (t33 + 1)) h' Q)) ∧
                                    ∃ (x : Option Addr),
                                      ∃ (n : Nat),
                                        ∃ (m_2 : Nat),
                                          h'.cell b (o + 2) = some (Value.slice x n m_2) ∧
                                            (0 ≤ t33 ∧ t33 < (↑n : Int)) ∧
                                              atBase x fun (b o : Nat) =>
                                                (C Try.prog 29 #[Value.pointer d, Value.int IntKind.i64 t33] h' fun (r : Value) (h' : Heap) =>
                                                    ∃ (x : Bool),
                                                      r = Value.bool x ∧
                                                        ∃ (x_3 : Bool), h'.cell b (o + t33.toNat * 1) = some (Value.bool x_3) ∧ xsIf (!x == x_3) (Q (Value.bool false) h') (gabionlaw03_same.L8 d m t32 (IntKind.i64.wrap (t33 + 1)) h' Q)) ∧
                                                  ∃ (x : Bool),
                                                    h'.cell b (o + t33.toNat * 1) = some (Value.bool x) ∧
                                                      C Try.prog 29 #[Value.pointer d, Value.int IntKind.i64 t33] h' fun (r : Value) (h' : Heap) =>
                                                        ∃ (x_3 : Bool), r = Value.bool x_3 ∧ xsIf (!x_3 == x) (Q (Value.bool false) h') (gabionlaw03_same.L8 d m t32 (IntKind.i64.wrap (t33 + 1)) h' Q))) ∧
        ∃ (x : Option Addr),
          ∃ (n : Nat),
            ∃ (m_1 : Nat),
              h.cell b (o + 1) = some (Value.slice x n m_1) ∧
                (0 ≤ t33 ∧ t33 < (↑n : Int)) ∧
                  atBase x fun (b o : Nat) =>
                    (C Try.prog 21 #[Value.pointer d, Value.int IntKind.i64 t33] h fun (r : Value) (h' : Heap) =>
                        ∃ (x : Int),
                          r = Value.int IntKind.i64 x ∧
                            ∃ (x_1 : Int),
                              h'.cell b (o + t33.toNat * 1) = some (Value.int IntKind.i64 x_1) ∧
                                xsIf (decide (x ≠ x_1)) (Q (Value.bool false) h' ∧ Q (Value.bool false) h' ∧ Q (Value.bool false) h')
                                  (atBase m fun (b o : Nat) =>
                                    (C Try.prog 29 #[Value.pointer d, Value.int IntKind.i64 t33] h' fun (r : Value) (h' : Heap) =>
                                        ∃ (x : Bool),
                                          r = Value.bool x ∧
                                            ∃ (x_2 : Option Addr),
                                              ∃ (n : Nat),
                                                ∃ (m_2 : Nat),
                                                  h'.cell b (o + 2) = some (Value.slice x_2 n m_2) ∧
                                                    (0 ≤ t33 ∧ t33 < (↑n : Int)) ∧
                                                      atBase x_2 fun (b o : Nat) =>
                                                        ∃ (x_3 : Bool), h'.cell b (o + t33.toNat * 1) = some (Value.bool x_3) ∧ xsIf (!x == x_3) (Q (Value.bool false) h') (gabionlaw03_same.L8 d m t32 (IntKind.i64.wrap (t33 + 1)) h' Q)) ∧
                                      ∃ (x : Option Addr),
                                        ∃ (n : Nat),
                                          ∃ (m_2 : Nat),
                                            h'.cell b (o + 2) = some (Value.slice x n m_2) ∧
                                              (0 ≤ t33 ∧ t33 < (↑n : Int)) ∧
                                                atBase x fun (b o : Nat) =>
                                                  (C Try.prog 29 #[Value.pointer d, Value.int IntKind.i64 t33] h' fun (r : Value) (h' : Heap) =>
                                                      ∃ (x : Bool),
                                                        r = Value.bool x ∧
                                                          ∃ (x_2 : Bool), h'.cell b (o + t33.toNat * 1) = some (Value.bool x_2) ∧ xsIf (!x == x_2) (Q (Value.bool false) h') (gabionlaw03_same.L8 d m t32 (IntKind.i64.wrap (t33 + 1)) h' Q)) ∧
                                                    ∃ (x : Bool),
                                                      h'.cell b (o + t33.toNat * 1) = some (Value.bool x) ∧
                                                        C Try.prog 29 #[Value.pointer d, Value.int IntKind.i64 t33] h' fun (r : Value) (h' : Heap) =>
                                                          ∃ (x_2 : Bool), r = Value.bool x_2 ∧ xsIf (!x_2 == x) (Q (Value.bool false) h') (gabionlaw03_same.L8 d m t32 (IntKind.i64.wrap (t33 + 1)) h' Q))) ∧
                      ∃ (x : Int),
                        h.cell b (o + t33.toNat * 1) = some (Value.int IntKind.i64 x) ∧
                          C Try.prog 21 #[Value.pointer d, Value.int IntKind.i64 t33] h fun (r : Value) (h' : Heap) =>
                            ∃ (x_1 : Int),
                              r = Value.int IntKind.i64 x_1 ∧
                                xsIf (decide (x_1 ≠ x)) (Q (Value.bool false) h' ∧ Q (Value.bool false) h' ∧ Q (Value.bool false) h')
                                  (atBase m fun (b o : Nat) =>
                                    (C Try.prog 29 #[Value.pointer d, Value.int IntKind.i64 t33] h' fun (r : Value) (h' : Heap) =>
                                        ∃ (x : Bool),
                                          r = Value.bool x ∧
                                            ∃ (x_2 : Option Addr),
                                              ∃ (n : Nat),
                                                ∃ (m_2 : Nat),
                                                  h'.cell b (o + 2) = some (Value.slice x_2 n m_2) ∧
                                                    (0 ≤ t33 ∧ t33 < (↑n : Int)) ∧
                                                      atBase x_2 fun (b o : Nat) =>
                                                        ∃ (x_3 : Bool), h'.cell b (o + t33.toNat * 1) = some (Value.bool x_3) ∧ xsIf (!x == x_3) (Q (Value.bool false) h') (gabionlaw03_same.L8 d m t32 (IntKind.i64.wrap (t33 + 1)) h' Q)) ∧
                                      ∃ (x : Option Addr),
                                        ∃ (n : Nat),
                                          ∃ (m_2 : Nat),
                                            h'.cell b (o + 2) = some (Value.slice x n m_2) ∧
                                              (0 ≤ t33 ∧ t33 < (↑n : Int)) ∧
                                                atBase x fun (b o : Nat) =>
                                                  (C Try.prog 29 #[Value.pointer d, Value.int IntKind.i64 t33] h' fun (r : Value) (h' : Heap) =>
                                                      ∃ (x : Bool),
                                                        r = Value.bool x ∧
                                                          ∃ (x_2 : Bool), h'.cell b (o + t33.toNat * 1) = some (Value.bool x_2) ∧ xsIf (!x == x_2) (Q (Value.bool false) h') (gabionlaw03_same.L8 d m t32 (IntKind.i64.wrap (t33 + 1)) h' Q)) ∧
                                                    ∃ (x : Bool),
                                                      h'.cell b (o + t33.toNat * 1) = some (Value.bool x) ∧
                                                        C Try.prog 29 #[Value.pointer d, Value.int IntKind.i64 t33] h' fun (r : Value) (h' : Heap) =>
                                                          ∃ (x_2 : Bool), r = Value.bool x_2 ∧ xsIf (!x_2 == x) (Q (Value.bool false) h') (gabionlaw03_same.L8 d m t32 (IntKind.i64.wrap (t33 + 1)) h' Q)))
    (C Try.prog 17 #[Value.pointer d] h fun (r : Value) (h' : Heap) =>
      ∃ (x : Option Addr),
        ∃ (n : Nat),
          ∃ (m_1 : Nat),
            r = Value.slice x n m_1 ∧
              C Try.prog 60 #[Value.pointer m] h' fun (r : Value) (h' : Heap) =>
                ∃ (x_1 : Option Addr),
                  ∃ (n_1 : Nat),
                    ∃ (m_2 : Nat),
                      r = Value.slice x_1 n_1 m_2 ∧
                        xsIf (decide ((↑n : Int) ≠ (↑n_1 : Int)))
                          (((Q (Value.bool false) h' ∧ Q (Value.bool false) h') ∧ Q (Value.bool false) h' ∧ Q (Value.bool false) h') ∧ (Q (Value.bool false) h' ∧ Q (Value.bool false) h') ∧ Q (Value.bool false) h' ∧ Q (Value.bool false) h')
                          (atBase m fun (b o : Nat) =>
                            (C Try.prog 28 #[Value.pointer d] h' fun (r : Value) (h' : Heap) =>
                                ∃ (x_2 : Bool),
                                  r = Value.bool x_2 ∧
                                    ∃ (x_3 : Bool),
                                      h'.cell b (o + 4) = some (Value.bool x_3) ∧
                                        xsIf (!x_2 == x_3) ((Q (Value.bool false) h' ∧ Q (Value.bool false) h') ∧ Q (Value.bool false) h' ∧ Q (Value.bool false) h')
                                          (atBase m fun (b o : Nat) =>
                                            (C Try.prog 27 #[Value.pointer d] h' fun (r : Value) (h' : Heap) =>
                                                ∃ (x_4 : Int),
                                                  r = Value.int IntKind.i64 x_4 ∧
                                                    ∃ (x_5 : Int),
                                                      h'.cell b (o + 5) = some (Value.int IntKind.i64 x_5) ∧
                                                        xsIf (decide (x_4 ≠ x_5)) (Q (Value.bool false) h' ∧ Q (Value.bool false) h')
                                                          (atBase m fun (b o : Nat) =>
                                                            (C Try.prog 43 #[Value.pointer d] h' fun (r : Value) (h' : Heap) =>
                                                                ∃ (x_6 : Int),
                                                                  r = Value.int IntKind.i64 x_6 ∧
                                                                    ∃ (x_7 : Option Addr),
                                                                      ∃ (n_2 : Nat),
                                                                        ∃ (m : Nat),
                                                                          h'.cell b (o + 1) = some (Value.slice x_7 n_2 m) ∧ xsIf (decide (x_6 ≠ (↑n_2 : Int))) (Q (Value.bool false) h') (gabionlaw03_same.J16 x n m_1 x_1 n_1 m_2 h' Q)) ∧
                                                              ∃ (x_6 : Option Addr),
                                                                ∃ (n_2 : Nat),
                                                                  ∃ (m : Nat),
                                                                    h'.cell b (o + 1) = some (Value.slice x_6 n_2 m) ∧
                                                                      C Try.prog 43 #[Value.pointer d] h' fun (r : Value) (h' : Heap) =>
                                                                        ∃ (x_7 : Int), r = Value.int IntKind.i64 x_7 ∧ xsIf (decide (x_7 ≠ (↑n_2 : Int))) (Q (Value.bool false) h') (gabionlaw03_same.J16 x n m_1 x_1 n_1 m_2 h' Q))) ∧
                                              ∃ (x_4 : Int),
                                                h'.cell b (o + 5) = some (Value.int IntKind.i64 x_4) ∧
                                                  C Try.prog 27 #[Value.pointer d] h' fun (r : Value) (h' : Heap) =>
                                                    ∃ (x_5 : Int),
                                                      r = Value.int IntKind.i64 x_5 ∧
                                                        xsIf (decide (x_5 ≠ x_4)) (Q (Value.bool false) h' ∧ Q (Value.bool false) h')
                                                          (atBase m fun (b o : Nat) =>
                                                            (C Try.prog 43 #[Value.pointer d] h' fun (r : Value) (h' : Heap) =>
                                                                ∃ (x_6 : Int),
                                                                  r = Value.int IntKind.i64 x_6 ∧
                                                                    ∃ (x_7 : Option Addr),
                                                                      ∃ (n_2 : Nat),
                                                                        ∃ (m : Nat),
                                                                          h'.cell b (o + 1) = some (Value.slice x_7 n_2 m) ∧ xsIf (decide (x_6 ≠ (↑n_2 : Int))) (Q (Value.bool false) h') (gabionlaw03_same.J16 x n m_1 x_1 n_1 m_2 h' Q)) ∧
                                                              ∃ (x_6 : Option Addr),
                                                                ∃ (n_2 : Nat),
                                                                  ∃ (m : Nat),
                                                                    h'.cell b (o + 1) = some (Value.slice x_6 n_2 m) ∧
                                                                      C Try.prog 43 #[Value.pointer d] h' fun (r : Value) (h' : Heap) =>
                                                                        ∃ (x_7 : Int), r = Value.int IntKind.i64 x_7 ∧ xsIf (decide (x_7 ≠ (↑n_2 : Int))) (Q (Value.bool false) h') (gabionlaw03_same.J16 x n m_1 x_1 n_1 m_2 h' Q)))) ∧
                              ∃ (x_2 : Bool),
                                h'.cell b (o + 4) = some (Value.bool x_2) ∧
                                  C Try.prog 28 #[Value.pointer d] h' fun (r : Value) (h' : Heap) =>
                                    ∃ (x_3 : Bool),
                                      r = Value.bool x_3 ∧
                                        xsIf (!x_3 == x_2) ((Q (Value.bool false) h' ∧ Q (Value.bool false) h') ∧ Q (Value.bool false) h' ∧ Q (Value.bool false) h')
                                          (atBase m fun (b o : Nat) =>
                                            (C Try.prog 27 #[Value.pointer d] h' fun (r : Value) (h' : Heap) =>
                                                ∃ (x_4 : Int),
                                                  r = Value.int IntKind.i64 x_4 ∧
                                                    ∃ (x_5 : Int),
                                                      h'.cell b (o + 5) = some (Value.int IntKind.i64 x_5) ∧
                                                        xsIf (decide (x_4 ≠ x_5)) (Q (Value.bool false) h' ∧ Q (Value.bool false) h')
                                                          (atBase m fun (b o : Nat) =>
                                                            (C Try.prog 43 #[Value.pointer d] h' fun (r : Value) (h' : Heap) =>
                                                                ∃ (x_6 : Int),
                                                                  r = Value.int IntKind.i64 x_6 ∧
                                                                    ∃ (x_7 : Option Addr),
                                                                      ∃ (n_2 : Nat),
                                                                        ∃ (m : Nat),
                                                                          h'.cell b (o + 1) = some (Value.slice x_7 n_2 m) ∧ xsIf (decide (x_6 ≠ (↑n_2 : Int))) (Q (Value.bool false) h') (gabionlaw03_same.J16 x n m_1 x_1 n_1 m_2 h' Q)) ∧
                                                              ∃ (x_6 : Option Addr),
                                                                ∃ (n_2 : Nat),
                                                                  ∃ (m : Nat),
                                                                    h'.cell b (o + 1) = some (Value.slice x_6 n_2 m) ∧
                                                                      C Try.prog 43 #[Value.pointer d] h' fun (r : Value) (h' : Heap) =>
                                                                        ∃ (x_7 : Int), r = Value.int IntKind.i64 x_7 ∧ xsIf (decide (x_7 ≠ (↑n_2 : Int))) (Q (Value.bool false) h') (gabionlaw03_same.J16 x n m_1 x_1 n_1 m_2 h' Q))) ∧
                                              ∃ (x_4 : Int),
                                                h'.cell b (o + 5) = some (Value.int IntKind.i64 x_4) ∧
                                                  C Try.prog 27 #[Value.pointer d] h' fun (r : Value) (h' : Heap) =>
                                                    ∃ (x_5 : Int),
                                                      r = Value.int IntKind.i64 x_5 ∧
                                                        xsIf (decide (x_5 ≠ x_4)) (Q (Value.bool false) h' ∧ Q (Value.bool false) h')
                                                          (atBase m fun (b o : Nat) =>
                                                            (C Try.prog 43 #[Value.pointer d] h' fun (r : Value) (h' : Heap) =>
                                                                ∃ (x_6 : Int),
                                                                  r = Value.int IntKind.i64 x_6 ∧
                                                                    ∃ (x_7 : Option Addr),
                                                                      ∃ (n_2 : Nat),
                                                                        ∃ (m : Nat),
                                                                          h'.cell b (o + 1) = some (Value.slice x_7 n_2 m) ∧ xsIf (decide (x_6 ≠ (↑n_2 : Int))) (Q (Value.bool false) h') (gabionlaw03_same.J16 x n m_1 x_1 n_1 m_2 h' Q)) ∧
                                                              ∃ (x_6 : Option Addr),
                                                                ∃ (n_2 : Nat),
                                                                  ∃ (m : Nat),
                                                                    h'.cell b (o + 1) = some (Value.slice x_6 n_2 m) ∧
                                                                      C Try.prog 43 #[Value.pointer d] h' fun (r : Value) (h' : Heap) =>
                                                                        ∃ (x_7 : Int), r = Value.int IntKind.i64 x_7 ∧ xsIf (decide (x_7 ≠ (↑n_2 : Int))) (Q (Value.bool false) h') (gabionlaw03_same.J16 x n m_1 x_1 n_1 m_2 h' Q)))))
def gabionlaw03_same.J16.wp (l : Option Addr) (l_n : Nat) (l_c : Nat) (want : Option Addr) (want_n : Nat) (want_c : Nat) (h : Heap) (Q : Value → Heap → Prop) : Prop :=
  gabionlaw03_same.L17 l l_n l_c want want_n want_c (↑l_n : Int) 0 h Q
def gabionlaw03_same.L17.wp (l : Option Addr) (l_n : Nat) (l_c : Nat) (want : Option Addr) (want_n : Nat) (want_c : Nat) (t99 : Int) (t100 : Int) (h : Heap) (Q : Value → Heap → Prop) : Prop :=
  xsIf (decide (t100 < t99))
    ((0 ≤ t100 ∧ t100 < (↑l_n : Int)) ∧
      atBase l fun (b o : Nat) =>
        (0 ≤ t100 ∧ t100 < (↑want_n : Int)) ∧
          atBase want fun (b_1 o_1 : Nat) =>
            ∃ (x : Int),
              h.cell b (o + t100.toNat * 1) = some (Value.int IntKind.i64 x) ∧
                ∃ (x_1 : Int), h.cell b_1 (o_1 + t100.toNat * 1) = some (Value.int IntKind.i64 x_1) ∧ xsIf (decide (x ≠ x_1)) (Q (Value.bool false) h) (gabionlaw03_same.L17 l l_n l_c want want_n want_c t99 (IntKind.i64.wrap (t100 + 1)) h Q))
    (Q (Value.bool true) h)
theorem gabionlaw03_same.ok {d : Option Addr} {m : Option Addr} {h : Heap} {Q : Value → Heap → Prop} (hk : gabionlaw03_same.wp d m h Q) : C Try.prog 24 #[.pointer d, .pointer m] h Q :=
  C_of_xs (H := gabionlaw03_same.H) (lcuts := gabionlaw03_same.lc) (rcuts := gabionlaw03_same.rc) (l := [.pointer d, .pointer m]) 2000 mixed Try.func24 rfl (by kernel_rfl) (Eq.mp (by kernel_rfl) hk)
theorem gabionlaw03_same.L2.ok {d : Option Addr} {m : Option Addr} {t14 : Option Addr} {t14_n : Nat} {t14_c : Nat} {t15 : Int} {t16 : Int} {h : Heap} {Q : Value → Heap → Prop} (hk : gabionlaw03_same.L2.wp d m t14 t14_n t14_c t15 t16 h Q) : gabionlaw03_same.L2 d m t14 t14_n t14_c t15 t16 h Q :=
  xs_ok (H := gabionlaw03_same.H) (lcuts := gabionlaw03_same.lc) (rcuts := gabionlaw03_same.rc) (fn := Try.f24) mixed Try.func24 2000 _ _ _ (Eq.mp (by kernel_rfl) hk)
theorem gabionlaw03_same.L8.ok {d : Option Addr} {m : Option Addr} {t32 : Int} {t33 : Int} {h : Heap} {Q : Value → Heap → Prop} (hk : gabionlaw03_same.L8.wp d m t32 t33 h Q) : gabionlaw03_same.L8 d m t32 t33 h Q :=
  xs_ok (H := gabionlaw03_same.H) (lcuts := gabionlaw03_same.lc) (rcuts := gabionlaw03_same.rc) (fn := Try.f24) mixed Try.func24 2000 _ _ _ (Eq.mp (by kernel_rfl) hk)
theorem gabionlaw03_same.J16.ok {l : Option Addr} {l_n : Nat} {l_c : Nat} {want : Option Addr} {want_n : Nat} {want_c : Nat} {h : Heap} {Q : Value → Heap → Prop} (hk : gabionlaw03_same.J16.wp l l_n l_c want want_n want_c h Q) : gabionlaw03_same.J16 l l_n l_c want want_n want_c h Q :=
  xs_ok (H := gabionlaw03_same.H) (lcuts := gabionlaw03_same.lc) (rcuts := []) (fn := Try.f24) mixed Try.func24 2000 _ _ _ (Eq.mp (by kernel_rfl) hk)
theorem gabionlaw03_same.L17.ok {l : Option Addr} {l_n : Nat} {l_c : Nat} {want : Option Addr} {want_n : Nat} {want_c : Nat} {t99 : Int} {t100 : Int} {h : Heap} {Q : Value → Heap → Prop} (hk : gabionlaw03_same.L17.wp l l_n l_c want want_n want_c t99 t100 h Q) : gabionlaw03_same.L17 l l_n l_c want want_n want_c t99 t100 h Q :=
  xs_ok (H := gabionlaw03_same.H) (lcuts := gabionlaw03_same.lc) (rcuts := gabionlaw03_same.rc) (fn := Try.f24) mixed Try.func24 2000 _ _ _ (Eq.mp (by kernel_rfl) hk)

/-! gabion/gabionlaw03.PmPlays -/
def gabionlaw03_PmPlays.H : Hn := ⟨[], [], [], []⟩
def gabionlaw03_PmPlays.lc : List Cut := [⟨7, [5, 7, 35, 36, 37], []⟩]
def gabionlaw03_PmPlays.rc : List Cut := [⟨6, [1, 5, 7], []⟩]
def gabionlaw03_PmPlays.J6 (acts : Option Addr) (acts_n : Nat) (acts_c : Nat) (d : Option Addr) (m : Option Addr) (h : Heap) (Q : Value → Heap → Prop) : Prop :=
  TW Try.prog 5 53 [.code (cAt (bodyOf Try.f5) [1, 1, 1, 1, 1, 0, 0]), .code (cAt (bodyOf Try.f5) [1, 1, 1, 1, 1, 0, 1]), .code (cAt (bodyOf Try.f5) [1, 1, 1, 1, 1, 1])] ⟨[(1, .v (.slice acts acts_n acts_c)), (5, .v (.pointer d)), (7, .v (.pointer m))], []⟩ h Q
def gabionlaw03_PmPlays.L7 (d : Option Addr) (m : Option Addr) (t35 : Option Addr) (t35_n : Nat) (t35_c : Nat) (t36 : Int) (t37 : Int) (h : Heap) (Q : Value → Heap → Prop) : Prop :=
  TW Try.prog 5 53 [.code (cAt (bodyOf Try.f5) [1, 1, 1, 1, 1, 0, 1, 0, 0]), .inLoop (cAt (bodyOf Try.f5) [1, 1, 1, 1, 1, 0, 1, 0, 0]), .inBlock 0, .code (cAt (bodyOf Try.f5) [1, 1, 1, 1, 1, 1])] ⟨[(5, .v (.pointer d)), (7, .v (.pointer m)), (35, .v (.slice t35 t35_n t35_c)), (36, .v (.int .i64 t36)), (37, .v (.int .i64 t37))], []⟩ h Q
def gabionlaw03_PmPlays.wp (lines : Int) (acts : Option Addr) (acts_n : Nat) (acts_c : Nat) (h : Heap) (Q : Value → Heap → Prop) : Prop :=
  C Try.prog 12 #[Value.int IntKind.i64 (IntKind.i64.wrap (1 + irem (imax 0 lines) 4))] h fun (r : Value) (h' : Heap) =>
    ∃ (x : Option Addr),
      ∃ (x_1 : Int),
        r = Value.tuple #[Value.pointer x, Value.int IntKind.i64 x_1] ∧
          C Try.prog 22 #[Value.int IntKind.i64 (IntKind.i64.wrap (1 + irem (imax 0 lines) 4))] h' fun (r : Value) (h' : Heap) =>
            ∃ (x_2 : Option Addr),
              r = Value.pointer x_2 ∧
                C Try.prog 13 #[] h' fun (r : Value) (h' : Heap) =>
                  ∃ (x_3 : Bool), r = Value.bool x_3 ∧ xsIf (!x_3) (Q (Value.bool false) h') (xsIf (decide (x_1 ≠ 0)) (Q (Value.bool false) h') (xsIf x.isNone (Q (Value.bool false) h') (gabionlaw03_PmPlays.J6 acts acts_n acts_c x x_2 h' Q)))
def gabionlaw03_PmPlays.J6.wp (acts : Option Addr) (acts_n : Nat) (acts_c : Nat) (d : Option Addr) (m : Option Addr) (h : Heap) (Q : Value → Heap → Prop) : Prop :=
  (0 ≤ imin (↑acts_n : Int) 80 ∧ imin (↑acts_n : Int) 80 ≤ (↑acts_c : Int)) ∧
    gabionlaw03_PmPlays.L7 d m (slBase acts (↑acts_c : Int) 0 4) (imin (↑acts_n : Int) 80 - 0).toNat ((↑acts_c : Int) - 0).toNat (↑(imin (↑acts_n : Int) 80 - 0).toNat : Int) 0 h Q
def gabionlaw03_PmPlays.L7.wp (d : Option Addr) (m : Option Addr) (t35 : Option Addr) (t35_n : Nat) (t35_c : Nat) (t36 : Int) (t37 : Int) (h : Heap) (Q : Value → Heap → Prop) : Prop :=
  xsIf (decide (t37 < t36))
    ((0 ≤ t37 ∧ t37 < (↑t35_n : Int)) ∧
      atBase t35 fun (b o : Nat) =>
        ∃ (x : Int),
          h.cell b (o + t37.toNat * 4) = some (Value.int IntKind.i64 x) ∧
            ∃ (x_1 : Int),
              h.cell b (o + t37.toNat * 4 + 1) = some (Value.int IntKind.i64 x_1) ∧
                ∃ (x_2 : Int),
                  h.cell b (o + t37.toNat * 4 + 1 + 1) = some (Value.int IntKind.u64 x_2) ∧
                    ∃ (x_3 : Option Addr),
                      ∃ (n : Nat),
                        ∃ (m_1 : Nat),
                          h.cell b (o + t37.toNat * 4 + 1 + 1 + 1) = some (Value.slice x_3 n m_1) ∧
                            C Try.prog 23 #[Value.pointer d, Value.pointer m, Value.agg #[Value.int IntKind.i64 x, Value.int IntKind.i64 x_1, Value.int IntKind.u64 x_2, Value.slice x_3 n m_1]] h
                              fun (r : Value) (h' : Heap) =>
                              ∃ (x : Bool),
                                r = Value.bool x ∧
                                  xsIf (!x) (Q (Value.bool false) h')
                                    (C Try.prog 24 #[Value.pointer d, Value.pointer m] h' fun (r : Value) (h' : Heap) =>
                                      ∃ (x : Bool), r = Value.bool x ∧ xsIf (!x) (Q (Value.bool false) h') (gabionlaw03_PmPlays.L7 d m t35 t35_n t35_c t36 (IntKind.i64.wrap (t37 + 1)) h' Q)))
    (Q (Value.bool true) h)
theorem gabionlaw03_PmPlays.ok {lines : Int} {acts : Option Addr} {acts_n : Nat} {acts_c : Nat} {h : Heap} {Q : Value → Heap → Prop} (hk : gabionlaw03_PmPlays.wp lines acts acts_n acts_c h Q) : C Try.prog 5 #[.int .i64 lines, .slice acts acts_n acts_c] h Q :=
  C_of_xs (H := gabionlaw03_PmPlays.H) (lcuts := gabionlaw03_PmPlays.lc) (rcuts := gabionlaw03_PmPlays.rc) (l := [.int .i64 lines, .slice acts acts_n acts_c]) 2000 mixed Try.func5 rfl (by kernel_rfl) (Eq.mp (by kernel_rfl) hk)
theorem gabionlaw03_PmPlays.J6.ok {acts : Option Addr} {acts_n : Nat} {acts_c : Nat} {d : Option Addr} {m : Option Addr} {h : Heap} {Q : Value → Heap → Prop} (hk : gabionlaw03_PmPlays.J6.wp acts acts_n acts_c d m h Q) : gabionlaw03_PmPlays.J6 acts acts_n acts_c d m h Q :=
  xs_ok (H := gabionlaw03_PmPlays.H) (lcuts := gabionlaw03_PmPlays.lc) (rcuts := []) (fn := Try.f5) mixed Try.func5 2000 _ _ _ (Eq.mp (by kernel_rfl) hk)
theorem gabionlaw03_PmPlays.L7.ok {d : Option Addr} {m : Option Addr} {t35 : Option Addr} {t35_n : Nat} {t35_c : Nat} {t36 : Int} {t37 : Int} {h : Heap} {Q : Value → Heap → Prop} (hk : gabionlaw03_PmPlays.L7.wp d m t35 t35_n t35_c t36 t37 h Q) : gabionlaw03_PmPlays.L7 d m t35 t35_n t35_c t36 t37 h Q :=
  xs_ok (H := gabionlaw03_PmPlays.H) (lcuts := gabionlaw03_PmPlays.lc) (rcuts := gabionlaw03_PmPlays.rc) (fn := Try.f5) mixed Try.func5 2000 _ _ _ (Eq.mp (by kernel_rfl) hk)

/-! gabion/gabionlaw03.PmFuse -/
def gabionlaw03_PmFuse.H : Hn := ⟨[], [], [], []⟩
def gabionlaw03_PmFuse.lc : List Cut := [⟨8, [1, 5, 7, 8], []⟩, ⟨17, [1, 5, 71], []⟩, ⟨19, [1, 5, 71, 73], []⟩, ⟨24, [1, 5, 71, 81], []⟩]
def gabionlaw03_PmFuse.rc : List Cut := [⟨4, [0, 1, 5], []⟩, ⟨15, [1, 5], []⟩]
def gabionlaw03_PmFuse.J4 (n : Int) (v : Int) (d : Option Addr) (h : Heap) (Q : Value → Heap → Prop) : Prop :=
  TW Try.prog 6 121 [.code (cAt (bodyOf Try.f6) [1, 1, 1, 0]), .code (cAt (bodyOf Try.f6) [1, 1, 1, 1])] ⟨[(0, .v (.int .u8 n)), (1, .v (.int .u64 v)), (5, .v (.pointer d))], []⟩ h Q
def gabionlaw03_PmFuse.L8 (v : Int) (d : Option Addr) (k0 : Int) (i : Int) (h : Heap) (Q : Value → Heap → Prop) : Prop :=
  TW Try.prog 6 121 [.code (cAt (bodyOf Try.f6) [1, 1, 1, 1, 1, 1, 0, 1, 0, 0]), .inLoop (cAt (bodyOf Try.f6) [1, 1, 1, 1, 1, 1, 0, 1, 0, 0]), .inBlock 0, .code (cAt (bodyOf Try.f6) [1, 1, 1, 1, 1, 1, 1])] ⟨[(1, .v (.int .u64 v)), (5, .v (.pointer d)), (7, .v (.int .i64 k0)), (8, .v (.int .i64 i))], []⟩ h Q
def gabionlaw03_PmFuse.J15 (v : Int) (d : Option Addr) (h : Heap) (Q : Value → Heap → Prop) : Prop :=
  TW Try.prog 6 121 [.code (cAt (bodyOf Try.f6) [1, 1, 1, 1, 1, 1, 1, 1, 1, 0]), .code (cAt (bodyOf Try.f6) [1, 1, 1, 1, 1, 1, 1, 1, 1, 1])] ⟨[(1, .v (.int .u64 v)), (5, .v (.pointer d))], []⟩ h Q
def gabionlaw03_PmFuse.L17 (v : Int) (d : Option Addr) (t71 : Int) (h : Heap) (Q : Value → Heap → Prop) : Prop :=
  TW Try.prog 6 121 [.code (cAt (bodyOf Try.f6) [1, 1, 1, 1, 1, 1, 1, 1, 1, 1, 0, 1, 0, 0]), .inLoop (cAt (bodyOf Try.f6) [1, 1, 1, 1, 1, 1, 1, 1, 1, 1, 0, 1, 0, 0]), .inBlock 2, .code (cAt (bodyOf Try.f6) [1, 1, 1, 1, 1, 1, 1, 1, 1, 1, 1])] ⟨[(1, .v (.int .u64 v)), (5, .v (.pointer d)), (71, .v (.int .i64 t71))], []⟩ h Q
def gabionlaw03_PmFuse.L19 (v : Int) (d : Option Addr) (t71 : Int) (t73 : Int) (h : Heap) (Q : Value → Heap → Prop) : Prop :=
  TW Try.prog 6 121 [.code (cAt (bodyOf Try.f6) [1, 1, 1, 1, 1, 1, 1, 1, 1, 1, 0, 1, 0, 0, 1, 1, 0, 0, 0, 1, 0, 0]), .inLoop (cAt (bodyOf Try.f6) [1, 1, 1, 1, 1, 1, 1, 1, 1, 1, 0, 1, 0, 0, 1, 1, 0, 0, 0, 1, 0, 0]), .inBlock 4, .code (cAt (bodyOf Try.f6) [1, 1, 1, 1, 1, 1, 1, 1, 1, 1, 0, 1, 0, 0, 1, 1, 0, 0, 1]), .inBlock 3, .code (cAt (bodyOf Try.f6) [1, 1, 1, 1, 1, 1, 1, 1, 1, 1, 0, 1, 0, 0, 1, 1, 1]), .inLoop (cAt (bodyOf Try.f6) [1, 1, 1, 1, 1, 1, 1, 1, 1, 1, 0, 1, 0, 0]), .inBlock 2, .code (cAt (bodyOf Try.f6) [1, 1, 1, 1, 1, 1, 1, 1, 1, 1, 1])] ⟨[(1, .v (.int .u64 v)), (5, .v (.pointer d)), (71, .v (.int .i64 t71)), (73, .v (.int .i64 t73))], []⟩ h Q
def gabionlaw03_PmFuse.L24 (v : Int) (d : Option Addr) (t71 : Int) (t81 : Int) (h : Heap) (Q : Value → Heap → Prop) : Prop :=
  TW Try.prog 6 121 [.code (cAt (bodyOf Try.f6) [1, 1, 1, 1, 1, 1, 1, 1, 1, 1, 0, 1, 0, 0, 1, 1, 0, 0, 1, 0, 1, 0, 0]), .inLoop (cAt (bodyOf Try.f6) [1, 1, 1, 1, 1, 1, 1, 1, 1, 1, 0, 1, 0, 0, 1, 1, 0, 0, 1, 0, 1, 0, 0]), .inBlock 6, .code (cAt (bodyOf Try.f6) [1, 1, 1, 1, 1, 1, 1, 1, 1, 1, 0, 1, 0, 0, 1, 1, 0, 0, 1, 1]), .inBlock 3, .code (cAt (bodyOf Try.f6) [1, 1, 1, 1, 1, 1, 1, 1, 1, 1, 0, 1, 0, 0, 1, 1, 1]), .inLoop (cAt (bodyOf Try.f6) [1, 1, 1, 1, 1, 1, 1, 1, 1, 1, 0, 1, 0, 0]), .inBlock 2, .code (cAt (bodyOf Try.f6) [1, 1, 1, 1, 1, 1, 1, 1, 1, 1, 1])] ⟨[(1, .v (.int .u64 v)), (5, .v (.pointer d)), (71, .v (.int .i64 t71)), (81, .v (.int .i64 t81))], []⟩ h Q
def gabionlaw03_PmFuse.wp (n : Int) (v : Int) (h : Heap) (Q : Value → Heap → Prop) : Prop :=
  C Try.prog 12 #[Value.int IntKind.i64 3] h fun (r : Value) (h' : Heap) =>
    ∃ (x : Option Addr),
      ∃ (x_1 : Int),
        r = Value.tuple #[Value.pointer x, Value.int IntKind.i64 x_1] ∧
          C Try.prog 13 #[] h' fun (r : Value) (h' : Heap) =>
            ∃ (x_2 : Bool), r = Value.bool x_2 ∧ xsIf (!x_2) (Q (Value.bool false) h') (xsIf (decide (x_1 ≠ 0)) (Q (Value.bool false) h') (xsIf x.isNone (Q (Value.bool false) h') (gabionlaw03_PmFuse.J4 n v x h' Q)))
def gabionlaw03_PmFuse.J4.wp (n : Int) (v : Int) (d : Option Addr) (h : Heap) (Q : Value → Heap → Prop) : Prop :=
  C Try.prog 25 #[Value.pointer d, Value.int IntKind.i64 1] h fun (r : Value) (h' : Heap) =>
    C Try.prog 26 #[Value.pointer d, Value.int IntKind.i64 (IntKind.i64.wrap (1 + IntKind.i64.wrap (irem n 30)))] h' fun (r : Value) (h' : Heap) =>
      gabionlaw03_PmFuse.L8 v d (IntKind.i64.wrap (1 + IntKind.i64.wrap (irem n 30))) 1 h' Q
def gabionlaw03_PmFuse.L8.wp (v : Int) (d : Option Addr) (k0 : Int) (i : Int) (h : Heap) (Q : Value → Heap → Prop) : Prop :=
  xsIf (decide (i < k0))
    (C Try.prog 14 #[Value.pointer d, Value.int IntKind.i64 (irem i 24), Value.int IntKind.u64 v] h fun (r : Value) (h' : Heap) =>
      ∃ (x : Int), r = Value.int IntKind.i64 x ∧ xsIf (decide (x ≠ 0)) (Q (Value.bool false) h') (gabionlaw03_PmFuse.L8 v d k0 (IntKind.i64.wrap (i + 1)) h' Q))
    (C Try.prog 27 #[Value.pointer d] h fun (r : Value) (h' : Heap) =>
      ∃ (x : Int),
        r = Value.int IntKind.i64 x ∧
          C Try.prog 16 #[Value.pointer d] h' fun (r : Value) (h' : Heap) =>
            ∃ (x_1 : Int),
              r = Value.int IntKind.i64 x_1 ∧
                xsIf (decide (x_1 ≠ 6)) (Q (Value.bool false) h')
                  (C Try.prog 28 #[Value.pointer d] h' fun (r : Value) (h' : Heap) =>
                    ∃ (x_2 : Bool),
                      r = Value.bool x_2 ∧
                        xsIf (!x_2) (Q (Value.bool false) h')
                          (C Try.prog 14 #[Value.pointer d, Value.int IntKind.i64 0, Value.int IntKind.u64 v] h' fun (r : Value) (h' : Heap) =>
                            ∃ (x_3 : Int),
                              r = Value.int IntKind.i64 x_3 ∧
                                xsIf (decide (x_3 ≠ 6)) (Q (Value.bool false) h')
                                  (C Try.prog 27 #[Value.pointer d] h' fun (r : Value) (h' : Heap) =>
                                    ∃ (x_4 : Int), r = Value.int IntKind.i64 x_4 ∧ xsIf (decide (x_4 ≠ x)) (Q (Value.bool false) h') (gabionlaw03_PmFuse.J15 v d h' Q)))))
def gabionlaw03_PmFuse.J15.wp (v : Int) (d : Option Addr) (h : Heap) (Q : Value → Heap → Prop) : Prop :=
  xsMk Try.prog 4 h 24 24 fun (a : Option Addr) (n' c' : Nat) (h' : Heap) => C Try.prog 18 #[Value.pointer d, Value.slice a n' c'] h' fun (r : Value) (h' : Heap) => gabionlaw03_PmFuse.L17 v d 0 h' Q
def gabionlaw03_PmFuse.L17.wp (v : Int) (d : Option Addr) (t71 : Int) (h : Heap) (Q : Value → Heap → Prop) : Prop :=
  xsIf (decide (t71 < 2)) (gabionlaw03_PmFuse.L19 v d t71 0 h Q)
    (C Try.prog 20 #[Value.pointer d, Value.int IntKind.i64 0] h fun (r : Value) (h' : Heap) =>
      ∃ (x : Int),
        r = Value.int IntKind.u64 x ∧
          xsIf (decide (x = v))
            (C Try.prog 20 #[Value.pointer d, Value.int IntKind.i64 8] h' fun (r : Value) (h' : Heap) =>
              ∃ (x : Int),
                r = Value.int IntKind.u64 x ∧
                  xsIf (decide (x = 0))
                    (C Try.prog 20 #[Value.pointer d, Value.int IntKind.i64 16] h' fun (r : Value) (h' : Heap) =>
                      ∃ (x : Int),
                        r = Value.int IntKind.u64 x ∧
                          xsIf (decide (x = v))
                            (C Try.prog 21 #[Value.pointer d, Value.int IntKind.i64 1] h' fun (r : Value) (h' : Heap) =>
                              ∃ (x : Int),
                                r = Value.int IntKind.i64 x ∧
                                  xsIf (decide (x = 2))
                                    (C Try.prog 29 #[Value.pointer d, Value.int IntKind.i64 1] h' fun (r : Value) (h' : Heap) =>
                                      ∃ (x : Bool),
                                        r = Value.bool x ∧
                                          xsIf x (C Try.prog 29 #[Value.pointer d, Value.int IntKind.i64 0] h' fun (r : Value) (h' : Heap) => ∃ (x : Bool), r = Value.bool x ∧ Q (Value.bool !x) h') (Q (Value.bool false) h'))
                                    (Q (Value.bool false) h'))
                            (Q (Value.bool false) h'))
                    (Q (Value.bool false) h'))
            (Q (Value.bool false) h'))
def gabionlaw03_PmFuse.L19.wp (v : Int) (d : Option Addr) (t71 : Int) (t73 : Int) (h : Heap) (Q : Value → Heap → Prop) : Prop :=
  xsIf (decide (t73 < 24))
    (C Try.prog 14 #[Value.pointer d, Value.int IntKind.i64 t73, Value.int IntKind.u64 v] h fun (r : Value) (h' : Heap) =>
      ∃ (x : Int), r = Value.int IntKind.i64 x ∧ gabionlaw03_PmFuse.L19 v d t71 (IntKind.i64.wrap (t73 + 1)) h' Q)
    (gabionlaw03_PmFuse.L24 v d t71 0 h Q)
def gabionlaw03_PmFuse.L24.wp (v : Int) (d : Option Addr) (t71 : Int) (t81 : Int) (h : Heap) (Q : Value → Heap → Prop) : Prop :=
  xsIf (decide (t81 < 3)) (C Try.prog 15 #[Value.pointer d, Value.int IntKind.i64 t81] h fun (r : Value) (h' : Heap) => ∃ (x : Int), r = Value.int IntKind.i64 x ∧ gabionlaw03_PmFuse.L24 v d t71 (IntKind.i64.wrap (t81 + 1)) h' Q)
    (C Try.prog 16 #[Value.pointer d] h fun (r : Value) (h' : Heap) => ∃ (x : Int), r = Value.int IntKind.i64 x ∧ xsIf (decide (x ≠ 0)) (Q (Value.bool false) h') (gabionlaw03_PmFuse.L17 v d (IntKind.i64.wrap (t71 + 1)) h' Q))
theorem gabionlaw03_PmFuse.ok {n : Int} {v : Int} {h : Heap} {Q : Value → Heap → Prop} (hk : gabionlaw03_PmFuse.wp n v h Q) : C Try.prog 6 #[.int .u8 n, .int .u64 v] h Q :=
  C_of_xs (H := gabionlaw03_PmFuse.H) (lcuts := gabionlaw03_PmFuse.lc) (rcuts := gabionlaw03_PmFuse.rc) (l := [.int .u8 n, .int .u64 v]) 2000 mixed Try.func6 rfl (by kernel_rfl) (Eq.mp (by kernel_rfl) hk)
theorem gabionlaw03_PmFuse.J4.ok {n : Int} {v : Int} {d : Option Addr} {h : Heap} {Q : Value → Heap → Prop} (hk : gabionlaw03_PmFuse.J4.wp n v d h Q) : gabionlaw03_PmFuse.J4 n v d h Q :=
  xs_ok (H := gabionlaw03_PmFuse.H) (lcuts := gabionlaw03_PmFuse.lc) (rcuts := [⟨15, [1, 5], []⟩]) (fn := Try.f6) mixed Try.func6 2000 _ _ _ (Eq.mp (by kernel_rfl) hk)
theorem gabionlaw03_PmFuse.L8.ok {v : Int} {d : Option Addr} {k0 : Int} {i : Int} {h : Heap} {Q : Value → Heap → Prop} (hk : gabionlaw03_PmFuse.L8.wp v d k0 i h Q) : gabionlaw03_PmFuse.L8 v d k0 i h Q :=
  xs_ok (H := gabionlaw03_PmFuse.H) (lcuts := gabionlaw03_PmFuse.lc) (rcuts := gabionlaw03_PmFuse.rc) (fn := Try.f6) mixed Try.func6 2000 _ _ _ (Eq.mp (by kernel_rfl) hk)
theorem gabionlaw03_PmFuse.J15.ok {v : Int} {d : Option Addr} {h : Heap} {Q : Value → Heap → Prop} (hk : gabionlaw03_PmFuse.J15.wp v d h Q) : gabionlaw03_PmFuse.J15 v d h Q :=
  xs_ok (H := gabionlaw03_PmFuse.H) (lcuts := gabionlaw03_PmFuse.lc) (rcuts := [⟨4, [0, 1, 5], []⟩]) (fn := Try.f6) mixed Try.func6 2000 _ _ _ (Eq.mp (by kernel_rfl) hk)
theorem gabionlaw03_PmFuse.L17.ok {v : Int} {d : Option Addr} {t71 : Int} {h : Heap} {Q : Value → Heap → Prop} (hk : gabionlaw03_PmFuse.L17.wp v d t71 h Q) : gabionlaw03_PmFuse.L17 v d t71 h Q :=
  xs_ok (H := gabionlaw03_PmFuse.H) (lcuts := gabionlaw03_PmFuse.lc) (rcuts := gabionlaw03_PmFuse.rc) (fn := Try.f6) mixed Try.func6 2000 _ _ _ (Eq.mp (by kernel_rfl) hk)
theorem gabionlaw03_PmFuse.L19.ok {v : Int} {d : Option Addr} {t71 : Int} {t73 : Int} {h : Heap} {Q : Value → Heap → Prop} (hk : gabionlaw03_PmFuse.L19.wp v d t71 t73 h Q) : gabionlaw03_PmFuse.L19 v d t71 t73 h Q :=
  xs_ok (H := gabionlaw03_PmFuse.H) (lcuts := gabionlaw03_PmFuse.lc) (rcuts := gabionlaw03_PmFuse.rc) (fn := Try.f6) mixed Try.func6 2000 _ _ _ (Eq.mp (by kernel_rfl) hk)
theorem gabionlaw03_PmFuse.L24.ok {v : Int} {d : Option Addr} {t71 : Int} {t81 : Int} {h : Heap} {Q : Value → Heap → Prop} (hk : gabionlaw03_PmFuse.L24.wp v d t71 t81 h Q) : gabionlaw03_PmFuse.L24 v d t71 t81 h Q :=
  xs_ok (H := gabionlaw03_PmFuse.H) (lcuts := gabionlaw03_PmFuse.lc) (rcuts := gabionlaw03_PmFuse.rc) (fn := Try.f6) mixed Try.func6 2000 _ _ _ (Eq.mp (by kernel_rfl) hk)

/-! gabion/line.there -/
def line_there.H : Hn := ⟨[], [], [], []⟩
def line_there.lc : List Cut := []
def line_there.rc : List Cut := []
def line_there.wp (d : Option Addr) (at0 : Int) (h : Heap) (Q : Value → Heap → Prop) : Prop :=
  xsIf d.isNone (Q (Value.int IntKind.i64 1) h)
    (xsIf (decide (at0 < 0)) (Q (Value.int IntKind.i64 3) h)
      (C Try.prog 43 #[Value.pointer d] h fun (r : Value) (h' : Heap) => ∃ (x : Int), r = Value.int IntKind.i64 x ∧ xsIf (decide (x ≤ at0)) (Q (Value.int IntKind.i64 3) h') (Q (Value.int IntKind.i64 0) h')))
theorem line_there.ok {d : Option Addr} {at0 : Int} {h : Heap} {Q : Value → Heap → Prop} (hk : line_there.wp d at0 h Q) : C Try.prog 61 #[.pointer d, .int .i64 at0] h Q :=
  C_of_xs (H := line_there.H) (lcuts := line_there.lc) (rcuts := line_there.rc) (l := [.pointer d, .int .i64 at0]) 2000 mixed Try.func61 rfl (by kernel_rfl) (Eq.mp (by kernel_rfl) hk)

/-! gabion/le.Put -/
def le_Put.H : Hn := ⟨[], [], [], []⟩
def le_Put.lc : List Cut := [⟨3, [0, 5, 8, 9], []⟩]
def le_Put.rc : List Cut := []
def le_Put.L3 (n : Int) (b : Option Addr) (b_n : Nat) (b_c : Nat) (t8 : Int) (t9 : Int) (h : Heap) (Q : Value → Heap → Prop) : Prop :=
  TW Try.prog 76 21 [.code (cAt (bodyOf Try.f76) [1, 1, 0, 1, 0, 0]), .inLoop (cAt (bodyOf Try.f76) [1, 1, 0, 1, 0, 0]), .inBlock 0, .code (cAt (bodyOf Try.f76) [1, 1, 1])] ⟨[(0, .v (.int .u64 n)), (5, .v (.slice b b_n b_c)), (8, .v (.int .i64 t8)), (9, .v (.int .i64 t9))], []⟩ h Q
def le_Put.wp (n : Int) (size : Int) (h : Heap) (Q : Value → Heap → Prop) : Prop :=
  le_Put.L3 n none 0 0 (imin (imax size 0) 8) 0 h Q
def le_Put.L3.wp (n : Int) (b : Option Addr) (b_n : Nat) (b_c : Nat) (t8 : Int) (t9 : Int) (h : Heap) (Q : Value → Heap → Prop) : Prop :=
  xsIf (decide (t9 < t8))
    (∀ (b_1 : Nat),
      h b_1 = none →
        xsApp Try.prog 5 (upd h b_1 (Obj.cells #[Value.int IntKind.u8 (IntKind.u8.wrap n)] 5 (0, 0))) b b_n b_c (some { block := b_1, off := 0 }) 1 fun (a' : Option Addr) (n' c' : Nat) (h' : Heap) =>
          le_Put.L3 (ishr IntKind.u64 n 8) a' n' c' t8 (IntKind.i64.wrap (t9 + 1)) h' Q)
    (xsStr h b b_n fun (s : ByteArray) => Q (Value.string s) h)
theorem le_Put.ok {n : Int} {size : Int} {h : Heap} {Q : Value → Heap → Prop} (hk : le_Put.wp n size h Q) : C Try.prog 76 #[.int .u64 n, .int .i64 size] h Q :=
  C_of_xs (H := le_Put.H) (lcuts := le_Put.lc) (rcuts := le_Put.rc) (l := [.int .u64 n, .int .i64 size]) 2000 mixed Try.func76 rfl (by kernel_rfl) (Eq.mp (by kernel_rfl) hk)
theorem le_Put.L3.ok {n : Int} {b : Option Addr} {b_n : Nat} {b_c : Nat} {t8 : Int} {t9 : Int} {h : Heap} {Q : Value → Heap → Prop} (hk : le_Put.L3.wp n b b_n b_c t8 t9 h Q) : le_Put.L3 n b b_n b_c t8 t9 h Q :=
  xs_ok (H := le_Put.H) (lcuts := le_Put.lc) (rcuts := le_Put.rc) (fn := Try.f76) mixed Try.func76 2000 _ _ _ (Eq.mp (by kernel_rfl) hk)

/-! gabion/le.Text -/
def le_Text.H : Hn := ⟨[], [], [], []⟩
def le_Text.lc : List Cut := [⟨3, [3, 6, 7], []⟩]
def le_Text.rc : List Cut := []
def le_Text.L3 (s : ByteArray) (t6_0 : Int) (t6_1 : Int) (t6_2 : Int) (t6_3 : Int) (t6_4 : Int) (t6_5 : Int) (t6_6 : Int) (t6_7 : Int) (t7 : Int) (h : Heap) (Q : Value → Heap → Prop) : Prop :=
  TW Try.prog 62 16 [.code (cAt (bodyOf Try.f62) [1, 1, 0, 1, 0, 0]), .inLoop (cAt (bodyOf Try.f62) [1, 1, 0, 1, 0, 0]), .inBlock 0, .code (cAt (bodyOf Try.f62) [1, 1, 1])] ⟨[(3, .v (.string s)), (6, .v (.agg #[.int .u64 t6_0, .int .u64 t6_1, .int .u64 t6_2, .int .u64 t6_3, .int .u64 t6_4, .int .u64 t6_5, .int .u64 t6_6, .int .u64 t6_7])), (7, .v (.int .i64 t7))], []⟩ h Q
def le_Text.wp (w_0 : Int) (w_1 : Int) (w_2 : Int) (w_3 : Int) (w_4 : Int) (w_5 : Int) (w_6 : Int) (w_7 : Int) (h : Heap) (Q : Value → Heap → Prop) : Prop :=
  le_Text.L3 { data := #[] } w_0 w_1 w_2 w_3 w_4 w_5 w_6 w_7 0 h Q
def le_Text.L3.wp (s : ByteArray) (t6_0 : Int) (t6_1 : Int) (t6_2 : Int) (t6_3 : Int) (t6_4 : Int) (t6_5 : Int) (t6_6 : Int) (t6_7 : Int) (t7 : Int) (h : Heap) (Q : Value → Heap → Prop) : Prop :=
  xsIf (decide (t7 < 8))
    ((0 ≤ t7 ∧ t7 < (↑8 : Int)) ∧
      ∃ (x : Int),
        lget [Value.int IntKind.u64 t6_0, Value.int IntKind.u64 t6_1, Value.int IntKind.u64 t6_2, Value.int IntKind.u64 t6_3, Value.int IntKind.u64 t6_4, Value.int IntKind.u64 t6_5, Value.int IntKind.u64 t6_6, Value.int IntKind.u64 t6_7]
              (t7.toNat * 1) =
            some (Value.int IntKind.u64 x) ∧
          C Try.prog 76 #[Value.int IntKind.u64 x, Value.int IntKind.i64 8] h fun (r : Value) (h' : Heap) =>
            ∃ (x : ByteArray), r = Value.string x ∧ (↑(s.size + x.size) : Int) ≤ 9223372036854775807 ∧ le_Text.L3 (s ++ x) t6_0 t6_1 t6_2 t6_3 t6_4 t6_5 t6_6 t6_7 (IntKind.i64.wrap (t7 + 1)) h' Q)
    (Q (Value.string s) h)
theorem le_Text.ok {w_0 : Int} {w_1 : Int} {w_2 : Int} {w_3 : Int} {w_4 : Int} {w_5 : Int} {w_6 : Int} {w_7 : Int} {h : Heap} {Q : Value → Heap → Prop} (hk : le_Text.wp w_0 w_1 w_2 w_3 w_4 w_5 w_6 w_7 h Q) : C Try.prog 62 #[.agg #[.int .u64 w_0, .int .u64 w_1, .int .u64 w_2, .int .u64 w_3, .int .u64 w_4, .int .u64 w_5, .int .u64 w_6, .int .u64 w_7]] h Q :=
  C_of_xs (H := le_Text.H) (lcuts := le_Text.lc) (rcuts := le_Text.rc) (l := [.agg #[.int .u64 w_0, .int .u64 w_1, .int .u64 w_2, .int .u64 w_3, .int .u64 w_4, .int .u64 w_5, .int .u64 w_6, .int .u64 w_7]]) 2000 mixed Try.func62 rfl (by kernel_rfl) (Eq.mp (by kernel_rfl) hk)
theorem le_Text.L3.ok {s : ByteArray} {t6_0 : Int} {t6_1 : Int} {t6_2 : Int} {t6_3 : Int} {t6_4 : Int} {t6_5 : Int} {t6_6 : Int} {t6_7 : Int} {t7 : Int} {h : Heap} {Q : Value → Heap → Prop} (hk : le_Text.L3.wp s t6_0 t6_1 t6_2 t6_3 t6_4 t6_5 t6_6 t6_7 t7 h Q) : le_Text.L3 s t6_0 t6_1 t6_2 t6_3 t6_4 t6_5 t6_6 t6_7 t7 h Q :=
  xs_ok (H := le_Text.H) (lcuts := le_Text.lc) (rcuts := le_Text.rc) (fn := Try.f62) mixed Try.func62 2000 _ _ _ (Eq.mp (by kernel_rfl) hk)

/-! gabion/line.Get -/
def line_Get.H : Hn := ⟨[], [7], [], []⟩
def line_Get.lc : List Cut := [⟨6, [0, 1, 7, 22], [7]⟩]
def line_Get.rc : List Cut := [⟨4, [0, 1], []⟩]
def line_Get.J4 (d : Option Addr) (at0 : Int) (h : Heap) (Q : Value → Heap → Prop) : Prop :=
  TW Try.prog 30 43 [.code (cAt (bodyOf Try.f30) [1, 1, 0]), .code (cAt (bodyOf Try.f30) [1, 1, 1])] ⟨[(0, .v (.pointer d)), (1, .v (.int .i64 at0))], []⟩ h Q
def line_Get.L6 (d : Option Addr) (at0 : Int) (t22 : Int) (w : List Value) (h : Heap) (Q : Value → Heap → Prop) : Prop :=
  TW Try.prog 30 43 [.code (cAt (bodyOf Try.f30) [1, 1, 1, 0, 1, 0, 0]), .inLoop (cAt (bodyOf Try.f30) [1, 1, 1, 0, 1, 0, 0]), .inBlock 0, .code (cAt (bodyOf Try.f30) [1, 1, 1, 1])] ⟨[(0, .v (.pointer d)), (1, .v (.int .i64 at0)), (7, .p 7 0), (22, .v (.int .i64 t22))], [(7, w)]⟩ h Q
def line_Get.wp (d : Option Addr) (at0 : Int) (h : Heap) (Q : Value → Heap → Prop) : Prop :=
  C Try.prog 61 #[Value.pointer d, Value.int IntKind.i64 at0] h fun (r : Value) (h' : Heap) =>
    ∃ (x : Int),
      r = Value.int IntKind.i64 x ∧
        xsIf (decide (x ≠ 0))
          (C Try.prog 28 #[Value.pointer d] h' fun (r : Value) (h' : Heap) =>
            ∃ (x_1 : Bool), r = Value.bool x_1 ∧ xsIf (!x_1) (Q (Value.tuple #[Value.string { data := #[] }, Value.int IntKind.i64 x]) h') (line_Get.J4 d at0 h' Q))
          (line_Get.J4 d at0 h' Q)
def line_Get.J4.wp (d : Option Addr) (at0 : Int) (h : Heap) (Q : Value → Heap → Prop) : Prop :=
  line_Get.L6 d at0 0 [Value.int IntKind.u64 0, Value.int IntKind.u64 0, Value.int IntKind.u64 0, Value.int IntKind.u64 0, Value.int IntKind.u64 0, Value.int IntKind.u64 0, Value.int IntKind.u64 0, Value.int IntKind.u64 0] h Q
def line_Get.L6.wp (d : Option Addr) (at0 : Int) (t22 : Int) (w : List Value) (h : Heap) (Q : Value → Heap → Prop) : Prop :=
  xsIf (decide (t22 < 8))
    (C Try.prog 19 #[Value.pointer d, Value.int IntKind.i64 (IntKind.i64.wrap (IntKind.i64.wrap (at0 * 8) + t22))] h fun (r : Value) (h' : Heap) =>
      ∃ (x : Int),
        ∃ (x_1 : Int),
          r = Value.tuple #[Value.int IntKind.u64 x, Value.int IntKind.i64 x_1] ∧
            xsIf (decide (x_1 ≠ 0)) (Q (Value.tuple #[Value.string { data := #[] }, Value.int IntKind.i64 x_1]) h')
              ((0 ≤ t22 ∧ t22 < (↑8 : Int)) ∧ 0 + t22.toNat * 1 + 1 ≤ w.length ∧ line_Get.L6 d at0 (IntKind.i64.wrap (t22 + 1)) (lput w (0 + t22.toNat * 1) [Value.int IntKind.u64 x]) h' Q))
    (8 ≤ w.length ∧
      ∃ (x : Int),
        lget w 0 = some (Value.int IntKind.u64 x) ∧
          ∃ (x_1 : Int),
            lget w 1 = some (Value.int IntKind.u64 x_1) ∧
              ∃ (x_2 : Int),
                lget w 2 = some (Value.int IntKind.u64 x_2) ∧
                  ∃ (x_3 : Int),
                    lget w 3 = some (Value.int IntKind.u64 x_3) ∧
                      ∃ (x_4 : Int),
                        lget w 4 = some (Value.int IntKind.u64 x_4) ∧
                          ∃ (x_5 : Int),
                            lget w 5 = some (Value.int IntKind.u64 x_5) ∧
                              ∃ (x_6 : Int),
                                lget w 6 = some (Value.int IntKind.u64 x_6) ∧
                                  ∃ (x_7 : Int),
                                    lget w 7 = some (Value.int IntKind.u64 x_7) ∧
                                      C Try.prog 62
                                        #[Value.agg
                                                #[Value.int IntKind.u64 x, Value.int IntKind.u64 x_1, Value.int IntKind.u64 x_2, Value.int IntKind.u64 x_3, Value.int IntKind.u64 x_4, Value.int IntKind.u64 x_5, Value.int IntKind.u64 x_6,
                                                      Value.int IntKind.u64 x_7]]
                                        h fun (r : Value) (h' : Heap) => ∃ (x : ByteArray), r = Value.string x ∧ Q (Value.tuple #[Value.string x, Value.int IntKind.i64 0]) h')
theorem line_Get.ok {d : Option Addr} {at0 : Int} {h : Heap} {Q : Value → Heap → Prop} (hk : line_Get.wp d at0 h Q) : C Try.prog 30 #[.pointer d, .int .i64 at0] h Q :=
  C_of_xs (H := line_Get.H) (lcuts := line_Get.lc) (rcuts := line_Get.rc) (l := [.pointer d, .int .i64 at0]) 2000 mixed Try.func30 rfl (by kernel_rfl) (Eq.mp (by kernel_rfl) hk)
theorem line_Get.J4.ok {d : Option Addr} {at0 : Int} {h : Heap} {Q : Value → Heap → Prop} (hk : line_Get.J4.wp d at0 h Q) : line_Get.J4 d at0 h Q :=
  xs_ok (H := line_Get.H) (lcuts := line_Get.lc) (rcuts := []) (fn := Try.f30) mixed Try.func30 2000 _ _ _ (Eq.mp (by kernel_rfl) hk)
theorem line_Get.L6.ok {d : Option Addr} {at0 : Int} {t22 : Int} {w : List Value} {h : Heap} {Q : Value → Heap → Prop} (hk : line_Get.L6.wp d at0 t22 w h Q) : line_Get.L6 d at0 t22 w h Q :=
  xs_ok (H := line_Get.H) (lcuts := line_Get.lc) (rcuts := line_Get.rc) (fn := Try.f30) mixed Try.func30 2000 _ _ _ (Eq.mp (by kernel_rfl) hk)

/-! gabion/gabionlaw04.full -/
def gabionlaw04_full.H : Hn := ⟨[], [], [], []⟩
def gabionlaw04_full.lc : List Cut := []
def gabionlaw04_full.rc : List Cut := []
def gabionlaw04_full.wp (s : ByteArray) (h : Heap) (Q : Value → Heap → Prop) : Prop :=
  C Try.prog 65 #[Value.string { data := #[UInt8.ofNat 0] }, Value.int IntKind.i64 64] h fun (r : Value) (h' : Heap) =>
    ∃ (x : ByteArray), r = Value.string x ∧ (↑(s.size + x.size) : Int) ≤ 9223372036854775807 ∧ ((0 : Int) ≤ 64 ∧ (64 : Int) ≤ (↑(s ++ x).size : Int)) ∧ Q (Value.string (sext (s ++ x) 0 64)) h'
theorem gabionlaw04_full.ok {s : ByteArray} {h : Heap} {Q : Value → Heap → Prop} (hk : gabionlaw04_full.wp s h Q) : C Try.prog 35 #[.string s] h Q :=
  C_of_xs (H := gabionlaw04_full.H) (lcuts := gabionlaw04_full.lc) (rcuts := gabionlaw04_full.rc) (l := [.string s]) 2000 mixed Try.func35 rfl (by kernel_rfl) (Eq.mp (by kernel_rfl) hk)

/-! gabion/le.Get -/
def le_Get.H : Hn := ⟨[], [], [], []⟩
def le_Get.lc : List Cut := [⟨3, [0, 3, 4], []⟩]
def le_Get.rc : List Cut := []
def le_Get.L3 (s : ByteArray) (n : Int) (i : Int) (h : Heap) (Q : Value → Heap → Prop) : Prop :=
  TW Try.prog 77 21 [.code (cAt (bodyOf Try.f77) [1, 1, 0, 1, 0, 0]), .inLoop (cAt (bodyOf Try.f77) [1, 1, 0, 1, 0, 0]), .inBlock 0, .code (cAt (bodyOf Try.f77) [1, 1, 1])] ⟨[(0, .v (.string s)), (3, .v (.int .u64 n)), (4, .v (.int .i64 i))], []⟩ h Q
def le_Get.wp (s : ByteArray) (h : Heap) (Q : Value → Heap → Prop) : Prop :=
  le_Get.L3 s 0 (IntKind.i64.wrap (imin (↑s.size : Int) 8 - 1)) h Q
def le_Get.L3.wp (s : ByteArray) (n : Int) (i : Int) (h : Heap) (Q : Value → Heap → Prop) : Prop :=
  xsIf (decide (0 ≤ i)) (∃ (c : UInt8), 0 ≤ i ∧ bget s i.toNat = some c ∧ le_Get.L3 s (ior IntKind.u64 (ishl IntKind.u64 n 8) (IntKind.u64.wrap (↑c.toNat : Int))) (IntKind.i64.wrap (i - 1)) h Q) (Q (Value.int IntKind.u64 n) h)
theorem le_Get.ok {s : ByteArray} {h : Heap} {Q : Value → Heap → Prop} (hk : le_Get.wp s h Q) : C Try.prog 77 #[.string s] h Q :=
  C_of_xs (H := le_Get.H) (lcuts := le_Get.lc) (rcuts := le_Get.rc) (l := [.string s]) 2000 mixed Try.func77 rfl (by kernel_rfl) (Eq.mp (by kernel_rfl) hk)
theorem le_Get.L3.ok {s : ByteArray} {n : Int} {i : Int} {h : Heap} {Q : Value → Heap → Prop} (hk : le_Get.L3.wp s n i h Q) : le_Get.L3 s n i h Q :=
  xs_ok (H := le_Get.H) (lcuts := le_Get.lc) (rcuts := le_Get.rc) (fn := Try.f77) mixed Try.func77 2000 _ _ _ (Eq.mp (by kernel_rfl) hk)

/-! gabion/le.Words -/
def le_Words.H : Hn := ⟨[], [4], [], []⟩
def le_Words.lc : List Cut := [⟨5, [0, 2, 4, 10], [2, 4]⟩]
def le_Words.rc : List Cut := []
def le_Words.L5 (s : ByteArray) (t10 : Int) (t2_0 : Int) (t2_1 : Int) (t2_2 : Int) (t2_3 : Int) (t2_4 : Int) (t2_5 : Int) (t2_6 : Int) (t2_7 : Int) (w : List Value) (h : Heap) (Q : Value → Heap → Prop) : Prop :=
  TW Try.prog 63 22 [.code (cAt (bodyOf Try.f63) [1, 1, 1, 0, 1, 0, 0]), .inLoop (cAt (bodyOf Try.f63) [1, 1, 1, 0, 1, 0, 0]), .inBlock 0, .code (cAt (bodyOf Try.f63) [1, 1, 1, 1])] ⟨[(0, .v (.string s)), (2, .p 2 0), (4, .p 4 0), (10, .v (.int .i64 t10))], [(2, [.int .u64 t2_0, .int .u64 t2_1, .int .u64 t2_2, .int .u64 t2_3, .int .u64 t2_4, .int .u64 t2_5, .int .u64 t2_6, .int .u64 t2_7]), (4, w)]⟩ h Q
def le_Words.wp (s : ByteArray) (h : Heap) (Q : Value → Heap → Prop) : Prop :=
  xsIf (decide ((↑s.size : Int) ≠ 64))
    (8 ≤ 8 ∧
      ∃ (x : Int),
        lget [Value.int IntKind.u64 0, Value.int IntKind.u64 0, Value.int IntKind.u64 0, Value.int IntKind.u64 0, Value.int IntKind.u64 0, Value.int IntKind.u64 0, Value.int IntKind.u64 0, Value.int IntKind.u64 0] 0 =
            some (Value.int IntKind.u64 x) ∧
          ∃ (x_1 : Int),
            lget [Value.int IntKind.u64 0, Value.int IntKind.u64 0, Value.int IntKind.u64 0, Value.int IntKind.u64 0, Value.int IntKind.u64 0, Value.int IntKind.u64 0, Value.int IntKind.u64 0, Value.int IntKind.u64 0] 1 =
                some (Value.int IntKind.u64 x_1) ∧
              ∃ (x_2 : Int),
                lget [Value.int IntKind.u64 0, Value.int IntKind.u64 0, Value.int IntKind.u64 0, Value.int IntKind.u64 0, Value.int IntKind.u64 0, Value.int IntKind.u64 0, Value.int IntKind.u64 0, Value.int IntKind.u64 0] 2 =
                    some (Value.int IntKind.u64 x_2) ∧
                  ∃ (x_3 : Int),
                    lget [Value.int IntKind.u64 0, Value.int IntKind.u64 0, Value.int IntKind.u64 0, Value.int IntKind.u64 0, Value.int IntKind.u64 0, Value.int IntKind.u64 0, Value.int IntKind.u64 0, Value.int IntKind.u64 0] 3 =
                        some (Value.int IntKind.u64 x_3) ∧
                      ∃ (x_4 : Int),
                        lget [Value.int IntKind.u64 0, Value.int IntKind.u64 0, Value.int IntKind.u64 0, Value.int IntKind.u64 0, Value.int IntKind.u64 0, Value.int IntKind.u64 0, Value.int IntKind.u64 0, Value.int IntKind.u64 0] 4 =
                            some (Value.int IntKind.u64 x_4) ∧
                          ∃ (x_5 : Int),
                            lget [Value.int IntKind.u64 0, Value.int IntKind.u64 0, Value.int IntKind.u64 0, Value.int IntKind.u64 0, Value.int IntKind.u64 0, Value.int IntKind.u64 0, Value.int IntKind.u64 0, Value.int IntKind.u64 0] 5 =
                                some (Value.int IntKind.u64 x_5) ∧
                              ∃ (x_6 : Int),
                                lget [Value.int IntKind.u64 0, Value.int IntKind.u64 0, Value.int IntKind.u64 0, Value.int IntKind.u64 0, Value.int IntKind.u64 0, Value.int IntKind.u64 0, Value.int IntKind.u64 0, Value.int IntKind.u64 0] 6 =
                                    some (Value.int IntKind.u64 x_6) ∧
                                  ∃ (x_7 : Int),
                                    lget [Value.int IntKind.u64 0, Value.int IntKind.u64 0, Value.int IntKind.u64 0, Value.int IntKind.u64 0, Value.int IntKind.u64 0, Value.int IntKind.u64 0, Value.int IntKind.u64 0, Value.int IntKind.u64 0]
                                          7 =
                                        some (Value.int IntKind.u64 x_7) ∧
                                      Q
                                        (Value.tuple
                                          #[Value.agg
                                                  #[Value.int IntKind.u64 x, Value.int IntKind.u64 x_1, Value.int IntKind.u64 x_2, Value.int IntKind.u64 x_3, Value.int IntKind.u64 x_4, Value.int IntKind.u64 x_5, Value.int IntKind.u64 x_6,
                                                        Value.int IntKind.u64 x_7],
                                                Value.int IntKind.i64 2])
                                        h)
    (le_Words.L5 s 0 0 0 0 0 0 0 0 0 [Value.int IntKind.u64 0, Value.int IntKind.u64 0, Value.int IntKind.u64 0, Value.int IntKind.u64 0, Value.int IntKind.u64 0, Value.int IntKind.u64 0, Value.int IntKind.u64 0, Value.int IntKind.u64 0] h Q)
def le_Words.L5.wp (s : ByteArray) (t10 : Int) (t2_0 : Int) (t2_1 : Int) (t2_2 : Int) (t2_3 : Int) (t2_4 : Int) (t2_5 : Int) (t2_6 : Int) (t2_7 : Int) (w : List Value) (h : Heap) (Q : Value → Heap → Prop) : Prop :=
  xsIf (decide (t10 < 8))
    ((0 ≤ IntKind.i64.wrap (8 * t10) ∧ IntKind.i64.wrap (8 * t10) ≤ (↑s.size : Int)) ∧
      C Try.prog 77 #[Value.string (sext s (IntKind.i64.wrap (8 * t10)) (↑s.size : Int))] h fun (r : Value) (h' : Heap) =>
        ∃ (x : Int),
          r = Value.int IntKind.u64 x ∧
            (0 ≤ t10 ∧ t10 < (↑8 : Int)) ∧ 0 + t10.toNat * 1 + 1 ≤ w.length ∧ le_Words.L5 s (IntKind.i64.wrap (t10 + 1)) t2_0 t2_1 t2_2 t2_3 t2_4 t2_5 t2_6 t2_7 (lput w (0 + t10.toNat * 1) [Value.int IntKind.u64 x]) h' Q)
    (8 ≤ w.length ∧
      ∃ (x : Int),
        lget w 0 = some (Value.int IntKind.u64 x) ∧
          ∃ (x_1 : Int),
            lget w 1 = some (Value.int IntKind.u64 x_1) ∧
              ∃ (x_2 : Int),
                lget w 2 = some (Value.int IntKind.u64 x_2) ∧
                  ∃ (x_3 : Int),
                    lget w 3 = some (Value.int IntKind.u64 x_3) ∧
                      ∃ (x_4 : Int),
                        lget w 4 = some (Value.int IntKind.u64 x_4) ∧
                          ∃ (x_5 : Int),
                            lget w 5 = some (Value.int IntKind.u64 x_5) ∧
                              ∃ (x_6 : Int),
                                lget w 6 = some (Value.int IntKind.u64 x_6) ∧
                                  ∃ (x_7 : Int),
                                    lget w 7 = some (Value.int IntKind.u64 x_7) ∧
                                      Q
                                        (Value.tuple
                                          #[Value.agg
                                                  #[Value.int IntKind.u64 x, Value.int IntKind.u64 x_1, Value.int IntKind.u64 x_2, Value.int IntKind.u64 x_3, Value.int IntKind.u64 x_4, Value.int IntKind.u64 x_5, Value.int IntKind.u64 x_6,
                                                        Value.int IntKind.u64 x_7],
                                                Value.int IntKind.i64 0])
                                        h)
theorem le_Words.ok {s : ByteArray} {h : Heap} {Q : Value → Heap → Prop} (hk : le_Words.wp s h Q) : C Try.prog 63 #[.string s] h Q :=
  C_of_xs (H := le_Words.H) (lcuts := le_Words.lc) (rcuts := le_Words.rc) (l := [.string s]) 2000 mixed Try.func63 rfl (by kernel_rfl) (Eq.mp (by kernel_rfl) hk)
theorem le_Words.L5.ok {s : ByteArray} {t10 : Int} {t2_0 : Int} {t2_1 : Int} {t2_2 : Int} {t2_3 : Int} {t2_4 : Int} {t2_5 : Int} {t2_6 : Int} {t2_7 : Int} {w : List Value} {h : Heap} {Q : Value → Heap → Prop} (hk : le_Words.L5.wp s t10 t2_0 t2_1 t2_2 t2_3 t2_4 t2_5 t2_6 t2_7 w h Q) : le_Words.L5 s t10 t2_0 t2_1 t2_2 t2_3 t2_4 t2_5 t2_6 t2_7 w h Q :=
  xs_ok (H := le_Words.H) (lcuts := le_Words.lc) (rcuts := le_Words.rc) (fn := Try.f63) mixed Try.func63 2000 _ _ _ (Eq.mp (by kernel_rfl) hk)

/-! gabion/line.last -/
def line_last.H : Hn := ⟨[], [], [], []⟩
def line_last.lc : List Cut := []
def line_last.rc : List Cut := []
def line_last.wp (d : Option Addr) (at0 : Int) (h : Heap) (Q : Value → Heap → Prop) : Prop :=
  C Try.prog 15 #[Value.pointer d, Value.int IntKind.i64 at0] h fun (r : Value) (h' : Heap) =>
    ∃ (x : Int),
      r = Value.int IntKind.i64 x ∧
        xsIf (decide (x ≠ 0)) (Q (Value.int IntKind.i64 x) h') (C Try.prog 16 #[Value.pointer d] h' fun (r : Value) (h' : Heap) => ∃ (x : Int), r = Value.int IntKind.i64 x ∧ Q (Value.int IntKind.i64 x) h')
theorem line_last.ok {d : Option Addr} {at0 : Int} {h : Heap} {Q : Value → Heap → Prop} (hk : line_last.wp d at0 h Q) : C Try.prog 64 #[.pointer d, .int .i64 at0] h Q :=
  C_of_xs (H := line_last.H) (lcuts := line_last.lc) (rcuts := line_last.rc) (l := [.pointer d, .int .i64 at0]) 2000 mixed Try.func64 rfl (by kernel_rfl) (Eq.mp (by kernel_rfl) hk)

/-! gabion/line.Put -/
def line_Put.H : Hn := ⟨[], [], [], []⟩
def line_Put.lc : List Cut := [⟨10, [0, 1, 33, 34], []⟩]
def line_Put.rc : List Cut := []
def line_Put.L10 (d : Option Addr) (at0 : Int) (t33_0 : Int) (t33_1 : Int) (t33_2 : Int) (t33_3 : Int) (t33_4 : Int) (t33_5 : Int) (t33_6 : Int) (t33_7 : Int) (t34 : Int) (h : Heap) (Q : Value → Heap → Prop) : Prop :=
  TW Try.prog 32 52 [.code (cAt (bodyOf Try.f32) [1, 1, 1, 0, 1, 0, 0]), .inLoop (cAt (bodyOf Try.f32) [1, 1, 1, 0, 1, 0, 0]), .inBlock 1, .code (cAt (bodyOf Try.f32) [1, 1, 1, 1])] ⟨[(0, .v (.pointer d)), (1, .v (.int .i64 at0)), (33, .v (.agg #[.int .u64 t33_0, .int .u64 t33_1, .int .u64 t33_2, .int .u64 t33_3, .int .u64 t33_4, .int .u64 t33_5, .int .u64 t33_6, .int .u64 t33_7])), (34, .v (.int .i64 t34))], []⟩ h Q
def line_Put.wp (d : Option Addr) (at0 : Int) (s : ByteArray) (h : Heap) (Q : Value → Heap → Prop) : Prop :=
  C Try.prog 63 #[Value.string s] h fun (r : Value) (h' : Heap) =>
    ∃ (x : Int),
      ∃ (x_1 : Int),
        ∃ (x_2 : Int),
          ∃ (x_3 : Int),
            ∃ (x_4 : Int),
              ∃ (x_5 : Int),
                ∃ (x_6 : Int),
                  ∃ (x_7 : Int),
                    ∃ (x_8 : Int),
                      r =
                          Value.tuple
                            #[Value.agg
                                    #[Value.int IntKind.u64 x, Value.int IntKind.u64 x_1, Value.int IntKind.u64 x_2, Value.int IntKind.u64 x_3, Value.int IntKind.u64 x_4, Value.int IntKind.u64 x_5, Value.int IntKind.u64 x_6,
                                          Value.int IntKind.u64 x_7],
                                  Value.int IntKind.i64 x_8] ∧
                        C Try.prog 61 #[Value.pointer d, Value.int IntKind.i64 at0] h' fun (r : Value) (h' : Heap) =>
                          ∃ (x_9 : Int),
                            r = Value.int IntKind.i64 x_9 ∧
                              xsIf (decide (x_9 = 1)) (Q (Value.int IntKind.i64 x_9) h')
                                (xsIf (decide (x_8 ≠ 0)) (Q (Value.int IntKind.i64 x_8) h') (xsIf (decide (x_9 ≠ 0)) (Q (Value.int IntKind.i64 x_9) h') (line_Put.L10 d at0 x x_1 x_2 x_3 x_4 x_5 x_6 x_7 0 h' Q)))
def line_Put.L10.wp (d : Option Addr) (at0 : Int) (t33_0 : Int) (t33_1 : Int) (t33_2 : Int) (t33_3 : Int) (t33_4 : Int) (t33_5 : Int) (t33_6 : Int) (t33_7 : Int) (t34 : Int) (h : Heap) (Q : Value → Heap → Prop) : Prop :=
  xsIf (decide (t34 < 8))
    ((0 ≤ t34 ∧ t34 < (↑8 : Int)) ∧
      ∃ (x : Int),
        lget
              [Value.int IntKind.u64 t33_0, Value.int IntKind.u64 t33_1, Value.int IntKind.u64 t33_2, Value.int IntKind.u64 t33_3, Value.int IntKind.u64 t33_4, Value.int IntKind.u64 t33_5, Value.int IntKind.u64 t33_6,
                Value.int IntKind.u64 t33_7]
              (t34.toNat * 1) =
            some (Value.int IntKind.u64 x) ∧
          C Try.prog 14 #[Value.pointer d, Value.int IntKind.i64 (IntKind.i64.wrap (IntKind.i64.wrap (at0 * 8) + t34)), Value.int IntKind.u64 x] h fun (r : Value) (h' : Heap) =>
            ∃ (x : Int), r = Value.int IntKind.i64 x ∧ xsIf (decide (x ≠ 0)) (Q (Value.int IntKind.i64 x) h') (line_Put.L10 d at0 t33_0 t33_1 t33_2 t33_3 t33_4 t33_5 t33_6 t33_7 (IntKind.i64.wrap (t34 + 1)) h' Q))
    (C Try.prog 64 #[Value.pointer d, Value.int IntKind.i64 at0] h fun (r : Value) (h' : Heap) => ∃ (x : Int), r = Value.int IntKind.i64 x ∧ Q (Value.int IntKind.i64 x) h')
theorem line_Put.ok {d : Option Addr} {at0 : Int} {s : ByteArray} {h : Heap} {Q : Value → Heap → Prop} (hk : line_Put.wp d at0 s h Q) : C Try.prog 32 #[.pointer d, .int .i64 at0, .string s] h Q :=
  C_of_xs (H := line_Put.H) (lcuts := line_Put.lc) (rcuts := line_Put.rc) (l := [.pointer d, .int .i64 at0, .string s]) 2000 mixed Try.func32 rfl (by kernel_rfl) (Eq.mp (by kernel_rfl) hk)
theorem line_Put.L10.ok {d : Option Addr} {at0 : Int} {t33_0 : Int} {t33_1 : Int} {t33_2 : Int} {t33_3 : Int} {t33_4 : Int} {t33_5 : Int} {t33_6 : Int} {t33_7 : Int} {t34 : Int} {h : Heap} {Q : Value → Heap → Prop} (hk : line_Put.L10.wp d at0 t33_0 t33_1 t33_2 t33_3 t33_4 t33_5 t33_6 t33_7 t34 h Q) : line_Put.L10 d at0 t33_0 t33_1 t33_2 t33_3 t33_4 t33_5 t33_6 t33_7 t34 h Q :=
  xs_ok (H := line_Put.H) (lcuts := line_Put.lc) (rcuts := line_Put.rc) (fn := Try.f32) mixed Try.func32 2000 _ _ _ (Eq.mp (by kernel_rfl) hk)

/-! gabion/line.Took -/
def line_Took.H : Hn := ⟨[], [], [], []⟩
def line_Took.lc : List Cut := [⟨5, [0, 1, 24, 25], []⟩]
def line_Took.rc : List Cut := [⟨4, [0, 1, 7], [7]⟩]
def line_Took.J4 (d : Option Addr) (at0 : Int) (w_0 : Int) (w_1 : Int) (w_2 : Int) (w_3 : Int) (w_4 : Int) (w_5 : Int) (w_6 : Int) (w_7 : Int) (h : Heap) (Q : Value → Heap → Prop) : Prop :=
  TW Try.prog 34 38 [.code (cAt (bodyOf Try.f34) [1, 1, 1, 0, 0]), .code (cAt (bodyOf Try.f34) [1, 1, 1, 0, 1]), .code (cAt (bodyOf Try.f34) [1, 1, 1, 1])] ⟨[(0, .v (.pointer d)), (1, .v (.int .i64 at0)), (7, .p 7 0)], [(7, [.int .u64 w_0, .int .u64 w_1, .int .u64 w_2, .int .u64 w_3, .int .u64 w_4, .int .u64 w_5, .int .u64 w_6, .int .u64 w_7])]⟩ h Q
def line_Took.L5 (d : Option Addr) (at0 : Int) (t24_0 : Int) (t24_1 : Int) (t24_2 : Int) (t24_3 : Int) (t24_4 : Int) (t24_5 : Int) (t24_6 : Int) (t24_7 : Int) (t25 : Int) (h : Heap) (Q : Value → Heap → Prop) : Prop :=
  TW Try.prog 34 38 [.code (cAt (bodyOf Try.f34) [1, 1, 1, 0, 1, 0, 0]), .inLoop (cAt (bodyOf Try.f34) [1, 1, 1, 0, 1, 0, 0]), .inBlock 0, .code (cAt (bodyOf Try.f34) [1, 1, 1, 1])] ⟨[(0, .v (.pointer d)), (1, .v (.int .i64 at0)), (24, .v (.agg #[.int .u64 t24_0, .int .u64 t24_1, .int .u64 t24_2, .int .u64 t24_3, .int .u64 t24_4, .int .u64 t24_5, .int .u64 t24_6, .int .u64 t24_7])), (25, .v (.int .i64 t25))], []⟩ h Q
def line_Took.wp (d : Option Addr) (at0 : Int) (s : ByteArray) (h : Heap) (Q : Value → Heap → Prop) : Prop :=
  C Try.prog 63 #[Value.string s] h fun (r : Value) (h' : Heap) =>
    ∃ (x : Int),
      ∃ (x_1 : Int),
        ∃ (x_2 : Int),
          ∃ (x_3 : Int),
            ∃ (x_4 : Int),
              ∃ (x_5 : Int),
                ∃ (x_6 : Int),
                  ∃ (x_7 : Int),
                    ∃ (x_8 : Int),
                      r =
                          Value.tuple
                            #[Value.agg
                                    #[Value.int IntKind.u64 x, Value.int IntKind.u64 x_1, Value.int IntKind.u64 x_2, Value.int IntKind.u64 x_3, Value.int IntKind.u64 x_4, Value.int IntKind.u64 x_5, Value.int IntKind.u64 x_6,
                                          Value.int IntKind.u64 x_7],
                                  Value.int IntKind.i64 x_8] ∧
                        xsIf (decide (x_8 ≠ 0)) (Q (Value.bool false) h')
                          (C Try.prog 61 #[Value.pointer d, Value.int IntKind.i64 at0] h' fun (r : Value) (h' : Heap) =>
                            ∃ (x_9 : Int), r = Value.int IntKind.i64 x_9 ∧ xsIf (decide (x_9 ≠ 0)) (Q (Value.bool false) h') (line_Took.J4 d at0 x x_1 x_2 x_3 x_4 x_5 x_6 x_7 h' Q))
def line_Took.J4.wp (d : Option Addr) (at0 : Int) (w_0 : Int) (w_1 : Int) (w_2 : Int) (w_3 : Int) (w_4 : Int) (w_5 : Int) (w_6 : Int) (w_7 : Int) (h : Heap) (Q : Value → Heap → Prop) : Prop :=
  line_Took.L5 d at0 w_0 w_1 w_2 w_3 w_4 w_5 w_6 w_7 0 h Q
def line_Took.L5.wp (d : Option Addr) (at0 : Int) (t24_0 : Int) (t24_1 : Int) (t24_2 : Int) (t24_3 : Int) (t24_4 : Int) (t24_5 : Int) (t24_6 : Int) (t24_7 : Int) (t25 : Int) (h : Heap) (Q : Value → Heap → Prop) : Prop :=
  xsIf (decide (t25 < 8))
    ((0 ≤ t25 ∧ t25 < (↑8 : Int)) ∧
      ∃ (x : Int),
        lget
              [Value.int IntKind.u64 t24_0, Value.int IntKind.u64 t24_1, Value.int IntKind.u64 t24_2, Value.int IntKind.u64 t24_3, Value.int IntKind.u64 t24_4, Value.int IntKind.u64 t24_5, Value.int IntKind.u64 t24_6,
                Value.int IntKind.u64 t24_7]
              (t25.toNat * 1) =
            some (Value.int IntKind.u64 x) ∧
          C Try.prog 20 #[Value.pointer d, Value.int IntKind.i64 (IntKind.i64.wrap (IntKind.i64.wrap (at0 * 8) + t25))] h fun (r : Value) (h' : Heap) =>
            ∃ (x_1 : Int), r = Value.int IntKind.u64 x_1 ∧ xsIf (decide (x_1 ≠ x)) (Q (Value.bool false) h') (line_Took.L5 d at0 t24_0 t24_1 t24_2 t24_3 t24_4 t24_5 t24_6 t24_7 (IntKind.i64.wrap (t25 + 1)) h' Q))
    (Q (Value.bool true) h)
theorem line_Took.ok {d : Option Addr} {at0 : Int} {s : ByteArray} {h : Heap} {Q : Value → Heap → Prop} (hk : line_Took.wp d at0 s h Q) : C Try.prog 34 #[.pointer d, .int .i64 at0, .string s] h Q :=
  C_of_xs (H := line_Took.H) (lcuts := line_Took.lc) (rcuts := line_Took.rc) (l := [.pointer d, .int .i64 at0, .string s]) 2000 mixed Try.func34 rfl (by kernel_rfl) (Eq.mp (by kernel_rfl) hk)
theorem line_Took.J4.ok {d : Option Addr} {at0 : Int} {w_0 : Int} {w_1 : Int} {w_2 : Int} {w_3 : Int} {w_4 : Int} {w_5 : Int} {w_6 : Int} {w_7 : Int} {h : Heap} {Q : Value → Heap → Prop} (hk : line_Took.J4.wp d at0 w_0 w_1 w_2 w_3 w_4 w_5 w_6 w_7 h Q) : line_Took.J4 d at0 w_0 w_1 w_2 w_3 w_4 w_5 w_6 w_7 h Q :=
  xs_ok (H := line_Took.H) (lcuts := line_Took.lc) (rcuts := []) (fn := Try.f34) mixed Try.func34 2000 _ _ _ (Eq.mp (by kernel_rfl) hk)
theorem line_Took.L5.ok {d : Option Addr} {at0 : Int} {t24_0 : Int} {t24_1 : Int} {t24_2 : Int} {t24_3 : Int} {t24_4 : Int} {t24_5 : Int} {t24_6 : Int} {t24_7 : Int} {t25 : Int} {h : Heap} {Q : Value → Heap → Prop} (hk : line_Took.L5.wp d at0 t24_0 t24_1 t24_2 t24_3 t24_4 t24_5 t24_6 t24_7 t25 h Q) : line_Took.L5 d at0 t24_0 t24_1 t24_2 t24_3 t24_4 t24_5 t24_6 t24_7 t25 h Q :=
  xs_ok (H := line_Took.H) (lcuts := line_Took.lc) (rcuts := line_Took.rc) (fn := Try.f34) mixed Try.func34 2000 _ _ _ (Eq.mp (by kernel_rfl) hk)

/-! gabion/gabionlaw04.wakes -/
def gabionlaw04_wakes.H : Hn := ⟨[], [], [], []⟩
def gabionlaw04_wakes.lc : List Cut := []
def gabionlaw04_wakes.rc : List Cut := [⟨5, [1, 3], []⟩]
def gabionlaw04_wakes.J5 (d : Option Addr) (s : ByteArray) (h : Heap) (Q : Value → Heap → Prop) : Prop :=
  TW Try.prog 31 55 [.code (cAt (bodyOf Try.f31) [1, 1, 1, 1, 0]), .code (cAt (bodyOf Try.f31) [1, 1, 1, 1, 1])] ⟨[(1, .v (.pointer d)), (3, .v (.string s))], []⟩ h Q
def gabionlaw04_wakes.wp  (h : Heap) (Q : Value → Heap → Prop) : Prop :=
  C Try.prog 12 #[Value.int IntKind.i64 2] h fun (r : Value) (h' : Heap) =>
    ∃ (x : Option Addr),
      ∃ (x_1 : Int),
        r = Value.tuple #[Value.pointer x, Value.int IntKind.i64 x_1] ∧
          C Try.prog 35 #[Value.string { data := #[UInt8.ofNat 97, UInt8.ofNat 98, UInt8.ofNat 99] }] h' fun (r : Value) (h' : Heap) =>
            ∃ (x_2 : ByteArray),
              r = Value.string x_2 ∧
                xsIf (decide (x_1 ≠ 0)) (Q (Value.bool false) h')
                  (xsIf x.isNone (Q (Value.bool false) h')
                    (C Try.prog 32 #[Value.pointer x, Value.int IntKind.i64 1, Value.string x_2] h' fun (r : Value) (h' : Heap) =>
                      ∃ (x_3 : Int),
                        r = Value.int IntKind.i64 x_3 ∧
                          xsIf (decide (x_3 ≠ 0)) (Q (Value.bool false) h')
                            (C Try.prog 34 #[Value.pointer x, Value.int IntKind.i64 1, Value.string x_2] h' fun (r : Value) (h' : Heap) =>
                              ∃ (x_4 : Bool), r = Value.bool x_4 ∧ xsIf (!x_4) (Q (Value.bool false) h') (gabionlaw04_wakes.J5 x x_2 h' Q))))
def gabionlaw04_wakes.J5.wp (d : Option Addr) (s : ByteArray) (h : Heap) (Q : Value → Heap → Prop) : Prop :=
  C Try.prog 25 #[Value.pointer d, Value.int IntKind.i64 0] h fun (r : Value) (h' : Heap) =>
    C Try.prog 30 #[Value.pointer d, Value.int IntKind.i64 1] h' fun (r : Value) (h' : Heap) =>
      ∃ (x : ByteArray),
        ∃ (x_1 : Int),
          r = Value.tuple #[Value.string x, Value.int IntKind.i64 x_1] ∧
            C Try.prog 32 #[Value.pointer d, Value.int IntKind.i64 0, Value.string s] h' fun (r : Value) (h' : Heap) =>
              ∃ (x_2 : Int),
                r = Value.int IntKind.i64 x_2 ∧
                  xsIf (decide (x_2 = 0))
                    (C Try.prog 34 #[Value.pointer d, Value.int IntKind.i64 0, Value.string s] h' fun (r : Value) (h' : Heap) =>
                      ∃ (x_3 : Bool), r = Value.bool x_3 ∧ xsIf (!x_3) (xsIf (decide (x_1 = 0)) (Q (Value.bool (decide (x = s))) h') (Q (Value.bool false) h')) (Q (Value.bool false) h'))
                    (Q (Value.bool false) h')
theorem gabionlaw04_wakes.ok {h : Heap} {Q : Value → Heap → Prop} (hk : gabionlaw04_wakes.wp h Q) : C Try.prog 31 #[] h Q :=
  C_of_xs (H := gabionlaw04_wakes.H) (lcuts := gabionlaw04_wakes.lc) (rcuts := gabionlaw04_wakes.rc) (l := []) 2000 mixed Try.func31 rfl (by kernel_rfl) (Eq.mp (by kernel_rfl) hk)
theorem gabionlaw04_wakes.J5.ok {d : Option Addr} {s : ByteArray} {h : Heap} {Q : Value → Heap → Prop} (hk : gabionlaw04_wakes.J5.wp d s h Q) : gabionlaw04_wakes.J5 d s h Q :=
  xs_ok (H := gabionlaw04_wakes.H) (lcuts := gabionlaw04_wakes.lc) (rcuts := []) (fn := Try.f31) mixed Try.func31 2000 _ _ _ (Eq.mp (by kernel_rfl) hk)

/-! gabion/line.PutWord -/
def line_PutWord.H : Hn := ⟨[], [], [], []⟩
def line_PutWord.lc : List Cut := []
def line_PutWord.rc : List Cut := []
def line_PutWord.wp (d : Option Addr) (at0 : Int) (k0 : Int) (v : Int) (h : Heap) (Q : Value → Heap → Prop) : Prop :=
  C Try.prog 61 #[Value.pointer d, Value.int IntKind.i64 at0] h fun (r : Value) (h' : Heap) =>
    ∃ (x : Int),
      r = Value.int IntKind.i64 x ∧
        xsIf (decide (x = 1)) (Q (Value.int IntKind.i64 x) h')
          (xsIf (decide (k0 < 0)) (Q (Value.int IntKind.i64 2) h')
            (xsIf (decide (8 ≤ k0)) (Q (Value.int IntKind.i64 2) h')
              (xsIf (decide (x ≠ 0)) (Q (Value.int IntKind.i64 x) h')
                (C Try.prog 14 #[Value.pointer d, Value.int IntKind.i64 (IntKind.i64.wrap (IntKind.i64.wrap (at0 * 8) + k0)), Value.int IntKind.u64 v] h' fun (r : Value) (h' : Heap) =>
                  ∃ (x : Int),
                    r = Value.int IntKind.i64 x ∧
                      xsIf (decide (x ≠ 0)) (Q (Value.int IntKind.i64 x) h')
                        (C Try.prog 64 #[Value.pointer d, Value.int IntKind.i64 at0] h' fun (r : Value) (h' : Heap) => ∃ (x : Int), r = Value.int IntKind.i64 x ∧ Q (Value.int IntKind.i64 x) h')))))
theorem line_PutWord.ok {d : Option Addr} {at0 : Int} {k0 : Int} {v : Int} {h : Heap} {Q : Value → Heap → Prop} (hk : line_PutWord.wp d at0 k0 v h Q) : C Try.prog 33 #[.pointer d, .int .i64 at0, .int .i64 k0, .int .u64 v] h Q :=
  C_of_xs (H := line_PutWord.H) (lcuts := line_PutWord.lc) (rcuts := line_PutWord.rc) (l := [.pointer d, .int .i64 at0, .int .i64 k0, .int .u64 v]) 2000 mixed Try.func33 rfl (by kernel_rfl) (Eq.mp (by kernel_rfl) hk)

/-! gabion/gabionlaw04.LineNone -/
def gabionlaw04_LineNone.H : Hn := ⟨[], [], [], []⟩
def gabionlaw04_LineNone.lc : List Cut := []
def gabionlaw04_LineNone.rc : List Cut := [⟨5, [0, 1, 2, 7], []⟩, ⟨7, [0, 1, 2, 7], []⟩]
def gabionlaw04_LineNone.J5 (at0 : Int) (k0 : Int) (s : ByteArray) (d : Option Addr) (h : Heap) (Q : Value → Heap → Prop) : Prop :=
  TW Try.prog 7 105 [.code (cAt (bodyOf Try.f7) [1, 1, 1, 1, 0, 0]), .code (cAt (bodyOf Try.f7) [1, 1, 1, 1, 0, 1]), .code (cAt (bodyOf Try.f7) [1, 1, 1, 1, 1])] ⟨[(0, .v (.int .i64 at0)), (1, .v (.int .i64 k0)), (2, .v (.string s)), (7, .v (.pointer d))], []⟩ h Q
def gabionlaw04_LineNone.J7 (at0 : Int) (k0 : Int) (s : ByteArray) (d : Option Addr) (h : Heap) (Q : Value → Heap → Prop) : Prop :=
  TW Try.prog 7 105 [.code (cAt (bodyOf Try.f7) [1, 1, 1, 1, 1, 0]), .code (cAt (bodyOf Try.f7) [1, 1, 1, 1, 1, 1])] ⟨[(0, .v (.int .i64 at0)), (1, .v (.int .i64 k0)), (2, .v (.string s)), (7, .v (.pointer d))], []⟩ h Q
def gabionlaw04_LineNone.wp (at0 : Int) (k0 : Int) (s : ByteArray) (h : Heap) (Q : Value → Heap → Prop) : Prop :=
  C Try.prog 12 #[Value.int IntKind.i64 2] h fun (r : Value) (h' : Heap) =>
    ∃ (x : Option Addr),
      ∃ (x_1 : Int),
        r = Value.tuple #[Value.pointer x, Value.int IntKind.i64 x_1] ∧
          C Try.prog 30 #[Value.pointer none, Value.int IntKind.i64 at0] h' fun (r : Value) (h' : Heap) =>
            ∃ (x_2 : ByteArray),
              ∃ (x_3 : Int),
                r = Value.tuple #[Value.string x_2, Value.int IntKind.i64 x_3] ∧
                  C Try.prog 31 #[] h' fun (r : Value) (h' : Heap) =>
                    ∃ (x_4 : Bool),
                      r = Value.bool x_4 ∧
                        xsIf (!x_4) (Q (Value.bool false) h')
                          (xsIf (decide (x_1 ≠ 0)) (Q (Value.bool false) h')
                            (xsIf (decide (x_3 ≠ 1)) (Q (Value.bool false) h')
                              (C Try.prog 32 #[Value.pointer none, Value.int IntKind.i64 at0, Value.string s] h' fun (r : Value) (h' : Heap) =>
                                ∃ (x_5 : Int),
                                  r = Value.int IntKind.i64 x_5 ∧
                                    xsIf (decide (x_5 ≠ 1)) (Q (Value.bool false) h')
                                      (C Try.prog 33 #[Value.pointer none, Value.int IntKind.i64 at0, Value.int IntKind.i64 k0, Value.int IntKind.u64 1] h' fun (r : Value) (h' : Heap) =>
                                        ∃ (x_6 : Int),
                                          r = Value.int IntKind.i64 x_6 ∧
                                            xsIf (decide (x_6 ≠ 1)) (Q (Value.bool false) h')
                                              (C Try.prog 35 #[Value.string { data := #[] }] h' fun (r : Value) (h' : Heap) =>
                                                ∃ (x_7 : ByteArray),
                                                  r = Value.string x_7 ∧
                                                    C Try.prog 34 #[Value.pointer none, Value.int IntKind.i64 at0, Value.string x_7] h' fun (r : Value) (h' : Heap) =>
                                                      ∃ (x_8 : Bool), r = Value.bool x_8 ∧ xsIf x_8 (Q (Value.bool false) h') (gabionlaw04_LineNone.J5 at0 k0 s x h' Q))))))
def gabionlaw04_LineNone.J5.wp (at0 : Int) (k0 : Int) (s : ByteArray) (d : Option Addr) (h : Heap) (Q : Value → Heap → Prop) : Prop :=
  xsIf (decide (0 ≤ at0)) (xsIf (decide (at0 < 2)) (Q (Value.bool true) h) (gabionlaw04_LineNone.J7 at0 k0 s d h Q)) (gabionlaw04_LineNone.J7 at0 k0 s d h Q)
def gabionlaw04_LineNone.J7.wp (at0 : Int) (k0 : Int) (s : ByteArray) (d : Option Addr) (h : Heap) (Q : Value → Heap → Prop) : Prop :=
  C Try.prog 30 #[Value.pointer d, Value.int IntKind.i64 at0] h fun (r : Value) (h' : Heap) =>
    ∃ (x : ByteArray),
      ∃ (x_1 : Int),
        r = Value.tuple #[Value.string x, Value.int IntKind.i64 x_1] ∧
          C Try.prog 33 #[Value.pointer d, Value.int IntKind.i64 at0, Value.int IntKind.i64 k0, Value.int IntKind.u64 1] h' fun (r : Value) (h' : Heap) =>
            ∃ (x : Int),
              r = Value.int IntKind.i64 x ∧
                xsIf (decide (x_1 = 3))
                  (C Try.prog 35 #[Value.string s] h' fun (r : Value) (h' : Heap) =>
                    ∃ (x_2 : ByteArray),
                      r = Value.string x_2 ∧
                        C Try.prog 32 #[Value.pointer d, Value.int IntKind.i64 at0, Value.string x_2] h' fun (r : Value) (h' : Heap) =>
                          ∃ (x_3 : Int),
                            r = Value.int IntKind.i64 x_3 ∧
                              xsIf (decide (x_3 = 3))
                                (xsIf (decide (k0 < 0))
                                  (xsIf (decide (x = 2) == true)
                                    (xsIf (decide (0 ≤ k0))
                                      (xsIf (decide (x = 3) == decide (k0 ≤ 7))
                                        (C Try.prog 35 #[Value.string { data := #[] }] h' fun (r : Value) (h' : Heap) =>
                                          ∃ (x : ByteArray),
                                            r = Value.string x ∧ C Try.prog 34 #[Value.pointer d, Value.int IntKind.i64 at0, Value.string x] h' fun (r : Value) (h' : Heap) => ∃ (x : Bool), r = Value.bool x ∧ Q (Value.bool !x) h')
                                        (Q (Value.bool false) h'))
                                      (xsIf (decide (x = 3) == false)
                                        (C Try.prog 35 #[Value.string { data := #[] }] h' fun (r : Value) (h' : Heap) =>
                                          ∃ (x : ByteArray),
                                            r = Value.string x ∧ C Try.prog 34 #[Value.pointer d, Value.int IntKind.i64 at0, Value.string x] h' fun (r : Value) (h' : Heap) => ∃ (x : Bool), r = Value.bool x ∧ Q (Value.bool !x) h')
                                        (Q (Value.bool false) h')))
                                    (Q (Value.bool false) h'))
                                  (xsIf (decide (x = 2) == decide (7 < k0))
                                    (xsIf (decide (0 ≤ k0))
                                      (xsIf (decide (x = 3) == decide (k0 ≤ 7))
                                        (C Try.prog 35 #[Value.string { data := #[] }] h' fun (r : Value) (h' : Heap) =>
                                          ∃ (x : ByteArray),
                                            r = Value.string x ∧ C Try.prog 34 #[Value.pointer d, Value.int IntKind.i64 at0, Value.string x] h' fun (r : Value) (h' : Heap) => ∃ (x : Bool), r = Value.bool x ∧ Q (Value.bool !x) h')
                                        (Q (Value.bool false) h'))
                                      (xsIf (decide (x = 3) == false)
                                        (C Try.prog 35 #[Value.string { data := #[] }] h' fun (r : Value) (h' : Heap) =>
                                          ∃ (x : ByteArray),
                                            r = Value.string x ∧ C Try.prog 34 #[Value.pointer d, Value.int IntKind.i64 at0, Value.string x] h' fun (r : Value) (h' : Heap) => ∃ (x : Bool), r = Value.bool x ∧ Q (Value.bool !x) h')
                                        (Q (Value.bool false) h')))
                                    (Q (Value.bool false) h')))
                                (Q (Value.bool false) h'))
                  (Q (Value.bool false) h')
theorem gabionlaw04_LineNone.ok {at0 : Int} {k0 : Int} {s : ByteArray} {h : Heap} {Q : Value → Heap → Prop} (hk : gabionlaw04_LineNone.wp at0 k0 s h Q) : C Try.prog 7 #[.int .i64 at0, .int .i64 k0, .string s] h Q :=
  C_of_xs (H := gabionlaw04_LineNone.H) (lcuts := gabionlaw04_LineNone.lc) (rcuts := gabionlaw04_LineNone.rc) (l := [.int .i64 at0, .int .i64 k0, .string s]) 2000 mixed Try.func7 rfl (by kernel_rfl) (Eq.mp (by kernel_rfl) hk)
theorem gabionlaw04_LineNone.J5.ok {at0 : Int} {k0 : Int} {s : ByteArray} {d : Option Addr} {h : Heap} {Q : Value → Heap → Prop} (hk : gabionlaw04_LineNone.J5.wp at0 k0 s d h Q) : gabionlaw04_LineNone.J5 at0 k0 s d h Q :=
  xs_ok (H := gabionlaw04_LineNone.H) (lcuts := gabionlaw04_LineNone.lc) (rcuts := [⟨7, [0, 1, 2, 7], []⟩]) (fn := Try.f7) mixed Try.func7 2000 _ _ _ (Eq.mp (by kernel_rfl) hk)
theorem gabionlaw04_LineNone.J7.ok {at0 : Int} {k0 : Int} {s : ByteArray} {d : Option Addr} {h : Heap} {Q : Value → Heap → Prop} (hk : gabionlaw04_LineNone.J7.wp at0 k0 s d h Q) : gabionlaw04_LineNone.J7 at0 k0 s d h Q :=
  xs_ok (H := gabionlaw04_LineNone.H) (lcuts := gabionlaw04_LineNone.lc) (rcuts := [⟨5, [0, 1, 2, 7], []⟩]) (fn := Try.f7) mixed Try.func7 2000 _ _ _ (Eq.mp (by kernel_rfl) hk)

/-! gabion/line.Mixed -/
def line_Mixed.H : Hn := ⟨[], [7, 9], [], []⟩
def line_Mixed.lc : List Cut := [⟨7, [7, 9, 40, 41], [7, 9]⟩]
def line_Mixed.rc : List Cut := [⟨6, [7, 9, 11], [7, 9, 11]⟩]
def line_Mixed.J6 (a : List Value) (b : List Value) (c_0 : Int) (c_1 : Int) (c_2 : Int) (c_3 : Int) (c_4 : Int) (c_5 : Int) (c_6 : Int) (c_7 : Int) (h : Heap) (Q : Value → Heap → Prop) : Prop :=
  TW Try.prog 36 58 [.code (cAt (bodyOf Try.f36) [1, 1, 1, 1, 1, 0, 0]), .code (cAt (bodyOf Try.f36) [1, 1, 1, 1, 1, 0, 1]), .code (cAt (bodyOf Try.f36) [1, 1, 1, 1, 1, 1])] ⟨[(7, .p 7 0), (9, .p 9 0), (11, .p 11 0)], [(7, a), (9, b), (11, [.int .u64 c_0, .int .u64 c_1, .int .u64 c_2, .int .u64 c_3, .int .u64 c_4, .int .u64 c_5, .int .u64 c_6, .int .u64 c_7])]⟩ h Q
def line_Mixed.L7 (t40_0 : Int) (t40_1 : Int) (t40_2 : Int) (t40_3 : Int) (t40_4 : Int) (t40_5 : Int) (t40_6 : Int) (t40_7 : Int) (t41 : Int) (a : List Value) (b : List Value) (h : Heap) (Q : Value → Heap → Prop) : Prop :=
  TW Try.prog 36 58 [.code (cAt (bodyOf Try.f36) [1, 1, 1, 1, 1, 0, 1, 0, 0]), .inLoop (cAt (bodyOf Try.f36) [1, 1, 1, 1, 1, 0, 1, 0, 0]), .inBlock 0, .code (cAt (bodyOf Try.f36) [1, 1, 1, 1, 1, 1])] ⟨[(7, .p 7 0), (9, .p 9 0), (40, .v (.agg #[.int .u64 t40_0, .int .u64 t40_1, .int .u64 t40_2, .int .u64 t40_3, .int .u64 t40_4, .int .u64 t40_5, .int .u64 t40_6, .int .u64 t40_7])), (41, .v (.int .i64 t41))], [(7, a), (9, b)]⟩ h Q
def line_Mixed.wp (was : ByteArray) (is0 : ByteArray) (got : ByteArray) (h : Heap) (Q : Value → Heap → Prop) : Prop :=
  C Try.prog 63 #[Value.string was] h fun (r : Value) (h' : Heap) =>
    ∃ (x : Int),
      ∃ (x_1 : Int),
        ∃ (x_2 : Int),
          ∃ (x_3 : Int),
            ∃ (x_4 : Int),
              ∃ (x_5 : Int),
                ∃ (x_6 : Int),
                  ∃ (x_7 : Int),
                    ∃ (x_8 : Int),
                      r =
                          Value.tuple
                            #[Value.agg
                                    #[Value.int IntKind.u64 x, Value.int IntKind.u64 x_1, Value.int IntKind.u64 x_2, Value.int IntKind.u64 x_3, Value.int IntKind.u64 x_4, Value.int IntKind.u64 x_5, Value.int IntKind.u64 x_6,
                                          Value.int IntKind.u64 x_7],
                                  Value.int IntKind.i64 x_8] ∧
                        8 ≤ 8 ∧
                          C Try.prog 63 #[Value.string is0] h' fun (r : Value) (h' : Heap) =>
                            ∃ (x_9 : Int),
                              ∃ (x_10 : Int),
                                ∃ (x_11 : Int),
                                  ∃ (x_12 : Int),
                                    ∃ (x_13 : Int),
                                      ∃ (x_14 : Int),
                                        ∃ (x_15 : Int),
                                          ∃ (x_16 : Int),
                                            ∃ (x_17 : Int),
                                              r =
                                                  Value.tuple
                                                    #[Value.agg
                                                            #[Value.int IntKind.u64 x_9, Value.int IntKind.u64 x_10, Value.int IntKind.u64 x_11, Value.int IntKind.u64 x_12, Value.int IntKind.u64 x_13, Value.int IntKind.u64 x_14,
                                                                  Value.int IntKind.u64 x_15, Value.int IntKind.u64 x_16],
                                                          Value.int IntKind.i64 x_17] ∧
                                                8 ≤ 8 ∧
                                                  C Try.prog 63 #[Value.string got] h' fun (r : Value) (h' : Heap) =>
                                                    ∃ (x_18 : Int),
                                                      ∃ (x_19 : Int),
                                                        ∃ (x_20 : Int),
                                                          ∃ (x_21 : Int),
                                                            ∃ (x_22 : Int),
                                                              ∃ (x_23 : Int),
                                                                ∃ (x_24 : Int),
                                                                  ∃ (x_25 : Int),
                                                                    ∃ (x_26 : Int),
                                                                      r =
                                                                          Value.tuple
                                                                            #[Value.agg
                                                                                    #[Value.int IntKind.u64 x_18, Value.int IntKind.u64 x_19, Value.int IntKind.u64 x_20, Value.int IntKind.u64 x_21, Value.int IntKind.u64 x_22,
                                                                                          Value.int IntKind.u64 x_23, Value.int IntKind.u64 x_24, Value.int IntKind.u64 x_25],
                                                                                  Value.int IntKind.i64 x_26] ∧
                                                                        xsIf (decide (x_8 ≠ 0)) (Q (Value.bool false) h')
                                                                          (xsIf (decide (x_17 ≠ 0)) (Q (Value.bool false) h')
                                                                            (xsIf (decide (x_26 ≠ 0)) (Q (Value.bool false) h')
                                                                              (line_Mixed.J6
                                                                                (lput
                                                                                  [Value.int IntKind.u64 0, Value.int IntKind.u64 0, Value.int IntKind.u64 0, Value.int IntKind.u64 0, Value.int IntKind.u64 0, Value.int IntKind.u64 0,
                                                                                    Value.int IntKind.u64 0, Value.int IntKind.u64 0]
                                                                                  0
                                                                                  [Value.int IntKind.u64 x, Value.int IntKind.u64 x_1, Value.int IntKind.u64 x_2, Value.int IntKind.u64 x_3, Value.int IntKind.u64 x_4, Value.int IntKind.u64 x_5,
                                                                                    Value.int IntKind.u64 x_6, Value.int IntKind.u64 x_7])
                                                                                (lput
                                                                                  [Value.int IntKind.u64 0, Value.int IntKind.u64 0, Value.int IntKind.u64 0, Value.int IntKind.u64 0, Value.int IntKind.u64 0, Value.int IntKind.u64 0,
                                                                                    Value.int IntKind.u64 0, Value.int IntKind.u64 0]
                                                                                  0
                                                                                  [Value.int IntKind.u64 x_9, Value.int IntKind.u64 x_10, Value.int IntKind.u64 x_11, Value.int IntKind.u64 x_12, Value.int IntKind.u64 x_13,
                                                                                    Value.int IntKind.u64 x_14, Value.int IntKind.u64 x_15, Value.int IntKind.u64 x_16])
                                                                                x_18 x_19 x_20 x_21 x_22 x_23 x_24 x_25 h' Q)))
def line_Mixed.J6.wp (a : List Value) (b : List Value) (c_0 : Int) (c_1 : Int) (c_2 : Int) (c_3 : Int) (c_4 : Int) (c_5 : Int) (c_6 : Int) (c_7 : Int) (h : Heap) (Q : Value → Heap → Prop) : Prop :=
  line_Mixed.L7 c_0 c_1 c_2 c_3 c_4 c_5 c_6 c_7 0 a b h Q
def line_Mixed.L7.wp (t40_0 : Int) (t40_1 : Int) (t40_2 : Int) (t40_3 : Int) (t40_4 : Int) (t40_5 : Int) (t40_6 : Int) (t40_7 : Int) (t41 : Int) (a : List Value) (b : List Value) (h : Heap) (Q : Value → Heap → Prop) : Prop :=
  xsIf (decide (t41 < 8))
    ((0 ≤ t41 ∧ t41 < (↑8 : Int)) ∧
      ∃ (x : Int),
        lget
              [Value.int IntKind.u64 t40_0, Value.int IntKind.u64 t40_1, Value.int IntKind.u64 t40_2, Value.int IntKind.u64 t40_3, Value.int IntKind.u64 t40_4, Value.int IntKind.u64 t40_5, Value.int IntKind.u64 t40_6,
                Value.int IntKind.u64 t40_7]
              (t41.toNat * 1) =
            some (Value.int IntKind.u64 x) ∧
          (0 ≤ t41 ∧ t41 < (↑8 : Int)) ∧
            ∃ (x_1 : Int),
              lget a (0 + t41.toNat * 1) = some (Value.int IntKind.u64 x_1) ∧
                xsIf (decide (x ≠ x_1))
                  ((0 ≤ t41 ∧ t41 < (↑8 : Int)) ∧
                    ∃ (x_2 : Int),
                      lget b (0 + t41.toNat * 1) = some (Value.int IntKind.u64 x_2) ∧ xsIf (decide (x ≠ x_2)) (Q (Value.bool false) h) (line_Mixed.L7 t40_0 t40_1 t40_2 t40_3 t40_4 t40_5 t40_6 t40_7 (IntKind.i64.wrap (t41 + 1)) a b h Q))
                  (line_Mixed.L7 t40_0 t40_1 t40_2 t40_3 t40_4 t40_5 t40_6 t40_7 (IntKind.i64.wrap (t41 + 1)) a b h Q))
    (Q (Value.bool true) h)
theorem line_Mixed.ok {was : ByteArray} {is0 : ByteArray} {got : ByteArray} {h : Heap} {Q : Value → Heap → Prop} (hk : line_Mixed.wp was is0 got h Q) : C Try.prog 36 #[.string was, .string is0, .string got] h Q :=
  C_of_xs (H := line_Mixed.H) (lcuts := line_Mixed.lc) (rcuts := line_Mixed.rc) (l := [.string was, .string is0, .string got]) 2000 mixed Try.func36 rfl (by kernel_rfl) (Eq.mp (by kernel_rfl) hk)
theorem line_Mixed.J6.ok {a : List Value} {b : List Value} {c_0 : Int} {c_1 : Int} {c_2 : Int} {c_3 : Int} {c_4 : Int} {c_5 : Int} {c_6 : Int} {c_7 : Int} {h : Heap} {Q : Value → Heap → Prop} (hk : line_Mixed.J6.wp a b c_0 c_1 c_2 c_3 c_4 c_5 c_6 c_7 h Q) : line_Mixed.J6 a b c_0 c_1 c_2 c_3 c_4 c_5 c_6 c_7 h Q :=
  xs_ok (H := line_Mixed.H) (lcuts := line_Mixed.lc) (rcuts := []) (fn := Try.f36) mixed Try.func36 2000 _ _ _ (Eq.mp (by kernel_rfl) hk)
theorem line_Mixed.L7.ok {t40_0 : Int} {t40_1 : Int} {t40_2 : Int} {t40_3 : Int} {t40_4 : Int} {t40_5 : Int} {t40_6 : Int} {t40_7 : Int} {t41 : Int} {a : List Value} {b : List Value} {h : Heap} {Q : Value → Heap → Prop} (hk : line_Mixed.L7.wp t40_0 t40_1 t40_2 t40_3 t40_4 t40_5 t40_6 t40_7 t41 a b h Q) : line_Mixed.L7 t40_0 t40_1 t40_2 t40_3 t40_4 t40_5 t40_6 t40_7 t41 a b h Q :=
  xs_ok (H := line_Mixed.H) (lcuts := line_Mixed.lc) (rcuts := line_Mixed.rc) (fn := Try.f36) mixed Try.func36 2000 _ _ _ (Eq.mp (by kernel_rfl) hk)

/-! gabion/gabionref04.Mixed -/
def gabionref04_Mixed.H : Hn := ⟨[], [], [⟨6, .q 0 (.q 1 (.q 2 (.q 3 (.q 4 (.q 5 (.q 6 (.q 7 (.q 8 (.q 9 (.q 10 (.q 11 (.q 12 (.q 13 (.q 14 (.q 15 (.q 16 (.q 17 (.q 18 (.q 19 (.q 20 (.q 21 (.q 22 (.q 23 (.nil)))))))))))))))))))))))), []⟩], []⟩
def gabionref04_Mixed.lc : List Cut := [⟨4, [0, 1, 2, 7], []⟩]
def gabionref04_Mixed.rc : List Cut := [⟨3, [0, 1, 2], []⟩]
def gabionref04_Mixed.J3 (was : ByteArray) (is0 : ByteArray) (got : ByteArray) (h : Heap) (Q : Value → Heap → Prop) : Prop :=
  TW Try.prog 37 49 [.code (cAt (bodyOf Try.f37) [1, 1, 0, 0]), .code (cAt (bodyOf Try.f37) [1, 1, 0, 1]), .code (cAt (bodyOf Try.f37) [1, 1, 1])] ⟨[(0, .v (.string was)), (1, .v (.string is0)), (2, .v (.string got))], []⟩ h Q
def gabionref04_Mixed.L4 (was : ByteArray) (is0 : ByteArray) (got : ByteArray) (k0 : Int) (h : Heap) (Q : Value → Heap → Prop) : Prop :=
  TW Try.prog 37 49 [.code (cAt (bodyOf Try.f37) [1, 1, 0, 1, 0, 0]), .inLoop (cAt (bodyOf Try.f37) [1, 1, 0, 1, 0, 0]), .inBlock 0, .code (cAt (bodyOf Try.f37) [1, 1, 1])] ⟨[(0, .v (.string was)), (1, .v (.string is0)), (2, .v (.string got)), (7, .v (.int .i64 k0))], []⟩ h Q
def gabionref04_Mixed.wp (was : ByteArray) (is0 : ByteArray) (got : ByteArray) (h : Heap) (Q : Value → Heap → Prop) : Prop :=
  xsIf (decide ((↑was.size : Int) ≠ 64)) (Q (Value.bool false) h) (xsIf (decide ((↑is0.size : Int) ≠ 64)) (Q (Value.bool false) h) (xsIf (decide ((↑got.size : Int) ≠ 64)) (Q (Value.bool false) h) (gabionref04_Mixed.J3 was is0 got h Q)))
def gabionref04_Mixed.J3.wp (was : ByteArray) (is0 : ByteArray) (got : ByteArray) (h : Heap) (Q : Value → Heap → Prop) : Prop :=
  gabionref04_Mixed.L4 was is0 got 0 h Q
def gabionref04_Mixed.L4.wp (was : ByteArray) (is0 : ByteArray) (got : ByteArray) (k0 : Int) (h : Heap) (Q : Value → Heap → Prop) : Prop :=
  xsIf (decide (k0 < 64))
    ((0 ≤ IntKind.i64.wrap (k0 + 8) ∧ IntKind.i64.wrap (k0 + 8) ≤ (↑got.size : Int)) ∧
      (0 ≤ k0 ∧ k0 ≤ IntKind.i64.wrap (k0 + 8)) ∧
        (0 ≤ IntKind.i64.wrap (k0 + 8) ∧ IntKind.i64.wrap (k0 + 8) ≤ (↑was.size : Int)) ∧
          (0 ≤ k0 ∧ k0 ≤ IntKind.i64.wrap (k0 + 8)) ∧
            xsIf (decide (sext got k0 (IntKind.i64.wrap (k0 + 8)) ≠ sext was k0 (IntKind.i64.wrap (k0 + 8))))
              ((0 ≤ IntKind.i64.wrap (k0 + 8) ∧ IntKind.i64.wrap (k0 + 8) ≤ (↑got.size : Int)) ∧
                (0 ≤ k0 ∧ k0 ≤ IntKind.i64.wrap (k0 + 8)) ∧
                  (0 ≤ IntKind.i64.wrap (k0 + 8) ∧ IntKind.i64.wrap (k0 + 8) ≤ (↑is0.size : Int)) ∧
                    (0 ≤ k0 ∧ k0 ≤ IntKind.i64.wrap (k0 + 8)) ∧
                      xsIf (decide (sext got k0 (IntKind.i64.wrap (k0 + 8)) ≠ sext is0 k0 (IntKind.i64.wrap (k0 + 8)))) (Q (Value.bool false) h) (gabionref04_Mixed.L4 was is0 got (IntKind.i64.wrap (k0 + 8)) h Q))
              (gabionref04_Mixed.L4 was is0 got (IntKind.i64.wrap (k0 + 8)) h Q))
    (Q (Value.bool true) h)
theorem gabionref04_Mixed.ok {was : ByteArray} {is0 : ByteArray} {got : ByteArray} {h : Heap} {Q : Value → Heap → Prop} (hk : gabionref04_Mixed.wp was is0 got h Q) : C Try.prog 37 #[.string was, .string is0, .string got] h Q :=
  C_of_xs (H := gabionref04_Mixed.H) (lcuts := gabionref04_Mixed.lc) (rcuts := gabionref04_Mixed.rc) (l := [.string was, .string is0, .string got]) 2000 mixed Try.func37 rfl (by kernel_rfl) (Eq.mp (by kernel_rfl) hk)
theorem gabionref04_Mixed.J3.ok {was : ByteArray} {is0 : ByteArray} {got : ByteArray} {h : Heap} {Q : Value → Heap → Prop} (hk : gabionref04_Mixed.J3.wp was is0 got h Q) : gabionref04_Mixed.J3 was is0 got h Q :=
  xs_ok (H := gabionref04_Mixed.H) (lcuts := gabionref04_Mixed.lc) (rcuts := []) (fn := Try.f37) mixed Try.func37 2000 _ _ _ (Eq.mp (by kernel_rfl) hk)
theorem gabionref04_Mixed.L4.ok {was : ByteArray} {is0 : ByteArray} {got : ByteArray} {k0 : Int} {h : Heap} {Q : Value → Heap → Prop} (hk : gabionref04_Mixed.L4.wp was is0 got k0 h Q) : gabionref04_Mixed.L4 was is0 got k0 h Q :=
  xs_ok (H := gabionref04_Mixed.H) (lcuts := gabionref04_Mixed.lc) (rcuts := gabionref04_Mixed.rc) (fn := Try.f37) mixed Try.func37 2000 _ _ _ (Eq.mp (by kernel_rfl) hk)

/-! gabion/gabionlaw04.LineMixes -/
def gabionlaw04_LineMixes.H : Hn := ⟨[], [], [⟨10, .q 0 (.q 1 (.q 2 (.q 3 (.q 4 (.q 5 (.q 6 (.q 7 (.q 11 (.q 8 (.q 9 (.q 10 (.nil)))))))))))), []⟩], []⟩
def gabionlaw04_LineMixes.lc : List Cut := [⟨4, [0, 1, 2, 7, 8, 9, 17], []⟩, ⟨11, [0, 7, 8, 9, 53, 54, 55], []⟩]
def gabionlaw04_LineMixes.rc : List Cut := [⟨9, [0, 1, 2, 7, 8, 9, 17], []⟩]
def gabionlaw04_LineMixes.L4 (was : ByteArray) (is0 : ByteArray) (pick : Int) (a : ByteArray) (b : ByteArray) (got : ByteArray) (t17 : Int) (h : Heap) (Q : Value → Heap → Prop) : Prop :=
  TW Try.prog 8 87 [.code (cAt (bodyOf Try.f8) [1, 1, 1, 0, 1, 0, 0]), .inLoop (cAt (bodyOf Try.f8) [1, 1, 1, 0, 1, 0, 0]), .inBlock 0, .code (cAt (bodyOf Try.f8) [1, 1, 1, 1])] ⟨[(0, .v (.string was)), (1, .v (.string is0)), (2, .v (.int .u8 pick)), (7, .v (.string a)), (8, .v (.string b)), (9, .v (.string got)), (17, .v (.int .i64 t17))], []⟩ h Q
def gabionlaw04_LineMixes.J9 (was : ByteArray) (is0 : ByteArray) (pick : Int) (a : ByteArray) (b : ByteArray) (got : ByteArray) (t17 : Int) (h : Heap) (Q : Value → Heap → Prop) : Prop :=
  TW Try.prog 8 87 [.code (cAt (bodyOf Try.f8) [1, 1, 1, 0, 1, 0, 0, 1, 1, 1]), .inLoop (cAt (bodyOf Try.f8) [1, 1, 1, 0, 1, 0, 0]), .inBlock 0, .code (cAt (bodyOf Try.f8) [1, 1, 1, 1])] ⟨[(0, .v (.string was)), (1, .v (.string is0)), (2, .v (.int .u8 pick)), (7, .v (.string a)), (8, .v (.string b)), (9, .v (.string got)), (17, .v (.int .i64 t17))], []⟩ h Q
def gabionlaw04_LineMixes.L11 (was : ByteArray) (a : ByteArray) (b : ByteArray) (got : ByteArray) (t53 : Option Addr) (t53_n : Nat) (t53_c : Nat) (t54 : Int) (t55 : Int) (h : Heap) (Q : Value → Heap → Prop) : Prop :=
  TW Try.prog 8 87 [.code (cAt (bodyOf Try.f8) [1, 1, 1, 1, 0, 1, 0, 0]), .inLoop (cAt (bodyOf Try.f8) [1, 1, 1, 1, 0, 1, 0, 0]), .inBlock 2, .code (cAt (bodyOf Try.f8) [1, 1, 1, 1, 1])] ⟨[(0, .v (.string was)), (7, .v (.string a)), (8, .v (.string b)), (9, .v (.string got)), (53, .v (.slice t53 t53_n t53_c)), (54, .v (.int .i64 t54)), (55, .v (.int .i64 t55))], []⟩ h Q
def gabionlaw04_LineMixes.wp (was : ByteArray) (is0 : ByteArray) (pick : Int) (h : Heap) (Q : Value → Heap → Prop) : Prop :=
  C Try.prog 35 #[Value.string was] h fun (r : Value) (h' : Heap) =>
    ∃ (x : ByteArray),
      r = Value.string x ∧ C Try.prog 35 #[Value.string is0] h' fun (r : Value) (h' : Heap) => ∃ (x_1 : ByteArray), r = Value.string x_1 ∧ gabionlaw04_LineMixes.L4 was is0 pick x x_1 { data := #[] } 0 h' Q
def gabionlaw04_LineMixes.L4.wp (was : ByteArray) (is0 : ByteArray) (pick : Int) (a : ByteArray) (b : ByteArray) (got : ByteArray) (t17 : Int) (h : Heap) (Q : Value → Heap → Prop) : Prop :=
  xsIf (decide (t17 < 8))
    (0 ≤ t17 ∧
      xsIf (decide (iand IntKind.u8 (ishr IntKind.u8 pick t17) 1 = 1))
        ((0 ≤ IntKind.i64.wrap (IntKind.i64.wrap (8 * t17) + 8) ∧ IntKind.i64.wrap (IntKind.i64.wrap (8 * t17) + 8) ≤ (↑b.size : Int)) ∧
          (0 ≤ IntKind.i64.wrap (8 * t17) ∧ IntKind.i64.wrap (8 * t17) ≤ IntKind.i64.wrap (IntKind.i64.wrap (8 * t17) + 8)) ∧
            (↑(got.size + (sext b (IntKind.i64.wrap (8 * t17)) (IntKind.i64.wrap (IntKind.i64.wrap (8 * t17) + 8))).size) : Int) ≤ 9223372036854775807 ∧
              gabionlaw04_LineMixes.J9 was is0 pick a b (got ++ sext b (IntKind.i64.wrap (8 * t17)) (IntKind.i64.wrap (IntKind.i64.wrap (8 * t17) + 8))) t17 h Q)
        ((0 ≤ IntKind.i64.wrap (IntKind.i64.wrap (8 * t17) + 8) ∧ IntKind.i64.wrap (IntKind.i64.wrap (8 * t17) + 8) ≤ (↑a.size : Int)) ∧
          (0 ≤ IntKind.i64.wrap (8 * t17) ∧ IntKind.i64.wrap (8 * t17) ≤ IntKind.i64.wrap (IntKind.i64.wrap (8 * t17) + 8)) ∧
            (↑(got.size + (sext a (IntKind.i64.wrap (8 * t17)) (IntKind.i64.wrap (IntKind.i64.wrap (8 * t17) + 8))).size) : Int) ≤ 9223372036854775807 ∧
              gabionlaw04_LineMixes.J9 was is0 pick a b (got ++ sext a (IntKind.i64.wrap (8 * t17)) (IntKind.i64.wrap (IntKind.i64.wrap (8 * t17) + 8))) t17 h Q))
    (((0 : Int) ≤ 63 ∧ (63 : Int) ≤ (↑got.size : Int)) ∧
      (↑((sext got 0 63).size + 1) : Int) ≤ 9223372036854775807 ∧
        C Try.prog 35 #[Value.string { data := #[] }] h fun (r : Value) (h' : Heap) =>
          ∃ (x : ByteArray),
            r = Value.string x ∧
              ∀ (b_1 : Nat),
                h' b_1 = none →
                  gabionlaw04_LineMixes.L11 was a b got (some { block := b_1, off := 0 }) 7 7 (↑7 : Int) 0
                    (upd h' b_1
                      (Obj.cells #[Value.string got, Value.string a, Value.string b, Value.string is0, Value.string was, Value.string (sext got 0 63 ++ { data := #[UInt8.ofNat 1] }), Value.string x] 9 (0, 0)))
                    Q)
def gabionlaw04_LineMixes.J9.wp (was : ByteArray) (is0 : ByteArray) (pick : Int) (a : ByteArray) (b : ByteArray) (got : ByteArray) (t17 : Int) (h : Heap) (Q : Value → Heap → Prop) : Prop :=
  gabionlaw04_LineMixes.L4 was is0 pick a b got (IntKind.i64.wrap (t17 + 1)) h Q
def gabionlaw04_LineMixes.L11.wp (was : ByteArray) (a : ByteArray) (b : ByteArray) (got : ByteArray) (t53 : Option Addr) (t53_n : Nat) (t53_c : Nat) (t54 : Int) (t55 : Int) (h : Heap) (Q : Value → Heap → Prop) : Prop :=
  xsIf (decide (t55 < t54))
    ((0 ≤ t55 ∧ t55 < (↑t53_n : Int)) ∧
      atBase t53 fun (b_1 o : Nat) =>
        ∃ (x : ByteArray),
          h.cell b_1 (o + t55.toNat * 1) = some (Value.string x) ∧
            C Try.prog 36 #[Value.string a, Value.string b, Value.string x] h fun (r : Value) (h' : Heap) =>
              ∃ (x_1 : Bool),
                r = Value.bool x_1 ∧
                  C Try.prog 37 #[Value.string a, Value.string b, Value.string x] h' fun (r : Value) (h' : Heap) =>
                    ∃ (x_2 : Bool),
                      r = Value.bool x_2 ∧
                        xsIf (!x_1 == x_2) (Q (Value.bool false) h')
                          (C Try.prog 36 #[Value.string was, Value.string b, Value.string x] h' fun (r : Value) (h' : Heap) =>
                            ∃ (x_3 : Bool),
                              r = Value.bool x_3 ∧
                                C Try.prog 37 #[Value.string was, Value.string b, Value.string x] h' fun (r : Value) (h' : Heap) =>
                                  ∃ (x : Bool), r = Value.bool x ∧ xsIf (!x_3 == x) (Q (Value.bool false) h') (gabionlaw04_LineMixes.L11 was a b got t53 t53_n t53_c t54 (IntKind.i64.wrap (t55 + 1)) h' Q)))
    (C Try.prog 31 #[] h fun (r : Value) (h' : Heap) =>
      ∃ (x : Bool), r = Value.bool x ∧ xsIf x (C Try.prog 36 #[Value.string a, Value.string b, Value.string got] h' fun (r : Value) (h' : Heap) => ∃ (x : Bool), r = Value.bool x ∧ Q (Value.bool x) h') (Q (Value.bool false) h'))
theorem gabionlaw04_LineMixes.ok {was : ByteArray} {is0 : ByteArray} {pick : Int} {h : Heap} {Q : Value → Heap → Prop} (hk : gabionlaw04_LineMixes.wp was is0 pick h Q) : C Try.prog 8 #[.string was, .string is0, .int .u8 pick] h Q :=
  C_of_xs (H := gabionlaw04_LineMixes.H) (lcuts := gabionlaw04_LineMixes.lc) (rcuts := gabionlaw04_LineMixes.rc) (l := [.string was, .string is0, .int .u8 pick]) 2000 mixed Try.func8 rfl (by kernel_rfl) (Eq.mp (by kernel_rfl) hk)
theorem gabionlaw04_LineMixes.L4.ok {was : ByteArray} {is0 : ByteArray} {pick : Int} {a : ByteArray} {b : ByteArray} {got : ByteArray} {t17 : Int} {h : Heap} {Q : Value → Heap → Prop} (hk : gabionlaw04_LineMixes.L4.wp was is0 pick a b got t17 h Q) : gabionlaw04_LineMixes.L4 was is0 pick a b got t17 h Q :=
  xs_ok (H := gabionlaw04_LineMixes.H) (lcuts := gabionlaw04_LineMixes.lc) (rcuts := gabionlaw04_LineMixes.rc) (fn := Try.f8) mixed Try.func8 2000 _ _ _ (Eq.mp (by kernel_rfl) hk)
theorem gabionlaw04_LineMixes.J9.ok {was : ByteArray} {is0 : ByteArray} {pick : Int} {a : ByteArray} {b : ByteArray} {got : ByteArray} {t17 : Int} {h : Heap} {Q : Value → Heap → Prop} (hk : gabionlaw04_LineMixes.J9.wp was is0 pick a b got t17 h Q) : gabionlaw04_LineMixes.J9 was is0 pick a b got t17 h Q :=
  xs_ok (H := gabionlaw04_LineMixes.H) (lcuts := gabionlaw04_LineMixes.lc) (rcuts := []) (fn := Try.f8) mixed Try.func8 2000 _ _ _ (Eq.mp (by kernel_rfl) hk)
theorem gabionlaw04_LineMixes.L11.ok {was : ByteArray} {a : ByteArray} {b : ByteArray} {got : ByteArray} {t53 : Option Addr} {t53_n : Nat} {t53_c : Nat} {t54 : Int} {t55 : Int} {h : Heap} {Q : Value → Heap → Prop} (hk : gabionlaw04_LineMixes.L11.wp was a b got t53 t53_n t53_c t54 t55 h Q) : gabionlaw04_LineMixes.L11 was a b got t53 t53_n t53_c t54 t55 h Q :=
  xs_ok (H := gabionlaw04_LineMixes.H) (lcuts := gabionlaw04_LineMixes.lc) (rcuts := gabionlaw04_LineMixes.rc) (fn := Try.f8) mixed Try.func8 2000 _ _ _ (Eq.mp (by kernel_rfl) hk)

/-! gabion/gabionlaw04.LineCosts -/
def gabionlaw04_LineCosts.H : Hn := ⟨[], [], [], []⟩
def gabionlaw04_LineCosts.lc : List Cut := [⟨5, [1, 2, 7, 34, 35, 36], []⟩]
def gabionlaw04_LineCosts.rc : List Cut := [⟨4, [0, 1, 2, 7], []⟩]
def gabionlaw04_LineCosts.J4 (at0 : Int) (k0 : Int) (s : ByteArray) (d : Option Addr) (h : Heap) (Q : Value → Heap → Prop) : Prop :=
  TW Try.prog 9 101 [.code (cAt (bodyOf Try.f9) [1, 1, 1, 0, 0]), .code (cAt (bodyOf Try.f9) [1, 1, 1, 0, 1]), .code (cAt (bodyOf Try.f9) [1, 1, 1, 1])] ⟨[(0, .v (.int .i64 at0)), (1, .v (.int .i64 k0)), (2, .v (.string s)), (7, .v (.pointer d))], []⟩ h Q
def gabionlaw04_LineCosts.L5 (k0 : Int) (s : ByteArray) (d : Option Addr) (t34 : Option Addr) (t34_n : Nat) (t34_c : Nat) (t35 : Int) (t36 : Int) (h : Heap) (Q : Value → Heap → Prop) : Prop :=
  TW Try.prog 9 101 [.code (cAt (bodyOf Try.f9) [1, 1, 1, 0, 1, 0, 0]), .inLoop (cAt (bodyOf Try.f9) [1, 1, 1, 0, 1, 0, 0]), .inBlock 0, .code (cAt (bodyOf Try.f9) [1, 1, 1, 1])] ⟨[(1, .v (.int .i64 k0)), (2, .v (.string s)), (7, .v (.pointer d)), (34, .v (.slice t34 t34_n t34_c)), (35, .v (.int .i64 t35)), (36, .v (.int .i64 t36))], []⟩ h Q
def gabionlaw04_LineCosts.wp (at0 : Int) (k0 : Int) (s : ByteArray) (h : Heap) (Q : Value → Heap → Prop) : Prop :=
  C Try.prog 12 #[Value.int IntKind.i64 2] h fun (r : Value) (h' : Heap) =>
    ∃ (x : Option Addr),
      ∃ (x_1 : Int),
        r = Value.tuple #[Value.pointer x, Value.int IntKind.i64 x_1] ∧
          C Try.prog 31 #[] h' fun (r : Value) (h' : Heap) =>
            ∃ (x_2 : Bool), r = Value.bool x_2 ∧ xsIf (!x_2) (Q (Value.bool false) h') (xsIf (decide (x_1 ≠ 0)) (Q (Value.bool false) h') (xsIf x.isNone (Q (Value.bool false) h') (gabionlaw04_LineCosts.J4 at0 k0 s x h' Q)))
def gabionlaw04_LineCosts.J4.wp (at0 : Int) (k0 : Int) (s : ByteArray) (d : Option Addr) (h : Heap) (Q : Value → Heap → Prop) : Prop :=
  ∀ (b : Nat), h b = none → gabionlaw04_LineCosts.L5 k0 s d (some { block := b, off := 0 }) 2 2 (↑2 : Int) 0 (upd h b (Obj.cells #[Value.int IntKind.i64 at0, Value.int IntKind.i64 (irem (imax 0 at0) 2)] 3 (0, 0))) Q
def gabionlaw04_LineCosts.L5.wp (k0 : Int) (s : ByteArray) (d : Option Addr) (t34 : Option Addr) (t34_n : Nat) (t34_c : Nat) (t35 : Int) (t36 : Int) (h : Heap) (Q : Value → Heap → Prop) : Prop :=
  xsIf (decide (t36 < t35))
    ((0 ≤ t36 ∧ t36 < (↑t34_n : Int)) ∧
      atBase t34 fun (b o : Nat) =>
        ∃ (x : Int),
          h.cell b (o + t36.toNat * 1) = some (Value.int IntKind.i64 x) ∧
            C Try.prog 27 #[Value.pointer d] h fun (r : Value) (h' : Heap) =>
              ∃ (x_1 : Int),
                r = Value.int IntKind.i64 x_1 ∧
                  C Try.prog 35 #[Value.string s] h' fun (r : Value) (h' : Heap) =>
                    ∃ (x_2 : ByteArray),
                      r = Value.string x_2 ∧
                        C Try.prog 32 #[Value.pointer d, Value.int IntKind.i64 x, Value.string x_2] h' fun (r : Value) (h' : Heap) =>
                          ∃ (x_3 : Int),
                            r = Value.int IntKind.i64 x_3 ∧
                              C Try.prog 27 #[Value.pointer d] h' fun (r : Value) (h' : Heap) =>
                                ∃ (x_4 : Int),
                                  r = Value.int IntKind.i64 x_4 ∧
                                    C Try.prog 33 #[Value.pointer d, Value.int IntKind.i64 x, Value.int IntKind.i64 k0, Value.int IntKind.u64 5] h' fun (r : Value) (h' : Heap) =>
                                      ∃ (x_5 : Int),
                                        r = Value.int IntKind.i64 x_5 ∧
                                          C Try.prog 27 #[Value.pointer d] h' fun (r : Value) (h' : Heap) =>
                                            ∃ (x_6 : Int),
                                              r = Value.int IntKind.i64 x_6 ∧
                                                C Try.prog 30 #[Value.pointer d, Value.int IntKind.i64 x] h' fun (r : Value) (h' : Heap) =>
                                                  ∃ (x : ByteArray),
                                                    ∃ (x_7 : Int),
                                                      r = Value.tuple #[Value.string x, Value.int IntKind.i64 x_7] ∧
                                                        xsIf (decide (x_3 = 0))
                                                          (xsIf (decide (x_4 ≠ IntKind.i64.wrap (x_1 + 10))) (Q (Value.bool false) h')
                                                            (xsIf (decide (x_3 ≠ 0))
                                                              (xsIf (decide (x_4 ≠ x_1)) (Q (Value.bool false) h')
                                                                (xsIf (decide (x_5 = 0))
                                                                  (xsIf (decide (x_6 ≠ IntKind.i64.wrap (x_4 + 3))) (Q (Value.bool false) h')
                                                                    (xsIf (decide (x_5 ≠ 0))
                                                                      (xsIf (decide (x_6 ≠ x_4)) (Q (Value.bool false) h')
                                                                        (C Try.prog 27 #[Value.pointer d] h' fun (r : Value) (h' : Heap) =>
                                                                          ∃ (x : Int),
                                                                            r = Value.int IntKind.i64 x ∧
                                                                              xsIf (decide (x ≠ x_6)) (Q (Value.bool false) h') (gabionlaw04_LineCosts.L5 k0 s d t34 t34_n t34_c t35 (IntKind.i64.wrap (t36 + 1)) h' Q)))
                                                                      (C Try.prog 27 #[Value.pointer d] h' fun (r : Value) (h' : Heap) =>
                                                                        ∃ (x : Int),
                                                                          r = Value.int IntKind.i64 x ∧
                                                                            xsIf (decide (x ≠ x_6)) (Q (Value.bool false) h') (gabionlaw04_LineCosts.L5 k0 s d t34 t34_n t34_c t35 (IntKind.i64.wrap (t36 + 1)) h' Q))))
                                                                  (xsIf (decide (x_5 ≠ 0))
                                                                    (xsIf (decide (x_6 ≠ x_4)) (Q (Value.bool false) h')
                                                                      (C Try.prog 27 #[Value.pointer d] h' fun (r : Value) (h' : Heap) =>
                                                                        ∃ (x : Int),
                                                                          r = Value.int IntKind.i64 x ∧
                                                                            xsIf (decide (x ≠ x_6)) (Q (Value.bool false) h') (gabionlaw04_LineCosts.L5 k0 s d t34 t34_n t34_c t35 (IntKind.i64.wrap (t36 + 1)) h' Q)))
                                                                    (C Try.prog 27 #[Value.pointer d] h' fun (r : Value) (h' : Heap) =>
                                                                      ∃ (x : Int),
                                                                        r = Value.int IntKind.i64 x ∧
                                                                          xsIf (decide (x ≠ x_6)) (Q (Value.bool false) h') (gabionlaw04_LineCosts.L5 k0 s d t34 t34_n t34_c t35 (IntKind.i64.wrap (t36 + 1)) h' Q)))))
                                                              (xsIf (decide (x_5 = 0))
                                                                (xsIf (decide (x_6 ≠ IntKind.i64.wrap (x_4 + 3))) (Q (Value.bool false) h')
                                                                  (xsIf (decide (x_5 ≠ 0))
                                                                    (xsIf (decide (x_6 ≠ x_4)) (Q (Value.bool false) h')
                                                                      (C Try.prog 27 #[Value.pointer d] h' fun (r : Value) (h' : Heap) =>
                                                                        ∃ (x : Int),
                                                                          r = Value.int IntKind.i64 x ∧
                                                                            xsIf (decide (x ≠ x_6)) (Q (Value.bool false) h') (gabionlaw04_LineCosts.L5 k0 s d t34 t34_n t34_c t35 (IntKind.i64.wrap (t36 + 1)) h' Q)))
                                                                    (C Try.prog 27 #[Value.pointer d] h' fun (r : Value) (h' : Heap) =>
                                                                      ∃ (x : Int),
                                                                        r = Value.int IntKind.i64 x ∧ xsIf (decide (x ≠ x_6)) (Q (Value.bool false) h') (gabionlaw04_LineCosts.L5 k0 s d t34 t34_n t34_c t35 (IntKind.i64.wrap (t36 + 1)) h' Q))))
                                                                (xsIf (decide (x_5 ≠ 0))
                                                                  (xsIf (decide (x_6 ≠ x_4)) (Q (Value.bool false) h')
                                                                    (C Try.prog 27 #[Value.pointer d] h' fun (r : Value) (h' : Heap) =>
                                                                      ∃ (x : Int),
                                                                        r = Value.int IntKind.i64 x ∧ xsIf (decide (x ≠ x_6)) (Q (Value.bool false) h') (gabionlaw04_LineCosts.L5 k0 s d t34 t34_n t34_c t35 (IntKind.i64.wrap (t36 + 1)) h' Q)))
                                                                  (C Try.prog 27 #[Value.pointer d] h' fun (r : Value) (h' : Heap) =>
                                                                    ∃ (x : Int),
                                                                      r = Value.int IntKind.i64 x ∧ xsIf (decide (x ≠ x_6)) (Q (Value.bool false) h') (gabionlaw04_LineCosts.L5 k0 s d t34 t34_n t34_c t35 (IntKind.i64.wrap (t36 + 1)) h' Q))))))
                                                          (xsIf (decide (x_3 ≠ 0))
                                                            (xsIf (decide (x_4 ≠ x_1)) (Q (Value.bool false) h')
                                                              (xsIf (decide (x_5 = 0))
                                                                (xsIf (decide (x_6 ≠ IntKind.i64.wrap (x_4 + 3))) (Q (Value.bool false) h')
                                                                  (xsIf (decide (x_5 ≠ 0))
                                                                    (xsIf (decide (x_6 ≠ x_4)) (Q (Value.bool false) h')
                                                                      (C Try.prog 27 #[Value.pointer d] h' fun (r : Value) (h' : Heap) =>
                                                                        ∃ (x : Int),
                                                                          r = Value.int IntKind.i64 x ∧
                                                                            xsIf (decide (x ≠ x_6)) (Q (Value.bool false) h') (gabionlaw04_LineCosts.L5 k0 s d t34 t34_n t34_c t35 (IntKind.i64.wrap (t36 + 1)) h' Q)))
                                                                    (C Try.prog 27 #[Value.pointer d] h' fun (r : Value) (h' : Heap) =>
                                                                      ∃ (x : Int),
                                                                        r = Value.int IntKind.i64 x ∧ xsIf (decide (x ≠ x_6)) (Q (Value.bool false) h') (gabionlaw04_LineCosts.L5 k0 s d t34 t34_n t34_c t35 (IntKind.i64.wrap (t36 + 1)) h' Q))))
                                                                (xsIf (decide (x_5 ≠ 0))
                                                                  (xsIf (decide (x_6 ≠ x_4)) (Q (Value.bool false) h')
                                                                    (C Try.prog 27 #[Value.pointer d] h' fun (r : Value) (h' : Heap) =>
                                                                      ∃ (x : Int),
                                                                        r = Value.int IntKind.i64 x ∧ xsIf (decide (x ≠ x_6)) (Q (Value.bool false) h') (gabionlaw04_LineCosts.L5 k0 s d t34 t34_n t34_c t35 (IntKind.i64.wrap (t36 + 1)) h' Q)))
                                                                  (C Try.prog 27 #[Value.pointer d] h' fun (r : Value) (h' : Heap) =>
                                                                    ∃ (x : Int),
                                                                      r = Value.int IntKind.i64 x ∧ xsIf (decide (x ≠ x_6)) (Q (Value.bool false) h') (gabionlaw04_LineCosts.L5 k0 s d t34 t34_n t34_c t35 (IntKind.i64.wrap (t36 + 1)) h' Q)))))
                                                            (xsIf (decide (x_5 = 0))
                                                              (xsIf (decide (x_6 ≠ IntKind.i64.wrap (x_4 + 3))) (Q (Value.bool false) h')
                                                                (xsIf (decide (x_5 ≠ 0))
                                                                  (xsIf (decide (x_6 ≠ x_4)) (Q (Value.bool false) h')
                                                                    (C Try.prog 27 #[Value.pointer d] h' fun (r : Value) (h' : Heap) =>
                                                                      ∃ (x : Int),
                                                                        r = Value.int IntKind.i64 x ∧ xsIf (decide (x ≠ x_6)) (Q (Value.bool false) h') (gabionlaw04_LineCosts.L5 k0 s d t34 t34_n t34_c t35 (IntKind.i64.wrap (t36 + 1)) h' Q)))
                                                                  (C Try.prog 27 #[Value.pointer d] h' fun (r : Value) (h' : Heap) =>
                                                                    ∃ (x : Int),
                                                                      r = Value.int IntKind.i64 x ∧ xsIf (decide (x ≠ x_6)) (Q (Value.bool false) h') (gabionlaw04_LineCosts.L5 k0 s d t34 t34_n t34_c t35 (IntKind.i64.wrap (t36 + 1)) h' Q))))
                                                              (xsIf (decide (x_5 ≠ 0))
                                                                (xsIf (decide (x_6 ≠ x_4)) (Q (Value.bool false) h')
                                                                  (C Try.prog 27 #[Value.pointer d] h' fun (r : Value) (h' : Heap) =>
                                                                    ∃ (x : Int),
                                                                      r = Value.int IntKind.i64 x ∧ xsIf (decide (x ≠ x_6)) (Q (Value.bool false) h') (gabionlaw04_LineCosts.L5 k0 s d t34 t34_n t34_c t35 (IntKind.i64.wrap (t36 + 1)) h' Q)))
                                                                (C Try.prog 27 #[Value.pointer d] h' fun (r : Value) (h' : Heap) =>
                                                                  ∃ (x : Int),
                                                                    r = Value.int IntKind.i64 x ∧ xsIf (decide (x ≠ x_6)) (Q (Value.bool false) h') (gabionlaw04_LineCosts.L5 k0 s d t34 t34_n t34_c t35 (IntKind.i64.wrap (t36 + 1)) h' Q))))))
    (Q (Value.bool true) h)
theorem gabionlaw04_LineCosts.ok {at0 : Int} {k0 : Int} {s : ByteArray} {h : Heap} {Q : Value → Heap → Prop} (hk : gabionlaw04_LineCosts.wp at0 k0 s h Q) : C Try.prog 9 #[.int .i64 at0, .int .i64 k0, .string s] h Q :=
  C_of_xs (H := gabionlaw04_LineCosts.H) (lcuts := gabionlaw04_LineCosts.lc) (rcuts := gabionlaw04_LineCosts.rc) (l := [.int .i64 at0, .int .i64 k0, .string s]) 2000 mixed Try.func9 rfl (by kernel_rfl) (Eq.mp (by kernel_rfl) hk)
theorem gabionlaw04_LineCosts.J4.ok {at0 : Int} {k0 : Int} {s : ByteArray} {d : Option Addr} {h : Heap} {Q : Value → Heap → Prop} (hk : gabionlaw04_LineCosts.J4.wp at0 k0 s d h Q) : gabionlaw04_LineCosts.J4 at0 k0 s d h Q :=
  xs_ok (H := gabionlaw04_LineCosts.H) (lcuts := gabionlaw04_LineCosts.lc) (rcuts := []) (fn := Try.f9) mixed Try.func9 2000 _ _ _ (Eq.mp (by kernel_rfl) hk)
theorem gabionlaw04_LineCosts.L5.ok {k0 : Int} {s : ByteArray} {d : Option Addr} {t34 : Option Addr} {t34_n : Nat} {t34_c : Nat} {t35 : Int} {t36 : Int} {h : Heap} {Q : Value → Heap → Prop} (hk : gabionlaw04_LineCosts.L5.wp k0 s d t34 t34_n t34_c t35 t36 h Q) : gabionlaw04_LineCosts.L5 k0 s d t34 t34_n t34_c t35 t36 h Q :=
  xs_ok (H := gabionlaw04_LineCosts.H) (lcuts := gabionlaw04_LineCosts.lc) (rcuts := gabionlaw04_LineCosts.rc) (fn := Try.f9) mixed Try.func9 2000 _ _ _ (Eq.mp (by kernel_rfl) hk)

/-! gabion/gabionref01.Get -/
def gabionref01_Get.H : Hn := ⟨[], [], [], []⟩
def gabionref01_Get.lc : List Cut := [⟨4, [0, 3, 4, 5], []⟩]
def gabionref01_Get.rc : List Cut := [⟨6, [0, 3, 4, 5], []⟩]
def gabionref01_Get.L4 (s : ByteArray) (n : Int) (m : Int) (i : Int) (h : Heap) (Q : Value → Heap → Prop) : Prop :=
  TW Try.prog 66 27 [.code (cAt (bodyOf Try.f66) [1, 1, 1, 0, 1, 0, 0]), .inLoop (cAt (bodyOf Try.f66) [1, 1, 1, 0, 1, 0, 0]), .inBlock 0, .code (cAt (bodyOf Try.f66) [1, 1, 1, 1])] ⟨[(0, .v (.string s)), (3, .v (.int .u64 n)), (4, .v (.int .u64 m)), (5, .v (.int .i64 i))], []⟩ h Q
def gabionref01_Get.J6 (s : ByteArray) (n : Int) (m : Int) (i : Int) (h : Heap) (Q : Value → Heap → Prop) : Prop :=
  TW Try.prog 66 27 [.code (cAt (bodyOf Try.f66) [1, 1, 1, 0, 1, 0, 0, 1, 0, 0, 0]), .code (cAt (bodyOf Try.f66) [1, 1, 1, 0, 1, 0, 0, 1, 0, 0, 1]), .inBlock 1, .code (cAt (bodyOf Try.f66) [1, 1, 1, 0, 1, 0, 0, 1, 1]), .inLoop (cAt (bodyOf Try.f66) [1, 1, 1, 0, 1, 0, 0]), .inBlock 0, .code (cAt (bodyOf Try.f66) [1, 1, 1, 1])] ⟨[(0, .v (.string s)), (3, .v (.int .u64 n)), (4, .v (.int .u64 m)), (5, .v (.int .i64 i))], []⟩ h Q
def gabionref01_Get.wp (s : ByteArray) (h : Heap) (Q : Value → Heap → Prop) : Prop :=
  gabionref01_Get.L4 s 0 1 0 h Q
def gabionref01_Get.L4.wp (s : ByteArray) (n : Int) (m : Int) (i : Int) (h : Heap) (Q : Value → Heap → Prop) : Prop :=
  xsIf (decide (i < (↑s.size : Int))) (xsIf (decide (i < 8)) (gabionref01_Get.J6 s n m i h Q) (Q (Value.int IntKind.u64 n) h)) (Q (Value.int IntKind.u64 n) h)
def gabionref01_Get.J6.wp (s : ByteArray) (n : Int) (m : Int) (i : Int) (h : Heap) (Q : Value → Heap → Prop) : Prop :=
  ∃ (c : UInt8), 0 ≤ i ∧ bget s i.toNat = some c ∧ gabionref01_Get.L4 s (IntKind.u64.wrap (n + IntKind.u64.wrap (m * IntKind.u64.wrap (↑c.toNat : Int)))) (IntKind.u64.wrap (m * 256)) (IntKind.i64.wrap (i + 1)) h Q
theorem gabionref01_Get.ok {s : ByteArray} {h : Heap} {Q : Value → Heap → Prop} (hk : gabionref01_Get.wp s h Q) : C Try.prog 66 #[.string s] h Q :=
  C_of_xs (H := gabionref01_Get.H) (lcuts := gabionref01_Get.lc) (rcuts := gabionref01_Get.rc) (l := [.string s]) 2000 mixed Try.func66 rfl (by kernel_rfl) (Eq.mp (by kernel_rfl) hk)
theorem gabionref01_Get.L4.ok {s : ByteArray} {n : Int} {m : Int} {i : Int} {h : Heap} {Q : Value → Heap → Prop} (hk : gabionref01_Get.L4.wp s n m i h Q) : gabionref01_Get.L4 s n m i h Q :=
  xs_ok (H := gabionref01_Get.H) (lcuts := gabionref01_Get.lc) (rcuts := gabionref01_Get.rc) (fn := Try.f66) mixed Try.func66 2000 _ _ _ (Eq.mp (by kernel_rfl) hk)
theorem gabionref01_Get.J6.ok {s : ByteArray} {n : Int} {m : Int} {i : Int} {h : Heap} {Q : Value → Heap → Prop} (hk : gabionref01_Get.J6.wp s n m i h Q) : gabionref01_Get.J6 s n m i h Q :=
  xs_ok (H := gabionref01_Get.H) (lcuts := gabionref01_Get.lc) (rcuts := []) (fn := Try.f66) mixed Try.func66 2000 _ _ _ (Eq.mp (by kernel_rfl) hk)

/-! gabion/gabionref04.last -/
def gabionref04_last.H : Hn := ⟨[], [], [], []⟩
def gabionref04_last.lc : List Cut := []
def gabionref04_last.rc : List Cut := []
def gabionref04_last.wp (d : Option Addr) (at0 : Int) (h : Heap) (Q : Value → Heap → Prop) : Prop :=
  C Try.prog 57 #[Value.pointer d, Value.int IntKind.i64 at0] h fun (r : Value) (h' : Heap) =>
    ∃ (x : Int),
      r = Value.int IntKind.i64 x ∧
        xsIf (decide (x ≠ 0)) (Q (Value.int IntKind.i64 x) h') (C Try.prog 58 #[Value.pointer d] h' fun (r : Value) (h' : Heap) => ∃ (x : Int), r = Value.int IntKind.i64 x ∧ Q (Value.int IntKind.i64 x) h')
theorem gabionref04_last.ok {d : Option Addr} {at0 : Int} {h : Heap} {Q : Value → Heap → Prop} (hk : gabionref04_last.wp d at0 h Q) : C Try.prog 67 #[.pointer d, .int .i64 at0] h Q :=
  C_of_xs (H := gabionref04_last.H) (lcuts := gabionref04_last.lc) (rcuts := gabionref04_last.rc) (l := [.pointer d, .int .i64 at0]) 2000 mixed Try.func67 rfl (by kernel_rfl) (Eq.mp (by kernel_rfl) hk)

/-! gabion/gabionref04.Put -/
def gabionref04_Put.H : Hn := ⟨[], [], [], []⟩
def gabionref04_Put.lc : List Cut := [⟨6, [0, 1, 2, 7], []⟩]
def gabionref04_Put.rc : List Cut := [⟨5, [0, 1, 2], []⟩]
def gabionref04_Put.J5 (d : Option Addr) (at0 : Int) (s : ByteArray) (h : Heap) (Q : Value → Heap → Prop) : Prop :=
  TW Try.prog 38 49 [.code (cAt (bodyOf Try.f38) [1, 1, 1, 0, 0]), .code (cAt (bodyOf Try.f38) [1, 1, 1, 0, 1]), .code (cAt (bodyOf Try.f38) [1, 1, 1, 1])] ⟨[(0, .v (.pointer d)), (1, .v (.int .i64 at0)), (2, .v (.string s))], []⟩ h Q
def gabionref04_Put.L6 (d : Option Addr) (at0 : Int) (s : ByteArray) (k0 : Int) (h : Heap) (Q : Value → Heap → Prop) : Prop :=
  TW Try.prog 38 49 [.code (cAt (bodyOf Try.f38) [1, 1, 1, 0, 1, 0, 0]), .inLoop (cAt (bodyOf Try.f38) [1, 1, 1, 0, 1, 0, 0]), .inBlock 0, .code (cAt (bodyOf Try.f38) [1, 1, 1, 1])] ⟨[(0, .v (.pointer d)), (1, .v (.int .i64 at0)), (2, .v (.string s)), (7, .v (.int .i64 k0))], []⟩ h Q
def gabionref04_Put.wp (d : Option Addr) (at0 : Int) (s : ByteArray) (h : Heap) (Q : Value → Heap → Prop) : Prop :=
  xsIf (decide ((↑s.size : Int) ≠ 64)) (Q (Value.int IntKind.i64 2) h)
    (xsIf (decide (at0 < 0)) (Q (Value.int IntKind.i64 3) h)
      (atBase d fun (b o : Nat) => ∃ (x : Option Addr), ∃ (n : Nat), ∃ (m : Nat), h.cell b (o + 1) = some (Value.slice x n m) ∧ xsIf (decide ((↑n : Int) ≤ at0)) (Q (Value.int IntKind.i64 3) h) (gabionref04_Put.J5 d at0 s h Q)))
def gabionref04_Put.J5.wp (d : Option Addr) (at0 : Int) (s : ByteArray) (h : Heap) (Q : Value → Heap → Prop) : Prop :=
  gabionref04_Put.L6 d at0 s 0 h Q
def gabionref04_Put.L6.wp (d : Option Addr) (at0 : Int) (s : ByteArray) (k0 : Int) (h : Heap) (Q : Value → Heap → Prop) : Prop :=
  xsIf (decide (k0 < 8))
    ((0 ≤ IntKind.i64.wrap (IntKind.i64.wrap (8 * k0) + 8) ∧ IntKind.i64.wrap (IntKind.i64.wrap (8 * k0) + 8) ≤ (↑s.size : Int)) ∧
      (0 ≤ IntKind.i64.wrap (8 * k0) ∧ IntKind.i64.wrap (8 * k0) ≤ IntKind.i64.wrap (IntKind.i64.wrap (8 * k0) + 8)) ∧
        C Try.prog 66 #[Value.string (sext s (IntKind.i64.wrap (8 * k0)) (IntKind.i64.wrap (IntKind.i64.wrap (8 * k0) + 8)))] h fun (r : Value) (h' : Heap) =>
          ∃ (x : Int),
            r = Value.int IntKind.u64 x ∧
              C Try.prog 56 #[Value.pointer d, Value.int IntKind.i64 (IntKind.i64.wrap (IntKind.i64.wrap (8 * at0) + k0)), Value.int IntKind.u64 x] h' fun (r : Value) (h' : Heap) =>
                ∃ (x : Int), r = Value.int IntKind.i64 x ∧ xsIf (decide (x ≠ 0)) (Q (Value.int IntKind.i64 x) h') (gabionref04_Put.L6 d at0 s (IntKind.i64.wrap (k0 + 1)) h' Q))
    (C Try.prog 67 #[Value.pointer d, Value.int IntKind.i64 at0] h fun (r : Value) (h' : Heap) => ∃ (x : Int), r = Value.int IntKind.i64 x ∧ Q (Value.int IntKind.i64 x) h')
theorem gabionref04_Put.ok {d : Option Addr} {at0 : Int} {s : ByteArray} {h : Heap} {Q : Value → Heap → Prop} (hk : gabionref04_Put.wp d at0 s h Q) : C Try.prog 38 #[.pointer d, .int .i64 at0, .string s] h Q :=
  C_of_xs (H := gabionref04_Put.H) (lcuts := gabionref04_Put.lc) (rcuts := gabionref04_Put.rc) (l := [.pointer d, .int .i64 at0, .string s]) 2000 mixed Try.func38 rfl (by kernel_rfl) (Eq.mp (by kernel_rfl) hk)
theorem gabionref04_Put.J5.ok {d : Option Addr} {at0 : Int} {s : ByteArray} {h : Heap} {Q : Value → Heap → Prop} (hk : gabionref04_Put.J5.wp d at0 s h Q) : gabionref04_Put.J5 d at0 s h Q :=
  xs_ok (H := gabionref04_Put.H) (lcuts := gabionref04_Put.lc) (rcuts := []) (fn := Try.f38) mixed Try.func38 2000 _ _ _ (Eq.mp (by kernel_rfl) hk)
theorem gabionref04_Put.L6.ok {d : Option Addr} {at0 : Int} {s : ByteArray} {k0 : Int} {h : Heap} {Q : Value → Heap → Prop} (hk : gabionref04_Put.L6.wp d at0 s k0 h Q) : gabionref04_Put.L6 d at0 s k0 h Q :=
  xs_ok (H := gabionref04_Put.H) (lcuts := gabionref04_Put.lc) (rcuts := gabionref04_Put.rc) (fn := Try.f38) mixed Try.func38 2000 _ _ _ (Eq.mp (by kernel_rfl) hk)

/-! gabion/gabionref04.PutWord -/
def gabionref04_PutWord.H : Hn := ⟨[], [], [], []⟩
def gabionref04_PutWord.lc : List Cut := []
def gabionref04_PutWord.rc : List Cut := [⟨3, [0, 1, 2, 3], []⟩, ⟨5, [0, 1, 2, 3], []⟩]
def gabionref04_PutWord.J3 (d : Option Addr) (at0 : Int) (k0 : Int) (v : Int) (h : Heap) (Q : Value → Heap → Prop) : Prop :=
  TW Try.prog 39 40 [.code (cAt (bodyOf Try.f39) [1, 1, 0, 0]), .code (cAt (bodyOf Try.f39) [1, 1, 0, 1]), .code (cAt (bodyOf Try.f39) [1, 1, 1])] ⟨[(0, .v (.pointer d)), (1, .v (.int .i64 at0)), (2, .v (.int .i64 k0)), (3, .v (.int .u64 v))], []⟩ h Q
def gabionref04_PutWord.J5 (d : Option Addr) (at0 : Int) (k0 : Int) (v : Int) (h : Heap) (Q : Value → Heap → Prop) : Prop :=
  TW Try.prog 39 40 [.code (cAt (bodyOf Try.f39) [1, 1, 1, 0]), .code (cAt (bodyOf Try.f39) [1, 1, 1, 1])] ⟨[(0, .v (.pointer d)), (1, .v (.int .i64 at0)), (2, .v (.int .i64 k0)), (3, .v (.int .u64 v))], []⟩ h Q
def gabionref04_PutWord.wp (d : Option Addr) (at0 : Int) (k0 : Int) (v : Int) (h : Heap) (Q : Value → Heap → Prop) : Prop :=
  xsIf (decide (k0 < 0)) (Q (Value.int IntKind.i64 2) h) (xsIf (decide (7 < k0)) (Q (Value.int IntKind.i64 2) h) (gabionref04_PutWord.J3 d at0 k0 v h Q))
def gabionref04_PutWord.J3.wp (d : Option Addr) (at0 : Int) (k0 : Int) (v : Int) (h : Heap) (Q : Value → Heap → Prop) : Prop :=
  xsIf (decide (at0 < 0)) (Q (Value.int IntKind.i64 3) h)
    (atBase d fun (b o : Nat) => ∃ (x : Option Addr), ∃ (n : Nat), ∃ (m : Nat), h.cell b (o + 1) = some (Value.slice x n m) ∧ xsIf (decide ((↑n : Int) ≤ at0)) (Q (Value.int IntKind.i64 3) h) (gabionref04_PutWord.J5 d at0 k0 v h Q))
def gabionref04_PutWord.J5.wp (d : Option Addr) (at0 : Int) (k0 : Int) (v : Int) (h : Heap) (Q : Value → Heap → Prop) : Prop :=
  C Try.prog 56 #[Value.pointer d, Value.int IntKind.i64 (IntKind.i64.wrap (IntKind.i64.wrap (8 * at0) + k0)), Value.int IntKind.u64 v] h fun (r : Value) (h' : Heap) =>
    ∃ (x : Int),
      r = Value.int IntKind.i64 x ∧
        xsIf (decide (x ≠ 0)) (Q (Value.int IntKind.i64 x) h')
          (C Try.prog 67 #[Value.pointer d, Value.int IntKind.i64 at0] h' fun (r : Value) (h' : Heap) => ∃ (x : Int), r = Value.int IntKind.i64 x ∧ Q (Value.int IntKind.i64 x) h')
theorem gabionref04_PutWord.ok {d : Option Addr} {at0 : Int} {k0 : Int} {v : Int} {h : Heap} {Q : Value → Heap → Prop} (hk : gabionref04_PutWord.wp d at0 k0 v h Q) : C Try.prog 39 #[.pointer d, .int .i64 at0, .int .i64 k0, .int .u64 v] h Q :=
  C_of_xs (H := gabionref04_PutWord.H) (lcuts := gabionref04_PutWord.lc) (rcuts := gabionref04_PutWord.rc) (l := [.pointer d, .int .i64 at0, .int .i64 k0, .int .u64 v]) 2000 mixed Try.func39 rfl (by kernel_rfl) (Eq.mp (by kernel_rfl) hk)
theorem gabionref04_PutWord.J3.ok {d : Option Addr} {at0 : Int} {k0 : Int} {v : Int} {h : Heap} {Q : Value → Heap → Prop} (hk : gabionref04_PutWord.J3.wp d at0 k0 v h Q) : gabionref04_PutWord.J3 d at0 k0 v h Q :=
  xs_ok (H := gabionref04_PutWord.H) (lcuts := gabionref04_PutWord.lc) (rcuts := [⟨5, [0, 1, 2, 3], []⟩]) (fn := Try.f39) mixed Try.func39 2000 _ _ _ (Eq.mp (by kernel_rfl) hk)
theorem gabionref04_PutWord.J5.ok {d : Option Addr} {at0 : Int} {k0 : Int} {v : Int} {h : Heap} {Q : Value → Heap → Prop} (hk : gabionref04_PutWord.J5.wp d at0 k0 v h Q) : gabionref04_PutWord.J5 d at0 k0 v h Q :=
  xs_ok (H := gabionref04_PutWord.H) (lcuts := gabionref04_PutWord.lc) (rcuts := [⟨3, [0, 1, 2, 3], []⟩]) (fn := Try.f39) mixed Try.func39 2000 _ _ _ (Eq.mp (by kernel_rfl) hk)

/-! gabion/gabionref01.Put -/
def gabionref01_Put.H : Hn := ⟨[], [], [], []⟩
def gabionref01_Put.lc : List Cut := [⟨3, [0, 1, 5, 6], []⟩]
def gabionref01_Put.rc : List Cut := [⟨5, [0, 1, 5, 6], []⟩]
def gabionref01_Put.L3 (n : Int) (size : Int) (b : Option Addr) (b_n : Nat) (b_c : Nat) (i : Int) (h : Heap) (Q : Value → Heap → Prop) : Prop :=
  TW Try.prog 68 26 [.code (cAt (bodyOf Try.f68) [1, 1, 0, 1, 0, 0]), .inLoop (cAt (bodyOf Try.f68) [1, 1, 0, 1, 0, 0]), .inBlock 0, .code (cAt (bodyOf Try.f68) [1, 1, 1])] ⟨[(0, .v (.int .u64 n)), (1, .v (.int .i64 size)), (5, .v (.slice b b_n b_c)), (6, .v (.int .i64 i))], []⟩ h Q
def gabionref01_Put.J5 (n : Int) (size : Int) (b : Option Addr) (b_n : Nat) (b_c : Nat) (i : Int) (h : Heap) (Q : Value → Heap → Prop) : Prop :=
  TW Try.prog 68 26 [.code (cAt (bodyOf Try.f68) [1, 1, 0, 1, 0, 0, 1, 0, 0, 0]), .code (cAt (bodyOf Try.f68) [1, 1, 0, 1, 0, 0, 1, 0, 0, 1]), .inBlock 1, .code (cAt (bodyOf Try.f68) [1, 1, 0, 1, 0, 0, 1, 1]), .inLoop (cAt (bodyOf Try.f68) [1, 1, 0, 1, 0, 0]), .inBlock 0, .code (cAt (bodyOf Try.f68) [1, 1, 1])] ⟨[(0, .v (.int .u64 n)), (1, .v (.int .i64 size)), (5, .v (.slice b b_n b_c)), (6, .v (.int .i64 i))], []⟩ h Q
def gabionref01_Put.wp (n : Int) (size : Int) (h : Heap) (Q : Value → Heap → Prop) : Prop :=
  gabionref01_Put.L3 n size none 0 0 0 h Q
def gabionref01_Put.L3.wp (n : Int) (size : Int) (b : Option Addr) (b_n : Nat) (b_c : Nat) (i : Int) (h : Heap) (Q : Value → Heap → Prop) : Prop :=
  xsIf (decide (i < size)) (xsIf (decide (i < 8)) (gabionref01_Put.J5 n size b b_n b_c i h Q) (xsStr h b b_n fun (s : ByteArray) => Q (Value.string s) h)) (xsStr h b b_n fun (s : ByteArray) => Q (Value.string s) h)
def gabionref01_Put.J5.wp (n : Int) (size : Int) (b : Option Addr) (b_n : Nat) (b_c : Nat) (i : Int) (h : Heap) (Q : Value → Heap → Prop) : Prop :=
  ∀ (b_1 : Nat),
    h b_1 = none →
      xsApp Try.prog 5 (upd h b_1 (Obj.cells #[Value.int IntKind.u8 (IntKind.u8.wrap (irem n 256))] 5 (0, 0))) b b_n b_c (some { block := b_1, off := 0 }) 1 fun (a' : Option Addr) (n' c' : Nat) (h' : Heap) =>
        gabionref01_Put.L3 (iquo IntKind.u64 n 256) size a' n' c' (IntKind.i64.wrap (i + 1)) h' Q
theorem gabionref01_Put.ok {n : Int} {size : Int} {h : Heap} {Q : Value → Heap → Prop} (hk : gabionref01_Put.wp n size h Q) : C Try.prog 68 #[.int .u64 n, .int .i64 size] h Q :=
  C_of_xs (H := gabionref01_Put.H) (lcuts := gabionref01_Put.lc) (rcuts := gabionref01_Put.rc) (l := [.int .u64 n, .int .i64 size]) 2000 mixed Try.func68 rfl (by kernel_rfl) (Eq.mp (by kernel_rfl) hk)
theorem gabionref01_Put.L3.ok {n : Int} {size : Int} {b : Option Addr} {b_n : Nat} {b_c : Nat} {i : Int} {h : Heap} {Q : Value → Heap → Prop} (hk : gabionref01_Put.L3.wp n size b b_n b_c i h Q) : gabionref01_Put.L3 n size b b_n b_c i h Q :=
  xs_ok (H := gabionref01_Put.H) (lcuts := gabionref01_Put.lc) (rcuts := gabionref01_Put.rc) (fn := Try.f68) mixed Try.func68 2000 _ _ _ (Eq.mp (by kernel_rfl) hk)
theorem gabionref01_Put.J5.ok {n : Int} {size : Int} {b : Option Addr} {b_n : Nat} {b_c : Nat} {i : Int} {h : Heap} {Q : Value → Heap → Prop} (hk : gabionref01_Put.J5.wp n size b b_n b_c i h Q) : gabionref01_Put.J5 n size b b_n b_c i h Q :=
  xs_ok (H := gabionref01_Put.H) (lcuts := gabionref01_Put.lc) (rcuts := []) (fn := Try.f68) mixed Try.func68 2000 _ _ _ (Eq.mp (by kernel_rfl) hk)

/-! gabion/gabionref04.Get -/
def gabionref04_Get.H : Hn := ⟨[], [], [], []⟩
def gabionref04_Get.lc : List Cut := [⟨5, [0, 1, 6, 7], []⟩]
def gabionref04_Get.rc : List Cut := [⟨3, [0, 1], []⟩]
def gabionref04_Get.J3 (d : Option Addr) (at0 : Int) (h : Heap) (Q : Value → Heap → Prop) : Prop :=
  TW Try.prog 40 51 [.code (cAt (bodyOf Try.f40) [1, 1, 0]), .code (cAt (bodyOf Try.f40) [1, 1, 1])] ⟨[(0, .v (.pointer d)), (1, .v (.int .i64 at0))], []⟩ h Q
def gabionref04_Get.L5 (d : Option Addr) (at0 : Int) (s : ByteArray) (k0 : Int) (h : Heap) (Q : Value → Heap → Prop) : Prop :=
  TW Try.prog 40 51 [.code (cAt (bodyOf Try.f40) [1, 1, 1, 0, 1, 0, 0]), .inLoop (cAt (bodyOf Try.f40) [1, 1, 1, 0, 1, 0, 0]), .inBlock 0, .code (cAt (bodyOf Try.f40) [1, 1, 1, 1])] ⟨[(0, .v (.pointer d)), (1, .v (.int .i64 at0)), (6, .v (.string s)), (7, .v (.int .i64 k0))], []⟩ h Q
def gabionref04_Get.wp (d : Option Addr) (at0 : Int) (h : Heap) (Q : Value → Heap → Prop) : Prop :=
  atBase d fun (b o : Nat) =>
    ∃ (x : Bool),
      h.cell b (o + 4) = some (Value.bool x) ∧
        xsIf (!x)
          (xsIf (decide (at0 < 0)) (Q (Value.tuple #[Value.string { data := #[] }, Value.int IntKind.i64 3]) h)
            (atBase d fun (b o : Nat) =>
              ∃ (x : Option Addr),
                ∃ (n : Nat),
                  ∃ (m : Nat),
                    h.cell b (o + 1) = some (Value.slice x n m) ∧ xsIf (decide ((↑n : Int) ≤ at0)) (Q (Value.tuple #[Value.string { data := #[] }, Value.int IntKind.i64 3]) h) (gabionref04_Get.J3 d at0 h Q)))
          (gabionref04_Get.J3 d at0 h Q)
def gabionref04_Get.J3.wp (d : Option Addr) (at0 : Int) (h : Heap) (Q : Value → Heap → Prop) : Prop :=
  gabionref04_Get.L5 d at0 { data := #[] } 0 h Q
def gabionref04_Get.L5.wp (d : Option Addr) (at0 : Int) (s : ByteArray) (k0 : Int) (h : Heap) (Q : Value → Heap → Prop) : Prop :=
  xsIf (decide (k0 < 8))
    (C Try.prog 59 #[Value.pointer d, Value.int IntKind.i64 (IntKind.i64.wrap (IntKind.i64.wrap (8 * at0) + k0))] h fun (r : Value) (h' : Heap) =>
      ∃ (x : Int),
        ∃ (x_1 : Int),
          r = Value.tuple #[Value.int IntKind.u64 x, Value.int IntKind.i64 x_1] ∧
            xsIf (decide (x_1 ≠ 0)) (Q (Value.tuple #[Value.string { data := #[] }, Value.int IntKind.i64 x_1]) h')
              (C Try.prog 68 #[Value.int IntKind.u64 x, Value.int IntKind.i64 8] h' fun (r : Value) (h' : Heap) =>
                ∃ (x : ByteArray), r = Value.string x ∧ (↑(s.size + x.size) : Int) ≤ 9223372036854775807 ∧ gabionref04_Get.L5 d at0 (s ++ x) (IntKind.i64.wrap (k0 + 1)) h' Q))
    (Q (Value.tuple #[Value.string s, Value.int IntKind.i64 0]) h)
theorem gabionref04_Get.ok {d : Option Addr} {at0 : Int} {h : Heap} {Q : Value → Heap → Prop} (hk : gabionref04_Get.wp d at0 h Q) : C Try.prog 40 #[.pointer d, .int .i64 at0] h Q :=
  C_of_xs (H := gabionref04_Get.H) (lcuts := gabionref04_Get.lc) (rcuts := gabionref04_Get.rc) (l := [.pointer d, .int .i64 at0]) 2000 mixed Try.func40 rfl (by kernel_rfl) (Eq.mp (by kernel_rfl) hk)
theorem gabionref04_Get.J3.ok {d : Option Addr} {at0 : Int} {h : Heap} {Q : Value → Heap → Prop} (hk : gabionref04_Get.J3.wp d at0 h Q) : gabionref04_Get.J3 d at0 h Q :=
  xs_ok (H := gabionref04_Get.H) (lcuts := gabionref04_Get.lc) (rcuts := []) (fn := Try.f40) mixed Try.func40 2000 _ _ _ (Eq.mp (by kernel_rfl) hk)
theorem gabionref04_Get.L5.ok {d : Option Addr} {at0 : Int} {s : ByteArray} {k0 : Int} {h : Heap} {Q : Value → Heap → Prop} (hk : gabionref04_Get.L5.wp d at0 s k0 h Q) : gabionref04_Get.L5 d at0 s k0 h Q :=
  xs_ok (H := gabionref04_Get.H) (lcuts := gabionref04_Get.lc) (rcuts := gabionref04_Get.rc) (fn := Try.f40) mixed Try.func40 2000 _ _ _ (Eq.mp (by kernel_rfl) hk)

/-! gabion/gabionref04.Media -/
def gabionref04_Media.H : Hn := ⟨[], [], [], []⟩
def gabionref04_Media.lc : List Cut := [⟨3, [0, 1, 5, 6], []⟩]
def gabionref04_Media.rc : List Cut := []
def gabionref04_Media.L3 (d : Option Addr) (at0 : Int) (s : ByteArray) (k0 : Int) (h : Heap) (Q : Value → Heap → Prop) : Prop :=
  TW Try.prog 42 28 [.code (cAt (bodyOf Try.f42) [1, 1, 0, 1, 0, 0]), .inLoop (cAt (bodyOf Try.f42) [1, 1, 0, 1, 0, 0]), .inBlock 0, .code (cAt (bodyOf Try.f42) [1, 1, 1])] ⟨[(0, .v (.pointer d)), (1, .v (.int .i64 at0)), (5, .v (.string s)), (6, .v (.int .i64 k0))], []⟩ h Q
def gabionref04_Media.wp (d : Option Addr) (at0 : Int) (h : Heap) (Q : Value → Heap → Prop) : Prop :=
  gabionref04_Media.L3 d at0 { data := #[] } 0 h Q
def gabionref04_Media.L3.wp (d : Option Addr) (at0 : Int) (s : ByteArray) (k0 : Int) (h : Heap) (Q : Value → Heap → Prop) : Prop :=
  xsIf (decide (k0 < 8))
    (atBase d fun (b o : Nat) =>
      ∃ (x : Option Addr),
        ∃ (n : Nat),
          ∃ (m : Nat),
            h.cell b (o + 0) = some (Value.slice x n m) ∧
              (0 ≤ IntKind.i64.wrap (IntKind.i64.wrap (8 * at0) + k0) ∧ IntKind.i64.wrap (IntKind.i64.wrap (8 * at0) + k0) < (↑n : Int)) ∧
                atBase x fun (b o : Nat) =>
                  ∃ (x : Int),
                    h.cell b (o + (IntKind.i64.wrap (IntKind.i64.wrap (8 * at0) + k0)).toNat * 4 + 0) = some (Value.int IntKind.u64 x) ∧
                      C Try.prog 68 #[Value.int IntKind.u64 x, Value.int IntKind.i64 8] h fun (r : Value) (h' : Heap) =>
                        ∃ (x : ByteArray), r = Value.string x ∧ (↑(s.size + x.size) : Int) ≤ 9223372036854775807 ∧ gabionref04_Media.L3 d at0 (s ++ x) (IntKind.i64.wrap (k0 + 1)) h' Q)
    (Q (Value.string s) h)
theorem gabionref04_Media.ok {d : Option Addr} {at0 : Int} {h : Heap} {Q : Value → Heap → Prop} (hk : gabionref04_Media.wp d at0 h Q) : C Try.prog 42 #[.pointer d, .int .i64 at0] h Q :=
  C_of_xs (H := gabionref04_Media.H) (lcuts := gabionref04_Media.lc) (rcuts := gabionref04_Media.rc) (l := [.pointer d, .int .i64 at0]) 2000 mixed Try.func42 rfl (by kernel_rfl) (Eq.mp (by kernel_rfl) hk)
theorem gabionref04_Media.L3.ok {d : Option Addr} {at0 : Int} {s : ByteArray} {k0 : Int} {h : Heap} {Q : Value → Heap → Prop} (hk : gabionref04_Media.L3.wp d at0 s k0 h Q) : gabionref04_Media.L3 d at0 s k0 h Q :=
  xs_ok (H := gabionref04_Media.H) (lcuts := gabionref04_Media.lc) (rcuts := gabionref04_Media.rc) (fn := Try.f42) mixed Try.func42 2000 _ _ _ (Eq.mp (by kernel_rfl) hk)

/-! gabion/gabionlaw04.LinePlays -/
def gabionlaw04_LinePlays.H : Hn := ⟨[], [], [⟨12, .q 0 (.q 1 (.q 2 (.q 3 (.q 6 (.q 7 (.q 8 (.q 9 (.q 4 (.q 5 (.q 10 (.q 11 (.q 12 (.q 13 (.nil)))))))))))))), []⟩, ⟨14, .q 0 (.q 1 (.q 2 (.q 3 (.q 5 (.q 6 (.q 7 (.q 8 (.q 4 (.q 9 (.q 10 (.q 11 (.nil)))))))))))), []⟩, ⟨16, .q 0 (.q 1 (.q 2 (.q 3 (.q 4 (.q 5 (.q 6 (.q 8 (.q 9 (.q 10 (.q 11 (.q 12 (.q 13 (.q 14 (.q 7 (.q 15 (.q 16 (.q 17 (.nil)))))))))))))))))), []⟩, ⟨24, .q 0 (.q 1 (.q 2 (.q 4 (.q 5 (.q 3 (.q 6 (.q 7 (.nil)))))))), []⟩, ⟨32, .q 0 (.q 1 (.q 2 (.q 3 (.q 5 (.q 6 (.q 7 (.br 4 (.q 8 (.q 9 (.q 10 (.nil)))) (.one 8 (.q 4 (.q 9 (.q 10 (.nil)))))))))))), []⟩], []⟩
def gabionlaw04_LinePlays.lc : List Cut := [⟨6, [3, 5, 36, 37, 38], []⟩, ⟨35, [3, 5, 8, 36, 37, 38, 183], []⟩]
def gabionlaw04_LinePlays.rc : List Cut := [⟨5, [0, 3, 5], []⟩, ⟨32, [3, 5, 8, 9, 36, 37, 38], []⟩, ⟨34, [3, 5, 8, 36, 37, 38], []⟩]
def gabionlaw04_LinePlays.J5 (acts : Option Addr) (acts_n : Nat) (acts_c : Nat) (d : Option Addr) (m : Option Addr) (h : Heap) (Q : Value → Heap → Prop) : Prop :=
  TW Try.prog 10 208 [.code (cAt (bodyOf Try.f10) [1, 1, 1, 1, 0, 0]), .code (cAt (bodyOf Try.f10) [1, 1, 1, 1, 0, 1]), .code (cAt (bodyOf Try.f10) [1, 1, 1, 1, 1])] ⟨[(0, .v (.slice acts acts_n acts_c)), (3, .v (.pointer d)), (5, .v (.pointer m))], []⟩ h Q
def gabionlaw04_LinePlays.L6 (d : Option Addr) (m : Option Addr) (t36 : Option Addr) (t36_n : Nat) (t36_c : Nat) (t37 : Int) (t38 : Int) (h : Heap) (Q : Value → Heap → Prop) : Prop :=
  TW Try.prog 10 208 [.code (cAt (bodyOf Try.f10) [1, 1, 1, 1, 0, 1, 0, 0]), .inLoop (cAt (bodyOf Try.f10) [1, 1, 1, 1, 0, 1, 0, 0]), .inBlock 0, .code (cAt (bodyOf Try.f10) [1, 1, 1, 1, 1])] ⟨[(3, .v (.pointer d)), (5, .v (.pointer m)), (36, .v (.slice t36 t36_n t36_c)), (37, .v (.int .i64 t37)), (38, .v (.int .i64 t38))], []⟩ h Q
def gabionlaw04_LinePlays.J32 (d : Option Addr) (m : Option Addr) (s : ByteArray) (ok : Bool) (t36 : Option Addr) (t36_n : Nat) (t36_c : Nat) (t37 : Int) (t38 : Int) (h : Heap) (Q : Value → Heap → Prop) : Prop :=
  TW Try.prog 10 208 [.code (cAt (bodyOf Try.f10) [1, 1, 1, 1, 0, 1, 0, 0, 1, 1, 0, 0, 1, 1, 1, 1, 0, 0]), .code (cAt (bodyOf Try.f10) [1, 1, 1, 1, 0, 1, 0, 0, 1, 1, 0, 0, 1, 1, 1, 1, 0, 1]), .code (cAt (bodyOf Try.f10) [1, 1, 1, 1, 0, 1, 0, 0, 1, 1, 0, 0, 1, 1, 1, 1, 1]), .inBlock 1, .code (cAt (bodyOf Try.f10) [1, 1, 1, 1, 0, 1, 0, 0, 1, 1, 1]), .inLoop (cAt (bodyOf Try.f10) [1, 1, 1, 1, 0, 1, 0, 0]), .inBlock 0, .code (cAt (bodyOf Try.f10) [1, 1, 1, 1, 1])] ⟨[(3, .v (.pointer d)), (5, .v (.pointer m)), (8, .v (.string s)), (9, .v (.bool ok)), (36, .v (.slice t36 t36_n t36_c)), (37, .v (.int .i64 t37)), (38, .v (.int .i64 t38))], []⟩ h Q
def gabionlaw04_LinePlays.J34 (d : Option Addr) (m : Option Addr) (s : ByteArray) (t36 : Option Addr) (t36_n : Nat) (t36_c : Nat) (t37 : Int) (t38 : Int) (h : Heap) (Q : Value → Heap → Prop) : Prop :=
  TW Try.prog 10 208 [.code (cAt (bodyOf Try.f10) [1, 1, 1, 1, 0, 1, 0, 0, 1, 1, 0, 0, 1, 1, 1, 1, 1, 0]), .code (cAt (bodyOf Try.f10) [1, 1, 1, 1, 0, 1, 0, 0, 1, 1, 0, 0, 1, 1, 1, 1, 1, 1]), .inBlock 1, .code (cAt (bodyOf Try.f10) [1, 1, 1, 1, 0, 1, 0, 0, 1, 1, 1]), .inLoop (cAt (bodyOf Try.f10) [1, 1, 1, 1, 0, 1, 0, 0]), .inBlock 0, .code (cAt (bodyOf Try.f10) [1, 1, 1, 1, 1])] ⟨[(3, .v (.pointer d)), (5, .v (.pointer m)), (8, .v (.string s)), (36, .v (.slice t36 t36_n t36_c)), (37, .v (.int .i64 t37)), (38, .v (.int .i64 t38))], []⟩ h Q
def gabionlaw04_LinePlays.L35 (d : Option Addr) (m : Option Addr) (s : ByteArray) (t36 : Option Addr) (t36_n : Nat) (t36_c : Nat) (t37 : Int) (t38 : Int) (t183 : Int) (h : Heap) (Q : Value → Heap → Prop) : Prop :=
  TW Try.prog 10 208 [.code (cAt (bodyOf Try.f10) [1, 1, 1, 1, 0, 1, 0, 0, 1, 1, 0, 0, 1, 1, 1, 1, 1, 1, 0, 0]), .inLoop (cAt (bodyOf Try.f10) [1, 1, 1, 1, 0, 1, 0, 0, 1, 1, 0, 0, 1, 1, 1, 1, 1, 1, 0, 0]), .inBlock 3, .inBlock 1, .code (cAt (bodyOf Try.f10) [1, 1, 1, 1, 0, 1, 0, 0, 1, 1, 1]), .inLoop (cAt (bodyOf Try.f10) [1, 1, 1, 1, 0, 1, 0, 0]), .inBlock 0, .code (cAt (bodyOf Try.f10) [1, 1, 1, 1, 1])] ⟨[(3, .v (.pointer d)), (5, .v (.pointer m)), (8, .v (.string s)), (36, .v (.slice t36 t36_n t36_c)), (37, .v (.int .i64 t37)), (38, .v (.int .i64 t38)), (183, .v (.int .i64 t183))], []⟩ h Q
def gabionlaw04_LinePlays.wp (acts : Option Addr) (acts_n : Nat) (acts_c : Nat) (h : Heap) (Q : Value → Heap → Prop) : Prop :=
  C Try.prog 12 #[Value.int IntKind.i64 3] h fun (r : Value) (h' : Heap) =>
    ∃ (x : Option Addr),
      ∃ (x_1 : Int),
        r = Value.tuple #[Value.pointer x, Value.int IntKind.i64 x_1] ∧
          C Try.prog 22 #[Value.int IntKind.i64 3] h' fun (r : Value) (h' : Heap) =>
            ∃ (x_2 : Option Addr),
              r = Value.pointer x_2 ∧
                C Try.prog 31 #[] h' fun (r : Value) (h' : Heap) =>
                  ∃ (x_3 : Bool),
                    r = Value.bool x_3 ∧ xsIf (!x_3) (Q (Value.bool false) h') (xsIf (decide (x_1 ≠ 0)) (Q (Value.bool false) h') (xsIf x.isNone (Q (Value.bool false) h') (gabionlaw04_LinePlays.J5 acts acts_n acts_c x x_2 h' Q)))
def gabionlaw04_LinePlays.J5.wp (acts : Option Addr) (acts_n : Nat) (acts_c : Nat) (d : Option Addr) (m : Option Addr) (h : Heap) (Q : Value → Heap → Prop) : Prop :=
  (0 ≤ imin (↑acts_n : Int) 40 ∧ imin (↑acts_n : Int) 40 ≤ (↑acts_c : Int)) ∧
    gabionlaw04_LinePlays.L6 d m (slBase acts (↑acts_c : Int) 0 6) (imin (↑acts_n : Int) 40 - 0).toNat ((↑acts_c : Int) - 0).toNat (↑(imin (↑acts_n : Int) 40 - 0).toNat : Int) 0 h Q
def gabionlaw04_LinePlays.L6.wp (d : Option Addr) (m : Option Addr) (t36 : Option Addr) (t36_n : Nat) (t36_c : Nat) (t37 : Int) (t38 : Int) (h : Heap) (Q : Value → Heap → Prop) : Prop :=
  xsIf (decide (t38 < t37))
    ((0 ≤ t38 ∧ t38 < (↑t36_n : Int)) ∧
      atBase t36 fun (b o : Nat) =>
        ∃ (x : Int),
          h.cell b (o + t38.toNat * 6) = some (Value.int IntKind.i64 x) ∧
            ∃ (x_1 : Int),
              h.cell b (o + t38.toNat * 6 + 1) = some (Value.int IntKind.i64 x_1) ∧
                ∃ (x_2 : Int),
                  h.cell b (o + t38.toNat * 6 + 1 + 1) = some (Value.int IntKind.i64 x_2) ∧
                    ∃ (x_3 : Int),
                      h.cell b (o + t38.toNat * 6 + 1 + 1 + 1) = some (Value.int IntKind.u64 x_3) ∧
                        ∃ (x_4 : ByteArray),
                          h.cell b (o + t38.toNat * 6 + 1 + 1 + 1 + 1) = some (Value.string x_4) ∧
                            ∃ (x_5 : Option Addr),
                              ∃ (n : Nat),
                                ∃ (m_1 : Nat),
                                  h.cell b (o + t38.toNat * 6 + 1 + 1 + 1 + 1 + 1) = some (Value.slice x_5 n m_1) ∧
                                    (0 ≤ imin (↑x_4.size : Int) 80 ∧ imin (↑x_4.size : Int) 80 ≤ (↑x_4.size : Int)) ∧
                                      xsIf (decide (irem (imax 0 x) 7 = 0))
                                        (C Try.prog 35 #[Value.string (sext x_4 0 (imin (↑x_4.size : Int) 80))] h fun (r : Value) (h' : Heap) =>
                                          ∃ (x : ByteArray),
                                            r = Value.string x ∧
                                              C Try.prog 32 #[Value.pointer d, Value.int IntKind.i64 x_1, Value.string x] h' fun (r : Value) (h' : Heap) =>
                                                ∃ (x : Int),
                                                  r = Value.int IntKind.i64 x ∧
                                                    C Try.prog 35 #[Value.string (sext x_4 0 (imin (↑x_4.size : Int) 80))] h' fun (r : Value) (h' : Heap) =>
                                                      ∃ (x_6 : ByteArray),
                                                        r = Value.string x_6 ∧
                                                          C Try.prog 38 #[Value.pointer m, Value.int IntKind.i64 x_1, Value.string x_6] h' fun (r : Value) (h' : Heap) =>
                                                            ∃ (x_7 : Int), r = Value.int IntKind.i64 x_7 ∧ gabionlaw04_LinePlays.J32 d m (sext x_4 0 (imin (↑x_4.size : Int) 80)) (decide (x = x_7)) t36 t36_n t36_c t37 t38 h' Q)
                                        (xsIf (decide (irem (imax 0 x) 7 = 1))
                                          (C Try.prog 32 #[Value.pointer d, Value.int IntKind.i64 x_1, Value.string (sext x_4 0 (imin (↑x_4.size : Int) 80))] h fun (r : Value) (h' : Heap) =>
                                            ∃ (x : Int),
                                              r = Value.int IntKind.i64 x ∧
                                                C Try.prog 38 #[Value.pointer m, Value.int IntKind.i64 x_1, Value.string (sext x_4 0 (imin (↑x_4.size : Int) 80))] h' fun (r : Value) (h' : Heap) =>
                                                  ∃ (x_6 : Int), r = Value.int IntKind.i64 x_6 ∧ gabionlaw04_LinePlays.J32 d m (sext x_4 0 (imin (↑x_4.size : Int) 80)) (decide (x = x_6)) t36 t36_n t36_c t37 t38 h' Q)
                                          (xsIf (decide (irem (imax 0 x) 7 = 2))
                                            (C Try.prog 33 #[Value.pointer d, Value.int IntKind.i64 x_1, Value.int IntKind.i64 x_2, Value.int IntKind.u64 x_3] h fun (r : Value) (h' : Heap) =>
                                              ∃ (x : Int),
                                                r = Value.int IntKind.i64 x ∧
                                                  C Try.prog 39 #[Value.pointer m, Value.int IntKind.i64 x_1, Value.int IntKind.i64 x_2, Value.int IntKind.u64 x_3] h' fun (r : Value) (h' : Heap) =>
                                                    ∃ (x_6 : Int), r = Value.int IntKind.i64 x_6 ∧ gabionlaw04_LinePlays.J32 d m (sext x_4 0 (imin (↑x_4.size : Int) 80)) (decide (x = x_6)) t36 t36_n t36_c t37 t38 h' Q)
                                            (xsIf (decide (irem (imax 0 x) 7 = 3))
                                              (C Try.prog 30 #[Value.pointer d, Value.int IntKind.i64 x_1] h fun (r : Value) (h' : Heap) =>
                                                ∃ (x : ByteArray),
                                                  ∃ (x_6 : Int),
                                                    r = Value.tuple #[Value.string x, Value.int IntKind.i64 x_6] ∧
                                                      C Try.prog 40 #[Value.pointer m, Value.int IntKind.i64 x_1] h' fun (r : Value) (h' : Heap) =>
                                                        ∃ (x_7 : ByteArray),
                                                          ∃ (x_8 : Int),
                                                            r = Value.tuple #[Value.string x_7, Value.int IntKind.i64 x_8] ∧
                                                              xsIf (decide (x = x_7)) (gabionlaw04_LinePlays.J32 d m (sext x_4 0 (imin (↑x_4.size : Int) 80)) (decide (x_6 = x_8)) t36 t36_n t36_c t37 t38 h' Q)
                                                                (gabionlaw04_LinePlays.J32 d m (sext x_4 0 (imin (↑x_4.size : Int) 80)) false t36 t36_n t36_c t37 t38 h' Q))
                                              (xsIf (decide (irem (imax 0 x) 7 = 4))
                                                (C Try.prog 25 #[Value.pointer d, Value.int IntKind.i64 x_1] h fun (r : Value) (h' : Heap) =>
                                                  xsIf (decide (0 ≤ x_1))
                                                    (xsIf (decide (x_1 < 3))
                                                      (atBase m fun (b o : Nat) =>
                                                        ∃ (x : Option Addr),
                                                          ∃ (n : Nat),
                                                            ∃ (m_2 : Nat),
                                                              h'.cell b (o + 2) = some (Value.slice x n m_2) ∧
                                                                (0 ≤ x_1 ∧ x_1 < (↑n : Int)) ∧
                                                                  atBase x fun (b o : Nat) =>
                                                                    h'.can b (o + x_1.toNat * 1) 1 ∧
                                                                      gabionlaw04_LinePlays.J32 d m (sext x_4 0 (imin (↑x_4.size : Int) 80)) true t36 t36_n t36_c t37 t38 (h'.put b (o + x_1.toNat * 1) [Value.bool true]) Q)
                                                      (gabionlaw04_LinePlays.J32 d m (sext x_4 0 (imin (↑x_4.size : Int) 80)) true t36 t36_n t36_c t37 t38 h' Q))
                                                    (gabionlaw04_LinePlays.J32 d m (sext x_4 0 (imin (↑x_4.size : Int) 80)) true t36 t36_n t36_c t37 t38 h' Q))
                                                (xsIf (decide (irem (imax 0 x) 7 = 5))
                                                  (C Try.prog 26 #[Value.pointer d, Value.int IntKind.i64 x_2] h fun (r : Value) (h' : Heap) =>
                                                    atBase m fun (b o : Nat) =>
                                                      h'.can b (o + 3) 1 ∧ gabionlaw04_LinePlays.J32 d m (sext x_4 0 (imin (↑x_4.size : Int) 80)) true t36 t36_n t36_c t37 t38 (h'.put b (o + 3) [Value.int IntKind.i64 (imax x_2 0)]) Q)
                                                  (xsIf (decide (irem (imax 0 x) 7 = 6))
                                                    ((0 ≤ imin (↑n : Int) 30 ∧ imin (↑n : Int) 30 ≤ (↑m_1 : Int)) ∧
                                                      C Try.prog 18 #[Value.pointer d, Value.slice (slBase x_5 (↑m_1 : Int) 0 1) (imin (↑n : Int) 30 - 0).toNat ((↑m_1 : Int) - 0).toNat] h fun (r : Value) (h' : Heap) =>
                                                        C Try.prog 41 #[Value.pointer m, Value.slice (slBase x_5 (↑m_1 : Int) 0 1) (imin (↑n : Int) 30 - 0).toNat ((↑m_1 : Int) - 0).toNat] h' fun (r : Value) (h' : Heap) =>
                                                          gabionlaw04_LinePlays.J32 d m (sext x_4 0 (imin (↑x_4.size : Int) 80)) true t36 t36_n t36_c t37 t38 h' Q)
                                                    (gabionlaw04_LinePlays.J32 d m (sext x_4 0 (imin (↑x_4.size : Int) 80)) true t36 t36_n t36_c t37 t38 h Q))))))))
    (Q (Value.bool true) h)
def gabionlaw04_LinePlays.J32.wp (d : Option Addr) (m : Option Addr) (s : ByteArray) (ok : Bool) (t36 : Option Addr) (t36_n : Nat) (t36_c : Nat) (t37 : Int) (t38 : Int) (h : Heap) (Q : Value → Heap → Prop) : Prop :=
  xsIf (!ok) (Q (Value.bool false) h ∧ Q (Value.bool false) h)
    (atBase m fun (b o : Nat) =>
      (C Try.prog 27 #[Value.pointer d] h fun (r : Value) (h' : Heap) =>
          ∃ (x : Int), r = Value.int IntKind.i64 x ∧ ∃ (x_1 : Int), h'.cell b (o + 5) = some (Value.int IntKind.i64 x_1) ∧ xsIf (decide (x ≠ x_1)) (Q (Value.bool false) h') (gabionlaw04_LinePlays.J34 d m s t36 t36_n t36_c t37 t38 h' Q)) ∧
        ∃ (x : Int),
          h.cell b (o + 5) = some (Value.int IntKind.i64 x) ∧
            C Try.prog 27 #[Value.pointer d] h fun (r : Value) (h' : Heap) =>
              ∃ (x_1 : Int), r = Value.int IntKind.i64 x_1 ∧ xsIf (decide (x_1 ≠ x)) (Q (Value.bool false) h') (gabionlaw04_LinePlays.J34 d m s t36 t36_n t36_c t37 t38 h' Q))
def gabionlaw04_LinePlays.J34.wp (d : Option Addr) (m : Option Addr) (s : ByteArray) (t36 : Option Addr) (t36_n : Nat) (t36_c : Nat) (t37 : Int) (t38 : Int) (h : Heap) (Q : Value → Heap → Prop) : Prop :=
  gabionlaw04_LinePlays.L35 d m s t36 t36_n t36_c t37 t38 0 h Q
def gabionlaw04_LinePlays.L35.wp (d : Option Addr) (m : Option Addr) (s : ByteArray) (t36 : Option Addr) (t36_n : Nat) (t36_c : Nat) (t37 : Int) (t38 : Int) (t183 : Int) (h : Heap) (Q : Value → Heap → Prop) : Prop :=
  xsIf (decide (t183 < 3))
    (C Try.prog 42 #[Value.pointer m, Value.int IntKind.i64 t183] h fun (r : Value) (h' : Heap) =>
      ∃ (x : ByteArray),
        r = Value.string x ∧
          C Try.prog 34 #[Value.pointer d, Value.int IntKind.i64 t183, Value.string x] h' fun (r : Value) (h' : Heap) =>
            ∃ (x_1 : Bool),
              r = Value.bool x_1 ∧
                xsIf (!x_1) (Q (Value.bool false) h')
                  (C Try.prog 35 #[Value.string s] h' fun (r : Value) (h' : Heap) =>
                    ∃ (x_2 : ByteArray),
                      r = Value.string x_2 ∧
                        C Try.prog 34 #[Value.pointer d, Value.int IntKind.i64 t183, Value.string x_2] h' fun (r : Value) (h' : Heap) =>
                          ∃ (x_3 : Bool),
                            r = Value.bool x_3 ∧
                              C Try.prog 35 #[Value.string s] h' fun (r : Value) (h' : Heap) =>
                                ∃ (x_4 : ByteArray), r = Value.string x_4 ∧ xsIf (!x_3 == decide (x = x_4)) (Q (Value.bool false) h') (gabionlaw04_LinePlays.L35 d m s t36 t36_n t36_c t37 t38 (IntKind.i64.wrap (t183 + 1)) h' Q)))
    (gabionlaw04_LinePlays.L6 d m t36 t36_n t36_c t37 (IntKind.i64.wrap (t38 + 1)) h Q)
theorem gabionlaw04_LinePlays.ok {acts : Option Addr} {acts_n : Nat} {acts_c : Nat} {h : Heap} {Q : Value → Heap → Prop} (hk : gabionlaw04_LinePlays.wp acts acts_n acts_c h Q) : C Try.prog 10 #[.slice acts acts_n acts_c] h Q :=
  C_of_xs (H := gabionlaw04_LinePlays.H) (lcuts := gabionlaw04_LinePlays.lc) (rcuts := gabionlaw04_LinePlays.rc) (l := [.slice acts acts_n acts_c]) 2000 mixed Try.func10 rfl (by kernel_rfl) (Eq.mp (by kernel_rfl) hk)
theorem gabionlaw04_LinePlays.J5.ok {acts : Option Addr} {acts_n : Nat} {acts_c : Nat} {d : Option Addr} {m : Option Addr} {h : Heap} {Q : Value → Heap → Prop} (hk : gabionlaw04_LinePlays.J5.wp acts acts_n acts_c d m h Q) : gabionlaw04_LinePlays.J5 acts acts_n acts_c d m h Q :=
  xs_ok (H := gabionlaw04_LinePlays.H) (lcuts := gabionlaw04_LinePlays.lc) (rcuts := [⟨32, [3, 5, 8, 9, 36, 37, 38], []⟩, ⟨34, [3, 5, 8, 36, 37, 38], []⟩]) (fn := Try.f10) mixed Try.func10 2000 _ _ _ (Eq.mp (by kernel_rfl) hk)
theorem gabionlaw04_LinePlays.L6.ok {d : Option Addr} {m : Option Addr} {t36 : Option Addr} {t36_n : Nat} {t36_c : Nat} {t37 : Int} {t38 : Int} {h : Heap} {Q : Value → Heap → Prop} (hk : gabionlaw04_LinePlays.L6.wp d m t36 t36_n t36_c t37 t38 h Q) : gabionlaw04_LinePlays.L6 d m t36 t36_n t36_c t37 t38 h Q :=
  xs_ok (H := gabionlaw04_LinePlays.H) (lcuts := gabionlaw04_LinePlays.lc) (rcuts := gabionlaw04_LinePlays.rc) (fn := Try.f10) mixed Try.func10 2000 _ _ _ (Eq.mp (by kernel_rfl) hk)
theorem gabionlaw04_LinePlays.J32.ok {d : Option Addr} {m : Option Addr} {s : ByteArray} {ok : Bool} {t36 : Option Addr} {t36_n : Nat} {t36_c : Nat} {t37 : Int} {t38 : Int} {h : Heap} {Q : Value → Heap → Prop} (hk : gabionlaw04_LinePlays.J32.wp d m s ok t36 t36_n t36_c t37 t38 h Q) : gabionlaw04_LinePlays.J32 d m s ok t36 t36_n t36_c t37 t38 h Q :=
  xs_ok (H := gabionlaw04_LinePlays.H) (lcuts := gabionlaw04_LinePlays.lc) (rcuts := [⟨5, [0, 3, 5], []⟩, ⟨34, [3, 5, 8, 36, 37, 38], []⟩]) (fn := Try.f10) mixed Try.func10 2000 _ _ _ (Eq.mp (by kernel_rfl) hk)
theorem gabionlaw04_LinePlays.J34.ok {d : Option Addr} {m : Option Addr} {s : ByteArray} {t36 : Option Addr} {t36_n : Nat} {t36_c : Nat} {t37 : Int} {t38 : Int} {h : Heap} {Q : Value → Heap → Prop} (hk : gabionlaw04_LinePlays.J34.wp d m s t36 t36_n t36_c t37 t38 h Q) : gabionlaw04_LinePlays.J34 d m s t36 t36_n t36_c t37 t38 h Q :=
  xs_ok (H := gabionlaw04_LinePlays.H) (lcuts := gabionlaw04_LinePlays.lc) (rcuts := [⟨5, [0, 3, 5], []⟩, ⟨32, [3, 5, 8, 9, 36, 37, 38], []⟩]) (fn := Try.f10) mixed Try.func10 2000 _ _ _ (Eq.mp (by kernel_rfl) hk)
theorem gabionlaw04_LinePlays.L35.ok {d : Option Addr} {m : Option Addr} {s : ByteArray} {t36 : Option Addr} {t36_n : Nat} {t36_c : Nat} {t37 : Int} {t38 : Int} {t183 : Int} {h : Heap} {Q : Value → Heap → Prop} (hk : gabionlaw04_LinePlays.L35.wp d m s t36 t36_n t36_c t37 t38 t183 h Q) : gabionlaw04_LinePlays.L35 d m s t36 t36_n t36_c t37 t38 t183 h Q :=
  xs_ok (H := gabionlaw04_LinePlays.H) (lcuts := gabionlaw04_LinePlays.lc) (rcuts := gabionlaw04_LinePlays.rc) (fn := Try.f10) mixed Try.func10 2000 _ _ _ (Eq.mp (by kernel_rfl) hk)

/-! gabion/gabionlaw04.LineTorn -/
def gabionlaw04_LineTorn.H : Hn := ⟨[], [], [⟨15, .q 0 (.q 1 (.q 2 (.q 3 (.q 4 (.q 5 (.nil)))))), []⟩], []⟩
def gabionlaw04_LineTorn.lc : List Cut := [⟨4, [5, 7, 8, 9, 25], [5]⟩, ⟨9, [5, 7, 8, 9, 38], [5]⟩, ⟨21, [5, 7, 8, 9, 11, 12, 14, 16, 17, 38], [5]⟩]
def gabionlaw04_LineTorn.rc : List Cut := [⟨14, [5, 7, 8, 9, 11, 12, 38], [5]⟩, ⟨25, [5, 7, 8, 9, 11, 12, 14, 15, 38], [5]⟩, ⟨30, [5, 7, 8, 9, 11, 14, 15, 19, 38], [5]⟩]
def gabionlaw04_LineTorn.L4 (a : ByteArray) (b : ByteArray) (keep : Option Addr) (keep_n : Nat) (keep_c : Nat) (t25 : Int) (cut_5_0 : Int) (cut_5_1 : Int) (h : Heap) (Q : Value → Heap → Prop) : Prop :=
  TW Try.prog 11 156 [.code (cAt (bodyOf Try.f11) [1, 1, 1, 0, 1, 0, 0]), .inLoop (cAt (bodyOf Try.f11) [1, 1, 1, 0, 1, 0, 0]), .inBlock 0, .code (cAt (bodyOf Try.f11) [1, 1, 1, 1])] ⟨[(5, .p 5 0), (7, .v (.string a)), (8, .v (.string b)), (9, .v (.slice keep keep_n keep_c)), (25, .v (.int .i64 t25))], [(5, [.int .u8 cut_5_0, .int .u8 cut_5_1])]⟩ h Q
def gabionlaw04_LineTorn.L9 (a : ByteArray) (b : ByteArray) (keep : Option Addr) (keep_n : Nat) (keep_c : Nat) (t38 : Int) (cut_5_0 : Int) (cut_5_1 : Int) (h : Heap) (Q : Value → Heap → Prop) : Prop :=
  TW Try.prog 11 156 [.code (cAt (bodyOf Try.f11) [1, 1, 1, 1, 0, 1, 0, 0]), .inLoop (cAt (bodyOf Try.f11) [1, 1, 1, 1, 0, 1, 0, 0]), .inBlock 2, .code (cAt (bodyOf Try.f11) [1, 1, 1, 1, 1])] ⟨[(5, .p 5 0), (7, .v (.string a)), (8, .v (.string b)), (9, .v (.slice keep keep_n keep_c)), (38, .v (.int .i64 t38))], [(5, [.int .u8 cut_5_0, .int .u8 cut_5_1])]⟩ h Q
def gabionlaw04_LineTorn.J14 (a : ByteArray) (b : ByteArray) (keep : Option Addr) (keep_n : Nat) (keep_c : Nat) (turn : Int) (d : Option Addr) (t38 : Int) (cut_5_0 : Int) (cut_5_1 : Int) (h : Heap) (Q : Value → Heap → Prop) : Prop :=
  TW Try.prog 11 156 [.code (cAt (bodyOf Try.f11) [1, 1, 1, 1, 0, 1, 0, 0, 1, 1, 0, 0, 1, 1, 1, 0]), .code (cAt (bodyOf Try.f11) [1, 1, 1, 1, 0, 1, 0, 0, 1, 1, 0, 0, 1, 1, 1, 1]), .inBlock 3, .code (cAt (bodyOf Try.f11) [1, 1, 1, 1, 0, 1, 0, 0, 1, 1, 1]), .inLoop (cAt (bodyOf Try.f11) [1, 1, 1, 1, 0, 1, 0, 0]), .inBlock 2, .code (cAt (bodyOf Try.f11) [1, 1, 1, 1, 1])] ⟨[(5, .p 5 0), (7, .v (.string a)), (8, .v (.string b)), (9, .v (.slice keep keep_n keep_c)), (11, .v (.int .i64 turn)), (12, .v (.pointer d)), (38, .v (.int .i64 t38))], [(5, [.int .u8 cut_5_0, .int .u8 cut_5_1])]⟩ h Q
def gabionlaw04_LineTorn.L21 (a : ByteArray) (b : ByteArray) (keep : Option Addr) (keep_n : Nat) (keep_c : Nat) (turn : Int) (d : Option Addr) (c : ByteArray) (v : Int) (k0_17 : Int) (t38 : Int) (cut_5_0 : Int) (cut_5_1 : Int) (h : Heap) (Q : Value → Heap → Prop) : Prop :=
  TW Try.prog 11 156 [.code (cAt (bodyOf Try.f11) [1, 1, 1, 1, 0, 1, 0, 0, 1, 1, 0, 0, 1, 1, 1, 1, 1, 1, 0, 1, 1, 1, 0, 1, 0, 0]), .inLoop (cAt (bodyOf Try.f11) [1, 1, 1, 1, 0, 1, 0, 0, 1, 1, 0, 0, 1, 1, 1, 1, 1, 1, 0, 1, 1, 1, 0, 1, 0, 0]), .inBlock 4, .code (cAt (bodyOf Try.f11) [1, 1, 1, 1, 0, 1, 0, 0, 1, 1, 0, 0, 1, 1, 1, 1, 1, 1, 0, 1, 1, 1, 1]), .code (cAt (bodyOf Try.f11) [1, 1, 1, 1, 0, 1, 0, 0, 1, 1, 0, 0, 1, 1, 1, 1, 1, 1, 1]), .inBlock 3, .code (cAt (bodyOf Try.f11) [1, 1, 1, 1, 0, 1, 0, 0, 1, 1, 1]), .inLoop (cAt (bodyOf Try.f11) [1, 1, 1, 1, 0, 1, 0, 0]), .inBlock 2, .code (cAt (bodyOf Try.f11) [1, 1, 1, 1, 1])] ⟨[(5, .p 5 0), (7, .v (.string a)), (8, .v (.string b)), (9, .v (.slice keep keep_n keep_c)), (11, .v (.int .i64 turn)), (12, .v (.pointer d)), (14, .v (.string c)), (16, .v (.int .u64 v)), (17, .v (.int .i64 k0_17)), (38, .v (.int .i64 t38))], [(5, [.int .u8 cut_5_0, .int .u8 cut_5_1])]⟩ h Q
def gabionlaw04_LineTorn.J25 (a : ByteArray) (b : ByteArray) (keep : Option Addr) (keep_n : Nat) (keep_c : Nat) (turn : Int) (d : Option Addr) (c : ByteArray) (f : Int) (t38 : Int) (cut_5_0 : Int) (cut_5_1 : Int) (h : Heap) (Q : Value → Heap → Prop) : Prop :=
  TW Try.prog 11 156 [.code (cAt (bodyOf Try.f11) [1, 1, 1, 1, 0, 1, 0, 0, 1, 1, 0, 0, 1, 1, 1, 1, 1, 1, 1, 0]), .code (cAt (bodyOf Try.f11) [1, 1, 1, 1, 0, 1, 0, 0, 1, 1, 0, 0, 1, 1, 1, 1, 1, 1, 1, 1]), .inBlock 3, .code (cAt (bodyOf Try.f11) [1, 1, 1, 1, 0, 1, 0, 0, 1, 1, 1]), .inLoop (cAt (bodyOf Try.f11) [1, 1, 1, 1, 0, 1, 0, 0]), .inBlock 2, .code (cAt (bodyOf Try.f11) [1, 1, 1, 1, 1])] ⟨[(5, .p 5 0), (7, .v (.string a)), (8, .v (.string b)), (9, .v (.slice keep keep_n keep_c)), (11, .v (.int .i64 turn)), (12, .v (.pointer d)), (14, .v (.string c)), (15, .v (.int .i64 f)), (38, .v (.int .i64 t38))], [(5, [.int .u8 cut_5_0, .int .u8 cut_5_1])]⟩ h Q
def gabionlaw04_LineTorn.J30 (a : ByteArray) (b : ByteArray) (keep : Option Addr) (keep_n : Nat) (keep_c : Nat) (turn : Int) (c : ByteArray) (f : Int) (got : ByteArray) (t38 : Int) (cut_5_0 : Int) (cut_5_1 : Int) (h : Heap) (Q : Value → Heap → Prop) : Prop :=
  TW Try.prog 11 156 [.code (cAt (bodyOf Try.f11) [1, 1, 1, 1, 0, 1, 0, 0, 1, 1, 0, 0, 1, 1, 1, 1, 1, 1, 1, 1, 1, 1, 1, 0]), .code (cAt (bodyOf Try.f11) [1, 1, 1, 1, 0, 1, 0, 0, 1, 1, 0, 0, 1, 1, 1, 1, 1, 1, 1, 1, 1, 1, 1, 1]), .inBlock 3, .code (cAt (bodyOf Try.f11) [1, 1, 1, 1, 0, 1, 0, 0, 1, 1, 1]), .inLoop (cAt (bodyOf Try.f11) [1, 1, 1, 1, 0, 1, 0, 0]), .inBlock 2, .code (cAt (bodyOf Try.f11) [1, 1, 1, 1, 1])] ⟨[(5, .p 5 0), (7, .v (.string a)), (8, .v (.string b)), (9, .v (.slice keep keep_n keep_c)), (11, .v (.int .i64 turn)), (14, .v (.string c)), (15, .v (.int .i64 f)), (19, .v (.string got)), (38, .v (.int .i64 t38))], [(5, [.int .u8 cut_5_0, .int .u8 cut_5_1])]⟩ h Q
def gabionlaw04_LineTorn.wp (was : ByteArray) (is0 : ByteArray) (cut_0 : Int) (cut_1 : Int) (h : Heap) (Q : Value → Heap → Prop) : Prop :=
  C Try.prog 35 #[Value.string was] h fun (r : Value) (h' : Heap) =>
    ∃ (x : ByteArray), r = Value.string x ∧ C Try.prog 35 #[Value.string is0] h' fun (r : Value) (h' : Heap) => ∃ (x_1 : ByteArray), r = Value.string x_1 ∧ gabionlaw04_LineTorn.L4 x x_1 none 0 0 0 cut_0 cut_1 h' Q
def gabionlaw04_LineTorn.L4.wp (a : ByteArray) (b : ByteArray) (keep : Option Addr) (keep_n : Nat) (keep_c : Nat) (t25 : Int) (cut_5_0 : Int) (cut_5_1 : Int) (h : Heap) (Q : Value → Heap → Prop) : Prop :=
  xsIf (decide (t25 < 8))
    (0 ≤ t25 ∧
      ∀ (b_1 : Nat),
        h b_1 = none →
          xsApp Try.prog 4 (upd h b_1 (Obj.cells #[Value.bool (decide (iand IntKind.u8 (ishr IntKind.u8 cut_5_1 t25) 1 = 1))] 4 (0, 0))) keep keep_n keep_c (some { block := b_1, off := 0 }) 1
            fun (a' : Option Addr) (n' c' : Nat) (h' : Heap) => gabionlaw04_LineTorn.L4 a b a' n' c' (IntKind.i64.wrap (t25 + 1)) cut_5_0 cut_5_1 h' Q)
    (gabionlaw04_LineTorn.L9 a b keep keep_n keep_c 0 cut_5_0 cut_5_1 h Q)
def gabionlaw04_LineTorn.L9.wp (a : ByteArray) (b : ByteArray) (keep : Option Addr) (keep_n : Nat) (keep_c : Nat) (t38 : Int) (cut_5_0 : Int) (cut_5_1 : Int) (h : Heap) (Q : Value → Heap → Prop) : Prop :=
  xsIf (decide (t38 < 2))
    (C Try.prog 12 #[Value.int IntKind.i64 1] h fun (r : Value) (h' : Heap) =>
      ∃ (x : Option Addr),
        ∃ (x_1 : Int),
          r = Value.tuple #[Value.pointer x, Value.int IntKind.i64 x_1] ∧
            C Try.prog 31 #[] h' fun (r : Value) (h' : Heap) =>
              ∃ (x_2 : Bool),
                r = Value.bool x_2 ∧
                  xsIf (!x_2) (Q (Value.bool false) h')
                    (xsIf (decide (x_1 ≠ 0)) (Q (Value.bool false) h')
                      (C Try.prog 32 #[Value.pointer x, Value.int IntKind.i64 0, Value.string a] h' fun (r : Value) (h' : Heap) =>
                        ∃ (x_3 : Int), r = Value.int IntKind.i64 x_3 ∧ xsIf (decide (x_3 ≠ 0)) (Q (Value.bool false) h') (gabionlaw04_LineTorn.J14 a b keep keep_n keep_c t38 x t38 cut_5_0 cut_5_1 h' Q))))
    (Q (Value.bool true) h)
def gabionlaw04_LineTorn.J14.wp (a : ByteArray) (b : ByteArray) (keep : Option Addr) (keep_n : Nat) (keep_c : Nat) (turn : Int) (d : Option Addr) (t38 : Int) (cut_5_0 : Int) (cut_5_1 : Int) (h : Heap) (Q : Value → Heap → Prop) : Prop :=
  C Try.prog 26 #[Value.pointer d, Value.int IntKind.i64 (IntKind.i64.wrap (1 + IntKind.i64.wrap (irem cut_5_0 11)))] h fun (r : Value) (h' : Heap) =>
    ((0 : Int) ≤ 8 ∧ (8 : Int) ≤ (↑b.size : Int)) ∧
      ((0 : Int) ≤ 8 ∧ (8 : Int) ≤ (↑a.size : Int)) ∧
        (↑((sext b 0 8).size + (sext a 8 (↑a.size : Int)).size) : Int) ≤ 9223372036854775807 ∧
          xsIf (decide (turn = 0))
            (C Try.prog 32 #[Value.pointer d, Value.int IntKind.i64 0, Value.string b] h' fun (r : Value) (h' : Heap) =>
              ∃ (x : Int), r = Value.int IntKind.i64 x ∧ gabionlaw04_LineTorn.J25 a b keep keep_n keep_c turn d (sext b 0 8 ++ sext a 8 (↑a.size : Int)) x t38 cut_5_0 cut_5_1 h' Q)
            (gabionlaw04_LineTorn.L21 a b keep keep_n keep_c turn d (sext b 0 8 ++ sext a 8 (↑a.size : Int)) 0 7 t38 cut_5_0 cut_5_1 h' Q)
def gabionlaw04_LineTorn.L21.wp (a : ByteArray) (b : ByteArray) (keep : Option Addr) (keep_n : Nat) (keep_c : Nat) (turn : Int) (d : Option Addr) (c : ByteArray) (v : Int) (k0_17 : Int) (t38 : Int) (cut_5_0 : Int) (cut_5_1 : Int) (h : Heap) (Q : Value → Heap → Prop) : Prop :=
  xsIf (decide (0 ≤ k0_17))
    (∃ (c_1 : UInt8),
      0 ≤ k0_17 ∧ bget b k0_17.toNat = some c_1 ∧ gabionlaw04_LineTorn.L21 a b keep keep_n keep_c turn d c (ior IntKind.u64 (ishl IntKind.u64 v 8) (IntKind.u64.wrap (↑c_1.toNat : Int))) (IntKind.i64.wrap (k0_17 - 1)) t38 cut_5_0 cut_5_1 h Q)
    (C Try.prog 33 #[Value.pointer d, Value.int IntKind.i64 0, Value.int IntKind.i64 0, Value.int IntKind.u64 v] h fun (r : Value) (h' : Heap) =>
      ∃ (x : Int), r = Value.int IntKind.i64 x ∧ gabionlaw04_LineTorn.J25 a b keep keep_n keep_c turn d c x t38 cut_5_0 cut_5_1 h' Q)
def gabionlaw04_LineTorn.J25.wp (a : ByteArray) (b : ByteArray) (keep : Option Addr) (keep_n : Nat) (keep_c : Nat) (turn : Int) (d : Option Addr) (c : ByteArray) (f : Int) (t38 : Int) (cut_5_0 : Int) (cut_5_1 : Int) (h : Heap) (Q : Value → Heap → Prop) : Prop :=
  C Try.prog 28 #[Value.pointer d] h fun (r : Value) (h' : Heap) =>
    ∃ (x : Bool),
      r = Value.bool x ∧
        C Try.prog 18 #[Value.pointer d, Value.slice keep keep_n keep_c] h' fun (r : Value) (h' : Heap) =>
          C Try.prog 30 #[Value.pointer d, Value.int IntKind.i64 0] h' fun (r : Value) (h' : Heap) =>
            ∃ (x_1 : ByteArray),
              ∃ (x_2 : Int),
                r = Value.tuple #[Value.string x_1, Value.int IntKind.i64 x_2] ∧
                  xsIf (decide (x_2 ≠ 0)) (Q (Value.bool false) h')
                    (xsIf (!x == decide (f = 6)) (Q (Value.bool false) h')
                      (xsIf (!x) (xsIf (decide (f ≠ 0)) (Q (Value.bool false) h') (gabionlaw04_LineTorn.J30 a b keep keep_n keep_c turn c f x_1 t38 cut_5_0 cut_5_1 h' Q))
                        (gabionlaw04_LineTorn.J30 a b keep keep_n keep_c turn c f x_1 t38 cut_5_0 cut_5_1 h' Q)))
def gabionlaw04_LineTorn.J30.wp (a : ByteArray) (b : ByteArray) (keep : Option Addr) (keep_n : Nat) (keep_c : Nat) (turn : Int) (c : ByteArray) (f : Int) (got : ByteArray) (t38 : Int) (cut_5_0 : Int) (cut_5_1 : Int) (h : Heap) (Q : Value → Heap → Prop) : Prop :=
  xsIf (decide (turn = 0))
    (C Try.prog 36 #[Value.string a, Value.string b, Value.string got] h fun (r : Value) (h' : Heap) =>
      ∃ (x : Bool),
        r = Value.bool x ∧
          xsIf (!x) (Q (Value.bool false) h')
            (xsIf (decide (f = 0))
              (xsIf (decide (got ≠ b)) (Q (Value.bool false) h')
                (xsIf (decide (turn = 1))
                  (xsIf (decide (got ≠ a))
                    (xsIf (decide (got ≠ c)) (Q (Value.bool false) h')
                      (xsIf (decide (f = 0)) (xsIf (decide (got ≠ c)) (Q (Value.bool false) h') (gabionlaw04_LineTorn.L9 a b keep keep_n keep_c (IntKind.i64.wrap (t38 + 1)) cut_5_0 cut_5_1 h' Q))
                        (gabionlaw04_LineTorn.L9 a b keep keep_n keep_c (IntKind.i64.wrap (t38 + 1)) cut_5_0 cut_5_1 h' Q)))
                    (xsIf (decide (f = 0)) (xsIf (decide (got ≠ c)) (Q (Value.bool false) h') (gabionlaw04_LineTorn.L9 a b keep keep_n keep_c (IntKind.i64.wrap (t38 + 1)) cut_5_0 cut_5_1 h' Q))
                      (gabionlaw04_LineTorn.L9 a b keep keep_n keep_c (IntKind.i64.wrap (t38 + 1)) cut_5_0 cut_5_1 h' Q)))
                  (gabionlaw04_LineTorn.L9 a b keep keep_n keep_c (IntKind.i64.wrap (t38 + 1)) cut_5_0 cut_5_1 h' Q)))
              (xsIf (decide (turn = 1))
                (xsIf (decide (got ≠ a))
                  (xsIf (decide (got ≠ c)) (Q (Value.bool false) h')
                    (xsIf (decide (f = 0)) (xsIf (decide (got ≠ c)) (Q (Value.bool false) h') (gabionlaw04_LineTorn.L9 a b keep keep_n keep_c (IntKind.i64.wrap (t38 + 1)) cut_5_0 cut_5_1 h' Q))
                      (gabionlaw04_LineTorn.L9 a b keep keep_n keep_c (IntKind.i64.wrap (t38 + 1)) cut_5_0 cut_5_1 h' Q)))
                  (xsIf (decide (f = 0)) (xsIf (decide (got ≠ c)) (Q (Value.bool false) h') (gabionlaw04_LineTorn.L9 a b keep keep_n keep_c (IntKind.i64.wrap (t38 + 1)) cut_5_0 cut_5_1 h' Q))
                    (gabionlaw04_LineTorn.L9 a b keep keep_n keep_c (IntKind.i64.wrap (t38 + 1)) cut_5_0 cut_5_1 h' Q)))
                (gabionlaw04_LineTorn.L9 a b keep keep_n keep_c (IntKind.i64.wrap (t38 + 1)) cut_5_0 cut_5_1 h' Q))))
    (xsIf (decide (turn = 1))
      (xsIf (decide (got ≠ a))
        (xsIf (decide (got ≠ c)) (Q (Value.bool false) h)
          (xsIf (decide (f = 0)) (xsIf (decide (got ≠ c)) (Q (Value.bool false) h) (gabionlaw04_LineTorn.L9 a b keep keep_n keep_c (IntKind.i64.wrap (t38 + 1)) cut_5_0 cut_5_1 h Q))
            (gabionlaw04_LineTorn.L9 a b keep keep_n keep_c (IntKind.i64.wrap (t38 + 1)) cut_5_0 cut_5_1 h Q)))
        (xsIf (decide (f = 0)) (xsIf (decide (got ≠ c)) (Q (Value.bool false) h) (gabionlaw04_LineTorn.L9 a b keep keep_n keep_c (IntKind.i64.wrap (t38 + 1)) cut_5_0 cut_5_1 h Q))
          (gabionlaw04_LineTorn.L9 a b keep keep_n keep_c (IntKind.i64.wrap (t38 + 1)) cut_5_0 cut_5_1 h Q)))
      (gabionlaw04_LineTorn.L9 a b keep keep_n keep_c (IntKind.i64.wrap (t38 + 1)) cut_5_0 cut_5_1 h Q))
theorem gabionlaw04_LineTorn.ok {was : ByteArray} {is0 : ByteArray} {cut_0 : Int} {cut_1 : Int} {h : Heap} {Q : Value → Heap → Prop} (hk : gabionlaw04_LineTorn.wp was is0 cut_0 cut_1 h Q) : C Try.prog 11 #[.string was, .string is0, .agg #[.int .u8 cut_0, .int .u8 cut_1]] h Q :=
  C_of_xs (H := gabionlaw04_LineTorn.H) (lcuts := gabionlaw04_LineTorn.lc) (rcuts := gabionlaw04_LineTorn.rc) (l := [.string was, .string is0, .agg #[.int .u8 cut_0, .int .u8 cut_1]]) 2000 mixed Try.func11 rfl (by kernel_rfl) (Eq.mp (by kernel_rfl) hk)
theorem gabionlaw04_LineTorn.L4.ok {a : ByteArray} {b : ByteArray} {keep : Option Addr} {keep_n : Nat} {keep_c : Nat} {t25 : Int} {cut_5_0 : Int} {cut_5_1 : Int} {h : Heap} {Q : Value → Heap → Prop} (hk : gabionlaw04_LineTorn.L4.wp a b keep keep_n keep_c t25 cut_5_0 cut_5_1 h Q) : gabionlaw04_LineTorn.L4 a b keep keep_n keep_c t25 cut_5_0 cut_5_1 h Q :=
  xs_ok (H := gabionlaw04_LineTorn.H) (lcuts := gabionlaw04_LineTorn.lc) (rcuts := gabionlaw04_LineTorn.rc) (fn := Try.f11) mixed Try.func11 2000 _ _ _ (Eq.mp (by kernel_rfl) hk)
theorem gabionlaw04_LineTorn.L9.ok {a : ByteArray} {b : ByteArray} {keep : Option Addr} {keep_n : Nat} {keep_c : Nat} {t38 : Int} {cut_5_0 : Int} {cut_5_1 : Int} {h : Heap} {Q : Value → Heap → Prop} (hk : gabionlaw04_LineTorn.L9.wp a b keep keep_n keep_c t38 cut_5_0 cut_5_1 h Q) : gabionlaw04_LineTorn.L9 a b keep keep_n keep_c t38 cut_5_0 cut_5_1 h Q :=
  xs_ok (H := gabionlaw04_LineTorn.H) (lcuts := gabionlaw04_LineTorn.lc) (rcuts := gabionlaw04_LineTorn.rc) (fn := Try.f11) mixed Try.func11 2000 _ _ _ (Eq.mp (by kernel_rfl) hk)
theorem gabionlaw04_LineTorn.J14.ok {a : ByteArray} {b : ByteArray} {keep : Option Addr} {keep_n : Nat} {keep_c : Nat} {turn : Int} {d : Option Addr} {t38 : Int} {cut_5_0 : Int} {cut_5_1 : Int} {h : Heap} {Q : Value → Heap → Prop} (hk : gabionlaw04_LineTorn.J14.wp a b keep keep_n keep_c turn d t38 cut_5_0 cut_5_1 h Q) : gabionlaw04_LineTorn.J14 a b keep keep_n keep_c turn d t38 cut_5_0 cut_5_1 h Q :=
  xs_ok (H := gabionlaw04_LineTorn.H) (lcuts := gabionlaw04_LineTorn.lc) (rcuts := [⟨25, [5, 7, 8, 9, 11, 12, 14, 15, 38], [5]⟩, ⟨30, [5, 7, 8, 9, 11, 14, 15, 19, 38], [5]⟩]) (fn := Try.f11) mixed Try.func11 2000 _ _ _ (Eq.mp (by kernel_rfl) hk)
theorem gabionlaw04_LineTorn.L21.ok {a : ByteArray} {b : ByteArray} {keep : Option Addr} {keep_n : Nat} {keep_c : Nat} {turn : Int} {d : Option Addr} {c : ByteArray} {v : Int} {k0_17 : Int} {t38 : Int} {cut_5_0 : Int} {cut_5_1 : Int} {h : Heap} {Q : Value → Heap → Prop} (hk : gabionlaw04_LineTorn.L21.wp a b keep keep_n keep_c turn d c v k0_17 t38 cut_5_0 cut_5_1 h Q) : gabionlaw04_LineTorn.L21 a b keep keep_n keep_c turn d c v k0_17 t38 cut_5_0 cut_5_1 h Q :=
  xs_ok (H := gabionlaw04_LineTorn.H) (lcuts := gabionlaw04_LineTorn.lc) (rcuts := gabionlaw04_LineTorn.rc) (fn := Try.f11) mixed Try.func11 2000 _ _ _ (Eq.mp (by kernel_rfl) hk)
theorem gabionlaw04_LineTorn.J25.ok {a : ByteArray} {b : ByteArray} {keep : Option Addr} {keep_n : Nat} {keep_c : Nat} {turn : Int} {d : Option Addr} {c : ByteArray} {f : Int} {t38 : Int} {cut_5_0 : Int} {cut_5_1 : Int} {h : Heap} {Q : Value → Heap → Prop} (hk : gabionlaw04_LineTorn.J25.wp a b keep keep_n keep_c turn d c f t38 cut_5_0 cut_5_1 h Q) : gabionlaw04_LineTorn.J25 a b keep keep_n keep_c turn d c f t38 cut_5_0 cut_5_1 h Q :=
  xs_ok (H := gabionlaw04_LineTorn.H) (lcuts := gabionlaw04_LineTorn.lc) (rcuts := [⟨14, [5, 7, 8, 9, 11, 12, 38], [5]⟩, ⟨30, [5, 7, 8, 9, 11, 14, 15, 19, 38], [5]⟩]) (fn := Try.f11) mixed Try.func11 2000 _ _ _ (Eq.mp (by kernel_rfl) hk)
theorem gabionlaw04_LineTorn.J30.ok {a : ByteArray} {b : ByteArray} {keep : Option Addr} {keep_n : Nat} {keep_c : Nat} {turn : Int} {c : ByteArray} {f : Int} {got : ByteArray} {t38 : Int} {cut_5_0 : Int} {cut_5_1 : Int} {h : Heap} {Q : Value → Heap → Prop} (hk : gabionlaw04_LineTorn.J30.wp a b keep keep_n keep_c turn c f got t38 cut_5_0 cut_5_1 h Q) : gabionlaw04_LineTorn.J30 a b keep keep_n keep_c turn c f got t38 cut_5_0 cut_5_1 h Q :=
  xs_ok (H := gabionlaw04_LineTorn.H) (lcuts := gabionlaw04_LineTorn.lc) (rcuts := [⟨14, [5, 7, 8, 9, 11, 12, 38], [5]⟩, ⟨25, [5, 7, 8, 9, 11, 12, 14, 15, 38], [5]⟩]) (fn := Try.f11) mixed Try.func11 2000 _ _ _ (Eq.mp (by kernel_rfl) hk)
end Go.Gb
