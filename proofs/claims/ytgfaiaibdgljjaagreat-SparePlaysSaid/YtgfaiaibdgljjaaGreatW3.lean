/- Own text for the seat: W3. -/
import Derived.Test.YtgfaiaibdgljjaaGreatW2
set_option linter.unusedVariables false
set_option linter.unusedSimpArgs false
set_option linter.unnecessarySimpa false
set_option linter.deprecated false
set_option maxRecDepth 100000
namespace Go.Gb
open Go.Proofs

/-! gabion/gabionlaw05.SparePlays -/
def gabionlaw05_SparePlays.H : Hn := ⟨[], [], [⟨13, .q 0 (.q 1 (.q 2 (.q 3 (.q 6 (.q 7 (.q 8 (.q 9 (.q 10 (.q 4 (.q 5 (.q 11 (.q 12 (.q 13 (.q 14 (.nil))))))))))))))), []⟩, ⟨15, .q 0 (.q 1 (.q 2 (.q 3 (.q 5 (.q 6 (.q 7 (.q 8 (.q 9 (.q 4 (.q 10 (.q 11 (.q 12 (.nil))))))))))))), []⟩, ⟨17, .q 0 (.q 1 (.q 2 (.q 3 (.q 4 (.q 5 (.q 6 (.q 8 (.q 9 (.q 10 (.q 11 (.q 12 (.q 13 (.q 14 (.q 15 (.q 7 (.q 16 (.q 17 (.q 18 (.nil))))))))))))))))))), []⟩, ⟨24, .q 0 (.q 1 (.q 2 (.q 3 (.q 4 (.q 5 (.q 6 (.q 7 (.q 8 (.q 9 (.q 10 (.q 11 (.q 12 (.q 13 (.q 14 (.q 15 (.q 16 (.q 17 (.q 18 (.q 19 (.q 20 (.q 21 (.q 22 (.q 24 (.q 25 (.q 26 (.q 27 (.q 28 (.q 23 (.q 29 (.q 30 (.q 31 (.nil)))))))))))))))))))))))))))))))), []⟩, ⟨28, .q 0 (.q 1 (.q 2 (.q 3 (.q 4 (.q 5 (.q 6 (.q 7 (.q 8 (.q 9 (.q 10 (.q 11 (.q 12 (.q 13 (.q 14 (.nil))))))))))))))), []⟩], []⟩
def gabionlaw05_SparePlays.lc : List Cut := [⟨7, [5, 6, 7, 8, 10, 56, 57, 58], [5]⟩]
def gabionlaw05_SparePlays.rc : List Cut := [⟨5, [1, 5, 6, 7, 8], [5]⟩, ⟨43, [5, 6, 7, 8, 10, 12, 14, 56, 57, 58], [5, 12]⟩, ⟨46, [5, 6, 8, 10, 12, 14, 56, 57, 58], [5, 12]⟩]
def gabionlaw05_SparePlays.J5 (acts : Option Addr) (acts_n : Nat) (acts_c : Nat) (d : Option Addr) (b : Option Addr) (m : Option Addr) (p_0 : Int) (p_1 : Int) (p_2 : Int) (h : Heap) (Q : Value → Heap → Prop) : Prop :=
  TW Tryz.prog 5 321 [.code (cAt (bodyOf Tryz.f5) [1, 1, 1, 1, 0]), .code (cAt (bodyOf Tryz.f5) [1, 1, 1, 1, 1])] ⟨[(1, .v (.slice acts acts_n acts_c)), (5, .p 5 0), (6, .v (.pointer d)), (7, .v (.pointer b)), (8, .v (.pointer m))], [(5, [.int .i64 p_0, .int .i64 p_1, .int .i64 p_2])]⟩ h Q
def gabionlaw05_SparePlays.L7 (d : Option Addr) (b : Option Addr) (m : Option Addr) (table : Int) (t56 : Option Addr) (t56_n : Nat) (t56_c : Nat) (t57 : Int) (t58 : Int) (p_0 : Int) (p_1 : Int) (p_2 : Int) (h : Heap) (Q : Value → Heap → Prop) : Prop :=
  TW Tryz.prog 5 321 [.code (cAt (bodyOf Tryz.f5) [1, 1, 1, 1, 1, 0, 1, 0, 0]), .inLoop (cAt (bodyOf Tryz.f5) [1, 1, 1, 1, 1, 0, 1, 0, 0]), .inBlock 0, .code (cAt (bodyOf Tryz.f5) [1, 1, 1, 1, 1, 1])] ⟨[(5, .p 5 0), (6, .v (.pointer d)), (7, .v (.pointer b)), (8, .v (.pointer m)), (10, .v (.int .i64 table)), (56, .v (.slice t56 t56_n t56_c)), (57, .v (.int .i64 t57)), (58, .v (.int .i64 t58))], [(5, [.int .i64 p_0, .int .i64 p_1, .int .i64 p_2])]⟩ h Q
def gabionlaw05_SparePlays.J43 (d : Option Addr) (b : Option Addr) (m : Option Addr) (table : Int) (same : Bool) (t56 : Option Addr) (t56_n : Nat) (t56_c : Nat) (t57 : Int) (t58 : Int) (p_0 : Int) (p_1 : Int) (p_2 : Int) (a_0 : Int) (a_1 : Int) (a_2 : Int) (a_3 : Int) (a_4 : ByteArray) (a_5 : Option Addr) (a_5_n : Nat) (a_5_c : Nat) (h : Heap) (Q : Value → Heap → Prop) : Prop :=
  TW Tryz.prog 5 321 [.code (cAt (bodyOf Tryz.f5) [1, 1, 1, 1, 1, 0, 1, 0, 0, 1, 1, 0, 0, 1, 1, 1, 1, 0, 0]), .code (cAt (bodyOf Tryz.f5) [1, 1, 1, 1, 1, 0, 1, 0, 0, 1, 1, 0, 0, 1, 1, 1, 1, 0, 1]), .code (cAt (bodyOf Tryz.f5) [1, 1, 1, 1, 1, 0, 1, 0, 0, 1, 1, 0, 0, 1, 1, 1, 1, 1]), .inBlock 1, .code (cAt (bodyOf Tryz.f5) [1, 1, 1, 1, 1, 0, 1, 0, 0, 1, 1, 1]), .inLoop (cAt (bodyOf Tryz.f5) [1, 1, 1, 1, 1, 0, 1, 0, 0]), .inBlock 0, .code (cAt (bodyOf Tryz.f5) [1, 1, 1, 1, 1, 1])] ⟨[(5, .p 5 0), (6, .v (.pointer d)), (7, .v (.pointer b)), (8, .v (.pointer m)), (10, .v (.int .i64 table)), (12, .p 12 0), (14, .v (.bool same)), (56, .v (.slice t56 t56_n t56_c)), (57, .v (.int .i64 t57)), (58, .v (.int .i64 t58))], [(5, [.int .i64 p_0, .int .i64 p_1, .int .i64 p_2]), (12, [.int .i64 a_0, .int .i64 a_1, .int .i64 a_2, .int .u64 a_3, .string a_4, .slice a_5 a_5_n a_5_c])]⟩ h Q
def gabionlaw05_SparePlays.J46 (d : Option Addr) (m : Option Addr) (table : Int) (same : Bool) (t56 : Option Addr) (t56_n : Nat) (t56_c : Nat) (t57 : Int) (t58 : Int) (p_0 : Int) (p_1 : Int) (p_2 : Int) (a_0 : Int) (a_1 : Int) (a_2 : Int) (a_3 : Int) (a_4 : ByteArray) (a_5 : Option Addr) (a_5_n : Nat) (a_5_c : Nat) (h : Heap) (Q : Value → Heap → Prop) : Prop :=
  TW Tryz.prog 5 321 [.code (cAt (bodyOf Tryz.f5) [1, 1, 1, 1, 1, 0, 1, 0, 0, 1, 1, 0, 0, 1, 1, 1, 1, 0, 1, 0, 1, 0]), .code (cAt (bodyOf Tryz.f5) [1, 1, 1, 1, 1, 0, 1, 0, 0, 1, 1, 0, 0, 1, 1, 1, 1, 0, 1, 0, 1, 1]), .code (cAt (bodyOf Tryz.f5) [1, 1, 1, 1, 1, 0, 1, 0, 0, 1, 1, 0, 0, 1, 1, 1, 1, 1]), .inBlock 1, .code (cAt (bodyOf Tryz.f5) [1, 1, 1, 1, 1, 0, 1, 0, 0, 1, 1, 1]), .inLoop (cAt (bodyOf Tryz.f5) [1, 1, 1, 1, 1, 0, 1, 0, 0]), .inBlock 0, .code (cAt (bodyOf Tryz.f5) [1, 1, 1, 1, 1, 1])] ⟨[(5, .p 5 0), (6, .v (.pointer d)), (8, .v (.pointer m)), (10, .v (.int .i64 table)), (12, .p 12 0), (14, .v (.bool same)), (56, .v (.slice t56 t56_n t56_c)), (57, .v (.int .i64 t57)), (58, .v (.int .i64 t58))], [(5, [.int .i64 p_0, .int .i64 p_1, .int .i64 p_2]), (12, [.int .i64 a_0, .int .i64 a_1, .int .i64 a_2, .int .u64 a_3, .string a_4, .slice a_5 a_5_n a_5_c])]⟩ h Q
def gabionlaw05_SparePlays.wp (x_0 : Int) (x_1 : Int) (x_2 : Int) (acts : Option Addr) (acts_n : Nat) (acts_c : Nat) (h : Heap) (Q : Value → Heap → Prop) : Prop :=
  C Tryz.prog 11 #[Value.agg #[Value.int IntKind.i64 x_0, Value.int IntKind.i64 x_1, Value.int IntKind.i64 x_2]] h fun (r : Value) (h' : Heap) =>
    ∃ (x : Int),
      ∃ (x_3 : Int),
        ∃ (x_4 : Int),
          r = Value.agg #[Value.int IntKind.i64 x, Value.int IntKind.i64 x_3, Value.int IntKind.i64 x_4] ∧
            C Tryz.prog 12 #[Value.agg #[Value.int IntKind.i64 x, Value.int IntKind.i64 x_3, Value.int IntKind.i64 x_4]] h' fun (r : Value) (h' : Heap) =>
              ∃ (x_5 : Option Addr),
                ∃ (x_6 : Option Addr),
                  ∃ (x_7 : Option Addr),
                    ∃ (x_8 : Bool),
                      r = Value.tuple #[Value.pointer x_5, Value.pointer x_6, Value.pointer x_7, Value.bool x_8] ∧
                        C Tryz.prog 13 #[] h' fun (r : Value) (h' : Heap) =>
                          ∃ (x_9 : Bool),
                            r = Value.bool x_9 ∧
                              xsIf (!x_9) (Q (Value.bool false) h')
                                (xsIf (!x_8) (Q (Value.bool false) h')
                                  (C Tryz.prog 29 #[Value.pointer x_5, Value.pointer x_7] h' fun (r : Value) (h' : Heap) =>
                                    ∃ (x_10 : Bool), r = Value.bool x_10 ∧ xsIf (!x_10) (Q (Value.bool false) h') (gabionlaw05_SparePlays.J5 acts acts_n acts_c x_5 x_6 x_7 x x_3 x_4 h' Q)))
def gabionlaw05_SparePlays.J5.wp (acts : Option Addr) (acts_n : Nat) (acts_c : Nat) (d : Option Addr) (b : Option Addr) (m : Option Addr) (p_0 : Int) (p_1 : Int) (p_2 : Int) (h : Heap) (Q : Value → Heap → Prop) : Prop :=
  (0 ≤ imin (↑acts_n : Int) 40 ∧ imin (↑acts_n : Int) 40 ≤ (↑acts_c : Int)) ∧
    gabionlaw05_SparePlays.L7 d b m (iquo IntKind.i64 (IntKind.i64.wrap (p_2 + 7)) 8) (slBase acts (↑acts_c : Int) 0 6) (imin (↑acts_n : Int) 40 - 0).toNat ((↑acts_c : Int) - 0).toNat (↑(imin (↑acts_n : Int) 40 - 0).toNat : Int) 0 p_0 p_1 p_2
      h Q
def gabionlaw05_SparePlays.L7.wp (d : Option Addr) (b : Option Addr) (m : Option Addr) (table : Int) (t56 : Option Addr) (t56_n : Nat) (t56_c : Nat) (t57 : Int) (t58 : Int) (p_0 : Int) (p_1 : Int) (p_2 : Int) (h : Heap) (Q : Value → Heap → Prop) : Prop :=
  xsIf (decide (t58 < t57))
    ((0 ≤ t58 ∧ t58 < (↑t56_n : Int)) ∧
      atBase t56 fun (b_1 o : Nat) =>
        ∃ (x : Int),
          h.cell b_1 (o + t58.toNat * 6) = some (Value.int IntKind.i64 x) ∧
            ∃ (x_1 : Int),
              h.cell b_1 (o + t58.toNat * 6 + 1) = some (Value.int IntKind.i64 x_1) ∧
                ∃ (x_2 : Int),
                  h.cell b_1 (o + t58.toNat * 6 + 1 + 1) = some (Value.int IntKind.i64 x_2) ∧
                    ∃ (x_3 : Int),
                      h.cell b_1 (o + t58.toNat * 6 + 1 + 1 + 1) = some (Value.int IntKind.u64 x_3) ∧
                        ∃ (x_4 : ByteArray),
                          h.cell b_1 (o + t58.toNat * 6 + 1 + 1 + 1 + 1) = some (Value.string x_4) ∧
                            ∃ (x_5 : Option Addr),
                              ∃ (n : Nat),
                                ∃ (m_1 : Nat),
                                  h.cell b_1 (o + t58.toNat * 6 + 1 + 1 + 1 + 1 + 1) = some (Value.slice x_5 n m_1) ∧
                                    (0 ≤ imin (↑x_4.size : Int) 80 ∧ imin (↑x_4.size : Int) 80 ≤ (↑x_4.size : Int)) ∧
                                      xsIf (decide (irem (imax 0 x) 7 = 0))
                                        (C Tryz.prog 16 #[Value.string (sext x_4 0 (imin (↑x_4.size : Int) 80))] h fun (r : Value) (h' : Heap) =>
                                          ∃ (x_6 : ByteArray),
                                            r = Value.string x_6 ∧
                                              C Tryz.prog 15 #[Value.pointer b, Value.int IntKind.i64 x_1, Value.string x_6] h' fun (r : Value) (h' : Heap) =>
                                                ∃ (x_7 : Int),
                                                  r = Value.int IntKind.i64 x_7 ∧
                                                    C Tryz.prog 16 #[Value.string (sext x_4 0 (imin (↑x_4.size : Int) 80))] h' fun (r : Value) (h' : Heap) =>
                                                      ∃ (x_8 : ByteArray),
                                                        r = Value.string x_8 ∧
                                                          C Tryz.prog 30
                                                            #[Value.pointer m, Value.agg #[Value.int IntKind.i64 p_0, Value.int IntKind.i64 p_1, Value.int IntKind.i64 p_2], Value.int IntKind.i64 x_1, Value.string x_8]
                                                            h' fun (r : Value) (h' : Heap) =>
                                                            ∃ (x_9 : Int), r = Value.int IntKind.i64 x_9 ∧ gabionlaw05_SparePlays.J43 d b m table (decide (x_7 = x_9)) t56 t56_n t56_c t57 t58 p_0 p_1 p_2 x x_1 x_2 x_3 x_4 x_5 n m_1 h' Q)
                                        (xsIf (decide (irem (imax 0 x) 7 = 1))
                                          (C Tryz.prog 15 #[Value.pointer b, Value.int IntKind.i64 x_1, Value.string (sext x_4 0 (imin (↑x_4.size : Int) 80))] h fun (r : Value) (h' : Heap) =>
                                            ∃ (x_6 : Int),
                                              r = Value.int IntKind.i64 x_6 ∧
                                                C Tryz.prog 30
                                                  #[Value.pointer m, Value.agg #[Value.int IntKind.i64 p_0, Value.int IntKind.i64 p_1, Value.int IntKind.i64 p_2], Value.int IntKind.i64 x_1,
                                                        Value.string (sext x_4 0 (imin (↑x_4.size : Int) 80))]
                                                  h' fun (r : Value) (h' : Heap) =>
                                                  ∃ (x_7 : Int), r = Value.int IntKind.i64 x_7 ∧ gabionlaw05_SparePlays.J43 d b m table (decide (x_6 = x_7)) t56 t56_n t56_c t57 t58 p_0 p_1 p_2 x x_1 x_2 x_3 x_4 x_5 n m_1 h' Q)
                                          (xsIf (decide (irem (imax 0 x) 7 = 2))
                                            (C Tryz.prog 28 #[Value.pointer b, Value.int IntKind.i64 x_1, Value.int IntKind.i64 x_2, Value.int IntKind.u64 x_3] h fun (r : Value) (h' : Heap) =>
                                              ∃ (x_6 : Int),
                                                r = Value.int IntKind.i64 x_6 ∧
                                                  C Tryz.prog 31
                                                    #[Value.pointer m, Value.agg #[Value.int IntKind.i64 p_0, Value.int IntKind.i64 p_1, Value.int IntKind.i64 p_2], Value.int IntKind.i64 x_1, Value.int IntKind.i64 x_2,
                                                          Value.int IntKind.u64 x_3]
                                                    h' fun (r : Value) (h' : Heap) =>
                                                    ∃ (x_7 : Int), r = Value.int IntKind.i64 x_7 ∧ gabionlaw05_SparePlays.J43 d b m table (decide (x_6 = x_7)) t56 t56_n t56_c t57 t58 p_0 p_1 p_2 x x_1 x_2 x_3 x_4 x_5 n m_1 h' Q)
                                            (xsIf (decide (irem (imax 0 x) 7 = 3))
                                              (C Tryz.prog 20 #[Value.pointer b, Value.int IntKind.i64 x_1] h fun (r : Value) (h' : Heap) =>
                                                ∃ (x_6 : ByteArray),
                                                  ∃ (x_7 : Int),
                                                    r = Value.tuple #[Value.string x_6, Value.int IntKind.i64 x_7] ∧
                                                      C Tryz.prog 32 #[Value.pointer m, Value.agg #[Value.int IntKind.i64 p_0, Value.int IntKind.i64 p_1, Value.int IntKind.i64 p_2]] h' fun (r : Value) (h' : Heap) =>
                                                        ∃ (x_8 : Option Addr),
                                                          ∃ (n_1 : Nat),
                                                            ∃ (m_2 : Nat),
                                                              ∃ (x_9 : Int),
                                                                r = Value.tuple #[Value.slice x_8 n_1 m_2, Value.int IntKind.i64 x_9] ∧
                                                                  xsIf (decide (x_9 = 0))
                                                                    (xsIf (decide (0 ≤ x_1))
                                                                      (xsIf (decide (x_1 < p_1))
                                                                        (C Tryz.prog 21 #[Value.pointer b, Value.int IntKind.i64 x_1] h' fun (r : Value) (h' : Heap) =>
                                                                          ∃ (x_10 : Int),
                                                                            ∃ (x_11 : Int),
                                                                              r = Value.tuple #[Value.int IntKind.i64 x_10, Value.int IntKind.i64 x_11] ∧
                                                                                C Tryz.prog 34
                                                                                  #[Value.agg #[Value.int IntKind.i64 p_0, Value.int IntKind.i64 p_1, Value.int IntKind.i64 p_2], Value.slice x_8 n_1 m_2,
                                                                                        Value.int IntKind.i64 x_1]
                                                                                  h' fun (r : Value) (h' : Heap) =>
                                                                                  ∃ (x_12 : Int),
                                                                                    r = Value.int IntKind.i64 x_12 ∧
                                                                                      C Tryz.prog 33 #[Value.pointer m, Value.int IntKind.i64 x_12] h' fun (r : Value) (h' : Heap) =>
                                                                                        ∃ (x_13 : ByteArray),
                                                                                          ∃ (x_14 : Int),
                                                                                            r = Value.tuple #[Value.string x_13, Value.int IntKind.i64 x_14] ∧
                                                                                              xsIf (decide (x_6 = x_13))
                                                                                                (xsIf (decide (x_7 = x_14))
                                                                                                  (xsIf (decide (x_11 = 0))
                                                                                                    (C Tryz.prog 34
                                                                                                      #[Value.agg #[Value.int IntKind.i64 p_0, Value.int IntKind.i64 p_1, Value.int IntKind.i64 p_2], Value.slice x_8 n_1 m_2,
                                                                                                            Value.int IntKind.i64 x_1]
                                                                                                      h' fun (r : Value) (h' : Heap) =>
                                                                                                      ∃ (x_15 : Int),
                                                                                                        r = Value.int IntKind.i64 x_15 ∧
                                                                                                          xsIf (decide (x_10 = x_15))
                                                                                                            (C Tryz.prog 18 #[Value.pointer b] h' fun (r : Value) (h' : Heap) =>
                                                                                                              ∃ (x_16 : Int),
                                                                                                                r = Value.int IntKind.i64 x_16 ∧
                                                                                                                  gabionlaw05_SparePlays.J43 d b m table (decide (x_16 = IntKind.i64.wrap (p_2 - (↑n_1 : Int)))) t56 t56_n t56_c t57 t58 p_0 p_1
                                                                                                                    p_2 x x_1 x_2 x_3 x_4 x_5 n m_1 h' Q)
                                                                                                            (gabionlaw05_SparePlays.J43 d b m table false t56 t56_n t56_c t57 t58 p_0 p_1 p_2 x x_1 x_2 x_3 x_4 x_5 n m_1 h' Q))
                                                                                                    (gabionlaw05_SparePlays.J43 d b m table false t56 t56_n t56_c t57 t58 p_0 p_1 p_2 x x_1 x_2 x_3 x_4 x_5 n m_1 h' Q))
                                                                                                  (gabionlaw05_SparePlays.J43 d b m table false t56 t56_n t56_c t57 t58 p_0 p_1 p_2 x x_1 x_2 x_3 x_4 x_5 n m_1 h' Q))
                                                                                                (gabionlaw05_SparePlays.J43 d b m table false t56 t56_n t56_c t57 t58 p_0 p_1 p_2 x x_1 x_2 x_3 x_4 x_5 n m_1 h' Q))
                                                                        (xsIf (decide (x_9 = 0)) (gabionlaw05_SparePlays.J43 d b m table (decide (x_7 = 3)) t56 t56_n t56_c t57 t58 p_0 p_1 p_2 x x_1 x_2 x_3 x_4 x_5 n m_1 h' Q)
                                                                          (gabionlaw05_SparePlays.J43 d b m table true t56 t56_n t56_c t57 t58 p_0 p_1 p_2 x x_1 x_2 x_3 x_4 x_5 n m_1 h' Q)))
                                                                      (xsIf (decide (x_9 = 0)) (gabionlaw05_SparePlays.J43 d b m table (decide (x_7 = 3)) t56 t56_n t56_c t57 t58 p_0 p_1 p_2 x x_1 x_2 x_3 x_4 x_5 n m_1 h' Q)
                                                                        (gabionlaw05_SparePlays.J43 d b m table true t56 t56_n t56_c t57 t58 p_0 p_1 p_2 x x_1 x_2 x_3 x_4 x_5 n m_1 h' Q)))
                                                                    (xsIf (decide (x_9 = 0)) (gabionlaw05_SparePlays.J43 d b m table (decide (x_7 = 3)) t56 t56_n t56_c t57 t58 p_0 p_1 p_2 x x_1 x_2 x_3 x_4 x_5 n m_1 h' Q)
                                                                      (gabionlaw05_SparePlays.J43 d b m table true t56 t56_n t56_c t57 t58 p_0 p_1 p_2 x x_1 x_2 x_3 x_4 x_5 n m_1 h' Q)))
                                              (xsIf (decide (irem (imax 0 x) 7 = 4))
                                                (IntKind.i64.wrap (p_1 + p_2) ≠ 0 ∧
                                                  atBase m fun (b_2 o : Nat) =>
                                                    ∃ (x_6 : Option Addr),
                                                      ∃ (n_1 : Nat),
                                                        ∃ (m_2 : Nat),
                                                          h.cell b_2 (o + 2) = some (Value.slice x_6 n_1 m_2) ∧
                                                            xsIf (decide (IntKind.i64.wrap (IntKind.i64.wrap (p_0 + table) + irem (imax 0 x_1) (IntKind.i64.wrap (p_1 + p_2))) < (↑n_1 : Int)))
                                                              (C Tryz.prog 14 #[Value.pointer d, Value.int IntKind.i64 (IntKind.i64.wrap (IntKind.i64.wrap (p_0 + table) + irem (imax 0 x_1) (IntKind.i64.wrap (p_1 + p_2))))] h
                                                                fun (r : Value) (h' : Heap) =>
                                                                atBase m fun (b_3 o : Nat) =>
                                                                  ∃ (x_7 : Option Addr),
                                                                    ∃ (n_2 : Nat),
                                                                      ∃ (m_3 : Nat),
                                                                        h'.cell b_3 (o + 2) = some (Value.slice x_7 n_2 m_3) ∧
                                                                          (0 ≤ IntKind.i64.wrap (IntKind.i64.wrap (p_0 + table) + irem (imax 0 x_1) (IntKind.i64.wrap (p_1 + p_2))) ∧
                                                                              IntKind.i64.wrap (IntKind.i64.wrap (p_0 + table) + irem (imax 0 x_1) (IntKind.i64.wrap (p_1 + p_2))) < (↑n_2 : Int)) ∧
                                                                            atBase x_7 fun (b_4 o : Nat) =>
                                                                              h'.can b_4 (o + (IntKind.i64.wrap (IntKind.i64.wrap (p_0 + table) + irem (imax 0 x_1) (IntKind.i64.wrap (p_1 + p_2)))).toNat * 1) 1 ∧
                                                                                gabionlaw05_SparePlays.J43 d b m table true t56 t56_n t56_c t57 t58 p_0 p_1 p_2 x x_1 x_2 x_3 x_4 x_5 n m_1
                                                                                  (h'.put b_4 (o + (IntKind.i64.wrap (IntKind.i64.wrap (p_0 + table) + irem (imax 0 x_1) (IntKind.i64.wrap (p_1 + p_2)))).toNat * 1) [Value.bool true]) Q)
                                                              (gabionlaw05_SparePlays.J43 d b m table true t56 t56_n t56_c t57 t58 p_0 p_1 p_2 x x_1 x_2 x_3 x_4 x_5 n m_1 h Q))
                                                (xsIf (decide (irem (imax 0 x) 7 = 5))
                                                  (C Tryz.prog 35 #[Value.pointer d, Value.int IntKind.i64 x_2] h fun (r : Value) (h' : Heap) =>
                                                    atBase m fun (b_2 o : Nat) =>
                                                      h'.can b_2 (o + 3) 1 ∧
                                                        gabionlaw05_SparePlays.J43 d b m table true t56 t56_n t56_c t57 t58 p_0 p_1 p_2 x x_1 x_2 x_3 x_4 x_5 n m_1 (h'.put b_2 (o + 3) [Value.int IntKind.i64 (imax x_2 0)]) Q)
                                                  (xsIf (decide (irem (imax 0 x) 7 = 6))
                                                    ((0 ≤ imin (↑n : Int) 30 ∧ imin (↑n : Int) 30 ≤ (↑m_1 : Int)) ∧
                                                      C Tryz.prog 36 #[Value.pointer d, Value.slice (slBase x_5 (↑m_1 : Int) 0 1) (imin (↑n : Int) 30 - 0).toNat ((↑m_1 : Int) - 0).toNat] h fun (r : Value) (h' : Heap) =>
                                                        C Tryz.prog 37 #[Value.pointer m, Value.slice (slBase x_5 (↑m_1 : Int) 0 1) (imin (↑n : Int) 30 - 0).toNat ((↑m_1 : Int) - 0).toNat] h' fun (r : Value) (h' : Heap) =>
                                                          C Tryz.prog 17 #[Value.pointer d, Value.agg #[Value.int IntKind.i64 p_0, Value.int IntKind.i64 p_1, Value.int IntKind.i64 p_2]] h'
                                                            fun (r : Value) (h' : Heap) =>
                                                            ∃ (x_6 : Option Addr),
                                                              ∃ (x_7 : Int),
                                                                r = Value.tuple #[Value.pointer x_6, Value.int IntKind.i64 x_7] ∧
                                                                  xsIf (decide (x_7 ≠ 0)) (Q (Value.bool false) h')
                                                                    (xsIf x_6.isNone (Q (Value.bool false) h') (gabionlaw05_SparePlays.J43 d x_6 m table true t56 t56_n t56_c t57 t58 p_0 p_1 p_2 x x_1 x_2 x_3 x_4 x_5 n m_1 h' Q)))
                                                    (gabionlaw05_SparePlays.J43 d b m table true t56 t56_n t56_c t57 t58 p_0 p_1 p_2 x x_1 x_2 x_3 x_4 x_5 n m_1 h Q))))))))
    (Q (Value.bool true) h)
def gabionlaw05_SparePlays.J43.wp (d : Option Addr) (b : Option Addr) (m : Option Addr) (table : Int) (same : Bool) (t56 : Option Addr) (t56_n : Nat) (t56_c : Nat) (t57 : Int) (t58 : Int) (p_0 : Int) (p_1 : Int) (p_2 : Int) (a_0 : Int) (a_1 : Int) (a_2 : Int) (a_3 : Int) (a_4 : ByteArray) (a_5 : Option Addr) (a_5_n : Nat) (a_5_c : Nat) (h : Heap) (Q : Value → Heap → Prop) : Prop :=
  atBase m fun (b_1 o : Nat) =>
    ∃ (x : Bool),
      h.cell b_1 (o + 4) = some (Value.bool x) ∧
        xsIf x
          (xsIf (!same) (Q (Value.bool false) h)
            (C Tryz.prog 38 #[Value.pointer d] h fun (r : Value) (h' : Heap) =>
              ∃ (x : Bool),
                r = Value.bool x ∧
                  xsIf (!x) (Q (Value.bool false) h')
                    (C Tryz.prog 29 #[Value.pointer d, Value.pointer m] h' fun (r : Value) (h' : Heap) =>
                      ∃ (x : Bool), r = Value.bool x ∧ xsIf (!x) (Q (Value.bool false) h') (gabionlaw05_SparePlays.J46 d m table same t56 t56_n t56_c t57 t58 p_0 p_1 p_2 a_0 a_1 a_2 a_3 a_4 a_5 a_5_n a_5_c h' Q))))
          (xsIf (!same) (Q (Value.bool false) h)
            (C Tryz.prog 29 #[Value.pointer d, Value.pointer m] h fun (r : Value) (h' : Heap) =>
              ∃ (x : Bool), r = Value.bool x ∧ xsIf (!x) (Q (Value.bool false) h') (gabionlaw05_SparePlays.L7 d b m table t56 t56_n t56_c t57 (IntKind.i64.wrap (t58 + 1)) p_0 p_1 p_2 h' Q)))
def gabionlaw05_SparePlays.J46.wp (d : Option Addr) (m : Option Addr) (table : Int) (same : Bool) (t56 : Option Addr) (t56_n : Nat) (t56_c : Nat) (t57 : Int) (t58 : Int) (p_0 : Int) (p_1 : Int) (p_2 : Int) (a_0 : Int) (a_1 : Int) (a_2 : Int) (a_3 : Int) (a_4 : ByteArray) (a_5 : Option Addr) (a_5_n : Nat) (a_5_c : Nat) (h : Heap) (Q : Value → Heap → Prop) : Prop :=
  C Tryz.prog 36 #[Value.pointer d, Value.slice a_5 a_5_n a_5_c] h fun (r : Value) (h' : Heap) =>
    C Tryz.prog 37 #[Value.pointer m, Value.slice a_5 a_5_n a_5_c] h' fun (r : Value) (h' : Heap) =>
      C Tryz.prog 17 #[Value.pointer d, Value.agg #[Value.int IntKind.i64 p_0, Value.int IntKind.i64 p_1, Value.int IntKind.i64 p_2]] h' fun (r : Value) (h' : Heap) =>
        ∃ (x : Option Addr),
          ∃ (x_1 : Int),
            r = Value.tuple #[Value.pointer x, Value.int IntKind.i64 x_1] ∧
              xsIf (decide (x_1 ≠ 0)) (Q (Value.bool false) h')
                (xsIf x.isNone (Q (Value.bool false) h')
                  (xsIf (!same) (Q (Value.bool false) h')
                    (C Tryz.prog 29 #[Value.pointer d, Value.pointer m] h' fun (r : Value) (h' : Heap) =>
                      ∃ (x_2 : Bool), r = Value.bool x_2 ∧ xsIf (!x_2) (Q (Value.bool false) h') (gabionlaw05_SparePlays.L7 d x m table t56 t56_n t56_c t57 (IntKind.i64.wrap (t58 + 1)) p_0 p_1 p_2 h' Q))))
theorem gabionlaw05_SparePlays.ok {x_0 : Int} {x_1 : Int} {x_2 : Int} {acts : Option Addr} {acts_n : Nat} {acts_c : Nat} {h : Heap} {Q : Value → Heap → Prop} (hk : gabionlaw05_SparePlays.wp x_0 x_1 x_2 acts acts_n acts_c h Q) : C Tryz.prog 5 #[.agg #[.int .i64 x_0, .int .i64 x_1, .int .i64 x_2], .slice acts acts_n acts_c] h Q :=
  C_of_xs (H := gabionlaw05_SparePlays.H) (lcuts := gabionlaw05_SparePlays.lc) (rcuts := gabionlaw05_SparePlays.rc) (l := [.agg #[.int .i64 x_0, .int .i64 x_1, .int .i64 x_2], .slice acts acts_n acts_c]) 2000 mixed Tryz.func5 rfl (by kernel_rfl) (@cast (gabionlaw05_SparePlays.wp x_0 x_1 x_2 acts acts_n acts_c h Q) _ (by kernel_rfl) hk)
theorem gabionlaw05_SparePlays.J5.ok {acts : Option Addr} {acts_n : Nat} {acts_c : Nat} {d : Option Addr} {b : Option Addr} {m : Option Addr} {p_0 : Int} {p_1 : Int} {p_2 : Int} {h : Heap} {Q : Value → Heap → Prop} (hk : gabionlaw05_SparePlays.J5.wp acts acts_n acts_c d b m p_0 p_1 p_2 h Q) : gabionlaw05_SparePlays.J5 acts acts_n acts_c d b m p_0 p_1 p_2 h Q :=
  xs_ok (H := gabionlaw05_SparePlays.H) (lcuts := gabionlaw05_SparePlays.lc) (rcuts := [⟨43, [5, 6, 7, 8, 10, 12, 14, 56, 57, 58], [5, 12]⟩, ⟨46, [5, 6, 8, 10, 12, 14, 56, 57, 58], [5, 12]⟩]) (fn := Tryz.f5) mixed Tryz.func5 2000 _ _ _ (@cast (gabionlaw05_SparePlays.J5.wp acts acts_n acts_c d b m p_0 p_1 p_2 h Q) _ (by kernel_rfl) hk)
theorem gabionlaw05_SparePlays.L7.ok {d : Option Addr} {b : Option Addr} {m : Option Addr} {table : Int} {t56 : Option Addr} {t56_n : Nat} {t56_c : Nat} {t57 : Int} {t58 : Int} {p_0 : Int} {p_1 : Int} {p_2 : Int} {h : Heap} {Q : Value → Heap → Prop} (hk : gabionlaw05_SparePlays.L7.wp d b m table t56 t56_n t56_c t57 t58 p_0 p_1 p_2 h Q) : gabionlaw05_SparePlays.L7 d b m table t56 t56_n t56_c t57 t58 p_0 p_1 p_2 h Q :=
  xs_ok (H := gabionlaw05_SparePlays.H) (lcuts := gabionlaw05_SparePlays.lc) (rcuts := gabionlaw05_SparePlays.rc) (fn := Tryz.f5) mixed Tryz.func5 2000 _ _ _ (@cast (gabionlaw05_SparePlays.L7.wp d b m table t56 t56_n t56_c t57 t58 p_0 p_1 p_2 h Q) _ (by kernel_rfl) hk)
theorem gabionlaw05_SparePlays.J43.ok {d : Option Addr} {b : Option Addr} {m : Option Addr} {table : Int} {same : Bool} {t56 : Option Addr} {t56_n : Nat} {t56_c : Nat} {t57 : Int} {t58 : Int} {p_0 : Int} {p_1 : Int} {p_2 : Int} {a_0 : Int} {a_1 : Int} {a_2 : Int} {a_3 : Int} {a_4 : ByteArray} {a_5 : Option Addr} {a_5_n : Nat} {a_5_c : Nat} {h : Heap} {Q : Value → Heap → Prop} (hk : gabionlaw05_SparePlays.J43.wp d b m table same t56 t56_n t56_c t57 t58 p_0 p_1 p_2 a_0 a_1 a_2 a_3 a_4 a_5 a_5_n a_5_c h Q) : gabionlaw05_SparePlays.J43 d b m table same t56 t56_n t56_c t57 t58 p_0 p_1 p_2 a_0 a_1 a_2 a_3 a_4 a_5 a_5_n a_5_c h Q :=
  xs_ok (H := gabionlaw05_SparePlays.H) (lcuts := gabionlaw05_SparePlays.lc) (rcuts := [⟨5, [1, 5, 6, 7, 8], [5]⟩, ⟨46, [5, 6, 8, 10, 12, 14, 56, 57, 58], [5, 12]⟩]) (fn := Tryz.f5) mixed Tryz.func5 2000 _ _ _ (@cast (gabionlaw05_SparePlays.J43.wp d b m table same t56 t56_n t56_c t57 t58 p_0 p_1 p_2 a_0 a_1 a_2 a_3 a_4 a_5 a_5_n a_5_c h Q) _ (by kernel_rfl) hk)
theorem gabionlaw05_SparePlays.J46.ok {d : Option Addr} {m : Option Addr} {table : Int} {same : Bool} {t56 : Option Addr} {t56_n : Nat} {t56_c : Nat} {t57 : Int} {t58 : Int} {p_0 : Int} {p_1 : Int} {p_2 : Int} {a_0 : Int} {a_1 : Int} {a_2 : Int} {a_3 : Int} {a_4 : ByteArray} {a_5 : Option Addr} {a_5_n : Nat} {a_5_c : Nat} {h : Heap} {Q : Value → Heap → Prop} (hk : gabionlaw05_SparePlays.J46.wp d m table same t56 t56_n t56_c t57 t58 p_0 p_1 p_2 a_0 a_1 a_2 a_3 a_4 a_5 a_5_n a_5_c h Q) : gabionlaw05_SparePlays.J46 d m table same t56 t56_n t56_c t57 t58 p_0 p_1 p_2 a_0 a_1 a_2 a_3 a_4 a_5 a_5_n a_5_c h Q :=
  xs_ok (H := gabionlaw05_SparePlays.H) (lcuts := gabionlaw05_SparePlays.lc) (rcuts := [⟨5, [1, 5, 6, 7, 8], [5]⟩, ⟨43, [5, 6, 7, 8, 10, 12, 14, 56, 57, 58], [5, 12]⟩]) (fn := Tryz.f5) mixed Tryz.func5 2000 _ _ _ (@cast (gabionlaw05_SparePlays.J46.wp d m table same t56 t56_n t56_c t57 t58 p_0 p_1 p_2 a_0 a_1 a_2 a_3 a_4 a_5 a_5_n a_5_c h Q) _ (by kernel_rfl) hk)
end Go.Gb
