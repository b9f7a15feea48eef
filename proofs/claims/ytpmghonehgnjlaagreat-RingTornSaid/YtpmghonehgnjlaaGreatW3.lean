/- Own text for the seat: W3. -/
import Derived.Test.YtpmghonehgnjlaaGreatW2
set_option linter.unusedVariables false
set_option linter.unusedSimpArgs false
set_option linter.unnecessarySimpa false
set_option linter.deprecated false
set_option maxRecDepth 100000
namespace Go.Gb
open Go.Proofs

/-! gabion/gabionlaw07.RingTorn -/
def gabionlaw07_RingTorn.H : Hn := ⟨[], [], [], []⟩
def gabionlaw07_RingTorn.lc : List Cut := [⟨10, [0, 4, 5, 7, 8, 10, 12, 66, 67], [4, 5, 7]⟩, ⟨12, [0, 4, 5, 7, 8, 10, 12, 66, 67, 69, 70, 71], [4, 5, 7]⟩, ⟨19, [4, 5, 7, 8, 10, 12, 87, 88, 89], [4, 5, 7]⟩, ⟨27, [4, 5, 7, 8, 12, 17, 18, 112], [4, 5, 7]⟩, ⟨36, [4, 17, 20, 152, 153, 154], [4]⟩]
def gabionlaw07_RingTorn.rc : List Cut := [⟨5, [0, 4, 5, 7, 8], [4, 5, 7]⟩, ⟨8, [0, 4, 5, 7, 8, 10], [4, 5, 7]⟩, ⟨35, [4, 12, 17, 20], [4]⟩, ⟨41, [], []⟩]
def gabionlaw07_RingTorn.J5 (bad : Option Addr) (bad_n : Nat) (bad_c : Nat) (d : Option Addr) (s_4_0 : ByteArray) (s_4_1 : ByteArray) (cut_5_0 : Int) (cut_5_1 : Int) (cut_5_2 : Int) (p_0 : Int) (p_1 : Int) (p_2 : Int) (p_3 : Int) (h : Heap) (Q : Value → Heap → Prop) : Prop :=
  TW Tryz.prog 5 208 [.code (cAt (bodyOf Tryz.f5) [1, 1, 1, 1, 0]), .code (cAt (bodyOf Tryz.f5) [1, 1, 1, 1, 1])] ⟨[(0, .v (.slice bad bad_n bad_c)), (4, .p 4 0), (5, .p 5 0), (7, .p 7 0), (8, .v (.pointer d))], [(4, [.string s_4_0, .string s_4_1]), (5, [.int .u8 cut_5_0, .int .u8 cut_5_1, .int .u8 cut_5_2]), (7, [.int .i64 p_0, .int .i64 p_1, .int .i64 p_2, .int .i64 p_3])]⟩ h Q
def gabionlaw07_RingTorn.J8 (bad : Option Addr) (bad_n : Nat) (bad_c : Nat) (d : Option Addr) (r0 : Option Addr) (s_4_0 : ByteArray) (s_4_1 : ByteArray) (cut_5_0 : Int) (cut_5_1 : Int) (cut_5_2 : Int) (p_0 : Int) (p_1 : Int) (p_2 : Int) (p_3 : Int) (h : Heap) (Q : Value → Heap → Prop) : Prop :=
  TW Tryz.prog 5 208 [.code (cAt (bodyOf Tryz.f5) [1, 1, 1, 1, 1, 1, 0]), .code (cAt (bodyOf Tryz.f5) [1, 1, 1, 1, 1, 1, 1])] ⟨[(0, .v (.slice bad bad_n bad_c)), (4, .p 4 0), (5, .p 5 0), (7, .p 7 0), (8, .v (.pointer d)), (10, .v (.pointer r0))], [(4, [.string s_4_0, .string s_4_1]), (5, [.int .u8 cut_5_0, .int .u8 cut_5_1, .int .u8 cut_5_2]), (7, [.int .i64 p_0, .int .i64 p_1, .int .i64 p_2, .int .i64 p_3])]⟩ h Q
def gabionlaw07_RingTorn.L10 (bad : Option Addr) (bad_n : Nat) (bad_c : Nat) (d : Option Addr) (r0 : Option Addr) (was : Option Addr) (was_n : Nat) (was_c : Nat) (t66 : Int) (t67 : Int) (s_4_0 : ByteArray) (s_4_1 : ByteArray) (cut_5_0 : Int) (cut_5_1 : Int) (cut_5_2 : Int) (p_0 : Int) (p_1 : Int) (p_2 : Int) (p_3 : Int) (h : Heap) (Q : Value → Heap → Prop) : Prop :=
  TW Tryz.prog 5 208 [.code (cAt (bodyOf Tryz.f5) [1, 1, 1, 1, 1, 1, 1, 0, 1, 0, 0]), .inLoop (cAt (bodyOf Tryz.f5) [1, 1, 1, 1, 1, 1, 1, 0, 1, 0, 0]), .inBlock 0, .code (cAt (bodyOf Tryz.f5) [1, 1, 1, 1, 1, 1, 1, 1])] ⟨[(0, .v (.slice bad bad_n bad_c)), (4, .p 4 0), (5, .p 5 0), (7, .p 7 0), (8, .v (.pointer d)), (10, .v (.pointer r0)), (12, .v (.slice was was_n was_c)), (66, .v (.int .i64 t66)), (67, .v (.int .i64 t67))], [(4, [.string s_4_0, .string s_4_1]), (5, [.int .u8 cut_5_0, .int .u8 cut_5_1, .int .u8 cut_5_2]), (7, [.int .i64 p_0, .int .i64 p_1, .int .i64 p_2, .int .i64 p_3])]⟩ h Q
def gabionlaw07_RingTorn.L12 (bad : Option Addr) (bad_n : Nat) (bad_c : Nat) (d : Option Addr) (r0 : Option Addr) (was : Option Addr) (was_n : Nat) (was_c : Nat) (t66 : Int) (t67 : Int) (t69 : Option Addr) (t69_n : Nat) (t69_c : Nat) (t70 : Int) (t71 : Int) (s_4_0 : ByteArray) (s_4_1 : ByteArray) (cut_5_0 : Int) (cut_5_1 : Int) (cut_5_2 : Int) (p_0 : Int) (p_1 : Int) (p_2 : Int) (p_3 : Int) (h : Heap) (Q : Value → Heap → Prop) : Prop :=
  TW Tryz.prog 5 208 [.code (cAt (bodyOf Tryz.f5) [1, 1, 1, 1, 1, 1, 1, 0, 1, 0, 0, 1, 1, 0, 0, 1, 0, 0]), .inLoop (cAt (bodyOf Tryz.f5) [1, 1, 1, 1, 1, 1, 1, 0, 1, 0, 0, 1, 1, 0, 0, 1, 0, 0]), .inBlock 2, .inBlock 1, .code (cAt (bodyOf Tryz.f5) [1, 1, 1, 1, 1, 1, 1, 0, 1, 0, 0, 1, 1, 1]), .inLoop (cAt (bodyOf Tryz.f5) [1, 1, 1, 1, 1, 1, 1, 0, 1, 0, 0]), .inBlock 0, .code (cAt (bodyOf Tryz.f5) [1, 1, 1, 1, 1, 1, 1, 1])] ⟨[(0, .v (.slice bad bad_n bad_c)), (4, .p 4 0), (5, .p 5 0), (7, .p 7 0), (8, .v (.pointer d)), (10, .v (.pointer r0)), (12, .v (.slice was was_n was_c)), (66, .v (.int .i64 t66)), (67, .v (.int .i64 t67)), (69, .v (.slice t69 t69_n t69_c)), (70, .v (.int .i64 t70)), (71, .v (.int .i64 t71))], [(4, [.string s_4_0, .string s_4_1]), (5, [.int .u8 cut_5_0, .int .u8 cut_5_1, .int .u8 cut_5_2]), (7, [.int .i64 p_0, .int .i64 p_1, .int .i64 p_2, .int .i64 p_3])]⟩ h Q
def gabionlaw07_RingTorn.L19 (d : Option Addr) (r0 : Option Addr) (was : Option Addr) (was_n : Nat) (was_c : Nat) (t87 : Option Addr) (t87_n : Nat) (t87_c : Nat) (t88 : Int) (t89 : Int) (s_4_0 : ByteArray) (s_4_1 : ByteArray) (cut_5_0 : Int) (cut_5_1 : Int) (cut_5_2 : Int) (p_0 : Int) (p_1 : Int) (p_2 : Int) (p_3 : Int) (h : Heap) (Q : Value → Heap → Prop) : Prop :=
  TW Tryz.prog 5 208 [.code (cAt (bodyOf Tryz.f5) [1, 1, 1, 1, 1, 1, 1, 1, 0, 1, 0, 0]), .inLoop (cAt (bodyOf Tryz.f5) [1, 1, 1, 1, 1, 1, 1, 1, 0, 1, 0, 0]), .inBlock 4, .code (cAt (bodyOf Tryz.f5) [1, 1, 1, 1, 1, 1, 1, 1, 1])] ⟨[(4, .p 4 0), (5, .p 5 0), (7, .p 7 0), (8, .v (.pointer d)), (10, .v (.pointer r0)), (12, .v (.slice was was_n was_c)), (87, .v (.slice t87 t87_n t87_c)), (88, .v (.int .i64 t88)), (89, .v (.int .i64 t89))], [(4, [.string s_4_0, .string s_4_1]), (5, [.int .u8 cut_5_0, .int .u8 cut_5_1, .int .u8 cut_5_2]), (7, [.int .i64 p_0, .int .i64 p_1, .int .i64 p_2, .int .i64 p_3])]⟩ h Q
def gabionlaw07_RingTorn.L27 (d : Option Addr) (was : Option Addr) (was_n : Nat) (was_c : Nat) (f : Int) (keep : Option Addr) (keep_n : Nat) (keep_c : Nat) (t112 : Int) (s_4_0 : ByteArray) (s_4_1 : ByteArray) (cut_5_0 : Int) (cut_5_1 : Int) (cut_5_2 : Int) (p_0 : Int) (p_1 : Int) (p_2 : Int) (p_3 : Int) (h : Heap) (Q : Value → Heap → Prop) : Prop :=
  TW Tryz.prog 5 208 [.code (cAt (bodyOf Tryz.f5) [1, 1, 1, 1, 1, 1, 1, 1, 1, 1, 1, 1, 0, 1, 0, 0]), .inLoop (cAt (bodyOf Tryz.f5) [1, 1, 1, 1, 1, 1, 1, 1, 1, 1, 1, 1, 0, 1, 0, 0]), .inBlock 6, .code (cAt (bodyOf Tryz.f5) [1, 1, 1, 1, 1, 1, 1, 1, 1, 1, 1, 1, 1])] ⟨[(4, .p 4 0), (5, .p 5 0), (7, .p 7 0), (8, .v (.pointer d)), (12, .v (.slice was was_n was_c)), (17, .v (.int .i64 f)), (18, .v (.slice keep keep_n keep_c)), (112, .v (.int .i64 t112))], [(4, [.string s_4_0, .string s_4_1]), (5, [.int .u8 cut_5_0, .int .u8 cut_5_1, .int .u8 cut_5_2]), (7, [.int .i64 p_0, .int .i64 p_1, .int .i64 p_2, .int .i64 p_3])]⟩ h Q
def gabionlaw07_RingTorn.J35 (was : Option Addr) (was_n : Nat) (was_c : Nat) (f : Int) (again : Option Addr) (s_4_0 : ByteArray) (s_4_1 : ByteArray) (h : Heap) (Q : Value → Heap → Prop) : Prop :=
  TW Tryz.prog 5 208 [.code (cAt (bodyOf Tryz.f5) [1, 1, 1, 1, 1, 1, 1, 1, 1, 1, 1, 1, 1, 1, 1, 1, 0, 0]), .code (cAt (bodyOf Tryz.f5) [1, 1, 1, 1, 1, 1, 1, 1, 1, 1, 1, 1, 1, 1, 1, 1, 0, 1]), .code (cAt (bodyOf Tryz.f5) [1, 1, 1, 1, 1, 1, 1, 1, 1, 1, 1, 1, 1, 1, 1, 1, 1])] ⟨[(4, .p 4 0), (12, .v (.slice was was_n was_c)), (17, .v (.int .i64 f)), (20, .v (.pointer again))], [(4, [.string s_4_0, .string s_4_1])]⟩ h Q
def gabionlaw07_RingTorn.L36 (f : Int) (again : Option Addr) (t152 : Option Addr) (t152_n : Nat) (t152_c : Nat) (t153 : Int) (t154 : Int) (s_4_0 : ByteArray) (s_4_1 : ByteArray) (h : Heap) (Q : Value → Heap → Prop) : Prop :=
  TW Tryz.prog 5 208 [.code (cAt (bodyOf Tryz.f5) [1, 1, 1, 1, 1, 1, 1, 1, 1, 1, 1, 1, 1, 1, 1, 1, 0, 1, 0, 0]), .inLoop (cAt (bodyOf Tryz.f5) [1, 1, 1, 1, 1, 1, 1, 1, 1, 1, 1, 1, 1, 1, 1, 1, 0, 1, 0, 0]), .inBlock 8, .code (cAt (bodyOf Tryz.f5) [1, 1, 1, 1, 1, 1, 1, 1, 1, 1, 1, 1, 1, 1, 1, 1, 1])] ⟨[(4, .p 4 0), (17, .v (.int .i64 f)), (20, .v (.pointer again)), (152, .v (.slice t152 t152_n t152_c)), (153, .v (.int .i64 t153)), (154, .v (.int .i64 t154))], [(4, [.string s_4_0, .string s_4_1])]⟩ h Q
def gabionlaw07_RingTorn.J41  (h : Heap) (Q : Value → Heap → Prop) : Prop :=
  TW Tryz.prog 5 208 [.code (cAt (bodyOf Tryz.f5) [1, 1, 1, 1, 1, 1, 1, 1, 1, 1, 1, 1, 1, 1, 1, 1, 0, 1, 0, 0, 1, 1, 0, 0, 1, 1, 0, 1, 0, 0]), .code (cAt (bodyOf Tryz.f5) [1, 1, 1, 1, 1, 1, 1, 1, 1, 1, 1, 1, 1, 1, 1, 1, 0, 1, 0, 0, 1, 1, 0, 0, 1, 1, 0, 1, 0, 1]), .inBlock 10, .inBlock 9, .code (cAt (bodyOf Tryz.f5) [1, 1, 1, 1, 1, 1, 1, 1, 1, 1, 1, 1, 1, 1, 1, 1, 0, 1, 0, 0, 1, 1, 1]), .inLoop (cAt (bodyOf Tryz.f5) [1, 1, 1, 1, 1, 1, 1, 1, 1, 1, 1, 1, 1, 1, 1, 1, 0, 1, 0, 0]), .inBlock 8, .code (cAt (bodyOf Tryz.f5) [1, 1, 1, 1, 1, 1, 1, 1, 1, 1, 1, 1, 1, 1, 1, 1, 1])] ⟨[], []⟩ h Q
def gabionlaw07_RingTorn.wp (bad : Option Addr) (bad_n : Nat) (bad_c : Nat) (s_0 : ByteArray) (s_1 : ByteArray) (cut_0 : Int) (cut_1 : Int) (cut_2 : Int) (h : Heap) (Q : Value → Heap → Prop) : Prop :=
  C Tryz.prog 8 #[Value.int IntKind.i64 20] h fun (r : Value) (h' : Heap) =>
    ∃ (x : Option Addr),
      ∃ (x_1 : Int),
        r = Value.tuple #[Value.pointer x, Value.int IntKind.i64 x_1] ∧
          C Tryz.prog 9 #[Value.pointer x, Value.agg #[Value.int IntKind.i64 0, Value.int IntKind.i64 3, Value.int IntKind.i64 6, Value.int IntKind.i64 (IntKind.i64.wrap (1 + IntKind.i64.wrap (irem cut_2 3)))]] h'
            fun (r : Value) (h' : Heap) =>
            ∃ (x_2 : Int),
              r = Value.int IntKind.i64 x_2 ∧
                xsIf (decide (x_2 ≠ 0)) (Q (Value.bool false) h')
                  (C Tryz.prog 10 #[] h' fun (r : Value) (h' : Heap) =>
                    ∃ (x_3 : Bool), r = Value.bool x_3 ∧ xsIf (!x_3) (Q (Value.bool false) h') (gabionlaw07_RingTorn.J5 bad bad_n bad_c x s_0 s_1 cut_0 cut_1 cut_2 0 3 6 (IntKind.i64.wrap (1 + IntKind.i64.wrap (irem cut_2 3))) h' Q))
def gabionlaw07_RingTorn.J5.wp (bad : Option Addr) (bad_n : Nat) (bad_c : Nat) (d : Option Addr) (s_4_0 : ByteArray) (s_4_1 : ByteArray) (cut_5_0 : Int) (cut_5_1 : Int) (cut_5_2 : Int) (p_0 : Int) (p_1 : Int) (p_2 : Int) (p_3 : Int) (h : Heap) (Q : Value → Heap → Prop) : Prop :=
  C Tryz.prog 11 #[Value.pointer d, Value.agg #[Value.int IntKind.i64 p_0, Value.int IntKind.i64 p_1, Value.int IntKind.i64 p_2, Value.int IntKind.i64 p_3]] h fun (r : Value) (h' : Heap) =>
    ∃ (x : Option Addr),
      ∃ (x_1 : Int),
        r = Value.tuple #[Value.pointer x, Value.int IntKind.i64 x_1] ∧
          xsIf (decide (x_1 ≠ 0)) (Q (Value.bool false) h') (xsIf x.isNone (Q (Value.bool false) h') (gabionlaw07_RingTorn.J8 bad bad_n bad_c d x s_4_0 s_4_1 cut_5_0 cut_5_1 cut_5_2 p_0 p_1 p_2 p_3 h' Q))
def gabionlaw07_RingTorn.J8.wp (bad : Option Addr) (bad_n : Nat) (bad_c : Nat) (d : Option Addr) (r0 : Option Addr) (s_4_0 : ByteArray) (s_4_1 : ByteArray) (cut_5_0 : Int) (cut_5_1 : Int) (cut_5_2 : Int) (p_0 : Int) (p_1 : Int) (p_2 : Int) (p_3 : Int) (h : Heap) (Q : Value → Heap → Prop) : Prop :=
  C Tryz.prog 14 #[Value.string s_4_0] h fun (r : Value) (h' : Heap) =>
    ∃ (x : ByteArray),
      r = Value.string x ∧
        C Tryz.prog 14 #[Value.string { data := #[UInt8.ofNat 98] }] h' fun (r : Value) (h' : Heap) =>
          ∃ (x_1 : ByteArray),
            r = Value.string x_1 ∧
              C Tryz.prog 14 #[Value.string { data := #[UInt8.ofNat 99] }] h' fun (r : Value) (h' : Heap) =>
                ∃ (x_2 : ByteArray),
                  r = Value.string x_2 ∧
                    ∀ (b : Nat),
                      h' b = none →
                        gabionlaw07_RingTorn.L10 bad bad_n bad_c d r0 (some { block := b, off := 0 }) 3 3 (IntKind.i64.wrap (1 + IntKind.i64.wrap (irem cut_5_2 7))) 0 s_4_0 s_4_1 cut_5_0 cut_5_1 cut_5_2 p_0 p_1 p_2 p_3
                          (upd h' b (Obj.cells #[Value.string x, Value.string x_1, Value.string x_2] 9 (0, 0))) Q
def gabionlaw07_RingTorn.L10.wp (bad : Option Addr) (bad_n : Nat) (bad_c : Nat) (d : Option Addr) (r0 : Option Addr) (was : Option Addr) (was_n : Nat) (was_c : Nat) (t66 : Int) (t67 : Int) (s_4_0 : ByteArray) (s_4_1 : ByteArray) (cut_5_0 : Int) (cut_5_1 : Int) (cut_5_2 : Int) (p_0 : Int) (p_1 : Int) (p_2 : Int) (p_3 : Int) (h : Heap) (Q : Value → Heap → Prop) : Prop :=
  xsIf (decide (t67 < t66)) (gabionlaw07_RingTorn.L12 bad bad_n bad_c d r0 was was_n was_c t66 t67 was was_n was_c (↑was_n : Int) 0 s_4_0 s_4_1 cut_5_0 cut_5_1 cut_5_2 p_0 p_1 p_2 p_3 h Q)
    ((0 ≤ imin (↑bad_n : Int) 8 ∧ imin (↑bad_n : Int) 8 ≤ (↑bad_c : Int)) ∧
      gabionlaw07_RingTorn.L19 d r0 was was_n was_c (slBase bad (↑bad_c : Int) 0 1) (imin (↑bad_n : Int) 8 - 0).toNat ((↑bad_c : Int) - 0).toNat (↑(imin (↑bad_n : Int) 8 - 0).toNat : Int) 0 s_4_0 s_4_1 cut_5_0 cut_5_1 cut_5_2 p_0 p_1 p_2 p_3
        h Q)
def gabionlaw07_RingTorn.L12.wp (bad : Option Addr) (bad_n : Nat) (bad_c : Nat) (d : Option Addr) (r0 : Option Addr) (was : Option Addr) (was_n : Nat) (was_c : Nat) (t66 : Int) (t67 : Int) (t69 : Option Addr) (t69_n : Nat) (t69_c : Nat) (t70 : Int) (t71 : Int) (s_4_0 : ByteArray) (s_4_1 : ByteArray) (cut_5_0 : Int) (cut_5_1 : Int) (cut_5_2 : Int) (p_0 : Int) (p_1 : Int) (p_2 : Int) (p_3 : Int) (h : Heap) (Q : Value → Heap → Prop) : Prop :=
  xsIf (decide (t71 < t70))
    ((0 ≤ t71 ∧ t71 < (↑t69_n : Int)) ∧
      atBase t69 fun (b o : Nat) =>
        ∃ (x : ByteArray),
          h.cell b (o + t71.toNat * 1) = some (Value.string x) ∧
            C Tryz.prog 13 #[Value.pointer r0, Value.int IntKind.i64 t71, Value.string x] h fun (r : Value) (h' : Heap) =>
              ∃ (x : Int),
                r = Value.int IntKind.i64 x ∧
                  xsIf (decide (x ≠ 0)) (Q (Value.bool false) h')
                    (gabionlaw07_RingTorn.L12 bad bad_n bad_c d r0 was was_n was_c t66 t67 t69 t69_n t69_c t70 (IntKind.i64.wrap (t71 + 1)) s_4_0 s_4_1 cut_5_0 cut_5_1 cut_5_2 p_0 p_1 p_2 p_3 h' Q))
    (gabionlaw07_RingTorn.L10 bad bad_n bad_c d r0 was was_n was_c t66 (IntKind.i64.wrap (t67 + 1)) s_4_0 s_4_1 cut_5_0 cut_5_1 cut_5_2 p_0 p_1 p_2 p_3 h Q)
def gabionlaw07_RingTorn.L19.wp (d : Option Addr) (r0 : Option Addr) (was : Option Addr) (was_n : Nat) (was_c : Nat) (t87 : Option Addr) (t87_n : Nat) (t87_c : Nat) (t88 : Int) (t89 : Int) (s_4_0 : ByteArray) (s_4_1 : ByteArray) (cut_5_0 : Int) (cut_5_1 : Int) (cut_5_2 : Int) (p_0 : Int) (p_1 : Int) (p_2 : Int) (p_3 : Int) (h : Heap) (Q : Value → Heap → Prop) : Prop :=
  xsIf (decide (t89 < t88))
    ((0 ≤ t89 ∧ t89 < (↑t87_n : Int)) ∧
      atBase t87 fun (b o : Nat) =>
        ∃ (x : Int),
          h.cell b (o + t89.toNat * 1) = some (Value.int IntKind.u8 x) ∧
            C Tryz.prog 18 #[Value.pointer d, Value.int IntKind.i64 (IntKind.i64.wrap (1 + IntKind.i64.wrap (irem x 11)))] h fun (r : Value) (h' : Heap) =>
              gabionlaw07_RingTorn.L19 d r0 was was_n was_c t87 t87_n t87_c t88 (IntKind.i64.wrap (t89 + 1)) s_4_0 s_4_1 cut_5_0 cut_5_1 cut_5_2 p_0 p_1 p_2 p_3 h' Q)
    (C Tryz.prog 19 #[Value.pointer d, Value.int IntKind.i64 (IntKind.i64.wrap (1 + IntKind.i64.wrap (irem cut_5_0 120)))] h fun (r : Value) (h' : Heap) =>
      C Tryz.prog 14 #[Value.string s_4_1] h' fun (r : Value) (h' : Heap) =>
        ∃ (x : ByteArray),
          r = Value.string x ∧
            C Tryz.prog 13 #[Value.pointer r0, Value.int IntKind.i64 0, Value.string x] h' fun (r : Value) (h' : Heap) =>
              ∃ (x : Int), r = Value.int IntKind.i64 x ∧ gabionlaw07_RingTorn.L27 d was was_n was_c x none 0 0 0 s_4_0 s_4_1 cut_5_0 cut_5_1 cut_5_2 p_0 p_1 p_2 p_3 h' Q)
def gabionlaw07_RingTorn.L27.wp (d : Option Addr) (was : Option Addr) (was_n : Nat) (was_c : Nat) (f : Int) (keep : Option Addr) (keep_n : Nat) (keep_c : Nat) (t112 : Int) (s_4_0 : ByteArray) (s_4_1 : ByteArray) (cut_5_0 : Int) (cut_5_1 : Int) (cut_5_2 : Int) (p_0 : Int) (p_1 : Int) (p_2 : Int) (p_3 : Int) (h : Heap) (Q : Value → Heap → Prop) : Prop :=
  xsIf (decide (t112 < 8))
    (0 ≤ t112 ∧
      ∀ (b : Nat),
        h b = none →
          xsApp Tryz.prog 4 (upd h b (Obj.cells #[Value.bool (decide (iand IntKind.u8 (ishr IntKind.u8 cut_5_1 t112) 1 = 1))] 4 (0, 0))) keep keep_n keep_c (some { block := b, off := 0 }) 1
            fun (a' : Option Addr) (n' c' : Nat) (h' : Heap) => gabionlaw07_RingTorn.L27 d was was_n was_c f a' n' c' (IntKind.i64.wrap (t112 + 1)) s_4_0 s_4_1 cut_5_0 cut_5_1 cut_5_2 p_0 p_1 p_2 p_3 h' Q)
    (C Tryz.prog 20 #[Value.pointer d, Value.slice keep keep_n keep_c] h fun (r : Value) (h' : Heap) =>
      C Tryz.prog 11 #[Value.pointer d, Value.agg #[Value.int IntKind.i64 p_0, Value.int IntKind.i64 p_1, Value.int IntKind.i64 p_2, Value.int IntKind.i64 p_3]] h' fun (r : Value) (h' : Heap) =>
        ∃ (x : Option Addr),
          ∃ (x_1 : Int),
            r = Value.tuple #[Value.pointer x, Value.int IntKind.i64 x_1] ∧
              xsIf (decide (x_1 ≠ 0)) (Q (Value.bool false) h')
                (xsIf x.isNone (Q (Value.bool false) h')
                  (xsIf (decide (f ≠ 0))
                    (xsIf (decide (f ≠ 6)) (xsIf (decide (f ≠ 10)) (Q (Value.bool false) h') (gabionlaw07_RingTorn.J35 was was_n was_c f x s_4_0 s_4_1 h' Q)) (gabionlaw07_RingTorn.J35 was was_n was_c f x s_4_0 s_4_1 h' Q))
                    (gabionlaw07_RingTorn.J35 was was_n was_c f x s_4_0 s_4_1 h' Q))))
def gabionlaw07_RingTorn.J35.wp (was : Option Addr) (was_n : Nat) (was_c : Nat) (f : Int) (again : Option Addr) (s_4_0 : ByteArray) (s_4_1 : ByteArray) (h : Heap) (Q : Value → Heap → Prop) : Prop :=
  gabionlaw07_RingTorn.L36 f again was was_n was_c (↑was_n : Int) 0 s_4_0 s_4_1 h Q
def gabionlaw07_RingTorn.L36.wp (f : Int) (again : Option Addr) (t152 : Option Addr) (t152_n : Nat) (t152_c : Nat) (t153 : Int) (t154 : Int) (s_4_0 : ByteArray) (s_4_1 : ByteArray) (h : Heap) (Q : Value → Heap → Prop) : Prop :=
  xsIf (decide (t154 < t153))
    ((0 ≤ t154 ∧ t154 < (↑t152_n : Int)) ∧
      atBase t152 fun (b o : Nat) =>
        ∃ (x : ByteArray),
          h.cell b (o + t154.toNat * 1) = some (Value.string x) ∧
            C Tryz.prog 17 #[Value.pointer again, Value.int IntKind.i64 t154] h fun (r : Value) (h' : Heap) =>
              ∃ (x_1 : ByteArray),
                ∃ (x_2 : Int),
                  r = Value.tuple #[Value.string x_1, Value.int IntKind.i64 x_2] ∧
                    xsIf (decide (x_2 ≠ 0))
                      (xsIf (decide (x_2 ≠ 0)) (gabionlaw07_RingTorn.J41 h' Q)
                        (xsIf (decide (t154 = 0))
                          (C Tryz.prog 14 #[Value.string s_4_1] h' fun (r : Value) (h' : Heap) =>
                            ∃ (x_3 : ByteArray),
                              r = Value.string x_3 ∧
                                C Tryz.prog 21 #[Value.string x, Value.string x_3, Value.string x_1] h' fun (r : Value) (h' : Heap) =>
                                  ∃ (x_4 : Bool),
                                    r = Value.bool x_4 ∧
                                      xsIf (!x_4) (Q (Value.bool false) h')
                                        (xsIf (decide (f = 0))
                                          (C Tryz.prog 14 #[Value.string s_4_1] h' fun (r : Value) (h' : Heap) =>
                                            ∃ (x_5 : ByteArray),
                                              r = Value.string x_5 ∧
                                                xsIf (decide (x_1 ≠ x_5)) (Q (Value.bool false) h')
                                                  (xsIf (decide (f = 10)) (xsIf (decide (x_1 ≠ x)) (Q (Value.bool false) h') (gabionlaw07_RingTorn.L36 f again t152 t152_n t152_c t153 (IntKind.i64.wrap (t154 + 1)) s_4_0 s_4_1 h' Q))
                                                    (gabionlaw07_RingTorn.L36 f again t152 t152_n t152_c t153 (IntKind.i64.wrap (t154 + 1)) s_4_0 s_4_1 h' Q)))
                                          (xsIf (decide (f = 10)) (xsIf (decide (x_1 ≠ x)) (Q (Value.bool false) h') (gabionlaw07_RingTorn.L36 f again t152 t152_n t152_c t153 (IntKind.i64.wrap (t154 + 1)) s_4_0 s_4_1 h' Q))
                                            (gabionlaw07_RingTorn.L36 f again t152 t152_n t152_c t153 (IntKind.i64.wrap (t154 + 1)) s_4_0 s_4_1 h' Q))))
                          (gabionlaw07_RingTorn.L36 f again t152 t152_n t152_c t153 (IntKind.i64.wrap (t154 + 1)) s_4_0 s_4_1 h' Q)))
                      (xsIf (decide (0 < t154))
                        (xsIf (decide (x_1 ≠ x)) (gabionlaw07_RingTorn.J41 h' Q)
                          (xsIf (decide (t154 = 0))
                            (C Tryz.prog 14 #[Value.string s_4_1] h' fun (r : Value) (h' : Heap) =>
                              ∃ (x_3 : ByteArray),
                                r = Value.string x_3 ∧
                                  C Tryz.prog 21 #[Value.string x, Value.string x_3, Value.string x_1] h' fun (r : Value) (h' : Heap) =>
                                    ∃ (x_4 : Bool),
                                      r = Value.bool x_4 ∧
                                        xsIf (!x_4) (Q (Value.bool false) h')
                                          (xsIf (decide (f = 0))
                                            (C Tryz.prog 14 #[Value.string s_4_1] h' fun (r : Value) (h' : Heap) =>
                                              ∃ (x_5 : ByteArray),
                                                r = Value.string x_5 ∧
                                                  xsIf (decide (x_1 ≠ x_5)) (Q (Value.bool false) h')
                                                    (xsIf (decide (f = 10)) (xsIf (decide (x_1 ≠ x)) (Q (Value.bool false) h') (gabionlaw07_RingTorn.L36 f again t152 t152_n t152_c t153 (IntKind.i64.wrap (t154 + 1)) s_4_0 s_4_1 h' Q))
                                                      (gabionlaw07_RingTorn.L36 f again t152 t152_n t152_c t153 (IntKind.i64.wrap (t154 + 1)) s_4_0 s_4_1 h' Q)))
                                            (xsIf (decide (f = 10)) (xsIf (decide (x_1 ≠ x)) (Q (Value.bool false) h') (gabionlaw07_RingTorn.L36 f again t152 t152_n t152_c t153 (IntKind.i64.wrap (t154 + 1)) s_4_0 s_4_1 h' Q))
                                              (gabionlaw07_RingTorn.L36 f again t152 t152_n t152_c t153 (IntKind.i64.wrap (t154 + 1)) s_4_0 s_4_1 h' Q))))
                            (gabionlaw07_RingTorn.L36 f again t152 t152_n t152_c t153 (IntKind.i64.wrap (t154 + 1)) s_4_0 s_4_1 h' Q)))
                        (xsIf (decide (t154 = 0))
                          (C Tryz.prog 14 #[Value.string s_4_1] h' fun (r : Value) (h' : Heap) =>
                            ∃ (x_3 : ByteArray),
                              r = Value.string x_3 ∧
                                C Tryz.prog 21 #[Value.string x, Value.string x_3, Value.string x_1] h' fun (r : Value) (h' : Heap) =>
                                  ∃ (x_4 : Bool),
                                    r = Value.bool x_4 ∧
                                      xsIf (!x_4) (Q (Value.bool false) h')
                                        (xsIf (decide (f = 0))
                                          (C Tryz.prog 14 #[Value.string s_4_1] h' fun (r : Value) (h' : Heap) =>
                                            ∃ (x_5 : ByteArray),
                                              r = Value.string x_5 ∧
                                                xsIf (decide (x_1 ≠ x_5)) (Q (Value.bool false) h')
                                                  (xsIf (decide (f = 10)) (xsIf (decide (x_1 ≠ x)) (Q (Value.bool false) h') (gabionlaw07_RingTorn.L36 f again t152 t152_n t152_c t153 (IntKind.i64.wrap (t154 + 1)) s_4_0 s_4_1 h' Q))
                                                    (gabionlaw07_RingTorn.L36 f again t152 t152_n t152_c t153 (IntKind.i64.wrap (t154 + 1)) s_4_0 s_4_1 h' Q)))
                                          (xsIf (decide (f = 10)) (xsIf (decide (x_1 ≠ x)) (Q (Value.bool false) h') (gabionlaw07_RingTorn.L36 f again t152 t152_n t152_c t153 (IntKind.i64.wrap (t154 + 1)) s_4_0 s_4_1 h' Q))
                                            (gabionlaw07_RingTorn.L36 f again t152 t152_n t152_c t153 (IntKind.i64.wrap (t154 + 1)) s_4_0 s_4_1 h' Q))))
                          (gabionlaw07_RingTorn.L36 f again t152 t152_n t152_c t153 (IntKind.i64.wrap (t154 + 1)) s_4_0 s_4_1 h' Q))))
    (Q (Value.bool true) h)
def gabionlaw07_RingTorn.J41.wp  (h : Heap) (Q : Value → Heap → Prop) : Prop :=
  Q (Value.bool false) h
theorem gabionlaw07_RingTorn.ok {bad : Option Addr} {bad_n : Nat} {bad_c : Nat} {s_0 : ByteArray} {s_1 : ByteArray} {cut_0 : Int} {cut_1 : Int} {cut_2 : Int} {h : Heap} {Q : Value → Heap → Prop} (hk : gabionlaw07_RingTorn.wp bad bad_n bad_c s_0 s_1 cut_0 cut_1 cut_2 h Q) : C Tryz.prog 5 #[.slice bad bad_n bad_c, .agg #[.string s_0, .string s_1], .agg #[.int .u8 cut_0, .int .u8 cut_1, .int .u8 cut_2]] h Q :=
  C_of_xs (H := gabionlaw07_RingTorn.H) (lcuts := gabionlaw07_RingTorn.lc) (rcuts := gabionlaw07_RingTorn.rc) (l := [.slice bad bad_n bad_c, .agg #[.string s_0, .string s_1], .agg #[.int .u8 cut_0, .int .u8 cut_1, .int .u8 cut_2]]) 2000 mixed Tryz.func5 rfl (by kernel_rfl) (@cast (gabionlaw07_RingTorn.wp bad bad_n bad_c s_0 s_1 cut_0 cut_1 cut_2 h Q) _ (by kernel_rfl) hk)
theorem gabionlaw07_RingTorn.J5.ok {bad : Option Addr} {bad_n : Nat} {bad_c : Nat} {d : Option Addr} {s_4_0 : ByteArray} {s_4_1 : ByteArray} {cut_5_0 : Int} {cut_5_1 : Int} {cut_5_2 : Int} {p_0 : Int} {p_1 : Int} {p_2 : Int} {p_3 : Int} {h : Heap} {Q : Value → Heap → Prop} (hk : gabionlaw07_RingTorn.J5.wp bad bad_n bad_c d s_4_0 s_4_1 cut_5_0 cut_5_1 cut_5_2 p_0 p_1 p_2 p_3 h Q) : gabionlaw07_RingTorn.J5 bad bad_n bad_c d s_4_0 s_4_1 cut_5_0 cut_5_1 cut_5_2 p_0 p_1 p_2 p_3 h Q :=
  xs_ok (H := gabionlaw07_RingTorn.H) (lcuts := gabionlaw07_RingTorn.lc) (rcuts := [⟨8, [0, 4, 5, 7, 8, 10], [4, 5, 7]⟩, ⟨35, [4, 12, 17, 20], [4]⟩, ⟨41, [], []⟩]) (fn := Tryz.f5) mixed Tryz.func5 2000 _ _ _ (@cast (gabionlaw07_RingTorn.J5.wp bad bad_n bad_c d s_4_0 s_4_1 cut_5_0 cut_5_1 cut_5_2 p_0 p_1 p_2 p_3 h Q) _ (by kernel_rfl) hk)
theorem gabionlaw07_RingTorn.J8.ok {bad : Option Addr} {bad_n : Nat} {bad_c : Nat} {d : Option Addr} {r0 : Option Addr} {s_4_0 : ByteArray} {s_4_1 : ByteArray} {cut_5_0 : Int} {cut_5_1 : Int} {cut_5_2 : Int} {p_0 : Int} {p_1 : Int} {p_2 : Int} {p_3 : Int} {h : Heap} {Q : Value → Heap → Prop} (hk : gabionlaw07_RingTorn.J8.wp bad bad_n bad_c d r0 s_4_0 s_4_1 cut_5_0 cut_5_1 cut_5_2 p_0 p_1 p_2 p_3 h Q) : gabionlaw07_RingTorn.J8 bad bad_n bad_c d r0 s_4_0 s_4_1 cut_5_0 cut_5_1 cut_5_2 p_0 p_1 p_2 p_3 h Q :=
  xs_ok (H := gabionlaw07_RingTorn.H) (lcuts := gabionlaw07_RingTorn.lc) (rcuts := [⟨5, [0, 4, 5, 7, 8], [4, 5, 7]⟩, ⟨35, [4, 12, 17, 20], [4]⟩, ⟨41, [], []⟩]) (fn := Tryz.f5) mixed Tryz.func5 2000 _ _ _ (@cast (gabionlaw07_RingTorn.J8.wp bad bad_n bad_c d r0 s_4_0 s_4_1 cut_5_0 cut_5_1 cut_5_2 p_0 p_1 p_2 p_3 h Q) _ (by kernel_rfl) hk)
theorem gabionlaw07_RingTorn.L10.ok {bad : Option Addr} {bad_n : Nat} {bad_c : Nat} {d : Option Addr} {r0 : Option Addr} {was : Option Addr} {was_n : Nat} {was_c : Nat} {t66 : Int} {t67 : Int} {s_4_0 : ByteArray} {s_4_1 : ByteArray} {cut_5_0 : Int} {cut_5_1 : Int} {cut_5_2 : Int} {p_0 : Int} {p_1 : Int} {p_2 : Int} {p_3 : Int} {h : Heap} {Q : Value → Heap → Prop} (hk : gabionlaw07_RingTorn.L10.wp bad bad_n bad_c d r0 was was_n was_c t66 t67 s_4_0 s_4_1 cut_5_0 cut_5_1 cut_5_2 p_0 p_1 p_2 p_3 h Q) : gabionlaw07_RingTorn.L10 bad bad_n bad_c d r0 was was_n was_c t66 t67 s_4_0 s_4_1 cut_5_0 cut_5_1 cut_5_2 p_0 p_1 p_2 p_3 h Q :=
  xs_ok (H := gabionlaw07_RingTorn.H) (lcuts := gabionlaw07_RingTorn.lc) (rcuts := gabionlaw07_RingTorn.rc) (fn := Tryz.f5) mixed Tryz.func5 2000 _ _ _ (@cast (gabionlaw07_RingTorn.L10.wp bad bad_n bad_c d r0 was was_n was_c t66 t67 s_4_0 s_4_1 cut_5_0 cut_5_1 cut_5_2 p_0 p_1 p_2 p_3 h Q) _ (by kernel_rfl) hk)
theorem gabionlaw07_RingTorn.L12.ok {bad : Option Addr} {bad_n : Nat} {bad_c : Nat} {d : Option Addr} {r0 : Option Addr} {was : Option Addr} {was_n : Nat} {was_c : Nat} {t66 : Int} {t67 : Int} {t69 : Option Addr} {t69_n : Nat} {t69_c : Nat} {t70 : Int} {t71 : Int} {s_4_0 : ByteArray} {s_4_1 : ByteArray} {cut_5_0 : Int} {cut_5_1 : Int} {cut_5_2 : Int} {p_0 : Int} {p_1 : Int} {p_2 : Int} {p_3 : Int} {h : Heap} {Q : Value → Heap → Prop} (hk : gabionlaw07_RingTorn.L12.wp bad bad_n bad_c d r0 was was_n was_c t66 t67 t69 t69_n t69_c t70 t71 s_4_0 s_4_1 cut_5_0 cut_5_1 cut_5_2 p_0 p_1 p_2 p_3 h Q) : gabionlaw07_RingTorn.L12 bad bad_n bad_c d r0 was was_n was_c t66 t67 t69 t69_n t69_c t70 t71 s_4_0 s_4_1 cut_5_0 cut_5_1 cut_5_2 p_0 p_1 p_2 p_3 h Q :=
  xs_ok (H := gabionlaw07_RingTorn.H) (lcuts := gabionlaw07_RingTorn.lc) (rcuts := gabionlaw07_RingTorn.rc) (fn := Tryz.f5) mixed Tryz.func5 2000 _ _ _ (@cast (gabionlaw07_RingTorn.L12.wp bad bad_n bad_c d r0 was was_n was_c t66 t67 t69 t69_n t69_c t70 t71 s_4_0 s_4_1 cut_5_0 cut_5_1 cut_5_2 p_0 p_1 p_2 p_3 h Q) _ (by kernel_rfl) hk)
theorem gabionlaw07_RingTorn.L19.ok {d : Option Addr} {r0 : Option Addr} {was : Option Addr} {was_n : Nat} {was_c : Nat} {t87 : Option Addr} {t87_n : Nat} {t87_c : Nat} {t88 : Int} {t89 : Int} {s_4_0 : ByteArray} {s_4_1 : ByteArray} {cut_5_0 : Int} {cut_5_1 : Int} {cut_5_2 : Int} {p_0 : Int} {p_1 : Int} {p_2 : Int} {p_3 : Int} {h : Heap} {Q : Value → Heap → Prop} (hk : gabionlaw07_RingTorn.L19.wp d r0 was was_n was_c t87 t87_n t87_c t88 t89 s_4_0 s_4_1 cut_5_0 cut_5_1 cut_5_2 p_0 p_1 p_2 p_3 h Q) : gabionlaw07_RingTorn.L19 d r0 was was_n was_c t87 t87_n t87_c t88 t89 s_4_0 s_4_1 cut_5_0 cut_5_1 cut_5_2 p_0 p_1 p_2 p_3 h Q :=
  xs_ok (H := gabionlaw07_RingTorn.H) (lcuts := gabionlaw07_RingTorn.lc) (rcuts := gabionlaw07_RingTorn.rc) (fn := Tryz.f5) mixed Tryz.func5 2000 _ _ _ (@cast (gabionlaw07_RingTorn.L19.wp d r0 was was_n was_c t87 t87_n t87_c t88 t89 s_4_0 s_4_1 cut_5_0 cut_5_1 cut_5_2 p_0 p_1 p_2 p_3 h Q) _ (by kernel_rfl) hk)
theorem gabionlaw07_RingTorn.L27.ok {d : Option Addr} {was : Option Addr} {was_n : Nat} {was_c : Nat} {f : Int} {keep : Option Addr} {keep_n : Nat} {keep_c : Nat} {t112 : Int} {s_4_0 : ByteArray} {s_4_1 : ByteArray} {cut_5_0 : Int} {cut_5_1 : Int} {cut_5_2 : Int} {p_0 : Int} {p_1 : Int} {p_2 : Int} {p_3 : Int} {h : Heap} {Q : Value → Heap → Prop} (hk : gabionlaw07_RingTorn.L27.wp d was was_n was_c f keep keep_n keep_c t112 s_4_0 s_4_1 cut_5_0 cut_5_1 cut_5_2 p_0 p_1 p_2 p_3 h Q) : gabionlaw07_RingTorn.L27 d was was_n was_c f keep keep_n keep_c t112 s_4_0 s_4_1 cut_5_0 cut_5_1 cut_5_2 p_0 p_1 p_2 p_3 h Q :=
  xs_ok (H := gabionlaw07_RingTorn.H) (lcuts := gabionlaw07_RingTorn.lc) (rcuts := gabionlaw07_RingTorn.rc) (fn := Tryz.f5) mixed Tryz.func5 2000 _ _ _ (@cast (gabionlaw07_RingTorn.L27.wp d was was_n was_c f keep keep_n keep_c t112 s_4_0 s_4_1 cut_5_0 cut_5_1 cut_5_2 p_0 p_1 p_2 p_3 h Q) _ (by kernel_rfl) hk)
theorem gabionlaw07_RingTorn.J35.ok {was : Option Addr} {was_n : Nat} {was_c : Nat} {f : Int} {again : Option Addr} {s_4_0 : ByteArray} {s_4_1 : ByteArray} {h : Heap} {Q : Value → Heap → Prop} (hk : gabionlaw07_RingTorn.J35.wp was was_n was_c f again s_4_0 s_4_1 h Q) : gabionlaw07_RingTorn.J35 was was_n was_c f again s_4_0 s_4_1 h Q :=
  xs_ok (H := gabionlaw07_RingTorn.H) (lcuts := gabionlaw07_RingTorn.lc) (rcuts := [⟨5, [0, 4, 5, 7, 8], [4, 5, 7]⟩, ⟨8, [0, 4, 5, 7, 8, 10], [4, 5, 7]⟩, ⟨41, [], []⟩]) (fn := Tryz.f5) mixed Tryz.func5 2000 _ _ _ (@cast (gabionlaw07_RingTorn.J35.wp was was_n was_c f again s_4_0 s_4_1 h Q) _ (by kernel_rfl) hk)
theorem gabionlaw07_RingTorn.L36.ok {f : Int} {again : Option Addr} {t152 : Option Addr} {t152_n : Nat} {t152_c : Nat} {t153 : Int} {t154 : Int} {s_4_0 : ByteArray} {s_4_1 : ByteArray} {h : Heap} {Q : Value → Heap → Prop} (hk : gabionlaw07_RingTorn.L36.wp f again t152 t152_n t152_c t153 t154 s_4_0 s_4_1 h Q) : gabionlaw07_RingTorn.L36 f again t152 t152_n t152_c t153 t154 s_4_0 s_4_1 h Q :=
  xs_ok (H := gabionlaw07_RingTorn.H) (lcuts := gabionlaw07_RingTorn.lc) (rcuts := gabionlaw07_RingTorn.rc) (fn := Tryz.f5) mixed Tryz.func5 2000 _ _ _ (@cast (gabionlaw07_RingTorn.L36.wp f again t152 t152_n t152_c t153 t154 s_4_0 s_4_1 h Q) _ (by kernel_rfl) hk)
theorem gabionlaw07_RingTorn.J41.ok {h : Heap} {Q : Value → Heap → Prop} (hk : gabionlaw07_RingTorn.J41.wp  h Q) : gabionlaw07_RingTorn.J41  h Q :=
  xs_ok (H := gabionlaw07_RingTorn.H) (lcuts := gabionlaw07_RingTorn.lc) (rcuts := [⟨5, [0, 4, 5, 7, 8], [4, 5, 7]⟩, ⟨8, [0, 4, 5, 7, 8, 10], [4, 5, 7]⟩, ⟨35, [4, 12, 17, 20], [4]⟩]) (fn := Tryz.f5) mixed Tryz.func5 2000 _ _ _ (@cast (gabionlaw07_RingTorn.J41.wp  h Q) _ (by kernel_rfl) hk)
end Go.Gb
