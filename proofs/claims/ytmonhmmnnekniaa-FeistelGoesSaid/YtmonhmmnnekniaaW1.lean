/- Own text for the seat: W1. -/
import Derived.Test.YtmonhmmnnekniaaGbPath
import Derived.Test.YtmonhmmnnekniaaProg
set_option linter.unusedVariables false
set_option linter.unusedSimpArgs false
set_option linter.unnecessarySimpa false
set_option linter.deprecated false
namespace Go.Gb
open Go.Proofs
theorem mixed : Try.prog.follows .mixedOrders = true := by kernel_rfl

/-! gabion/gabionlaw06.tame -/
def gabionlaw06_tame.H : Hn := ⟨[], [], [⟨2, [0, 1, 2, 3, 4, 5, 6, 7, 8, 9, 10, 11, 12, 13, 14, 15, 16, 17], [3]⟩]⟩
def gabionlaw06_tame.lc : List Cut := []
def gabionlaw06_tame.rc : List Cut := []
def gabionlaw06_tame.wp (x_0 : Int) (x_1 : Int) (x_2 : Int) (h : Heap) (Q : Value → Heap → Prop) : Prop :=
  IntKind.i64.wrap (1 + irem (imax 0 x_0) 40) ≠ 0 ∧
    IntKind.i64.wrap (IntKind.i64.wrap (1 + irem (imax 0 x_0) 40) + 1) ≠ 0 ∧
      Q
        (Value.tuple
          #[Value.int IntKind.i64 (IntKind.i64.wrap (1 + irem (imax 0 x_0) 40)),
                Value.agg
                  #[Value.int IntKind.i64 (irem (imax 0 x_1) (IntKind.i64.wrap (1 + irem (imax 0 x_0) 40))), Value.int IntKind.i64 (irem (imax 0 x_2) (IntKind.i64.wrap (IntKind.i64.wrap (1 + irem (imax 0 x_0) 40) + 1))),
                        Value.int IntKind.u32 (IntKind.u32.wrap x_0)]])
        h
theorem gabionlaw06_tame.ok {x_0 : Int} {x_1 : Int} {x_2 : Int} {h : Heap} {Q : Value → Heap → Prop} (hk : gabionlaw06_tame.wp x_0 x_1 x_2 h Q) : C Try.prog 15 #[.agg #[.int .i64 x_0, .int .i64 x_1, .int .i64 x_2]] h Q :=
  C_of_xs (H := gabionlaw06_tame.H) (lcuts := gabionlaw06_tame.lc) (rcuts := gabionlaw06_tame.rc) (l := [.agg #[.int .i64 x_0, .int .i64 x_1, .int .i64 x_2]]) 2000 mixed Try.func15 rfl (by kernel_rfl) (Eq.mp (by kernel_rfl) hk)

/-! gabion/gap.may -/
def gap_may.H : Hn := ⟨[], [], []⟩
def gap_may.lc : List Cut := []
def gap_may.rc : List Cut := []
def gap_may.wp (n : Int) (h : Heap) (Q : Value → Heap → Prop) : Prop :=
  xsIf (decide (1 ≤ n)) (Q (Value.bool (decide (n ≤ 1024))) h) (Q (Value.bool false) h)
theorem gap_may.ok {n : Int} {h : Heap} {Q : Value → Heap → Prop} (hk : gap_may.wp n h Q) : C Try.prog 45 #[.int .i64 n] h Q :=
  C_of_xs (H := gap_may.H) (lcuts := gap_may.lc) (rcuts := gap_may.rc) (l := [.int .i64 n]) 2000 mixed Try.func45 rfl (by kernel_rfl) (Eq.mp (by kernel_rfl) hk)

/-! (gabion/gap.State).Right -/
def gap_State_Right.H : Hn := ⟨[], [], []⟩
def gap_State_Right.lc : List Cut := []
def gap_State_Right.rc : List Cut := []
def gap_State_Right.wp (s_0 : Int) (s_1 : Int) (s_2 : Int) (n : Int) (h : Heap) (Q : Value → Heap → Prop) : Prop :=
  C Try.prog 45 #[Value.int IntKind.i64 n] h fun (r : Value) (h' : Heap) =>
    ∃ (x : Bool),
      r = Value.bool x ∧
        xsIf x (xsIf (decide (0 ≤ s_0)) (xsIf (decide (s_0 < n)) (xsIf (decide (0 ≤ s_1)) (Q (Value.bool (decide (s_1 ≤ n))) h') (Q (Value.bool false) h')) (Q (Value.bool false) h')) (Q (Value.bool false) h')) (Q (Value.bool false) h')
theorem gap_State_Right.ok {s_0 : Int} {s_1 : Int} {s_2 : Int} {n : Int} {h : Heap} {Q : Value → Heap → Prop} (hk : gap_State_Right.wp s_0 s_1 s_2 n h Q) : C Try.prog 33 #[.agg #[.int .i64 s_0, .int .i64 s_1, .int .u32 s_2], .int .i64 n] h Q :=
  C_of_xs (H := gap_State_Right.H) (lcuts := gap_State_Right.lc) (rcuts := gap_State_Right.rc) (l := [.agg #[.int .i64 s_0, .int .i64 s_1, .int .u32 s_2], .int .i64 n]) 2000 mixed Try.func33 rfl (by kernel_rfl) (Eq.mp (by kernel_rfl) hk)

/-! (gabion/gap.State).Next -/
def gap_State_Next.H : Hn := ⟨[], [], [⟨5, [0, 1, 2, 3, 4, 5, 6, 7, 8], [4]⟩]⟩
def gap_State_Next.lc : List Cut := []
def gap_State_Next.rc : List Cut := []
def gap_State_Next.wp (s_0 : Int) (s_1 : Int) (s_2 : Int) (n : Int) (h : Heap) (Q : Value → Heap → Prop) : Prop :=
  C Try.prog 33 #[Value.agg #[Value.int IntKind.i64 s_0, Value.int IntKind.i64 s_1, Value.int IntKind.u32 s_2], Value.int IntKind.i64 n] h fun (r : Value) (h' : Heap) =>
    ∃ (x : Bool),
      r = Value.bool x ∧
        xsIf (!x) (Q (Value.tuple #[Value.agg #[Value.int IntKind.i64 0, Value.int IntKind.i64 0, Value.int IntKind.u32 0], Value.int IntKind.i64 0, Value.int IntKind.i64 0]) h')
          (xsIf (decide (0 < s_1))
            (Q
              (Value.tuple
                #[Value.agg #[Value.int IntKind.i64 s_0, Value.int IntKind.i64 (IntKind.i64.wrap (s_1 - 1)), Value.int IntKind.u32 (IntKind.u32.wrap (s_2 + 1))], Value.int IntKind.i64 (IntKind.i64.wrap (s_1 - 1)),
                      Value.int IntKind.i64 s_1])
              h')
            (n ≠ 0 ∧
              Q
                (Value.tuple
                  #[Value.agg #[Value.int IntKind.i64 (irem (IntKind.i64.wrap (s_0 + 1)) n), Value.int IntKind.i64 n, Value.int IntKind.u32 (IntKind.u32.wrap (s_2 + 1))], Value.int IntKind.i64 n, Value.int IntKind.i64 0])
                h'))
theorem gap_State_Next.ok {s_0 : Int} {s_1 : Int} {s_2 : Int} {n : Int} {h : Heap} {Q : Value → Heap → Prop} (hk : gap_State_Next.wp s_0 s_1 s_2 n h Q) : C Try.prog 16 #[.agg #[.int .i64 s_0, .int .i64 s_1, .int .u32 s_2], .int .i64 n] h Q :=
  C_of_xs (H := gap_State_Next.H) (lcuts := gap_State_Next.lc) (rcuts := gap_State_Next.rc) (l := [.agg #[.int .i64 s_0, .int .i64 s_1, .int .u32 s_2], .int .i64 n]) 2000 mixed Try.func16 rfl (by kernel_rfl) (Eq.mp (by kernel_rfl) hk)

/-! gabion/gabionref06.Next -/
def gabionref06_Next.H : Hn := ⟨[], [], []⟩
def gabionref06_Next.lc : List Cut := []
def gabionref06_Next.rc : List Cut := []
def gabionref06_Next.wp (start : Int) (gap : Int) (n : Int) (h : Heap) (Q : Value → Heap → Prop) : Prop :=
  xsIf (decide (0 < gap)) (Q (Value.tuple #[Value.int IntKind.i64 start, Value.int IntKind.i64 (IntKind.i64.wrap (gap - 1)), Value.int IntKind.i64 (IntKind.i64.wrap (gap - 1)), Value.int IntKind.i64 gap]) h)
    (xsIf (decide (IntKind.i64.wrap (start + 1) = n)) (Q (Value.tuple #[Value.int IntKind.i64 0, Value.int IntKind.i64 n, Value.int IntKind.i64 n, Value.int IntKind.i64 0]) h)
      (Q (Value.tuple #[Value.int IntKind.i64 (IntKind.i64.wrap (start + 1)), Value.int IntKind.i64 n, Value.int IntKind.i64 n, Value.int IntKind.i64 0]) h))
theorem gabionref06_Next.ok {start : Int} {gap : Int} {n : Int} {h : Heap} {Q : Value → Heap → Prop} (hk : gabionref06_Next.wp start gap n h Q) : C Try.prog 17 #[.int .i64 start, .int .i64 gap, .int .i64 n] h Q :=
  C_of_xs (H := gabionref06_Next.H) (lcuts := gabionref06_Next.lc) (rcuts := gabionref06_Next.rc) (l := [.int .i64 start, .int .i64 gap, .int .i64 n]) 2000 mixed Try.func17 rfl (by kernel_rfl) (Eq.mp (by kernel_rfl) hk)

/-! gabion/gabionref06.Right -/
def gabionref06_Right.H : Hn := ⟨[], [], []⟩
def gabionref06_Right.lc : List Cut := []
def gabionref06_Right.rc : List Cut := []
def gabionref06_Right.wp (start : Int) (gap : Int) (n : Int) (h : Heap) (Q : Value → Heap → Prop) : Prop :=
  xsIf (decide (1 ≤ n))
    (xsIf (decide (n ≤ 1024)) (xsIf (decide (0 ≤ start)) (xsIf (decide (start < n)) (xsIf (decide (0 ≤ gap)) (Q (Value.bool (decide (gap ≤ n))) h) (Q (Value.bool false) h)) (Q (Value.bool false) h)) (Q (Value.bool false) h))
      (Q (Value.bool false) h))
    (Q (Value.bool false) h)
theorem gabionref06_Right.ok {start : Int} {gap : Int} {n : Int} {h : Heap} {Q : Value → Heap → Prop} (hk : gabionref06_Right.wp start gap n h Q) : C Try.prog 18 #[.int .i64 start, .int .i64 gap, .int .i64 n] h Q :=
  C_of_xs (H := gabionref06_Right.H) (lcuts := gabionref06_Right.lc) (rcuts := gabionref06_Right.rc) (l := [.int .i64 start, .int .i64 gap, .int .i64 n]) 2000 mixed Try.func18 rfl (by kernel_rfl) (Eq.mp (by kernel_rfl) hk)

/-! gabion/gap.First -/
def gap_First.H : Hn := ⟨[], [], []⟩
def gap_First.lc : List Cut := []
def gap_First.rc : List Cut := []
def gap_First.wp (n : Int) (h : Heap) (Q : Value → Heap → Prop) : Prop :=
  C Try.prog 45 #[Value.int IntKind.i64 n] h fun (r : Value) (h' : Heap) =>
    ∃ (x : Bool),
      r = Value.bool x ∧
        xsIf (!x) (Q (Value.agg #[Value.int IntKind.i64 0, Value.int IntKind.i64 0, Value.int IntKind.u32 0]) h') (Q (Value.agg #[Value.int IntKind.i64 0, Value.int IntKind.i64 n, Value.int IntKind.u32 0]) h')
theorem gap_First.ok {n : Int} {h : Heap} {Q : Value → Heap → Prop} (hk : gap_First.wp n h Q) : C Try.prog 20 #[.int .i64 n] h Q :=
  C_of_xs (H := gap_First.H) (lcuts := gap_First.lc) (rcuts := gap_First.rc) (l := [.int .i64 n]) 2000 mixed Try.func20 rfl (by kernel_rfl) (Eq.mp (by kernel_rfl) hk)

/-! (gabion/gap.State).Slot -/
def gap_State_Slot.H : Hn := ⟨[], [], []⟩
def gap_State_Slot.lc : List Cut := []
def gap_State_Slot.rc : List Cut := [⟨3, [1, 2, 3], [3]⟩]
def gap_State_Slot.J3 (n : Int) (i : Int) (s_3_0 : Int) (s_3_1 : Int) (s_3_2 : Int) (h : Heap) (Q : Value → Heap → Prop) : Prop :=
  TW Try.prog 32 34 [.code (cAt (bodyOf Try.f32) [1, 1, 0]), .code (cAt (bodyOf Try.f32) [1, 1, 1])] ⟨[(1, .v (.int .i64 n)), (2, .v (.int .i64 i)), (3, .p 3 0)], [(3, [.int .i64 s_3_0, .int .i64 s_3_1, .int .u32 s_3_2])]⟩ h Q
def gap_State_Slot.wp (s_0 : Int) (s_1 : Int) (s_2 : Int) (n : Int) (i : Int) (h : Heap) (Q : Value → Heap → Prop) : Prop :=
  C Try.prog 33 #[Value.agg #[Value.int IntKind.i64 s_0, Value.int IntKind.i64 s_1, Value.int IntKind.u32 s_2], Value.int IntKind.i64 n] h fun (r : Value) (h' : Heap) =>
    ∃ (x : Bool),
      r = Value.bool x ∧ xsIf (!x) (Q (Value.int IntKind.i64 (-1)) h') (xsIf (decide (i < 0)) (Q (Value.int IntKind.i64 (-1)) h') (xsIf (decide (n ≤ i)) (Q (Value.int IntKind.i64 (-1)) h') (gap_State_Slot.J3 n i s_0 s_1 s_2 h' Q)))
def gap_State_Slot.J3.wp (n : Int) (i : Int) (s_3_0 : Int) (s_3_1 : Int) (s_3_2 : Int) (h : Heap) (Q : Value → Heap → Prop) : Prop :=
  n ≠ 0 ∧ xsIf (decide (s_3_1 ≤ irem (IntKind.i64.wrap (i + s_3_0)) n)) (Q (Value.int IntKind.i64 (IntKind.i64.wrap (irem (IntKind.i64.wrap (i + s_3_0)) n + 1))) h) (Q (Value.int IntKind.i64 (irem (IntKind.i64.wrap (i + s_3_0)) n)) h)
theorem gap_State_Slot.ok {s_0 : Int} {s_1 : Int} {s_2 : Int} {n : Int} {i : Int} {h : Heap} {Q : Value → Heap → Prop} (hk : gap_State_Slot.wp s_0 s_1 s_2 n i h Q) : C Try.prog 32 #[.agg #[.int .i64 s_0, .int .i64 s_1, .int .u32 s_2], .int .i64 n, .int .i64 i] h Q :=
  C_of_xs (H := gap_State_Slot.H) (lcuts := gap_State_Slot.lc) (rcuts := gap_State_Slot.rc) (l := [.agg #[.int .i64 s_0, .int .i64 s_1, .int .u32 s_2], .int .i64 n, .int .i64 i]) 2000 mixed Try.func32 rfl (by kernel_rfl) (Eq.mp (by kernel_rfl) hk)
theorem gap_State_Slot.J3.ok {n : Int} {i : Int} {s_3_0 : Int} {s_3_1 : Int} {s_3_2 : Int} {h : Heap} {Q : Value → Heap → Prop} (hk : gap_State_Slot.J3.wp n i s_3_0 s_3_1 s_3_2 h Q) : gap_State_Slot.J3 n i s_3_0 s_3_1 s_3_2 h Q :=
  xs_ok (H := gap_State_Slot.H) (lcuts := gap_State_Slot.lc) (rcuts := []) (fn := Try.f32) mixed Try.func32 2000 _ _ _ (Eq.mp (by kernel_rfl) hk)

/-! gabion/gabionlaw06.wakes -/
def gabionlaw06_wakes.H : Hn := ⟨[], [], []⟩
def gabionlaw06_wakes.lc : List Cut := [⟨5, [1, 2, 3, 4, 5, 15], [1, 3]⟩]
def gabionlaw06_wakes.rc : List Cut := [⟨8, [1, 2, 3, 4, 5], [1, 3]⟩]
def gabionlaw06_wakes.L5 (a : Int) (from0 : Int) (to0 : Int) (t15 : Int) (s_0 : Int) (s_1 : Int) (s_2 : Int) (t_0 : Int) (t_1 : Int) (t_2 : Int) (h : Heap) (Q : Value → Heap → Prop) : Prop :=
  TW Try.prog 19 55 [.code (cAt (bodyOf Try.f19) [1, 1, 1, 1, 0, 1, 0, 0]), .inLoop (cAt (bodyOf Try.f19) [1, 1, 1, 1, 0, 1, 0, 0]), .inBlock 0, .code (cAt (bodyOf Try.f19) [1, 1, 1, 1, 1])] ⟨[(1, .p 1 0), (2, .v (.int .i64 a)), (3, .p 3 0), (4, .v (.int .i64 from0)), (5, .v (.int .i64 to0)), (15, .v (.int .i64 t15))], [(1, [.int .i64 s_0, .int .i64 s_1, .int .u32 s_2]), (3, [.int .i64 t_0, .int .i64 t_1, .int .u32 t_2])]⟩ h Q
def gabionlaw06_wakes.J8 (a : Int) (from0 : Int) (to0 : Int) (s_0 : Int) (s_1 : Int) (s_2 : Int) (t_0 : Int) (t_1 : Int) (t_2 : Int) (h : Heap) (Q : Value → Heap → Prop) : Prop :=
  TW Try.prog 19 55 [.code (cAt (bodyOf Try.f19) [1, 1, 1, 1, 1, 0]), .code (cAt (bodyOf Try.f19) [1, 1, 1, 1, 1, 1])] ⟨[(1, .p 1 0), (2, .v (.int .i64 a)), (3, .p 3 0), (4, .v (.int .i64 from0)), (5, .v (.int .i64 to0))], [(1, [.int .i64 s_0, .int .i64 s_1, .int .u32 s_2]), (3, [.int .i64 t_0, .int .i64 t_1, .int .u32 t_2])]⟩ h Q
def gabionlaw06_wakes.wp  (h : Heap) (Q : Value → Heap → Prop) : Prop :=
  C Try.prog 20 #[Value.int IntKind.i64 4] h fun (r : Value) (h' : Heap) =>
    ∃ (x : Int),
      ∃ (x_1 : Int),
        ∃ (x_2 : Int),
          r = Value.agg #[Value.int IntKind.i64 x, Value.int IntKind.i64 x_1, Value.int IntKind.u32 x_2] ∧
            C Try.prog 32 #[Value.agg #[Value.int IntKind.i64 x, Value.int IntKind.i64 x_1, Value.int IntKind.u32 x_2], Value.int IntKind.i64 4, Value.int IntKind.i64 0] h' fun (r : Value) (h' : Heap) =>
              ∃ (x_3 : Int),
                r = Value.int IntKind.i64 x_3 ∧
                  C Try.prog 16 #[Value.agg #[Value.int IntKind.i64 x, Value.int IntKind.i64 x_1, Value.int IntKind.u32 x_2], Value.int IntKind.i64 4] h' fun (r : Value) (h' : Heap) =>
                    ∃ (x_4 : Int),
                      ∃ (x_5 : Int),
                        ∃ (x_6 : Int),
                          ∃ (x_7 : Int),
                            ∃ (x_8 : Int),
                              r = Value.tuple #[Value.agg #[Value.int IntKind.i64 x_4, Value.int IntKind.i64 x_5, Value.int IntKind.u32 x_6], Value.int IntKind.i64 x_7, Value.int IntKind.i64 x_8] ∧
                                gabionlaw06_wakes.L5 x_3 x_7 x_8 0 x x_1 x_2 x_4 x_5 x_6 h' Q
def gabionlaw06_wakes.L5.wp (a : Int) (from0 : Int) (to0 : Int) (t15 : Int) (s_0 : Int) (s_1 : Int) (s_2 : Int) (t_0 : Int) (t_1 : Int) (t_2 : Int) (h : Heap) (Q : Value → Heap → Prop) : Prop :=
  xsIf (decide (t15 < 4))
    (C Try.prog 16 #[Value.agg #[Value.int IntKind.i64 s_0, Value.int IntKind.i64 s_1, Value.int IntKind.u32 s_2], Value.int IntKind.i64 4] h fun (r : Value) (h' : Heap) =>
      ∃ (x : Int),
        ∃ (x_1 : Int),
          ∃ (x_2 : Int),
            ∃ (x_3 : Int),
              ∃ (x_4 : Int),
                r = Value.tuple #[Value.agg #[Value.int IntKind.i64 x, Value.int IntKind.i64 x_1, Value.int IntKind.u32 x_2], Value.int IntKind.i64 x_3, Value.int IntKind.i64 x_4] ∧
                  gabionlaw06_wakes.L5 a from0 to0 (IntKind.i64.wrap (t15 + 1)) x x_1 x_2 t_0 t_1 t_2 h' Q)
    (gabionlaw06_wakes.J8 a from0 to0 s_0 s_1 s_2 t_0 t_1 t_2 h Q)
def gabionlaw06_wakes.J8.wp (a : Int) (from0 : Int) (to0 : Int) (s_0 : Int) (s_1 : Int) (s_2 : Int) (t_0 : Int) (t_1 : Int) (t_2 : Int) (h : Heap) (Q : Value → Heap → Prop) : Prop :=
  C Try.prog 16 #[Value.agg #[Value.int IntKind.i64 s_0, Value.int IntKind.i64 s_1, Value.int IntKind.u32 s_2], Value.int IntKind.i64 4] h fun (r : Value) (h' : Heap) =>
    ∃ (x : Int),
      ∃ (x_1 : Int),
        ∃ (x_2 : Int),
          ∃ (x_3 : Int),
            ∃ (x_4 : Int),
              r = Value.tuple #[Value.agg #[Value.int IntKind.i64 x, Value.int IntKind.i64 x_1, Value.int IntKind.u32 x_2], Value.int IntKind.i64 x_3, Value.int IntKind.i64 x_4] ∧
                xsIf (decide (a = 0))
                  (C Try.prog 32 #[Value.agg #[Value.int IntKind.i64 t_0, Value.int IntKind.i64 t_1, Value.int IntKind.u32 t_2], Value.int IntKind.i64 4, Value.int IntKind.i64 3] h' fun (r : Value) (h' : Heap) =>
                    ∃ (x_5 : Int),
                      r = Value.int IntKind.i64 x_5 ∧
                        xsIf (decide (x_5 = 4))
                          (xsIf (decide (from0 = 3))
                            (xsIf (decide (to0 = 4))
                              (C Try.prog 32 #[Value.agg #[Value.int IntKind.i64 x, Value.int IntKind.i64 x_1, Value.int IntKind.u32 x_2], Value.int IntKind.i64 4, Value.int IntKind.i64 0] h'
                                fun (r : Value) (h' : Heap) => ∃ (x : Int), r = Value.int IntKind.i64 x ∧ xsIf (decide (x = 1)) (Q (Value.bool (decide (x_2 = 5))) h') (Q (Value.bool false) h'))
                              (Q (Value.bool false) h'))
                            (Q (Value.bool false) h'))
                          (Q (Value.bool false) h'))
                  (Q (Value.bool false) h')
theorem gabionlaw06_wakes.ok {h : Heap} {Q : Value → Heap → Prop} (hk : gabionlaw06_wakes.wp h Q) : C Try.prog 19 #[] h Q :=
  C_of_xs (H := gabionlaw06_wakes.H) (lcuts := gabionlaw06_wakes.lc) (rcuts := gabionlaw06_wakes.rc) (l := []) 2000 mixed Try.func19 rfl (by kernel_rfl) (Eq.mp (by kernel_rfl) hk)
theorem gabionlaw06_wakes.L5.ok {a : Int} {from0 : Int} {to0 : Int} {t15 : Int} {s_0 : Int} {s_1 : Int} {s_2 : Int} {t_0 : Int} {t_1 : Int} {t_2 : Int} {h : Heap} {Q : Value → Heap → Prop} (hk : gabionlaw06_wakes.L5.wp a from0 to0 t15 s_0 s_1 s_2 t_0 t_1 t_2 h Q) : gabionlaw06_wakes.L5 a from0 to0 t15 s_0 s_1 s_2 t_0 t_1 t_2 h Q :=
  xs_ok (H := gabionlaw06_wakes.H) (lcuts := gabionlaw06_wakes.lc) (rcuts := gabionlaw06_wakes.rc) (fn := Try.f19) mixed Try.func19 2000 _ _ _ (Eq.mp (by kernel_rfl) hk)
theorem gabionlaw06_wakes.J8.ok {a : Int} {from0 : Int} {to0 : Int} {s_0 : Int} {s_1 : Int} {s_2 : Int} {t_0 : Int} {t_1 : Int} {t_2 : Int} {h : Heap} {Q : Value → Heap → Prop} (hk : gabionlaw06_wakes.J8.wp a from0 to0 s_0 s_1 s_2 t_0 t_1 t_2 h Q) : gabionlaw06_wakes.J8 a from0 to0 s_0 s_1 s_2 t_0 t_1 t_2 h Q :=
  xs_ok (H := gabionlaw06_wakes.H) (lcuts := gabionlaw06_wakes.lc) (rcuts := []) (fn := Try.f19) mixed Try.func19 2000 _ _ _ (Eq.mp (by kernel_rfl) hk)

/-! gabion/gabionlaw06.GapMoves -/
def gabionlaw06_GapMoves.H : Hn := ⟨[], [], []⟩
def gabionlaw06_GapMoves.lc : List Cut := []
def gabionlaw06_GapMoves.rc : List Cut := [⟨6, [1], [1]⟩]
def gabionlaw06_GapMoves.J6 (x_1_0 : Int) (x_1_1 : Int) (x_1_2 : Int) (h : Heap) (Q : Value → Heap → Prop) : Prop :=
  TW Try.prog 3 92 [.code (cAt (bodyOf Try.f3) [1, 1, 1, 1, 1, 0]), .code (cAt (bodyOf Try.f3) [1, 1, 1, 1, 1, 1])] ⟨[(1, .p 1 0)], [(1, [.int .i64 x_1_0, .int .i64 x_1_1, .int .i64 x_1_2])]⟩ h Q
def gabionlaw06_GapMoves.wp (x_0 : Int) (x_1 : Int) (x_2 : Int) (h : Heap) (Q : Value → Heap → Prop) : Prop :=
  C Try.prog 15 #[Value.agg #[Value.int IntKind.i64 x_0, Value.int IntKind.i64 x_1, Value.int IntKind.i64 x_2]] h fun (r : Value) (h' : Heap) =>
    ∃ (x : Int),
      ∃ (x_3 : Int),
        ∃ (x_4 : Int),
          ∃ (x_5 : Int),
            r = Value.tuple #[Value.int IntKind.i64 x, Value.agg #[Value.int IntKind.i64 x_3, Value.int IntKind.i64 x_4, Value.int IntKind.u32 x_5]] ∧
              C Try.prog 16 #[Value.agg #[Value.int IntKind.i64 x_3, Value.int IntKind.i64 x_4, Value.int IntKind.u32 x_5], Value.int IntKind.i64 x] h' fun (r : Value) (h' : Heap) =>
                ∃ (x_6 : Int),
                  ∃ (x_7 : Int),
                    ∃ (x_8 : Int),
                      ∃ (x_9 : Int),
                        ∃ (x_10 : Int),
                          r = Value.tuple #[Value.agg #[Value.int IntKind.i64 x_6, Value.int IntKind.i64 x_7, Value.int IntKind.u32 x_8], Value.int IntKind.i64 x_9, Value.int IntKind.i64 x_10] ∧
                            C Try.prog 17 #[Value.int IntKind.i64 x_3, Value.int IntKind.i64 x_4, Value.int IntKind.i64 x] h' fun (r : Value) (h' : Heap) =>
                              ∃ (x : Int),
                                ∃ (x_11 : Int),
                                  ∃ (x_12 : Int),
                                    ∃ (x_13 : Int),
                                      r = Value.tuple #[Value.int IntKind.i64 x, Value.int IntKind.i64 x_11, Value.int IntKind.i64 x_12, Value.int IntKind.i64 x_13] ∧
                                        xsIf (!(decide (x_6 = x) && (decide (x_7 = x_11) && (decide (x_8 = IntKind.u32.wrap (x_5 + 1)) && true)))) (Q (Value.bool false) h')
                                          (xsIf (decide (x_9 ≠ x_12)) (Q (Value.bool false) h') (xsIf (decide (x_10 ≠ x_13)) (Q (Value.bool false) h') (gabionlaw06_GapMoves.J6 x_0 x_1 x_2 h' Q)))
def gabionlaw06_GapMoves.J6.wp (x_1_0 : Int) (x_1_1 : Int) (x_1_2 : Int) (h : Heap) (Q : Value → Heap → Prop) : Prop :=
  C Try.prog 16 #[Value.agg #[Value.int IntKind.i64 x_1_1, Value.int IntKind.i64 x_1_2, Value.int IntKind.u32 0], Value.int IntKind.i64 x_1_0] h fun (r : Value) (h' : Heap) =>
    ∃ (x : Int),
      ∃ (x_1 : Int),
        ∃ (x_2 : Int),
          ∃ (x_3 : Int),
            ∃ (x_4 : Int),
              r = Value.tuple #[Value.agg #[Value.int IntKind.i64 x, Value.int IntKind.i64 x_1, Value.int IntKind.u32 x_2], Value.int IntKind.i64 x_3, Value.int IntKind.i64 x_4] ∧
                C Try.prog 18 #[Value.int IntKind.i64 x_1_1, Value.int IntKind.i64 x_1_2, Value.int IntKind.i64 x_1_0] h' fun (r : Value) (h' : Heap) =>
                  ∃ (x_5 : Bool),
                    r = Value.bool x_5 ∧
                      xsIf (!x_5)
                        (xsIf (!(decide (x = 0) && (decide (x_1 = 0) && (decide (x_2 = 0) && true)))) (Q (Value.bool false) h')
                          (xsIf (decide (x_3 ≠ 0)) (Q (Value.bool false) h')
                            (xsIf (decide (x_4 ≠ 0)) (Q (Value.bool false) h') (C Try.prog 19 #[] h' fun (r : Value) (h' : Heap) => ∃ (x : Bool), r = Value.bool x ∧ Q (Value.bool x) h'))))
                        (C Try.prog 19 #[] h' fun (r : Value) (h' : Heap) => ∃ (x : Bool), r = Value.bool x ∧ Q (Value.bool x) h')
theorem gabionlaw06_GapMoves.ok {x_0 : Int} {x_1 : Int} {x_2 : Int} {h : Heap} {Q : Value → Heap → Prop} (hk : gabionlaw06_GapMoves.wp x_0 x_1 x_2 h Q) : C Try.prog 3 #[.agg #[.int .i64 x_0, .int .i64 x_1, .int .i64 x_2]] h Q :=
  C_of_xs (H := gabionlaw06_GapMoves.H) (lcuts := gabionlaw06_GapMoves.lc) (rcuts := gabionlaw06_GapMoves.rc) (l := [.agg #[.int .i64 x_0, .int .i64 x_1, .int .i64 x_2]]) 2000 mixed Try.func3 rfl (by kernel_rfl) (Eq.mp (by kernel_rfl) hk)
theorem gabionlaw06_GapMoves.J6.ok {x_1_0 : Int} {x_1_1 : Int} {x_1_2 : Int} {h : Heap} {Q : Value → Heap → Prop} (hk : gabionlaw06_GapMoves.J6.wp x_1_0 x_1_1 x_1_2 h Q) : gabionlaw06_GapMoves.J6 x_1_0 x_1_1 x_1_2 h Q :=
  xs_ok (H := gabionlaw06_GapMoves.H) (lcuts := gabionlaw06_GapMoves.lc) (rcuts := []) (fn := Try.f3) mixed Try.func3 2000 _ _ _ (Eq.mp (by kernel_rfl) hk)

/-! gabion/gabionlaw06.GapLater -/
def gabionlaw06_GapLater.H : Hn := ⟨[], [], [⟨8, [0, 1, 2, 3, 4, 5, 6, 7, 8, 9, 10, 11, 12, 13, 14, 15, 16, 17, 18, 19, 20], []⟩]⟩
def gabionlaw06_GapLater.lc : List Cut := [⟨5, [5, 6, 7, 17, 18], [7]⟩]
def gabionlaw06_GapLater.rc : List Cut := [⟨8, [5, 6, 7], [7]⟩]
def gabionlaw06_GapLater.L5 (m : Int) (k0 : Int) (t17 : Int) (t18 : Int) (s_0 : Int) (s_1 : Int) (s_2 : Int) (h : Heap) (Q : Value → Heap → Prop) : Prop :=
  TW Try.prog 4 48 [.code (cAt (bodyOf Try.f4) [1, 1, 1, 1, 0, 1, 0, 0]), .inLoop (cAt (bodyOf Try.f4) [1, 1, 1, 1, 0, 1, 0, 0]), .inBlock 0, .code (cAt (bodyOf Try.f4) [1, 1, 1, 1, 1])] ⟨[(5, .v (.int .i64 m)), (6, .v (.int .i64 k0)), (7, .p 7 0), (17, .v (.int .i64 t17)), (18, .v (.int .i64 t18))], [(7, [.int .i64 s_0, .int .i64 s_1, .int .u32 s_2])]⟩ h Q
def gabionlaw06_GapLater.J8 (m : Int) (k0 : Int) (s_0 : Int) (s_1 : Int) (s_2 : Int) (h : Heap) (Q : Value → Heap → Prop) : Prop :=
  TW Try.prog 4 48 [.code (cAt (bodyOf Try.f4) [1, 1, 1, 1, 1, 0]), .code (cAt (bodyOf Try.f4) [1, 1, 1, 1, 1, 1])] ⟨[(5, .v (.int .i64 m)), (6, .v (.int .i64 k0)), (7, .p 7 0)], [(7, [.int .i64 s_0, .int .i64 s_1, .int .u32 s_2])]⟩ h Q
def gabionlaw06_GapLater.wp (n : Int) (moves : Int) (h : Heap) (Q : Value → Heap → Prop) : Prop :=
  C Try.prog 20 #[Value.int IntKind.i64 (IntKind.i64.wrap (1 + IntKind.i64.wrap (irem n 30)))] h fun (r : Value) (h' : Heap) =>
    ∃ (x : Int),
      ∃ (x_1 : Int),
        ∃ (x_2 : Int),
          r = Value.agg #[Value.int IntKind.i64 x, Value.int IntKind.i64 x_1, Value.int IntKind.u32 x_2] ∧
            gabionlaw06_GapLater.L5 (IntKind.i64.wrap (1 + IntKind.i64.wrap (irem n 30))) (irem (IntKind.i64.wrap moves) 700) (irem (IntKind.i64.wrap moves) 700) 0 x x_1 x_2 h' Q
def gabionlaw06_GapLater.L5.wp (m : Int) (k0 : Int) (t17 : Int) (t18 : Int) (s_0 : Int) (s_1 : Int) (s_2 : Int) (h : Heap) (Q : Value → Heap → Prop) : Prop :=
  xsIf (decide (t18 < t17))
    (C Try.prog 16 #[Value.agg #[Value.int IntKind.i64 s_0, Value.int IntKind.i64 s_1, Value.int IntKind.u32 s_2], Value.int IntKind.i64 m] h fun (r : Value) (h' : Heap) =>
      ∃ (x : Int),
        ∃ (x_1 : Int),
          ∃ (x_2 : Int),
            ∃ (x_3 : Int),
              ∃ (x_4 : Int),
                r = Value.tuple #[Value.agg #[Value.int IntKind.i64 x, Value.int IntKind.i64 x_1, Value.int IntKind.u32 x_2], Value.int IntKind.i64 x_3, Value.int IntKind.i64 x_4] ∧
                  gabionlaw06_GapLater.L5 m k0 t17 (IntKind.i64.wrap (t18 + 1)) x x_1 x_2 h' Q)
    (gabionlaw06_GapLater.J8 m k0 s_0 s_1 s_2 h Q)
def gabionlaw06_GapLater.J8.wp (m : Int) (k0 : Int) (s_0 : Int) (s_1 : Int) (s_2 : Int) (h : Heap) (Q : Value → Heap → Prop) : Prop :=
  C Try.prog 19 #[] h fun (r : Value) (h' : Heap) =>
    ∃ (x : Bool),
      r = Value.bool x ∧
        xsIf x
          (IntKind.i64.wrap (m + 1) ≠ 0 ∧
            m ≠ 0 ∧
              IntKind.i64.wrap (m + 1) ≠ 0 ∧
                Q (Value.bool (decide (s_0 = irem (iquo IntKind.i64 k0 (IntKind.i64.wrap (m + 1))) m) && (decide (s_1 = IntKind.i64.wrap (m - irem k0 (IntKind.i64.wrap (m + 1)))) && (decide (s_2 = IntKind.u32.wrap k0) && true)))) h')
          (Q (Value.bool false) h')
theorem gabionlaw06_GapLater.ok {n : Int} {moves : Int} {h : Heap} {Q : Value → Heap → Prop} (hk : gabionlaw06_GapLater.wp n moves h Q) : C Try.prog 4 #[.int .u8 n, .int .u16 moves] h Q :=
  C_of_xs (H := gabionlaw06_GapLater.H) (lcuts := gabionlaw06_GapLater.lc) (rcuts := gabionlaw06_GapLater.rc) (l := [.int .u8 n, .int .u16 moves]) 2000 mixed Try.func4 rfl (by kernel_rfl) (Eq.mp (by kernel_rfl) hk)
theorem gabionlaw06_GapLater.L5.ok {m : Int} {k0 : Int} {t17 : Int} {t18 : Int} {s_0 : Int} {s_1 : Int} {s_2 : Int} {h : Heap} {Q : Value → Heap → Prop} (hk : gabionlaw06_GapLater.L5.wp m k0 t17 t18 s_0 s_1 s_2 h Q) : gabionlaw06_GapLater.L5 m k0 t17 t18 s_0 s_1 s_2 h Q :=
  xs_ok (H := gabionlaw06_GapLater.H) (lcuts := gabionlaw06_GapLater.lc) (rcuts := gabionlaw06_GapLater.rc) (fn := Try.f4) mixed Try.func4 2000 _ _ _ (Eq.mp (by kernel_rfl) hk)
theorem gabionlaw06_GapLater.J8.ok {m : Int} {k0 : Int} {s_0 : Int} {s_1 : Int} {s_2 : Int} {h : Heap} {Q : Value → Heap → Prop} (hk : gabionlaw06_GapLater.J8.wp m k0 s_0 s_1 s_2 h Q) : gabionlaw06_GapLater.J8 m k0 s_0 s_1 s_2 h Q :=
  xs_ok (H := gabionlaw06_GapLater.H) (lcuts := gabionlaw06_GapLater.lc) (rcuts := []) (fn := Try.f4) mixed Try.func4 2000 _ _ _ (Eq.mp (by kernel_rfl) hk)

/-! gabion/le.Put -/
def le_Put.H : Hn := ⟨[], [], []⟩
def le_Put.lc : List Cut := [⟨3, [0, 5, 8, 9], []⟩]
def le_Put.rc : List Cut := []
def le_Put.L3 (n : Int) (b : Option Addr) (b_n : Nat) (b_c : Nat) (t8 : Int) (t9 : Int) (h : Heap) (Q : Value → Heap → Prop) : Prop :=
  TW Try.prog 21 21 [.code (cAt (bodyOf Try.f21) [1, 1, 0, 1, 0, 0]), .inLoop (cAt (bodyOf Try.f21) [1, 1, 0, 1, 0, 0]), .inBlock 0, .code (cAt (bodyOf Try.f21) [1, 1, 1])] ⟨[(0, .v (.int .u64 n)), (5, .v (.slice b b_n b_c)), (8, .v (.int .i64 t8)), (9, .v (.int .i64 t9))], []⟩ h Q
def le_Put.wp (n : Int) (size : Int) (h : Heap) (Q : Value → Heap → Prop) : Prop :=
  le_Put.L3 n none 0 0 (imin (imax size 0) 8) 0 h Q
def le_Put.L3.wp (n : Int) (b : Option Addr) (b_n : Nat) (b_c : Nat) (t8 : Int) (t9 : Int) (h : Heap) (Q : Value → Heap → Prop) : Prop :=
  xsIf (decide (t9 < t8))
    (∀ (b_1 : Nat),
      h b_1 = none →
        xsApp Try.prog 5 (upd h b_1 (Obj.cells #[Value.int IntKind.u8 (IntKind.u8.wrap n)] 5 (0, 0))) b b_n b_c (some { block := b_1, off := 0 }) 1 fun (a' : Option Addr) (n' c' : Nat) (h' : Heap) =>
          le_Put.L3 (ishr IntKind.u64 n 8) a' n' c' t8 (IntKind.i64.wrap (t9 + 1)) h' Q)
    (xsStr h b b_n fun (s : ByteArray) => Q (Value.string s) h)
theorem le_Put.ok {n : Int} {size : Int} {h : Heap} {Q : Value → Heap → Prop} (hk : le_Put.wp n size h Q) : C Try.prog 21 #[.int .u64 n, .int .i64 size] h Q :=
  C_of_xs (H := le_Put.H) (lcuts := le_Put.lc) (rcuts := le_Put.rc) (l := [.int .u64 n, .int .i64 size]) 2000 mixed Try.func21 rfl (by kernel_rfl) (Eq.mp (by kernel_rfl) hk)
theorem le_Put.L3.ok {n : Int} {b : Option Addr} {b_n : Nat} {b_c : Nat} {t8 : Int} {t9 : Int} {h : Heap} {Q : Value → Heap → Prop} (hk : le_Put.L3.wp n b b_n b_c t8 t9 h Q) : le_Put.L3 n b b_n b_c t8 t9 h Q :=
  xs_ok (H := le_Put.H) (lcuts := le_Put.lc) (rcuts := le_Put.rc) (fn := Try.f21) mixed Try.func21 2000 _ _ _ (Eq.mp (by kernel_rfl) hk)

/-! gabion/gabionref01.Put -/
def gabionref01_Put.H : Hn := ⟨[], [], []⟩
def gabionref01_Put.lc : List Cut := [⟨3, [0, 1, 5, 6], []⟩]
def gabionref01_Put.rc : List Cut := [⟨5, [0, 1, 5, 6], []⟩]
def gabionref01_Put.L3 (n : Int) (size : Int) (b : Option Addr) (b_n : Nat) (b_c : Nat) (i : Int) (h : Heap) (Q : Value → Heap → Prop) : Prop :=
  TW Try.prog 22 26 [.code (cAt (bodyOf Try.f22) [1, 1, 0, 1, 0, 0]), .inLoop (cAt (bodyOf Try.f22) [1, 1, 0, 1, 0, 0]), .inBlock 0, .code (cAt (bodyOf Try.f22) [1, 1, 1])] ⟨[(0, .v (.int .u64 n)), (1, .v (.int .i64 size)), (5, .v (.slice b b_n b_c)), (6, .v (.int .i64 i))], []⟩ h Q
def gabionref01_Put.J5 (n : Int) (size : Int) (b : Option Addr) (b_n : Nat) (b_c : Nat) (i : Int) (h : Heap) (Q : Value → Heap → Prop) : Prop :=
  TW Try.prog 22 26 [.code (cAt (bodyOf Try.f22) [1, 1, 0, 1, 0, 0, 1, 0, 0, 0]), .code (cAt (bodyOf Try.f22) [1, 1, 0, 1, 0, 0, 1, 0, 0, 1]), .inBlock 1, .code (cAt (bodyOf Try.f22) [1, 1, 0, 1, 0, 0, 1, 1]), .inLoop (cAt (bodyOf Try.f22) [1, 1, 0, 1, 0, 0]), .inBlock 0, .code (cAt (bodyOf Try.f22) [1, 1, 1])] ⟨[(0, .v (.int .u64 n)), (1, .v (.int .i64 size)), (5, .v (.slice b b_n b_c)), (6, .v (.int .i64 i))], []⟩ h Q
def gabionref01_Put.wp (n : Int) (size : Int) (h : Heap) (Q : Value → Heap → Prop) : Prop :=
  gabionref01_Put.L3 n size none 0 0 0 h Q
def gabionref01_Put.L3.wp (n : Int) (size : Int) (b : Option Addr) (b_n : Nat) (b_c : Nat) (i : Int) (h : Heap) (Q : Value → Heap → Prop) : Prop :=
  xsIf (decide (i < size)) (xsIf (decide (i < 8)) (gabionref01_Put.J5 n size b b_n b_c i h Q) (xsStr h b b_n fun (s : ByteArray) => Q (Value.string s) h)) (xsStr h b b_n fun (s : ByteArray) => Q (Value.string s) h)
def gabionref01_Put.J5.wp (n : Int) (size : Int) (b : Option Addr) (b_n : Nat) (b_c : Nat) (i : Int) (h : Heap) (Q : Value → Heap → Prop) : Prop :=
  ∀ (b_1 : Nat),
    h b_1 = none →
      xsApp Try.prog 5 (upd h b_1 (Obj.cells #[Value.int IntKind.u8 (IntKind.u8.wrap (irem n 256))] 5 (0, 0))) b b_n b_c (some { block := b_1, off := 0 }) 1 fun (a' : Option Addr) (n' c' : Nat) (h' : Heap) =>
        gabionref01_Put.L3 (iquo IntKind.u64 n 256) size a' n' c' (IntKind.i64.wrap (i + 1)) h' Q
theorem gabionref01_Put.ok {n : Int} {size : Int} {h : Heap} {Q : Value → Heap → Prop} (hk : gabionref01_Put.wp n size h Q) : C Try.prog 22 #[.int .u64 n, .int .i64 size] h Q :=
  C_of_xs (H := gabionref01_Put.H) (lcuts := gabionref01_Put.lc) (rcuts := gabionref01_Put.rc) (l := [.int .u64 n, .int .i64 size]) 2000 mixed Try.func22 rfl (by kernel_rfl) (Eq.mp (by kernel_rfl) hk)
theorem gabionref01_Put.L3.ok {n : Int} {size : Int} {b : Option Addr} {b_n : Nat} {b_c : Nat} {i : Int} {h : Heap} {Q : Value → Heap → Prop} (hk : gabionref01_Put.L3.wp n size b b_n b_c i h Q) : gabionref01_Put.L3 n size b b_n b_c i h Q :=
  xs_ok (H := gabionref01_Put.H) (lcuts := gabionref01_Put.lc) (rcuts := gabionref01_Put.rc) (fn := Try.f22) mixed Try.func22 2000 _ _ _ (Eq.mp (by kernel_rfl) hk)
theorem gabionref01_Put.J5.ok {n : Int} {size : Int} {b : Option Addr} {b_n : Nat} {b_c : Nat} {i : Int} {h : Heap} {Q : Value → Heap → Prop} (hk : gabionref01_Put.J5.wp n size b b_n b_c i h Q) : gabionref01_Put.J5 n size b b_n b_c i h Q :=
  xs_ok (H := gabionref01_Put.H) (lcuts := gabionref01_Put.lc) (rcuts := []) (fn := Try.f22) mixed Try.func22 2000 _ _ _ (Eq.mp (by kernel_rfl) hk)

/-! gabion/le.Get -/
def le_Get.H : Hn := ⟨[], [], []⟩
def le_Get.lc : List Cut := [⟨3, [0, 3, 4], []⟩]
def le_Get.rc : List Cut := []
def le_Get.L3 (s : ByteArray) (n : Int) (i : Int) (h : Heap) (Q : Value → Heap → Prop) : Prop :=
  TW Try.prog 24 21 [.code (cAt (bodyOf Try.f24) [1, 1, 0, 1, 0, 0]), .inLoop (cAt (bodyOf Try.f24) [1, 1, 0, 1, 0, 0]), .inBlock 0, .code (cAt (bodyOf Try.f24) [1, 1, 1])] ⟨[(0, .v (.string s)), (3, .v (.int .u64 n)), (4, .v (.int .i64 i))], []⟩ h Q
def le_Get.wp (s : ByteArray) (h : Heap) (Q : Value → Heap → Prop) : Prop :=
  le_Get.L3 s 0 (IntKind.i64.wrap (imin (↑s.size : Int) 8 - 1)) h Q
def le_Get.L3.wp (s : ByteArray) (n : Int) (i : Int) (h : Heap) (Q : Value → Heap → Prop) : Prop :=
  xsIf (decide (0 ≤ i)) (∃ (c : UInt8), 0 ≤ i ∧ bget s i.toNat = some c ∧ le_Get.L3 s (ior IntKind.u64 (ishl IntKind.u64 n 8) (IntKind.u64.wrap (↑c.toNat : Int))) (IntKind.i64.wrap (i - 1)) h Q) (Q (Value.int IntKind.u64 n) h)
theorem le_Get.ok {s : ByteArray} {h : Heap} {Q : Value → Heap → Prop} (hk : le_Get.wp s h Q) : C Try.prog 24 #[.string s] h Q :=
  C_of_xs (H := le_Get.H) (lcuts := le_Get.lc) (rcuts := le_Get.rc) (l := [.string s]) 2000 mixed Try.func24 rfl (by kernel_rfl) (Eq.mp (by kernel_rfl) hk)
theorem le_Get.L3.ok {s : ByteArray} {n : Int} {i : Int} {h : Heap} {Q : Value → Heap → Prop} (hk : le_Get.L3.wp s n i h Q) : le_Get.L3 s n i h Q :=
  xs_ok (H := le_Get.H) (lcuts := le_Get.lc) (rcuts := le_Get.rc) (fn := Try.f24) mixed Try.func24 2000 _ _ _ (Eq.mp (by kernel_rfl) hk)

/-! gabion/le.mask -/
def le_mask.H : Hn := ⟨[], [], []⟩
def le_mask.lc : List Cut := []
def le_mask.rc : List Cut := []
def le_mask.wp (at0 : Int) (width : Int) (h : Heap) (Q : Value → Heap → Prop) : Prop :=
  xsIf (decide (at0 < 0)) (Q (Value.int IntKind.u64 0) h)
    (xsIf (decide (64 ≤ at0)) (Q (Value.int IntKind.u64 0) h)
      (xsIf (decide (width < 1)) (Q (Value.int IntKind.u64 0) h)
        (xsIf (decide (IntKind.i64.wrap (64 - at0) < width)) (Q (Value.int IntKind.u64 0) h)
          (0 ≤ IntKind.i64.wrap (64 - width) ∧ 0 ≤ at0 ∧ Q (Value.int IntKind.u64 (ishl IntKind.u64 (ishr IntKind.u64 18446744073709551615 (IntKind.i64.wrap (64 - width))) at0)) h))))
theorem le_mask.ok {at0 : Int} {width : Int} {h : Heap} {Q : Value → Heap → Prop} (hk : le_mask.wp at0 width h Q) : C Try.prog 46 #[.int .i64 at0, .int .i64 width] h Q :=
  C_of_xs (H := le_mask.H) (lcuts := le_mask.lc) (rcuts := le_mask.rc) (l := [.int .i64 at0, .int .i64 width]) 2000 mixed Try.func46 rfl (by kernel_rfl) (Eq.mp (by kernel_rfl) hk)

/-! gabion/le.Field -/
def le_Field.H : Hn := ⟨[], [], []⟩
def le_Field.lc : List Cut := []
def le_Field.rc : List Cut := []
def le_Field.wp (w : Int) (at0 : Int) (width : Int) (h : Heap) (Q : Value → Heap → Prop) : Prop :=
  C Try.prog 46 #[Value.int IntKind.i64 at0, Value.int IntKind.i64 width] h fun (r : Value) (h' : Heap) =>
    ∃ (x : Int), r = Value.int IntKind.u64 x ∧ xsIf (decide (x = 0)) (Q (Value.int IntKind.u64 0) h') (0 ≤ at0 ∧ Q (Value.int IntKind.u64 (ishr IntKind.u64 (iand IntKind.u64 w x) at0)) h')
theorem le_Field.ok {w : Int} {at0 : Int} {width : Int} {h : Heap} {Q : Value → Heap → Prop} (hk : le_Field.wp w at0 width h Q) : C Try.prog 26 #[.int .u64 w, .int .i64 at0, .int .i64 width] h Q :=
  C_of_xs (H := le_Field.H) (lcuts := le_Field.lc) (rcuts := le_Field.rc) (l := [.int .u64 w, .int .i64 at0, .int .i64 width]) 2000 mixed Try.func26 rfl (by kernel_rfl) (Eq.mp (by kernel_rfl) hk)

/-! gabion/le.With -/
def le_With.H : Hn := ⟨[], [], []⟩
def le_With.lc : List Cut := []
def le_With.rc : List Cut := []
def le_With.wp (w : Int) (at0 : Int) (width : Int) (v : Int) (h : Heap) (Q : Value → Heap → Prop) : Prop :=
  C Try.prog 46 #[Value.int IntKind.i64 at0, Value.int IntKind.i64 width] h fun (r : Value) (h' : Heap) =>
    ∃ (x : Int), r = Value.int IntKind.u64 x ∧ xsIf (decide (x = 0)) (Q (Value.int IntKind.u64 w) h') (0 ≤ at0 ∧ Q (Value.int IntKind.u64 (ior IntKind.u64 (iandNot IntKind.u64 w x) (iand IntKind.u64 (ishl IntKind.u64 v at0) x))) h')
theorem le_With.ok {w : Int} {at0 : Int} {width : Int} {v : Int} {h : Heap} {Q : Value → Heap → Prop} (hk : le_With.wp w at0 width v h Q) : C Try.prog 28 #[.int .u64 w, .int .i64 at0, .int .i64 width, .int .u64 v] h Q :=
  C_of_xs (H := le_With.H) (lcuts := le_With.lc) (rcuts := le_With.rc) (l := [.int .u64 w, .int .i64 at0, .int .i64 width, .int .u64 v]) 2000 mixed Try.func28 rfl (by kernel_rfl) (Eq.mp (by kernel_rfl) hk)

/-! gabion/gabionlaw01.wakes -/
def gabionlaw01_wakes.H : Hn := ⟨[], [], []⟩
def gabionlaw01_wakes.lc : List Cut := []
def gabionlaw01_wakes.rc : List Cut := []
def gabionlaw01_wakes.wp  (h : Heap) (Q : Value → Heap → Prop) : Prop :=
  C Try.prog 21 #[Value.int IntKind.u64 258, Value.int IntKind.i64 3] h fun (r : Value) (h' : Heap) =>
    ∃ (x : ByteArray),
      r = Value.string x ∧
        xsIf (decide (x = { data := #[2, 1, 0] }))
          (C Try.prog 24 #[Value.string { data := #[UInt8.ofNat 2, UInt8.ofNat 1, UInt8.ofNat 0] }] h' fun (r : Value) (h' : Heap) =>
            ∃ (x : Int),
              r = Value.int IntKind.u64 x ∧
                xsIf (decide (x = 258))
                  (C Try.prog 26 #[Value.int IntKind.u64 258, Value.int IntKind.i64 8, Value.int IntKind.i64 8] h' fun (r : Value) (h' : Heap) =>
                    ∃ (x : Int),
                      r = Value.int IntKind.u64 x ∧
                        xsIf (decide (x = 1))
                          (C Try.prog 28 #[Value.int IntKind.u64 0, Value.int IntKind.i64 8, Value.int IntKind.i64 8, Value.int IntKind.u64 1] h' fun (r : Value) (h' : Heap) =>
                            ∃ (x : Int), r = Value.int IntKind.u64 x ∧ Q (Value.bool (decide (x = 256))) h')
                          (Q (Value.bool false) h'))
                  (Q (Value.bool false) h'))
          (Q (Value.bool false) h')
theorem gabionlaw01_wakes.ok {h : Heap} {Q : Value → Heap → Prop} (hk : gabionlaw01_wakes.wp h Q) : C Try.prog 23 #[] h Q :=
  C_of_xs (H := gabionlaw01_wakes.H) (lcuts := gabionlaw01_wakes.lc) (rcuts := gabionlaw01_wakes.rc) (l := []) 2000 mixed Try.func23 rfl (by kernel_rfl) (Eq.mp (by kernel_rfl) hk)

/-! gabion/gabionref01.Get -/
def gabionref01_Get.H : Hn := ⟨[], [], []⟩
def gabionref01_Get.lc : List Cut := [⟨4, [0, 3, 4, 5], []⟩]
def gabionref01_Get.rc : List Cut := [⟨6, [0, 3, 4, 5], []⟩]
def gabionref01_Get.L4 (s : ByteArray) (n : Int) (m : Int) (i : Int) (h : Heap) (Q : Value → Heap → Prop) : Prop :=
  TW Try.prog 25 27 [.code (cAt (bodyOf Try.f25) [1, 1, 1, 0, 1, 0, 0]), .inLoop (cAt (bodyOf Try.f25) [1, 1, 1, 0, 1, 0, 0]), .inBlock 0, .code (cAt (bodyOf Try.f25) [1, 1, 1, 1])] ⟨[(0, .v (.string s)), (3, .v (.int .u64 n)), (4, .v (.int .u64 m)), (5, .v (.int .i64 i))], []⟩ h Q
def gabionref01_Get.J6 (s : ByteArray) (n : Int) (m : Int) (i : Int) (h : Heap) (Q : Value → Heap → Prop) : Prop :=
  TW Try.prog 25 27 [.code (cAt (bodyOf Try.f25) [1, 1, 1, 0, 1, 0, 0, 1, 0, 0, 0]), .code (cAt (bodyOf Try.f25) [1, 1, 1, 0, 1, 0, 0, 1, 0, 0, 1]), .inBlock 1, .code (cAt (bodyOf Try.f25) [1, 1, 1, 0, 1, 0, 0, 1, 1]), .inLoop (cAt (bodyOf Try.f25) [1, 1, 1, 0, 1, 0, 0]), .inBlock 0, .code (cAt (bodyOf Try.f25) [1, 1, 1, 1])] ⟨[(0, .v (.string s)), (3, .v (.int .u64 n)), (4, .v (.int .u64 m)), (5, .v (.int .i64 i))], []⟩ h Q
def gabionref01_Get.wp (s : ByteArray) (h : Heap) (Q : Value → Heap → Prop) : Prop :=
  gabionref01_Get.L4 s 0 1 0 h Q
def gabionref01_Get.L4.wp (s : ByteArray) (n : Int) (m : Int) (i : Int) (h : Heap) (Q : Value → Heap → Prop) : Prop :=
  xsIf (decide (i < (↑s.size : Int))) (xsIf (decide (i < 8)) (gabionref01_Get.J6 s n m i h Q) (Q (Value.int IntKind.u64 n) h)) (Q (Value.int IntKind.u64 n) h)
def gabionref01_Get.J6.wp (s : ByteArray) (n : Int) (m : Int) (i : Int) (h : Heap) (Q : Value → Heap → Prop) : Prop :=
  ∃ (c : UInt8), 0 ≤ i ∧ bget s i.toNat = some c ∧ gabionref01_Get.L4 s (IntKind.u64.wrap (n + IntKind.u64.wrap (m * IntKind.u64.wrap (↑c.toNat : Int)))) (IntKind.u64.wrap (m * 256)) (IntKind.i64.wrap (i + 1)) h Q
theorem gabionref01_Get.ok {s : ByteArray} {h : Heap} {Q : Value → Heap → Prop} (hk : gabionref01_Get.wp s h Q) : C Try.prog 25 #[.string s] h Q :=
  C_of_xs (H := gabionref01_Get.H) (lcuts := gabionref01_Get.lc) (rcuts := gabionref01_Get.rc) (l := [.string s]) 2000 mixed Try.func25 rfl (by kernel_rfl) (Eq.mp (by kernel_rfl) hk)
theorem gabionref01_Get.L4.ok {s : ByteArray} {n : Int} {m : Int} {i : Int} {h : Heap} {Q : Value → Heap → Prop} (hk : gabionref01_Get.L4.wp s n m i h Q) : gabionref01_Get.L4 s n m i h Q :=
  xs_ok (H := gabionref01_Get.H) (lcuts := gabionref01_Get.lc) (rcuts := gabionref01_Get.rc) (fn := Try.f25) mixed Try.func25 2000 _ _ _ (Eq.mp (by kernel_rfl) hk)
theorem gabionref01_Get.J6.ok {s : ByteArray} {n : Int} {m : Int} {i : Int} {h : Heap} {Q : Value → Heap → Prop} (hk : gabionref01_Get.J6.wp s n m i h Q) : gabionref01_Get.J6 s n m i h Q :=
  xs_ok (H := gabionref01_Get.H) (lcuts := gabionref01_Get.lc) (rcuts := []) (fn := Try.f25) mixed Try.func25 2000 _ _ _ (Eq.mp (by kernel_rfl) hk)

/-! gabion/gabionlaw01.LeBytes -/
def gabionlaw01_LeBytes.H : Hn := ⟨[], [], []⟩
def gabionlaw01_LeBytes.lc : List Cut := [⟨2, [0, 2, 13, 14, 15], []⟩]
def gabionlaw01_LeBytes.rc : List Cut := [⟨7, [0, 2], []⟩]
def gabionlaw01_LeBytes.L2 (n : Int) (s : ByteArray) (t13 : Option Addr) (t13_n : Nat) (t13_c : Nat) (t14 : Int) (t15 : Int) (h : Heap) (Q : Value → Heap → Prop) : Prop :=
  TW Try.prog 5 42 [.code (cAt (bodyOf Try.f5) [1, 0, 1, 0, 0]), .inLoop (cAt (bodyOf Try.f5) [1, 0, 1, 0, 0]), .inBlock 0, .code (cAt (bodyOf Try.f5) [1, 1])] ⟨[(0, .v (.int .u64 n)), (2, .v (.string s)), (13, .v (.slice t13 t13_n t13_c)), (14, .v (.int .i64 t14)), (15, .v (.int .i64 t15))], []⟩ h Q
def gabionlaw01_LeBytes.J7 (n : Int) (s : ByteArray) (h : Heap) (Q : Value → Heap → Prop) : Prop :=
  TW Try.prog 5 42 [.code (cAt (bodyOf Try.f5) [1, 1, 0]), .code (cAt (bodyOf Try.f5) [1, 1, 1])] ⟨[(0, .v (.int .u64 n)), (2, .v (.string s))], []⟩ h Q
def gabionlaw01_LeBytes.wp (n : Int) (size : Int) (s : ByteArray) (h : Heap) (Q : Value → Heap → Prop) : Prop :=
  ∀ (b : Nat), h b = none → gabionlaw01_LeBytes.L2 n s (some { block := b, off := 0 }) 2 2 (↑2 : Int) 0 (upd h b (Obj.cells #[Value.int IntKind.i64 size, Value.int IntKind.i64 (irem (imax 0 size) 10)] 3 (0, 0))) Q
def gabionlaw01_LeBytes.L2.wp (n : Int) (s : ByteArray) (t13 : Option Addr) (t13_n : Nat) (t13_c : Nat) (t14 : Int) (t15 : Int) (h : Heap) (Q : Value → Heap → Prop) : Prop :=
  xsIf (decide (t15 < t14))
    ((0 ≤ t15 ∧ t15 < (↑t13_n : Int)) ∧
      atBase t13 fun (b o : Nat) =>
        ∃ (x : Int),
          h.cell b (o + t15.toNat * 1) = some (Value.int IntKind.i64 x) ∧
            C Try.prog 21 #[Value.int IntKind.u64 n, Value.int IntKind.i64 x] h fun (r : Value) (h' : Heap) =>
              ∃ (x_1 : ByteArray),
                r = Value.string x_1 ∧
                  C Try.prog 22 #[Value.int IntKind.u64 n, Value.int IntKind.i64 x] h' fun (r : Value) (h' : Heap) =>
                    ∃ (x : ByteArray), r = Value.string x ∧ xsIf (decide (x_1 ≠ x)) (Q (Value.bool false) h') (gabionlaw01_LeBytes.L2 n s t13 t13_n t13_c t14 (IntKind.i64.wrap (t15 + 1)) h' Q))
    (gabionlaw01_LeBytes.J7 n s h Q)
def gabionlaw01_LeBytes.J7.wp (n : Int) (s : ByteArray) (h : Heap) (Q : Value → Heap → Prop) : Prop :=
  C Try.prog 23 #[] h fun (r : Value) (h' : Heap) =>
    ∃ (x : Bool),
      r = Value.bool x ∧
        xsIf x
          (C Try.prog 24 #[Value.string s] h' fun (r : Value) (h' : Heap) =>
            ∃ (x : Int),
              r = Value.int IntKind.u64 x ∧
                C Try.prog 25 #[Value.string s] h' fun (r : Value) (h' : Heap) =>
                  ∃ (x_1 : Int),
                    r = Value.int IntKind.u64 x_1 ∧
                      xsIf (decide (x = x_1))
                        (C Try.prog 21 #[Value.int IntKind.u64 n, Value.int IntKind.i64 8] h' fun (r : Value) (h' : Heap) =>
                          ∃ (x : ByteArray), r = Value.string x ∧ C Try.prog 24 #[Value.string x] h' fun (r : Value) (h' : Heap) => ∃ (x : Int), r = Value.int IntKind.u64 x ∧ Q (Value.bool (decide (x = n))) h')
                        (Q (Value.bool false) h'))
          (Q (Value.bool false) h')
theorem gabionlaw01_LeBytes.ok {n : Int} {size : Int} {s : ByteArray} {h : Heap} {Q : Value → Heap → Prop} (hk : gabionlaw01_LeBytes.wp n size s h Q) : C Try.prog 5 #[.int .u64 n, .int .i64 size, .string s] h Q :=
  C_of_xs (H := gabionlaw01_LeBytes.H) (lcuts := gabionlaw01_LeBytes.lc) (rcuts := gabionlaw01_LeBytes.rc) (l := [.int .u64 n, .int .i64 size, .string s]) 2000 mixed Try.func5 rfl (by kernel_rfl) (Eq.mp (by kernel_rfl) hk)
theorem gabionlaw01_LeBytes.L2.ok {n : Int} {s : ByteArray} {t13 : Option Addr} {t13_n : Nat} {t13_c : Nat} {t14 : Int} {t15 : Int} {h : Heap} {Q : Value → Heap → Prop} (hk : gabionlaw01_LeBytes.L2.wp n s t13 t13_n t13_c t14 t15 h Q) : gabionlaw01_LeBytes.L2 n s t13 t13_n t13_c t14 t15 h Q :=
  xs_ok (H := gabionlaw01_LeBytes.H) (lcuts := gabionlaw01_LeBytes.lc) (rcuts := gabionlaw01_LeBytes.rc) (fn := Try.f5) mixed Try.func5 2000 _ _ _ (Eq.mp (by kernel_rfl) hk)
theorem gabionlaw01_LeBytes.J7.ok {n : Int} {s : ByteArray} {h : Heap} {Q : Value → Heap → Prop} (hk : gabionlaw01_LeBytes.J7.wp n s h Q) : gabionlaw01_LeBytes.J7 n s h Q :=
  xs_ok (H := gabionlaw01_LeBytes.H) (lcuts := gabionlaw01_LeBytes.lc) (rcuts := []) (fn := Try.f5) mixed Try.func5 2000 _ _ _ (Eq.mp (by kernel_rfl) hk)

/-! gabion/gabionref01.may -/
def gabionref01_may.H : Hn := ⟨[], [], []⟩
def gabionref01_may.lc : List Cut := []
def gabionref01_may.rc : List Cut := []
def gabionref01_may.wp (at0 : Int) (width : Int) (h : Heap) (Q : Value → Heap → Prop) : Prop :=
  xsIf (decide (0 ≤ at0)) (xsIf (decide (at0 < 64)) (xsIf (decide (1 ≤ width)) (Q (Value.bool (decide (width ≤ IntKind.i64.wrap (64 - at0)))) h) (Q (Value.bool false) h)) (Q (Value.bool false) h)) (Q (Value.bool false) h)
theorem gabionref01_may.ok {at0 : Int} {width : Int} {h : Heap} {Q : Value → Heap → Prop} (hk : gabionref01_may.wp at0 width h Q) : C Try.prog 47 #[.int .i64 at0, .int .i64 width] h Q :=
  C_of_xs (H := gabionref01_may.H) (lcuts := gabionref01_may.lc) (rcuts := gabionref01_may.rc) (l := [.int .i64 at0, .int .i64 width]) 2000 mixed Try.func47 rfl (by kernel_rfl) (Eq.mp (by kernel_rfl) hk)

/-! gabion/gabionref01.bit -/
def gabionref01_bit.H : Hn := ⟨[], [], []⟩
def gabionref01_bit.lc : List Cut := [⟨2, [0, 1, 5], []⟩]
def gabionref01_bit.rc : List Cut := []
def gabionref01_bit.L2 (w : Int) (i : Int) (k0 : Int) (h : Heap) (Q : Value → Heap → Prop) : Prop :=
  TW Try.prog 48 15 [.code (cAt (bodyOf Try.f48) [1, 0, 1, 0, 0]), .inLoop (cAt (bodyOf Try.f48) [1, 0, 1, 0, 0]), .inBlock 0, .code (cAt (bodyOf Try.f48) [1, 1])] ⟨[(0, .v (.int .u64 w)), (1, .v (.int .i64 i)), (5, .v (.int .i64 k0))], []⟩ h Q
def gabionref01_bit.wp (w : Int) (i : Int) (h : Heap) (Q : Value → Heap → Prop) : Prop :=
  gabionref01_bit.L2 w i 0 h Q
def gabionref01_bit.L2.wp (w : Int) (i : Int) (k0 : Int) (h : Heap) (Q : Value → Heap → Prop) : Prop :=
  xsIf (decide (k0 < i)) (gabionref01_bit.L2 (iquo IntKind.u64 w 2) i (IntKind.i64.wrap (k0 + 1)) h Q) (Q (Value.int IntKind.u64 (irem w 2)) h)
theorem gabionref01_bit.ok {w : Int} {i : Int} {h : Heap} {Q : Value → Heap → Prop} (hk : gabionref01_bit.wp w i h Q) : C Try.prog 48 #[.int .u64 w, .int .i64 i] h Q :=
  C_of_xs (H := gabionref01_bit.H) (lcuts := gabionref01_bit.lc) (rcuts := gabionref01_bit.rc) (l := [.int .u64 w, .int .i64 i]) 2000 mixed Try.func48 rfl (by kernel_rfl) (Eq.mp (by kernel_rfl) hk)
theorem gabionref01_bit.L2.ok {w : Int} {i : Int} {k0 : Int} {h : Heap} {Q : Value → Heap → Prop} (hk : gabionref01_bit.L2.wp w i k0 h Q) : gabionref01_bit.L2 w i k0 h Q :=
  xs_ok (H := gabionref01_bit.H) (lcuts := gabionref01_bit.lc) (rcuts := gabionref01_bit.rc) (fn := Try.f48) mixed Try.func48 2000 _ _ _ (Eq.mp (by kernel_rfl) hk)

/-! gabion/gabionref01.Field -/
def gabionref01_Field.H : Hn := ⟨[], [], []⟩
def gabionref01_Field.lc : List Cut := [⟨4, [0, 1, 2, 7, 8, 9], []⟩]
def gabionref01_Field.rc : List Cut := [⟨6, [0, 1, 2, 7, 8, 9], []⟩]
def gabionref01_Field.L4 (w : Int) (at0 : Int) (width : Int) (ok : Bool) (n : Int) (i : Int) (h : Heap) (Q : Value → Heap → Prop) : Prop :=
  TW Try.prog 27 35 [.code (cAt (bodyOf Try.f27) [1, 1, 1, 0, 1, 0, 0]), .inLoop (cAt (bodyOf Try.f27) [1, 1, 1, 0, 1, 0, 0]), .inBlock 0, .code (cAt (bodyOf Try.f27) [1, 1, 1, 1])] ⟨[(0, .v (.int .u64 w)), (1, .v (.int .i64 at0)), (2, .v (.int .i64 width)), (7, .v (.bool ok)), (8, .v (.int .u64 n)), (9, .v (.int .i64 i))], []⟩ h Q
def gabionref01_Field.J6 (w : Int) (at0 : Int) (width : Int) (ok : Bool) (n : Int) (i : Int) (h : Heap) (Q : Value → Heap → Prop) : Prop :=
  TW Try.prog 27 35 [.code (cAt (bodyOf Try.f27) [1, 1, 1, 0, 1, 0, 0, 1, 0, 0, 0]), .code (cAt (bodyOf Try.f27) [1, 1, 1, 0, 1, 0, 0, 1, 0, 0, 1]), .inBlock 1, .code (cAt (bodyOf Try.f27) [1, 1, 1, 0, 1, 0, 0, 1, 1]), .inLoop (cAt (bodyOf Try.f27) [1, 1, 1, 0, 1, 0, 0]), .inBlock 0, .code (cAt (bodyOf Try.f27) [1, 1, 1, 1])] ⟨[(0, .v (.int .u64 w)), (1, .v (.int .i64 at0)), (2, .v (.int .i64 width)), (7, .v (.bool ok)), (8, .v (.int .u64 n)), (9, .v (.int .i64 i))], []⟩ h Q
def gabionref01_Field.wp (w : Int) (at0 : Int) (width : Int) (h : Heap) (Q : Value → Heap → Prop) : Prop :=
  C Try.prog 47 #[Value.int IntKind.i64 at0, Value.int IntKind.i64 width] h fun (r : Value) (h' : Heap) => ∃ (x : Bool), r = Value.bool x ∧ gabionref01_Field.L4 w at0 width x 0 0 h' Q
def gabionref01_Field.L4.wp (w : Int) (at0 : Int) (width : Int) (ok : Bool) (n : Int) (i : Int) (h : Heap) (Q : Value → Heap → Prop) : Prop :=
  xsIf ok (xsIf (decide (i < width)) (gabionref01_Field.J6 w at0 width ok n i h Q) (Q (Value.int IntKind.u64 n) h)) (Q (Value.int IntKind.u64 n) h)
def gabionref01_Field.J6.wp (w : Int) (at0 : Int) (width : Int) (ok : Bool) (n : Int) (i : Int) (h : Heap) (Q : Value → Heap → Prop) : Prop :=
  C Try.prog 48 #[Value.int IntKind.u64 w, Value.int IntKind.i64 (IntKind.i64.wrap (IntKind.i64.wrap (IntKind.i64.wrap (at0 + width) - 1) - i))] h fun (r : Value) (h' : Heap) =>
    ∃ (x : Int), r = Value.int IntKind.u64 x ∧ gabionref01_Field.L4 w at0 width ok (IntKind.u64.wrap (IntKind.u64.wrap (2 * n) + x)) (IntKind.i64.wrap (i + 1)) h' Q
theorem gabionref01_Field.ok {w : Int} {at0 : Int} {width : Int} {h : Heap} {Q : Value → Heap → Prop} (hk : gabionref01_Field.wp w at0 width h Q) : C Try.prog 27 #[.int .u64 w, .int .i64 at0, .int .i64 width] h Q :=
  C_of_xs (H := gabionref01_Field.H) (lcuts := gabionref01_Field.lc) (rcuts := gabionref01_Field.rc) (l := [.int .u64 w, .int .i64 at0, .int .i64 width]) 2000 mixed Try.func27 rfl (by kernel_rfl) (Eq.mp (by kernel_rfl) hk)
theorem gabionref01_Field.L4.ok {w : Int} {at0 : Int} {width : Int} {ok : Bool} {n : Int} {i : Int} {h : Heap} {Q : Value → Heap → Prop} (hk : gabionref01_Field.L4.wp w at0 width ok n i h Q) : gabionref01_Field.L4 w at0 width ok n i h Q :=
  xs_ok (H := gabionref01_Field.H) (lcuts := gabionref01_Field.lc) (rcuts := gabionref01_Field.rc) (fn := Try.f27) mixed Try.func27 2000 _ _ _ (Eq.mp (by kernel_rfl) hk)
theorem gabionref01_Field.J6.ok {w : Int} {at0 : Int} {width : Int} {ok : Bool} {n : Int} {i : Int} {h : Heap} {Q : Value → Heap → Prop} (hk : gabionref01_Field.J6.wp w at0 width ok n i h Q) : gabionref01_Field.J6 w at0 width ok n i h Q :=
  xs_ok (H := gabionref01_Field.H) (lcuts := gabionref01_Field.lc) (rcuts := []) (fn := Try.f27) mixed Try.func27 2000 _ _ _ (Eq.mp (by kernel_rfl) hk)

/-! gabion/gabionref01.With -/
def gabionref01_With.H : Hn := ⟨[], [], []⟩
def gabionref01_With.lc : List Cut := [⟨6, [0, 1, 2, 3, 10, 11], []⟩]
def gabionref01_With.rc : List Cut := []
def gabionref01_With.L6 (w : Int) (at0 : Int) (width : Int) (v : Int) (n : Int) (i : Int) (h : Heap) (Q : Value → Heap → Prop) : Prop :=
  TW Try.prog 29 46 [.code (cAt (bodyOf Try.f29) [1, 1, 1, 1, 0, 1, 0, 0]), .inLoop (cAt (bodyOf Try.f29) [1, 1, 1, 1, 0, 1, 0, 0]), .inBlock 0, .code (cAt (bodyOf Try.f29) [1, 1, 1, 1, 1])] ⟨[(0, .v (.int .u64 w)), (1, .v (.int .i64 at0)), (2, .v (.int .i64 width)), (3, .v (.int .u64 v)), (10, .v (.int .u64 n)), (11, .v (.int .i64 i))], []⟩ h Q
def gabionref01_With.wp (w : Int) (at0 : Int) (width : Int) (v : Int) (h : Heap) (Q : Value → Heap → Prop) : Prop :=
  C Try.prog 47 #[Value.int IntKind.i64 at0, Value.int IntKind.i64 width] h fun (r : Value) (h' : Heap) => ∃ (x : Bool), r = Value.bool x ∧ xsIf (!x) (Q (Value.int IntKind.u64 w) h') (gabionref01_With.L6 w at0 width v 0 63 h' Q)
def gabionref01_With.L6.wp (w : Int) (at0 : Int) (width : Int) (v : Int) (n : Int) (i : Int) (h : Heap) (Q : Value → Heap → Prop) : Prop :=
  xsIf (decide (0 ≤ i))
    (C Try.prog 48 #[Value.int IntKind.u64 w, Value.int IntKind.i64 i] h fun (r : Value) (h' : Heap) =>
      ∃ (x : Int),
        r = Value.int IntKind.u64 x ∧
          xsIf (decide (at0 ≤ i))
            (xsIf (decide (i < IntKind.i64.wrap (at0 + width)))
              (C Try.prog 48 #[Value.int IntKind.u64 v, Value.int IntKind.i64 (IntKind.i64.wrap (i - at0))] h' fun (r : Value) (h' : Heap) =>
                ∃ (x : Int), r = Value.int IntKind.u64 x ∧ gabionref01_With.L6 w at0 width v (IntKind.u64.wrap (IntKind.u64.wrap (2 * n) + x)) (IntKind.i64.wrap (i - 1)) h' Q)
              (gabionref01_With.L6 w at0 width v (IntKind.u64.wrap (IntKind.u64.wrap (2 * n) + x)) (IntKind.i64.wrap (i - 1)) h' Q))
            (gabionref01_With.L6 w at0 width v (IntKind.u64.wrap (IntKind.u64.wrap (2 * n) + x)) (IntKind.i64.wrap (i - 1)) h' Q))
    (Q (Value.int IntKind.u64 n) h)
theorem gabionref01_With.ok {w : Int} {at0 : Int} {width : Int} {v : Int} {h : Heap} {Q : Value → Heap → Prop} (hk : gabionref01_With.wp w at0 width v h Q) : C Try.prog 29 #[.int .u64 w, .int .i64 at0, .int .i64 width, .int .u64 v] h Q :=
  C_of_xs (H := gabionref01_With.H) (lcuts := gabionref01_With.lc) (rcuts := gabionref01_With.rc) (l := [.int .u64 w, .int .i64 at0, .int .i64 width, .int .u64 v]) 2000 mixed Try.func29 rfl (by kernel_rfl) (Eq.mp (by kernel_rfl) hk)
theorem gabionref01_With.L6.ok {w : Int} {at0 : Int} {width : Int} {v : Int} {n : Int} {i : Int} {h : Heap} {Q : Value → Heap → Prop} (hk : gabionref01_With.L6.wp w at0 width v n i h Q) : gabionref01_With.L6 w at0 width v n i h Q :=
  xs_ok (H := gabionref01_With.H) (lcuts := gabionref01_With.lc) (rcuts := gabionref01_With.rc) (fn := Try.f29) mixed Try.func29 2000 _ _ _ (Eq.mp (by kernel_rfl) hk)

/-! gabion/gabionlaw01.LeFields -/
def gabionlaw01_LeFields.H : Hn := ⟨[], [], [⟨4, [0, 1, 2, 3, 4, 6, 7, 8, 9, 10, 5, 11, 12, 13, 14, 15, 16, 17, 18, 19, 21, 22, 23, 24, 25, 26, 20, 27, 28, 29], []⟩]⟩
def gabionlaw01_LeFields.lc : List Cut := [⟨2, [0, 1, 19, 20, 21], []⟩]
def gabionlaw01_LeFields.rc : List Cut := []
def gabionlaw01_LeFields.L2 (w : Int) (v : Int) (t19 : Option Addr) (t19_n : Nat) (t19_c : Nat) (t20 : Int) (t21 : Int) (h : Heap) (Q : Value → Heap → Prop) : Prop :=
  TW Try.prog 6 57 [.code (cAt (bodyOf Try.f6) [1, 0, 1, 0, 0]), .inLoop (cAt (bodyOf Try.f6) [1, 0, 1, 0, 0]), .inBlock 0, .code (cAt (bodyOf Try.f6) [1, 1])] ⟨[(0, .v (.int .u64 w)), (1, .v (.int .u64 v)), (19, .v (.slice t19 t19_n t19_c)), (20, .v (.int .i64 t20)), (21, .v (.int .i64 t21))], []⟩ h Q
def gabionlaw01_LeFields.wp (w : Int) (v : Int) (at0_0 : Int) (at0_1 : Int) (h : Heap) (Q : Value → Heap → Prop) : Prop :=
  ∀ (b : Nat),
    h b = none →
      gabionlaw01_LeFields.L2 w v (some { block := b, off := 0 }) 2 2 (↑2 : Int) 0
        (upd h b (Obj.cells #[Value.int IntKind.i64 at0_0, Value.int IntKind.i64 at0_1, Value.int IntKind.i64 (irem (imax 0 at0_0) 66), Value.int IntKind.i64 (irem (imax 0 at0_1) 66)] 43 (0, 0))) Q
def gabionlaw01_LeFields.L2.wp (w : Int) (v : Int) (t19 : Option Addr) (t19_n : Nat) (t19_c : Nat) (t20 : Int) (t21 : Int) (h : Heap) (Q : Value → Heap → Prop) : Prop :=
  xsIf (decide (t21 < t20))
    ((0 ≤ t21 ∧ t21 < (↑t19_n : Int)) ∧
      atBase t19 fun (b o : Nat) =>
        ∃ (x : Int),
          h.cell b (o + t21.toNat * 2) = some (Value.int IntKind.i64 x) ∧
            ∃ (x_1 : Int),
              h.cell b (o + t21.toNat * 2 + 1) = some (Value.int IntKind.i64 x_1) ∧
                C Try.prog 26 #[Value.int IntKind.u64 w, Value.int IntKind.i64 x, Value.int IntKind.i64 x_1] h fun (r : Value) (h' : Heap) =>
                  ∃ (x_2 : Int),
                    r = Value.int IntKind.u64 x_2 ∧
                      C Try.prog 27 #[Value.int IntKind.u64 w, Value.int IntKind.i64 x, Value.int IntKind.i64 x_1] h' fun (r : Value) (h' : Heap) =>
                        ∃ (x_3 : Int),
                          r = Value.int IntKind.u64 x_3 ∧
                            xsIf (decide (x_2 ≠ x_3)) (Q (Value.bool false) h')
                              (C Try.prog 28 #[Value.int IntKind.u64 w, Value.int IntKind.i64 x, Value.int IntKind.i64 x_1, Value.int IntKind.u64 v] h' fun (r : Value) (h' : Heap) =>
                                ∃ (x_4 : Int),
                                  r = Value.int IntKind.u64 x_4 ∧
                                    C Try.prog 29 #[Value.int IntKind.u64 w, Value.int IntKind.i64 x, Value.int IntKind.i64 x_1, Value.int IntKind.u64 v] h' fun (r : Value) (h' : Heap) =>
                                      ∃ (x : Int), r = Value.int IntKind.u64 x ∧ xsIf (decide (x_4 ≠ x)) (Q (Value.bool false) h') (gabionlaw01_LeFields.L2 w v t19 t19_n t19_c t20 (IntKind.i64.wrap (t21 + 1)) h' Q)))
    (C Try.prog 23 #[] h fun (r : Value) (h' : Heap) => ∃ (x : Bool), r = Value.bool x ∧ Q (Value.bool x) h')
theorem gabionlaw01_LeFields.ok {w : Int} {v : Int} {at0_0 : Int} {at0_1 : Int} {h : Heap} {Q : Value → Heap → Prop} (hk : gabionlaw01_LeFields.wp w v at0_0 at0_1 h Q) : C Try.prog 6 #[.int .u64 w, .int .u64 v, .agg #[.int .i64 at0_0, .int .i64 at0_1]] h Q :=
  C_of_xs (H := gabionlaw01_LeFields.H) (lcuts := gabionlaw01_LeFields.lc) (rcuts := gabionlaw01_LeFields.rc) (l := [.int .u64 w, .int .u64 v, .agg #[.int .i64 at0_0, .int .i64 at0_1]]) 2000 mixed Try.func6 rfl (by kernel_rfl) (Eq.mp (by kernel_rfl) hk)
theorem gabionlaw01_LeFields.L2.ok {w : Int} {v : Int} {t19 : Option Addr} {t19_n : Nat} {t19_c : Nat} {t20 : Int} {t21 : Int} {h : Heap} {Q : Value → Heap → Prop} (hk : gabionlaw01_LeFields.L2.wp w v t19 t19_n t19_c t20 t21 h Q) : gabionlaw01_LeFields.L2 w v t19 t19_n t19_c t20 t21 h Q :=
  xs_ok (H := gabionlaw01_LeFields.H) (lcuts := gabionlaw01_LeFields.lc) (rcuts := gabionlaw01_LeFields.rc) (fn := Try.f6) mixed Try.func6 2000 _ _ _ (Eq.mp (by kernel_rfl) hk)

/-! gabion/gabionlaw01.LeParts -/
def gabionlaw01_LeParts.H : Hn := ⟨[], [], []⟩
def gabionlaw01_LeParts.lc : List Cut := []
def gabionlaw01_LeParts.rc : List Cut := [⟨6, [0, 7, 8, 9], []⟩]
def gabionlaw01_LeParts.J6 (w : Int) (a : Int) (n : Int) (x : Int) (h : Heap) (Q : Value → Heap → Prop) : Prop :=
  TW Try.prog 7 88 [.code (cAt (bodyOf Try.f7) [1, 1, 1, 1, 1, 0]), .code (cAt (bodyOf Try.f7) [1, 1, 1, 1, 1, 1])] ⟨[(0, .v (.int .u64 w)), (7, .v (.int .i64 a)), (8, .v (.int .i64 n)), (9, .v (.int .u64 x))], []⟩ h Q
def gabionlaw01_LeParts.wp (w : Int) (v : Int) (at0_0 : Int) (at0_1 : Int) (h : Heap) (Q : Value → Heap → Prop) : Prop :=
  IntKind.i64.wrap (64 - IntKind.i64.wrap (irem at0_0 64)) ≠ 0 ∧
    C Try.prog 28
      #[Value.int IntKind.u64 w, Value.int IntKind.i64 (IntKind.i64.wrap (irem at0_0 64)), Value.int IntKind.i64 (IntKind.i64.wrap (1 + irem (IntKind.i64.wrap at0_1) (IntKind.i64.wrap (64 - IntKind.i64.wrap (irem at0_0 64))))),
            Value.int IntKind.u64 v]
      h fun (r : Value) (h' : Heap) =>
      ∃ (x : Int),
        r = Value.int IntKind.u64 x ∧
          C Try.prog 23 #[] h' fun (r : Value) (h' : Heap) =>
            ∃ (x_1 : Bool),
              r = Value.bool x_1 ∧
                xsIf (!x_1) (Q (Value.bool false) h')
                  (C Try.prog 26
                    #[Value.int IntKind.u64 x, Value.int IntKind.i64 (IntKind.i64.wrap (irem at0_0 64)),
                          Value.int IntKind.i64 (IntKind.i64.wrap (1 + irem (IntKind.i64.wrap at0_1) (IntKind.i64.wrap (64 - IntKind.i64.wrap (irem at0_0 64)))))]
                    h' fun (r : Value) (h' : Heap) =>
                    ∃ (x_2 : Int),
                      r = Value.int IntKind.u64 x_2 ∧
                        C Try.prog 26 #[Value.int IntKind.u64 v, Value.int IntKind.i64 0, Value.int IntKind.i64 (IntKind.i64.wrap (1 + irem (IntKind.i64.wrap at0_1) (IntKind.i64.wrap (64 - IntKind.i64.wrap (irem at0_0 64)))))] h'
                          fun (r : Value) (h' : Heap) =>
                          ∃ (x_3 : Int),
                            r = Value.int IntKind.u64 x_3 ∧
                              xsIf (decide (x_2 ≠ x_3)) (Q (Value.bool false) h')
                                (C Try.prog 26
                                  #[Value.int IntKind.u64 w, Value.int IntKind.i64 (IntKind.i64.wrap (irem at0_0 64)),
                                        Value.int IntKind.i64 (IntKind.i64.wrap (1 + irem (IntKind.i64.wrap at0_1) (IntKind.i64.wrap (64 - IntKind.i64.wrap (irem at0_0 64)))))]
                                  h' fun (r : Value) (h' : Heap) =>
                                  ∃ (x_4 : Int),
                                    r = Value.int IntKind.u64 x_4 ∧
                                      C Try.prog 28
                                        #[Value.int IntKind.u64 x, Value.int IntKind.i64 (IntKind.i64.wrap (irem at0_0 64)),
                                              Value.int IntKind.i64 (IntKind.i64.wrap (1 + irem (IntKind.i64.wrap at0_1) (IntKind.i64.wrap (64 - IntKind.i64.wrap (irem at0_0 64))))), Value.int IntKind.u64 x_4]
                                        h' fun (r : Value) (h' : Heap) =>
                                        ∃ (x_5 : Int),
                                          r = Value.int IntKind.u64 x_5 ∧
                                            xsIf (decide (x_5 ≠ w)) (Q (Value.bool false) h')
                                              (gabionlaw01_LeParts.J6 w (IntKind.i64.wrap (irem at0_0 64)) (IntKind.i64.wrap (1 + irem (IntKind.i64.wrap at0_1) (IntKind.i64.wrap (64 - IntKind.i64.wrap (irem at0_0 64))))) x h' Q)))
def gabionlaw01_LeParts.J6.wp (w : Int) (a : Int) (n : Int) (x : Int) (h : Heap) (Q : Value → Heap → Prop) : Prop :=
  xsIf (decide (a = 0))
    (xsIf (decide (IntKind.i64.wrap (a + n) = 64)) (Q (Value.bool true) h)
      (C Try.prog 26 #[Value.int IntKind.u64 x, Value.int IntKind.i64 (IntKind.i64.wrap (a + n)), Value.int IntKind.i64 (IntKind.i64.wrap (IntKind.i64.wrap (64 - a) - n))] h fun (r : Value) (h' : Heap) =>
        ∃ (x : Int),
          r = Value.int IntKind.u64 x ∧
            C Try.prog 26 #[Value.int IntKind.u64 w, Value.int IntKind.i64 (IntKind.i64.wrap (a + n)), Value.int IntKind.i64 (IntKind.i64.wrap (IntKind.i64.wrap (64 - a) - n))] h' fun (r : Value) (h' : Heap) =>
              ∃ (x_1 : Int), r = Value.int IntKind.u64 x_1 ∧ Q (Value.bool (decide (x = x_1))) h'))
    (C Try.prog 26 #[Value.int IntKind.u64 x, Value.int IntKind.i64 0, Value.int IntKind.i64 a] h fun (r : Value) (h' : Heap) =>
      ∃ (x_1 : Int),
        r = Value.int IntKind.u64 x_1 ∧
          C Try.prog 26 #[Value.int IntKind.u64 w, Value.int IntKind.i64 0, Value.int IntKind.i64 a] h' fun (r : Value) (h' : Heap) =>
            ∃ (x_2 : Int),
              r = Value.int IntKind.u64 x_2 ∧
                xsIf (decide (x_1 = x_2))
                  (xsIf (decide (IntKind.i64.wrap (a + n) = 64)) (Q (Value.bool true) h')
                    (C Try.prog 26 #[Value.int IntKind.u64 x, Value.int IntKind.i64 (IntKind.i64.wrap (a + n)), Value.int IntKind.i64 (IntKind.i64.wrap (IntKind.i64.wrap (64 - a) - n))] h' fun (r : Value) (h' : Heap) =>
                      ∃ (x : Int),
                        r = Value.int IntKind.u64 x ∧
                          C Try.prog 26 #[Value.int IntKind.u64 w, Value.int IntKind.i64 (IntKind.i64.wrap (a + n)), Value.int IntKind.i64 (IntKind.i64.wrap (IntKind.i64.wrap (64 - a) - n))] h' fun (r : Value) (h' : Heap) =>
                            ∃ (x_3 : Int), r = Value.int IntKind.u64 x_3 ∧ Q (Value.bool (decide (x = x_3))) h'))
                  (Q (Value.bool false) h'))
theorem gabionlaw01_LeParts.ok {w : Int} {v : Int} {at0_0 : Int} {at0_1 : Int} {h : Heap} {Q : Value → Heap → Prop} (hk : gabionlaw01_LeParts.wp w v at0_0 at0_1 h Q) : C Try.prog 7 #[.int .u64 w, .int .u64 v, .agg #[.int .u8 at0_0, .int .u8 at0_1]] h Q :=
  C_of_xs (H := gabionlaw01_LeParts.H) (lcuts := gabionlaw01_LeParts.lc) (rcuts := gabionlaw01_LeParts.rc) (l := [.int .u64 w, .int .u64 v, .agg #[.int .u8 at0_0, .int .u8 at0_1]]) 2000 mixed Try.func7 rfl (by kernel_rfl) (Eq.mp (by kernel_rfl) hk)
theorem gabionlaw01_LeParts.J6.ok {w : Int} {a : Int} {n : Int} {x : Int} {h : Heap} {Q : Value → Heap → Prop} (hk : gabionlaw01_LeParts.J6.wp w a n x h Q) : gabionlaw01_LeParts.J6 w a n x h Q :=
  xs_ok (H := gabionlaw01_LeParts.H) (lcuts := gabionlaw01_LeParts.lc) (rcuts := []) (fn := Try.f7) mixed Try.func7 2000 _ _ _ (Eq.mp (by kernel_rfl) hk)

/-! gabion/gabionlaw01.LeJoins -/
def gabionlaw01_LeJoins.H : Hn := ⟨[], [], []⟩
def gabionlaw01_LeJoins.lc : List Cut := []
def gabionlaw01_LeJoins.rc : List Cut := []
def gabionlaw01_LeJoins.wp (n : Int) (at0 : Int) (more : ByteArray) (h : Heap) (Q : Value → Heap → Prop) : Prop :=
  C Try.prog 26 #[Value.int IntKind.u64 n, Value.int IntKind.i64 0, Value.int IntKind.i64 (IntKind.i64.wrap (8 * IntKind.i64.wrap (1 + IntKind.i64.wrap (irem at0 7))))] h fun (r : Value) (h' : Heap) =>
    ∃ (x : Int),
      r = Value.int IntKind.u64 x ∧
        C Try.prog 26
          #[Value.int IntKind.u64 n, Value.int IntKind.i64 (IntKind.i64.wrap (8 * IntKind.i64.wrap (1 + IntKind.i64.wrap (irem at0 7)))),
                Value.int IntKind.i64 (IntKind.i64.wrap (64 - IntKind.i64.wrap (8 * IntKind.i64.wrap (1 + IntKind.i64.wrap (irem at0 7)))))]
          h' fun (r : Value) (h' : Heap) =>
          ∃ (x_1 : Int),
            r = Value.int IntKind.u64 x_1 ∧
              C Try.prog 21 #[Value.int IntKind.u64 x, Value.int IntKind.i64 (IntKind.i64.wrap (1 + IntKind.i64.wrap (irem at0 7)))] h' fun (r : Value) (h' : Heap) =>
                ∃ (x_2 : ByteArray),
                  r = Value.string x_2 ∧
                    C Try.prog 21 #[Value.int IntKind.u64 x_1, Value.int IntKind.i64 (IntKind.i64.wrap (8 - IntKind.i64.wrap (1 + IntKind.i64.wrap (irem at0 7))))] h' fun (r : Value) (h' : Heap) =>
                      ∃ (x_3 : ByteArray),
                        r = Value.string x_3 ∧
                          (↑(x_2.size + x_3.size) : Int) ≤ 9223372036854775807 ∧
                            C Try.prog 23 #[] h' fun (r : Value) (h' : Heap) =>
                              ∃ (x_4 : Bool),
                                r = Value.bool x_4 ∧
                                  xsIf x_4
                                    (C Try.prog 21 #[Value.int IntKind.u64 n, Value.int IntKind.i64 8] h' fun (r : Value) (h' : Heap) =>
                                      ∃ (x_5 : ByteArray),
                                        r = Value.string x_5 ∧
                                          xsIf (decide (x_2 ++ x_3 = x_5))
                                            ((↑((x_2 ++ x_3).size + more.size) : Int) ≤ 9223372036854775807 ∧
                                              C Try.prog 24 #[Value.string (x_2 ++ x_3 ++ more)] h' fun (r : Value) (h' : Heap) =>
                                                ∃ (x_6 : Int),
                                                  r = Value.int IntKind.u64 x_6 ∧
                                                    xsIf (decide (x_6 = n))
                                                      ((0 ≤ IntKind.i64.wrap (1 + IntKind.i64.wrap (irem at0 7)) ∧ IntKind.i64.wrap (1 + IntKind.i64.wrap (irem at0 7)) ≤ (↑(x_2 ++ x_3).size : Int)) ∧
                                                        C Try.prog 24 #[Value.string (sext (x_2 ++ x_3) 0 (IntKind.i64.wrap (1 + IntKind.i64.wrap (irem at0 7))))] h' fun (r : Value) (h' : Heap) =>
                                                          ∃ (x_7 : Int),
                                                            r = Value.int IntKind.u64 x_7 ∧
                                                              xsIf (decide (x_7 = x))
                                                                ((0 ≤ IntKind.i64.wrap (1 + IntKind.i64.wrap (irem at0 7)) ∧ IntKind.i64.wrap (1 + IntKind.i64.wrap (irem at0 7)) ≤ (↑(x_2 ++ x_3).size : Int)) ∧
                                                                  C Try.prog 24 #[Value.string (sext (x_2 ++ x_3) (IntKind.i64.wrap (1 + IntKind.i64.wrap (irem at0 7))) (↑(x_2 ++ x_3).size : Int))] h'
                                                                    fun (r : Value) (h' : Heap) => ∃ (x : Int), r = Value.int IntKind.u64 x ∧ Q (Value.bool (decide (x = x_1))) h')
                                                                (Q (Value.bool false) h'))
                                                      (Q (Value.bool false) h'))
                                            (Q (Value.bool false) h'))
                                    (Q (Value.bool false) h')
theorem gabionlaw01_LeJoins.ok {n : Int} {at0 : Int} {more : ByteArray} {h : Heap} {Q : Value → Heap → Prop} (hk : gabionlaw01_LeJoins.wp n at0 more h Q) : C Try.prog 8 #[.int .u64 n, .int .u8 at0, .string more] h Q :=
  C_of_xs (H := gabionlaw01_LeJoins.H) (lcuts := gabionlaw01_LeJoins.lc) (rcuts := gabionlaw01_LeJoins.rc) (l := [.int .u64 n, .int .u8 at0, .string more]) 2000 mixed Try.func8 rfl (by kernel_rfl) (Eq.mp (by kernel_rfl) hk)

/-! gabion/gabionref06.Slots -/
def gabionref06_Slots.H : Hn := ⟨[], [], []⟩
def gabionref06_Slots.lc : List Cut := [⟨4, [0, 1, 2, 7, 8], []⟩]
def gabionref06_Slots.rc : List Cut := []
def gabionref06_Slots.L4 (start : Int) (gap : Int) (n : Int) (out : Option Addr) (out_n : Nat) (out_c : Nat) (i : Int) (h : Heap) (Q : Value → Heap → Prop) : Prop :=
  TW Try.prog 30 36 [.code (cAt (bodyOf Try.f30) [1, 1, 1, 0, 1, 0, 0]), .inLoop (cAt (bodyOf Try.f30) [1, 1, 1, 0, 1, 0, 0]), .inBlock 0, .code (cAt (bodyOf Try.f30) [1, 1, 1, 1])] ⟨[(0, .v (.int .i64 start)), (1, .v (.int .i64 gap)), (2, .v (.int .i64 n)), (7, .v (.slice out out_n out_c)), (8, .v (.int .i64 i))], []⟩ h Q
def gabionref06_Slots.wp (start : Int) (gap : Int) (n : Int) (h : Heap) (Q : Value → Heap → Prop) : Prop :=
  xsMk Try.prog 3 h (IntKind.i64.wrap (n + 1)) (IntKind.i64.wrap (n + 1)) fun (a : Option Addr) (n' c' : Nat) (h' : Heap) =>
    (0 ≤ gap ∧ gap < (↑n' : Int)) ∧ atBase a fun (b o : Nat) => h'.can b (o + gap.toNat * 1) 1 ∧ gabionref06_Slots.L4 start gap n a n' c' 0 (h'.put b (o + gap.toNat * 1) [Value.int IntKind.i64 (-1)]) Q
def gabionref06_Slots.L4.wp (start : Int) (gap : Int) (n : Int) (out : Option Addr) (out_n : Nat) (out_c : Nat) (i : Int) (h : Heap) (Q : Value → Heap → Prop) : Prop :=
  xsIf (decide (i < n))
    (n ≠ 0 ∧
      xsIf (decide (gap ≤ irem (IntKind.i64.wrap (i + start)) n))
        ((0 ≤ IntKind.i64.wrap (irem (IntKind.i64.wrap (i + start)) n + 1) ∧ IntKind.i64.wrap (irem (IntKind.i64.wrap (i + start)) n + 1) < (↑out_n : Int)) ∧
          atBase out fun (b o : Nat) =>
            h.can b (o + (IntKind.i64.wrap (irem (IntKind.i64.wrap (i + start)) n + 1)).toNat * 1) 1 ∧
              gabionref06_Slots.L4 start gap n out out_n out_c (IntKind.i64.wrap (i + 1)) (h.put b (o + (IntKind.i64.wrap (irem (IntKind.i64.wrap (i + start)) n + 1)).toNat * 1) [Value.int IntKind.i64 i]) Q)
        ((0 ≤ irem (IntKind.i64.wrap (i + start)) n ∧ irem (IntKind.i64.wrap (i + start)) n < (↑out_n : Int)) ∧
          atBase out fun (b o : Nat) =>
            h.can b (o + (irem (IntKind.i64.wrap (i + start)) n).toNat * 1) 1 ∧
              gabionref06_Slots.L4 start gap n out out_n out_c (IntKind.i64.wrap (i + 1)) (h.put b (o + (irem (IntKind.i64.wrap (i + start)) n).toNat * 1) [Value.int IntKind.i64 i]) Q))
    (Q (Value.slice out out_n out_c) h)
theorem gabionref06_Slots.ok {start : Int} {gap : Int} {n : Int} {h : Heap} {Q : Value → Heap → Prop} (hk : gabionref06_Slots.wp start gap n h Q) : C Try.prog 30 #[.int .i64 start, .int .i64 gap, .int .i64 n] h Q :=
  C_of_xs (H := gabionref06_Slots.H) (lcuts := gabionref06_Slots.lc) (rcuts := gabionref06_Slots.rc) (l := [.int .i64 start, .int .i64 gap, .int .i64 n]) 2000 mixed Try.func30 rfl (by kernel_rfl) (Eq.mp (by kernel_rfl) hk)
theorem gabionref06_Slots.L4.ok {start : Int} {gap : Int} {n : Int} {out : Option Addr} {out_n : Nat} {out_c : Nat} {i : Int} {h : Heap} {Q : Value → Heap → Prop} (hk : gabionref06_Slots.L4.wp start gap n out out_n out_c i h Q) : gabionref06_Slots.L4 start gap n out out_n out_c i h Q :=
  xs_ok (H := gabionref06_Slots.H) (lcuts := gabionref06_Slots.lc) (rcuts := gabionref06_Slots.rc) (fn := Try.f30) mixed Try.func30 2000 _ _ _ (Eq.mp (by kernel_rfl) hk)

/-! (gabion/gap.State).Line -/
def gap_State_Line.H : Hn := ⟨[], [], []⟩
def gap_State_Line.lc : List Cut := []
def gap_State_Line.rc : List Cut := [⟨3, [1, 2, 3], [3]⟩]
def gap_State_Line.J3 (n : Int) (slot : Int) (s_3_0 : Int) (s_3_1 : Int) (s_3_2 : Int) (h : Heap) (Q : Value → Heap → Prop) : Prop :=
  TW Try.prog 31 40 [.code (cAt (bodyOf Try.f31) [1, 1, 0, 0]), .code (cAt (bodyOf Try.f31) [1, 1, 0, 1]), .code (cAt (bodyOf Try.f31) [1, 1, 1])] ⟨[(1, .v (.int .i64 n)), (2, .v (.int .i64 slot)), (3, .p 3 0)], [(3, [.int .i64 s_3_0, .int .i64 s_3_1, .int .u32 s_3_2])]⟩ h Q
def gap_State_Line.wp (s_0 : Int) (s_1 : Int) (s_2 : Int) (n : Int) (slot : Int) (h : Heap) (Q : Value → Heap → Prop) : Prop :=
  C Try.prog 33 #[Value.agg #[Value.int IntKind.i64 s_0, Value.int IntKind.i64 s_1, Value.int IntKind.u32 s_2], Value.int IntKind.i64 n] h fun (r : Value) (h' : Heap) =>
    ∃ (x : Bool),
      r = Value.bool x ∧
        xsIf (!x) (Q (Value.int IntKind.i64 (-1)) h')
          (xsIf (decide (slot < 0)) (Q (Value.int IntKind.i64 (-1)) h')
            (xsIf (decide (n < slot)) (Q (Value.int IntKind.i64 (-1)) h') (xsIf (decide (slot = s_1)) (Q (Value.int IntKind.i64 (-1)) h') (gap_State_Line.J3 n slot s_0 s_1 s_2 h' Q))))
def gap_State_Line.J3.wp (n : Int) (slot : Int) (s_3_0 : Int) (s_3_1 : Int) (s_3_2 : Int) (h : Heap) (Q : Value → Heap → Prop) : Prop :=
  xsIf (decide (s_3_1 < slot)) (n ≠ 0 ∧ Q (Value.int IntKind.i64 (irem (IntKind.i64.wrap (IntKind.i64.wrap (IntKind.i64.wrap (slot - 1) - s_3_0) + n)) n)) h)
    (n ≠ 0 ∧ Q (Value.int IntKind.i64 (irem (IntKind.i64.wrap (IntKind.i64.wrap (slot - s_3_0) + n)) n)) h)
theorem gap_State_Line.ok {s_0 : Int} {s_1 : Int} {s_2 : Int} {n : Int} {slot : Int} {h : Heap} {Q : Value → Heap → Prop} (hk : gap_State_Line.wp s_0 s_1 s_2 n slot h Q) : C Try.prog 31 #[.agg #[.int .i64 s_0, .int .i64 s_1, .int .u32 s_2], .int .i64 n, .int .i64 slot] h Q :=
  C_of_xs (H := gap_State_Line.H) (lcuts := gap_State_Line.lc) (rcuts := gap_State_Line.rc) (l := [.agg #[.int .i64 s_0, .int .i64 s_1, .int .u32 s_2], .int .i64 n, .int .i64 slot]) 2000 mixed Try.func31 rfl (by kernel_rfl) (Eq.mp (by kernel_rfl) hk)
theorem gap_State_Line.J3.ok {n : Int} {slot : Int} {s_3_0 : Int} {s_3_1 : Int} {s_3_2 : Int} {h : Heap} {Q : Value → Heap → Prop} (hk : gap_State_Line.J3.wp n slot s_3_0 s_3_1 s_3_2 h Q) : gap_State_Line.J3 n slot s_3_0 s_3_1 s_3_2 h Q :=
  xs_ok (H := gap_State_Line.H) (lcuts := gap_State_Line.lc) (rcuts := []) (fn := Try.f31) mixed Try.func31 2000 _ _ _ (Eq.mp (by kernel_rfl) hk)

/-! gabion/gabionlaw06.GapSlots -/
def gabionlaw06_GapSlots.H : Hn := ⟨[], [], []⟩
def gabionlaw06_GapSlots.lc : List Cut := [⟨4, [1, 2, 5, 6, 24, 25, 26], [2, 6]⟩]
def gabionlaw06_GapSlots.rc : List Cut := [⟨9, [1, 2, 5, 6], [2, 6]⟩, ⟨11, [1, 2], [2]⟩, ⟨15, [2], [2]⟩]
def gabionlaw06_GapSlots.L4 (i : Int) (n : Int) (t24 : Option Addr) (t24_n : Nat) (t24_c : Nat) (t25 : Int) (t26 : Int) (x_2_0 : Int) (x_2_1 : Int) (x_2_2 : Int) (s_0 : Int) (s_1 : Int) (s_2 : Int) (h : Heap) (Q : Value → Heap → Prop) : Prop :=
  TW Try.prog 9 138 [.code (cAt (bodyOf Try.f9) [1, 1, 1, 0, 1, 0, 0]), .inLoop (cAt (bodyOf Try.f9) [1, 1, 1, 0, 1, 0, 0]), .inBlock 0, .code (cAt (bodyOf Try.f9) [1, 1, 1, 1])] ⟨[(1, .v (.int .i64 i)), (2, .p 2 0), (5, .v (.int .i64 n)), (6, .p 6 0), (24, .v (.slice t24 t24_n t24_c)), (25, .v (.int .i64 t25)), (26, .v (.int .i64 t26))], [(2, [.int .i64 x_2_0, .int .i64 x_2_1, .int .i64 x_2_2]), (6, [.int .i64 s_0, .int .i64 s_1, .int .u32 s_2])]⟩ h Q
def gabionlaw06_GapSlots.J9 (i : Int) (n : Int) (x_2_0 : Int) (x_2_1 : Int) (x_2_2 : Int) (s_0 : Int) (s_1 : Int) (s_2 : Int) (h : Heap) (Q : Value → Heap → Prop) : Prop :=
  TW Try.prog 9 138 [.code (cAt (bodyOf Try.f9) [1, 1, 1, 1, 0, 0]), .code (cAt (bodyOf Try.f9) [1, 1, 1, 1, 0, 1]), .code (cAt (bodyOf Try.f9) [1, 1, 1, 1, 1])] ⟨[(1, .v (.int .i64 i)), (2, .p 2 0), (5, .v (.int .i64 n)), (6, .p 6 0)], [(2, [.int .i64 x_2_0, .int .i64 x_2_1, .int .i64 x_2_2]), (6, [.int .i64 s_0, .int .i64 s_1, .int .u32 s_2])]⟩ h Q
def gabionlaw06_GapSlots.J11 (i : Int) (x_2_0 : Int) (x_2_1 : Int) (x_2_2 : Int) (h : Heap) (Q : Value → Heap → Prop) : Prop :=
  TW Try.prog 9 138 [.code (cAt (bodyOf Try.f9) [1, 1, 1, 1, 1, 0]), .code (cAt (bodyOf Try.f9) [1, 1, 1, 1, 1, 1])] ⟨[(1, .v (.int .i64 i)), (2, .p 2 0)], [(2, [.int .i64 x_2_0, .int .i64 x_2_1, .int .i64 x_2_2])]⟩ h Q
def gabionlaw06_GapSlots.J15 (x_2_0 : Int) (x_2_1 : Int) (x_2_2 : Int) (h : Heap) (Q : Value → Heap → Prop) : Prop :=
  TW Try.prog 9 138 [.code (cAt (bodyOf Try.f9) [1, 1, 1, 1, 1, 1, 1, 1, 0]), .code (cAt (bodyOf Try.f9) [1, 1, 1, 1, 1, 1, 1, 1, 1])] ⟨[(2, .p 2 0)], [(2, [.int .i64 x_2_0, .int .i64 x_2_1, .int .i64 x_2_2])]⟩ h Q
def gabionlaw06_GapSlots.wp (x_0 : Int) (x_1 : Int) (x_2 : Int) (i : Int) (h : Heap) (Q : Value → Heap → Prop) : Prop :=
  C Try.prog 15 #[Value.agg #[Value.int IntKind.i64 x_0, Value.int IntKind.i64 x_1, Value.int IntKind.i64 x_2]] h fun (r : Value) (h' : Heap) =>
    ∃ (x : Int),
      ∃ (x_3 : Int),
        ∃ (x_4 : Int),
          ∃ (x_5 : Int),
            r = Value.tuple #[Value.int IntKind.i64 x, Value.agg #[Value.int IntKind.i64 x_3, Value.int IntKind.i64 x_4, Value.int IntKind.u32 x_5]] ∧
              C Try.prog 30 #[Value.int IntKind.i64 x_3, Value.int IntKind.i64 x_4, Value.int IntKind.i64 x] h' fun (r : Value) (h' : Heap) =>
                ∃ (x_6 : Option Addr), ∃ (n : Nat), ∃ (m : Nat), r = Value.slice x_6 n m ∧ gabionlaw06_GapSlots.L4 i x x_6 n m (↑n : Int) 0 x_0 x_1 x_2 x_3 x_4 x_5 h' Q
def gabionlaw06_GapSlots.L4.wp (i : Int) (n : Int) (t24 : Option Addr) (t24_n : Nat) (t24_c : Nat) (t25 : Int) (t26 : Int) (x_2_0 : Int) (x_2_1 : Int) (x_2_2 : Int) (s_0 : Int) (s_1 : Int) (s_2 : Int) (h : Heap) (Q : Value → Heap → Prop) : Prop :=
  xsIf (decide (t26 < t25))
    ((0 ≤ t26 ∧ t26 < (↑t24_n : Int)) ∧
      atBase t24 fun (b o : Nat) =>
        ∃ (x : Int),
          h.cell b (o + t26.toNat * 1) = some (Value.int IntKind.i64 x) ∧
            C Try.prog 31 #[Value.agg #[Value.int IntKind.i64 s_0, Value.int IntKind.i64 s_1, Value.int IntKind.u32 s_2], Value.int IntKind.i64 n, Value.int IntKind.i64 t26] h fun (r : Value) (h' : Heap) =>
              ∃ (x_1 : Int),
                r = Value.int IntKind.i64 x_1 ∧
                  xsIf (decide (x_1 ≠ x)) (Q (Value.bool false) h')
                    (xsIf (decide (0 ≤ x))
                      (C Try.prog 32 #[Value.agg #[Value.int IntKind.i64 s_0, Value.int IntKind.i64 s_1, Value.int IntKind.u32 s_2], Value.int IntKind.i64 n, Value.int IntKind.i64 x] h' fun (r : Value) (h' : Heap) =>
                        ∃ (x : Int), r = Value.int IntKind.i64 x ∧ xsIf (decide (x ≠ t26)) (Q (Value.bool false) h') (gabionlaw06_GapSlots.L4 i n t24 t24_n t24_c t25 (IntKind.i64.wrap (t26 + 1)) x_2_0 x_2_1 x_2_2 s_0 s_1 s_2 h' Q))
                      (gabionlaw06_GapSlots.L4 i n t24 t24_n t24_c t25 (IntKind.i64.wrap (t26 + 1)) x_2_0 x_2_1 x_2_2 s_0 s_1 s_2 h' Q)))
    (gabionlaw06_GapSlots.J9 i n x_2_0 x_2_1 x_2_2 s_0 s_1 s_2 h Q)
def gabionlaw06_GapSlots.J9.wp (i : Int) (n : Int) (x_2_0 : Int) (x_2_1 : Int) (x_2_2 : Int) (s_0 : Int) (s_1 : Int) (s_2 : Int) (h : Heap) (Q : Value → Heap → Prop) : Prop :=
  C Try.prog 32 #[Value.agg #[Value.int IntKind.i64 s_0, Value.int IntKind.i64 s_1, Value.int IntKind.u32 s_2], Value.int IntKind.i64 n, Value.int IntKind.i64 n] h fun (r : Value) (h' : Heap) =>
    ∃ (x : Int),
      r = Value.int IntKind.i64 x ∧
        xsIf (decide (x ≠ -1)) (Q (Value.bool false) h')
          (C Try.prog 32 #[Value.agg #[Value.int IntKind.i64 s_0, Value.int IntKind.i64 s_1, Value.int IntKind.u32 s_2], Value.int IntKind.i64 n, Value.int IntKind.i64 (-1)] h' fun (r : Value) (h' : Heap) =>
            ∃ (x : Int),
              r = Value.int IntKind.i64 x ∧
                xsIf (decide (x ≠ -1)) (Q (Value.bool false) h')
                  (C Try.prog 31 #[Value.agg #[Value.int IntKind.i64 s_0, Value.int IntKind.i64 s_1, Value.int IntKind.u32 s_2], Value.int IntKind.i64 n, Value.int IntKind.i64 (IntKind.i64.wrap (n + 1))] h'
                    fun (r : Value) (h' : Heap) =>
                    ∃ (x : Int),
                      r = Value.int IntKind.i64 x ∧
                        xsIf (decide (x ≠ -1)) (Q (Value.bool false) h')
                          (C Try.prog 31 #[Value.agg #[Value.int IntKind.i64 s_0, Value.int IntKind.i64 s_1, Value.int IntKind.u32 s_2], Value.int IntKind.i64 n, Value.int IntKind.i64 (-1)] h'
                            fun (r : Value) (h' : Heap) => ∃ (x : Int), r = Value.int IntKind.i64 x ∧ xsIf (decide (x ≠ -1)) (Q (Value.bool false) h') (gabionlaw06_GapSlots.J11 i x_2_0 x_2_1 x_2_2 h' Q))))
def gabionlaw06_GapSlots.J11.wp (i : Int) (x_2_0 : Int) (x_2_1 : Int) (x_2_2 : Int) (h : Heap) (Q : Value → Heap → Prop) : Prop :=
  C Try.prog 18 #[Value.int IntKind.i64 x_2_1, Value.int IntKind.i64 x_2_2, Value.int IntKind.i64 x_2_0] h fun (r : Value) (h' : Heap) =>
    ∃ (x : Bool),
      r = Value.bool x ∧
        C Try.prog 33 #[Value.agg #[Value.int IntKind.i64 x_2_1, Value.int IntKind.i64 x_2_2, Value.int IntKind.u32 0], Value.int IntKind.i64 x_2_0] h' fun (r : Value) (h' : Heap) =>
          ∃ (x_1 : Bool),
            r = Value.bool x_1 ∧
              xsIf (!x_1 == x) (Q (Value.bool false) h')
                (xsIf (!x)
                  (C Try.prog 32 #[Value.agg #[Value.int IntKind.i64 x_2_1, Value.int IntKind.i64 x_2_2, Value.int IntKind.u32 0], Value.int IntKind.i64 x_2_0, Value.int IntKind.i64 i] h'
                    fun (r : Value) (h' : Heap) =>
                    ∃ (x : Int),
                      r = Value.int IntKind.i64 x ∧
                        xsIf (decide (x ≠ -1)) (Q (Value.bool false) h')
                          (C Try.prog 31 #[Value.agg #[Value.int IntKind.i64 x_2_1, Value.int IntKind.i64 x_2_2, Value.int IntKind.u32 0], Value.int IntKind.i64 x_2_0, Value.int IntKind.i64 i] h'
                            fun (r : Value) (h' : Heap) => ∃ (x : Int), r = Value.int IntKind.i64 x ∧ xsIf (decide (x ≠ -1)) (Q (Value.bool false) h') (gabionlaw06_GapSlots.J15 x_2_0 x_2_1 x_2_2 h' Q)))
                  (gabionlaw06_GapSlots.J15 x_2_0 x_2_1 x_2_2 h' Q))
def gabionlaw06_GapSlots.J15.wp (x_2_0 : Int) (x_2_1 : Int) (x_2_2 : Int) (h : Heap) (Q : Value → Heap → Prop) : Prop :=
  C Try.prog 20 #[Value.int IntKind.i64 x_2_0] h fun (r : Value) (h' : Heap) =>
    ∃ (x : Int),
      ∃ (x_1 : Int),
        ∃ (x_2 : Int),
          r = Value.agg #[Value.int IntKind.i64 x, Value.int IntKind.i64 x_1, Value.int IntKind.u32 x_2] ∧
            xsIf (decide (1 ≤ x_2_0))
              (xsIf (decide (x_2_0 ≤ 1024))
                (C Try.prog 19 #[] h' fun (r : Value) (h' : Heap) =>
                  ∃ (x_3 : Bool), r = Value.bool x_3 ∧ xsIf x_3 (Q (Value.bool (decide (x = 0) && (decide (x_1 = x_2_0) && (decide (x_2 = 0) && true)))) h') (Q (Value.bool false) h'))
                (C Try.prog 19 #[] h' fun (r : Value) (h' : Heap) =>
                  ∃ (x_3 : Bool), r = Value.bool x_3 ∧ xsIf x_3 (Q (Value.bool (decide (x = 0) && (decide (x_1 = 0) && (decide (x_2 = 0) && true)))) h') (Q (Value.bool false) h')))
              (C Try.prog 19 #[] h' fun (r : Value) (h' : Heap) => ∃ (x_3 : Bool), r = Value.bool x_3 ∧ xsIf x_3 (Q (Value.bool (decide (x = 0) && (decide (x_1 = 0) && (decide (x_2 = 0) && true)))) h') (Q (Value.bool false) h'))
theorem gabionlaw06_GapSlots.ok {x_0 : Int} {x_1 : Int} {x_2 : Int} {i : Int} {h : Heap} {Q : Value → Heap → Prop} (hk : gabionlaw06_GapSlots.wp x_0 x_1 x_2 i h Q) : C Try.prog 9 #[.agg #[.int .i64 x_0, .int .i64 x_1, .int .i64 x_2], .int .i64 i] h Q :=
  C_of_xs (H := gabionlaw06_GapSlots.H) (lcuts := gabionlaw06_GapSlots.lc) (rcuts := gabionlaw06_GapSlots.rc) (l := [.agg #[.int .i64 x_0, .int .i64 x_1, .int .i64 x_2], .int .i64 i]) 2000 mixed Try.func9 rfl (by kernel_rfl) (Eq.mp (by kernel_rfl) hk)
theorem gabionlaw06_GapSlots.L4.ok {i : Int} {n : Int} {t24 : Option Addr} {t24_n : Nat} {t24_c : Nat} {t25 : Int} {t26 : Int} {x_2_0 : Int} {x_2_1 : Int} {x_2_2 : Int} {s_0 : Int} {s_1 : Int} {s_2 : Int} {h : Heap} {Q : Value → Heap → Prop} (hk : gabionlaw06_GapSlots.L4.wp i n t24 t24_n t24_c t25 t26 x_2_0 x_2_1 x_2_2 s_0 s_1 s_2 h Q) : gabionlaw06_GapSlots.L4 i n t24 t24_n t24_c t25 t26 x_2_0 x_2_1 x_2_2 s_0 s_1 s_2 h Q :=
  xs_ok (H := gabionlaw06_GapSlots.H) (lcuts := gabionlaw06_GapSlots.lc) (rcuts := gabionlaw06_GapSlots.rc) (fn := Try.f9) mixed Try.func9 2000 _ _ _ (Eq.mp (by kernel_rfl) hk)
theorem gabionlaw06_GapSlots.J9.ok {i : Int} {n : Int} {x_2_0 : Int} {x_2_1 : Int} {x_2_2 : Int} {s_0 : Int} {s_1 : Int} {s_2 : Int} {h : Heap} {Q : Value → Heap → Prop} (hk : gabionlaw06_GapSlots.J9.wp i n x_2_0 x_2_1 x_2_2 s_0 s_1 s_2 h Q) : gabionlaw06_GapSlots.J9 i n x_2_0 x_2_1 x_2_2 s_0 s_1 s_2 h Q :=
  xs_ok (H := gabionlaw06_GapSlots.H) (lcuts := gabionlaw06_GapSlots.lc) (rcuts := [⟨11, [1, 2], [2]⟩, ⟨15, [2], [2]⟩]) (fn := Try.f9) mixed Try.func9 2000 _ _ _ (Eq.mp (by kernel_rfl) hk)
theorem gabionlaw06_GapSlots.J11.ok {i : Int} {x_2_0 : Int} {x_2_1 : Int} {x_2_2 : Int} {h : Heap} {Q : Value → Heap → Prop} (hk : gabionlaw06_GapSlots.J11.wp i x_2_0 x_2_1 x_2_2 h Q) : gabionlaw06_GapSlots.J11 i x_2_0 x_2_1 x_2_2 h Q :=
  xs_ok (H := gabionlaw06_GapSlots.H) (lcuts := gabionlaw06_GapSlots.lc) (rcuts := [⟨9, [1, 2, 5, 6], [2, 6]⟩, ⟨15, [2], [2]⟩]) (fn := Try.f9) mixed Try.func9 2000 _ _ _ (Eq.mp (by kernel_rfl) hk)
theorem gabionlaw06_GapSlots.J15.ok {x_2_0 : Int} {x_2_1 : Int} {x_2_2 : Int} {h : Heap} {Q : Value → Heap → Prop} (hk : gabionlaw06_GapSlots.J15.wp x_2_0 x_2_1 x_2_2 h Q) : gabionlaw06_GapSlots.J15 x_2_0 x_2_1 x_2_2 h Q :=
  xs_ok (H := gabionlaw06_GapSlots.H) (lcuts := gabionlaw06_GapSlots.lc) (rcuts := [⟨9, [1, 2, 5, 6], [2, 6]⟩, ⟨11, [1, 2], [2]⟩]) (fn := Try.f9) mixed Try.func9 2000 _ _ _ (Eq.mp (by kernel_rfl) hk)

/-! gabion/gabionlaw06.GapTurns -/
def gabionlaw06_GapTurns.H : Hn := ⟨[], [], [⟨24, [0, 1, 2, 3, 4, 5, 6, 7, 8, 9, 10, 11, 12, 13, 14, 15, 16, 17, 18, 19], []⟩]⟩
def gabionlaw06_GapTurns.lc : List Cut := [⟨4, [1, 5, 6, 7, 25, 26], [6]⟩, ⟨10, [5, 6, 7, 9, 44, 45], [6, 9]⟩, ⟨18, [5, 6, 7, 9, 10, 44, 45, 94, 95], [6, 9]⟩]
def gabionlaw06_GapTurns.rc : List Cut := [⟨8, [1, 5, 6, 7], [6]⟩, ⟨15, [5, 6, 7, 9, 10, 11, 12, 13, 44, 45], [6, 9, 11]⟩, ⟨24, [5, 6, 7, 9, 10, 44, 45], [6, 9]⟩]
def gabionlaw06_GapTurns.L4 (rounds : Int) (n : Int) (slots : Option Addr) (slots_n : Nat) (slots_c : Nat) (t25 : Int) (t26 : Int) (s_0 : Int) (s_1 : Int) (s_2 : Int) (h : Heap) (Q : Value → Heap → Prop) : Prop :=
  TW Try.prog 10 140 [.code (cAt (bodyOf Try.f10) [1, 1, 1, 0, 1, 0, 0]), .inLoop (cAt (bodyOf Try.f10) [1, 1, 1, 0, 1, 0, 0]), .inBlock 0, .code (cAt (bodyOf Try.f10) [1, 1, 1, 1])] ⟨[(1, .v (.int .u8 rounds)), (5, .v (.int .i64 n)), (6, .p 6 0), (7, .v (.slice slots slots_n slots_c)), (25, .v (.int .i64 t25)), (26, .v (.int .i64 t26))], [(6, [.int .i64 s_0, .int .i64 s_1, .int .u32 s_2])]⟩ h Q
def gabionlaw06_GapTurns.J8 (rounds : Int) (n : Int) (slots : Option Addr) (slots_n : Nat) (slots_c : Nat) (s_0 : Int) (s_1 : Int) (s_2 : Int) (h : Heap) (Q : Value → Heap → Prop) : Prop :=
  TW Try.prog 10 140 [.code (cAt (bodyOf Try.f10) [1, 1, 1, 1, 0]), .code (cAt (bodyOf Try.f10) [1, 1, 1, 1, 1])] ⟨[(1, .v (.int .u8 rounds)), (5, .v (.int .i64 n)), (6, .p 6 0), (7, .v (.slice slots slots_n slots_c))], [(6, [.int .i64 s_0, .int .i64 s_1, .int .u32 s_2])]⟩ h Q
def gabionlaw06_GapTurns.L10 (n : Int) (slots : Option Addr) (slots_n : Nat) (slots_c : Nat) (t44 : Int) (t45 : Int) (s_0 : Int) (s_1 : Int) (s_2 : Int) (was_0 : Int) (was_1 : Int) (was_2 : Int) (h : Heap) (Q : Value → Heap → Prop) : Prop :=
  TW Try.prog 10 140 [.code (cAt (bodyOf Try.f10) [1, 1, 1, 1, 1, 0, 1, 0, 0]), .inLoop (cAt (bodyOf Try.f10) [1, 1, 1, 1, 1, 0, 1, 0, 0]), .inBlock 2, .code (cAt (bodyOf Try.f10) [1, 1, 1, 1, 1, 1])] ⟨[(5, .v (.int .i64 n)), (6, .p 6 0), (7, .v (.slice slots slots_n slots_c)), (9, .p 9 0), (44, .v (.int .i64 t44)), (45, .v (.int .i64 t45))], [(6, [.int .i64 s_0, .int .i64 s_1, .int .u32 s_2]), (9, [.int .i64 was_0, .int .i64 was_1, .int .u32 was_2])]⟩ h Q
def gabionlaw06_GapTurns.J15 (n : Int) (slots : Option Addr) (slots_n : Nat) (slots_c : Nat) (k0_10 : Int) (from0 : Int) (to0 : Int) (t44 : Int) (t45 : Int) (s_0 : Int) (s_1 : Int) (s_2 : Int) (was_0 : Int) (was_1 : Int) (was_2 : Int) (t_0 : Int) (t_1 : Int) (t_2 : Int) (h : Heap) (Q : Value → Heap → Prop) : Prop :=
  TW Try.prog 10 140 [.code (cAt (bodyOf Try.f10) [1, 1, 1, 1, 1, 0, 1, 0, 0, 1, 1, 0, 0, 1, 1, 1, 0]), .code (cAt (bodyOf Try.f10) [1, 1, 1, 1, 1, 0, 1, 0, 0, 1, 1, 0, 0, 1, 1, 1, 1]), .inBlock 3, .code (cAt (bodyOf Try.f10) [1, 1, 1, 1, 1, 0, 1, 0, 0, 1, 1, 1]), .inLoop (cAt (bodyOf Try.f10) [1, 1, 1, 1, 1, 0, 1, 0, 0]), .inBlock 2, .code (cAt (bodyOf Try.f10) [1, 1, 1, 1, 1, 1])] ⟨[(5, .v (.int .i64 n)), (6, .p 6 0), (7, .v (.slice slots slots_n slots_c)), (9, .p 9 0), (10, .v (.int .i64 k0_10)), (11, .p 11 0), (12, .v (.int .i64 from0)), (13, .v (.int .i64 to0)), (44, .v (.int .i64 t44)), (45, .v (.int .i64 t45))], [(6, [.int .i64 s_0, .int .i64 s_1, .int .u32 s_2]), (9, [.int .i64 was_0, .int .i64 was_1, .int .u32 was_2]), (11, [.int .i64 t_0, .int .i64 t_1, .int .u32 t_2])]⟩ h Q
def gabionlaw06_GapTurns.L18 (n : Int) (slots : Option Addr) (slots_n : Nat) (slots_c : Nat) (k0_10 : Int) (t44 : Int) (t45 : Int) (t94 : Int) (t95 : Int) (s_0 : Int) (s_1 : Int) (s_2 : Int) (was_0 : Int) (was_1 : Int) (was_2 : Int) (h : Heap) (Q : Value → Heap → Prop) : Prop :=
  TW Try.prog 10 140 [.code (cAt (bodyOf Try.f10) [1, 1, 1, 1, 1, 0, 1, 0, 0, 1, 1, 0, 0, 1, 1, 1, 1, 1, 0, 1, 0, 0]), .inLoop (cAt (bodyOf Try.f10) [1, 1, 1, 1, 1, 0, 1, 0, 0, 1, 1, 0, 0, 1, 1, 1, 1, 1, 0, 1, 0, 0]), .inBlock 4, .code (cAt (bodyOf Try.f10) [1, 1, 1, 1, 1, 0, 1, 0, 0, 1, 1, 0, 0, 1, 1, 1, 1, 1, 1]), .inBlock 3, .code (cAt (bodyOf Try.f10) [1, 1, 1, 1, 1, 0, 1, 0, 0, 1, 1, 1]), .inLoop (cAt (bodyOf Try.f10) [1, 1, 1, 1, 1, 0, 1, 0, 0]), .inBlock 2, .code (cAt (bodyOf Try.f10) [1, 1, 1, 1, 1, 1])] ⟨[(5, .v (.int .i64 n)), (6, .p 6 0), (7, .v (.slice slots slots_n slots_c)), (9, .p 9 0), (10, .v (.int .i64 k0_10)), (44, .v (.int .i64 t44)), (45, .v (.int .i64 t45)), (94, .v (.int .i64 t94)), (95, .v (.int .i64 t95))], [(6, [.int .i64 s_0, .int .i64 s_1, .int .u32 s_2]), (9, [.int .i64 was_0, .int .i64 was_1, .int .u32 was_2])]⟩ h Q
def gabionlaw06_GapTurns.J24 (n : Int) (slots : Option Addr) (slots_n : Nat) (slots_c : Nat) (k0_10 : Int) (t44 : Int) (t45 : Int) (s_0 : Int) (s_1 : Int) (s_2 : Int) (was_0 : Int) (was_1 : Int) (was_2 : Int) (h : Heap) (Q : Value → Heap → Prop) : Prop :=
  TW Try.prog 10 140 [.code (cAt (bodyOf Try.f10) [1, 1, 1, 1, 1, 0, 1, 0, 0, 1, 1, 0, 0, 1, 1, 1, 1, 1, 1, 0]), .code (cAt (bodyOf Try.f10) [1, 1, 1, 1, 1, 0, 1, 0, 0, 1, 1, 0, 0, 1, 1, 1, 1, 1, 1, 1]), .inBlock 3, .code (cAt (bodyOf Try.f10) [1, 1, 1, 1, 1, 0, 1, 0, 0, 1, 1, 1]), .inLoop (cAt (bodyOf Try.f10) [1, 1, 1, 1, 1, 0, 1, 0, 0]), .inBlock 2, .code (cAt (bodyOf Try.f10) [1, 1, 1, 1, 1, 1])] ⟨[(5, .v (.int .i64 n)), (6, .p 6 0), (7, .v (.slice slots slots_n slots_c)), (9, .p 9 0), (10, .v (.int .i64 k0_10)), (44, .v (.int .i64 t44)), (45, .v (.int .i64 t45))], [(6, [.int .i64 s_0, .int .i64 s_1, .int .u32 s_2]), (9, [.int .i64 was_0, .int .i64 was_1, .int .u32 was_2])]⟩ h Q
def gabionlaw06_GapTurns.wp (x_0 : Int) (x_1 : Int) (x_2 : Int) (rounds : Int) (h : Heap) (Q : Value → Heap → Prop) : Prop :=
  C Try.prog 15 #[Value.agg #[Value.int IntKind.i64 x_0, Value.int IntKind.i64 x_1, Value.int IntKind.i64 x_2]] h fun (r : Value) (h' : Heap) =>
    ∃ (x : Int),
      ∃ (x_3 : Int),
        ∃ (x_4 : Int),
          ∃ (x_5 : Int),
            r = Value.tuple #[Value.int IntKind.i64 x, Value.agg #[Value.int IntKind.i64 x_3, Value.int IntKind.i64 x_4, Value.int IntKind.u32 x_5]] ∧
              xsMk Try.prog 3 h' (IntKind.i64.wrap (x + 1)) (IntKind.i64.wrap (x + 1)) fun (a : Option Addr) (n' c' : Nat) (h' : Heap) => gabionlaw06_GapTurns.L4 rounds x a n' c' (↑n' : Int) 0 x_3 x_4 x_5 h' Q
def gabionlaw06_GapTurns.L4.wp (rounds : Int) (n : Int) (slots : Option Addr) (slots_n : Nat) (slots_c : Nat) (t25 : Int) (t26 : Int) (s_0 : Int) (s_1 : Int) (s_2 : Int) (h : Heap) (Q : Value → Heap → Prop) : Prop :=
  xsIf (decide (t26 < t25))
    (C Try.prog 31 #[Value.agg #[Value.int IntKind.i64 s_0, Value.int IntKind.i64 s_1, Value.int IntKind.u32 s_2], Value.int IntKind.i64 n, Value.int IntKind.i64 t26] h fun (r : Value) (h' : Heap) =>
      ∃ (x : Int),
        r = Value.int IntKind.i64 x ∧
          (0 ≤ t26 ∧ t26 < (↑slots_n : Int)) ∧
            atBase slots fun (b o : Nat) => h'.can b (o + t26.toNat * 1) 1 ∧ gabionlaw06_GapTurns.L4 rounds n slots slots_n slots_c t25 (IntKind.i64.wrap (t26 + 1)) s_0 s_1 s_2 (h'.put b (o + t26.toNat * 1) [Value.int IntKind.i64 x]) Q)
    (gabionlaw06_GapTurns.J8 rounds n slots slots_n slots_c s_0 s_1 s_2 h Q)
def gabionlaw06_GapTurns.J8.wp (rounds : Int) (n : Int) (slots : Option Addr) (slots_n : Nat) (slots_c : Nat) (s_0 : Int) (s_1 : Int) (s_2 : Int) (h : Heap) (Q : Value → Heap → Prop) : Prop :=
  gabionlaw06_GapTurns.L10 n slots slots_n slots_c (IntKind.i64.wrap (IntKind.i64.wrap (n + 1) * IntKind.i64.wrap (1 + IntKind.i64.wrap (irem rounds 3)))) 0 s_0 s_1 s_2 s_0 s_1 s_2 h Q
def gabionlaw06_GapTurns.L10.wp (n : Int) (slots : Option Addr) (slots_n : Nat) (slots_c : Nat) (t44 : Int) (t45 : Int) (s_0 : Int) (s_1 : Int) (s_2 : Int) (was_0 : Int) (was_1 : Int) (was_2 : Int) (h : Heap) (Q : Value → Heap → Prop) : Prop :=
  xsIf (decide (t45 < t44))
    (C Try.prog 16 #[Value.agg #[Value.int IntKind.i64 s_0, Value.int IntKind.i64 s_1, Value.int IntKind.u32 s_2], Value.int IntKind.i64 n] h fun (r : Value) (h' : Heap) =>
      ∃ (x : Int),
        ∃ (x_1 : Int),
          ∃ (x_2 : Int),
            ∃ (x_3 : Int),
              ∃ (x_4 : Int),
                r = Value.tuple #[Value.agg #[Value.int IntKind.i64 x, Value.int IntKind.i64 x_1, Value.int IntKind.u32 x_2], Value.int IntKind.i64 x_3, Value.int IntKind.i64 x_4] ∧
                  xsIf (decide (x_3 < 0)) (Q (Value.bool false) h')
                    (xsIf (decide (n < x_3)) (Q (Value.bool false) h')
                      (xsIf (decide (x_4 < 0)) (Q (Value.bool false) h')
                        (xsIf (decide (n < x_4)) (Q (Value.bool false) h')
                          (xsIf (decide (x_3 = x_4)) (Q (Value.bool false) h')
                            ((0 ≤ x_4 ∧ x_4 < (↑slots_n : Int)) ∧
                              atBase slots fun (b o : Nat) =>
                                ∃ (x_5 : Int),
                                  h'.cell b (o + x_4.toNat * 1) = some (Value.int IntKind.i64 x_5) ∧
                                    xsIf (decide (x_5 ≠ -1)) (Q (Value.bool false) h') (gabionlaw06_GapTurns.J15 n slots slots_n slots_c t45 x_3 x_4 t44 t45 s_0 s_1 s_2 was_0 was_1 was_2 x x_1 x_2 h' Q)))))))
    (C Try.prog 19 #[] h fun (r : Value) (h' : Heap) => ∃ (x : Bool), r = Value.bool x ∧ Q (Value.bool x) h')
def gabionlaw06_GapTurns.J15.wp (n : Int) (slots : Option Addr) (slots_n : Nat) (slots_c : Nat) (k0_10 : Int) (from0 : Int) (to0 : Int) (t44 : Int) (t45 : Int) (s_0 : Int) (s_1 : Int) (s_2 : Int) (was_0 : Int) (was_1 : Int) (was_2 : Int) (t_0 : Int) (t_1 : Int) (t_2 : Int) (h : Heap) (Q : Value → Heap → Prop) : Prop :=
  (0 ≤ from0 ∧ from0 < (↑slots_n : Int)) ∧
    atBase slots fun (b o : Nat) =>
      ∃ (x : Int),
        h.cell b (o + from0.toNat * 1) = some (Value.int IntKind.i64 x) ∧
          (0 ≤ to0 ∧ to0 < (↑slots_n : Int)) ∧
            atBase slots fun (b o : Nat) =>
              h.can b (o + to0.toNat * 1) 1 ∧
                (0 ≤ from0 ∧ from0 < (↑slots_n : Int)) ∧
                  atBase slots fun (b_1 o_1 : Nat) =>
                    (h.put b (o + to0.toNat * 1) [Value.int IntKind.i64 x]).can b_1 (o_1 + from0.toNat * 1) 1 ∧
                      gabionlaw06_GapTurns.L18 n slots slots_n slots_c k0_10 t44 t45 n 0 t_0 t_1 t_2 was_0 was_1 was_2 ((h.put b (o + to0.toNat * 1) [Value.int IntKind.i64 x]).put b_1 (o_1 + from0.toNat * 1) [Value.int IntKind.i64 (-1)]) Q
def gabionlaw06_GapTurns.L18.wp (n : Int) (slots : Option Addr) (slots_n : Nat) (slots_c : Nat) (k0_10 : Int) (t44 : Int) (t45 : Int) (t94 : Int) (t95 : Int) (s_0 : Int) (s_1 : Int) (s_2 : Int) (was_0 : Int) (was_1 : Int) (was_2 : Int) (h : Heap) (Q : Value → Heap → Prop) : Prop :=
  xsIf (decide (t95 < t94))
    (C Try.prog 32 #[Value.agg #[Value.int IntKind.i64 s_0, Value.int IntKind.i64 s_1, Value.int IntKind.u32 s_2], Value.int IntKind.i64 n, Value.int IntKind.i64 t95] h fun (r : Value) (h' : Heap) =>
      ∃ (x : Int),
        r = Value.int IntKind.i64 x ∧
          xsIf (decide (x < 0)) (Q (Value.bool false) h')
            (xsIf (decide (n < x)) (Q (Value.bool false) h')
              ((0 ≤ x ∧ x < (↑slots_n : Int)) ∧
                atBase slots fun (b o : Nat) =>
                  ∃ (x_1 : Int),
                    h'.cell b (o + x.toNat * 1) = some (Value.int IntKind.i64 x_1) ∧
                      xsIf (decide (x_1 ≠ t95)) (Q (Value.bool false) h') (gabionlaw06_GapTurns.L18 n slots slots_n slots_c k0_10 t44 t45 t94 (IntKind.i64.wrap (t95 + 1)) s_0 s_1 s_2 was_0 was_1 was_2 h' Q))))
    (gabionlaw06_GapTurns.J24 n slots slots_n slots_c k0_10 t44 t45 s_0 s_1 s_2 was_0 was_1 was_2 h Q)
def gabionlaw06_GapTurns.J24.wp (n : Int) (slots : Option Addr) (slots_n : Nat) (slots_c : Nat) (k0_10 : Int) (t44 : Int) (t45 : Int) (s_0 : Int) (s_1 : Int) (s_2 : Int) (was_0 : Int) (was_1 : Int) (was_2 : Int) (h : Heap) (Q : Value → Heap → Prop) : Prop :=
  xsIf (decide (k0_10 = n))
    (xsIf (decide (s_1 ≠ was_1)) (Q (Value.bool false) h)
      (n ≠ 0 ∧ xsIf (decide (s_0 ≠ irem (IntKind.i64.wrap (was_0 + 1)) n)) (Q (Value.bool false) h) (gabionlaw06_GapTurns.L10 n slots slots_n slots_c t44 (IntKind.i64.wrap (t45 + 1)) s_0 s_1 s_2 was_0 was_1 was_2 h Q)))
    (gabionlaw06_GapTurns.L10 n slots slots_n slots_c t44 (IntKind.i64.wrap (t45 + 1)) s_0 s_1 s_2 was_0 was_1 was_2 h Q)
theorem gabionlaw06_GapTurns.ok {x_0 : Int} {x_1 : Int} {x_2 : Int} {rounds : Int} {h : Heap} {Q : Value → Heap → Prop} (hk : gabionlaw06_GapTurns.wp x_0 x_1 x_2 rounds h Q) : C Try.prog 10 #[.agg #[.int .i64 x_0, .int .i64 x_1, .int .i64 x_2], .int .u8 rounds] h Q :=
  C_of_xs (H := gabionlaw06_GapTurns.H) (lcuts := gabionlaw06_GapTurns.lc) (rcuts := gabionlaw06_GapTurns.rc) (l := [.agg #[.int .i64 x_0, .int .i64 x_1, .int .i64 x_2], .int .u8 rounds]) 2000 mixed Try.func10 rfl (by kernel_rfl) (Eq.mp (by kernel_rfl) hk)
theorem gabionlaw06_GapTurns.L4.ok {rounds : Int} {n : Int} {slots : Option Addr} {slots_n : Nat} {slots_c : Nat} {t25 : Int} {t26 : Int} {s_0 : Int} {s_1 : Int} {s_2 : Int} {h : Heap} {Q : Value → Heap → Prop} (hk : gabionlaw06_GapTurns.L4.wp rounds n slots slots_n slots_c t25 t26 s_0 s_1 s_2 h Q) : gabionlaw06_GapTurns.L4 rounds n slots slots_n slots_c t25 t26 s_0 s_1 s_2 h Q :=
  xs_ok (H := gabionlaw06_GapTurns.H) (lcuts := gabionlaw06_GapTurns.lc) (rcuts := gabionlaw06_GapTurns.rc) (fn := Try.f10) mixed Try.func10 2000 _ _ _ (Eq.mp (by kernel_rfl) hk)
theorem gabionlaw06_GapTurns.J8.ok {rounds : Int} {n : Int} {slots : Option Addr} {slots_n : Nat} {slots_c : Nat} {s_0 : Int} {s_1 : Int} {s_2 : Int} {h : Heap} {Q : Value → Heap → Prop} (hk : gabionlaw06_GapTurns.J8.wp rounds n slots slots_n slots_c s_0 s_1 s_2 h Q) : gabionlaw06_GapTurns.J8 rounds n slots slots_n slots_c s_0 s_1 s_2 h Q :=
  xs_ok (H := gabionlaw06_GapTurns.H) (lcuts := gabionlaw06_GapTurns.lc) (rcuts := [⟨15, [5, 6, 7, 9, 10, 11, 12, 13, 44, 45], [6, 9, 11]⟩, ⟨24, [5, 6, 7, 9, 10, 44, 45], [6, 9]⟩]) (fn := Try.f10) mixed Try.func10 2000 _ _ _ (Eq.mp (by kernel_rfl) hk)
theorem gabionlaw06_GapTurns.L10.ok {n : Int} {slots : Option Addr} {slots_n : Nat} {slots_c : Nat} {t44 : Int} {t45 : Int} {s_0 : Int} {s_1 : Int} {s_2 : Int} {was_0 : Int} {was_1 : Int} {was_2 : Int} {h : Heap} {Q : Value → Heap → Prop} (hk : gabionlaw06_GapTurns.L10.wp n slots slots_n slots_c t44 t45 s_0 s_1 s_2 was_0 was_1 was_2 h Q) : gabionlaw06_GapTurns.L10 n slots slots_n slots_c t44 t45 s_0 s_1 s_2 was_0 was_1 was_2 h Q :=
  xs_ok (H := gabionlaw06_GapTurns.H) (lcuts := gabionlaw06_GapTurns.lc) (rcuts := gabionlaw06_GapTurns.rc) (fn := Try.f10) mixed Try.func10 2000 _ _ _ (Eq.mp (by kernel_rfl) hk)
theorem gabionlaw06_GapTurns.J15.ok {n : Int} {slots : Option Addr} {slots_n : Nat} {slots_c : Nat} {k0_10 : Int} {from0 : Int} {to0 : Int} {t44 : Int} {t45 : Int} {s_0 : Int} {s_1 : Int} {s_2 : Int} {was_0 : Int} {was_1 : Int} {was_2 : Int} {t_0 : Int} {t_1 : Int} {t_2 : Int} {h : Heap} {Q : Value → Heap → Prop} (hk : gabionlaw06_GapTurns.J15.wp n slots slots_n slots_c k0_10 from0 to0 t44 t45 s_0 s_1 s_2 was_0 was_1 was_2 t_0 t_1 t_2 h Q) : gabionlaw06_GapTurns.J15 n slots slots_n slots_c k0_10 from0 to0 t44 t45 s_0 s_1 s_2 was_0 was_1 was_2 t_0 t_1 t_2 h Q :=
  xs_ok (H := gabionlaw06_GapTurns.H) (lcuts := gabionlaw06_GapTurns.lc) (rcuts := [⟨8, [1, 5, 6, 7], [6]⟩, ⟨24, [5, 6, 7, 9, 10, 44, 45], [6, 9]⟩]) (fn := Try.f10) mixed Try.func10 2000 _ _ _ (Eq.mp (by kernel_rfl) hk)
theorem gabionlaw06_GapTurns.L18.ok {n : Int} {slots : Option Addr} {slots_n : Nat} {slots_c : Nat} {k0_10 : Int} {t44 : Int} {t45 : Int} {t94 : Int} {t95 : Int} {s_0 : Int} {s_1 : Int} {s_2 : Int} {was_0 : Int} {was_1 : Int} {was_2 : Int} {h : Heap} {Q : Value → Heap → Prop} (hk : gabionlaw06_GapTurns.L18.wp n slots slots_n slots_c k0_10 t44 t45 t94 t95 s_0 s_1 s_2 was_0 was_1 was_2 h Q) : gabionlaw06_GapTurns.L18 n slots slots_n slots_c k0_10 t44 t45 t94 t95 s_0 s_1 s_2 was_0 was_1 was_2 h Q :=
  xs_ok (H := gabionlaw06_GapTurns.H) (lcuts := gabionlaw06_GapTurns.lc) (rcuts := gabionlaw06_GapTurns.rc) (fn := Try.f10) mixed Try.func10 2000 _ _ _ (Eq.mp (by kernel_rfl) hk)
theorem gabionlaw06_GapTurns.J24.ok {n : Int} {slots : Option Addr} {slots_n : Nat} {slots_c : Nat} {k0_10 : Int} {t44 : Int} {t45 : Int} {s_0 : Int} {s_1 : Int} {s_2 : Int} {was_0 : Int} {was_1 : Int} {was_2 : Int} {h : Heap} {Q : Value → Heap → Prop} (hk : gabionlaw06_GapTurns.J24.wp n slots slots_n slots_c k0_10 t44 t45 s_0 s_1 s_2 was_0 was_1 was_2 h Q) : gabionlaw06_GapTurns.J24 n slots slots_n slots_c k0_10 t44 t45 s_0 s_1 s_2 was_0 was_1 was_2 h Q :=
  xs_ok (H := gabionlaw06_GapTurns.H) (lcuts := gabionlaw06_GapTurns.lc) (rcuts := [⟨8, [1, 5, 6, 7], [6]⟩, ⟨15, [5, 6, 7, 9, 10, 11, 12, 13, 44, 45], [6, 9, 11]⟩]) (fn := Try.f10) mixed Try.func10 2000 _ _ _ (Eq.mp (by kernel_rfl) hk)

/-! gabion/le.Words -/
def le_Words.H : Hn := ⟨[], [4], []⟩
def le_Words.lc : List Cut := [⟨5, [0, 2, 4, 10], [2, 4]⟩]
def le_Words.rc : List Cut := []
def le_Words.L5 (s : ByteArray) (t10 : Int) (t2_0 : Int) (t2_1 : Int) (t2_2 : Int) (t2_3 : Int) (t2_4 : Int) (t2_5 : Int) (t2_6 : Int) (t2_7 : Int) (w : List Value) (h : Heap) (Q : Value → Heap → Prop) : Prop :=
  TW Try.prog 34 22 [.code (cAt (bodyOf Try.f34) [1, 1, 1, 0, 1, 0, 0]), .inLoop (cAt (bodyOf Try.f34) [1, 1, 1, 0, 1, 0, 0]), .inBlock 0, .code (cAt (bodyOf Try.f34) [1, 1, 1, 1])] ⟨[(0, .v (.string s)), (2, .p 2 0), (4, .p 4 0), (10, .v (.int .i64 t10))], [(2, [.int .u64 t2_0, .int .u64 t2_1, .int .u64 t2_2, .int .u64 t2_3, .int .u64 t2_4, .int .u64 t2_5, .int .u64 t2_6, .int .u64 t2_7]), (4, w)]⟩ h Q
def le_Words.wp (s : ByteArray) (h : Heap) (Q : Value → Heap → Prop) : Prop :=
  xsIf (decide ((↑s.size : Int) ≠ 64))
    (8 ≤ 8 ∧
      ∃ (x : Int),
        lget [Value.int IntKind.u64 0, Value.int IntKind.u64 0, Value.int IntKind.u64 0, Value.int IntKind.u64 0, Value.int IntKind.u64 0, Value.int IntKind.u64 0, Value.int IntKind.u64 0, Value.int IntKind.u64 0] 0 =
            some (Value.int IntKind.u64 x) ∧
          ∃ (x_1 : Int),
            lget [Value.int IntKind.u64 0, Value.int IntKind.u64 0, Value.int IntKind.u64 0, Value.int IntKind.u64 0, Value.int IntKind.u64 0, Value.int IntKind.u64 0, Value.int IntKind.u64 0, Value.int IntKind.u64 0] 1 =
                some (Value.int IntKind.u64 x_1) ∧
              ∃ (x_2 : Int),
                lget [Value.int IntKind.u64 0, Value.int IntKind.u64 0, Value.int IntKind.u64 0, Value.int IntKind.u64 0, Value.int IntKind.u64 0, Value.int IntKind.u64 0, Value.int IntKind.u64 0, Value.int IntKind.u64 0] 2 =
                    some (Value.int IntKind.u64 x_2) ∧
                  ∃ (x_3 : Int),
                    lget [Value.int IntKind.u64 0, Value.int IntKind.u64 0, Value.int IntKind.u64 0, Value.int IntKind.u64 0, Value.int IntKind.u64 0, Value.int IntKind.u64 0, Value.int IntKind.u64 0, Value.int IntKind.u64 0] 3 =
                        some (Value.int IntKind.u64 x_3) ∧
                      ∃ (x_4 : Int),
                        lget [Value.int IntKind.u64 0, Value.int IntKind.u64 0, Value.int IntKind.u64 0, Value.int IntKind.u64 0, Value.int IntKind.u64 0, Value.int IntKind.u64 0, Value.int IntKind.u64 0, Value.int IntKind.u64 0] 4 =
                            some (Value.int IntKind.u64 x_4) ∧
                          ∃ (x_5 : Int),
                            lget [Value.int IntKind.u64 0, Value.int IntKind.u64 0, Value.int IntKind.u64 0, Value.int IntKind.u64 0, Value.int IntKind.u64 0, Value.int IntKind.u64 0, Value.int IntKind.u64 0, Value.int IntKind.u64 0] 5 =
                                some (Value.int IntKind.u64 x_5) ∧
                              ∃ (x_6 : Int),
                                lget [Value.int IntKind.u64 0, Value.int IntKind.u64 0, Value.int IntKind.u64 0, Value.int IntKind.u64 0, Value.int IntKind.u64 0, Value.int IntKind.u64 0, Value.int IntKind.u64 0, Value.int IntKind.u64 0] 6 =
                                    some (Value.int IntKind.u64 x_6) ∧
                                  ∃ (x_7 : Int),
                                    lget [Value.int IntKind.u64 0, Value.int IntKind.u64 0, Value.int IntKind.u64 0, Value.int IntKind.u64 0, Value.int IntKind.u64 0, Value.int IntKind.u64 0, Value.int IntKind.u64 0, Value.int IntKind.u64 0]
                                          7 =
                                        some (Value.int IntKind.u64 x_7) ∧
                                      Q
                                        (Value.tuple
                                          #[Value.agg
                                                  #[Value.int IntKind.u64 x, Value.int IntKind.u64 x_1, Value.int IntKind.u64 x_2, Value.int IntKind.u64 x_3, Value.int IntKind.u64 x_4, Value.int IntKind.u64 x_5, Value.int IntKind.u64 x_6,
                                                        Value.int IntKind.u64 x_7],
                                                Value.int IntKind.i64 2])
                                        h)
    (le_Words.L5 s 0 0 0 0 0 0 0 0 0 [Value.int IntKind.u64 0, Value.int IntKind.u64 0, Value.int IntKind.u64 0, Value.int IntKind.u64 0, Value.int IntKind.u64 0, Value.int IntKind.u64 0, Value.int IntKind.u64 0, Value.int IntKind.u64 0] h Q)
def le_Words.L5.wp (s : ByteArray) (t10 : Int) (t2_0 : Int) (t2_1 : Int) (t2_2 : Int) (t2_3 : Int) (t2_4 : Int) (t2_5 : Int) (t2_6 : Int) (t2_7 : Int) (w : List Value) (h : Heap) (Q : Value → Heap → Prop) : Prop :=
  xsIf (decide (t10 < 8))
    ((0 ≤ IntKind.i64.wrap (8 * t10) ∧ IntKind.i64.wrap (8 * t10) ≤ (↑s.size : Int)) ∧
      C Try.prog 24 #[Value.string (sext s (IntKind.i64.wrap (8 * t10)) (↑s.size : Int))] h fun (r : Value) (h' : Heap) =>
        ∃ (x : Int),
          r = Value.int IntKind.u64 x ∧
            (0 ≤ t10 ∧ t10 < (↑8 : Int)) ∧ 0 + t10.toNat * 1 + 1 ≤ w.length ∧ le_Words.L5 s (IntKind.i64.wrap (t10 + 1)) t2_0 t2_1 t2_2 t2_3 t2_4 t2_5 t2_6 t2_7 (lput w (0 + t10.toNat * 1) [Value.int IntKind.u64 x]) h' Q)
    (8 ≤ w.length ∧
      ∃ (x : Int),
        lget w 0 = some (Value.int IntKind.u64 x) ∧
          ∃ (x_1 : Int),
            lget w 1 = some (Value.int IntKind.u64 x_1) ∧
              ∃ (x_2 : Int),
                lget w 2 = some (Value.int IntKind.u64 x_2) ∧
                  ∃ (x_3 : Int),
                    lget w 3 = some (Value.int IntKind.u64 x_3) ∧
                      ∃ (x_4 : Int),
                        lget w 4 = some (Value.int IntKind.u64 x_4) ∧
                          ∃ (x_5 : Int),
                            lget w 5 = some (Value.int IntKind.u64 x_5) ∧
                              ∃ (x_6 : Int),
                                lget w 6 = some (Value.int IntKind.u64 x_6) ∧
                                  ∃ (x_7 : Int),
                                    lget w 7 = some (Value.int IntKind.u64 x_7) ∧
                                      Q
                                        (Value.tuple
                                          #[Value.agg
                                                  #[Value.int IntKind.u64 x, Value.int IntKind.u64 x_1, Value.int IntKind.u64 x_2, Value.int IntKind.u64 x_3, Value.int IntKind.u64 x_4, Value.int IntKind.u64 x_5, Value.int IntKind.u64 x_6,
                                                        Value.int IntKind.u64 x_7],
                                                Value.int IntKind.i64 0])
                                        h)
theorem le_Words.ok {s : ByteArray} {h : Heap} {Q : Value → Heap → Prop} (hk : le_Words.wp s h Q) : C Try.prog 34 #[.string s] h Q :=
  C_of_xs (H := le_Words.H) (lcuts := le_Words.lc) (rcuts := le_Words.rc) (l := [.string s]) 2000 mixed Try.func34 rfl (by kernel_rfl) (Eq.mp (by kernel_rfl) hk)
theorem le_Words.L5.ok {s : ByteArray} {t10 : Int} {t2_0 : Int} {t2_1 : Int} {t2_2 : Int} {t2_3 : Int} {t2_4 : Int} {t2_5 : Int} {t2_6 : Int} {t2_7 : Int} {w : List Value} {h : Heap} {Q : Value → Heap → Prop} (hk : le_Words.L5.wp s t10 t2_0 t2_1 t2_2 t2_3 t2_4 t2_5 t2_6 t2_7 w h Q) : le_Words.L5 s t10 t2_0 t2_1 t2_2 t2_3 t2_4 t2_5 t2_6 t2_7 w h Q :=
  xs_ok (H := le_Words.H) (lcuts := le_Words.lc) (rcuts := le_Words.rc) (fn := Try.f34) mixed Try.func34 2000 _ _ _ (Eq.mp (by kernel_rfl) hk)

/-! gabion/le.Text -/
def le_Text.H : Hn := ⟨[], [], []⟩
def le_Text.lc : List Cut := [⟨3, [3, 6, 7], []⟩]
def le_Text.rc : List Cut := []
def le_Text.L3 (s : ByteArray) (t6_0 : Int) (t6_1 : Int) (t6_2 : Int) (t6_3 : Int) (t6_4 : Int) (t6_5 : Int) (t6_6 : Int) (t6_7 : Int) (t7 : Int) (h : Heap) (Q : Value → Heap → Prop) : Prop :=
  TW Try.prog 35 16 [.code (cAt (bodyOf Try.f35) [1, 1, 0, 1, 0, 0]), .inLoop (cAt (bodyOf Try.f35) [1, 1, 0, 1, 0, 0]), .inBlock 0, .code (cAt (bodyOf Try.f35) [1, 1, 1])] ⟨[(3, .v (.string s)), (6, .v (.agg #[.int .u64 t6_0, .int .u64 t6_1, .int .u64 t6_2, .int .u64 t6_3, .int .u64 t6_4, .int .u64 t6_5, .int .u64 t6_6, .int .u64 t6_7])), (7, .v (.int .i64 t7))], []⟩ h Q
def le_Text.wp (w_0 : Int) (w_1 : Int) (w_2 : Int) (w_3 : Int) (w_4 : Int) (w_5 : Int) (w_6 : Int) (w_7 : Int) (h : Heap) (Q : Value → Heap → Prop) : Prop :=
  le_Text.L3 { data := #[] } w_0 w_1 w_2 w_3 w_4 w_5 w_6 w_7 0 h Q
def le_Text.L3.wp (s : ByteArray) (t6_0 : Int) (t6_1 : Int) (t6_2 : Int) (t6_3 : Int) (t6_4 : Int) (t6_5 : Int) (t6_6 : Int) (t6_7 : Int) (t7 : Int) (h : Heap) (Q : Value → Heap → Prop) : Prop :=
  xsIf (decide (t7 < 8))
    ((0 ≤ t7 ∧ t7 < (↑8 : Int)) ∧
      ∃ (x : Int),
        lget [Value.int IntKind.u64 t6_0, Value.int IntKind.u64 t6_1, Value.int IntKind.u64 t6_2, Value.int IntKind.u64 t6_3, Value.int IntKind.u64 t6_4, Value.int IntKind.u64 t6_5, Value.int IntKind.u64 t6_6, Value.int IntKind.u64 t6_7]
              (t7.toNat * 1) =
            some (Value.int IntKind.u64 x) ∧
          C Try.prog 21 #[Value.int IntKind.u64 x, Value.int IntKind.i64 8] h fun (r : Value) (h' : Heap) =>
            ∃ (x : ByteArray), r = Value.string x ∧ (↑(s.size + x.size) : Int) ≤ 9223372036854775807 ∧ le_Text.L3 (s ++ x) t6_0 t6_1 t6_2 t6_3 t6_4 t6_5 t6_6 t6_7 (IntKind.i64.wrap (t7 + 1)) h' Q)
    (Q (Value.string s) h)
theorem le_Text.ok {w_0 : Int} {w_1 : Int} {w_2 : Int} {w_3 : Int} {w_4 : Int} {w_5 : Int} {w_6 : Int} {w_7 : Int} {h : Heap} {Q : Value → Heap → Prop} (hk : le_Text.wp w_0 w_1 w_2 w_3 w_4 w_5 w_6 w_7 h Q) : C Try.prog 35 #[.agg #[.int .u64 w_0, .int .u64 w_1, .int .u64 w_2, .int .u64 w_3, .int .u64 w_4, .int .u64 w_5, .int .u64 w_6, .int .u64 w_7]] h Q :=
  C_of_xs (H := le_Text.H) (lcuts := le_Text.lc) (rcuts := le_Text.rc) (l := [.agg #[.int .u64 w_0, .int .u64 w_1, .int .u64 w_2, .int .u64 w_3, .int .u64 w_4, .int .u64 w_5, .int .u64 w_6, .int .u64 w_7]]) 2000 mixed Try.func35 rfl (by kernel_rfl) (Eq.mp (by kernel_rfl) hk)
theorem le_Text.L3.ok {s : ByteArray} {t6_0 : Int} {t6_1 : Int} {t6_2 : Int} {t6_3 : Int} {t6_4 : Int} {t6_5 : Int} {t6_6 : Int} {t6_7 : Int} {t7 : Int} {h : Heap} {Q : Value → Heap → Prop} (hk : le_Text.L3.wp s t6_0 t6_1 t6_2 t6_3 t6_4 t6_5 t6_6 t6_7 t7 h Q) : le_Text.L3 s t6_0 t6_1 t6_2 t6_3 t6_4 t6_5 t6_6 t6_7 t7 h Q :=
  xs_ok (H := le_Text.H) (lcuts := le_Text.lc) (rcuts := le_Text.rc) (fn := Try.f35) mixed Try.func35 2000 _ _ _ (Eq.mp (by kernel_rfl) hk)

/-! gabion/gabionlaw01.LeWords -/
def gabionlaw01_LeWords.H : Hn := ⟨[], [], []⟩
def gabionlaw01_LeWords.lc : List Cut := [⟨3, [1, 2, 5, 12, 13], [2]⟩]
def gabionlaw01_LeWords.rc : List Cut := [⟨7, [1, 2, 5], [2]⟩, ⟨11, [1, 10, 11], [10]⟩]
def gabionlaw01_LeWords.L3 (s : ByteArray) (t : ByteArray) (t12_0 : Int) (t12_1 : Int) (t12_2 : Int) (t12_3 : Int) (t12_4 : Int) (t12_5 : Int) (t12_6 : Int) (t12_7 : Int) (t13 : Int) (w_2_0 : Int) (w_2_1 : Int) (w_2_2 : Int) (w_2_3 : Int) (w_2_4 : Int) (w_2_5 : Int) (w_2_6 : Int) (w_2_7 : Int) (h : Heap) (Q : Value → Heap → Prop) : Prop :=
  TW Try.prog 11 66 [.code (cAt (bodyOf Try.f11) [1, 1, 0, 1, 0, 0]), .inLoop (cAt (bodyOf Try.f11) [1, 1, 0, 1, 0, 0]), .inBlock 0, .code (cAt (bodyOf Try.f11) [1, 1, 1])] ⟨[(1, .v (.string s)), (2, .p 2 0), (5, .v (.string t)), (12, .v (.agg #[.int .u64 t12_0, .int .u64 t12_1, .int .u64 t12_2, .int .u64 t12_3, .int .u64 t12_4, .int .u64 t12_5, .int .u64 t12_6, .int .u64 t12_7])), (13, .v (.int .i64 t13))], [(2, [.int .u64 w_2_0, .int .u64 w_2_1, .int .u64 w_2_2, .int .u64 w_2_3, .int .u64 w_2_4, .int .u64 w_2_5, .int .u64 w_2_6, .int .u64 w_2_7])]⟩ h Q
def gabionlaw01_LeWords.J7 (s : ByteArray) (t : ByteArray) (w_2_0 : Int) (w_2_1 : Int) (w_2_2 : Int) (w_2_3 : Int) (w_2_4 : Int) (w_2_5 : Int) (w_2_6 : Int) (w_2_7 : Int) (h : Heap) (Q : Value → Heap → Prop) : Prop :=
  TW Try.prog 11 66 [.code (cAt (bodyOf Try.f11) [1, 1, 1, 0]), .code (cAt (bodyOf Try.f11) [1, 1, 1, 1])] ⟨[(1, .v (.string s)), (2, .p 2 0), (5, .v (.string t))], [(2, [.int .u64 w_2_0, .int .u64 w_2_1, .int .u64 w_2_2, .int .u64 w_2_3, .int .u64 w_2_4, .int .u64 w_2_5, .int .u64 w_2_6, .int .u64 w_2_7])]⟩ h Q
def gabionlaw01_LeWords.J11 (s : ByteArray) (f : Int) (x_0 : Int) (x_1 : Int) (x_2 : Int) (x_3 : Int) (x_4 : Int) (x_5 : Int) (x_6 : Int) (x_7 : Int) (h : Heap) (Q : Value → Heap → Prop) : Prop :=
  TW Try.prog 11 66 [.code (cAt (bodyOf Try.f11) [1, 1, 1, 1, 1, 1, 0, 0]), .code (cAt (bodyOf Try.f11) [1, 1, 1, 1, 1, 1, 0, 1]), .code (cAt (bodyOf Try.f11) [1, 1, 1, 1, 1, 1, 1])] ⟨[(1, .v (.string s)), (10, .p 10 0), (11, .v (.int .i64 f))], [(10, [.int .u64 x_0, .int .u64 x_1, .int .u64 x_2, .int .u64 x_3, .int .u64 x_4, .int .u64 x_5, .int .u64 x_6, .int .u64 x_7])]⟩ h Q
def gabionlaw01_LeWords.wp (w_0 : Int) (w_1 : Int) (w_2 : Int) (w_3 : Int) (w_4 : Int) (w_5 : Int) (w_6 : Int) (w_7 : Int) (s : ByteArray) (h : Heap) (Q : Value → Heap → Prop) : Prop :=
  gabionlaw01_LeWords.L3 s { data := #[] } w_0 w_1 w_2 w_3 w_4 w_5 w_6 w_7 0 w_0 w_1 w_2 w_3 w_4 w_5 w_6 w_7 h Q
def gabionlaw01_LeWords.L3.wp (s : ByteArray) (t : ByteArray) (t12_0 : Int) (t12_1 : Int) (t12_2 : Int) (t12_3 : Int) (t12_4 : Int) (t12_5 : Int) (t12_6 : Int) (t12_7 : Int) (t13 : Int) (w_2_0 : Int) (w_2_1 : Int) (w_2_2 : Int) (w_2_3 : Int) (w_2_4 : Int) (w_2_5 : Int) (w_2_6 : Int) (w_2_7 : Int) (h : Heap) (Q : Value → Heap → Prop) : Prop :=
  xsIf (decide (t13 < 8))
    ((0 ≤ t13 ∧ t13 < (↑8 : Int)) ∧
      ∃ (x : Int),
        lget
              [Value.int IntKind.u64 t12_0, Value.int IntKind.u64 t12_1, Value.int IntKind.u64 t12_2, Value.int IntKind.u64 t12_3, Value.int IntKind.u64 t12_4, Value.int IntKind.u64 t12_5, Value.int IntKind.u64 t12_6,
                Value.int IntKind.u64 t12_7]
              (t13.toNat * 1) =
            some (Value.int IntKind.u64 x) ∧
          C Try.prog 22 #[Value.int IntKind.u64 x, Value.int IntKind.i64 8] h fun (r : Value) (h' : Heap) =>
            ∃ (x : ByteArray),
              r = Value.string x ∧
                (↑(t.size + x.size) : Int) ≤ 9223372036854775807 ∧ gabionlaw01_LeWords.L3 s (t ++ x) t12_0 t12_1 t12_2 t12_3 t12_4 t12_5 t12_6 t12_7 (IntKind.i64.wrap (t13 + 1)) w_2_0 w_2_1 w_2_2 w_2_3 w_2_4 w_2_5 w_2_6 w_2_7 h' Q)
    (gabionlaw01_LeWords.J7 s t w_2_0 w_2_1 w_2_2 w_2_3 w_2_4 w_2_5 w_2_6 w_2_7 h Q)
def gabionlaw01_LeWords.J7.wp (s : ByteArray) (t : ByteArray) (w_2_0 : Int) (w_2_1 : Int) (w_2_2 : Int) (w_2_3 : Int) (w_2_4 : Int) (w_2_5 : Int) (w_2_6 : Int) (w_2_7 : Int) (h : Heap) (Q : Value → Heap → Prop) : Prop :=
  C Try.prog 34 #[Value.string t] h fun (r : Value) (h' : Heap) =>
    ∃ (x : Int),
      ∃ (x_1 : Int),
        ∃ (x_2 : Int),
          ∃ (x_3 : Int),
            ∃ (x_4 : Int),
              ∃ (x_5 : Int),
                ∃ (x_6 : Int),
                  ∃ (x_7 : Int),
                    ∃ (x_8 : Int),
                      r =
                          Value.tuple
                            #[Value.agg
                                    #[Value.int IntKind.u64 x, Value.int IntKind.u64 x_1, Value.int IntKind.u64 x_2, Value.int IntKind.u64 x_3, Value.int IntKind.u64 x_4, Value.int IntKind.u64 x_5, Value.int IntKind.u64 x_6,
                                          Value.int IntKind.u64 x_7],
                                  Value.int IntKind.i64 x_8] ∧
                        C Try.prog 34 #[Value.string s] h' fun (r : Value) (h' : Heap) =>
                          ∃ (x_9 : Int),
                            ∃ (x_10 : Int),
                              ∃ (x_11 : Int),
                                ∃ (x_12 : Int),
                                  ∃ (x_13 : Int),
                                    ∃ (x_14 : Int),
                                      ∃ (x_15 : Int),
                                        ∃ (x_16 : Int),
                                          ∃ (x_17 : Int),
                                            r =
                                                Value.tuple
                                                  #[Value.agg
                                                          #[Value.int IntKind.u64 x_9, Value.int IntKind.u64 x_10, Value.int IntKind.u64 x_11, Value.int IntKind.u64 x_12, Value.int IntKind.u64 x_13, Value.int IntKind.u64 x_14,
                                                                Value.int IntKind.u64 x_15, Value.int IntKind.u64 x_16],
                                                        Value.int IntKind.i64 x_17] ∧
                                              C Try.prog 23 #[] h' fun (r : Value) (h' : Heap) =>
                                                ∃ (x_18 : Bool),
                                                  r = Value.bool x_18 ∧
                                                    xsIf (!x_18) (Q (Value.bool false) h')
                                                      (C Try.prog 35
                                                        #[Value.agg
                                                                #[Value.int IntKind.u64 w_2_0, Value.int IntKind.u64 w_2_1, Value.int IntKind.u64 w_2_2, Value.int IntKind.u64 w_2_3, Value.int IntKind.u64 w_2_4, Value.int IntKind.u64 w_2_5,
                                                                      Value.int IntKind.u64 w_2_6, Value.int IntKind.u64 w_2_7]]
                                                        h' fun (r : Value) (h' : Heap) =>
                                                        ∃ (x_19 : ByteArray),
                                                          r = Value.string x_19 ∧
                                                            xsIf (decide (x_19 ≠ t)) (Q (Value.bool false) h')
                                                              (xsIf (decide (x_8 ≠ 0)) (Q (Value.bool false) h')
                                                                (xsIf
                                                                  (!(decide (x = w_2_0) &&
                                                                      (decide (x_1 = w_2_1) &&
                                                                        (decide (x_2 = w_2_2) && (decide (x_3 = w_2_3) && (decide (x_4 = w_2_4) && (decide (x_5 = w_2_5) && (decide (x_6 = w_2_6) && (decide (x_7 = w_2_7) && true)))))))))
                                                                  (Q (Value.bool false) h') (gabionlaw01_LeWords.J11 s x_17 x_9 x_10 x_11 x_12 x_13 x_14 x_15 x_16 h' Q))))
def gabionlaw01_LeWords.J11.wp (s : ByteArray) (f : Int) (x_0 : Int) (x_1 : Int) (x_2 : Int) (x_3 : Int) (x_4 : Int) (x_5 : Int) (x_6 : Int) (x_7 : Int) (h : Heap) (Q : Value → Heap → Prop) : Prop :=
  xsIf (decide ((↑s.size : Int) ≠ 64))
    (xsIf (decide (f = 2)) (Q (Value.bool (decide (x_0 = 0) && (decide (x_1 = 0) && (decide (x_2 = 0) && (decide (x_3 = 0) && (decide (x_4 = 0) && (decide (x_5 = 0) && (decide (x_6 = 0) && (decide (x_7 = 0) && true))))))))) h)
      (Q (Value.bool false) h))
    (xsIf (decide (f = 0))
      (C Try.prog 35
        #[Value.agg
                #[Value.int IntKind.u64 x_0, Value.int IntKind.u64 x_1, Value.int IntKind.u64 x_2, Value.int IntKind.u64 x_3, Value.int IntKind.u64 x_4, Value.int IntKind.u64 x_5, Value.int IntKind.u64 x_6, Value.int IntKind.u64 x_7]]
        h fun (r : Value) (h' : Heap) => ∃ (x : ByteArray), r = Value.string x ∧ Q (Value.bool (decide (x = s))) h')
      (Q (Value.bool false) h))
theorem gabionlaw01_LeWords.ok {w_0 : Int} {w_1 : Int} {w_2 : Int} {w_3 : Int} {w_4 : Int} {w_5 : Int} {w_6 : Int} {w_7 : Int} {s : ByteArray} {h : Heap} {Q : Value → Heap → Prop} (hk : gabionlaw01_LeWords.wp w_0 w_1 w_2 w_3 w_4 w_5 w_6 w_7 s h Q) : C Try.prog 11 #[.agg #[.int .u64 w_0, .int .u64 w_1, .int .u64 w_2, .int .u64 w_3, .int .u64 w_4, .int .u64 w_5, .int .u64 w_6, .int .u64 w_7], .string s] h Q :=
  C_of_xs (H := gabionlaw01_LeWords.H) (lcuts := gabionlaw01_LeWords.lc) (rcuts := gabionlaw01_LeWords.rc) (l := [.agg #[.int .u64 w_0, .int .u64 w_1, .int .u64 w_2, .int .u64 w_3, .int .u64 w_4, .int .u64 w_5, .int .u64 w_6, .int .u64 w_7], .string s]) 2000 mixed Try.func11 rfl (by kernel_rfl) (Eq.mp (by kernel_rfl) hk)
theorem gabionlaw01_LeWords.L3.ok {s : ByteArray} {t : ByteArray} {t12_0 : Int} {t12_1 : Int} {t12_2 : Int} {t12_3 : Int} {t12_4 : Int} {t12_5 : Int} {t12_6 : Int} {t12_7 : Int} {t13 : Int} {w_2_0 : Int} {w_2_1 : Int} {w_2_2 : Int} {w_2_3 : Int} {w_2_4 : Int} {w_2_5 : Int} {w_2_6 : Int} {w_2_7 : Int} {h : Heap} {Q : Value → Heap → Prop} (hk : gabionlaw01_LeWords.L3.wp s t t12_0 t12_1 t12_2 t12_3 t12_4 t12_5 t12_6 t12_7 t13 w_2_0 w_2_1 w_2_2 w_2_3 w_2_4 w_2_5 w_2_6 w_2_7 h Q) : gabionlaw01_LeWords.L3 s t t12_0 t12_1 t12_2 t12_3 t12_4 t12_5 t12_6 t12_7 t13 w_2_0 w_2_1 w_2_2 w_2_3 w_2_4 w_2_5 w_2_6 w_2_7 h Q :=
  xs_ok (H := gabionlaw01_LeWords.H) (lcuts := gabionlaw01_LeWords.lc) (rcuts := gabionlaw01_LeWords.rc) (fn := Try.f11) mixed Try.func11 2000 _ _ _ (Eq.mp (by kernel_rfl) hk)
theorem gabionlaw01_LeWords.J7.ok {s : ByteArray} {t : ByteArray} {w_2_0 : Int} {w_2_1 : Int} {w_2_2 : Int} {w_2_3 : Int} {w_2_4 : Int} {w_2_5 : Int} {w_2_6 : Int} {w_2_7 : Int} {h : Heap} {Q : Value → Heap → Prop} (hk : gabionlaw01_LeWords.J7.wp s t w_2_0 w_2_1 w_2_2 w_2_3 w_2_4 w_2_5 w_2_6 w_2_7 h Q) : gabionlaw01_LeWords.J7 s t w_2_0 w_2_1 w_2_2 w_2_3 w_2_4 w_2_5 w_2_6 w_2_7 h Q :=
  xs_ok (H := gabionlaw01_LeWords.H) (lcuts := gabionlaw01_LeWords.lc) (rcuts := [⟨11, [1, 10, 11], [10]⟩]) (fn := Try.f11) mixed Try.func11 2000 _ _ _ (Eq.mp (by kernel_rfl) hk)
theorem gabionlaw01_LeWords.J11.ok {s : ByteArray} {f : Int} {x_0 : Int} {x_1 : Int} {x_2 : Int} {x_3 : Int} {x_4 : Int} {x_5 : Int} {x_6 : Int} {x_7 : Int} {h : Heap} {Q : Value → Heap → Prop} (hk : gabionlaw01_LeWords.J11.wp s f x_0 x_1 x_2 x_3 x_4 x_5 x_6 x_7 h Q) : gabionlaw01_LeWords.J11 s f x_0 x_1 x_2 x_3 x_4 x_5 x_6 x_7 h Q :=
  xs_ok (H := gabionlaw01_LeWords.H) (lcuts := gabionlaw01_LeWords.lc) (rcuts := [⟨7, [1, 2, 5], [2]⟩]) (fn := Try.f11) mixed Try.func11 2000 _ _ _ (Eq.mp (by kernel_rfl) hk)

/-! gabion/feistel.New -/
def feistel_New.H : Hn := ⟨[], [6], []⟩
def feistel_New.lc : List Cut := [⟨4, [0, 1, 4, 6], [4, 6]⟩, ⟨7, [1, 4, 6, 27], [4, 6]⟩]
def feistel_New.rc : List Cut := [⟨3, [0, 1, 4], [4]⟩, ⟨6, [1, 4, 6], [4, 6]⟩]
def feistel_New.J3 (m : Int) (key : Int) (t4_0 : Int) (t4_1 : Int) (t4_2 : Int) (t4_3 : Int) (t4_4 : Int) (t4_5 : Int) (h : Heap) (Q : Value → Heap → Prop) : Prop :=
  TW Try.prog 36 40 [.code (cAt (bodyOf Try.f36) [1, 1, 0]), .code (cAt (bodyOf Try.f36) [1, 1, 1])] ⟨[(0, .v (.int .i64 m)), (1, .v (.int .u64 key)), (4, .p 4 0)], [(4, [.int .i64 t4_0, .int .i64 t4_1, .int .u16 t4_2, .int .u16 t4_3, .int .u16 t4_4, .int .u16 t4_5])]⟩ h Q
def feistel_New.L4 (m : Int) (key : Int) (t4_0 : Int) (t4_1 : Int) (t4_2 : Int) (t4_3 : Int) (t4_4 : Int) (t4_5 : Int) (p : List Value) (h : Heap) (Q : Value → Heap → Prop) : Prop :=
  TW Try.prog 36 40 [.code (cAt (bodyOf Try.f36) [1, 1, 1, 0, 0, 0]), .inLoop (cAt (bodyOf Try.f36) [1, 1, 1, 0, 0, 0]), .inBlock 0, .code (cAt (bodyOf Try.f36) [1, 1, 1, 1])] ⟨[(0, .v (.int .i64 m)), (1, .v (.int .u64 key)), (4, .p 4 0), (6, .p 6 0)], [(4, [.int .i64 t4_0, .int .i64 t4_1, .int .u16 t4_2, .int .u16 t4_3, .int .u16 t4_4, .int .u16 t4_5]), (6, p)]⟩ h Q
def feistel_New.J6 (key : Int) (t4_0 : Int) (t4_1 : Int) (t4_2 : Int) (t4_3 : Int) (t4_4 : Int) (t4_5 : Int) (p : List Value) (h : Heap) (Q : Value → Heap → Prop) : Prop :=
  TW Try.prog 36 40 [.code (cAt (bodyOf Try.f36) [1, 1, 1, 1, 0, 0]), .code (cAt (bodyOf Try.f36) [1, 1, 1, 1, 0, 1]), .code (cAt (bodyOf Try.f36) [1, 1, 1, 1, 1])] ⟨[(1, .v (.int .u64 key)), (4, .p 4 0), (6, .p 6 0)], [(4, [.int .i64 t4_0, .int .i64 t4_1, .int .u16 t4_2, .int .u16 t4_3, .int .u16 t4_4, .int .u16 t4_5]), (6, p)]⟩ h Q
def feistel_New.L7 (key : Int) (t27 : Int) (t4_0 : Int) (t4_1 : Int) (t4_2 : Int) (t4_3 : Int) (t4_4 : Int) (t4_5 : Int) (p : List Value) (h : Heap) (Q : Value → Heap → Prop) : Prop :=
  TW Try.prog 36 40 [.code (cAt (bodyOf Try.f36) [1, 1, 1, 1, 0, 1, 0, 0]), .inLoop (cAt (bodyOf Try.f36) [1, 1, 1, 1, 0, 1, 0, 0]), .inBlock 2, .code (cAt (bodyOf Try.f36) [1, 1, 1, 1, 1])] ⟨[(1, .v (.int .u64 key)), (4, .p 4 0), (6, .p 6 0), (27, .v (.int .i64 t27))], [(4, [.int .i64 t4_0, .int .i64 t4_1, .int .u16 t4_2, .int .u16 t4_3, .int .u16 t4_4, .int .u16 t4_5]), (6, p)]⟩ h Q
def feistel_New.wp (m : Int) (key : Int) (h : Heap) (Q : Value → Heap → Prop) : Prop :=
  xsIf (decide (m < 1))
    (Q (Value.tuple #[Value.agg #[Value.int IntKind.i64 0, Value.int IntKind.i64 0, Value.int IntKind.u16 0, Value.int IntKind.u16 0, Value.int IntKind.u16 0, Value.int IntKind.u16 0], Value.int IntKind.i64 2]) h)
    (xsIf (decide (8192 < m))
      (Q (Value.tuple #[Value.agg #[Value.int IntKind.i64 0, Value.int IntKind.i64 0, Value.int IntKind.u16 0, Value.int IntKind.u16 0, Value.int IntKind.u16 0, Value.int IntKind.u16 0], Value.int IntKind.i64 2]) h)
      (feistel_New.J3 m key 0 0 0 0 0 0 h Q))
def feistel_New.J3.wp (m : Int) (key : Int) (t4_0 : Int) (t4_1 : Int) (t4_2 : Int) (t4_3 : Int) (t4_4 : Int) (t4_5 : Int) (h : Heap) (Q : Value → Heap → Prop) : Prop :=
  6 ≤ 6 ∧
    feistel_New.L4 m key t4_0 t4_1 t4_2 t4_3 t4_4 t4_5
      (lput [Value.int IntKind.i64 0, Value.int IntKind.i64 0, Value.int IntKind.u16 0, Value.int IntKind.u16 0, Value.int IntKind.u16 0, Value.int IntKind.u16 0] 0
        [Value.int IntKind.i64 m, Value.int IntKind.i64 1, Value.int IntKind.u16 0, Value.int IntKind.u16 0, Value.int IntKind.u16 0, Value.int IntKind.u16 0])
      h Q
def feistel_New.L4.wp (m : Int) (key : Int) (t4_0 : Int) (t4_1 : Int) (t4_2 : Int) (t4_3 : Int) (t4_4 : Int) (t4_5 : Int) (p : List Value) (h : Heap) (Q : Value → Heap → Prop) : Prop :=
  ∃ (x : Int),
    lget p 1 = some (Value.int IntKind.i64 x) ∧
      0 ≤ IntKind.i64.wrap (2 * x) ∧
        xsIf (decide (ishl IntKind.i64 1 (IntKind.i64.wrap (2 * x)) < m))
          (∃ (x : Int), lget p 1 = some (Value.int IntKind.i64 x) ∧ 2 ≤ p.length ∧ feistel_New.L4 m key t4_0 t4_1 t4_2 t4_3 t4_4 t4_5 (lput p 1 [Value.int IntKind.i64 (IntKind.i64.wrap (x + 1))]) h Q)
          (feistel_New.J6 key t4_0 t4_1 t4_2 t4_3 t4_4 t4_5 p h Q)
def feistel_New.J6.wp (key : Int) (t4_0 : Int) (t4_1 : Int) (t4_2 : Int) (t4_3 : Int) (t4_4 : Int) (t4_5 : Int) (p : List Value) (h : Heap) (Q : Value → Heap → Prop) : Prop :=
  feistel_New.L7 key 0 t4_0 t4_1 t4_2 t4_3 t4_4 t4_5 p h Q
def feistel_New.L7.wp (key : Int) (t27 : Int) (t4_0 : Int) (t4_1 : Int) (t4_2 : Int) (t4_3 : Int) (t4_4 : Int) (t4_5 : Int) (p : List Value) (h : Heap) (Q : Value → Heap → Prop) : Prop :=
  xsIf (decide (t27 < 4))
    (C Try.prog 26 #[Value.int IntKind.u64 key, Value.int IntKind.i64 (IntKind.i64.wrap (16 * t27)), Value.int IntKind.i64 16] h fun (r : Value) (h' : Heap) =>
      ∃ (x : Int),
        r = Value.int IntKind.u64 x ∧
          (0 ≤ t27 ∧ t27 < (↑4 : Int)) ∧ 2 + t27.toNat * 1 + 1 ≤ p.length ∧ feistel_New.L7 key (IntKind.i64.wrap (t27 + 1)) t4_0 t4_1 t4_2 t4_3 t4_4 t4_5 (lput p (2 + t27.toNat * 1) [Value.int IntKind.u16 (IntKind.u16.wrap x)]) h' Q)
    (6 ≤ p.length ∧
      ∃ (x : Int),
        lget p 0 = some (Value.int IntKind.i64 x) ∧
          ∃ (x_1 : Int),
            lget p 1 = some (Value.int IntKind.i64 x_1) ∧
              ∃ (x_2 : Int),
                lget p 2 = some (Value.int IntKind.u16 x_2) ∧
                  ∃ (x_3 : Int),
                    lget p 3 = some (Value.int IntKind.u16 x_3) ∧
                      ∃ (x_4 : Int),
                        lget p 4 = some (Value.int IntKind.u16 x_4) ∧
                          ∃ (x_5 : Int),
                            lget p 5 = some (Value.int IntKind.u16 x_5) ∧
                              Q
                                (Value.tuple
                                  #[Value.agg #[Value.int IntKind.i64 x, Value.int IntKind.i64 x_1, Value.int IntKind.u16 x_2, Value.int IntKind.u16 x_3, Value.int IntKind.u16 x_4, Value.int IntKind.u16 x_5],
                                        Value.int IntKind.i64 0])
                                h)
theorem feistel_New.ok {m : Int} {key : Int} {h : Heap} {Q : Value → Heap → Prop} (hk : feistel_New.wp m key h Q) : C Try.prog 36 #[.int .i64 m, .int .u64 key] h Q :=
  C_of_xs (H := feistel_New.H) (lcuts := feistel_New.lc) (rcuts := feistel_New.rc) (l := [.int .i64 m, .int .u64 key]) 2000 mixed Try.func36 rfl (by kernel_rfl) (Eq.mp (by kernel_rfl) hk)
theorem feistel_New.J3.ok {m : Int} {key : Int} {t4_0 : Int} {t4_1 : Int} {t4_2 : Int} {t4_3 : Int} {t4_4 : Int} {t4_5 : Int} {h : Heap} {Q : Value → Heap → Prop} (hk : feistel_New.J3.wp m key t4_0 t4_1 t4_2 t4_3 t4_4 t4_5 h Q) : feistel_New.J3 m key t4_0 t4_1 t4_2 t4_3 t4_4 t4_5 h Q :=
  xs_ok (H := feistel_New.H) (lcuts := feistel_New.lc) (rcuts := [⟨6, [1, 4, 6], [4, 6]⟩]) (fn := Try.f36) mixed Try.func36 2000 _ _ _ (Eq.mp (by kernel_rfl) hk)
theorem feistel_New.L4.ok {m : Int} {key : Int} {t4_0 : Int} {t4_1 : Int} {t4_2 : Int} {t4_3 : Int} {t4_4 : Int} {t4_5 : Int} {p : List Value} {h : Heap} {Q : Value → Heap → Prop} (hk : feistel_New.L4.wp m key t4_0 t4_1 t4_2 t4_3 t4_4 t4_5 p h Q) : feistel_New.L4 m key t4_0 t4_1 t4_2 t4_3 t4_4 t4_5 p h Q :=
  xs_ok (H := feistel_New.H) (lcuts := feistel_New.lc) (rcuts := feistel_New.rc) (fn := Try.f36) mixed Try.func36 2000 _ _ _ (Eq.mp (by kernel_rfl) hk)
theorem feistel_New.J6.ok {key : Int} {t4_0 : Int} {t4_1 : Int} {t4_2 : Int} {t4_3 : Int} {t4_4 : Int} {t4_5 : Int} {p : List Value} {h : Heap} {Q : Value → Heap → Prop} (hk : feistel_New.J6.wp key t4_0 t4_1 t4_2 t4_3 t4_4 t4_5 p h Q) : feistel_New.J6 key t4_0 t4_1 t4_2 t4_3 t4_4 t4_5 p h Q :=
  xs_ok (H := feistel_New.H) (lcuts := feistel_New.lc) (rcuts := [⟨3, [0, 1, 4], [4]⟩]) (fn := Try.f36) mixed Try.func36 2000 _ _ _ (Eq.mp (by kernel_rfl) hk)
theorem feistel_New.L7.ok {key : Int} {t27 : Int} {t4_0 : Int} {t4_1 : Int} {t4_2 : Int} {t4_3 : Int} {t4_4 : Int} {t4_5 : Int} {p : List Value} {h : Heap} {Q : Value → Heap → Prop} (hk : feistel_New.L7.wp key t27 t4_0 t4_1 t4_2 t4_3 t4_4 t4_5 p h Q) : feistel_New.L7 key t27 t4_0 t4_1 t4_2 t4_3 t4_4 t4_5 p h Q :=
  xs_ok (H := feistel_New.H) (lcuts := feistel_New.lc) (rcuts := feistel_New.rc) (fn := Try.f36) mixed Try.func36 2000 _ _ _ (Eq.mp (by kernel_rfl) hk)

/-! (gabion/feistel.Perm).low -/
def feistel_Perm_low.H : Hn := ⟨[], [], []⟩
def feistel_Perm_low.lc : List Cut := []
def feistel_Perm_low.rc : List Cut := []
def feistel_Perm_low.wp (p_0 : Int) (p_1 : Int) (p_2 : Int) (p_3 : Int) (p_4 : Int) (p_5 : Int) (h : Heap) (Q : Value → Heap → Prop) : Prop :=
  0 ≤ p_1 ∧ Q (Value.int IntKind.i64 (IntKind.i64.wrap (ishl IntKind.i64 1 p_1 - 1))) h
theorem feistel_Perm_low.ok {p_0 : Int} {p_1 : Int} {p_2 : Int} {p_3 : Int} {p_4 : Int} {p_5 : Int} {h : Heap} {Q : Value → Heap → Prop} (hk : feistel_Perm_low.wp p_0 p_1 p_2 p_3 p_4 p_5 h Q) : C Try.prog 54 #[.agg #[.int .i64 p_0, .int .i64 p_1, .int .u16 p_2, .int .u16 p_3, .int .u16 p_4, .int .u16 p_5]] h Q :=
  C_of_xs (H := feistel_Perm_low.H) (lcuts := feistel_Perm_low.lc) (rcuts := feistel_Perm_low.rc) (l := [.agg #[.int .i64 p_0, .int .i64 p_1, .int .u16 p_2, .int .u16 p_3, .int .u16 p_4, .int .u16 p_5]]) 2000 mixed Try.func54 rfl (by kernel_rfl) (Eq.mp (by kernel_rfl) hk)

/-! (gabion/feistel.Perm).mix -/
def feistel_Perm_mix.H : Hn := ⟨[], [], []⟩
def feistel_Perm_mix.lc : List Cut := []
def feistel_Perm_mix.rc : List Cut := []
def feistel_Perm_mix.wp (p_0 : Int) (p_1 : Int) (p_2 : Int) (p_3 : Int) (p_4 : Int) (p_5 : Int) (x : Int) (k0 : Int) (h : Heap) (Q : Value → Heap → Prop) : Prop :=
  C Try.prog 54 #[Value.agg #[Value.int IntKind.i64 p_0, Value.int IntKind.i64 p_1, Value.int IntKind.u16 p_2, Value.int IntKind.u16 p_3, Value.int IntKind.u16 p_4, Value.int IntKind.u16 p_5]] h
    fun (r : Value) (h' : Heap) =>
    ∃ (x_1 : Int),
      r = Value.int IntKind.i64 x_1 ∧
        Q
          (Value.int IntKind.i64
            (iand IntKind.i64
              (IntKind.i64.wrap
                (ixor IntKind.u16 (IntKind.u16.wrap (IntKind.u16.wrap (IntKind.u16.wrap (IntKind.u16.wrap x * 40503) + IntKind.u16.wrap (k0 * 52711)) + 12289))
                  (ishr IntKind.u16 (IntKind.u16.wrap (IntKind.u16.wrap (IntKind.u16.wrap (IntKind.u16.wrap x * 40503) + IntKind.u16.wrap (k0 * 52711)) + 12289)) 7)))
              x_1))
          h'
theorem feistel_Perm_mix.ok {p_0 : Int} {p_1 : Int} {p_2 : Int} {p_3 : Int} {p_4 : Int} {p_5 : Int} {x : Int} {k0 : Int} {h : Heap} {Q : Value → Heap → Prop} (hk : feistel_Perm_mix.wp p_0 p_1 p_2 p_3 p_4 p_5 x k0 h Q) : C Try.prog 55 #[.agg #[.int .i64 p_0, .int .i64 p_1, .int .u16 p_2, .int .u16 p_3, .int .u16 p_4, .int .u16 p_5], .int .i64 x, .int .u16 k0] h Q :=
  C_of_xs (H := feistel_Perm_mix.H) (lcuts := feistel_Perm_mix.lc) (rcuts := feistel_Perm_mix.rc) (l := [.agg #[.int .i64 p_0, .int .i64 p_1, .int .u16 p_2, .int .u16 p_3, .int .u16 p_4, .int .u16 p_5], .int .i64 x, .int .u16 k0]) 2000 mixed Try.func55 rfl (by kernel_rfl) (Eq.mp (by kernel_rfl) hk)

/-! (gabion/feistel.Perm).turn -/
def feistel_Perm_turn.H : Hn := ⟨[], [], [⟨1, [0, 1, 2, 3, 4, 5, 6, 7, 8, 9], []⟩]⟩
def feistel_Perm_turn.lc : List Cut := [⟨3, [2, 5, 6, 18, 19], [2]⟩]
def feistel_Perm_turn.rc : List Cut := []
def feistel_Perm_turn.L3 (l : Int) (r0 : Int) (t18_0 : Int) (t18_1 : Int) (t18_2 : Int) (t18_3 : Int) (t19 : Int) (p_2_0 : Int) (p_2_1 : Int) (p_2_2 : Int) (p_2_3 : Int) (p_2_4 : Int) (p_2_5 : Int) (h : Heap) (Q : Value → Heap → Prop) : Prop :=
  TW Try.prog 50 36 [.code (cAt (bodyOf Try.f50) [1, 1, 0, 1, 0, 0]), .inLoop (cAt (bodyOf Try.f50) [1, 1, 0, 1, 0, 0]), .inBlock 0, .code (cAt (bodyOf Try.f50) [1, 1, 1])] ⟨[(2, .p 2 0), (5, .v (.int .i64 l)), (6, .v (.int .i64 r0)), (18, .v (.agg #[.int .u16 t18_0, .int .u16 t18_1, .int .u16 t18_2, .int .u16 t18_3])), (19, .v (.int .i64 t19))], [(2, [.int .i64 p_2_0, .int .i64 p_2_1, .int .u16 p_2_2, .int .u16 p_2_3, .int .u16 p_2_4, .int .u16 p_2_5])]⟩ h Q
def feistel_Perm_turn.wp (p_0 : Int) (p_1 : Int) (p_2 : Int) (p_3 : Int) (p_4 : Int) (p_5 : Int) (n : Int) (h : Heap) (Q : Value → Heap → Prop) : Prop :=
  0 ≤ p_1 ∧
    C Try.prog 54 #[Value.agg #[Value.int IntKind.i64 p_0, Value.int IntKind.i64 p_1, Value.int IntKind.u16 p_2, Value.int IntKind.u16 p_3, Value.int IntKind.u16 p_4, Value.int IntKind.u16 p_5]] h
      fun (r : Value) (h' : Heap) => ∃ (x : Int), r = Value.int IntKind.i64 x ∧ feistel_Perm_turn.L3 (ishr IntKind.i64 n p_1) (iand IntKind.i64 n x) p_2 p_3 p_4 p_5 0 p_0 p_1 p_2 p_3 p_4 p_5 h' Q
def feistel_Perm_turn.L3.wp (l : Int) (r0 : Int) (t18_0 : Int) (t18_1 : Int) (t18_2 : Int) (t18_3 : Int) (t19 : Int) (p_2_0 : Int) (p_2_1 : Int) (p_2_2 : Int) (p_2_3 : Int) (p_2_4 : Int) (p_2_5 : Int) (h : Heap) (Q : Value → Heap → Prop) : Prop :=
  xsIf (decide (t19 < 4))
    ((0 ≤ t19 ∧ t19 < (↑4 : Int)) ∧
      ∃ (x : Int),
        lget [Value.int IntKind.u16 t18_0, Value.int IntKind.u16 t18_1, Value.int IntKind.u16 t18_2, Value.int IntKind.u16 t18_3] (t19.toNat * 1) = some (Value.int IntKind.u16 x) ∧
          C Try.prog 55
            #[Value.agg #[Value.int IntKind.i64 p_2_0, Value.int IntKind.i64 p_2_1, Value.int IntKind.u16 p_2_2, Value.int IntKind.u16 p_2_3, Value.int IntKind.u16 p_2_4, Value.int IntKind.u16 p_2_5], Value.int IntKind.i64 r0,
                  Value.int IntKind.u16 x]
            h fun (r : Value) (h' : Heap) => ∃ (x : Int), r = Value.int IntKind.i64 x ∧ feistel_Perm_turn.L3 r0 (ixor IntKind.i64 l x) t18_0 t18_1 t18_2 t18_3 (IntKind.i64.wrap (t19 + 1)) p_2_0 p_2_1 p_2_2 p_2_3 p_2_4 p_2_5 h' Q)
    (0 ≤ p_2_1 ∧ Q (Value.int IntKind.i64 (ior IntKind.i64 (ishl IntKind.i64 l p_2_1) r0)) h)
theorem feistel_Perm_turn.ok {p_0 : Int} {p_1 : Int} {p_2 : Int} {p_3 : Int} {p_4 : Int} {p_5 : Int} {n : Int} {h : Heap} {Q : Value → Heap → Prop} (hk : feistel_Perm_turn.wp p_0 p_1 p_2 p_3 p_4 p_5 n h Q) : C Try.prog 50 #[.agg #[.int .i64 p_0, .int .i64 p_1, .int .u16 p_2, .int .u16 p_3, .int .u16 p_4, .int .u16 p_5], .int .i64 n] h Q :=
  C_of_xs (H := feistel_Perm_turn.H) (lcuts := feistel_Perm_turn.lc) (rcuts := feistel_Perm_turn.rc) (l := [.agg #[.int .i64 p_0, .int .i64 p_1, .int .u16 p_2, .int .u16 p_3, .int .u16 p_4, .int .u16 p_5], .int .i64 n]) 2000 mixed Try.func50 rfl (by kernel_rfl) (Eq.mp (by kernel_rfl) hk)
theorem feistel_Perm_turn.L3.ok {l : Int} {r0 : Int} {t18_0 : Int} {t18_1 : Int} {t18_2 : Int} {t18_3 : Int} {t19 : Int} {p_2_0 : Int} {p_2_1 : Int} {p_2_2 : Int} {p_2_3 : Int} {p_2_4 : Int} {p_2_5 : Int} {h : Heap} {Q : Value → Heap → Prop} (hk : feistel_Perm_turn.L3.wp l r0 t18_0 t18_1 t18_2 t18_3 t19 p_2_0 p_2_1 p_2_2 p_2_3 p_2_4 p_2_5 h Q) : feistel_Perm_turn.L3 l r0 t18_0 t18_1 t18_2 t18_3 t19 p_2_0 p_2_1 p_2_2 p_2_3 p_2_4 p_2_5 h Q :=
  xs_ok (H := feistel_Perm_turn.H) (lcuts := feistel_Perm_turn.lc) (rcuts := feistel_Perm_turn.rc) (fn := Try.f50) mixed Try.func50 2000 _ _ _ (Eq.mp (by kernel_rfl) hk)

/-! (gabion/feistel.Perm).walk -/
def feistel_Perm_walk.H : Hn := ⟨[], [], []⟩
def feistel_Perm_walk.lc : List Cut := [⟨4, [1, 2, 3], [3]⟩]
def feistel_Perm_walk.rc : List Cut := []
def feistel_Perm_walk.L4 (i : Int) (step : Nat) (step_a : Array Value) (step_c : Array Value) (p_3_0 : Int) (p_3_1 : Int) (p_3_2 : Int) (p_3_3 : Int) (p_3_4 : Int) (p_3_5 : Int) (h : Heap) (Q : Value → Heap → Prop) : Prop :=
  TW Try.prog 49 26 [.code (cAt (bodyOf Try.f49) [1, 1, 0, 1, 0, 0]), .inLoop (cAt (bodyOf Try.f49) [1, 1, 0, 1, 0, 0]), .inBlock 0, .code (cAt (bodyOf Try.f49) [1, 1, 1])] ⟨[(1, .v (.int .i64 i)), (2, .v (.func (.func step) step_a step_c)), (3, .p 3 0)], [(3, [.int .i64 p_3_0, .int .i64 p_3_1, .int .u16 p_3_2, .int .u16 p_3_3, .int .u16 p_3_4, .int .u16 p_3_5])]⟩ h Q
def feistel_Perm_walk.wp (p_0 : Int) (p_1 : Int) (p_2 : Int) (p_3 : Int) (p_4 : Int) (p_5 : Int) (i : Int) (step : Nat) (step_a : Array Value) (step_c : Array Value) (h : Heap) (Q : Value → Heap → Prop) : Prop :=
  xsIf (decide (i < 0)) (Q (Value.int IntKind.i64 (-1)) h)
    (xsIf (decide (p_0 ≤ i)) (Q (Value.int IntKind.i64 (-1)) h)
      (xsIf (goOk Try.prog step)
        (C Try.prog step { toList := step_a.toList ++ [Value.int IntKind.i64 i] ++ step_c.toList } h fun (r : Value) (h' : Heap) =>
          ∃ (x : Int), r = Value.int IntKind.i64 x ∧ feistel_Perm_walk.L4 x step step_a step_c p_0 p_1 p_2 p_3 p_4 p_5 h' Q)
        False))
def feistel_Perm_walk.L4.wp (i : Int) (step : Nat) (step_a : Array Value) (step_c : Array Value) (p_3_0 : Int) (p_3_1 : Int) (p_3_2 : Int) (p_3_3 : Int) (p_3_4 : Int) (p_3_5 : Int) (h : Heap) (Q : Value → Heap → Prop) : Prop :=
  xsIf (decide (p_3_0 ≤ i))
    (xsIf (goOk Try.prog step)
      (C Try.prog step { toList := step_a.toList ++ [Value.int IntKind.i64 i] ++ step_c.toList } h fun (r : Value) (h' : Heap) =>
        ∃ (x : Int), r = Value.int IntKind.i64 x ∧ feistel_Perm_walk.L4 x step step_a step_c p_3_0 p_3_1 p_3_2 p_3_3 p_3_4 p_3_5 h' Q)
      False)
    (Q (Value.int IntKind.i64 i) h)
theorem feistel_Perm_walk.ok {p_0 : Int} {p_1 : Int} {p_2 : Int} {p_3 : Int} {p_4 : Int} {p_5 : Int} {i : Int} {step : Nat} {step_a : Array Value} {step_c : Array Value} {h : Heap} {Q : Value → Heap → Prop} (hk : feistel_Perm_walk.wp p_0 p_1 p_2 p_3 p_4 p_5 i step step_a step_c h Q) : C Try.prog 49 #[.agg #[.int .i64 p_0, .int .i64 p_1, .int .u16 p_2, .int .u16 p_3, .int .u16 p_4, .int .u16 p_5], .int .i64 i, .func (.func step) step_a step_c] h Q :=
  C_of_xs (H := feistel_Perm_walk.H) (lcuts := feistel_Perm_walk.lc) (rcuts := feistel_Perm_walk.rc) (l := [.agg #[.int .i64 p_0, .int .i64 p_1, .int .u16 p_2, .int .u16 p_3, .int .u16 p_4, .int .u16 p_5], .int .i64 i, .func (.func step) step_a step_c]) 2000 mixed Try.func49 rfl (by kernel_rfl) (Eq.mp (by kernel_rfl) hk)
theorem feistel_Perm_walk.L4.ok {i : Int} {step : Nat} {step_a : Array Value} {step_c : Array Value} {p_3_0 : Int} {p_3_1 : Int} {p_3_2 : Int} {p_3_3 : Int} {p_3_4 : Int} {p_3_5 : Int} {h : Heap} {Q : Value → Heap → Prop} (hk : feistel_Perm_walk.L4.wp i step step_a step_c p_3_0 p_3_1 p_3_2 p_3_3 p_3_4 p_3_5 h Q) : feistel_Perm_walk.L4 i step step_a step_c p_3_0 p_3_1 p_3_2 p_3_3 p_3_4 p_3_5 h Q :=
  xs_ok (H := feistel_Perm_walk.H) (lcuts := feistel_Perm_walk.lc) (rcuts := feistel_Perm_walk.rc) (fn := Try.f49) mixed Try.func49 2000 _ _ _ (Eq.mp (by kernel_rfl) hk)

/-! (gabion/feistel.Perm).To -/
def feistel_Perm_To.H : Hn := ⟨[], [], []⟩
def feistel_Perm_To.lc : List Cut := []
def feistel_Perm_To.rc : List Cut := []
def feistel_Perm_To.wp (p_0 : Int) (p_1 : Int) (p_2 : Int) (p_3 : Int) (p_4 : Int) (p_5 : Int) (i : Int) (h : Heap) (Q : Value → Heap → Prop) : Prop :=
  C Try.prog 49
    #[Value.agg #[Value.int IntKind.i64 p_0, Value.int IntKind.i64 p_1, Value.int IntKind.u16 p_2, Value.int IntKind.u16 p_3, Value.int IntKind.u16 p_4, Value.int IntKind.u16 p_5], Value.int IntKind.i64 i,
          Value.func (Fn.func 50) #[Value.agg #[Value.int IntKind.i64 p_0, Value.int IntKind.i64 p_1, Value.int IntKind.u16 p_2, Value.int IntKind.u16 p_3, Value.int IntKind.u16 p_4, Value.int IntKind.u16 p_5]]
            #[]]
    h fun (r : Value) (h' : Heap) => ∃ (x : Int), r = Value.int IntKind.i64 x ∧ Q (Value.int IntKind.i64 x) h'
theorem feistel_Perm_To.ok {p_0 : Int} {p_1 : Int} {p_2 : Int} {p_3 : Int} {p_4 : Int} {p_5 : Int} {i : Int} {h : Heap} {Q : Value → Heap → Prop} (hk : feistel_Perm_To.wp p_0 p_1 p_2 p_3 p_4 p_5 i h Q) : C Try.prog 37 #[.agg #[.int .i64 p_0, .int .i64 p_1, .int .u16 p_2, .int .u16 p_3, .int .u16 p_4, .int .u16 p_5], .int .i64 i] h Q :=
  C_of_xs (H := feistel_Perm_To.H) (lcuts := feistel_Perm_To.lc) (rcuts := feistel_Perm_To.rc) (l := [.agg #[.int .i64 p_0, .int .i64 p_1, .int .u16 p_2, .int .u16 p_3, .int .u16 p_4, .int .u16 p_5], .int .i64 i]) 2000 mixed Try.func37 rfl (by kernel_rfl) (Eq.mp (by kernel_rfl) hk)

/-! (gabion/feistel.Perm).Size -/
def feistel_Perm_Size.H : Hn := ⟨[], [], []⟩
def feistel_Perm_Size.lc : List Cut := []
def feistel_Perm_Size.rc : List Cut := []
def feistel_Perm_Size.wp (p_0 : Int) (p_1 : Int) (p_2 : Int) (p_3 : Int) (p_4 : Int) (p_5 : Int) (h : Heap) (Q : Value → Heap → Prop) : Prop :=
  Q (Value.int IntKind.i64 p_0) h
theorem feistel_Perm_Size.ok {p_0 : Int} {p_1 : Int} {p_2 : Int} {p_3 : Int} {p_4 : Int} {p_5 : Int} {h : Heap} {Q : Value → Heap → Prop} (hk : feistel_Perm_Size.wp p_0 p_1 p_2 p_3 p_4 p_5 h Q) : C Try.prog 38 #[.agg #[.int .i64 p_0, .int .i64 p_1, .int .u16 p_2, .int .u16 p_3, .int .u16 p_4, .int .u16 p_5]] h Q :=
  C_of_xs (H := feistel_Perm_Size.H) (lcuts := feistel_Perm_Size.lc) (rcuts := feistel_Perm_Size.rc) (l := [.agg #[.int .i64 p_0, .int .i64 p_1, .int .u16 p_2, .int .u16 p_3, .int .u16 p_4, .int .u16 p_5]]) 2000 mixed Try.func38 rfl (by kernel_rfl) (Eq.mp (by kernel_rfl) hk)

/-! (gabion/feistel.Perm).back -/
def feistel_Perm_back.H : Hn := ⟨[], [2], [⟨1, [0, 1, 2, 3, 4, 5, 6, 7, 8, 9], []⟩, ⟨5, [0, 1, 2, 3, 4, 5, 6, 9, 7, 8, 10, 11], []⟩]⟩
def feistel_Perm_back.lc : List Cut := [⟨3, [2, 5, 6, 7], [2]⟩]
def feistel_Perm_back.rc : List Cut := []
def feistel_Perm_back.L3 (l : Int) (r0 : Int) (j : Int) (p_2 : List Value) (h : Heap) (Q : Value → Heap → Prop) : Prop :=
  TW Try.prog 51 36 [.code (cAt (bodyOf Try.f51) [1, 1, 0, 1, 0, 0]), .inLoop (cAt (bodyOf Try.f51) [1, 1, 0, 1, 0, 0]), .inBlock 0, .code (cAt (bodyOf Try.f51) [1, 1, 1])] ⟨[(2, .p 2 0), (5, .v (.int .i64 l)), (6, .v (.int .i64 r0)), (7, .v (.int .i64 j))], [(2, p_2)]⟩ h Q
def feistel_Perm_back.wp (p_0 : Int) (p_1 : Int) (p_2 : Int) (p_3 : Int) (p_4 : Int) (p_5 : Int) (n : Int) (h : Heap) (Q : Value → Heap → Prop) : Prop :=
  ∃ (x : Int),
    lget [Value.int IntKind.i64 p_0, Value.int IntKind.i64 p_1, Value.int IntKind.u16 p_2, Value.int IntKind.u16 p_3, Value.int IntKind.u16 p_4, Value.int IntKind.u16 p_5] 1 = some (Value.int IntKind.i64 x) ∧
      0 ≤ x ∧
        6 ≤ [Value.int IntKind.i64 p_0, Value.int IntKind.i64 p_1, Value.int IntKind.u16 p_2, Value.int IntKind.u16 p_3, Value.int IntKind.u16 p_4, Value.int IntKind.u16 p_5].length ∧
          ∃ (x_1 : Int),
            lget [Value.int IntKind.i64 p_0, Value.int IntKind.i64 p_1, Value.int IntKind.u16 p_2, Value.int IntKind.u16 p_3, Value.int IntKind.u16 p_4, Value.int IntKind.u16 p_5] 0 = some (Value.int IntKind.i64 x_1) ∧
              ∃ (x_2 : Int),
                lget [Value.int IntKind.i64 p_0, Value.int IntKind.i64 p_1, Value.int IntKind.u16 p_2, Value.int IntKind.u16 p_3, Value.int IntKind.u16 p_4, Value.int IntKind.u16 p_5] 1 = some (Value.int IntKind.i64 x_2) ∧
                  ∃ (x_3 : Int),
                    lget [Value.int IntKind.i64 p_0, Value.int IntKind.i64 p_1, Value.int IntKind.u16 p_2, Value.int IntKind.u16 p_3, Value.int IntKind.u16 p_4, Value.int IntKind.u16 p_5] 2 = some (Value.int IntKind.u16 x_3) ∧
                      ∃ (x_4 : Int),
                        lget [Value.int IntKind.i64 p_0, Value.int IntKind.i64 p_1, Value.int IntKind.u16 p_2, Value.int IntKind.u16 p_3, Value.int IntKind.u16 p_4, Value.int IntKind.u16 p_5] 3 = some (Value.int IntKind.u16 x_4) ∧
                          ∃ (x_5 : Int),
                            lget [Value.int IntKind.i64 p_0, Value.int IntKind.i64 p_1, Value.int IntKind.u16 p_2, Value.int IntKind.u16 p_3, Value.int IntKind.u16 p_4, Value.int IntKind.u16 p_5] 4 = some (Value.int IntKind.u16 x_5) ∧
                              ∃ (x_6 : Int),
                                lget [Value.int IntKind.i64 p_0, Value.int IntKind.i64 p_1, Value.int IntKind.u16 p_2, Value.int IntKind.u16 p_3, Value.int IntKind.u16 p_4, Value.int IntKind.u16 p_5] 5 = some (Value.int IntKind.u16 x_6) ∧
                                  C Try.prog 54
                                    #[Value.agg #[Value.int IntKind.i64 x_1, Value.int IntKind.i64 x_2, Value.int IntKind.u16 x_3, Value.int IntKind.u16 x_4, Value.int IntKind.u16 x_5, Value.int IntKind.u16 x_6]] h
                                    fun (r : Value) (h' : Heap) =>
                                    ∃ (x_7 : Int),
                                      r = Value.int IntKind.i64 x_7 ∧
                                        feistel_Perm_back.L3 (ishr IntKind.i64 n x) (iand IntKind.i64 n x_7) 3
                                          [Value.int IntKind.i64 p_0, Value.int IntKind.i64 p_1, Value.int IntKind.u16 p_2, Value.int IntKind.u16 p_3, Value.int IntKind.u16 p_4, Value.int IntKind.u16 p_5] h' Q
def feistel_Perm_back.L3.wp (l : Int) (r0 : Int) (j : Int) (p_2 : List Value) (h : Heap) (Q : Value → Heap → Prop) : Prop :=
  xsIf (decide (0 ≤ j))
    (6 ≤ p_2.length ∧
      ∃ (x : Int),
        lget p_2 0 = some (Value.int IntKind.i64 x) ∧
          ∃ (x_1 : Int),
            lget p_2 1 = some (Value.int IntKind.i64 x_1) ∧
              ∃ (x_2 : Int),
                lget p_2 2 = some (Value.int IntKind.u16 x_2) ∧
                  ∃ (x_3 : Int),
                    lget p_2 3 = some (Value.int IntKind.u16 x_3) ∧
                      ∃ (x_4 : Int),
                        lget p_2 4 = some (Value.int IntKind.u16 x_4) ∧
                          ∃ (x_5 : Int),
                            lget p_2 5 = some (Value.int IntKind.u16 x_5) ∧
                              (0 ≤ j ∧ j < (↑4 : Int)) ∧
                                ∃ (x_6 : Int),
                                  lget p_2 (2 + j.toNat * 1) = some (Value.int IntKind.u16 x_6) ∧
                                    C Try.prog 55
                                      #[Value.agg #[Value.int IntKind.i64 x, Value.int IntKind.i64 x_1, Value.int IntKind.u16 x_2, Value.int IntKind.u16 x_3, Value.int IntKind.u16 x_4, Value.int IntKind.u16 x_5],
                                            Value.int IntKind.i64 l, Value.int IntKind.u16 x_6]
                                      h fun (r : Value) (h' : Heap) => ∃ (x : Int), r = Value.int IntKind.i64 x ∧ feistel_Perm_back.L3 (ixor IntKind.i64 r0 x) l (IntKind.i64.wrap (j - 1)) p_2 h' Q)
    (∃ (x : Int), lget p_2 1 = some (Value.int IntKind.i64 x) ∧ 0 ≤ x ∧ Q (Value.int IntKind.i64 (ior IntKind.i64 (ishl IntKind.i64 l x) r0)) h)
theorem feistel_Perm_back.ok {p_0 : Int} {p_1 : Int} {p_2 : Int} {p_3 : Int} {p_4 : Int} {p_5 : Int} {n : Int} {h : Heap} {Q : Value → Heap → Prop} (hk : feistel_Perm_back.wp p_0 p_1 p_2 p_3 p_4 p_5 n h Q) : C Try.prog 51 #[.agg #[.int .i64 p_0, .int .i64 p_1, .int .u16 p_2, .int .u16 p_3, .int .u16 p_4, .int .u16 p_5], .int .i64 n] h Q :=
  C_of_xs (H := feistel_Perm_back.H) (lcuts := feistel_Perm_back.lc) (rcuts := feistel_Perm_back.rc) (l := [.agg #[.int .i64 p_0, .int .i64 p_1, .int .u16 p_2, .int .u16 p_3, .int .u16 p_4, .int .u16 p_5], .int .i64 n]) 2000 mixed Try.func51 rfl (by kernel_rfl) (Eq.mp (by kernel_rfl) hk)
theorem feistel_Perm_back.L3.ok {l : Int} {r0 : Int} {j : Int} {p_2 : List Value} {h : Heap} {Q : Value → Heap → Prop} (hk : feistel_Perm_back.L3.wp l r0 j p_2 h Q) : feistel_Perm_back.L3 l r0 j p_2 h Q :=
  xs_ok (H := feistel_Perm_back.H) (lcuts := feistel_Perm_back.lc) (rcuts := feistel_Perm_back.rc) (fn := Try.f51) mixed Try.func51 2000 _ _ _ (Eq.mp (by kernel_rfl) hk)

/-! (gabion/feistel.Perm).From -/
def feistel_Perm_From.H : Hn := ⟨[], [], []⟩
def feistel_Perm_From.lc : List Cut := []
def feistel_Perm_From.rc : List Cut := []
def feistel_Perm_From.wp (p_0 : Int) (p_1 : Int) (p_2 : Int) (p_3 : Int) (p_4 : Int) (p_5 : Int) (i : Int) (h : Heap) (Q : Value → Heap → Prop) : Prop :=
  C Try.prog 49
    #[Value.agg #[Value.int IntKind.i64 p_0, Value.int IntKind.i64 p_1, Value.int IntKind.u16 p_2, Value.int IntKind.u16 p_3, Value.int IntKind.u16 p_4, Value.int IntKind.u16 p_5], Value.int IntKind.i64 i,
          Value.func (Fn.func 51) #[Value.agg #[Value.int IntKind.i64 p_0, Value.int IntKind.i64 p_1, Value.int IntKind.u16 p_2, Value.int IntKind.u16 p_3, Value.int IntKind.u16 p_4, Value.int IntKind.u16 p_5]]
            #[]]
    h fun (r : Value) (h' : Heap) => ∃ (x : Int), r = Value.int IntKind.i64 x ∧ Q (Value.int IntKind.i64 x) h'
theorem feistel_Perm_From.ok {p_0 : Int} {p_1 : Int} {p_2 : Int} {p_3 : Int} {p_4 : Int} {p_5 : Int} {i : Int} {h : Heap} {Q : Value → Heap → Prop} (hk : feistel_Perm_From.wp p_0 p_1 p_2 p_3 p_4 p_5 i h Q) : C Try.prog 39 #[.agg #[.int .i64 p_0, .int .i64 p_1, .int .u16 p_2, .int .u16 p_3, .int .u16 p_4, .int .u16 p_5], .int .i64 i] h Q :=
  C_of_xs (H := feistel_Perm_From.H) (lcuts := feistel_Perm_From.lc) (rcuts := feistel_Perm_From.rc) (l := [.agg #[.int .i64 p_0, .int .i64 p_1, .int .u16 p_2, .int .u16 p_3, .int .u16 p_4, .int .u16 p_5], .int .i64 i]) 2000 mixed Try.func39 rfl (by kernel_rfl) (Eq.mp (by kernel_rfl) hk)

/-! gabion/gabionref08.Half -/
def gabionref08_Half.H : Hn := ⟨[], [], []⟩
def gabionref08_Half.lc : List Cut := [⟨3, [0, 3, 4], []⟩]
def gabionref08_Half.rc : List Cut := []
def gabionref08_Half.L3 (m : Int) (h0 : Int) (n : Int) (h : Heap) (Q : Value → Heap → Prop) : Prop :=
  TW Try.prog 52 13 [.code (cAt (bodyOf Try.f52) [1, 1, 1, 0, 0, 0]), .inLoop (cAt (bodyOf Try.f52) [1, 1, 1, 0, 0, 0]), .inBlock 0, .code (cAt (bodyOf Try.f52) [1, 1, 1, 1])] ⟨[(0, .v (.int .i64 m)), (3, .v (.int .i64 h0)), (4, .v (.int .i64 n))], []⟩ h Q
def gabionref08_Half.wp (m : Int) (h : Heap) (Q : Value → Heap → Prop) : Prop :=
  gabionref08_Half.L3 m 1 4 h Q
def gabionref08_Half.L3.wp (m : Int) (h0 : Int) (n : Int) (h : Heap) (Q : Value → Heap → Prop) : Prop :=
  xsIf (decide (n < m)) (gabionref08_Half.L3 m (IntKind.i64.wrap (h0 + 1)) (IntKind.i64.wrap (4 * n)) h Q) (Q (Value.int IntKind.i64 h0) h)
theorem gabionref08_Half.ok {m : Int} {h : Heap} {Q : Value → Heap → Prop} (hk : gabionref08_Half.wp m h Q) : C Try.prog 52 #[.int .i64 m] h Q :=
  C_of_xs (H := gabionref08_Half.H) (lcuts := gabionref08_Half.lc) (rcuts := gabionref08_Half.rc) (l := [.int .i64 m]) 2000 mixed Try.func52 rfl (by kernel_rfl) (Eq.mp (by kernel_rfl) hk)
theorem gabionref08_Half.L3.ok {m : Int} {h0 : Int} {n : Int} {h : Heap} {Q : Value → Heap → Prop} (hk : gabionref08_Half.L3.wp m h0 n h Q) : gabionref08_Half.L3 m h0 n h Q :=
  xs_ok (H := gabionref08_Half.H) (lcuts := gabionref08_Half.lc) (rcuts := gabionref08_Half.rc) (fn := Try.f52) mixed Try.func52 2000 _ _ _ (Eq.mp (by kernel_rfl) hk)

/-! gabion/gabionref08.power -/
def gabionref08_power.H : Hn := ⟨[], [], []⟩
def gabionref08_power.lc : List Cut := [⟨3, [0, 3, 4], []⟩]
def gabionref08_power.rc : List Cut := []
def gabionref08_power.L3 (n : Int) (p : Int) (i : Int) (h : Heap) (Q : Value → Heap → Prop) : Prop :=
  TW Try.prog 56 13 [.code (cAt (bodyOf Try.f56) [1, 1, 0, 1, 0, 0]), .inLoop (cAt (bodyOf Try.f56) [1, 1, 0, 1, 0, 0]), .inBlock 0, .code (cAt (bodyOf Try.f56) [1, 1, 1])] ⟨[(0, .v (.int .i64 n)), (3, .v (.int .i64 p)), (4, .v (.int .i64 i))], []⟩ h Q
def gabionref08_power.wp (n : Int) (h : Heap) (Q : Value → Heap → Prop) : Prop :=
  gabionref08_power.L3 n 1 0 h Q
def gabionref08_power.L3.wp (n : Int) (p : Int) (i : Int) (h : Heap) (Q : Value → Heap → Prop) : Prop :=
  xsIf (decide (i < n)) (gabionref08_power.L3 n (IntKind.i64.wrap (2 * p)) (IntKind.i64.wrap (i + 1)) h Q) (Q (Value.int IntKind.i64 p) h)
theorem gabionref08_power.ok {n : Int} {h : Heap} {Q : Value → Heap → Prop} (hk : gabionref08_power.wp n h Q) : C Try.prog 56 #[.int .i64 n] h Q :=
  C_of_xs (H := gabionref08_power.H) (lcuts := gabionref08_power.lc) (rcuts := gabionref08_power.rc) (l := [.int .i64 n]) 2000 mixed Try.func56 rfl (by kernel_rfl) (Eq.mp (by kernel_rfl) hk)
theorem gabionref08_power.L3.ok {n : Int} {p : Int} {i : Int} {h : Heap} {Q : Value → Heap → Prop} (hk : gabionref08_power.L3.wp n p i h Q) : gabionref08_power.L3 n p i h Q :=
  xs_ok (H := gabionref08_power.H) (lcuts := gabionref08_power.lc) (rcuts := gabionref08_power.rc) (fn := Try.f56) mixed Try.func56 2000 _ _ _ (Eq.mp (by kernel_rfl) hk)

/-! gabion/gabionref08.xor -/
def gabionref08_xor.H : Hn := ⟨[], [], []⟩
def gabionref08_xor.lc : List Cut := [⟨3, [0, 1, 5, 6], []⟩]
def gabionref08_xor.rc : List Cut := [⟨4, [0, 1, 5, 6], []⟩]
def gabionref08_xor.L3 (a : Int) (b : Int) (n : Int) (m : Int) (h : Heap) (Q : Value → Heap → Prop) : Prop :=
  TW Try.prog 58 28 [.code (cAt (bodyOf Try.f58) [1, 1, 1, 0, 0, 0]), .inLoop (cAt (bodyOf Try.f58) [1, 1, 1, 0, 0, 0]), .inBlock 0, .code (cAt (bodyOf Try.f58) [1, 1, 1, 1])] ⟨[(0, .v (.int .i64 a)), (1, .v (.int .i64 b)), (5, .v (.int .i64 n)), (6, .v (.int .i64 m))], []⟩ h Q
def gabionref08_xor.J4 (a : Int) (b : Int) (n : Int) (m : Int) (h : Heap) (Q : Value → Heap → Prop) : Prop :=
  TW Try.prog 58 28 [.code (cAt (bodyOf Try.f58) [1, 1, 1, 0, 0, 0, 1, 0, 0, 0]), .code (cAt (bodyOf Try.f58) [1, 1, 1, 0, 0, 0, 1, 0, 0, 1]), .code (cAt (bodyOf Try.f58) [1, 1, 1, 0, 0, 0, 1, 0, 1]), .inBlock 1, .inLoop (cAt (bodyOf Try.f58) [1, 1, 1, 0, 0, 0]), .inBlock 0, .code (cAt (bodyOf Try.f58) [1, 1, 1, 1])] ⟨[(0, .v (.int .i64 a)), (1, .v (.int .i64 b)), (5, .v (.int .i64 n)), (6, .v (.int .i64 m))], []⟩ h Q
def gabionref08_xor.wp (a : Int) (b : Int) (h : Heap) (Q : Value → Heap → Prop) : Prop :=
  gabionref08_xor.L3 a b 0 1 h Q
def gabionref08_xor.L3.wp (a : Int) (b : Int) (n : Int) (m : Int) (h : Heap) (Q : Value → Heap → Prop) : Prop :=
  xsIf (decide (0 < a)) (gabionref08_xor.J4 a b n m h Q) (xsIf (decide (0 < b)) (gabionref08_xor.J4 a b n m h Q) (Q (Value.int IntKind.i64 n) h))
def gabionref08_xor.J4.wp (a : Int) (b : Int) (n : Int) (m : Int) (h : Heap) (Q : Value → Heap → Prop) : Prop :=
  xsIf (decide (irem a 2 ≠ irem b 2)) (gabionref08_xor.L3 (iquo IntKind.i64 a 2) (iquo IntKind.i64 b 2) (IntKind.i64.wrap (n + m)) (IntKind.i64.wrap (2 * m)) h Q)
    (gabionref08_xor.L3 (iquo IntKind.i64 a 2) (iquo IntKind.i64 b 2) n (IntKind.i64.wrap (2 * m)) h Q)
theorem gabionref08_xor.ok {a : Int} {b : Int} {h : Heap} {Q : Value → Heap → Prop} (hk : gabionref08_xor.wp a b h Q) : C Try.prog 58 #[.int .i64 a, .int .i64 b] h Q :=
  C_of_xs (H := gabionref08_xor.H) (lcuts := gabionref08_xor.lc) (rcuts := gabionref08_xor.rc) (l := [.int .i64 a, .int .i64 b]) 2000 mixed Try.func58 rfl (by kernel_rfl) (Eq.mp (by kernel_rfl) hk)
theorem gabionref08_xor.L3.ok {a : Int} {b : Int} {n : Int} {m : Int} {h : Heap} {Q : Value → Heap → Prop} (hk : gabionref08_xor.L3.wp a b n m h Q) : gabionref08_xor.L3 a b n m h Q :=
  xs_ok (H := gabionref08_xor.H) (lcuts := gabionref08_xor.lc) (rcuts := gabionref08_xor.rc) (fn := Try.f58) mixed Try.func58 2000 _ _ _ (Eq.mp (by kernel_rfl) hk)
theorem gabionref08_xor.J4.ok {a : Int} {b : Int} {n : Int} {m : Int} {h : Heap} {Q : Value → Heap → Prop} (hk : gabionref08_xor.J4.wp a b n m h Q) : gabionref08_xor.J4 a b n m h Q :=
  xs_ok (H := gabionref08_xor.H) (lcuts := gabionref08_xor.lc) (rcuts := []) (fn := Try.f58) mixed Try.func58 2000 _ _ _ (Eq.mp (by kernel_rfl) hk)

/-! gabion/gabionref08.mix -/
def gabionref08_mix.H : Hn := ⟨[], [], []⟩
def gabionref08_mix.lc : List Cut := []
def gabionref08_mix.rc : List Cut := []
def gabionref08_mix.wp (x : Int) (k0 : Int) (h0 : Int) (h : Heap) (Q : Value → Heap → Prop) : Prop :=
  C Try.prog 58
    #[Value.int IntKind.i64 (irem (IntKind.i64.wrap (IntKind.i64.wrap (IntKind.i64.wrap (x * 40503) + IntKind.i64.wrap (k0 * 52711)) + 12289)) 65536),
          Value.int IntKind.i64 (iquo IntKind.i64 (irem (IntKind.i64.wrap (IntKind.i64.wrap (IntKind.i64.wrap (x * 40503) + IntKind.i64.wrap (k0 * 52711)) + 12289)) 65536) 128)]
    h fun (r : Value) (h' : Heap) =>
    ∃ (x : Int), r = Value.int IntKind.i64 x ∧ C Try.prog 56 #[Value.int IntKind.i64 h0] h' fun (r : Value) (h' : Heap) => ∃ (x_1 : Int), r = Value.int IntKind.i64 x_1 ∧ x_1 ≠ 0 ∧ Q (Value.int IntKind.i64 (irem x x_1)) h'
theorem gabionref08_mix.ok {x : Int} {k0 : Int} {h0 : Int} {h : Heap} {Q : Value → Heap → Prop} (hk : gabionref08_mix.wp x k0 h0 h Q) : C Try.prog 57 #[.int .i64 x, .int .i64 k0, .int .i64 h0] h Q :=
  C_of_xs (H := gabionref08_mix.H) (lcuts := gabionref08_mix.lc) (rcuts := gabionref08_mix.rc) (l := [.int .i64 x, .int .i64 k0, .int .i64 h0]) 2000 mixed Try.func57 rfl (by kernel_rfl) (Eq.mp (by kernel_rfl) hk)

/-! gabion/gabionref08.turn -/
def gabionref08_turn.H : Hn := ⟨[], [], []⟩
def gabionref08_turn.lc : List Cut := [⟨5, [1, 2, 7, 8, 9, 10], []⟩]
def gabionref08_turn.rc : List Cut := []
def gabionref08_turn.L5 (h0 : Int) (key : Int) (p : Int) (l : Int) (r0 : Int) (j : Int) (h : Heap) (Q : Value → Heap → Prop) : Prop :=
  TW Try.prog 53 45 [.code (cAt (bodyOf Try.f53) [1, 1, 1, 1, 0, 1, 0, 0]), .inLoop (cAt (bodyOf Try.f53) [1, 1, 1, 1, 0, 1, 0, 0]), .inBlock 0, .code (cAt (bodyOf Try.f53) [1, 1, 1, 1, 1])] ⟨[(1, .v (.int .i64 h0)), (2, .v (.int .u64 key)), (7, .v (.int .i64 p)), (8, .v (.int .i64 l)), (9, .v (.int .i64 r0)), (10, .v (.int .i64 j))], []⟩ h Q
def gabionref08_turn.wp (n : Int) (h0 : Int) (key : Int) (h : Heap) (Q : Value → Heap → Prop) : Prop :=
  C Try.prog 56 #[Value.int IntKind.i64 h0] h fun (r : Value) (h' : Heap) => ∃ (x : Int), r = Value.int IntKind.i64 x ∧ x ≠ 0 ∧ x ≠ 0 ∧ gabionref08_turn.L5 h0 key x (iquo IntKind.i64 n x) (irem n x) 0 h' Q
def gabionref08_turn.L5.wp (h0 : Int) (key : Int) (p : Int) (l : Int) (r0 : Int) (j : Int) (h : Heap) (Q : Value → Heap → Prop) : Prop :=
  xsIf (decide (j < 4))
    (C Try.prog 57 #[Value.int IntKind.i64 r0, Value.int IntKind.i64 (IntKind.i64.wrap (irem key 65536)), Value.int IntKind.i64 h0] h fun (r : Value) (h' : Heap) =>
      ∃ (x : Int),
        r = Value.int IntKind.i64 x ∧
          C Try.prog 58 #[Value.int IntKind.i64 l, Value.int IntKind.i64 x] h' fun (r : Value) (h' : Heap) =>
            ∃ (x : Int), r = Value.int IntKind.i64 x ∧ gabionref08_turn.L5 h0 (iquo IntKind.u64 key 65536) p r0 x (IntKind.i64.wrap (j + 1)) h' Q)
    (Q (Value.int IntKind.i64 (IntKind.i64.wrap (IntKind.i64.wrap (l * p) + r0))) h)
theorem gabionref08_turn.ok {n : Int} {h0 : Int} {key : Int} {h : Heap} {Q : Value → Heap → Prop} (hk : gabionref08_turn.wp n h0 key h Q) : C Try.prog 53 #[.int .i64 n, .int .i64 h0, .int .u64 key] h Q :=
  C_of_xs (H := gabionref08_turn.H) (lcuts := gabionref08_turn.lc) (rcuts := gabionref08_turn.rc) (l := [.int .i64 n, .int .i64 h0, .int .u64 key]) 2000 mixed Try.func53 rfl (by kernel_rfl) (Eq.mp (by kernel_rfl) hk)
theorem gabionref08_turn.L5.ok {h0 : Int} {key : Int} {p : Int} {l : Int} {r0 : Int} {j : Int} {h : Heap} {Q : Value → Heap → Prop} (hk : gabionref08_turn.L5.wp h0 key p l r0 j h Q) : gabionref08_turn.L5 h0 key p l r0 j h Q :=
  xs_ok (H := gabionref08_turn.H) (lcuts := gabionref08_turn.lc) (rcuts := gabionref08_turn.rc) (fn := Try.f53) mixed Try.func53 2000 _ _ _ (Eq.mp (by kernel_rfl) hk)

/-! gabion/gabionref08.To -/
def gabionref08_To.H : Hn := ⟨[], [], []⟩
def gabionref08_To.lc : List Cut := [⟨3, [0, 1, 2, 7], []⟩]
def gabionref08_To.rc : List Cut := []
def gabionref08_To.L3 (m : Int) (key : Int) (i : Int) (h0 : Int) (h : Heap) (Q : Value → Heap → Prop) : Prop :=
  TW Try.prog 40 22 [.code (cAt (bodyOf Try.f40) [1, 1, 1, 0, 0, 0]), .inLoop (cAt (bodyOf Try.f40) [1, 1, 1, 0, 0, 0]), .inBlock 0, .code (cAt (bodyOf Try.f40) [1, 1, 1, 1])] ⟨[(0, .v (.int .i64 m)), (1, .v (.int .u64 key)), (2, .v (.int .i64 i)), (7, .v (.int .i64 h0))], []⟩ h Q
def gabionref08_To.wp (m : Int) (key : Int) (i : Int) (h : Heap) (Q : Value → Heap → Prop) : Prop :=
  C Try.prog 52 #[Value.int IntKind.i64 m] h fun (r : Value) (h' : Heap) =>
    ∃ (x : Int),
      r = Value.int IntKind.i64 x ∧
        C Try.prog 53 #[Value.int IntKind.i64 i, Value.int IntKind.i64 x, Value.int IntKind.u64 key] h' fun (r : Value) (h' : Heap) => ∃ (x_1 : Int), r = Value.int IntKind.i64 x_1 ∧ gabionref08_To.L3 m key x_1 x h' Q
def gabionref08_To.L3.wp (m : Int) (key : Int) (i : Int) (h0 : Int) (h : Heap) (Q : Value → Heap → Prop) : Prop :=
  xsIf (decide (m ≤ i)) (C Try.prog 53 #[Value.int IntKind.i64 i, Value.int IntKind.i64 h0, Value.int IntKind.u64 key] h fun (r : Value) (h' : Heap) => ∃ (x : Int), r = Value.int IntKind.i64 x ∧ gabionref08_To.L3 m key x h0 h' Q)
    (Q (Value.int IntKind.i64 i) h)
theorem gabionref08_To.ok {m : Int} {key : Int} {i : Int} {h : Heap} {Q : Value → Heap → Prop} (hk : gabionref08_To.wp m key i h Q) : C Try.prog 40 #[.int .i64 m, .int .u64 key, .int .i64 i] h Q :=
  C_of_xs (H := gabionref08_To.H) (lcuts := gabionref08_To.lc) (rcuts := gabionref08_To.rc) (l := [.int .i64 m, .int .u64 key, .int .i64 i]) 2000 mixed Try.func40 rfl (by kernel_rfl) (Eq.mp (by kernel_rfl) hk)
theorem gabionref08_To.L3.ok {m : Int} {key : Int} {i : Int} {h0 : Int} {h : Heap} {Q : Value → Heap → Prop} (hk : gabionref08_To.L3.wp m key i h0 h Q) : gabionref08_To.L3 m key i h0 h Q :=
  xs_ok (H := gabionref08_To.H) (lcuts := gabionref08_To.lc) (rcuts := gabionref08_To.rc) (fn := Try.f40) mixed Try.func40 2000 _ _ _ (Eq.mp (by kernel_rfl) hk)

/-! gabion/gabionlaw08.wakes -/
def gabionlaw08_wakes.H : Hn := ⟨[], [], [⟨3, [0, 1, 2, 3, 4, 5, 6, 7, 8, 9, 10, 11, 12, 13, 14, 15, 16, 17, 18, 19, 20, 21, 22, 23, 24, 25, 26, 27, 28, 29, 30, 31, 32, 33], []⟩]⟩
def gabionlaw08_wakes.lc : List Cut := []
def gabionlaw08_wakes.rc : List Cut := []
def gabionlaw08_wakes.wp  (h : Heap) (Q : Value → Heap → Prop) : Prop :=
  C Try.prog 36 #[Value.int IntKind.i64 1, Value.int IntKind.u64 99] h fun (r : Value) (h' : Heap) =>
    ∃ (x : Int),
      ∃ (x_1 : Int),
        ∃ (x_2 : Int),
          ∃ (x_3 : Int),
            ∃ (x_4 : Int),
              ∃ (x_5 : Int),
                ∃ (x_6 : Int),
                  r =
                      Value.tuple
                        #[Value.agg #[Value.int IntKind.i64 x, Value.int IntKind.i64 x_1, Value.int IntKind.u16 x_2, Value.int IntKind.u16 x_3, Value.int IntKind.u16 x_4, Value.int IntKind.u16 x_5],
                              Value.int IntKind.i64 x_6] ∧
                    C Try.prog 36 #[Value.int IntKind.i64 100, Value.int IntKind.u64 81985529216486895] h' fun (r : Value) (h' : Heap) =>
                      ∃ (x_7 : Int),
                        ∃ (x_8 : Int),
                          ∃ (x_9 : Int),
                            ∃ (x_10 : Int),
                              ∃ (x_11 : Int),
                                ∃ (x_12 : Int),
                                  ∃ (x_13 : Int),
                                    r =
                                        Value.tuple
                                          #[Value.agg #[Value.int IntKind.i64 x_7, Value.int IntKind.i64 x_8, Value.int IntKind.u16 x_9, Value.int IntKind.u16 x_10, Value.int IntKind.u16 x_11, Value.int IntKind.u16 x_12],
                                                Value.int IntKind.i64 x_13] ∧
                                      xsIf (decide (x_6 = 0))
                                        (xsIf (decide (x_13 = 0))
                                          (C Try.prog 37
                                            #[Value.agg #[Value.int IntKind.i64 x, Value.int IntKind.i64 x_1, Value.int IntKind.u16 x_2, Value.int IntKind.u16 x_3, Value.int IntKind.u16 x_4, Value.int IntKind.u16 x_5],
                                                  Value.int IntKind.i64 0]
                                            h' fun (r : Value) (h' : Heap) =>
                                            ∃ (x_14 : Int),
                                              r = Value.int IntKind.i64 x_14 ∧
                                                xsIf (decide (x_14 = 0))
                                                  (C Try.prog 38
                                                    #[Value.agg
                                                            #[Value.int IntKind.i64 x, Value.int IntKind.i64 x_1, Value.int IntKind.u16 x_2, Value.int IntKind.u16 x_3, Value.int IntKind.u16 x_4, Value.int IntKind.u16 x_5]]
                                                    h' fun (r : Value) (h' : Heap) =>
                                                    ∃ (x : Int),
                                                      r = Value.int IntKind.i64 x ∧
                                                        xsIf (decide (x = 1))
                                                          (C Try.prog 38
                                                            #[Value.agg
                                                                    #[Value.int IntKind.i64 x_7, Value.int IntKind.i64 x_8, Value.int IntKind.u16 x_9, Value.int IntKind.u16 x_10, Value.int IntKind.u16 x_11, Value.int IntKind.u16 x_12]]
                                                            h' fun (r : Value) (h' : Heap) =>
                                                            ∃ (x : Int),
                                                              r = Value.int IntKind.i64 x ∧
                                                                xsIf (decide (x = 100))
                                                                  (C Try.prog 37
                                                                    #[Value.agg
                                                                            #[Value.int IntKind.i64 x_7, Value.int IntKind.i64 x_8, Value.int IntKind.u16 x_9, Value.int IntKind.u16 x_10, Value.int IntKind.u16 x_11,
                                                                                  Value.int IntKind.u16 x_12],
                                                                          Value.int IntKind.i64 42]
                                                                    h' fun (r : Value) (h' : Heap) =>
                                                                    ∃ (x : Int),
                                                                      r = Value.int IntKind.i64 x ∧
                                                                        C Try.prog 39
                                                                          #[Value.agg
                                                                                  #[Value.int IntKind.i64 x_7, Value.int IntKind.i64 x_8, Value.int IntKind.u16 x_9, Value.int IntKind.u16 x_10, Value.int IntKind.u16 x_11,
                                                                                        Value.int IntKind.u16 x_12],
                                                                                Value.int IntKind.i64 x]
                                                                          h' fun (r : Value) (h' : Heap) =>
                                                                          ∃ (x : Int),
                                                                            r = Value.int IntKind.i64 x ∧
                                                                              xsIf (decide (x = 42))
                                                                                (C Try.prog 37
                                                                                  #[Value.agg
                                                                                          #[Value.int IntKind.i64 x_7, Value.int IntKind.i64 x_8, Value.int IntKind.u16 x_9, Value.int IntKind.u16 x_10, Value.int IntKind.u16 x_11,
                                                                                                Value.int IntKind.u16 x_12],
                                                                                        Value.int IntKind.i64 100]
                                                                                  h' fun (r : Value) (h' : Heap) => ∃ (x : Int), r = Value.int IntKind.i64 x ∧ Q (Value.bool (decide (x = -1))) h')
                                                                                (Q (Value.bool false) h'))
                                                                  (Q (Value.bool false) h'))
                                                          (Q (Value.bool false) h'))
                                                  (Q (Value.bool false) h'))
                                          (Q (Value.bool false) h'))
                                        (Q (Value.bool false) h')
theorem gabionlaw08_wakes.ok {h : Heap} {Q : Value → Heap → Prop} (hk : gabionlaw08_wakes.wp h Q) : C Try.prog 41 #[] h Q :=
  C_of_xs (H := gabionlaw08_wakes.H) (lcuts := gabionlaw08_wakes.lc) (rcuts := gabionlaw08_wakes.rc) (l := []) 2000 mixed Try.func41 rfl (by kernel_rfl) (Eq.mp (by kernel_rfl) hk)

/-! gabion/gabionlaw08.FeistelGoes -/
def gabionlaw08_FeistelGoes.H : Hn := ⟨[], [], []⟩
def gabionlaw08_FeistelGoes.lc : List Cut := [⟨2, [1, 2, 19, 20, 21], []⟩, ⟨11, [1, 2, 8, 9, 19, 20, 21, 86, 87, 88], [9]⟩]
def gabionlaw08_FeistelGoes.rc : List Cut := [⟨8, [1, 2, 8, 9, 10, 19, 20, 21], [9]⟩, ⟨10, [1, 2, 8, 9, 19, 20, 21], [9]⟩]
def gabionlaw08_FeistelGoes.L2 (key : Int) (i : Int) (t19 : Option Addr) (t19_n : Nat) (t19_c : Nat) (t20 : Int) (t21 : Int) (h : Heap) (Q : Value → Heap → Prop) : Prop :=
  TW Try.prog 12 111 [.code (cAt (bodyOf Try.f12) [1, 0, 1, 0, 0]), .inLoop (cAt (bodyOf Try.f12) [1, 0, 1, 0, 0]), .inBlock 0, .code (cAt (bodyOf Try.f12) [1, 1])] ⟨[(1, .v (.int .u64 key)), (2, .v (.int .i64 i)), (19, .v (.slice t19 t19_n t19_c)), (20, .v (.int .i64 t20)), (21, .v (.int .i64 t21))], []⟩ h Q
def gabionlaw08_FeistelGoes.J8 (key : Int) (i : Int) (n : Int) (e : Int) (t19 : Option Addr) (t19_n : Nat) (t19_c : Nat) (t20 : Int) (t21 : Int) (p_0 : Int) (p_1 : Int) (p_2 : Int) (p_3 : Int) (p_4 : Int) (p_5 : Int) (h : Heap) (Q : Value → Heap → Prop) : Prop :=
  TW Try.prog 12 111 [.code (cAt (bodyOf Try.f12) [1, 0, 1, 0, 0, 1, 1, 0, 0, 1, 1, 1, 0, 0]), .code (cAt (bodyOf Try.f12) [1, 0, 1, 0, 0, 1, 1, 0, 0, 1, 1, 1, 0, 1]), .code (cAt (bodyOf Try.f12) [1, 0, 1, 0, 0, 1, 1, 0, 0, 1, 1, 1, 1]), .inBlock 1, .code (cAt (bodyOf Try.f12) [1, 0, 1, 0, 0, 1, 1, 1]), .inLoop (cAt (bodyOf Try.f12) [1, 0, 1, 0, 0]), .inBlock 0, .code (cAt (bodyOf Try.f12) [1, 1])] ⟨[(1, .v (.int .u64 key)), (2, .v (.int .i64 i)), (8, .v (.int .i64 n)), (9, .p 9 0), (10, .v (.int .i64 e)), (19, .v (.slice t19 t19_n t19_c)), (20, .v (.int .i64 t20)), (21, .v (.int .i64 t21))], [(9, [.int .i64 p_0, .int .i64 p_1, .int .u16 p_2, .int .u16 p_3, .int .u16 p_4, .int .u16 p_5])]⟩ h Q
def gabionlaw08_FeistelGoes.J10 (key : Int) (i : Int) (n : Int) (t19 : Option Addr) (t19_n : Nat) (t19_c : Nat) (t20 : Int) (t21 : Int) (p_0 : Int) (p_1 : Int) (p_2 : Int) (p_3 : Int) (p_4 : Int) (p_5 : Int) (h : Heap) (Q : Value → Heap → Prop) : Prop :=
  TW Try.prog 12 111 [.code (cAt (bodyOf Try.f12) [1, 0, 1, 0, 0, 1, 1, 0, 0, 1, 1, 1, 1, 0]), .code (cAt (bodyOf Try.f12) [1, 0, 1, 0, 0, 1, 1, 0, 0, 1, 1, 1, 1, 1]), .inBlock 1, .code (cAt (bodyOf Try.f12) [1, 0, 1, 0, 0, 1, 1, 1]), .inLoop (cAt (bodyOf Try.f12) [1, 0, 1, 0, 0]), .inBlock 0, .code (cAt (bodyOf Try.f12) [1, 1])] ⟨[(1, .v (.int .u64 key)), (2, .v (.int .i64 i)), (8, .v (.int .i64 n)), (9, .p 9 0), (19, .v (.slice t19 t19_n t19_c)), (20, .v (.int .i64 t20)), (21, .v (.int .i64 t21))], [(9, [.int .i64 p_0, .int .i64 p_1, .int .u16 p_2, .int .u16 p_3, .int .u16 p_4, .int .u16 p_5])]⟩ h Q
def gabionlaw08_FeistelGoes.L11 (key : Int) (i : Int) (n : Int) (t19 : Option Addr) (t19_n : Nat) (t19_c : Nat) (t20 : Int) (t21 : Int) (t86 : Option Addr) (t86_n : Nat) (t86_c : Nat) (t87 : Int) (t88 : Int) (p_0 : Int) (p_1 : Int) (p_2 : Int) (p_3 : Int) (p_4 : Int) (p_5 : Int) (h : Heap) (Q : Value → Heap → Prop) : Prop :=
  TW Try.prog 12 111 [.code (cAt (bodyOf Try.f12) [1, 0, 1, 0, 0, 1, 1, 0, 0, 1, 1, 1, 1, 1, 0, 0]), .inLoop (cAt (bodyOf Try.f12) [1, 0, 1, 0, 0, 1, 1, 0, 0, 1, 1, 1, 1, 1, 0, 0]), .inBlock 2, .inBlock 1, .code (cAt (bodyOf Try.f12) [1, 0, 1, 0, 0, 1, 1, 1]), .inLoop (cAt (bodyOf Try.f12) [1, 0, 1, 0, 0]), .inBlock 0, .code (cAt (bodyOf Try.f12) [1, 1])] ⟨[(1, .v (.int .u64 key)), (2, .v (.int .i64 i)), (8, .v (.int .i64 n)), (9, .p 9 0), (19, .v (.slice t19 t19_n t19_c)), (20, .v (.int .i64 t20)), (21, .v (.int .i64 t21)), (86, .v (.slice t86 t86_n t86_c)), (87, .v (.int .i64 t87)), (88, .v (.int .i64 t88))], [(9, [.int .i64 p_0, .int .i64 p_1, .int .u16 p_2, .int .u16 p_3, .int .u16 p_4, .int .u16 p_5])]⟩ h Q
def gabionlaw08_FeistelGoes.wp (m : Int) (key : Int) (i : Int) (h : Heap) (Q : Value → Heap → Prop) : Prop :=
  ∀ (b : Nat),
    h b = none → gabionlaw08_FeistelGoes.L2 key i (some { block := b, off := 0 }) 2 2 (↑2 : Int) 0 (upd h b (Obj.cells #[Value.int IntKind.i64 m, Value.int IntKind.i64 (IntKind.i64.wrap (1 + irem (imax 0 m) 300))] 3 (0, 0))) Q
def gabionlaw08_FeistelGoes.L2.wp (key : Int) (i : Int) (t19 : Option Addr) (t19_n : Nat) (t19_c : Nat) (t20 : Int) (t21 : Int) (h : Heap) (Q : Value → Heap → Prop) : Prop :=
  xsIf (decide (t21 < t20))
    ((0 ≤ t21 ∧ t21 < (↑t19_n : Int)) ∧
      atBase t19 fun (b o : Nat) =>
        ∃ (x : Int),
          h.cell b (o + t21.toNat * 1) = some (Value.int IntKind.i64 x) ∧
            C Try.prog 36 #[Value.int IntKind.i64 x, Value.int IntKind.u64 key] h fun (r : Value) (h' : Heap) =>
              ∃ (x_1 : Int),
                ∃ (x_2 : Int),
                  ∃ (x_3 : Int),
                    ∃ (x_4 : Int),
                      ∃ (x_5 : Int),
                        ∃ (x_6 : Int),
                          ∃ (x_7 : Int),
                            r =
                                Value.tuple
                                  #[Value.agg #[Value.int IntKind.i64 x_1, Value.int IntKind.i64 x_2, Value.int IntKind.u16 x_3, Value.int IntKind.u16 x_4, Value.int IntKind.u16 x_5, Value.int IntKind.u16 x_6],
                                        Value.int IntKind.i64 x_7] ∧
                              xsIf (decide (x < 1))
                                (xsIf (decide (x_7 ≠ 2)) (Q (Value.bool false) h')
                                  (C Try.prog 37
                                    #[Value.agg #[Value.int IntKind.i64 x_1, Value.int IntKind.i64 x_2, Value.int IntKind.u16 x_3, Value.int IntKind.u16 x_4, Value.int IntKind.u16 x_5, Value.int IntKind.u16 x_6],
                                          Value.int IntKind.i64 i]
                                    h' fun (r : Value) (h' : Heap) =>
                                    ∃ (x : Int),
                                      r = Value.int IntKind.i64 x ∧
                                        xsIf (decide (x ≠ -1)) (Q (Value.bool false) h')
                                          (C Try.prog 38
                                            #[Value.agg #[Value.int IntKind.i64 x_1, Value.int IntKind.i64 x_2, Value.int IntKind.u16 x_3, Value.int IntKind.u16 x_4, Value.int IntKind.u16 x_5, Value.int IntKind.u16 x_6]]
                                            h' fun (r : Value) (h' : Heap) =>
                                            ∃ (x : Int), r = Value.int IntKind.i64 x ∧ xsIf (decide (x ≠ 0)) (Q (Value.bool false) h') (gabionlaw08_FeistelGoes.L2 key i t19 t19_n t19_c t20 (IntKind.i64.wrap (t21 + 1)) h' Q))))
                                (xsIf (decide (8192 < x))
                                  (xsIf (decide (x_7 ≠ 2)) (Q (Value.bool false) h')
                                    (C Try.prog 37
                                      #[Value.agg #[Value.int IntKind.i64 x_1, Value.int IntKind.i64 x_2, Value.int IntKind.u16 x_3, Value.int IntKind.u16 x_4, Value.int IntKind.u16 x_5, Value.int IntKind.u16 x_6],
                                            Value.int IntKind.i64 i]
                                      h' fun (r : Value) (h' : Heap) =>
                                      ∃ (x : Int),
                                        r = Value.int IntKind.i64 x ∧
                                          xsIf (decide (x ≠ -1)) (Q (Value.bool false) h')
                                            (C Try.prog 38
                                              #[Value.agg #[Value.int IntKind.i64 x_1, Value.int IntKind.i64 x_2, Value.int IntKind.u16 x_3, Value.int IntKind.u16 x_4, Value.int IntKind.u16 x_5, Value.int IntKind.u16 x_6]]
                                              h' fun (r : Value) (h' : Heap) =>
                                              ∃ (x : Int), r = Value.int IntKind.i64 x ∧ xsIf (decide (x ≠ 0)) (Q (Value.bool false) h') (gabionlaw08_FeistelGoes.L2 key i t19 t19_n t19_c t20 (IntKind.i64.wrap (t21 + 1)) h' Q))))
                                  (gabionlaw08_FeistelGoes.J8 key i x x_7 t19 t19_n t19_c t20 t21 x_1 x_2 x_3 x_4 x_5 x_6 h' Q)))
    (C Try.prog 41 #[] h fun (r : Value) (h' : Heap) => ∃ (x : Bool), r = Value.bool x ∧ Q (Value.bool x) h')
def gabionlaw08_FeistelGoes.J8.wp (key : Int) (i : Int) (n : Int) (e : Int) (t19 : Option Addr) (t19_n : Nat) (t19_c : Nat) (t20 : Int) (t21 : Int) (p_0 : Int) (p_1 : Int) (p_2 : Int) (p_3 : Int) (p_4 : Int) (p_5 : Int) (h : Heap) (Q : Value → Heap → Prop) : Prop :=
  xsIf (decide (e ≠ 0)) (Q (Value.bool false) h)
    (C Try.prog 38 #[Value.agg #[Value.int IntKind.i64 p_0, Value.int IntKind.i64 p_1, Value.int IntKind.u16 p_2, Value.int IntKind.u16 p_3, Value.int IntKind.u16 p_4, Value.int IntKind.u16 p_5]] h
      fun (r : Value) (h' : Heap) =>
      ∃ (x : Int),
        r = Value.int IntKind.i64 x ∧
          xsIf (decide (x ≠ n)) (Q (Value.bool false) h')
            (C Try.prog 37
              #[Value.agg #[Value.int IntKind.i64 p_0, Value.int IntKind.i64 p_1, Value.int IntKind.u16 p_2, Value.int IntKind.u16 p_3, Value.int IntKind.u16 p_4, Value.int IntKind.u16 p_5], Value.int IntKind.i64 n]
              h' fun (r : Value) (h' : Heap) =>
              ∃ (x : Int),
                r = Value.int IntKind.i64 x ∧
                  xsIf (decide (x ≠ -1)) (Q (Value.bool false) h')
                    (C Try.prog 37
                      #[Value.agg #[Value.int IntKind.i64 p_0, Value.int IntKind.i64 p_1, Value.int IntKind.u16 p_2, Value.int IntKind.u16 p_3, Value.int IntKind.u16 p_4, Value.int IntKind.u16 p_5],
                            Value.int IntKind.i64 (-1)]
                      h' fun (r : Value) (h' : Heap) =>
                      ∃ (x : Int),
                        r = Value.int IntKind.i64 x ∧
                          xsIf (decide (x ≠ -1)) (Q (Value.bool false) h')
                            (C Try.prog 39
                              #[Value.agg #[Value.int IntKind.i64 p_0, Value.int IntKind.i64 p_1, Value.int IntKind.u16 p_2, Value.int IntKind.u16 p_3, Value.int IntKind.u16 p_4, Value.int IntKind.u16 p_5],
                                    Value.int IntKind.i64 n]
                              h' fun (r : Value) (h' : Heap) =>
                              ∃ (x : Int),
                                r = Value.int IntKind.i64 x ∧
                                  xsIf (decide (x ≠ -1)) (Q (Value.bool false) h')
                                    (C Try.prog 39
                                      #[Value.agg #[Value.int IntKind.i64 p_0, Value.int IntKind.i64 p_1, Value.int IntKind.u16 p_2, Value.int IntKind.u16 p_3, Value.int IntKind.u16 p_4, Value.int IntKind.u16 p_5],
                                            Value.int IntKind.i64 (-1)]
                                      h' fun (r : Value) (h' : Heap) =>
                                      ∃ (x : Int), r = Value.int IntKind.i64 x ∧ xsIf (decide (x ≠ -1)) (Q (Value.bool false) h') (gabionlaw08_FeistelGoes.J10 key i n t19 t19_n t19_c t20 t21 p_0 p_1 p_2 p_3 p_4 p_5 h' Q))))))
def gabionlaw08_FeistelGoes.J10.wp (key : Int) (i : Int) (n : Int) (t19 : Option Addr) (t19_n : Nat) (t19_c : Nat) (t20 : Int) (t21 : Int) (p_0 : Int) (p_1 : Int) (p_2 : Int) (p_3 : Int) (p_4 : Int) (p_5 : Int) (h : Heap) (Q : Value → Heap → Prop) : Prop :=
  n ≠ 0 ∧
    ∀ (b : Nat),
      h b = none →
        gabionlaw08_FeistelGoes.L11 key i n t19 t19_n t19_c t20 t21 (some { block := b, off := 0 }) 3 3 (↑3 : Int) 0 p_0 p_1 p_2 p_3 p_4 p_5
          (upd h b (Obj.cells #[Value.int IntKind.i64 (irem (imax 0 i) n), Value.int IntKind.i64 0, Value.int IntKind.i64 (IntKind.i64.wrap (n - 1))] 3 (0, 0))) Q
def gabionlaw08_FeistelGoes.L11.wp (key : Int) (i : Int) (n : Int) (t19 : Option Addr) (t19_n : Nat) (t19_c : Nat) (t20 : Int) (t21 : Int) (t86 : Option Addr) (t86_n : Nat) (t86_c : Nat) (t87 : Int) (t88 : Int) (p_0 : Int) (p_1 : Int) (p_2 : Int) (p_3 : Int) (p_4 : Int) (p_5 : Int) (h : Heap) (Q : Value → Heap → Prop) : Prop :=
  xsIf (decide (t88 < t87))
    ((0 ≤ t88 ∧ t88 < (↑t86_n : Int)) ∧
      atBase t86 fun (b o : Nat) =>
        ∃ (x : Int),
          h.cell b (o + t88.toNat * 1) = some (Value.int IntKind.i64 x) ∧
            C Try.prog 40 #[Value.int IntKind.i64 n, Value.int IntKind.u64 key, Value.int IntKind.i64 x] h fun (r : Value) (h' : Heap) =>
              ∃ (x_1 : Int),
                r = Value.int IntKind.i64 x_1 ∧
                  C Try.prog 37
                    #[Value.agg #[Value.int IntKind.i64 p_0, Value.int IntKind.i64 p_1, Value.int IntKind.u16 p_2, Value.int IntKind.u16 p_3, Value.int IntKind.u16 p_4, Value.int IntKind.u16 p_5], Value.int IntKind.i64 x]
                    h' fun (r : Value) (h' : Heap) =>
                    ∃ (x_2 : Int),
                      r = Value.int IntKind.i64 x_2 ∧
                        xsIf (decide (x_2 ≠ x_1)) (Q (Value.bool false) h')
                          (C Try.prog 39
                            #[Value.agg #[Value.int IntKind.i64 p_0, Value.int IntKind.i64 p_1, Value.int IntKind.u16 p_2, Value.int IntKind.u16 p_3, Value.int IntKind.u16 p_4, Value.int IntKind.u16 p_5],
                                  Value.int IntKind.i64 x_1]
                            h' fun (r : Value) (h' : Heap) =>
                            ∃ (x_3 : Int),
                              r = Value.int IntKind.i64 x_3 ∧
                                xsIf (decide (x_3 ≠ x)) (Q (Value.bool false) h') (gabionlaw08_FeistelGoes.L11 key i n t19 t19_n t19_c t20 t21 t86 t86_n t86_c t87 (IntKind.i64.wrap (t88 + 1)) p_0 p_1 p_2 p_3 p_4 p_5 h' Q)))
    (gabionlaw08_FeistelGoes.L2 key i t19 t19_n t19_c t20 (IntKind.i64.wrap (t21 + 1)) h Q)
theorem gabionlaw08_FeistelGoes.ok {m : Int} {key : Int} {i : Int} {h : Heap} {Q : Value → Heap → Prop} (hk : gabionlaw08_FeistelGoes.wp m key i h Q) : C Try.prog 12 #[.int .i64 m, .int .u64 key, .int .i64 i] h Q :=
  C_of_xs (H := gabionlaw08_FeistelGoes.H) (lcuts := gabionlaw08_FeistelGoes.lc) (rcuts := gabionlaw08_FeistelGoes.rc) (l := [.int .i64 m, .int .u64 key, .int .i64 i]) 2000 mixed Try.func12 rfl (by kernel_rfl) (Eq.mp (by kernel_rfl) hk)
theorem gabionlaw08_FeistelGoes.L2.ok {key : Int} {i : Int} {t19 : Option Addr} {t19_n : Nat} {t19_c : Nat} {t20 : Int} {t21 : Int} {h : Heap} {Q : Value → Heap → Prop} (hk : gabionlaw08_FeistelGoes.L2.wp key i t19 t19_n t19_c t20 t21 h Q) : gabionlaw08_FeistelGoes.L2 key i t19 t19_n t19_c t20 t21 h Q :=
  xs_ok (H := gabionlaw08_FeistelGoes.H) (lcuts := gabionlaw08_FeistelGoes.lc) (rcuts := gabionlaw08_FeistelGoes.rc) (fn := Try.f12) mixed Try.func12 2000 _ _ _ (Eq.mp (by kernel_rfl) hk)
theorem gabionlaw08_FeistelGoes.J8.ok {key : Int} {i : Int} {n : Int} {e : Int} {t19 : Option Addr} {t19_n : Nat} {t19_c : Nat} {t20 : Int} {t21 : Int} {p_0 : Int} {p_1 : Int} {p_2 : Int} {p_3 : Int} {p_4 : Int} {p_5 : Int} {h : Heap} {Q : Value → Heap → Prop} (hk : gabionlaw08_FeistelGoes.J8.wp key i n e t19 t19_n t19_c t20 t21 p_0 p_1 p_2 p_3 p_4 p_5 h Q) : gabionlaw08_FeistelGoes.J8 key i n e t19 t19_n t19_c t20 t21 p_0 p_1 p_2 p_3 p_4 p_5 h Q :=
  xs_ok (H := gabionlaw08_FeistelGoes.H) (lcuts := gabionlaw08_FeistelGoes.lc) (rcuts := [⟨10, [1, 2, 8, 9, 19, 20, 21], [9]⟩]) (fn := Try.f12) mixed Try.func12 2000 _ _ _ (Eq.mp (by kernel_rfl) hk)
theorem gabionlaw08_FeistelGoes.J10.ok {key : Int} {i : Int} {n : Int} {t19 : Option Addr} {t19_n : Nat} {t19_c : Nat} {t20 : Int} {t21 : Int} {p_0 : Int} {p_1 : Int} {p_2 : Int} {p_3 : Int} {p_4 : Int} {p_5 : Int} {h : Heap} {Q : Value → Heap → Prop} (hk : gabionlaw08_FeistelGoes.J10.wp key i n t19 t19_n t19_c t20 t21 p_0 p_1 p_2 p_3 p_4 p_5 h Q) : gabionlaw08_FeistelGoes.J10 key i n t19 t19_n t19_c t20 t21 p_0 p_1 p_2 p_3 p_4 p_5 h Q :=
  xs_ok (H := gabionlaw08_FeistelGoes.H) (lcuts := gabionlaw08_FeistelGoes.lc) (rcuts := [⟨8, [1, 2, 8, 9, 10, 19, 20, 21], [9]⟩]) (fn := Try.f12) mixed Try.func12 2000 _ _ _ (Eq.mp (by kernel_rfl) hk)
theorem gabionlaw08_FeistelGoes.L11.ok {key : Int} {i : Int} {n : Int} {t19 : Option Addr} {t19_n : Nat} {t19_c : Nat} {t20 : Int} {t21 : Int} {t86 : Option Addr} {t86_n : Nat} {t86_c : Nat} {t87 : Int} {t88 : Int} {p_0 : Int} {p_1 : Int} {p_2 : Int} {p_3 : Int} {p_4 : Int} {p_5 : Int} {h : Heap} {Q : Value → Heap → Prop} (hk : gabionlaw08_FeistelGoes.L11.wp key i n t19 t19_n t19_c t20 t21 t86 t86_n t86_c t87 t88 p_0 p_1 p_2 p_3 p_4 p_5 h Q) : gabionlaw08_FeistelGoes.L11 key i n t19 t19_n t19_c t20 t21 t86 t86_n t86_c t87 t88 p_0 p_1 p_2 p_3 p_4 p_5 h Q :=
  xs_ok (H := gabionlaw08_FeistelGoes.H) (lcuts := gabionlaw08_FeistelGoes.lc) (rcuts := gabionlaw08_FeistelGoes.rc) (fn := Try.f12) mixed Try.func12 2000 _ _ _ (Eq.mp (by kernel_rfl) hk)

/-! gabion/gabionlaw08.FeistelOnce -/
def gabionlaw08_FeistelOnce.H : Hn := ⟨[], [], []⟩
def gabionlaw08_FeistelOnce.lc : List Cut := [⟨7, [5, 6, 8, 29, 30], [6]⟩]
def gabionlaw08_FeistelOnce.rc : List Cut := [⟨5, [5, 6], [6]⟩]
def gabionlaw08_FeistelOnce.J5 (n : Int) (p_0 : Int) (p_1 : Int) (p_2 : Int) (p_3 : Int) (p_4 : Int) (p_5 : Int) (h : Heap) (Q : Value → Heap → Prop) : Prop :=
  TW Try.prog 13 60 [.code (cAt (bodyOf Try.f13) [1, 1, 1, 1, 0]), .code (cAt (bodyOf Try.f13) [1, 1, 1, 1, 1])] ⟨[(5, .v (.int .i64 n)), (6, .p 6 0)], [(6, [.int .i64 p_0, .int .i64 p_1, .int .u16 p_2, .int .u16 p_3, .int .u16 p_4, .int .u16 p_5])]⟩ h Q
def gabionlaw08_FeistelOnce.L7 (n : Int) (come : Option Addr) (come_n : Nat) (come_c : Nat) (t29 : Int) (t30 : Int) (p_0 : Int) (p_1 : Int) (p_2 : Int) (p_3 : Int) (p_4 : Int) (p_5 : Int) (h : Heap) (Q : Value → Heap → Prop) : Prop :=
  TW Try.prog 13 60 [.code (cAt (bodyOf Try.f13) [1, 1, 1, 1, 1, 0, 1, 0, 0]), .inLoop (cAt (bodyOf Try.f13) [1, 1, 1, 1, 1, 0, 1, 0, 0]), .inBlock 0, .code (cAt (bodyOf Try.f13) [1, 1, 1, 1, 1, 1])] ⟨[(5, .v (.int .i64 n)), (6, .p 6 0), (8, .v (.slice come come_n come_c)), (29, .v (.int .i64 t29)), (30, .v (.int .i64 t30))], [(6, [.int .i64 p_0, .int .i64 p_1, .int .u16 p_2, .int .u16 p_3, .int .u16 p_4, .int .u16 p_5])]⟩ h Q
def gabionlaw08_FeistelOnce.wp (m : Int) (key : Int) (h : Heap) (Q : Value → Heap → Prop) : Prop :=
  C Try.prog 36 #[Value.int IntKind.i64 (IntKind.i64.wrap (1 + IntKind.i64.wrap (irem m 600))), Value.int IntKind.u64 key] h fun (r : Value) (h' : Heap) =>
    ∃ (x : Int),
      ∃ (x_1 : Int),
        ∃ (x_2 : Int),
          ∃ (x_3 : Int),
            ∃ (x_4 : Int),
              ∃ (x_5 : Int),
                ∃ (x_6 : Int),
                  r =
                      Value.tuple
                        #[Value.agg #[Value.int IntKind.i64 x, Value.int IntKind.i64 x_1, Value.int IntKind.u16 x_2, Value.int IntKind.u16 x_3, Value.int IntKind.u16 x_4, Value.int IntKind.u16 x_5],
                              Value.int IntKind.i64 x_6] ∧
                    C Try.prog 41 #[] h' fun (r : Value) (h' : Heap) =>
                      ∃ (x_7 : Bool),
                        r = Value.bool x_7 ∧
                          xsIf (!x_7) (Q (Value.bool false) h') (xsIf (decide (x_6 ≠ 0)) (Q (Value.bool false) h') (gabionlaw08_FeistelOnce.J5 (IntKind.i64.wrap (1 + IntKind.i64.wrap (irem m 600))) x x_1 x_2 x_3 x_4 x_5 h' Q))
def gabionlaw08_FeistelOnce.J5.wp (n : Int) (p_0 : Int) (p_1 : Int) (p_2 : Int) (p_3 : Int) (p_4 : Int) (p_5 : Int) (h : Heap) (Q : Value → Heap → Prop) : Prop :=
  xsMk Try.prog 4 h n n fun (a : Option Addr) (n' c' : Nat) (h' : Heap) => gabionlaw08_FeistelOnce.L7 n a n' c' n 0 p_0 p_1 p_2 p_3 p_4 p_5 h' Q
def gabionlaw08_FeistelOnce.L7.wp (n : Int) (come : Option Addr) (come_n : Nat) (come_c : Nat) (t29 : Int) (t30 : Int) (p_0 : Int) (p_1 : Int) (p_2 : Int) (p_3 : Int) (p_4 : Int) (p_5 : Int) (h : Heap) (Q : Value → Heap → Prop) : Prop :=
  xsIf (decide (t30 < t29))
    (C Try.prog 37
      #[Value.agg #[Value.int IntKind.i64 p_0, Value.int IntKind.i64 p_1, Value.int IntKind.u16 p_2, Value.int IntKind.u16 p_3, Value.int IntKind.u16 p_4, Value.int IntKind.u16 p_5], Value.int IntKind.i64 t30] h
      fun (r : Value) (h' : Heap) =>
      ∃ (x : Int),
        r = Value.int IntKind.i64 x ∧
          xsIf (decide (x < 0)) (Q (Value.bool false) h')
            (xsIf (decide (n ≤ x)) (Q (Value.bool false) h')
              ((0 ≤ x ∧ x < (↑come_n : Int)) ∧
                atBase come fun (b o : Nat) =>
                  ∃ (x_1 : Bool),
                    h'.cell b (o + x.toNat * 1) = some (Value.bool x_1) ∧
                      xsIf x_1 (Q (Value.bool false) h')
                        (C Try.prog 39
                          #[Value.agg #[Value.int IntKind.i64 p_0, Value.int IntKind.i64 p_1, Value.int IntKind.u16 p_2, Value.int IntKind.u16 p_3, Value.int IntKind.u16 p_4, Value.int IntKind.u16 p_5],
                                Value.int IntKind.i64 x]
                          h' fun (r : Value) (h' : Heap) =>
                          ∃ (x_2 : Int),
                            r = Value.int IntKind.i64 x_2 ∧
                              xsIf (decide (x_2 ≠ t30)) (Q (Value.bool false) h')
                                ((0 ≤ x ∧ x < (↑come_n : Int)) ∧
                                  atBase come fun (b o : Nat) =>
                                    h'.can b (o + x.toNat * 1) 1 ∧ gabionlaw08_FeistelOnce.L7 n come come_n come_c t29 (IntKind.i64.wrap (t30 + 1)) p_0 p_1 p_2 p_3 p_4 p_5 (h'.put b (o + x.toNat * 1) [Value.bool true]) Q)))))
    (Q (Value.bool true) h)
theorem gabionlaw08_FeistelOnce.ok {m : Int} {key : Int} {h : Heap} {Q : Value → Heap → Prop} (hk : gabionlaw08_FeistelOnce.wp m key h Q) : C Try.prog 13 #[.int .u16 m, .int .u64 key] h Q :=
  C_of_xs (H := gabionlaw08_FeistelOnce.H) (lcuts := gabionlaw08_FeistelOnce.lc) (rcuts := gabionlaw08_FeistelOnce.rc) (l := [.int .u16 m, .int .u64 key]) 2000 mixed Try.func13 rfl (by kernel_rfl) (Eq.mp (by kernel_rfl) hk)
theorem gabionlaw08_FeistelOnce.J5.ok {n : Int} {p_0 : Int} {p_1 : Int} {p_2 : Int} {p_3 : Int} {p_4 : Int} {p_5 : Int} {h : Heap} {Q : Value → Heap → Prop} (hk : gabionlaw08_FeistelOnce.J5.wp n p_0 p_1 p_2 p_3 p_4 p_5 h Q) : gabionlaw08_FeistelOnce.J5 n p_0 p_1 p_2 p_3 p_4 p_5 h Q :=
  xs_ok (H := gabionlaw08_FeistelOnce.H) (lcuts := gabionlaw08_FeistelOnce.lc) (rcuts := []) (fn := Try.f13) mixed Try.func13 2000 _ _ _ (Eq.mp (by kernel_rfl) hk)
theorem gabionlaw08_FeistelOnce.L7.ok {n : Int} {come : Option Addr} {come_n : Nat} {come_c : Nat} {t29 : Int} {t30 : Int} {p_0 : Int} {p_1 : Int} {p_2 : Int} {p_3 : Int} {p_4 : Int} {p_5 : Int} {h : Heap} {Q : Value → Heap → Prop} (hk : gabionlaw08_FeistelOnce.L7.wp n come come_n come_c t29 t30 p_0 p_1 p_2 p_3 p_4 p_5 h Q) : gabionlaw08_FeistelOnce.L7 n come come_n come_c t29 t30 p_0 p_1 p_2 p_3 p_4 p_5 h Q :=
  xs_ok (H := gabionlaw08_FeistelOnce.H) (lcuts := gabionlaw08_FeistelOnce.lc) (rcuts := gabionlaw08_FeistelOnce.rc) (fn := Try.f13) mixed Try.func13 2000 _ _ _ (Eq.mp (by kernel_rfl) hk)

/-! gabion/gap.Unpack -/
def gap_Unpack.H : Hn := ⟨[], [], []⟩
def gap_Unpack.lc : List Cut := []
def gap_Unpack.rc : List Cut := []
def gap_Unpack.wp (w : Int) (h : Heap) (Q : Value → Heap → Prop) : Prop :=
  C Try.prog 26 #[Value.int IntKind.u64 w, Value.int IntKind.i64 0, Value.int IntKind.i64 16] h fun (r : Value) (h' : Heap) =>
    ∃ (x : Int),
      r = Value.int IntKind.u64 x ∧
        C Try.prog 26 #[Value.int IntKind.u64 w, Value.int IntKind.i64 16, Value.int IntKind.i64 16] h' fun (r : Value) (h' : Heap) =>
          ∃ (x_1 : Int),
            r = Value.int IntKind.u64 x_1 ∧
              C Try.prog 26 #[Value.int IntKind.u64 w, Value.int IntKind.i64 32, Value.int IntKind.i64 32] h' fun (r : Value) (h' : Heap) =>
                ∃ (x_2 : Int), r = Value.int IntKind.u64 x_2 ∧ Q (Value.agg #[Value.int IntKind.i64 (IntKind.i64.wrap x), Value.int IntKind.i64 (IntKind.i64.wrap x_1), Value.int IntKind.u32 (IntKind.u32.wrap x_2)]) h'
theorem gap_Unpack.ok {w : Int} {h : Heap} {Q : Value → Heap → Prop} (hk : gap_Unpack.wp w h Q) : C Try.prog 42 #[.int .u64 w] h Q :=
  C_of_xs (H := gap_Unpack.H) (lcuts := gap_Unpack.lc) (rcuts := gap_Unpack.rc) (l := [.int .u64 w]) 2000 mixed Try.func42 rfl (by kernel_rfl) (Eq.mp (by kernel_rfl) hk)

/-! (gabion/gap.State).Pack -/
def gap_State_Pack.H : Hn := ⟨[], [], []⟩
def gap_State_Pack.lc : List Cut := []
def gap_State_Pack.rc : List Cut := []
def gap_State_Pack.wp (s_0 : Int) (s_1 : Int) (s_2 : Int) (h : Heap) (Q : Value → Heap → Prop) : Prop :=
  C Try.prog 28 #[Value.int IntKind.u64 0, Value.int IntKind.i64 0, Value.int IntKind.i64 16, Value.int IntKind.u64 (IntKind.u64.wrap s_0)] h fun (r : Value) (h' : Heap) =>
    ∃ (x : Int),
      r = Value.int IntKind.u64 x ∧
        C Try.prog 28 #[Value.int IntKind.u64 x, Value.int IntKind.i64 16, Value.int IntKind.i64 16, Value.int IntKind.u64 (IntKind.u64.wrap s_1)] h' fun (r : Value) (h' : Heap) =>
          ∃ (x : Int),
            r = Value.int IntKind.u64 x ∧
              C Try.prog 28 #[Value.int IntKind.u64 x, Value.int IntKind.i64 32, Value.int IntKind.i64 32, Value.int IntKind.u64 (IntKind.u64.wrap s_2)] h' fun (r : Value) (h' : Heap) =>
                ∃ (x : Int), r = Value.int IntKind.u64 x ∧ Q (Value.int IntKind.u64 x) h'
theorem gap_State_Pack.ok {s_0 : Int} {s_1 : Int} {s_2 : Int} {h : Heap} {Q : Value → Heap → Prop} (hk : gap_State_Pack.wp s_0 s_1 s_2 h Q) : C Try.prog 43 #[.agg #[.int .i64 s_0, .int .i64 s_1, .int .u32 s_2]] h Q :=
  C_of_xs (H := gap_State_Pack.H) (lcuts := gap_State_Pack.lc) (rcuts := gap_State_Pack.rc) (l := [.agg #[.int .i64 s_0, .int .i64 s_1, .int .u32 s_2]]) 2000 mixed Try.func43 rfl (by kernel_rfl) (Eq.mp (by kernel_rfl) hk)

/-! gabion/gabionref06.Pack -/
def gabionref06_Pack.H : Hn := ⟨[], [], []⟩
def gabionref06_Pack.lc : List Cut := []
def gabionref06_Pack.rc : List Cut := []
def gabionref06_Pack.wp (start : Int) (gap : Int) (moves : Int) (h : Heap) (Q : Value → Heap → Prop) : Prop :=
  Q (Value.int IntKind.u64 (IntKind.u64.wrap (IntKind.u64.wrap (IntKind.u64.wrap (moves * 4294967296) + IntKind.u64.wrap (IntKind.u64.wrap (IntKind.u16.wrap gap) * 65536)) + IntKind.u64.wrap (IntKind.u16.wrap start)))) h
theorem gabionref06_Pack.ok {start : Int} {gap : Int} {moves : Int} {h : Heap} {Q : Value → Heap → Prop} (hk : gabionref06_Pack.wp start gap moves h Q) : C Try.prog 44 #[.int .i64 start, .int .i64 gap, .int .u64 moves] h Q :=
  C_of_xs (H := gabionref06_Pack.H) (lcuts := gabionref06_Pack.lc) (rcuts := gabionref06_Pack.rc) (l := [.int .i64 start, .int .i64 gap, .int .u64 moves]) 2000 mixed Try.func44 rfl (by kernel_rfl) (Eq.mp (by kernel_rfl) hk)

/-! gabion/gabionlaw06.GapPacks -/
def gabionlaw06_GapPacks.H : Hn := ⟨[], [], [⟨3, [0, 1, 2, 3, 4, 5, 6, 7, 9, 10, 11, 12, 13, 14, 15, 8, 16, 17, 18, 19, 20, 23, 21, 22, 24, 25, 26, 27, 29, 28, 30, 31], []⟩, ⟨6, [0, 2, 3, 4, 5, 6, 7, 8, 9, 1, 10, 11, 12, 13, 14, 15, 16, 17, 18, 19, 20, 21, 22, 23, 24, 25, 26, 27, 28, 29], []⟩]⟩
def gabionlaw06_GapPacks.lc : List Cut := []
def gabionlaw06_GapPacks.rc : List Cut := [⟨5, [1, 2, 7], [2, 7]⟩]
def gabionlaw06_GapPacks.J5 (w : Int) (x_2_0 : Int) (x_2_1 : Int) (x_2_2 : Int) (u_0 : Int) (u_1 : Int) (u_2 : Int) (h : Heap) (Q : Value → Heap → Prop) : Prop :=
  TW Try.prog 14 85 [.code (cAt (bodyOf Try.f14) [1, 1, 1, 1, 0]), .code (cAt (bodyOf Try.f14) [1, 1, 1, 1, 1])] ⟨[(1, .v (.int .u64 w)), (2, .p 2 0), (7, .p 7 0)], [(2, [.int .i64 x_2_0, .int .i64 x_2_1, .int .i64 x_2_2]), (7, [.int .i64 u_0, .int .i64 u_1, .int .u32 u_2])]⟩ h Q
def gabionlaw06_GapPacks.wp (x_0 : Int) (x_1 : Int) (x_2 : Int) (w : Int) (h : Heap) (Q : Value → Heap → Prop) : Prop :=
  C Try.prog 15 #[Value.agg #[Value.int IntKind.i64 x_0, Value.int IntKind.i64 x_1, Value.int IntKind.i64 x_2]] h fun (r : Value) (h' : Heap) =>
    ∃ (x : Int),
      ∃ (x_3 : Int),
        ∃ (x_4 : Int),
          ∃ (x_5 : Int),
            r = Value.tuple #[Value.int IntKind.i64 x, Value.agg #[Value.int IntKind.i64 x_3, Value.int IntKind.i64 x_4, Value.int IntKind.u32 x_5]] ∧
              C Try.prog 42 #[Value.int IntKind.u64 w] h' fun (r : Value) (h' : Heap) =>
                ∃ (x_6 : Int),
                  ∃ (x_7 : Int),
                    ∃ (x_8 : Int),
                      r = Value.agg #[Value.int IntKind.i64 x_6, Value.int IntKind.i64 x_7, Value.int IntKind.u32 x_8] ∧
                        C Try.prog 19 #[] h' fun (r : Value) (h' : Heap) =>
                          ∃ (x_9 : Bool),
                            r = Value.bool x_9 ∧
                              xsIf (!x_9) (Q (Value.bool false) h')
                                (xsIf (decide (x < 1)) (Q (Value.bool false) h')
                                  (C Try.prog 43 #[Value.agg #[Value.int IntKind.i64 x_3, Value.int IntKind.i64 x_4, Value.int IntKind.u32 x_5]] h' fun (r : Value) (h' : Heap) =>
                                    ∃ (x : Int),
                                      r = Value.int IntKind.u64 x ∧
                                        C Try.prog 44 #[Value.int IntKind.i64 x_3, Value.int IntKind.i64 x_4, Value.int IntKind.u64 (IntKind.u64.wrap x_5)] h' fun (r : Value) (h' : Heap) =>
                                          ∃ (x_10 : Int),
                                            r = Value.int IntKind.u64 x_10 ∧
                                              xsIf (decide (x ≠ x_10)) (Q (Value.bool false) h')
                                                (C Try.prog 43 #[Value.agg #[Value.int IntKind.i64 x_3, Value.int IntKind.i64 x_4, Value.int IntKind.u32 x_5]] h' fun (r : Value) (h' : Heap) =>
                                                  ∃ (x : Int),
                                                    r = Value.int IntKind.u64 x ∧
                                                      C Try.prog 42 #[Value.int IntKind.u64 x] h' fun (r : Value) (h' : Heap) =>
                                                        ∃ (x : Int),
                                                          ∃ (x_11 : Int),
                                                            ∃ (x_12 : Int),
                                                              r = Value.agg #[Value.int IntKind.i64 x, Value.int IntKind.i64 x_11, Value.int IntKind.u32 x_12] ∧
                                                                xsIf (!(decide (x = x_3) && (decide (x_11 = x_4) && (decide (x_12 = x_5) && true)))) (Q (Value.bool false) h')
                                                                  (C Try.prog 43 #[Value.agg #[Value.int IntKind.i64 x_6, Value.int IntKind.i64 x_7, Value.int IntKind.u32 x_8]] h' fun (r : Value) (h' : Heap) =>
                                                                    ∃ (x : Int), r = Value.int IntKind.u64 x ∧ xsIf (decide (x ≠ w)) (Q (Value.bool false) h') (gabionlaw06_GapPacks.J5 w x_0 x_1 x_2 x_6 x_7 x_8 h' Q)))))
def gabionlaw06_GapPacks.J5.wp (w : Int) (x_2_0 : Int) (x_2_1 : Int) (x_2_2 : Int) (u_0 : Int) (u_1 : Int) (u_2 : Int) (h : Heap) (Q : Value → Heap → Prop) : Prop :=
  C Try.prog 43 #[Value.agg #[Value.int IntKind.i64 x_2_0, Value.int IntKind.i64 x_2_1, Value.int IntKind.u32 (IntKind.u32.wrap x_2_2)]] h fun (r : Value) (h' : Heap) =>
    ∃ (x : Int),
      r = Value.int IntKind.u64 x ∧
        C Try.prog 44 #[Value.int IntKind.i64 x_2_0, Value.int IntKind.i64 x_2_1, Value.int IntKind.u64 (IntKind.u64.wrap (IntKind.u32.wrap x_2_2))] h' fun (r : Value) (h' : Heap) =>
          ∃ (x_1 : Int),
            r = Value.int IntKind.u64 x_1 ∧
              xsIf (decide (x = x_1)) (xsIf (decide (u_0 = IntKind.i64.wrap (irem w 65536))) (Q (Value.bool (decide (u_1 = IntKind.i64.wrap (irem (iquo IntKind.u64 w 65536) 65536)))) h') (Q (Value.bool false) h')) (Q (Value.bool false) h')
theorem gabionlaw06_GapPacks.ok {x_0 : Int} {x_1 : Int} {x_2 : Int} {w : Int} {h : Heap} {Q : Value → Heap → Prop} (hk : gabionlaw06_GapPacks.wp x_0 x_1 x_2 w h Q) : C Try.prog 14 #[.agg #[.int .i64 x_0, .int .i64 x_1, .int .i64 x_2], .int .u64 w] h Q :=
  C_of_xs (H := gabionlaw06_GapPacks.H) (lcuts := gabionlaw06_GapPacks.lc) (rcuts := gabionlaw06_GapPacks.rc) (l := [.agg #[.int .i64 x_0, .int .i64 x_1, .int .i64 x_2], .int .u64 w]) 2000 mixed Try.func14 rfl (by kernel_rfl) (Eq.mp (by kernel_rfl) hk)
theorem gabionlaw06_GapPacks.J5.ok {w : Int} {x_2_0 : Int} {x_2_1 : Int} {x_2_2 : Int} {u_0 : Int} {u_1 : Int} {u_2 : Int} {h : Heap} {Q : Value → Heap → Prop} (hk : gabionlaw06_GapPacks.J5.wp w x_2_0 x_2_1 x_2_2 u_0 u_1 u_2 h Q) : gabionlaw06_GapPacks.J5 w x_2_0 x_2_1 x_2_2 u_0 u_1 u_2 h Q :=
  xs_ok (H := gabionlaw06_GapPacks.H) (lcuts := gabionlaw06_GapPacks.lc) (rcuts := []) (fn := Try.f14) mixed Try.func14 2000 _ _ _ (Eq.mp (by kernel_rfl) hk)
end Go.Gb
