/- Own text for the seat: Wgap. -/
import Derived.Test.YtmonhmmnnekniaaGbPath
import Derived.Test.YtmonhmmnnekniaaProg
set_option linter.unusedVariables false
namespace Go.Gb
open Go.Proofs
theorem mixed : Try.prog.follows .mixedOrders = true := by kernel_rfl

/-! gabion/gabionlaw06.tame -/
def gabionlaw06_tame.H : Hn := ⟨[], [], [⟨2, [0, 1, 2, 3, 4, 5, 6, 7, 8, 9, 10, 11, 12, 13, 14, 15, 16, 17], [3]⟩]⟩
def gabionlaw06_tame.lc : List Cut := []
def gabionlaw06_tame.rc : List Cut := []
def gabionlaw06_tame.wp (x_0 : Int) (x_1 : Int) (x_2 : Int) (h : Heap) (Q : Value → Heap → Prop) : Prop :=
  IntKind.i64.wrap (1 + irem (if x_0 > 0 then x_0 else 0) 40) ≠ 0 ∧
    IntKind.i64.wrap (IntKind.i64.wrap (1 + irem (if x_0 > 0 then x_0 else 0) 40) + 1) ≠ 0 ∧
      Q
        (Value.tuple
          #[Value.int IntKind.i64 (IntKind.i64.wrap (1 + irem (if x_0 > 0 then x_0 else 0) 40)),
                Value.agg
                  #[Value.int IntKind.i64 (irem (if x_1 > 0 then x_1 else 0) (IntKind.i64.wrap (1 + irem (if x_0 > 0 then x_0 else 0) 40))),
                        Value.int IntKind.i64 (irem (if x_2 > 0 then x_2 else 0) (IntKind.i64.wrap (IntKind.i64.wrap (1 + irem (if x_0 > 0 then x_0 else 0) 40) + 1))), Value.int IntKind.u32 (IntKind.u32.wrap x_0)]])
        h
theorem gabionlaw06_tame.ok {x_0 : Int} {x_1 : Int} {x_2 : Int} {h : Heap} {Q : Value → Heap → Prop} (hk : gabionlaw06_tame.wp x_0 x_1 x_2 h Q) : C Try.prog 15 #[.agg #[.int .i64 x_0, .int .i64 x_1, .int .i64 x_2]] h Q :=
  C_of_xs (H := gabionlaw06_tame.H) (lcuts := gabionlaw06_tame.lc) (rcuts := gabionlaw06_tame.rc) (l := [.agg #[.int .i64 x_0, .int .i64 x_1, .int .i64 x_2]]) 2000 mixed Try.func15 rfl (by kernel_rfl) (Eq.mp (by kernel_rfl) hk)

/-! gabion/gap.may -/
def gap_may.H : Hn := ⟨[], [], []⟩
def gap_may.lc : List Cut := []
def gap_may.rc : List Cut := []
def gap_may.wp (n : Int) (h : Heap) (Q : Value → Heap → Prop) : Prop :=
  xsIf (decide (1 ≤ n)) (Q (Value.bool (decide (n ≤ 1024))) h) (Q (Value.bool false) h)
theorem gap_may.ok {n : Int} {h : Heap} {Q : Value → Heap → Prop} (hk : gap_may.wp n h Q) : C Try.prog 45 #[.int .i64 n] h Q :=
  C_of_xs (H := gap_may.H) (lcuts := gap_may.lc) (rcuts := gap_may.rc) (l := [.int .i64 n]) 2000 mixed Try.func45 rfl (by kernel_rfl) (Eq.mp (by kernel_rfl) hk)

/-! (gabion/gap.State).Right -/
def gap_State_Right.H : Hn := ⟨[], [], []⟩
def gap_State_Right.lc : List Cut := []
def gap_State_Right.rc : List Cut := []
def gap_State_Right.wp (s_0 : Int) (s_1 : Int) (s_2 : Int) (n : Int) (h : Heap) (Q : Value → Heap → Prop) : Prop :=
  C Try.prog 45 #[Value.int IntKind.i64 n] h fun (r : Value) (h' : Heap) =>
    ∃ (x : Bool),
      r = Value.bool x ∧
        xsIf x (xsIf (decide (0 ≤ s_0)) (xsIf (decide (s_0 < n)) (xsIf (decide (0 ≤ s_1)) (Q (Value.bool (decide (s_1 ≤ n))) h') (Q (Value.bool false) h')) (Q (Value.bool false) h')) (Q (Value.bool false) h')) (Q (Value.bool false) h')
theorem gap_State_Right.ok {s_0 : Int} {s_1 : Int} {s_2 : Int} {n : Int} {h : Heap} {Q : Value → Heap → Prop} (hk : gap_State_Right.wp s_0 s_1 s_2 n h Q) : C Try.prog 33 #[.agg #[.int .i64 s_0, .int .i64 s_1, .int .u32 s_2], .int .i64 n] h Q :=
  C_of_xs (H := gap_State_Right.H) (lcuts := gap_State_Right.lc) (rcuts := gap_State_Right.rc) (l := [.agg #[.int .i64 s_0, .int .i64 s_1, .int .u32 s_2], .int .i64 n]) 2000 mixed Try.func33 rfl (by kernel_rfl) (Eq.mp (by kernel_rfl) hk)

/-! (gabion/gap.State).Next -/
def gap_State_Next.H : Hn := ⟨[], [], [⟨5, [0, 1, 2, 3, 4, 5, 6, 7, 8], [4]⟩]⟩
def gap_State_Next.lc : List Cut := []
def gap_State_Next.rc : List Cut := []
def gap_State_Next.wp (s_0 : Int) (s_1 : Int) (s_2 : Int) (n : Int) (h : Heap) (Q : Value → Heap → Prop) : Prop :=
  C Try.prog 33 #[Value.agg #[Value.int IntKind.i64 s_0, Value.int IntKind.i64 s_1, Value.int IntKind.u32 s_2], Value.int IntKind.i64 n] h fun (r : Value) (h' : Heap) =>
    ∃ (x : Bool),
      r = Value.bool x ∧
        xsIf (!x) (Q (Value.tuple #[Value.agg #[Value.int IntKind.i64 0, Value.int IntKind.i64 0, Value.int IntKind.u32 0], Value.int IntKind.i64 0, Value.int IntKind.i64 0]) h')
          (xsIf (decide (0 < s_1))
            (Q
              (Value.tuple
                #[Value.agg #[Value.int IntKind.i64 s_0, Value.int IntKind.i64 (IntKind.i64.wrap (s_1 - 1)), Value.int IntKind.u32 (IntKind.u32.wrap (s_2 + 1))], Value.int IntKind.i64 (IntKind.i64.wrap (s_1 - 1)),
                      Value.int IntKind.i64 s_1])
              h')
            (n ≠ 0 ∧
              Q
                (Value.tuple
                  #[Value.agg #[Value.int IntKind.i64 (irem (IntKind.i64.wrap (s_0 + 1)) n), Value.int IntKind.i64 n, Value.int IntKind.u32 (IntKind.u32.wrap (s_2 + 1))], Value.int IntKind.i64 n, Value.int IntKind.i64 0])
                h'))
theorem gap_State_Next.ok {s_0 : Int} {s_1 : Int} {s_2 : Int} {n : Int} {h : Heap} {Q : Value → Heap → Prop} (hk : gap_State_Next.wp s_0 s_1 s_2 n h Q) : C Try.prog 16 #[.agg #[.int .i64 s_0, .int .i64 s_1, .int .u32 s_2], .int .i64 n] h Q :=
  C_of_xs (H := gap_State_Next.H) (lcuts := gap_State_Next.lc) (rcuts := gap_State_Next.rc) (l := [.agg #[.int .i64 s_0, .int .i64 s_1, .int .u32 s_2], .int .i64 n]) 2000 mixed Try.func16 rfl (by kernel_rfl) (Eq.mp (by kernel_rfl) hk)

/-! gabion/gabionref06.Next -/
def gabionref06_Next.H : Hn := ⟨[], [], []⟩
def gabionref06_Next.lc : List Cut := []
def gabionref06_Next.rc : List Cut := []
def gabionref06_Next.wp (start : Int) (gap : Int) (n : Int) (h : Heap) (Q : Value → Heap → Prop) : Prop :=
  xsIf (decide (0 < gap)) (Q (Value.tuple #[Value.int IntKind.i64 start, Value.int IntKind.i64 (IntKind.i64.wrap (gap - 1)), Value.int IntKind.i64 (IntKind.i64.wrap (gap - 1)), Value.int IntKind.i64 gap]) h)
    (xsIf (decide (IntKind.i64.wrap (start + 1) = n)) (Q (Value.tuple #[Value.int IntKind.i64 0, Value.int IntKind.i64 n, Value.int IntKind.i64 n, Value.int IntKind.i64 0]) h)
      (Q (Value.tuple #[Value.int IntKind.i64 (IntKind.i64.wrap (start + 1)), Value.int IntKind.i64 n, Value.int IntKind.i64 n, Value.int IntKind.i64 0]) h))
theorem gabionref06_Next.ok {start : Int} {gap : Int} {n : Int} {h : Heap} {Q : Value → Heap → Prop} (hk : gabionref06_Next.wp start gap n h Q) : C Try.prog 17 #[.int .i64 start, .int .i64 gap, .int .i64 n] h Q :=
  C_of_xs (H := gabionref06_Next.H) (lcuts := gabionref06_Next.lc) (rcuts := gabionref06_Next.rc) (l := [.int .i64 start, .int .i64 gap, .int .i64 n]) 2000 mixed Try.func17 rfl (by kernel_rfl) (Eq.mp (by kernel_rfl) hk)

/-! gabion/gabionref06.Right -/
def gabionref06_Right.H : Hn := ⟨[], [], []⟩
def gabionref06_Right.lc : List Cut := []
def gabionref06_Right.rc : List Cut := []
def gabionref06_Right.wp (start : Int) (gap : Int) (n : Int) (h : Heap) (Q : Value → Heap → Prop) : Prop :=
  xsIf (decide (1 ≤ n))
    (xsIf (decide (n ≤ 1024)) (xsIf (decide (0 ≤ start)) (xsIf (decide (start < n)) (xsIf (decide (0 ≤ gap)) (Q (Value.bool (decide (gap ≤ n))) h) (Q (Value.bool false) h)) (Q (Value.bool false) h)) (Q (Value.bool false) h))
      (Q (Value.bool false) h))
    (Q (Value.bool false) h)
theorem gabionref06_Right.ok {start : Int} {gap : Int} {n : Int} {h : Heap} {Q : Value → Heap → Prop} (hk : gabionref06_Right.wp start gap n h Q) : C Try.prog 18 #[.int .i64 start, .int .i64 gap, .int .i64 n] h Q :=
  C_of_xs (H := gabionref06_Right.H) (lcuts := gabionref06_Right.lc) (rcuts := gabionref06_Right.rc) (l := [.int .i64 start, .int .i64 gap, .int .i64 n]) 2000 mixed Try.func18 rfl (by kernel_rfl) (Eq.mp (by kernel_rfl) hk)

/-! gabion/gap.First -/
def gap_First.H : Hn := ⟨[], [], []⟩
def gap_First.lc : List Cut := []
def gap_First.rc : List Cut := []
def gap_First.wp (n : Int) (h : Heap) (Q : Value → Heap → Prop) : Prop :=
  C Try.prog 45 #[Value.int IntKind.i64 n] h fun (r : Value) (h' : Heap) =>
    ∃ (x : Bool),
      r = Value.bool x ∧
        xsIf (!x) (Q (Value.agg #[Value.int IntKind.i64 0, Value.int IntKind.i64 0, Value.int IntKind.u32 0]) h') (Q (Value.agg #[Value.int IntKind.i64 0, Value.int IntKind.i64 n, Value.int IntKind.u32 0]) h')
theorem gap_First.ok {n : Int} {h : Heap} {Q : Value → Heap → Prop} (hk : gap_First.wp n h Q) : C Try.prog 20 #[.int .i64 n] h Q :=
  C_of_xs (H := gap_First.H) (lcuts := gap_First.lc) (rcuts := gap_First.rc) (l := [.int .i64 n]) 2000 mixed Try.func20 rfl (by kernel_rfl) (Eq.mp (by kernel_rfl) hk)

/-! (gabion/gap.State).Slot -/
def gap_State_Slot.H : Hn := ⟨[], [], []⟩
def gap_State_Slot.lc : List Cut := []
def gap_State_Slot.rc : List Cut := [⟨3, [1, 2, 3], [3]⟩]
def gap_State_Slot.J3 (n : Int) (i : Int) (s_3_0 : Int) (s_3_1 : Int) (s_3_2 : Int) (h : Heap) (Q : Value → Heap → Prop) : Prop :=
  TW Try.prog 32 34 [.code (cAt (bodyOf Try.f32) [1, 1, 0]), .code (cAt (bodyOf Try.f32) [1, 1, 1])] ⟨[(1, .v (.int .i64 n)), (2, .v (.int .i64 i)), (3, .p 3 0)], [(3, [.int .i64 s_3_0, .int .i64 s_3_1, .int .u32 s_3_2])]⟩ h Q
def gap_State_Slot.wp (s_0 : Int) (s_1 : Int) (s_2 : Int) (n : Int) (i : Int) (h : Heap) (Q : Value → Heap → Prop) : Prop :=
  C Try.prog 33 #[Value.agg #[Value.int IntKind.i64 s_0, Value.int IntKind.i64 s_1, Value.int IntKind.u32 s_2], Value.int IntKind.i64 n] h fun (r : Value) (h' : Heap) =>
    ∃ (x : Bool),
      r = Value.bool x ∧ xsIf (!x) (Q (Value.int IntKind.i64 (-1)) h') (xsIf (decide (i < 0)) (Q (Value.int IntKind.i64 (-1)) h') (xsIf (decide (n ≤ i)) (Q (Value.int IntKind.i64 (-1)) h') (gap_State_Slot.J3 n i s_0 s_1 s_2 h' Q)))
def gap_State_Slot.J3.wp (n : Int) (i : Int) (s_3_0 : Int) (s_3_1 : Int) (s_3_2 : Int) (h : Heap) (Q : Value → Heap → Prop) : Prop :=
  n ≠ 0 ∧ xsIf (decide (s_3_1 ≤ irem (IntKind.i64.wrap (i + s_3_0)) n)) (Q (Value.int IntKind.i64 (IntKind.i64.wrap (irem (IntKind.i64.wrap (i + s_3_0)) n + 1))) h) (Q (Value.int IntKind.i64 (irem (IntKind.i64.wrap (i + s_3_0)) n)) h)
theorem gap_State_Slot.ok {s_0 : Int} {s_1 : Int} {s_2 : Int} {n : Int} {i : Int} {h : Heap} {Q : Value → Heap → Prop} (hk : gap_State_Slot.wp s_0 s_1 s_2 n i h Q) : C Try.prog 32 #[.agg #[.int .i64 s_0, .int .i64 s_1, .int .u32 s_2], .int .i64 n, .int .i64 i] h Q :=
  C_of_xs (H := gap_State_Slot.H) (lcuts := gap_State_Slot.lc) (rcuts := gap_State_Slot.rc) (l := [.agg #[.int .i64 s_0, .int .i64 s_1, .int .u32 s_2], .int .i64 n, .int .i64 i]) 2000 mixed Try.func32 rfl (by kernel_rfl) (Eq.mp (by kernel_rfl) hk)
theorem gap_State_Slot.J3.ok {n : Int} {i : Int} {s_3_0 : Int} {s_3_1 : Int} {s_3_2 : Int} {h : Heap} {Q : Value → Heap → Prop} (hk : gap_State_Slot.J3.wp n i s_3_0 s_3_1 s_3_2 h Q) : gap_State_Slot.J3 n i s_3_0 s_3_1 s_3_2 h Q :=
  xs_ok (H := gap_State_Slot.H) (lcuts := gap_State_Slot.lc) (rcuts := []) (fn := Try.f32) mixed Try.func32 2000 _ _ _ (Eq.mp (by kernel_rfl) hk)

/-! gabion/gabionlaw06.wakes -/
def gabionlaw06_wakes.H : Hn := ⟨[], [], []⟩
def gabionlaw06_wakes.lc : List Cut := [⟨5, [1, 2, 3, 4, 5, 15], [1, 3]⟩]
def gabionlaw06_wakes.rc : List Cut := [⟨8, [1, 2, 3, 4, 5], [1, 3]⟩]
def gabionlaw06_wakes.L5 (a : Int) (from0 : Int) (to0 : Int) (t15 : Int) (s_0 : Int) (s_1 : Int) (s_2 : Int) (t_0 : Int) (t_1 : Int) (t_2 : Int) (h : Heap) (Q : Value → Heap → Prop) : Prop :=
  TW Try.prog 19 55 [.code (cAt (bodyOf Try.f19) [1, 1, 1, 1, 0, 1, 0, 0]), .inLoop (cAt (bodyOf Try.f19) [1, 1, 1, 1, 0, 1, 0, 0]), .inBlock 0, .code (cAt (bodyOf Try.f19) [1, 1, 1, 1, 1])] ⟨[(1, .p 1 0), (2, .v (.int .i64 a)), (3, .p 3 0), (4, .v (.int .i64 from0)), (5, .v (.int .i64 to0)), (15, .v (.int .i64 t15))], [(1, [.int .i64 s_0, .int .i64 s_1, .int .u32 s_2]), (3, [.int .i64 t_0, .int .i64 t_1, .int .u32 t_2])]⟩ h Q
def gabionlaw06_wakes.J8 (a : Int) (from0 : Int) (to0 : Int) (s_0 : Int) (s_1 : Int) (s_2 : Int) (t_0 : Int) (t_1 : Int) (t_2 : Int) (h : Heap) (Q : Value → Heap → Prop) : Prop :=
  TW Try.prog 19 55 [.code (cAt (bodyOf Try.f19) [1, 1, 1, 1, 1, 0]), .code (cAt (bodyOf Try.f19) [1, 1, 1, 1, 1, 1])] ⟨[(1, .p 1 0), (2, .v (.int .i64 a)), (3, .p 3 0), (4, .v (.int .i64 from0)), (5, .v (.int .i64 to0))], [(1, [.int .i64 s_0, .int .i64 s_1, .int .u32 s_2]), (3, [.int .i64 t_0, .int .i64 t_1, .int .u32 t_2])]⟩ h Q
def gabionlaw06_wakes.wp  (h : Heap) (Q : Value → Heap → Prop) : Prop :=
  C Try.prog 20 #[Value.int IntKind.i64 4] h fun (r : Value) (h' : Heap) =>
    ∃ (x : Int),
      ∃ (x_1 : Int),
        ∃ (x_2 : Int),
          r = Value.agg #[Value.int IntKind.i64 x, Value.int IntKind.i64 x_1, Value.int IntKind.u32 x_2] ∧
            C Try.prog 32 #[Value.agg #[Value.int IntKind.i64 x, Value.int IntKind.i64 x_1, Value.int IntKind.u32 x_2], Value.int IntKind.i64 4, Value.int IntKind.i64 0] h' fun (r : Value) (h' : Heap) =>
              ∃ (x_3 : Int),
                r = Value.int IntKind.i64 x_3 ∧
                  C Try.prog 16 #[Value.agg #[Value.int IntKind.i64 x, Value.int IntKind.i64 x_1, Value.int IntKind.u32 x_2], Value.int IntKind.i64 4] h' fun (r : Value) (h' : Heap) =>
                    ∃ (x_4 : Int),
                      ∃ (x_5 : Int),
                        ∃ (x_6 : Int),
                          ∃ (x_7 : Int),
                            ∃ (x_8 : Int),
                              r = Value.tuple #[Value.agg #[Value.int IntKind.i64 x_4, Value.int IntKind.i64 x_5, Value.int IntKind.u32 x_6], Value.int IntKind.i64 x_7, Value.int IntKind.i64 x_8] ∧
                                gabionlaw06_wakes.L5 x_3 x_7 x_8 0 x x_1 x_2 x_4 x_5 x_6 h' Q
def gabionlaw06_wakes.L5.wp (a : Int) (from0 : Int) (to0 : Int) (t15 : Int) (s_0 : Int) (s_1 : Int) (s_2 : Int) (t_0 : Int) (t_1 : Int) (t_2 : Int) (h : Heap) (Q : Value → Heap → Prop) : Prop :=
  xsIf (decide (t15 < 4))
    (C Try.prog 16 #[Value.agg #[Value.int IntKind.i64 s_0, Value.int IntKind.i64 s_1, Value.int IntKind.u32 s_2], Value.int IntKind.i64 4] h fun (r : Value) (h' : Heap) =>
      ∃ (x : Int),
        ∃ (x_1 : Int),
          ∃ (x_2 : Int),
            ∃ (x_3 : Int),
              ∃ (x_4 : Int),
                r = Value.tuple #[Value.agg #[Value.int IntKind.i64 x, Value.int IntKind.i64 x_1, Value.int IntKind.u32 x_2], Value.int IntKind.i64 x_3, Value.int IntKind.i64 x_4] ∧
                  gabionlaw06_wakes.L5 a from0 to0 (IntKind.i64.wrap (t15 + 1)) x x_1 x_2 t_0 t_1 t_2 h' Q)
    (gabionlaw06_wakes.J8 a from0 to0 s_0 s_1 s_2 t_0 t_1 t_2 h Q)
def gabionlaw06_wakes.J8.wp (a : Int) (from0 : Int) (to0 : Int) (s_0 : Int) (s_1 : Int) (s_2 : Int) (t_0 : Int) (t_1 : Int) (t_2 : Int) (h : Heap) (Q : Value → Heap → Prop) : Prop :=
  C Try.prog 16 #[Value.agg #[Value.int IntKind.i64 s_0, Value.int IntKind.i64 s_1, Value.int IntKind.u32 s_2], Value.int IntKind.i64 4] h fun (r : Value) (h' : Heap) =>
    ∃ (x : Int),
      ∃ (x_1 : Int),
        ∃ (x_2 : Int),
          ∃ (x_3 : Int),
            ∃ (x_4 : Int),
              r = Value.tuple #[Value.agg #[Value.int IntKind.i64 x, Value.int IntKind.i64 x_1, Value.int IntKind.u32 x_2], Value.int IntKind.i64 x_3, Value.int IntKind.i64 x_4] ∧
                xsIf (decide (a = 0))
                  (C Try.prog 32 #[Value.agg #[Value.int IntKind.i64 t_0, Value.int IntKind.i64 t_1, Value.int IntKind.u32 t_2], Value.int IntKind.i64 4, Value.int IntKind.i64 3] h' fun (r : Value) (h' : Heap) =>
                    ∃ (x_5 : Int),
                      r = Value.int IntKind.i64 x_5 ∧
                        xsIf (decide (x_5 = 4))
                          (xsIf (decide (from0 = 3))
                            (xsIf (decide (to0 = 4))
                              (C Try.prog 32 #[Value.agg #[Value.int IntKind.i64 x, Value.int IntKind.i64 x_1, Value.int IntKind.u32 x_2], Value.int IntKind.i64 4, Value.int IntKind.i64 0] h'
                                fun (r : Value) (h' : Heap) => ∃ (x : Int), r = Value.int IntKind.i64 x ∧ xsIf (decide (x = 1)) (Q (Value.bool (decide (x_2 = 5))) h') (Q (Value.bool false) h'))
                              (Q (Value.bool false) h'))
                            (Q (Value.bool false) h'))
                          (Q (Value.bool false) h'))
                  (Q (Value.bool false) h')
theorem gabionlaw06_wakes.ok {h : Heap} {Q : Value → Heap → Prop} (hk : gabionlaw06_wakes.wp h Q) : C Try.prog 19 #[] h Q :=
  C_of_xs (H := gabionlaw06_wakes.H) (lcuts := gabionlaw06_wakes.lc) (rcuts := gabionlaw06_wakes.rc) (l := []) 2000 mixed Try.func19 rfl (by kernel_rfl) (Eq.mp (by kernel_rfl) hk)
theorem gabionlaw06_wakes.L5.ok {a : Int} {from0 : Int} {to0 : Int} {t15 : Int} {s_0 : Int} {s_1 : Int} {s_2 : Int} {t_0 : Int} {t_1 : Int} {t_2 : Int} {h : Heap} {Q : Value → Heap → Prop} (hk : gabionlaw06_wakes.L5.wp a from0 to0 t15 s_0 s_1 s_2 t_0 t_1 t_2 h Q) : gabionlaw06_wakes.L5 a from0 to0 t15 s_0 s_1 s_2 t_0 t_1 t_2 h Q :=
  xs_ok (H := gabionlaw06_wakes.H) (lcuts := gabionlaw06_wakes.lc) (rcuts := gabionlaw06_wakes.rc) (fn := Try.f19) mixed Try.func19 2000 _ _ _ (Eq.mp (by kernel_rfl) hk)
theorem gabionlaw06_wakes.J8.ok {a : Int} {from0 : Int} {to0 : Int} {s_0 : Int} {s_1 : Int} {s_2 : Int} {t_0 : Int} {t_1 : Int} {t_2 : Int} {h : Heap} {Q : Value → Heap → Prop} (hk : gabionlaw06_wakes.J8.wp a from0 to0 s_0 s_1 s_2 t_0 t_1 t_2 h Q) : gabionlaw06_wakes.J8 a from0 to0 s_0 s_1 s_2 t_0 t_1 t_2 h Q :=
  xs_ok (H := gabionlaw06_wakes.H) (lcuts := gabionlaw06_wakes.lc) (rcuts := []) (fn := Try.f19) mixed Try.func19 2000 _ _ _ (Eq.mp (by kernel_rfl) hk)

/-! gabion/gabionlaw06.GapMoves -/
def gabionlaw06_GapMoves.H : Hn := ⟨[], [], []⟩
def gabionlaw06_GapMoves.lc : List Cut := []
def gabionlaw06_GapMoves.rc : List Cut := [⟨6, [1], [1]⟩]
def gabionlaw06_GapMoves.J6 (x_1_0 : Int) (x_1_1 : Int) (x_1_2 : Int) (h : Heap) (Q : Value → Heap → Prop) : Prop :=
  TW Try.prog 3 92 [.code (cAt (bodyOf Try.f3) [1, 1, 1, 1, 1, 0]), .code (cAt (bodyOf Try.f3) [1, 1, 1, 1, 1, 1])] ⟨[(1, .p 1 0)], [(1, [.int .i64 x_1_0, .int .i64 x_1_1, .int .i64 x_1_2])]⟩ h Q
def gabionlaw06_GapMoves.wp (x_0 : Int) (x_1 : Int) (x_2 : Int) (h : Heap) (Q : Value → Heap → Prop) : Prop :=
  C Try.prog 15 #[Value.agg #[Value.int IntKind.i64 x_0, Value.int IntKind.i64 x_1, Value.int IntKind.i64 x_2]] h fun (r : Value) (h' : Heap) =>
    ∃ (x : Int),
      ∃ (x_3 : Int),
        ∃ (x_4 : Int),
          ∃ (x_5 : Int),
            r = Value.tuple #[Value.int IntKind.i64 x, Value.agg #[Value.int IntKind.i64 x_3, Value.int IntKind.i64 x_4, Value.int IntKind.u32 x_5]] ∧
              C Try.prog 16 #[Value.agg #[Value.int IntKind.i64 x_3, Value.int IntKind.i64 x_4, Value.int IntKind.u32 x_5], Value.int IntKind.i64 x] h' fun (r : Value) (h' : Heap) =>
                ∃ (x_6 : Int),
                  ∃ (x_7 : Int),
                    ∃ (x_8 : Int),
                      ∃ (x_9 : Int),
                        ∃ (x_10 : Int),
                          r = Value.tuple #[Value.agg #[Value.int IntKind.i64 x_6, Value.int IntKind.i64 x_7, Value.int IntKind.u32 x_8], Value.int IntKind.i64 x_9, Value.int IntKind.i64 x_10] ∧
                            C Try.prog 17 #[Value.int IntKind.i64 x_3, Value.int IntKind.i64 x_4, Value.int IntKind.i64 x] h' fun (r : Value) (h' : Heap) =>
                              ∃ (x : Int),
                                ∃ (x_11 : Int),
                                  ∃ (x_12 : Int),
                                    ∃ (x_13 : Int),
                                      r = Value.tuple #[Value.int IntKind.i64 x, Value.int IntKind.i64 x_11, Value.int IntKind.i64 x_12, Value.int IntKind.i64 x_13] ∧
                                        xsIf (!(decide (x_6 = x) && (decide (x_7 = x_11) && (decide (x_8 = IntKind.u32.wrap (x_5 + 1)) && true)))) (Q (Value.bool false) h')
                                          (xsIf (decide (x_9 ≠ x_12)) (Q (Value.bool false) h') (xsIf (decide (x_10 ≠ x_13)) (Q (Value.bool false) h') (gabionlaw06_GapMoves.J6 x_0 x_1 x_2 h' Q)))
def gabionlaw06_GapMoves.J6.wp (x_1_0 : Int) (x_1_1 : Int) (x_1_2 : Int) (h : Heap) (Q : Value → Heap → Prop) : Prop :=
  C Try.prog 16 #[Value.agg #[Value.int IntKind.i64 x_1_1, Value.int IntKind.i64 x_1_2, Value.int IntKind.u32 0], Value.int IntKind.i64 x_1_0] h fun (r : Value) (h' : Heap) =>
    ∃ (x : Int),
      ∃ (x_1 : Int),
        ∃ (x_2 : Int),
          ∃ (x_3 : Int),
            ∃ (x_4 : Int),
              r = Value.tuple #[Value.agg #[Value.int IntKind.i64 x, Value.int IntKind.i64 x_1, Value.int IntKind.u32 x_2], Value.int IntKind.i64 x_3, Value.int IntKind.i64 x_4] ∧
                C Try.prog 18 #[Value.int IntKind.i64 x_1_1, Value.int IntKind.i64 x_1_2, Value.int IntKind.i64 x_1_0] h' fun (r : Value) (h' : Heap) =>
                  ∃ (x_5 : Bool),
                    r = Value.bool x_5 ∧
                      xsIf (!x_5)
                        (xsIf (!(decide (x = 0) && (decide (x_1 = 0) && (decide (x_2 = 0) && true)))) (Q (Value.bool false) h')
                          (xsIf (decide (x_3 ≠ 0)) (Q (Value.bool false) h')
                            (xsIf (decide (x_4 ≠ 0)) (Q (Value.bool false) h') (C Try.prog 19 #[] h' fun (r : Value) (h' : Heap) => ∃ (x : Bool), r = Value.bool x ∧ Q (Value.bool x) h'))))
                        (C Try.prog 19 #[] h' fun (r : Value) (h' : Heap) => ∃ (x : Bool), r = Value.bool x ∧ Q (Value.bool x) h')
theorem gabionlaw06_GapMoves.ok {x_0 : Int} {x_1 : Int} {x_2 : Int} {h : Heap} {Q : Value → Heap → Prop} (hk : gabionlaw06_GapMoves.wp x_0 x_1 x_2 h Q) : C Try.prog 3 #[.agg #[.int .i64 x_0, .int .i64 x_1, .int .i64 x_2]] h Q :=
  C_of_xs (H := gabionlaw06_GapMoves.H) (lcuts := gabionlaw06_GapMoves.lc) (rcuts := gabionlaw06_GapMoves.rc) (l := [.agg #[.int .i64 x_0, .int .i64 x_1, .int .i64 x_2]]) 2000 mixed Try.func3 rfl (by kernel_rfl) (Eq.mp (by kernel_rfl) hk)
theorem gabionlaw06_GapMoves.J6.ok {x_1_0 : Int} {x_1_1 : Int} {x_1_2 : Int} {h : Heap} {Q : Value → Heap → Prop} (hk : gabionlaw06_GapMoves.J6.wp x_1_0 x_1_1 x_1_2 h Q) : gabionlaw06_GapMoves.J6 x_1_0 x_1_1 x_1_2 h Q :=
  xs_ok (H := gabionlaw06_GapMoves.H) (lcuts := gabionlaw06_GapMoves.lc) (rcuts := []) (fn := Try.f3) mixed Try.func3 2000 _ _ _ (Eq.mp (by kernel_rfl) hk)

/-! gabion/gabionlaw06.GapLater -/
def gabionlaw06_GapLater.H : Hn := ⟨[], [], [⟨8, [0, 1, 2, 3, 4, 5, 6, 7, 8, 9, 10, 11, 12, 13, 14, 15, 16, 17, 18, 19, 20], []⟩]⟩
def gabionlaw06_GapLater.lc : List Cut := [⟨5, [5, 6, 7, 17, 18], [7]⟩]
def gabionlaw06_GapLater.rc : List Cut := [⟨8, [5, 6, 7], [7]⟩]
def gabionlaw06_GapLater.L5 (m : Int) (k0 : Int) (t17 : Int) (t18 : Int) (s_0 : Int) (s_1 : Int) (s_2 : Int) (h : Heap) (Q : Value → Heap → Prop) : Prop :=
  TW Try.prog 4 48 [.code (cAt (bodyOf Try.f4) [1, 1, 1, 1, 0, 1, 0, 0]), .inLoop (cAt (bodyOf Try.f4) [1, 1, 1, 1, 0, 1, 0, 0]), .inBlock 0, .code (cAt (bodyOf Try.f4) [1, 1, 1, 1, 1])] ⟨[(5, .v (.int .i64 m)), (6, .v (.int .i64 k0)), (7, .p 7 0), (17, .v (.int .i64 t17)), (18, .v (.int .i64 t18))], [(7, [.int .i64 s_0, .int .i64 s_1, .int .u32 s_2])]⟩ h Q
def gabionlaw06_GapLater.J8 (m : Int) (k0 : Int) (s_0 : Int) (s_1 : Int) (s_2 : Int) (h : Heap) (Q : Value → Heap → Prop) : Prop :=
  TW Try.prog 4 48 [.code (cAt (bodyOf Try.f4) [1, 1, 1, 1, 1, 0]), .code (cAt (bodyOf Try.f4) [1, 1, 1, 1, 1, 1])] ⟨[(5, .v (.int .i64 m)), (6, .v (.int .i64 k0)), (7, .p 7 0)], [(7, [.int .i64 s_0, .int .i64 s_1, .int .u32 s_2])]⟩ h Q
def gabionlaw06_GapLater.wp (n : Int) (moves : Int) (h : Heap) (Q : Value → Heap → Prop) : Prop :=
  C Try.prog 20 #[Value.int IntKind.i64 (IntKind.i64.wrap (1 + IntKind.i64.wrap (irem n 30)))] h fun (r : Value) (h' : Heap) =>
    ∃ (x : Int),
      ∃ (x_1 : Int),
        ∃ (x_2 : Int),
          r = Value.agg #[Value.int IntKind.i64 x, Value.int IntKind.i64 x_1, Value.int IntKind.u32 x_2] ∧
            gabionlaw06_GapLater.L5 (IntKind.i64.wrap (1 + IntKind.i64.wrap (irem n 30))) (irem (IntKind.i64.wrap moves) 700) (irem (IntKind.i64.wrap moves) 700) 0 x x_1 x_2 h' Q
def gabionlaw06_GapLater.L5.wp (m : Int) (k0 : Int) (t17 : Int) (t18 : Int) (s_0 : Int) (s_1 : Int) (s_2 : Int) (h : Heap) (Q : Value → Heap → Prop) : Prop :=
  xsIf (decide (t18 < t17))
    (C Try.prog 16 #[Value.agg #[Value.int IntKind.i64 s_0, Value.int IntKind.i64 s_1, Value.int IntKind.u32 s_2], Value.int IntKind.i64 m] h fun (r : Value) (h' : Heap) =>
      ∃ (x : Int),
        ∃ (x_1 : Int),
          ∃ (x_2 : Int),
            ∃ (x_3 : Int),
              ∃ (x_4 : Int),
                r = Value.tuple #[Value.agg #[Value.int IntKind.i64 x, Value.int IntKind.i64 x_1, Value.int IntKind.u32 x_2], Value.int IntKind.i64 x_3, Value.int IntKind.i64 x_4] ∧
                  gabionlaw06_GapLater.L5 m k0 t17 (IntKind.i64.wrap (t18 + 1)) x x_1 x_2 h' Q)
    (gabionlaw06_GapLater.J8 m k0 s_0 s_1 s_2 h Q)
def gabionlaw06_GapLater.J8.wp (m : Int) (k0 : Int) (s_0 : Int) (s_1 : Int) (s_2 : Int) (h : Heap) (Q : Value → Heap → Prop) : Prop :=
  C Try.prog 19 #[] h fun (r : Value) (h' : Heap) =>
    ∃ (x : Bool),
      r = Value.bool x ∧
        xsIf x
          (IntKind.i64.wrap (m + 1) ≠ 0 ∧
            m ≠ 0 ∧
              IntKind.i64.wrap (m + 1) ≠ 0 ∧
                Q (Value.bool (decide (s_0 = irem (iquo IntKind.i64 k0 (IntKind.i64.wrap (m + 1))) m) && (decide (s_1 = IntKind.i64.wrap (m - irem k0 (IntKind.i64.wrap (m + 1)))) && (decide (s_2 = IntKind.u32.wrap k0) && true)))) h')
          (Q (Value.bool false) h')
theorem gabionlaw06_GapLater.ok {n : Int} {moves : Int} {h : Heap} {Q : Value → Heap → Prop} (hk : gabionlaw06_GapLater.wp n moves h Q) : C Try.prog 4 #[.int .u8 n, .int .u16 moves] h Q :=
  C_of_xs (H := gabionlaw06_GapLater.H) (lcuts := gabionlaw06_GapLater.lc) (rcuts := gabionlaw06_GapLater.rc) (l := [.int .u8 n, .int .u16 moves]) 2000 mixed Try.func4 rfl (by kernel_rfl) (Eq.mp (by kernel_rfl) hk)
theorem gabionlaw06_GapLater.L5.ok {m : Int} {k0 : Int} {t17 : Int} {t18 : Int} {s_0 : Int} {s_1 : Int} {s_2 : Int} {h : Heap} {Q : Value → Heap → Prop} (hk : gabionlaw06_GapLater.L5.wp m k0 t17 t18 s_0 s_1 s_2 h Q) : gabionlaw06_GapLater.L5 m k0 t17 t18 s_0 s_1 s_2 h Q :=
  xs_ok (H := gabionlaw06_GapLater.H) (lcuts := gabionlaw06_GapLater.lc) (rcuts := gabionlaw06_GapLater.rc) (fn := Try.f4) mixed Try.func4 2000 _ _ _ (Eq.mp (by kernel_rfl) hk)
theorem gabionlaw06_GapLater.J8.ok {m : Int} {k0 : Int} {s_0 : Int} {s_1 : Int} {s_2 : Int} {h : Heap} {Q : Value → Heap → Prop} (hk : gabionlaw06_GapLater.J8.wp m k0 s_0 s_1 s_2 h Q) : gabionlaw06_GapLater.J8 m k0 s_0 s_1 s_2 h Q :=
  xs_ok (H := gabionlaw06_GapLater.H) (lcuts := gabionlaw06_GapLater.lc) (rcuts := []) (fn := Try.f4) mixed Try.func4 2000 _ _ _ (Eq.mp (by kernel_rfl) hk)
end Go.Gb
