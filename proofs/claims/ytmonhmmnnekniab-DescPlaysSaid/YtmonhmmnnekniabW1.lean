/- Own text for the seat: W1. -/
import Derived.Test.YtmonhmmnnekniabGbPath
import Derived.Test.YtmonhmmnnekniabProg
set_option linter.unusedVariables false
set_option linter.unusedSimpArgs false
set_option linter.unnecessarySimpa false
set_option linter.deprecated false
set_option maxRecDepth 100000
namespace Go.Gb
open Go.Proofs
theorem mixed : Try.prog.follows .mixedOrders = true := by kernel_rfl

/-! gabion/le.mask -/
def le_mask.H : Hn := ⟨[], [], []⟩
def le_mask.lc : List Cut := []
def le_mask.rc : List Cut := []
def le_mask.wp (at0 : Int) (width : Int) (h : Heap) (Q : Value → Heap → Prop) : Prop :=
  xsIf (decide (at0 < 0)) (Q (Value.int IntKind.u64 0) h)
    (xsIf (decide (64 ≤ at0)) (Q (Value.int IntKind.u64 0) h)
      (xsIf (decide (width < 1)) (Q (Value.int IntKind.u64 0) h)
        (xsIf (decide (IntKind.i64.wrap (64 - at0) < width)) (Q (Value.int IntKind.u64 0) h)
          (0 ≤ IntKind.i64.wrap (64 - width) ∧ 0 ≤ at0 ∧ Q (Value.int IntKind.u64 (ishl IntKind.u64 (ishr IntKind.u64 18446744073709551615 (IntKind.i64.wrap (64 - width))) at0)) h))))
theorem le_mask.ok {at0 : Int} {width : Int} {h : Heap} {Q : Value → Heap → Prop} (hk : le_mask.wp at0 width h Q) : C Try.prog 44 #[.int .i64 at0, .int .i64 width] h Q :=
  C_of_xs (H := le_mask.H) (lcuts := le_mask.lc) (rcuts := le_mask.rc) (l := [.int .i64 at0, .int .i64 width]) 2000 mixed Try.func44 rfl (by kernel_rfl) (Eq.mp (by kernel_rfl) hk)

/-! gabion/le.Field -/
def le_Field.H : Hn := ⟨[], [], []⟩
def le_Field.lc : List Cut := []
def le_Field.rc : List Cut := []
def le_Field.wp (w : Int) (at0 : Int) (width : Int) (h : Heap) (Q : Value → Heap → Prop) : Prop :=
  C Try.prog 44 #[Value.int IntKind.i64 at0, Value.int IntKind.i64 width] h fun (r : Value) (h' : Heap) =>
    ∃ (x : Int), r = Value.int IntKind.u64 x ∧ xsIf (decide (x = 0)) (Q (Value.int IntKind.u64 0) h') (0 ≤ at0 ∧ Q (Value.int IntKind.u64 (ishr IntKind.u64 (iand IntKind.u64 w x) at0)) h')
theorem le_Field.ok {w : Int} {at0 : Int} {width : Int} {h : Heap} {Q : Value → Heap → Prop} (hk : le_Field.wp w at0 width h Q) : C Try.prog 38 #[.int .u64 w, .int .i64 at0, .int .i64 width] h Q :=
  C_of_xs (H := le_Field.H) (lcuts := le_Field.lc) (rcuts := le_Field.rc) (l := [.int .u64 w, .int .i64 at0, .int .i64 width]) 2000 mixed Try.func38 rfl (by kernel_rfl) (Eq.mp (by kernel_rfl) hk)

/-! gabion/le.Put -/
def le_Put.H : Hn := ⟨[], [], []⟩
def le_Put.lc : List Cut := [⟨3, [0, 5, 8, 9], []⟩]
def le_Put.rc : List Cut := []
def le_Put.L3 (n : Int) (b : Option Addr) (b_n : Nat) (b_c : Nat) (t8 : Int) (t9 : Int) (h : Heap) (Q : Value → Heap → Prop) : Prop :=
  TW Try.prog 45 21 [.code (cAt (bodyOf Try.f45) [1, 1, 0, 1, 0, 0]), .inLoop (cAt (bodyOf Try.f45) [1, 1, 0, 1, 0, 0]), .inBlock 0, .code (cAt (bodyOf Try.f45) [1, 1, 1])] ⟨[(0, .v (.int .u64 n)), (5, .v (.slice b b_n b_c)), (8, .v (.int .i64 t8)), (9, .v (.int .i64 t9))], []⟩ h Q
def le_Put.wp (n : Int) (size : Int) (h : Heap) (Q : Value → Heap → Prop) : Prop :=
  le_Put.L3 n none 0 0 (imin (imax size 0) 8) 0 h Q
def le_Put.L3.wp (n : Int) (b : Option Addr) (b_n : Nat) (b_c : Nat) (t8 : Int) (t9 : Int) (h : Heap) (Q : Value → Heap → Prop) : Prop :=
  xsIf (decide (t9 < t8))
    (∀ (b_1 : Nat),
      h b_1 = none →
        xsApp Try.prog 5 (upd h b_1 (Obj.cells #[Value.int IntKind.u8 (IntKind.u8.wrap n)] 5 (0, 0))) b b_n b_c (some { block := b_1, off := 0 }) 1 fun (a' : Option Addr) (n' c' : Nat) (h' : Heap) =>
          le_Put.L3 (ishr IntKind.u64 n 8) a' n' c' t8 (IntKind.i64.wrap (t9 + 1)) h' Q)
    (xsStr h b b_n fun (s : ByteArray) => Q (Value.string s) h)
theorem le_Put.ok {n : Int} {size : Int} {h : Heap} {Q : Value → Heap → Prop} (hk : le_Put.wp n size h Q) : C Try.prog 45 #[.int .u64 n, .int .i64 size] h Q :=
  C_of_xs (H := le_Put.H) (lcuts := le_Put.lc) (rcuts := le_Put.rc) (l := [.int .u64 n, .int .i64 size]) 2000 mixed Try.func45 rfl (by kernel_rfl) (Eq.mp (by kernel_rfl) hk)
theorem le_Put.L3.ok {n : Int} {b : Option Addr} {b_n : Nat} {b_c : Nat} {t8 : Int} {t9 : Int} {h : Heap} {Q : Value → Heap → Prop} (hk : le_Put.L3.wp n b b_n b_c t8 t9 h Q) : le_Put.L3 n b b_n b_c t8 t9 h Q :=
  xs_ok (H := le_Put.H) (lcuts := le_Put.lc) (rcuts := le_Put.rc) (fn := Try.f45) mixed Try.func45 2000 _ _ _ (Eq.mp (by kernel_rfl) hk)

/-! gabion/crc.Sum16 -/
def crc_Sum16.H : Hn := ⟨[], [], []⟩
def crc_Sum16.lc : List Cut := [⟨3, [0, 3, 7, 8], []⟩, ⟨7, [0, 3, 7, 8, 18], []⟩]
def crc_Sum16.rc : List Cut := []
def crc_Sum16.L3 (s : ByteArray) (r0 : Int) (t7 : Int) (t8 : Int) (h : Heap) (Q : Value → Heap → Prop) : Prop :=
  TW Try.prog 12 31 [.code (cAt (bodyOf Try.f12) [1, 1, 0, 1, 0, 0]), .inLoop (cAt (bodyOf Try.f12) [1, 1, 0, 1, 0, 0]), .inBlock 0, .code (cAt (bodyOf Try.f12) [1, 1, 1])] ⟨[(0, .v (.string s)), (3, .v (.int .u16 r0)), (7, .v (.int .i64 t7)), (8, .v (.int .i64 t8))], []⟩ h Q
def crc_Sum16.L7 (s : ByteArray) (r0 : Int) (t7 : Int) (t8 : Int) (t18 : Int) (h : Heap) (Q : Value → Heap → Prop) : Prop :=
  TW Try.prog 12 31 [.code (cAt (bodyOf Try.f12) [1, 1, 0, 1, 0, 0, 1, 1, 0, 0, 1, 1, 1, 0, 0]), .inLoop (cAt (bodyOf Try.f12) [1, 1, 0, 1, 0, 0, 1, 1, 0, 0, 1, 1, 1, 0, 0]), .inBlock 2, .inBlock 1, .code (cAt (bodyOf Try.f12) [1, 1, 0, 1, 0, 0, 1, 1, 1]), .inLoop (cAt (bodyOf Try.f12) [1, 1, 0, 1, 0, 0]), .inBlock 0, .code (cAt (bodyOf Try.f12) [1, 1, 1])] ⟨[(0, .v (.string s)), (3, .v (.int .u16 r0)), (7, .v (.int .i64 t7)), (8, .v (.int .i64 t8)), (18, .v (.int .i64 t18))], []⟩ h Q
def crc_Sum16.wp (s : ByteArray) (h : Heap) (Q : Value → Heap → Prop) : Prop :=
  crc_Sum16.L3 s 65535 (↑s.size : Int) 0 h Q
def crc_Sum16.L3.wp (s : ByteArray) (r0 : Int) (t7 : Int) (t8 : Int) (h : Heap) (Q : Value → Heap → Prop) : Prop :=
  xsIf (decide (t8 < t7)) (∃ (c : UInt8), 0 ≤ t8 ∧ bget s t8.toNat = some c ∧ crc_Sum16.L7 s (ixor IntKind.u16 r0 (ishl IntKind.u16 (IntKind.u16.wrap (↑c.toNat : Int)) 8)) t7 t8 0 h Q) (Q (Value.int IntKind.u16 r0) h)
def crc_Sum16.L7.wp (s : ByteArray) (r0 : Int) (t7 : Int) (t8 : Int) (t18 : Int) (h : Heap) (Q : Value → Heap → Prop) : Prop :=
  xsIf (decide (t18 < 8))
    (xsIf (decide (iand IntKind.u16 r0 32768 ≠ 0)) (crc_Sum16.L7 s (ixor IntKind.u16 (ishl IntKind.u16 r0 1) 4129) t7 t8 (IntKind.i64.wrap (t18 + 1)) h Q) (crc_Sum16.L7 s (ishl IntKind.u16 r0 1) t7 t8 (IntKind.i64.wrap (t18 + 1)) h Q))
    (crc_Sum16.L3 s r0 t7 (IntKind.i64.wrap (t8 + 1)) h Q)
theorem crc_Sum16.ok {s : ByteArray} {h : Heap} {Q : Value → Heap → Prop} (hk : crc_Sum16.wp s h Q) : C Try.prog 12 #[.string s] h Q :=
  C_of_xs (H := crc_Sum16.H) (lcuts := crc_Sum16.lc) (rcuts := crc_Sum16.rc) (l := [.string s]) 2000 mixed Try.func12 rfl (by kernel_rfl) (Eq.mp (by kernel_rfl) hk)
theorem crc_Sum16.L3.ok {s : ByteArray} {r0 : Int} {t7 : Int} {t8 : Int} {h : Heap} {Q : Value → Heap → Prop} (hk : crc_Sum16.L3.wp s r0 t7 t8 h Q) : crc_Sum16.L3 s r0 t7 t8 h Q :=
  xs_ok (H := crc_Sum16.H) (lcuts := crc_Sum16.lc) (rcuts := crc_Sum16.rc) (fn := Try.f12) mixed Try.func12 2000 _ _ _ (Eq.mp (by kernel_rfl) hk)
theorem crc_Sum16.L7.ok {s : ByteArray} {r0 : Int} {t7 : Int} {t8 : Int} {t18 : Int} {h : Heap} {Q : Value → Heap → Prop} (hk : crc_Sum16.L7.wp s r0 t7 t8 t18 h Q) : crc_Sum16.L7 s r0 t7 t8 t18 h Q :=
  xs_ok (H := crc_Sum16.H) (lcuts := crc_Sum16.lc) (rcuts := crc_Sum16.rc) (fn := Try.f12) mixed Try.func12 2000 _ _ _ (Eq.mp (by kernel_rfl) hk)

/-! gabion/crc.check -/
def crc_check.H : Hn := ⟨[], [], []⟩
def crc_check.lc : List Cut := []
def crc_check.rc : List Cut := []
def crc_check.wp (n : Int) (h : Heap) (Q : Value → Heap → Prop) : Prop :=
  C Try.prog 45 #[Value.int IntKind.u64 n, Value.int IntKind.i64 6] h fun (r : Value) (h' : Heap) =>
    ∃ (x : ByteArray), r = Value.string x ∧ C Try.prog 12 #[Value.string x] h' fun (r : Value) (h' : Heap) => ∃ (x : Int), r = Value.int IntKind.u16 x ∧ Q (Value.int IntKind.u64 (IntKind.u64.wrap (inot IntKind.u16 x))) h'
theorem crc_check.ok {n : Int} {h : Heap} {Q : Value → Heap → Prop} (hk : crc_check.wp n h Q) : C Try.prog 39 #[.int .u64 n] h Q :=
  C_of_xs (H := crc_check.H) (lcuts := crc_check.lc) (rcuts := crc_check.rc) (l := [.int .u64 n]) 2000 mixed Try.func39 rfl (by kernel_rfl) (Eq.mp (by kernel_rfl) hk)

/-! gabion/crc.Guard -/
def crc_Guard.H : Hn := ⟨[], [], []⟩
def crc_Guard.lc : List Cut := []
def crc_Guard.rc : List Cut := []
def crc_Guard.wp (n : Int) (h : Heap) (Q : Value → Heap → Prop) : Prop :=
  C Try.prog 38 #[Value.int IntKind.u64 n, Value.int IntKind.i64 0, Value.int IntKind.i64 48] h fun (r : Value) (h' : Heap) =>
    ∃ (x : Int),
      r = Value.int IntKind.u64 x ∧
        C Try.prog 39 #[Value.int IntKind.u64 x] h' fun (r : Value) (h' : Heap) => ∃ (x_1 : Int), r = Value.int IntKind.u64 x_1 ∧ Q (Value.int IntKind.u64 (ior IntKind.u64 (ishl IntKind.u64 x_1 48) x)) h'
theorem crc_Guard.ok {n : Int} {h : Heap} {Q : Value → Heap → Prop} (hk : crc_Guard.wp n h Q) : C Try.prog 18 #[.int .u64 n] h Q :=
  C_of_xs (H := crc_Guard.H) (lcuts := crc_Guard.lc) (rcuts := crc_Guard.rc) (l := [.int .u64 n]) 2000 mixed Try.func18 rfl (by kernel_rfl) (Eq.mp (by kernel_rfl) hk)

/-! gabion/crc.Guarded -/
def crc_Guarded.H : Hn := ⟨[], [], []⟩
def crc_Guarded.lc : List Cut := []
def crc_Guarded.rc : List Cut := []
def crc_Guarded.wp (w : Int) (h : Heap) (Q : Value → Heap → Prop) : Prop :=
  C Try.prog 38 #[Value.int IntKind.u64 w, Value.int IntKind.i64 0, Value.int IntKind.i64 48] h fun (r : Value) (h' : Heap) =>
    ∃ (x : Int),
      r = Value.int IntKind.u64 x ∧
        C Try.prog 18 #[Value.int IntKind.u64 x] h' fun (r : Value) (h' : Heap) =>
          ∃ (x_1 : Int), r = Value.int IntKind.u64 x_1 ∧ xsIf (decide (x_1 ≠ w)) (Q (Value.tuple #[Value.int IntKind.u64 0, Value.bool false]) h') (Q (Value.tuple #[Value.int IntKind.u64 x, Value.bool true]) h')
theorem crc_Guarded.ok {w : Int} {h : Heap} {Q : Value → Heap → Prop} (hk : crc_Guarded.wp w h Q) : C Try.prog 17 #[.int .u64 w] h Q :=
  C_of_xs (H := crc_Guarded.H) (lcuts := crc_Guarded.lc) (rcuts := crc_Guarded.rc) (l := [.int .u64 w]) 2000 mixed Try.func17 rfl (by kernel_rfl) (Eq.mp (by kernel_rfl) hk)

/-! gabion/crc.Sum32 -/
def crc_Sum32.H : Hn := ⟨[], [], []⟩
def crc_Sum32.lc : List Cut := [⟨3, [0, 3, 7, 8], []⟩, ⟨7, [0, 3, 7, 8, 17], []⟩]
def crc_Sum32.rc : List Cut := []
def crc_Sum32.L3 (s : ByteArray) (r0 : Int) (t7 : Int) (t8 : Int) (h : Heap) (Q : Value → Heap → Prop) : Prop :=
  TW Try.prog 14 31 [.code (cAt (bodyOf Try.f14) [1, 1, 0, 1, 0, 0]), .inLoop (cAt (bodyOf Try.f14) [1, 1, 0, 1, 0, 0]), .inBlock 0, .code (cAt (bodyOf Try.f14) [1, 1, 1])] ⟨[(0, .v (.string s)), (3, .v (.int .u32 r0)), (7, .v (.int .i64 t7)), (8, .v (.int .i64 t8))], []⟩ h Q
def crc_Sum32.L7 (s : ByteArray) (r0 : Int) (t7 : Int) (t8 : Int) (t17 : Int) (h : Heap) (Q : Value → Heap → Prop) : Prop :=
  TW Try.prog 14 31 [.code (cAt (bodyOf Try.f14) [1, 1, 0, 1, 0, 0, 1, 1, 0, 0, 1, 1, 1, 0, 0]), .inLoop (cAt (bodyOf Try.f14) [1, 1, 0, 1, 0, 0, 1, 1, 0, 0, 1, 1, 1, 0, 0]), .inBlock 2, .inBlock 1, .code (cAt (bodyOf Try.f14) [1, 1, 0, 1, 0, 0, 1, 1, 1]), .inLoop (cAt (bodyOf Try.f14) [1, 1, 0, 1, 0, 0]), .inBlock 0, .code (cAt (bodyOf Try.f14) [1, 1, 1])] ⟨[(0, .v (.string s)), (3, .v (.int .u32 r0)), (7, .v (.int .i64 t7)), (8, .v (.int .i64 t8)), (17, .v (.int .i64 t17))], []⟩ h Q
def crc_Sum32.wp (s : ByteArray) (h : Heap) (Q : Value → Heap → Prop) : Prop :=
  crc_Sum32.L3 s 4294967295 (↑s.size : Int) 0 h Q
def crc_Sum32.L3.wp (s : ByteArray) (r0 : Int) (t7 : Int) (t8 : Int) (h : Heap) (Q : Value → Heap → Prop) : Prop :=
  xsIf (decide (t8 < t7)) (∃ (c : UInt8), 0 ≤ t8 ∧ bget s t8.toNat = some c ∧ crc_Sum32.L7 s (ixor IntKind.u32 r0 (IntKind.u32.wrap (↑c.toNat : Int))) t7 t8 0 h Q) (Q (Value.int IntKind.u32 (inot IntKind.u32 r0)) h)
def crc_Sum32.L7.wp (s : ByteArray) (r0 : Int) (t7 : Int) (t8 : Int) (t17 : Int) (h : Heap) (Q : Value → Heap → Prop) : Prop :=
  xsIf (decide (t17 < 8))
    (xsIf (decide (iand IntKind.u32 r0 1 ≠ 0)) (crc_Sum32.L7 s (ixor IntKind.u32 (ishr IntKind.u32 r0 1) 2197175160) t7 t8 (IntKind.i64.wrap (t17 + 1)) h Q) (crc_Sum32.L7 s (ishr IntKind.u32 r0 1) t7 t8 (IntKind.i64.wrap (t17 + 1)) h Q))
    (crc_Sum32.L3 s r0 t7 (IntKind.i64.wrap (t8 + 1)) h Q)
theorem crc_Sum32.ok {s : ByteArray} {h : Heap} {Q : Value → Heap → Prop} (hk : crc_Sum32.wp s h Q) : C Try.prog 14 #[.string s] h Q :=
  C_of_xs (H := crc_Sum32.H) (lcuts := crc_Sum32.lc) (rcuts := crc_Sum32.rc) (l := [.string s]) 2000 mixed Try.func14 rfl (by kernel_rfl) (Eq.mp (by kernel_rfl) hk)
theorem crc_Sum32.L3.ok {s : ByteArray} {r0 : Int} {t7 : Int} {t8 : Int} {h : Heap} {Q : Value → Heap → Prop} (hk : crc_Sum32.L3.wp s r0 t7 t8 h Q) : crc_Sum32.L3 s r0 t7 t8 h Q :=
  xs_ok (H := crc_Sum32.H) (lcuts := crc_Sum32.lc) (rcuts := crc_Sum32.rc) (fn := Try.f14) mixed Try.func14 2000 _ _ _ (Eq.mp (by kernel_rfl) hk)
theorem crc_Sum32.L7.ok {s : ByteArray} {r0 : Int} {t7 : Int} {t8 : Int} {t17 : Int} {h : Heap} {Q : Value → Heap → Prop} (hk : crc_Sum32.L7.wp s r0 t7 t8 t17 h Q) : crc_Sum32.L7 s r0 t7 t8 t17 h Q :=
  xs_ok (H := crc_Sum32.H) (lcuts := crc_Sum32.lc) (rcuts := crc_Sum32.rc) (fn := Try.f14) mixed Try.func14 2000 _ _ _ (Eq.mp (by kernel_rfl) hk)

/-! gabion/gabionlaw02.wakes -/
def gabionlaw02_wakes.H : Hn := ⟨[], [], []⟩
def gabionlaw02_wakes.lc : List Cut := []
def gabionlaw02_wakes.rc : List Cut := []
def gabionlaw02_wakes.wp  (h : Heap) (Q : Value → Heap → Prop) : Prop :=
  C Try.prog 18 #[Value.int IntKind.u64 77] h fun (r : Value) (h' : Heap) =>
    ∃ (x : Int),
      r = Value.int IntKind.u64 x ∧
        C Try.prog 17 #[Value.int IntKind.u64 x] h' fun (r : Value) (h' : Heap) =>
          ∃ (x : Int),
            ∃ (x_1 : Bool),
              r = Value.tuple #[Value.int IntKind.u64 x, Value.bool x_1] ∧
                C Try.prog 17 #[Value.int IntKind.u64 0] h' fun (r : Value) (h' : Heap) =>
                  ∃ (x_2 : Int),
                    ∃ (x_3 : Bool),
                      r = Value.tuple #[Value.int IntKind.u64 x_2, Value.bool x_3] ∧
                        C Try.prog 12 #[Value.string { data := #[UInt8.ofNat 49, UInt8.ofNat 50, UInt8.ofNat 51, UInt8.ofNat 52, UInt8.ofNat 53, UInt8.ofNat 54, UInt8.ofNat 55, UInt8.ofNat 56, UInt8.ofNat 57] }] h'
                          fun (r : Value) (h' : Heap) =>
                          ∃ (x_4 : Int),
                            r = Value.int IntKind.u16 x_4 ∧
                              xsIf (decide (x_4 = 10673))
                                (C Try.prog 14
                                  #[Value.string { data := #[UInt8.ofNat 49, UInt8.ofNat 50, UInt8.ofNat 51, UInt8.ofNat 52, UInt8.ofNat 53, UInt8.ofNat 54, UInt8.ofNat 55, UInt8.ofNat 56, UInt8.ofNat 57] }] h'
                                  fun (r : Value) (h' : Heap) =>
                                  ∃ (x_5 : Int),
                                    r = Value.int IntKind.u32 x_5 ∧ xsIf (decide (x_5 = 3808858755)) (xsIf x_1 (xsIf (decide (x = 77)) (Q (Value.bool !x_3) h') (Q (Value.bool false) h')) (Q (Value.bool false) h')) (Q (Value.bool false) h'))
                                (Q (Value.bool false) h')
theorem gabionlaw02_wakes.ok {h : Heap} {Q : Value → Heap → Prop} (hk : gabionlaw02_wakes.wp h Q) : C Try.prog 11 #[] h Q :=
  C_of_xs (H := gabionlaw02_wakes.H) (lcuts := gabionlaw02_wakes.lc) (rcuts := gabionlaw02_wakes.rc) (l := []) 2000 mixed Try.func11 rfl (by kernel_rfl) (Eq.mp (by kernel_rfl) hk)

/-! gabion/gabionref01.may -/
def gabionref01_may.H : Hn := ⟨[], [], []⟩
def gabionref01_may.lc : List Cut := []
def gabionref01_may.rc : List Cut := []
def gabionref01_may.wp (at0 : Int) (width : Int) (h : Heap) (Q : Value → Heap → Prop) : Prop :=
  xsIf (decide (0 ≤ at0)) (xsIf (decide (at0 < 64)) (xsIf (decide (1 ≤ width)) (Q (Value.bool (decide (width ≤ IntKind.i64.wrap (64 - at0)))) h) (Q (Value.bool false) h)) (Q (Value.bool false) h)) (Q (Value.bool false) h)
theorem gabionref01_may.ok {at0 : Int} {width : Int} {h : Heap} {Q : Value → Heap → Prop} (hk : gabionref01_may.wp at0 width h Q) : C Try.prog 42 #[.int .i64 at0, .int .i64 width] h Q :=
  C_of_xs (H := gabionref01_may.H) (lcuts := gabionref01_may.lc) (rcuts := gabionref01_may.rc) (l := [.int .i64 at0, .int .i64 width]) 2000 mixed Try.func42 rfl (by kernel_rfl) (Eq.mp (by kernel_rfl) hk)

/-! gabion/gabionref01.bit -/
def gabionref01_bit.H : Hn := ⟨[], [], []⟩
def gabionref01_bit.lc : List Cut := [⟨2, [0, 1, 5], []⟩]
def gabionref01_bit.rc : List Cut := []
def gabionref01_bit.L2 (w : Int) (i : Int) (k0 : Int) (h : Heap) (Q : Value → Heap → Prop) : Prop :=
  TW Try.prog 43 15 [.code (cAt (bodyOf Try.f43) [1, 0, 1, 0, 0]), .inLoop (cAt (bodyOf Try.f43) [1, 0, 1, 0, 0]), .inBlock 0, .code (cAt (bodyOf Try.f43) [1, 1])] ⟨[(0, .v (.int .u64 w)), (1, .v (.int .i64 i)), (5, .v (.int .i64 k0))], []⟩ h Q
def gabionref01_bit.wp (w : Int) (i : Int) (h : Heap) (Q : Value → Heap → Prop) : Prop :=
  gabionref01_bit.L2 w i 0 h Q
def gabionref01_bit.L2.wp (w : Int) (i : Int) (k0 : Int) (h : Heap) (Q : Value → Heap → Prop) : Prop :=
  xsIf (decide (k0 < i)) (gabionref01_bit.L2 (iquo IntKind.u64 w 2) i (IntKind.i64.wrap (k0 + 1)) h Q) (Q (Value.int IntKind.u64 (irem w 2)) h)
theorem gabionref01_bit.ok {w : Int} {i : Int} {h : Heap} {Q : Value → Heap → Prop} (hk : gabionref01_bit.wp w i h Q) : C Try.prog 43 #[.int .u64 w, .int .i64 i] h Q :=
  C_of_xs (H := gabionref01_bit.H) (lcuts := gabionref01_bit.lc) (rcuts := gabionref01_bit.rc) (l := [.int .u64 w, .int .i64 i]) 2000 mixed Try.func43 rfl (by kernel_rfl) (Eq.mp (by kernel_rfl) hk)
theorem gabionref01_bit.L2.ok {w : Int} {i : Int} {k0 : Int} {h : Heap} {Q : Value → Heap → Prop} (hk : gabionref01_bit.L2.wp w i k0 h Q) : gabionref01_bit.L2 w i k0 h Q :=
  xs_ok (H := gabionref01_bit.H) (lcuts := gabionref01_bit.lc) (rcuts := gabionref01_bit.rc) (fn := Try.f43) mixed Try.func43 2000 _ _ _ (Eq.mp (by kernel_rfl) hk)

/-! gabion/gabionref01.Field -/
def gabionref01_Field.H : Hn := ⟨[], [], []⟩
def gabionref01_Field.lc : List Cut := [⟨4, [0, 1, 2, 7, 8, 9], []⟩]
def gabionref01_Field.rc : List Cut := [⟨6, [0, 1, 2, 7, 8, 9], []⟩]
def gabionref01_Field.L4 (w : Int) (at0 : Int) (width : Int) (ok : Bool) (n : Int) (i : Int) (h : Heap) (Q : Value → Heap → Prop) : Prop :=
  TW Try.prog 36 35 [.code (cAt (bodyOf Try.f36) [1, 1, 1, 0, 1, 0, 0]), .inLoop (cAt (bodyOf Try.f36) [1, 1, 1, 0, 1, 0, 0]), .inBlock 0, .code (cAt (bodyOf Try.f36) [1, 1, 1, 1])] ⟨[(0, .v (.int .u64 w)), (1, .v (.int .i64 at0)), (2, .v (.int .i64 width)), (7, .v (.bool ok)), (8, .v (.int .u64 n)), (9, .v (.int .i64 i))], []⟩ h Q
def gabionref01_Field.J6 (w : Int) (at0 : Int) (width : Int) (ok : Bool) (n : Int) (i : Int) (h : Heap) (Q : Value → Heap → Prop) : Prop :=
  TW Try.prog 36 35 [.code (cAt (bodyOf Try.f36) [1, 1, 1, 0, 1, 0, 0, 1, 0, 0, 0]), .code (cAt (bodyOf Try.f36) [1, 1, 1, 0, 1, 0, 0, 1, 0, 0, 1]), .inBlock 1, .code (cAt (bodyOf Try.f36) [1, 1, 1, 0, 1, 0, 0, 1, 1]), .inLoop (cAt (bodyOf Try.f36) [1, 1, 1, 0, 1, 0, 0]), .inBlock 0, .code (cAt (bodyOf Try.f36) [1, 1, 1, 1])] ⟨[(0, .v (.int .u64 w)), (1, .v (.int .i64 at0)), (2, .v (.int .i64 width)), (7, .v (.bool ok)), (8, .v (.int .u64 n)), (9, .v (.int .i64 i))], []⟩ h Q
def gabionref01_Field.wp (w : Int) (at0 : Int) (width : Int) (h : Heap) (Q : Value → Heap → Prop) : Prop :=
  C Try.prog 42 #[Value.int IntKind.i64 at0, Value.int IntKind.i64 width] h fun (r : Value) (h' : Heap) => ∃ (x : Bool), r = Value.bool x ∧ gabionref01_Field.L4 w at0 width x 0 0 h' Q
def gabionref01_Field.L4.wp (w : Int) (at0 : Int) (width : Int) (ok : Bool) (n : Int) (i : Int) (h : Heap) (Q : Value → Heap → Prop) : Prop :=
  xsIf ok (xsIf (decide (i < width)) (gabionref01_Field.J6 w at0 width ok n i h Q) (Q (Value.int IntKind.u64 n) h)) (Q (Value.int IntKind.u64 n) h)
def gabionref01_Field.J6.wp (w : Int) (at0 : Int) (width : Int) (ok : Bool) (n : Int) (i : Int) (h : Heap) (Q : Value → Heap → Prop) : Prop :=
  C Try.prog 43 #[Value.int IntKind.u64 w, Value.int IntKind.i64 (IntKind.i64.wrap (IntKind.i64.wrap (IntKind.i64.wrap (at0 + width) - 1) - i))] h fun (r : Value) (h' : Heap) =>
    ∃ (x : Int), r = Value.int IntKind.u64 x ∧ gabionref01_Field.L4 w at0 width ok (IntKind.u64.wrap (IntKind.u64.wrap (2 * n) + x)) (IntKind.i64.wrap (i + 1)) h' Q
theorem gabionref01_Field.ok {w : Int} {at0 : Int} {width : Int} {h : Heap} {Q : Value → Heap → Prop} (hk : gabionref01_Field.wp w at0 width h Q) : C Try.prog 36 #[.int .u64 w, .int .i64 at0, .int .i64 width] h Q :=
  C_of_xs (H := gabionref01_Field.H) (lcuts := gabionref01_Field.lc) (rcuts := gabionref01_Field.rc) (l := [.int .u64 w, .int .i64 at0, .int .i64 width]) 2000 mixed Try.func36 rfl (by kernel_rfl) (Eq.mp (by kernel_rfl) hk)
theorem gabionref01_Field.L4.ok {w : Int} {at0 : Int} {width : Int} {ok : Bool} {n : Int} {i : Int} {h : Heap} {Q : Value → Heap → Prop} (hk : gabionref01_Field.L4.wp w at0 width ok n i h Q) : gabionref01_Field.L4 w at0 width ok n i h Q :=
  xs_ok (H := gabionref01_Field.H) (lcuts := gabionref01_Field.lc) (rcuts := gabionref01_Field.rc) (fn := Try.f36) mixed Try.func36 2000 _ _ _ (Eq.mp (by kernel_rfl) hk)
theorem gabionref01_Field.J6.ok {w : Int} {at0 : Int} {width : Int} {ok : Bool} {n : Int} {i : Int} {h : Heap} {Q : Value → Heap → Prop} (hk : gabionref01_Field.J6.wp w at0 width ok n i h Q) : gabionref01_Field.J6 w at0 width ok n i h Q :=
  xs_ok (H := gabionref01_Field.H) (lcuts := gabionref01_Field.lc) (rcuts := []) (fn := Try.f36) mixed Try.func36 2000 _ _ _ (Eq.mp (by kernel_rfl) hk)

/-! gabion/gabionref02.bits -/
def gabionref02_bits.H : Hn := ⟨[], [], []⟩
def gabionref02_bits.lc : List Cut := [⟨3, [0, 1, 5, 6], []⟩, ⟨6, [0, 1, 5, 6, 7], []⟩]
def gabionref02_bits.rc : List Cut := [⟨11, [0, 1, 5, 6, 7, 8], []⟩]
def gabionref02_bits.L3 (s : ByteArray) (low : Bool) (out : Option Addr) (out_n : Nat) (out_c : Nat) (i : Int) (h : Heap) (Q : Value → Heap → Prop) : Prop :=
  TW Try.prog 33 36 [.code (cAt (bodyOf Try.f33) [1, 1, 0, 1, 0, 0]), .inLoop (cAt (bodyOf Try.f33) [1, 1, 0, 1, 0, 0]), .inBlock 0, .code (cAt (bodyOf Try.f33) [1, 1, 1])] ⟨[(0, .v (.string s)), (1, .v (.bool low)), (5, .v (.slice out out_n out_c)), (6, .v (.int .i64 i))], []⟩ h Q
def gabionref02_bits.L6 (s : ByteArray) (low : Bool) (out : Option Addr) (out_n : Nat) (out_c : Nat) (i : Int) (k0 : Int) (h : Heap) (Q : Value → Heap → Prop) : Prop :=
  TW Try.prog 33 36 [.code (cAt (bodyOf Try.f33) [1, 1, 0, 1, 0, 0, 1, 0, 0, 1, 0, 0]), .inLoop (cAt (bodyOf Try.f33) [1, 1, 0, 1, 0, 0, 1, 0, 0, 1, 0, 0]), .inBlock 2, .inBlock 1, .code (cAt (bodyOf Try.f33) [1, 1, 0, 1, 0, 0, 1, 1]), .inLoop (cAt (bodyOf Try.f33) [1, 1, 0, 1, 0, 0]), .inBlock 0, .code (cAt (bodyOf Try.f33) [1, 1, 1])] ⟨[(0, .v (.string s)), (1, .v (.bool low)), (5, .v (.slice out out_n out_c)), (6, .v (.int .i64 i)), (7, .v (.int .i64 k0))], []⟩ h Q
def gabionref02_bits.J11 (s : ByteArray) (low : Bool) (out : Option Addr) (out_n : Nat) (out_c : Nat) (i : Int) (k0 : Int) (at0 : Int) (h : Heap) (Q : Value → Heap → Prop) : Prop :=
  TW Try.prog 33 36 [.code (cAt (bodyOf Try.f33) [1, 1, 0, 1, 0, 0, 1, 0, 0, 1, 0, 0, 1, 0, 0, 1, 1, 0]), .code (cAt (bodyOf Try.f33) [1, 1, 0, 1, 0, 0, 1, 0, 0, 1, 0, 0, 1, 0, 0, 1, 1, 1]), .inBlock 3, .code (cAt (bodyOf Try.f33) [1, 1, 0, 1, 0, 0, 1, 0, 0, 1, 0, 0, 1, 1]), .inLoop (cAt (bodyOf Try.f33) [1, 1, 0, 1, 0, 0, 1, 0, 0, 1, 0, 0]), .inBlock 2, .inBlock 1, .code (cAt (bodyOf Try.f33) [1, 1, 0, 1, 0, 0, 1, 1]), .inLoop (cAt (bodyOf Try.f33) [1, 1, 0, 1, 0, 0]), .inBlock 0, .code (cAt (bodyOf Try.f33) [1, 1, 1])] ⟨[(0, .v (.string s)), (1, .v (.bool low)), (5, .v (.slice out out_n out_c)), (6, .v (.int .i64 i)), (7, .v (.int .i64 k0)), (8, .v (.int .i64 at0))], []⟩ h Q
def gabionref02_bits.wp (s : ByteArray) (low : Bool) (h : Heap) (Q : Value → Heap → Prop) : Prop :=
  gabionref02_bits.L3 s low none 0 0 0 h Q
def gabionref02_bits.L3.wp (s : ByteArray) (low : Bool) (out : Option Addr) (out_n : Nat) (out_c : Nat) (i : Int) (h : Heap) (Q : Value → Heap → Prop) : Prop :=
  xsIf (decide (i < (↑s.size : Int))) (gabionref02_bits.L6 s low out out_n out_c i 0 h Q) (Q (Value.slice out out_n out_c) h)
def gabionref02_bits.L6.wp (s : ByteArray) (low : Bool) (out : Option Addr) (out_n : Nat) (out_c : Nat) (i : Int) (k0 : Int) (h : Heap) (Q : Value → Heap → Prop) : Prop :=
  xsIf (decide (k0 < 8)) (xsIf low (gabionref02_bits.J11 s low out out_n out_c i k0 k0 h Q) (gabionref02_bits.J11 s low out out_n out_c i k0 (IntKind.i64.wrap (7 - k0)) h Q))
    (gabionref02_bits.L3 s low out out_n out_c (IntKind.i64.wrap (i + 1)) h Q)
def gabionref02_bits.J11.wp (s : ByteArray) (low : Bool) (out : Option Addr) (out_n : Nat) (out_c : Nat) (i : Int) (k0 : Int) (at0 : Int) (h : Heap) (Q : Value → Heap → Prop) : Prop :=
  ∃ (c : UInt8),
    0 ≤ i ∧
      bget s i.toNat = some c ∧
        C Try.prog 36 #[Value.int IntKind.u64 (IntKind.u64.wrap (↑c.toNat : Int)), Value.int IntKind.i64 at0, Value.int IntKind.i64 1] h fun (r : Value) (h' : Heap) =>
          ∃ (x : Int),
            r = Value.int IntKind.u64 x ∧
              ∀ (b : Nat),
                h' b = none →
                  xsApp Try.prog 3 (upd h' b (Obj.cells #[Value.int IntKind.i64 (IntKind.i64.wrap x)] 3 (0, 0))) out out_n out_c (some { block := b, off := 0 }) 1 fun (a' : Option Addr) (n' c' : Nat) (h' : Heap) =>
                    gabionref02_bits.L6 s low a' n' c' i (IntKind.i64.wrap (k0 + 1)) h' Q
theorem gabionref02_bits.ok {s : ByteArray} {low : Bool} {h : Heap} {Q : Value → Heap → Prop} (hk : gabionref02_bits.wp s low h Q) : C Try.prog 33 #[.string s, .bool low] h Q :=
  C_of_xs (H := gabionref02_bits.H) (lcuts := gabionref02_bits.lc) (rcuts := gabionref02_bits.rc) (l := [.string s, .bool low]) 2000 mixed Try.func33 rfl (by kernel_rfl) (Eq.mp (by kernel_rfl) hk)
theorem gabionref02_bits.L3.ok {s : ByteArray} {low : Bool} {out : Option Addr} {out_n : Nat} {out_c : Nat} {i : Int} {h : Heap} {Q : Value → Heap → Prop} (hk : gabionref02_bits.L3.wp s low out out_n out_c i h Q) : gabionref02_bits.L3 s low out out_n out_c i h Q :=
  xs_ok (H := gabionref02_bits.H) (lcuts := gabionref02_bits.lc) (rcuts := gabionref02_bits.rc) (fn := Try.f33) mixed Try.func33 2000 _ _ _ (Eq.mp (by kernel_rfl) hk)
theorem gabionref02_bits.L6.ok {s : ByteArray} {low : Bool} {out : Option Addr} {out_n : Nat} {out_c : Nat} {i : Int} {k0 : Int} {h : Heap} {Q : Value → Heap → Prop} (hk : gabionref02_bits.L6.wp s low out out_n out_c i k0 h Q) : gabionref02_bits.L6 s low out out_n out_c i k0 h Q :=
  xs_ok (H := gabionref02_bits.H) (lcuts := gabionref02_bits.lc) (rcuts := gabionref02_bits.rc) (fn := Try.f33) mixed Try.func33 2000 _ _ _ (Eq.mp (by kernel_rfl) hk)
theorem gabionref02_bits.J11.ok {s : ByteArray} {low : Bool} {out : Option Addr} {out_n : Nat} {out_c : Nat} {i : Int} {k0 : Int} {at0 : Int} {h : Heap} {Q : Value → Heap → Prop} (hk : gabionref02_bits.J11.wp s low out out_n out_c i k0 at0 h Q) : gabionref02_bits.J11 s low out out_n out_c i k0 at0 h Q :=
  xs_ok (H := gabionref02_bits.H) (lcuts := gabionref02_bits.lc) (rcuts := []) (fn := Try.f33) mixed Try.func33 2000 _ _ _ (Eq.mp (by kernel_rfl) hk)

/-! gabion/gabionref02.Sum -/
def gabionref02_Sum.H : Hn := ⟨[], [], [⟨9, .q 0 (.q 1 (.q 3 (.q 4 (.q 5 (.ld 2 896 (.q 6 (.q 7 (.q 8 (.q 9 (.nil)))))))))), []⟩, ⟨18, .q 0 (.q 1 (.q 2 (.q 3 (.q 4 (.q 6 (.q 7 (.q 8 (.ld 5 15360 (.q 9 (.q 10 (.q 11 (.q 12 (.q 13 (.nil)))))))))))))), []⟩]⟩
def gabionref02_Sum.lc : List Cut := [⟨3, [0, 1, 5, 6], []⟩, ⟨7, [0, 1, 5, 7], []⟩, ⟨11, [0, 1, 5, 7, 8, 9], []⟩, ⟨16, [0, 1, 5, 7, 8, 10], []⟩]
def gabionref02_Sum.rc : List Cut := [⟨6, [0, 1, 5], []⟩, ⟨14, [0, 1, 5, 7, 8], []⟩, ⟨18, [0, 1, 5, 7, 8, 10], []⟩]
def gabionref02_Sum.L3 (l : Option Addr) (l_n : Nat) (l_c : Nat) (turns : Option Addr) (turns_n : Nat) (turns_c : Nat) (r0 : Option Addr) (r0_n : Nat) (r0_c : Nat) (i_6 : Int) (h : Heap) (Q : Value → Heap → Prop) : Prop :=
  TW Try.prog 34 82 [.code (cAt (bodyOf Try.f34) [1, 1, 0, 1, 0, 0]), .inLoop (cAt (bodyOf Try.f34) [1, 1, 0, 1, 0, 0]), .inBlock 0, .code (cAt (bodyOf Try.f34) [1, 1, 1])] ⟨[(0, .v (.slice l l_n l_c)), (1, .v (.slice turns turns_n turns_c)), (5, .v (.slice r0 r0_n r0_c)), (6, .v (.int .i64 i_6))], []⟩ h Q
def gabionref02_Sum.J6 (l : Option Addr) (l_n : Nat) (l_c : Nat) (turns : Option Addr) (turns_n : Nat) (turns_c : Nat) (r0 : Option Addr) (r0_n : Nat) (r0_c : Nat) (h : Heap) (Q : Value → Heap → Prop) : Prop :=
  TW Try.prog 34 82 [.code (cAt (bodyOf Try.f34) [1, 1, 1, 0, 0]), .code (cAt (bodyOf Try.f34) [1, 1, 1, 0, 1]), .code (cAt (bodyOf Try.f34) [1, 1, 1, 1])] ⟨[(0, .v (.slice l l_n l_c)), (1, .v (.slice turns turns_n turns_c)), (5, .v (.slice r0 r0_n r0_c))], []⟩ h Q
def gabionref02_Sum.L7 (l : Option Addr) (l_n : Nat) (l_c : Nat) (turns : Option Addr) (turns_n : Nat) (turns_c : Nat) (r0 : Option Addr) (r0_n : Nat) (r0_c : Nat) (i_7 : Int) (h : Heap) (Q : Value → Heap → Prop) : Prop :=
  TW Try.prog 34 82 [.code (cAt (bodyOf Try.f34) [1, 1, 1, 0, 1, 0, 0]), .inLoop (cAt (bodyOf Try.f34) [1, 1, 1, 0, 1, 0, 0]), .inBlock 2, .code (cAt (bodyOf Try.f34) [1, 1, 1, 1])] ⟨[(0, .v (.slice l l_n l_c)), (1, .v (.slice turns turns_n turns_c)), (5, .v (.slice r0 r0_n r0_c)), (7, .v (.int .i64 i_7))], []⟩ h Q
def gabionref02_Sum.L11 (l : Option Addr) (l_n : Nat) (l_c : Nat) (turns : Option Addr) (turns_n : Nat) (turns_c : Nat) (r0 : Option Addr) (r0_n : Nat) (r0_c : Nat) (i_7 : Int) (out : Int) (k0_9 : Int) (h : Heap) (Q : Value → Heap → Prop) : Prop :=
  TW Try.prog 34 82 [.code (cAt (bodyOf Try.f34) [1, 1, 1, 0, 1, 0, 0, 1, 0, 0, 1, 0, 1, 0, 0]), .inLoop (cAt (bodyOf Try.f34) [1, 1, 1, 0, 1, 0, 0, 1, 0, 0, 1, 0, 1, 0, 0]), .inBlock 4, .code (cAt (bodyOf Try.f34) [1, 1, 1, 0, 1, 0, 0, 1, 0, 0, 1, 1]), .inBlock 3, .code (cAt (bodyOf Try.f34) [1, 1, 1, 0, 1, 0, 0, 1, 1]), .inLoop (cAt (bodyOf Try.f34) [1, 1, 1, 0, 1, 0, 0]), .inBlock 2, .code (cAt (bodyOf Try.f34) [1, 1, 1, 1])] ⟨[(0, .v (.slice l l_n l_c)), (1, .v (.slice turns turns_n turns_c)), (5, .v (.slice r0 r0_n r0_c)), (7, .v (.int .i64 i_7)), (8, .v (.int .i64 out)), (9, .v (.int .i64 k0_9))], []⟩ h Q
def gabionref02_Sum.J14 (l : Option Addr) (l_n : Nat) (l_c : Nat) (turns : Option Addr) (turns_n : Nat) (turns_c : Nat) (r0 : Option Addr) (r0_n : Nat) (r0_c : Nat) (i_7 : Int) (out : Int) (h : Heap) (Q : Value → Heap → Prop) : Prop :=
  TW Try.prog 34 82 [.code (cAt (bodyOf Try.f34) [1, 1, 1, 0, 1, 0, 0, 1, 0, 0, 1, 1, 0]), .code (cAt (bodyOf Try.f34) [1, 1, 1, 0, 1, 0, 0, 1, 0, 0, 1, 1, 1]), .inBlock 3, .code (cAt (bodyOf Try.f34) [1, 1, 1, 0, 1, 0, 0, 1, 1]), .inLoop (cAt (bodyOf Try.f34) [1, 1, 1, 0, 1, 0, 0]), .inBlock 2, .code (cAt (bodyOf Try.f34) [1, 1, 1, 1])] ⟨[(0, .v (.slice l l_n l_c)), (1, .v (.slice turns turns_n turns_c)), (5, .v (.slice r0 r0_n r0_c)), (7, .v (.int .i64 i_7)), (8, .v (.int .i64 out))], []⟩ h Q
def gabionref02_Sum.L16 (l : Option Addr) (l_n : Nat) (l_c : Nat) (turns : Option Addr) (turns_n : Nat) (turns_c : Nat) (r0 : Option Addr) (r0_n : Nat) (r0_c : Nat) (i_7 : Int) (out : Int) (k0_10 : Int) (h : Heap) (Q : Value → Heap → Prop) : Prop :=
  TW Try.prog 34 82 [.code (cAt (bodyOf Try.f34) [1, 1, 1, 0, 1, 0, 0, 1, 0, 0, 1, 1, 1, 1, 0, 0]), .inLoop (cAt (bodyOf Try.f34) [1, 1, 1, 0, 1, 0, 0, 1, 0, 0, 1, 1, 1, 1, 0, 0]), .inBlock 6, .inBlock 3, .code (cAt (bodyOf Try.f34) [1, 1, 1, 0, 1, 0, 0, 1, 1]), .inLoop (cAt (bodyOf Try.f34) [1, 1, 1, 0, 1, 0, 0]), .inBlock 2, .code (cAt (bodyOf Try.f34) [1, 1, 1, 1])] ⟨[(0, .v (.slice l l_n l_c)), (1, .v (.slice turns turns_n turns_c)), (5, .v (.slice r0 r0_n r0_c)), (7, .v (.int .i64 i_7)), (8, .v (.int .i64 out)), (10, .v (.int .i64 k0_10))], []⟩ h Q
def gabionref02_Sum.J18 (l : Option Addr) (l_n : Nat) (l_c : Nat) (turns : Option Addr) (turns_n : Nat) (turns_c : Nat) (r0 : Option Addr) (r0_n : Nat) (r0_c : Nat) (i_7 : Int) (out : Int) (k0_10 : Int) (h : Heap) (Q : Value → Heap → Prop) : Prop :=
  TW Try.prog 34 82 [.code (cAt (bodyOf Try.f34) [1, 1, 1, 0, 1, 0, 0, 1, 0, 0, 1, 1, 1, 1, 0, 0, 1, 0, 0]), .inBlock 7, .code (cAt (bodyOf Try.f34) [1, 1, 1, 0, 1, 0, 0, 1, 0, 0, 1, 1, 1, 1, 0, 0, 1, 1]), .inLoop (cAt (bodyOf Try.f34) [1, 1, 1, 0, 1, 0, 0, 1, 0, 0, 1, 1, 1, 1, 0, 0]), .inBlock 6, .inBlock 3, .code (cAt (bodyOf Try.f34) [1, 1, 1, 0, 1, 0, 0, 1, 1]), .inLoop (cAt (bodyOf Try.f34) [1, 1, 1, 0, 1, 0, 0]), .inBlock 2, .code (cAt (bodyOf Try.f34) [1, 1, 1, 1])] ⟨[(0, .v (.slice l l_n l_c)), (1, .v (.slice turns turns_n turns_c)), (5, .v (.slice r0 r0_n r0_c)), (7, .v (.int .i64 i_7)), (8, .v (.int .i64 out)), (10, .v (.int .i64 k0_10))], []⟩ h Q
def gabionref02_Sum.wp (l : Option Addr) (l_n : Nat) (l_c : Nat) (turns : Option Addr) (turns_n : Nat) (turns_c : Nat) (h : Heap) (Q : Value → Heap → Prop) : Prop :=
  xsMk Try.prog 3 h (↑turns_n : Int) (↑turns_n : Int) fun (a : Option Addr) (n' c' : Nat) (h' : Heap) => gabionref02_Sum.L3 l l_n l_c turns turns_n turns_c a n' c' 0 h' Q
def gabionref02_Sum.L3.wp (l : Option Addr) (l_n : Nat) (l_c : Nat) (turns : Option Addr) (turns_n : Nat) (turns_c : Nat) (r0 : Option Addr) (r0_n : Nat) (r0_c : Nat) (i_6 : Int) (h : Heap) (Q : Value → Heap → Prop) : Prop :=
  xsIf (decide (i_6 < (↑r0_n : Int)))
    ((0 ≤ i_6 ∧ i_6 < (↑r0_n : Int)) ∧
      atBase r0 fun (b o : Nat) => h.can b (o + i_6.toNat * 1) 1 ∧ gabionref02_Sum.L3 l l_n l_c turns turns_n turns_c r0 r0_n r0_c (IntKind.i64.wrap (i_6 + 1)) (h.put b (o + i_6.toNat * 1) [Value.int IntKind.i64 1]) Q)
    (gabionref02_Sum.J6 l l_n l_c turns turns_n turns_c r0 r0_n r0_c h Q)
def gabionref02_Sum.J6.wp (l : Option Addr) (l_n : Nat) (l_c : Nat) (turns : Option Addr) (turns_n : Nat) (turns_c : Nat) (r0 : Option Addr) (r0_n : Nat) (r0_c : Nat) (h : Heap) (Q : Value → Heap → Prop) : Prop :=
  gabionref02_Sum.L7 l l_n l_c turns turns_n turns_c r0 r0_n r0_c 0 h Q
def gabionref02_Sum.L7.wp (l : Option Addr) (l_n : Nat) (l_c : Nat) (turns : Option Addr) (turns_n : Nat) (turns_c : Nat) (r0 : Option Addr) (r0_n : Nat) (r0_c : Nat) (i_7 : Int) (h : Heap) (Q : Value → Heap → Prop) : Prop :=
  xsIf (decide (i_7 < (↑l_n : Int)))
    (((0 : Int) ≤ 0 ∧ (0 : Int) < (↑r0_n : Int)) ∧
      atBase r0 fun (b o : Nat) =>
        (0 ≤ i_7 ∧ i_7 < (↑l_n : Int)) ∧
          atBase l fun (b_1 o_1 : Nat) =>
            ∃ (x : Int),
              h.cell b (o + 0) = some (Value.int IntKind.i64 x) ∧
                ∃ (x_1 : Int), h.cell b_1 (o_1 + i_7.toNat * 1) = some (Value.int IntKind.i64 x_1) ∧ gabionref02_Sum.L11 l l_n l_c turns turns_n turns_c r0 r0_n r0_c i_7 (irem (IntKind.i64.wrap (x + x_1)) 2) 0 h Q)
    (Q (Value.slice r0 r0_n r0_c) h)
def gabionref02_Sum.L11.wp (l : Option Addr) (l_n : Nat) (l_c : Nat) (turns : Option Addr) (turns_n : Nat) (turns_c : Nat) (r0 : Option Addr) (r0_n : Nat) (r0_c : Nat) (i_7 : Int) (out : Int) (k0_9 : Int) (h : Heap) (Q : Value → Heap → Prop) : Prop :=
  xsIf (decide (IntKind.i64.wrap (k0_9 + 1) < (↑r0_n : Int)))
    ((0 ≤ IntKind.i64.wrap (k0_9 + 1) ∧ IntKind.i64.wrap (k0_9 + 1) < (↑r0_n : Int)) ∧
      atBase r0 fun (b o : Nat) =>
        ∃ (x : Int),
          h.cell b (o + (IntKind.i64.wrap (k0_9 + 1)).toNat * 1) = some (Value.int IntKind.i64 x) ∧
            (0 ≤ k0_9 ∧ k0_9 < (↑r0_n : Int)) ∧
              atBase r0 fun (b o : Nat) => h.can b (o + k0_9.toNat * 1) 1 ∧ gabionref02_Sum.L11 l l_n l_c turns turns_n turns_c r0 r0_n r0_c i_7 out (IntKind.i64.wrap (k0_9 + 1)) (h.put b (o + k0_9.toNat * 1) [Value.int IntKind.i64 x]) Q)
    (gabionref02_Sum.J14 l l_n l_c turns turns_n turns_c r0 r0_n r0_c i_7 out h Q)
def gabionref02_Sum.J14.wp (l : Option Addr) (l_n : Nat) (l_c : Nat) (turns : Option Addr) (turns_n : Nat) (turns_c : Nat) (r0 : Option Addr) (r0_n : Nat) (r0_c : Nat) (i_7 : Int) (out : Int) (h : Heap) (Q : Value → Heap → Prop) : Prop :=
  (0 ≤ IntKind.i64.wrap ((↑r0_n : Int) - 1) ∧ IntKind.i64.wrap ((↑r0_n : Int) - 1) < (↑r0_n : Int)) ∧
    atBase r0 fun (b o : Nat) =>
      h.can b (o + (IntKind.i64.wrap ((↑r0_n : Int) - 1)).toNat * 1) 1 ∧ gabionref02_Sum.L16 l l_n l_c turns turns_n turns_c r0 r0_n r0_c i_7 out 0 (h.put b (o + (IntKind.i64.wrap ((↑r0_n : Int) - 1)).toNat * 1) [Value.int IntKind.i64 0]) Q
def gabionref02_Sum.L16.wp (l : Option Addr) (l_n : Nat) (l_c : Nat) (turns : Option Addr) (turns_n : Nat) (turns_c : Nat) (r0 : Option Addr) (r0_n : Nat) (r0_c : Nat) (i_7 : Int) (out : Int) (k0_10 : Int) (h : Heap) (Q : Value → Heap → Prop) : Prop :=
  xsIf (decide (k0_10 < (↑r0_n : Int)))
    (xsIf (decide (out = 1)) (gabionref02_Sum.J18 l l_n l_c turns turns_n turns_c r0 r0_n r0_c i_7 out k0_10 h Q) (gabionref02_Sum.L7 l l_n l_c turns turns_n turns_c r0 r0_n r0_c (IntKind.i64.wrap (i_7 + 1)) h Q))
    (gabionref02_Sum.L7 l l_n l_c turns turns_n turns_c r0 r0_n r0_c (IntKind.i64.wrap (i_7 + 1)) h Q)
def gabionref02_Sum.J18.wp (l : Option Addr) (l_n : Nat) (l_c : Nat) (turns : Option Addr) (turns_n : Nat) (turns_c : Nat) (r0 : Option Addr) (r0_n : Nat) (r0_c : Nat) (i_7 : Int) (out : Int) (k0_10 : Int) (h : Heap) (Q : Value → Heap → Prop) : Prop :=
  (0 ≤ k0_10 ∧ k0_10 < (↑r0_n : Int)) ∧
    atBase r0 fun (b o : Nat) =>
      (0 ≤ k0_10 ∧ k0_10 < (↑turns_n : Int)) ∧
        atBase turns fun (b_1 o_1 : Nat) =>
          ∃ (x : Int),
            h.cell b (o + k0_10.toNat * 1) = some (Value.int IntKind.i64 x) ∧
              ∃ (x_1 : Int),
                h.cell b_1 (o_1 + k0_10.toNat * 1) = some (Value.int IntKind.i64 x_1) ∧
                  (0 ≤ k0_10 ∧ k0_10 < (↑r0_n : Int)) ∧
                    atBase r0 fun (b o : Nat) =>
                      h.can b (o + k0_10.toNat * 1) 1 ∧
                        gabionref02_Sum.L16 l l_n l_c turns turns_n turns_c r0 r0_n r0_c i_7 out (IntKind.i64.wrap (k0_10 + 1)) (h.put b (o + k0_10.toNat * 1) [Value.int IntKind.i64 (irem (IntKind.i64.wrap (x + x_1)) 2)]) Q
theorem gabionref02_Sum.ok {l : Option Addr} {l_n : Nat} {l_c : Nat} {turns : Option Addr} {turns_n : Nat} {turns_c : Nat} {h : Heap} {Q : Value → Heap → Prop} (hk : gabionref02_Sum.wp l l_n l_c turns turns_n turns_c h Q) : C Try.prog 34 #[.slice l l_n l_c, .slice turns turns_n turns_c] h Q :=
  C_of_xs (H := gabionref02_Sum.H) (lcuts := gabionref02_Sum.lc) (rcuts := gabionref02_Sum.rc) (l := [.slice l l_n l_c, .slice turns turns_n turns_c]) 2000 mixed Try.func34 rfl (by kernel_rfl) (Eq.mp (by kernel_rfl) hk)
theorem gabionref02_Sum.L3.ok {l : Option Addr} {l_n : Nat} {l_c : Nat} {turns : Option Addr} {turns_n : Nat} {turns_c : Nat} {r0 : Option Addr} {r0_n : Nat} {r0_c : Nat} {i_6 : Int} {h : Heap} {Q : Value → Heap → Prop} (hk : gabionref02_Sum.L3.wp l l_n l_c turns turns_n turns_c r0 r0_n r0_c i_6 h Q) : gabionref02_Sum.L3 l l_n l_c turns turns_n turns_c r0 r0_n r0_c i_6 h Q :=
  xs_ok (H := gabionref02_Sum.H) (lcuts := gabionref02_Sum.lc) (rcuts := gabionref02_Sum.rc) (fn := Try.f34) mixed Try.func34 2000 _ _ _ (Eq.mp (by kernel_rfl) hk)
theorem gabionref02_Sum.J6.ok {l : Option Addr} {l_n : Nat} {l_c : Nat} {turns : Option Addr} {turns_n : Nat} {turns_c : Nat} {r0 : Option Addr} {r0_n : Nat} {r0_c : Nat} {h : Heap} {Q : Value → Heap → Prop} (hk : gabionref02_Sum.J6.wp l l_n l_c turns turns_n turns_c r0 r0_n r0_c h Q) : gabionref02_Sum.J6 l l_n l_c turns turns_n turns_c r0 r0_n r0_c h Q :=
  xs_ok (H := gabionref02_Sum.H) (lcuts := gabionref02_Sum.lc) (rcuts := [⟨14, [0, 1, 5, 7, 8], []⟩, ⟨18, [0, 1, 5, 7, 8, 10], []⟩]) (fn := Try.f34) mixed Try.func34 2000 _ _ _ (Eq.mp (by kernel_rfl) hk)
theorem gabionref02_Sum.L7.ok {l : Option Addr} {l_n : Nat} {l_c : Nat} {turns : Option Addr} {turns_n : Nat} {turns_c : Nat} {r0 : Option Addr} {r0_n : Nat} {r0_c : Nat} {i_7 : Int} {h : Heap} {Q : Value → Heap → Prop} (hk : gabionref02_Sum.L7.wp l l_n l_c turns turns_n turns_c r0 r0_n r0_c i_7 h Q) : gabionref02_Sum.L7 l l_n l_c turns turns_n turns_c r0 r0_n r0_c i_7 h Q :=
  xs_ok (H := gabionref02_Sum.H) (lcuts := gabionref02_Sum.lc) (rcuts := gabionref02_Sum.rc) (fn := Try.f34) mixed Try.func34 2000 _ _ _ (Eq.mp (by kernel_rfl) hk)
theorem gabionref02_Sum.L11.ok {l : Option Addr} {l_n : Nat} {l_c : Nat} {turns : Option Addr} {turns_n : Nat} {turns_c : Nat} {r0 : Option Addr} {r0_n : Nat} {r0_c : Nat} {i_7 : Int} {out : Int} {k0_9 : Int} {h : Heap} {Q : Value → Heap → Prop} (hk : gabionref02_Sum.L11.wp l l_n l_c turns turns_n turns_c r0 r0_n r0_c i_7 out k0_9 h Q) : gabionref02_Sum.L11 l l_n l_c turns turns_n turns_c r0 r0_n r0_c i_7 out k0_9 h Q :=
  xs_ok (H := gabionref02_Sum.H) (lcuts := gabionref02_Sum.lc) (rcuts := gabionref02_Sum.rc) (fn := Try.f34) mixed Try.func34 2000 _ _ _ (Eq.mp (by kernel_rfl) hk)
theorem gabionref02_Sum.J14.ok {l : Option Addr} {l_n : Nat} {l_c : Nat} {turns : Option Addr} {turns_n : Nat} {turns_c : Nat} {r0 : Option Addr} {r0_n : Nat} {r0_c : Nat} {i_7 : Int} {out : Int} {h : Heap} {Q : Value → Heap → Prop} (hk : gabionref02_Sum.J14.wp l l_n l_c turns turns_n turns_c r0 r0_n r0_c i_7 out h Q) : gabionref02_Sum.J14 l l_n l_c turns turns_n turns_c r0 r0_n r0_c i_7 out h Q :=
  xs_ok (H := gabionref02_Sum.H) (lcuts := gabionref02_Sum.lc) (rcuts := [⟨6, [0, 1, 5], []⟩, ⟨18, [0, 1, 5, 7, 8, 10], []⟩]) (fn := Try.f34) mixed Try.func34 2000 _ _ _ (Eq.mp (by kernel_rfl) hk)
theorem gabionref02_Sum.L16.ok {l : Option Addr} {l_n : Nat} {l_c : Nat} {turns : Option Addr} {turns_n : Nat} {turns_c : Nat} {r0 : Option Addr} {r0_n : Nat} {r0_c : Nat} {i_7 : Int} {out : Int} {k0_10 : Int} {h : Heap} {Q : Value → Heap → Prop} (hk : gabionref02_Sum.L16.wp l l_n l_c turns turns_n turns_c r0 r0_n r0_c i_7 out k0_10 h Q) : gabionref02_Sum.L16 l l_n l_c turns turns_n turns_c r0 r0_n r0_c i_7 out k0_10 h Q :=
  xs_ok (H := gabionref02_Sum.H) (lcuts := gabionref02_Sum.lc) (rcuts := gabionref02_Sum.rc) (fn := Try.f34) mixed Try.func34 2000 _ _ _ (Eq.mp (by kernel_rfl) hk)
theorem gabionref02_Sum.J18.ok {l : Option Addr} {l_n : Nat} {l_c : Nat} {turns : Option Addr} {turns_n : Nat} {turns_c : Nat} {r0 : Option Addr} {r0_n : Nat} {r0_c : Nat} {i_7 : Int} {out : Int} {k0_10 : Int} {h : Heap} {Q : Value → Heap → Prop} (hk : gabionref02_Sum.J18.wp l l_n l_c turns turns_n turns_c r0 r0_n r0_c i_7 out k0_10 h Q) : gabionref02_Sum.J18 l l_n l_c turns turns_n turns_c r0 r0_n r0_c i_7 out k0_10 h Q :=
  xs_ok (H := gabionref02_Sum.H) (lcuts := gabionref02_Sum.lc) (rcuts := [⟨6, [0, 1, 5], []⟩, ⟨14, [0, 1, 5, 7, 8], []⟩]) (fn := Try.f34) mixed Try.func34 2000 _ _ _ (Eq.mp (by kernel_rfl) hk)

/-! gabion/gabionref02.number -/
def gabionref02_number.H : Hn := ⟨[], [], []⟩
def gabionref02_number.lc : List Cut := [⟨3, [0, 3, 4], []⟩]
def gabionref02_number.rc : List Cut := []
def gabionref02_number.L3 (r0 : Option Addr) (r0_n : Nat) (r0_c : Nat) (n : Int) (i : Int) (h : Heap) (Q : Value → Heap → Prop) : Prop :=
  TW Try.prog 35 20 [.code (cAt (bodyOf Try.f35) [1, 1, 0, 1, 0, 0]), .inLoop (cAt (bodyOf Try.f35) [1, 1, 0, 1, 0, 0]), .inBlock 0, .code (cAt (bodyOf Try.f35) [1, 1, 1])] ⟨[(0, .v (.slice r0 r0_n r0_c)), (3, .v (.int .u64 n)), (4, .v (.int .i64 i))], []⟩ h Q
def gabionref02_number.wp (r0 : Option Addr) (r0_n : Nat) (r0_c : Nat) (h : Heap) (Q : Value → Heap → Prop) : Prop :=
  gabionref02_number.L3 r0 r0_n r0_c 0 0 h Q
def gabionref02_number.L3.wp (r0 : Option Addr) (r0_n : Nat) (r0_c : Nat) (n : Int) (i : Int) (h : Heap) (Q : Value → Heap → Prop) : Prop :=
  xsIf (decide (i < (↑r0_n : Int)))
    ((0 ≤ i ∧ i < (↑r0_n : Int)) ∧
      atBase r0 fun (b o : Nat) =>
        ∃ (x : Int), h.cell b (o + i.toNat * 1) = some (Value.int IntKind.i64 x) ∧ gabionref02_number.L3 r0 r0_n r0_c (IntKind.u64.wrap (IntKind.u64.wrap (2 * n) + IntKind.u64.wrap x)) (IntKind.i64.wrap (i + 1)) h Q)
    (Q (Value.int IntKind.u64 n) h)
theorem gabionref02_number.ok {r0 : Option Addr} {r0_n : Nat} {r0_c : Nat} {h : Heap} {Q : Value → Heap → Prop} (hk : gabionref02_number.wp r0 r0_n r0_c h Q) : C Try.prog 35 #[.slice r0 r0_n r0_c] h Q :=
  C_of_xs (H := gabionref02_number.H) (lcuts := gabionref02_number.lc) (rcuts := gabionref02_number.rc) (l := [.slice r0 r0_n r0_c]) 2000 mixed Try.func35 rfl (by kernel_rfl) (Eq.mp (by kernel_rfl) hk)
theorem gabionref02_number.L3.ok {r0 : Option Addr} {r0_n : Nat} {r0_c : Nat} {n : Int} {i : Int} {h : Heap} {Q : Value → Heap → Prop} (hk : gabionref02_number.L3.wp r0 r0_n r0_c n i h Q) : gabionref02_number.L3 r0 r0_n r0_c n i h Q :=
  xs_ok (H := gabionref02_number.H) (lcuts := gabionref02_number.lc) (rcuts := gabionref02_number.rc) (fn := Try.f35) mixed Try.func35 2000 _ _ _ (Eq.mp (by kernel_rfl) hk)

/-! gabion/gabionref02.Sum16 -/
def gabionref02_Sum16.H : Hn := ⟨[], [], []⟩
def gabionref02_Sum16.lc : List Cut := []
def gabionref02_Sum16.rc : List Cut := []
def gabionref02_Sum16.wp (s : ByteArray) (h : Heap) (Q : Value → Heap → Prop) : Prop :=
  ∀ (b : Nat),
    h b = none →
      C Try.prog 33 #[Value.string s, Value.bool false]
        (upd h b
          (Obj.cells
            #[Value.int IntKind.i64 0, Value.int IntKind.i64 0, Value.int IntKind.i64 0, Value.int IntKind.i64 1, Value.int IntKind.i64 0, Value.int IntKind.i64 0, Value.int IntKind.i64 0, Value.int IntKind.i64 0, Value.int IntKind.i64 0,
                  Value.int IntKind.i64 0, Value.int IntKind.i64 1, Value.int IntKind.i64 0, Value.int IntKind.i64 0, Value.int IntKind.i64 0, Value.int IntKind.i64 0, Value.int IntKind.i64 1]
            3 (0, 0)))
        fun (r : Value) (h' : Heap) =>
        ∃ (x : Option Addr),
          ∃ (n : Nat),
            ∃ (m : Nat),
              r = Value.slice x n m ∧
                C Try.prog 34 #[Value.slice x n m, Value.slice (some { block := b, off := 0 }) 16 16] h' fun (r : Value) (h' : Heap) =>
                  ∃ (x : Option Addr),
                    ∃ (n : Nat), ∃ (m : Nat), r = Value.slice x n m ∧ C Try.prog 35 #[Value.slice x n m] h' fun (r : Value) (h' : Heap) => ∃ (x : Int), r = Value.int IntKind.u64 x ∧ Q (Value.int IntKind.u64 x) h'
theorem gabionref02_Sum16.ok {s : ByteArray} {h : Heap} {Q : Value → Heap → Prop} (hk : gabionref02_Sum16.wp s h Q) : C Try.prog 13 #[.string s] h Q :=
  C_of_xs (H := gabionref02_Sum16.H) (lcuts := gabionref02_Sum16.lc) (rcuts := gabionref02_Sum16.rc) (l := [.string s]) 2000 mixed Try.func13 rfl (by kernel_rfl) (Eq.mp (by kernel_rfl) hk)

/-! gabion/gabionref02.Sum32 -/
def gabionref02_Sum32.H : Hn := ⟨[], [], []⟩
def gabionref02_Sum32.lc : List Cut := [⟨4, [0, 3, 4, 5], []⟩, ⟨12, [8, 9, 10], []⟩]
def gabionref02_Sum32.rc : List Cut := [⟨8, [0, 4], []⟩]
def gabionref02_Sum32.L4 (s : ByteArray) (poly : Int) (turns : Option Addr) (turns_n : Nat) (turns_c : Nat) (k0_5 : Int) (h : Heap) (Q : Value → Heap → Prop) : Prop :=
  TW Try.prog 15 43 [.code (cAt (bodyOf Try.f15) [1, 1, 1, 0, 1, 0, 0]), .inLoop (cAt (bodyOf Try.f15) [1, 1, 1, 0, 1, 0, 0]), .inBlock 0, .code (cAt (bodyOf Try.f15) [1, 1, 1, 1])] ⟨[(0, .v (.string s)), (3, .v (.int .u64 poly)), (4, .v (.slice turns turns_n turns_c)), (5, .v (.int .i64 k0_5))], []⟩ h Q
def gabionref02_Sum32.J8 (s : ByteArray) (turns : Option Addr) (turns_n : Nat) (turns_c : Nat) (h : Heap) (Q : Value → Heap → Prop) : Prop :=
  TW Try.prog 15 43 [.code (cAt (bodyOf Try.f15) [1, 1, 1, 1, 0]), .code (cAt (bodyOf Try.f15) [1, 1, 1, 1, 1])] ⟨[(0, .v (.string s)), (4, .v (.slice turns turns_n turns_c))], []⟩ h Q
def gabionref02_Sum32.L12 (r0 : Option Addr) (r0_n : Nat) (r0_c : Nat) (back : Option Addr) (back_n : Nat) (back_c : Nat) (k0_10 : Int) (h : Heap) (Q : Value → Heap → Prop) : Prop :=
  TW Try.prog 15 43 [.code (cAt (bodyOf Try.f15) [1, 1, 1, 1, 1, 1, 1, 0, 1, 0, 0]), .inLoop (cAt (bodyOf Try.f15) [1, 1, 1, 1, 1, 1, 1, 0, 1, 0, 0]), .inBlock 2, .code (cAt (bodyOf Try.f15) [1, 1, 1, 1, 1, 1, 1, 1])] ⟨[(8, .v (.slice r0 r0_n r0_c)), (9, .v (.slice back back_n back_c)), (10, .v (.int .i64 k0_10))], []⟩ h Q
def gabionref02_Sum32.wp (s : ByteArray) (h : Heap) (Q : Value → Heap → Prop) : Prop :=
  gabionref02_Sum32.L4 s 2197175160 none 0 0 0 h Q
def gabionref02_Sum32.L4.wp (s : ByteArray) (poly : Int) (turns : Option Addr) (turns_n : Nat) (turns_c : Nat) (k0_5 : Int) (h : Heap) (Q : Value → Heap → Prop) : Prop :=
  xsIf (decide (k0_5 < 32))
    (C Try.prog 36 #[Value.int IntKind.u64 poly, Value.int IntKind.i64 k0_5, Value.int IntKind.i64 1] h fun (r : Value) (h' : Heap) =>
      ∃ (x : Int),
        r = Value.int IntKind.u64 x ∧
          ∀ (b : Nat),
            h' b = none →
              xsApp Try.prog 3 (upd h' b (Obj.cells #[Value.int IntKind.i64 (IntKind.i64.wrap x)] 3 (0, 0))) turns turns_n turns_c (some { block := b, off := 0 }) 1 fun (a' : Option Addr) (n' c' : Nat) (h' : Heap) =>
                gabionref02_Sum32.L4 s poly a' n' c' (IntKind.i64.wrap (k0_5 + 1)) h' Q)
    (gabionref02_Sum32.J8 s turns turns_n turns_c h Q)
def gabionref02_Sum32.J8.wp (s : ByteArray) (turns : Option Addr) (turns_n : Nat) (turns_c : Nat) (h : Heap) (Q : Value → Heap → Prop) : Prop :=
  C Try.prog 33 #[Value.string s, Value.bool true] h fun (r : Value) (h' : Heap) =>
    ∃ (x : Option Addr),
      ∃ (n : Nat),
        ∃ (m : Nat),
          r = Value.slice x n m ∧
            C Try.prog 34 #[Value.slice x n m, Value.slice turns turns_n turns_c] h' fun (r : Value) (h' : Heap) =>
              ∃ (x : Option Addr), ∃ (n : Nat), ∃ (m : Nat), r = Value.slice x n m ∧ gabionref02_Sum32.L12 x n m none 0 0 0 h' Q
def gabionref02_Sum32.L12.wp (r0 : Option Addr) (r0_n : Nat) (r0_c : Nat) (back : Option Addr) (back_n : Nat) (back_c : Nat) (k0_10 : Int) (h : Heap) (Q : Value → Heap → Prop) : Prop :=
  xsIf (decide (k0_10 < 32))
    ((0 ≤ IntKind.i64.wrap (31 - k0_10) ∧ IntKind.i64.wrap (31 - k0_10) < (↑r0_n : Int)) ∧
      atBase r0 fun (b o : Nat) =>
        ∃ (x : Int),
          h.cell b (o + (IntKind.i64.wrap (31 - k0_10)).toNat * 1) = some (Value.int IntKind.i64 x) ∧
            ∀ (b : Nat),
              h b = none →
                xsApp Try.prog 3 (upd h b (Obj.cells #[Value.int IntKind.i64 (IntKind.i64.wrap (1 - x))] 3 (0, 0))) back back_n back_c (some { block := b, off := 0 }) 1 fun (a' : Option Addr) (n' c' : Nat) (h' : Heap) =>
                  gabionref02_Sum32.L12 r0 r0_n r0_c a' n' c' (IntKind.i64.wrap (k0_10 + 1)) h' Q)
    (C Try.prog 35 #[Value.slice back back_n back_c] h fun (r : Value) (h' : Heap) => ∃ (x : Int), r = Value.int IntKind.u64 x ∧ Q (Value.int IntKind.u64 x) h')
theorem gabionref02_Sum32.ok {s : ByteArray} {h : Heap} {Q : Value → Heap → Prop} (hk : gabionref02_Sum32.wp s h Q) : C Try.prog 15 #[.string s] h Q :=
  C_of_xs (H := gabionref02_Sum32.H) (lcuts := gabionref02_Sum32.lc) (rcuts := gabionref02_Sum32.rc) (l := [.string s]) 2000 mixed Try.func15 rfl (by kernel_rfl) (Eq.mp (by kernel_rfl) hk)
theorem gabionref02_Sum32.L4.ok {s : ByteArray} {poly : Int} {turns : Option Addr} {turns_n : Nat} {turns_c : Nat} {k0_5 : Int} {h : Heap} {Q : Value → Heap → Prop} (hk : gabionref02_Sum32.L4.wp s poly turns turns_n turns_c k0_5 h Q) : gabionref02_Sum32.L4 s poly turns turns_n turns_c k0_5 h Q :=
  xs_ok (H := gabionref02_Sum32.H) (lcuts := gabionref02_Sum32.lc) (rcuts := gabionref02_Sum32.rc) (fn := Try.f15) mixed Try.func15 2000 _ _ _ (Eq.mp (by kernel_rfl) hk)
theorem gabionref02_Sum32.J8.ok {s : ByteArray} {turns : Option Addr} {turns_n : Nat} {turns_c : Nat} {h : Heap} {Q : Value → Heap → Prop} (hk : gabionref02_Sum32.J8.wp s turns turns_n turns_c h Q) : gabionref02_Sum32.J8 s turns turns_n turns_c h Q :=
  xs_ok (H := gabionref02_Sum32.H) (lcuts := gabionref02_Sum32.lc) (rcuts := []) (fn := Try.f15) mixed Try.func15 2000 _ _ _ (Eq.mp (by kernel_rfl) hk)
theorem gabionref02_Sum32.L12.ok {r0 : Option Addr} {r0_n : Nat} {r0_c : Nat} {back : Option Addr} {back_n : Nat} {back_c : Nat} {k0_10 : Int} {h : Heap} {Q : Value → Heap → Prop} (hk : gabionref02_Sum32.L12.wp r0 r0_n r0_c back back_n back_c k0_10 h Q) : gabionref02_Sum32.L12 r0 r0_n r0_c back back_n back_c k0_10 h Q :=
  xs_ok (H := gabionref02_Sum32.H) (lcuts := gabionref02_Sum32.lc) (rcuts := gabionref02_Sum32.rc) (fn := Try.f15) mixed Try.func15 2000 _ _ _ (Eq.mp (by kernel_rfl) hk)

/-! gabion/gabionlaw02.CrcSums -/
def gabionlaw02_CrcSums.H : Hn := ⟨[], [], []⟩
def gabionlaw02_CrcSums.lc : List Cut := []
def gabionlaw02_CrcSums.rc : List Cut := []
def gabionlaw02_CrcSums.wp (s : ByteArray) (h : Heap) (Q : Value → Heap → Prop) : Prop :=
  (0 ≤ imin (↑s.size : Int) 400 ∧ imin (↑s.size : Int) 400 ≤ (↑s.size : Int)) ∧
    C Try.prog 11 #[] h fun (r : Value) (h' : Heap) =>
      ∃ (x : Bool),
        r = Value.bool x ∧
          xsIf x
            (C Try.prog 12 #[Value.string (sext s 0 (imin (↑s.size : Int) 400))] h' fun (r : Value) (h' : Heap) =>
              ∃ (x : Int),
                r = Value.int IntKind.u16 x ∧
                  C Try.prog 13 #[Value.string (sext s 0 (imin (↑s.size : Int) 400))] h' fun (r : Value) (h' : Heap) =>
                    ∃ (x_1 : Int),
                      r = Value.int IntKind.u64 x_1 ∧
                        xsIf (decide (IntKind.u64.wrap x = x_1))
                          (C Try.prog 14 #[Value.string (sext s 0 (imin (↑s.size : Int) 400))] h' fun (r : Value) (h' : Heap) =>
                            ∃ (x : Int),
                              r = Value.int IntKind.u32 x ∧
                                C Try.prog 15 #[Value.string (sext s 0 (imin (↑s.size : Int) 400))] h' fun (r : Value) (h' : Heap) =>
                                  ∃ (x_2 : Int), r = Value.int IntKind.u64 x_2 ∧ Q (Value.bool (decide (IntKind.u64.wrap x = x_2))) h')
                          (Q (Value.bool false) h'))
            (Q (Value.bool false) h')
theorem gabionlaw02_CrcSums.ok {s : ByteArray} {h : Heap} {Q : Value → Heap → Prop} (hk : gabionlaw02_CrcSums.wp s h Q) : C Try.prog 3 #[.string s] h Q :=
  C_of_xs (H := gabionlaw02_CrcSums.H) (lcuts := gabionlaw02_CrcSums.lc) (rcuts := gabionlaw02_CrcSums.rc) (l := [.string s]) 2000 mixed Try.func3 rfl (by kernel_rfl) (Eq.mp (by kernel_rfl) hk)

/-! gabion/gabionref01.Put -/
def gabionref01_Put.H : Hn := ⟨[], [], []⟩
def gabionref01_Put.lc : List Cut := [⟨3, [0, 1, 5, 6], []⟩]
def gabionref01_Put.rc : List Cut := [⟨5, [0, 1, 5, 6], []⟩]
def gabionref01_Put.L3 (n : Int) (size : Int) (b : Option Addr) (b_n : Nat) (b_c : Nat) (i : Int) (h : Heap) (Q : Value → Heap → Prop) : Prop :=
  TW Try.prog 37 26 [.code (cAt (bodyOf Try.f37) [1, 1, 0, 1, 0, 0]), .inLoop (cAt (bodyOf Try.f37) [1, 1, 0, 1, 0, 0]), .inBlock 0, .code (cAt (bodyOf Try.f37) [1, 1, 1])] ⟨[(0, .v (.int .u64 n)), (1, .v (.int .i64 size)), (5, .v (.slice b b_n b_c)), (6, .v (.int .i64 i))], []⟩ h Q
def gabionref01_Put.J5 (n : Int) (size : Int) (b : Option Addr) (b_n : Nat) (b_c : Nat) (i : Int) (h : Heap) (Q : Value → Heap → Prop) : Prop :=
  TW Try.prog 37 26 [.code (cAt (bodyOf Try.f37) [1, 1, 0, 1, 0, 0, 1, 0, 0, 0]), .code (cAt (bodyOf Try.f37) [1, 1, 0, 1, 0, 0, 1, 0, 0, 1]), .inBlock 1, .code (cAt (bodyOf Try.f37) [1, 1, 0, 1, 0, 0, 1, 1]), .inLoop (cAt (bodyOf Try.f37) [1, 1, 0, 1, 0, 0]), .inBlock 0, .code (cAt (bodyOf Try.f37) [1, 1, 1])] ⟨[(0, .v (.int .u64 n)), (1, .v (.int .i64 size)), (5, .v (.slice b b_n b_c)), (6, .v (.int .i64 i))], []⟩ h Q
def gabionref01_Put.wp (n : Int) (size : Int) (h : Heap) (Q : Value → Heap → Prop) : Prop :=
  gabionref01_Put.L3 n size none 0 0 0 h Q
def gabionref01_Put.L3.wp (n : Int) (size : Int) (b : Option Addr) (b_n : Nat) (b_c : Nat) (i : Int) (h : Heap) (Q : Value → Heap → Prop) : Prop :=
  xsIf (decide (i < size)) (xsIf (decide (i < 8)) (gabionref01_Put.J5 n size b b_n b_c i h Q) (xsStr h b b_n fun (s : ByteArray) => Q (Value.string s) h)) (xsStr h b b_n fun (s : ByteArray) => Q (Value.string s) h)
def gabionref01_Put.J5.wp (n : Int) (size : Int) (b : Option Addr) (b_n : Nat) (b_c : Nat) (i : Int) (h : Heap) (Q : Value → Heap → Prop) : Prop :=
  ∀ (b_1 : Nat),
    h b_1 = none →
      xsApp Try.prog 5 (upd h b_1 (Obj.cells #[Value.int IntKind.u8 (IntKind.u8.wrap (irem n 256))] 5 (0, 0))) b b_n b_c (some { block := b_1, off := 0 }) 1 fun (a' : Option Addr) (n' c' : Nat) (h' : Heap) =>
        gabionref01_Put.L3 (iquo IntKind.u64 n 256) size a' n' c' (IntKind.i64.wrap (i + 1)) h' Q
theorem gabionref01_Put.ok {n : Int} {size : Int} {h : Heap} {Q : Value → Heap → Prop} (hk : gabionref01_Put.wp n size h Q) : C Try.prog 37 #[.int .u64 n, .int .i64 size] h Q :=
  C_of_xs (H := gabionref01_Put.H) (lcuts := gabionref01_Put.lc) (rcuts := gabionref01_Put.rc) (l := [.int .u64 n, .int .i64 size]) 2000 mixed Try.func37 rfl (by kernel_rfl) (Eq.mp (by kernel_rfl) hk)
theorem gabionref01_Put.L3.ok {n : Int} {size : Int} {b : Option Addr} {b_n : Nat} {b_c : Nat} {i : Int} {h : Heap} {Q : Value → Heap → Prop} (hk : gabionref01_Put.L3.wp n size b b_n b_c i h Q) : gabionref01_Put.L3 n size b b_n b_c i h Q :=
  xs_ok (H := gabionref01_Put.H) (lcuts := gabionref01_Put.lc) (rcuts := gabionref01_Put.rc) (fn := Try.f37) mixed Try.func37 2000 _ _ _ (Eq.mp (by kernel_rfl) hk)
theorem gabionref01_Put.J5.ok {n : Int} {size : Int} {b : Option Addr} {b_n : Nat} {b_c : Nat} {i : Int} {h : Heap} {Q : Value → Heap → Prop} (hk : gabionref01_Put.J5.wp n size b b_n b_c i h Q) : gabionref01_Put.J5 n size b b_n b_c i h Q :=
  xs_ok (H := gabionref01_Put.H) (lcuts := gabionref01_Put.lc) (rcuts := []) (fn := Try.f37) mixed Try.func37 2000 _ _ _ (Eq.mp (by kernel_rfl) hk)

/-! gabion/gabionref02.Guard -/
def gabionref02_Guard.H : Hn := ⟨[], [], []⟩
def gabionref02_Guard.lc : List Cut := []
def gabionref02_Guard.rc : List Cut := []
def gabionref02_Guard.wp (n : Int) (h : Heap) (Q : Value → Heap → Prop) : Prop :=
  C Try.prog 37 #[Value.int IntKind.u64 (irem n 281474976710656), Value.int IntKind.i64 6] h fun (r : Value) (h' : Heap) =>
    ∃ (x : ByteArray),
      r = Value.string x ∧
        C Try.prog 13 #[Value.string x] h' fun (r : Value) (h' : Heap) =>
          ∃ (x : Int), r = Value.int IntKind.u64 x ∧ Q (Value.int IntKind.u64 (IntKind.u64.wrap (IntKind.u64.wrap (IntKind.u64.wrap (65535 - x) * 281474976710656) + irem n 281474976710656))) h'
theorem gabionref02_Guard.ok {n : Int} {h : Heap} {Q : Value → Heap → Prop} (hk : gabionref02_Guard.wp n h Q) : C Try.prog 16 #[.int .u64 n] h Q :=
  C_of_xs (H := gabionref02_Guard.H) (lcuts := gabionref02_Guard.lc) (rcuts := gabionref02_Guard.rc) (l := [.int .u64 n]) 2000 mixed Try.func16 rfl (by kernel_rfl) (Eq.mp (by kernel_rfl) hk)

/-! gabion/gabionlaw02.CrcGuards -/
def gabionlaw02_CrcGuards.H : Hn := ⟨[], [], []⟩
def gabionlaw02_CrcGuards.lc : List Cut := [⟨2, [0, 14, 15, 16], []⟩]
def gabionlaw02_CrcGuards.rc : List Cut := []
def gabionlaw02_CrcGuards.L2 (n : Int) (t14 : Option Addr) (t14_n : Nat) (t14_c : Nat) (t15 : Int) (t16 : Int) (h : Heap) (Q : Value → Heap → Prop) : Prop :=
  TW Try.prog 4 58 [.code (cAt (bodyOf Try.f4) [1, 0, 1, 0, 0]), .inLoop (cAt (bodyOf Try.f4) [1, 0, 1, 0, 0]), .inBlock 0, .code (cAt (bodyOf Try.f4) [1, 1])] ⟨[(0, .v (.int .u64 n)), (14, .v (.slice t14 t14_n t14_c)), (15, .v (.int .i64 t15)), (16, .v (.int .i64 t16))], []⟩ h Q
def gabionlaw02_CrcGuards.wp (n : Int) (w : Int) (h : Heap) (Q : Value → Heap → Prop) : Prop :=
  C Try.prog 16 #[Value.int IntKind.u64 n] h fun (r : Value) (h' : Heap) =>
    ∃ (x : Int),
      r = Value.int IntKind.u64 x ∧
        ∀ (b : Nat), h' b = none → gabionlaw02_CrcGuards.L2 n (some { block := b, off := 0 }) 3 3 (↑3 : Int) 0 (upd h' b (Obj.cells #[Value.int IntKind.u64 w, Value.int IntKind.u64 x, Value.int IntKind.u64 n] 23 (0, 0))) Q
def gabionlaw02_CrcGuards.L2.wp (n : Int) (t14 : Option Addr) (t14_n : Nat) (t14_c : Nat) (t15 : Int) (t16 : Int) (h : Heap) (Q : Value → Heap → Prop) : Prop :=
  xsIf (decide (t16 < t15))
    ((0 ≤ t16 ∧ t16 < (↑t14_n : Int)) ∧
      atBase t14 fun (b o : Nat) =>
        ∃ (x : Int),
          h.cell b (o + t16.toNat * 1) = some (Value.int IntKind.u64 x) ∧
            C Try.prog 17 #[Value.int IntKind.u64 x] h fun (r : Value) (h' : Heap) =>
              ∃ (x_1 : Int),
                ∃ (x_2 : Bool),
                  r = Value.tuple #[Value.int IntKind.u64 x_1, Value.bool x_2] ∧
                    C Try.prog 16 #[Value.int IntKind.u64 x] h' fun (r : Value) (h' : Heap) =>
                      ∃ (x_3 : Int),
                        r = Value.int IntKind.u64 x_3 ∧
                          xsIf (!x_2 == decide (x_3 = x)) (Q (Value.bool false) h')
                            (xsIf x_2
                              (xsIf (decide (x_1 ≠ iand IntKind.u64 x 281474976710655)) (Q (Value.bool false) h')
                                (xsIf (!x_2) (xsIf (decide (x_1 ≠ 0)) (Q (Value.bool false) h') (gabionlaw02_CrcGuards.L2 n t14 t14_n t14_c t15 (IntKind.i64.wrap (t16 + 1)) h' Q))
                                  (gabionlaw02_CrcGuards.L2 n t14 t14_n t14_c t15 (IntKind.i64.wrap (t16 + 1)) h' Q)))
                              (xsIf (!x_2) (xsIf (decide (x_1 ≠ 0)) (Q (Value.bool false) h') (gabionlaw02_CrcGuards.L2 n t14 t14_n t14_c t15 (IntKind.i64.wrap (t16 + 1)) h' Q))
                                (gabionlaw02_CrcGuards.L2 n t14 t14_n t14_c t15 (IntKind.i64.wrap (t16 + 1)) h' Q))))
    (C Try.prog 11 #[] h fun (r : Value) (h' : Heap) =>
      ∃ (x : Bool),
        r = Value.bool x ∧
          xsIf x
            (C Try.prog 18 #[Value.int IntKind.u64 n] h' fun (r : Value) (h' : Heap) =>
              ∃ (x : Int), r = Value.int IntKind.u64 x ∧ C Try.prog 16 #[Value.int IntKind.u64 n] h' fun (r : Value) (h' : Heap) => ∃ (x_1 : Int), r = Value.int IntKind.u64 x_1 ∧ Q (Value.bool (decide (x = x_1))) h')
            (Q (Value.bool false) h'))
theorem gabionlaw02_CrcGuards.ok {n : Int} {w : Int} {h : Heap} {Q : Value → Heap → Prop} (hk : gabionlaw02_CrcGuards.wp n w h Q) : C Try.prog 4 #[.int .u64 n, .int .u64 w] h Q :=
  C_of_xs (H := gabionlaw02_CrcGuards.H) (lcuts := gabionlaw02_CrcGuards.lc) (rcuts := gabionlaw02_CrcGuards.rc) (l := [.int .u64 n, .int .u64 w]) 2000 mixed Try.func4 rfl (by kernel_rfl) (Eq.mp (by kernel_rfl) hk)
theorem gabionlaw02_CrcGuards.L2.ok {n : Int} {t14 : Option Addr} {t14_n : Nat} {t14_c : Nat} {t15 : Int} {t16 : Int} {h : Heap} {Q : Value → Heap → Prop} (hk : gabionlaw02_CrcGuards.L2.wp n t14 t14_n t14_c t15 t16 h Q) : gabionlaw02_CrcGuards.L2 n t14 t14_n t14_c t15 t16 h Q :=
  xs_ok (H := gabionlaw02_CrcGuards.H) (lcuts := gabionlaw02_CrcGuards.lc) (rcuts := gabionlaw02_CrcGuards.rc) (fn := Try.f4) mixed Try.func4 2000 _ _ _ (Eq.mp (by kernel_rfl) hk)

/-! gabion/gabionlaw02.CrcTells -/
def gabionlaw02_CrcTells.H : Hn := ⟨[], [], [⟨10, .q 0 (.q 2 (.br 1 (.q 3 (.q 4 (.q 5 (.q 6 (.q 7 (.q 9 (.br 8 (.q 10 (.q 11 (.q 12 (.q 13 (.q 14 (.nil)))))) (.one 10 (.q 8 (.q 11 (.q 12 (.q 13 (.q 14 (.nil)))))))))))))) (.one 3 (.q 1 (.q 4 (.q 5 (.q 6 (.q 7 (.q 9 (.br 8 (.q 10 (.q 11 (.q 12 (.q 13 (.q 14 (.nil)))))) (.one 10 (.q 8 (.q 11 (.q 12 (.q 13 (.q 14 (.nil))))))))))))))))), []⟩]⟩
def gabionlaw02_CrcTells.lc : List Cut := []
def gabionlaw02_CrcTells.rc : List Cut := [⟨6, [0, 1, 2], []⟩, ⟨8, [0, 1, 2], []⟩]
def gabionlaw02_CrcTells.J6 (s : ByteArray) (at0 : Int) (by0 : Int) (h : Heap) (Q : Value → Heap → Prop) : Prop :=
  TW Try.prog 5 76 [.code (cAt (bodyOf Try.f5) [1, 1, 1, 1, 0, 0]), .code (cAt (bodyOf Try.f5) [1, 1, 1, 1, 0, 1]), .code (cAt (bodyOf Try.f5) [1, 1, 1, 1, 1])] ⟨[(0, .v (.string s)), (1, .v (.int .u16 at0)), (2, .v (.int .u8 by0))], []⟩ h Q
def gabionlaw02_CrcTells.J8 (s : ByteArray) (at0 : Int) (by0 : Int) (h : Heap) (Q : Value → Heap → Prop) : Prop :=
  TW Try.prog 5 76 [.code (cAt (bodyOf Try.f5) [1, 1, 1, 1, 1, 0]), .code (cAt (bodyOf Try.f5) [1, 1, 1, 1, 1, 1])] ⟨[(0, .v (.string s)), (1, .v (.int .u16 at0)), (2, .v (.int .u8 by0))], []⟩ h Q
def gabionlaw02_CrcTells.wp (s : ByteArray) (at0 : Int) (by0 : Int) (h : Heap) (Q : Value → Heap → Prop) : Prop :=
  (0 ≤ imin (↑s.size : Int) 2000 ∧ imin (↑s.size : Int) 2000 ≤ (↑s.size : Int)) ∧
    C Try.prog 18
      #[Value.int IntKind.u64 (ior IntKind.u64 (ior IntKind.u64 (ishl IntKind.u64 (IntKind.u64.wrap (↑(sext s 0 (imin (↑s.size : Int) 2000)).size : Int)) 20) (ishl IntKind.u64 (IntKind.u64.wrap at0) 8)) (IntKind.u64.wrap by0))] h
      fun (r : Value) (h' : Heap) =>
      ∃ (x : Int),
        r = Value.int IntKind.u64 x ∧
          0 ≤ irem by0 64 ∧
            C Try.prog 17 #[Value.int IntKind.u64 (ixor IntKind.u64 x (ishl IntKind.u64 1 (irem by0 64)))] h' fun (r : Value) (h' : Heap) =>
              ∃ (x : Int),
                ∃ (x_1 : Bool),
                  r = Value.tuple #[Value.int IntKind.u64 x, Value.bool x_1] ∧
                    xsIf x_1 (Q (Value.bool false) h')
                      (C Try.prog 11 #[] h' fun (r : Value) (h' : Heap) => ∃ (x : Bool), r = Value.bool x ∧ xsIf (!x) (Q (Value.bool false) h') (gabionlaw02_CrcTells.J6 (sext s 0 (imin (↑s.size : Int) 2000)) at0 by0 h' Q))
def gabionlaw02_CrcTells.J6.wp (s : ByteArray) (at0 : Int) (by0 : Int) (h : Heap) (Q : Value → Heap → Prop) : Prop :=
  xsIf (decide ((↑s.size : Int) = 0)) (Q (Value.bool true) h) (xsIf (decide (by0 = 0)) (Q (Value.bool true) h) (gabionlaw02_CrcTells.J8 s at0 by0 h Q))
def gabionlaw02_CrcTells.J8.wp (s : ByteArray) (at0 : Int) (by0 : Int) (h : Heap) (Q : Value → Heap → Prop) : Prop :=
  xsBytes 5 h s fun (a : Option Addr) (m c : Nat) (h' : Heap) =>
    (↑m : Int) ≠ 0 ∧
      (0 ≤ irem (IntKind.i64.wrap at0) (↑m : Int) ∧ irem (IntKind.i64.wrap at0) (↑m : Int) < (↑m : Int)) ∧
        atBase a fun (b o : Nat) =>
          ∃ (x : Int),
            h'.cell b (o + (irem (IntKind.i64.wrap at0) (↑m : Int)).toNat * 1) = some (Value.int IntKind.u8 x) ∧
              (0 ≤ irem (IntKind.i64.wrap at0) (↑m : Int) ∧ irem (IntKind.i64.wrap at0) (↑m : Int) < (↑m : Int)) ∧
                atBase a fun (b o : Nat) =>
                  h'.can b (o + (irem (IntKind.i64.wrap at0) (↑m : Int)).toNat * 1) 1 ∧
                    (C Try.prog 12 #[Value.string s] (h'.put b (o + (irem (IntKind.i64.wrap at0) (↑m : Int)).toNat * 1) [Value.int IntKind.u8 (ixor IntKind.u8 x by0)]) fun (r : Value) (h' : Heap) =>
                        ∃ (x : Int),
                          r = Value.int IntKind.u16 x ∧
                            xsStr h' a m fun (s_1 : ByteArray) =>
                              C Try.prog 12 #[Value.string s_1] h' fun (r : Value) (h' : Heap) =>
                                ∃ (x_1 : Int),
                                  r = Value.int IntKind.u16 x_1 ∧
                                    xsIf (decide (x ≠ x_1))
                                      ((C Try.prog 14 #[Value.string s] h' fun (r : Value) (h' : Heap) =>
                                          ∃ (x : Int),
                                            r = Value.int IntKind.u32 x ∧
                                              xsStr h' a m fun (s : ByteArray) =>
                                                C Try.prog 14 #[Value.string s] h' fun (r : Value) (h' : Heap) => ∃ (x_2 : Int), r = Value.int IntKind.u32 x_2 ∧ Q (Value.bool (decide (x ≠ x_2))) h') ∧
                                        xsStr h' a m fun (s_2 : ByteArray) =>
                                          C Try.prog 14 #[Value.string s] h' fun (r : Value) (h' : Heap) =>
                                            ∃ (x : Int),
                                              r = Value.int IntKind.u32 x ∧ C Try.prog 14 #[Value.string s_2] h' fun (r : Value) (h' : Heap) => ∃ (x_2 : Int), r = Value.int IntKind.u32 x_2 ∧ Q (Value.bool (decide (x ≠ x_2))) h')
                                      (Q (Value.bool false) h' ∧ Q (Value.bool false) h')) ∧
                      xsStr (h'.put b (o + (irem (IntKind.i64.wrap at0) (↑m : Int)).toNat * 1) [Value.int IntKind.u8 (ixor IntKind.u8 x by0)]) a m fun (s_1 : ByteArray) =>
                        C Try.prog 12 #[Value.string s] (h'.put b (o + (irem (IntKind.i64.wrap at0) (↑m : Int)).toNat * 1) [Value.int IntKind.u8 (ixor IntKind.u8 x by0)]) fun (r : Value) (h' : Heap) =>
                          ∃ (x : Int),
                            r = Value.int IntKind.u16 x ∧
                              C Try.prog 12 #[Value.string s_1] h' fun (r : Value) (h' : Heap) =>
                                ∃ (x_1 : Int),
                                  r = Value.int IntKind.u16 x_1 ∧
                                    xsIf (decide (x ≠ x_1))
                                      ((C Try.prog 14 #[Value.string s] h' fun (r : Value) (h' : Heap) =>
                                          ∃ (x : Int),
                                            r = Value.int IntKind.u32 x ∧
                                              xsStr h' a m fun (s : ByteArray) =>
                                                C Try.prog 14 #[Value.string s] h' fun (r : Value) (h' : Heap) => ∃ (x_2 : Int), r = Value.int IntKind.u32 x_2 ∧ Q (Value.bool (decide (x ≠ x_2))) h') ∧
                                        xsStr h' a m fun (s_2 : ByteArray) =>
                                          C Try.prog 14 #[Value.string s] h' fun (r : Value) (h' : Heap) =>
                                            ∃ (x : Int),
                                              r = Value.int IntKind.u32 x ∧ C Try.prog 14 #[Value.string s_2] h' fun (r : Value) (h' : Heap) => ∃ (x_2 : Int), r = Value.int IntKind.u32 x_2 ∧ Q (Value.bool (decide (x ≠ x_2))) h')
                                      (Q (Value.bool false) h' ∧ Q (Value.bool false) h')
theorem gabionlaw02_CrcTells.ok {s : ByteArray} {at0 : Int} {by0 : Int} {h : Heap} {Q : Value → Heap → Prop} (hk : gabionlaw02_CrcTells.wp s at0 by0 h Q) : C Try.prog 5 #[.string s, .int .u16 at0, .int .u8 by0] h Q :=
  C_of_xs (H := gabionlaw02_CrcTells.H) (lcuts := gabionlaw02_CrcTells.lc) (rcuts := gabionlaw02_CrcTells.rc) (l := [.string s, .int .u16 at0, .int .u8 by0]) 2000 mixed Try.func5 rfl (by kernel_rfl) (Eq.mp (by kernel_rfl) hk)
theorem gabionlaw02_CrcTells.J6.ok {s : ByteArray} {at0 : Int} {by0 : Int} {h : Heap} {Q : Value → Heap → Prop} (hk : gabionlaw02_CrcTells.J6.wp s at0 by0 h Q) : gabionlaw02_CrcTells.J6 s at0 by0 h Q :=
  xs_ok (H := gabionlaw02_CrcTells.H) (lcuts := gabionlaw02_CrcTells.lc) (rcuts := [⟨8, [0, 1, 2], []⟩]) (fn := Try.f5) mixed Try.func5 2000 _ _ _ (Eq.mp (by kernel_rfl) hk)
theorem gabionlaw02_CrcTells.J8.ok {s : ByteArray} {at0 : Int} {by0 : Int} {h : Heap} {Q : Value → Heap → Prop} (hk : gabionlaw02_CrcTells.J8.wp s at0 by0 h Q) : gabionlaw02_CrcTells.J8 s at0 by0 h Q :=
  xs_ok (H := gabionlaw02_CrcTells.H) (lcuts := gabionlaw02_CrcTells.lc) (rcuts := [⟨6, [0, 1, 2], []⟩]) (fn := Try.f5) mixed Try.func5 2000 _ _ _ (Eq.mp (by kernel_rfl) hk)

/-! gabion/gabionlaw02.CrcMixes -/
def gabionlaw02_CrcMixes.H : Hn := ⟨[], [], [⟨6, .q 0 (.q 1 (.q 2 (.q 3 (.q 4 (.q 5 (.q 6 (.q 7 (.q 8 (.q 9 (.q 10 (.q 11 (.q 12 (.q 13 (.q 14 (.nil))))))))))))))), []⟩, ⟨8, .q 0 (.q 1 (.q 2 (.q 3 (.q 4 (.q 5 (.q 6 (.q 7 (.q 8 (.q 9 (.q 10 (.q 11 (.nil)))))))))))), []⟩]⟩
def gabionlaw02_CrcMixes.lc : List Cut := [⟨4, [0, 1, 2, 7, 8, 20, 21], []⟩]
def gabionlaw02_CrcMixes.rc : List Cut := [⟨8, [0, 1, 2, 7, 8], []⟩]
def gabionlaw02_CrcMixes.L4 (a : ByteArray) (b : ByteArray) (c : ByteArray) (n : Int) (x : Option Addr) (x_n : Nat) (x_c : Nat) (t20 : Int) (t21 : Int) (h : Heap) (Q : Value → Heap → Prop) : Prop :=
  TW Try.prog 6 77 [.code (cAt (bodyOf Try.f6) [1, 1, 1, 0, 1, 0, 0]), .inLoop (cAt (bodyOf Try.f6) [1, 1, 1, 0, 1, 0, 0]), .inBlock 0, .code (cAt (bodyOf Try.f6) [1, 1, 1, 1])] ⟨[(0, .v (.string a)), (1, .v (.string b)), (2, .v (.string c)), (7, .v (.int .i64 n)), (8, .v (.slice x x_n x_c)), (20, .v (.int .i64 t20)), (21, .v (.int .i64 t21))], []⟩ h Q
def gabionlaw02_CrcMixes.J8 (a : ByteArray) (b : ByteArray) (c : ByteArray) (n : Int) (x : Option Addr) (x_n : Nat) (x_c : Nat) (h : Heap) (Q : Value → Heap → Prop) : Prop :=
  TW Try.prog 6 77 [.code (cAt (bodyOf Try.f6) [1, 1, 1, 1, 0]), .code (cAt (bodyOf Try.f6) [1, 1, 1, 1, 1])] ⟨[(0, .v (.string a)), (1, .v (.string b)), (2, .v (.string c)), (7, .v (.int .i64 n)), (8, .v (.slice x x_n x_c))], []⟩ h Q
def gabionlaw02_CrcMixes.wp (a : ByteArray) (b : ByteArray) (c : ByteArray) (h : Heap) (Q : Value → Heap → Prop) : Prop :=
  xsMk Try.prog 5 h (imin (imin (imin (↑a.size : Int) (↑b.size : Int)) (↑c.size : Int)) 500) (imin (imin (imin (↑a.size : Int) (↑b.size : Int)) (↑c.size : Int)) 500) fun (a_1 : Option Addr) (n' c' : Nat) (h' : Heap) =>
    gabionlaw02_CrcMixes.L4 a b c (imin (imin (imin (↑a.size : Int) (↑b.size : Int)) (↑c.size : Int)) 500) a_1 n' c' (↑n' : Int) 0 h' Q
def gabionlaw02_CrcMixes.L4.wp (a : ByteArray) (b : ByteArray) (c : ByteArray) (n : Int) (x : Option Addr) (x_n : Nat) (x_c : Nat) (t20 : Int) (t21 : Int) (h : Heap) (Q : Value → Heap → Prop) : Prop :=
  xsIf (decide (t21 < t20))
    (∃ (c_1 : UInt8),
      0 ≤ t21 ∧
        bget a t21.toNat = some c_1 ∧
          ∃ (c_2 : UInt8),
            0 ≤ t21 ∧
              bget b t21.toNat = some c_2 ∧
                ∃ (c_3 : UInt8),
                  0 ≤ t21 ∧
                    bget c t21.toNat = some c_3 ∧
                      (0 ≤ t21 ∧ t21 < (↑x_n : Int)) ∧
                        atBase x fun (b_1 o : Nat) =>
                          h.can b_1 (o + t21.toNat * 1) 1 ∧
                            gabionlaw02_CrcMixes.L4 a b c n x x_n x_c t20 (IntKind.i64.wrap (t21 + 1))
                              (h.put b_1 (o + t21.toNat * 1) [Value.int IntKind.u8 (ixor IntKind.u8 (ixor IntKind.u8 (↑c_1.toNat : Int) (↑c_2.toNat : Int)) (↑c_3.toNat : Int))]) Q)
    (gabionlaw02_CrcMixes.J8 a b c n x x_n x_c h Q)
def gabionlaw02_CrcMixes.J8.wp (a : ByteArray) (b : ByteArray) (c : ByteArray) (n : Int) (x : Option Addr) (x_n : Nat) (x_c : Nat) (h : Heap) (Q : Value → Heap → Prop) : Prop :=
  (0 ≤ n ∧ n ≤ (↑a.size : Int)) ∧
    (0 ≤ n ∧ n ≤ (↑b.size : Int)) ∧
      (0 ≤ n ∧ n ≤ (↑c.size : Int)) ∧
        C Try.prog 11 #[] h fun (r : Value) (h' : Heap) =>
          ∃ (x_1 : Bool),
            r = Value.bool x_1 ∧
              xsIf x_1
                (xsStr h' x x_n fun (s : ByteArray) =>
                  C Try.prog 12 #[Value.string s] h' fun (r : Value) (h' : Heap) =>
                    ∃ (x_2 : Int),
                      r = Value.int IntKind.u16 x_2 ∧
                        C Try.prog 12 #[Value.string (sext a 0 n)] h' fun (r : Value) (h' : Heap) =>
                          ∃ (x_3 : Int),
                            r = Value.int IntKind.u16 x_3 ∧
                              C Try.prog 12 #[Value.string (sext b 0 n)] h' fun (r : Value) (h' : Heap) =>
                                ∃ (x_4 : Int),
                                  r = Value.int IntKind.u16 x_4 ∧
                                    C Try.prog 12 #[Value.string (sext c 0 n)] h' fun (r : Value) (h' : Heap) =>
                                      ∃ (x_5 : Int),
                                        r = Value.int IntKind.u16 x_5 ∧
                                          xsIf (decide (x_2 = ixor IntKind.u16 (ixor IntKind.u16 x_3 x_4) x_5))
                                            (xsStr h' x x_n fun (s : ByteArray) =>
                                              C Try.prog 14 #[Value.string s] h' fun (r : Value) (h' : Heap) =>
                                                ∃ (x : Int),
                                                  r = Value.int IntKind.u32 x ∧
                                                    C Try.prog 14 #[Value.string (sext a 0 n)] h' fun (r : Value) (h' : Heap) =>
                                                      ∃ (x_6 : Int),
                                                        r = Value.int IntKind.u32 x_6 ∧
                                                          C Try.prog 14 #[Value.string (sext b 0 n)] h' fun (r : Value) (h' : Heap) =>
                                                            ∃ (x_7 : Int),
                                                              r = Value.int IntKind.u32 x_7 ∧
                                                                C Try.prog 14 #[Value.string (sext c 0 n)] h' fun (r : Value) (h' : Heap) =>
                                                                  ∃ (x_8 : Int), r = Value.int IntKind.u32 x_8 ∧ Q (Value.bool (decide (x = ixor IntKind.u32 (ixor IntKind.u32 x_6 x_7) x_8))) h')
                                            (Q (Value.bool false) h'))
                (Q (Value.bool false) h')
theorem gabionlaw02_CrcMixes.ok {a : ByteArray} {b : ByteArray} {c : ByteArray} {h : Heap} {Q : Value → Heap → Prop} (hk : gabionlaw02_CrcMixes.wp a b c h Q) : C Try.prog 6 #[.string a, .string b, .string c] h Q :=
  C_of_xs (H := gabionlaw02_CrcMixes.H) (lcuts := gabionlaw02_CrcMixes.lc) (rcuts := gabionlaw02_CrcMixes.rc) (l := [.string a, .string b, .string c]) 2000 mixed Try.func6 rfl (by kernel_rfl) (Eq.mp (by kernel_rfl) hk)
theorem gabionlaw02_CrcMixes.L4.ok {a : ByteArray} {b : ByteArray} {c : ByteArray} {n : Int} {x : Option Addr} {x_n : Nat} {x_c : Nat} {t20 : Int} {t21 : Int} {h : Heap} {Q : Value → Heap → Prop} (hk : gabionlaw02_CrcMixes.L4.wp a b c n x x_n x_c t20 t21 h Q) : gabionlaw02_CrcMixes.L4 a b c n x x_n x_c t20 t21 h Q :=
  xs_ok (H := gabionlaw02_CrcMixes.H) (lcuts := gabionlaw02_CrcMixes.lc) (rcuts := gabionlaw02_CrcMixes.rc) (fn := Try.f6) mixed Try.func6 2000 _ _ _ (Eq.mp (by kernel_rfl) hk)
theorem gabionlaw02_CrcMixes.J8.ok {a : ByteArray} {b : ByteArray} {c : ByteArray} {n : Int} {x : Option Addr} {x_n : Nat} {x_c : Nat} {h : Heap} {Q : Value → Heap → Prop} (hk : gabionlaw02_CrcMixes.J8.wp a b c n x x_n x_c h Q) : gabionlaw02_CrcMixes.J8 a b c n x x_n x_c h Q :=
  xs_ok (H := gabionlaw02_CrcMixes.H) (lcuts := gabionlaw02_CrcMixes.lc) (rcuts := []) (fn := Try.f6) mixed Try.func6 2000 _ _ _ (Eq.mp (by kernel_rfl) hk)

/-! gabion/desc.New -/
def desc_New.H : Hn := ⟨[13], [], []⟩
def desc_New.lc : List Cut := []
def desc_New.rc : List Cut := []
def desc_New.wp (clients : Int) (h : Heap) (Q : Value → Heap → Prop) : Prop :=
  xsIf (decide (clients < 1)) (Q (Value.tuple #[Value.pointer none, Value.int IntKind.i64 2]) h)
    (xsIf (decide (8 < clients)) (Q (Value.tuple #[Value.pointer none, Value.int IntKind.i64 2]) h)
      (xsMk Try.prog 85 h clients clients fun (a : Option Addr) (n' c' : Nat) (h' : Heap) =>
        ∀ (b : Nat), h' b = none → Q (Value.tuple #[Value.pointer (some { block := b, off := 0 }), Value.int IntKind.i64 0]) (upd h' b (Obj.cells #[Value.slice a n' c'] 81 (0, 0)))))
theorem desc_New.ok {clients : Int} {h : Heap} {Q : Value → Heap → Prop} (hk : desc_New.wp clients h Q) : C Try.prog 19 #[.int .i64 clients] h Q :=
  C_of_xs (H := desc_New.H) (lcuts := desc_New.lc) (rcuts := desc_New.rc) (l := [.int .i64 clients]) 2000 mixed Try.func19 rfl (by kernel_rfl) (Eq.mp (by kernel_rfl) hk)

/-! (*gabion/desc.Tables).client -/
def desc_Tables_client.H : Hn := ⟨[], [], []⟩
def desc_Tables_client.lc : List Cut := []
def desc_Tables_client.rc : List Cut := []
def desc_Tables_client.wp (t : Option Addr) (c : Int) (h : Heap) (Q : Value → Heap → Prop) : Prop :=
  xsIf t.isNone (Q (Value.int IntKind.i64 1) h)
    (xsIf (decide (c < 0)) (Q (Value.int IntKind.i64 2) h)
      (atBase t fun (b o : Nat) => ∃ (x : Option Addr), ∃ (n : Nat), ∃ (m : Nat), h.cell b (o + 0) = some (Value.slice x n m) ∧ xsIf (decide ((↑n : Int) ≤ c)) (Q (Value.int IntKind.i64 2) h) (Q (Value.int IntKind.i64 0) h)))
theorem desc_Tables_client.ok {t : Option Addr} {c : Int} {h : Heap} {Q : Value → Heap → Prop} (hk : desc_Tables_client.wp t c h Q) : C Try.prog 41 #[.pointer t, .int .i64 c] h Q :=
  C_of_xs (H := desc_Tables_client.H) (lcuts := desc_Tables_client.lc) (rcuts := desc_Tables_client.rc) (l := [.pointer t, .int .i64 c]) 2000 mixed Try.func41 rfl (by kernel_rfl) (Eq.mp (by kernel_rfl) hk)

/-! (*gabion/desc.Tables).Add -/
def desc_Tables_Add.H : Hn := ⟨[47], [], []⟩
def desc_Tables_Add.lc : List Cut := [⟨7, [0, 1, 2, 3, 31, 32], []⟩]
def desc_Tables_Add.rc : List Cut := [⟨6, [0, 1, 2, 3], []⟩]
def desc_Tables_Add.J6 (t : Option Addr) (client : Int) (n : Int) (flags : Int) (h : Heap) (Q : Value → Heap → Prop) : Prop :=
  TW Try.prog 22 52 [.code (cAt (bodyOf Try.f22) [1, 1, 1, 0, 0]), .code (cAt (bodyOf Try.f22) [1, 1, 1, 0, 1]), .code (cAt (bodyOf Try.f22) [1, 1, 1, 1])] ⟨[(0, .v (.pointer t)), (1, .v (.int .i64 client)), (2, .v (.int .i64 n)), (3, .v (.int .i64 flags))], []⟩ h Q
def desc_Tables_Add.L7 (t : Option Addr) (client : Int) (n : Int) (flags : Int) (t31 : List Value) (t32 : Int) (h : Heap) (Q : Value → Heap → Prop) : Prop :=
  TW Try.prog 22 52 [.code (cAt (bodyOf Try.f22) [1, 1, 1, 0, 1, 0, 0]), .inLoop (cAt (bodyOf Try.f22) [1, 1, 1, 0, 1, 0, 0]), .inBlock 0, .code (cAt (bodyOf Try.f22) [1, 1, 1, 1])] ⟨[(0, .v (.pointer t)), (1, .v (.int .i64 client)), (2, .v (.int .i64 n)), (3, .v (.int .i64 flags)), (31, .v (.agg t31.toArray)), (32, .v (.int .i64 t32))], []⟩ h Q
def desc_Tables_Add.wp (t : Option Addr) (client : Int) (n : Int) (flags : Int) (h : Heap) (Q : Value → Heap → Prop) : Prop :=
  C Try.prog 41 #[Value.pointer t, Value.int IntKind.i64 client] h fun (r : Value) (h' : Heap) =>
    ∃ (x : Int),
      r = Value.int IntKind.i64 x ∧
        xsIf (decide (x ≠ 0)) (Q (Value.tuple #[Value.int IntKind.i64 0, Value.int IntKind.i64 x]) h')
          (xsIf (decide (flags < 1)) (Q (Value.tuple #[Value.int IntKind.i64 0, Value.int IntKind.i64 2]) h')
            (xsIf (decide (7 < flags)) (Q (Value.tuple #[Value.int IntKind.i64 0, Value.int IntKind.i64 2]) h') (desc_Tables_Add.J6 t client n flags h' Q)))
def desc_Tables_Add.J6.wp (t : Option Addr) (client : Int) (n : Int) (flags : Int) (h : Heap) (Q : Value → Heap → Prop) : Prop :=
  atBase t fun (b o : Nat) =>
    ∃ (x : Option Addr),
      ∃ (n_1 : Nat),
        ∃ (m : Nat),
          h.cell b (o + 0) = some (Value.slice x n_1 m) ∧
            (0 ≤ client ∧ client < (↑n_1 : Int)) ∧
              atBase x fun (b o : Nat) => ∃ (cs : List Value), cs.length = 16 ∧ (∀ (j : Nat), j < cs.length → h.cell b (o + client.toNat * 16 + j) = lget cs j) ∧ desc_Tables_Add.L7 t client n flags cs 0 h Q
def desc_Tables_Add.L7.wp (t : Option Addr) (client : Int) (n : Int) (flags : Int) (t31 : List Value) (t32 : Int) (h : Heap) (Q : Value → Heap → Prop) : Prop :=
  xsIf (decide (t32 < 16))
    ((0 ≤ t32 ∧ t32 < (↑16 : Int)) ∧
      ∃ (x : Option Addr),
        lget t31 (t32.toNat * 1) = some (Value.pointer x) ∧
          xsIf x.isNone
            (atBase t fun (b o : Nat) =>
              ∃ (x : Option Addr),
                ∃ (n_1 : Nat),
                  ∃ (m : Nat),
                    h.cell b (o + 0) = some (Value.slice x n_1 m) ∧
                      ∀ (b : Nat),
                        h b = none →
                          (0 ≤ client ∧ client < (↑n_1 : Int)) ∧
                            atBase x fun (b_1 o : Nat) =>
                              (0 ≤ t32 ∧ t32 < (↑16 : Int)) ∧
                                (upd h b (Obj.cells #[Value.int IntKind.i64 n, Value.int IntKind.i64 flags, Value.int IntKind.i64 0] 49 (0, 0))).can b_1 (o + client.toNat * 16 + t32.toNat * 1) 1 ∧
                                  Q (Value.tuple #[Value.int IntKind.i64 t32, Value.int IntKind.i64 0])
                                    ((upd h b (Obj.cells #[Value.int IntKind.i64 n, Value.int IntKind.i64 flags, Value.int IntKind.i64 0] 49 (0, 0))).put b_1 (o + client.toNat * 16 + t32.toNat * 1)
                                      [Value.pointer (some { block := b, off := 0 })]))
            (desc_Tables_Add.L7 t client n flags t31 (IntKind.i64.wrap (t32 + 1)) h Q))
    (Q (Value.tuple #[Value.int IntKind.i64 0, Value.int IntKind.i64 7]) h)
theorem desc_Tables_Add.ok {t : Option Addr} {client : Int} {n : Int} {flags : Int} {h : Heap} {Q : Value → Heap → Prop} (hk : desc_Tables_Add.wp t client n flags h Q) : C Try.prog 22 #[.pointer t, .int .i64 client, .int .i64 n, .int .i64 flags] h Q :=
  C_of_xs (H := desc_Tables_Add.H) (lcuts := desc_Tables_Add.lc) (rcuts := desc_Tables_Add.rc) (l := [.pointer t, .int .i64 client, .int .i64 n, .int .i64 flags]) 2000 mixed Try.func22 rfl (by kernel_rfl) (Eq.mp (by kernel_rfl) hk)
theorem desc_Tables_Add.J6.ok {t : Option Addr} {client : Int} {n : Int} {flags : Int} {h : Heap} {Q : Value → Heap → Prop} (hk : desc_Tables_Add.J6.wp t client n flags h Q) : desc_Tables_Add.J6 t client n flags h Q :=
  xs_ok (H := desc_Tables_Add.H) (lcuts := desc_Tables_Add.lc) (rcuts := []) (fn := Try.f22) mixed Try.func22 2000 _ _ _ (Eq.mp (by kernel_rfl) hk)
theorem desc_Tables_Add.L7.ok {t : Option Addr} {client : Int} {n : Int} {flags : Int} {t31 : List Value} {t32 : Int} {h : Heap} {Q : Value → Heap → Prop} (hk : desc_Tables_Add.L7.wp t client n flags t31 t32 h Q) : desc_Tables_Add.L7 t client n flags t31 t32 h Q :=
  xs_ok (H := desc_Tables_Add.H) (lcuts := desc_Tables_Add.lc) (rcuts := desc_Tables_Add.rc) (fn := Try.f22) mixed Try.func22 2000 _ _ _ (Eq.mp (by kernel_rfl) hk)

/-! (*gabion/desc.Tables).get -/
def desc_Tables_get.H : Hn := ⟨[], [], []⟩
def desc_Tables_get.lc : List Cut := []
def desc_Tables_get.rc : List Cut := []
def desc_Tables_get.wp (t : Option Addr) (client : Int) (fd : Int) (h : Heap) (Q : Value → Heap → Prop) : Prop :=
  C Try.prog 41 #[Value.pointer t, Value.int IntKind.i64 client] h fun (r : Value) (h' : Heap) =>
    ∃ (x : Int),
      r = Value.int IntKind.i64 x ∧
        xsIf (decide (x ≠ 0)) (Q (Value.tuple #[Value.pointer none, Value.int IntKind.i64 x]) h')
          (xsIf (decide (fd < 0)) (Q (Value.tuple #[Value.pointer none, Value.int IntKind.i64 19]) h')
            (xsIf (decide (16 ≤ fd)) (Q (Value.tuple #[Value.pointer none, Value.int IntKind.i64 19]) h')
              (atBase t fun (b o : Nat) =>
                ∃ (x : Option Addr),
                  ∃ (n : Nat),
                    ∃ (m : Nat),
                      h'.cell b (o + 0) = some (Value.slice x n m) ∧
                        (0 ≤ client ∧ client < (↑n : Int)) ∧
                          atBase x fun (b o : Nat) =>
                            (0 ≤ fd ∧ fd < (↑16 : Int)) ∧
                              ∃ (x : Option Addr),
                                h'.cell b (o + client.toNat * 16 + fd.toNat * 1) = some (Value.pointer x) ∧
                                  xsIf x.isNone (Q (Value.tuple #[Value.pointer none, Value.int IntKind.i64 19]) h')
                                    (atBase t fun (b o : Nat) =>
                                      ∃ (x : Option Addr),
                                        ∃ (n : Nat),
                                          ∃ (m : Nat),
                                            h'.cell b (o + 0) = some (Value.slice x n m) ∧
                                              (0 ≤ client ∧ client < (↑n : Int)) ∧
                                                atBase x fun (b o : Nat) =>
                                                  (0 ≤ fd ∧ fd < (↑16 : Int)) ∧
                                                    ∃ (x : Option Addr), h'.cell b (o + client.toNat * 16 + fd.toNat * 1) = some (Value.pointer x) ∧ Q (Value.tuple #[Value.pointer x, Value.int IntKind.i64 0]) h'))))
theorem desc_Tables_get.ok {t : Option Addr} {client : Int} {fd : Int} {h : Heap} {Q : Value → Heap → Prop} (hk : desc_Tables_get.wp t client fd h Q) : C Try.prog 40 #[.pointer t, .int .i64 client, .int .i64 fd] h Q :=
  C_of_xs (H := desc_Tables_get.H) (lcuts := desc_Tables_get.lc) (rcuts := desc_Tables_get.rc) (l := [.pointer t, .int .i64 client, .int .i64 fd]) 2000 mixed Try.func40 rfl (by kernel_rfl) (Eq.mp (by kernel_rfl) hk)

/-! (*gabion/desc.Tables).Close -/
def desc_Tables_Close.H : Hn := ⟨[], [], []⟩
def desc_Tables_Close.lc : List Cut := []
def desc_Tables_Close.rc : List Cut := []
def desc_Tables_Close.wp (t : Option Addr) (client : Int) (fd : Int) (h : Heap) (Q : Value → Heap → Prop) : Prop :=
  C Try.prog 40 #[Value.pointer t, Value.int IntKind.i64 client, Value.int IntKind.i64 fd] h fun (r : Value) (h' : Heap) =>
    ∃ (x : Option Addr),
      ∃ (x_1 : Int),
        r = Value.tuple #[Value.pointer x, Value.int IntKind.i64 x_1] ∧
          xsIf (decide (x_1 ≠ 0)) (Q (Value.tuple #[Value.int IntKind.i64 0, Value.int IntKind.i64 x_1]) h')
            (atBase t fun (b o : Nat) =>
              ∃ (x_2 : Option Addr),
                ∃ (n : Nat),
                  ∃ (m : Nat),
                    h'.cell b (o + 0) = some (Value.slice x_2 n m) ∧
                      (0 ≤ client ∧ client < (↑n : Int)) ∧
                        atBase x_2 fun (b o : Nat) =>
                          (0 ≤ fd ∧ fd < (↑16 : Int)) ∧
                            h'.can b (o + client.toNat * 16 + fd.toNat * 1) 1 ∧
                              atBase x fun (b_1 o_1 : Nat) =>
                                ∃ (x : Int),
                                  (h'.put b (o + client.toNat * 16 + fd.toNat * 1) [Value.pointer none]).cell b_1 (o_1 + 0) = some (Value.int IntKind.i64 x) ∧
                                    Q (Value.tuple #[Value.int IntKind.i64 x, Value.int IntKind.i64 0]) (h'.put b (o + client.toNat * 16 + fd.toNat * 1) [Value.pointer none]))
theorem desc_Tables_Close.ok {t : Option Addr} {client : Int} {fd : Int} {h : Heap} {Q : Value → Heap → Prop} (hk : desc_Tables_Close.wp t client fd h Q) : C Try.prog 21 #[.pointer t, .int .i64 client, .int .i64 fd] h Q :=
  C_of_xs (H := desc_Tables_Close.H) (lcuts := desc_Tables_Close.lc) (rcuts := desc_Tables_Close.rc) (l := [.pointer t, .int .i64 client, .int .i64 fd]) 2000 mixed Try.func21 rfl (by kernel_rfl) (Eq.mp (by kernel_rfl) hk)

/-! (*gabion/desc.Tables).Clients -/
def desc_Tables_Clients.H : Hn := ⟨[], [], []⟩
def desc_Tables_Clients.lc : List Cut := []
def desc_Tables_Clients.rc : List Cut := []
def desc_Tables_Clients.wp (t : Option Addr) (h : Heap) (Q : Value → Heap → Prop) : Prop :=
  xsIf t.isNone (Q (Value.int IntKind.i64 0) h) (atBase t fun (b o : Nat) => ∃ (x : Option Addr), ∃ (n : Nat), ∃ (m : Nat), h.cell b (o + 0) = some (Value.slice x n m) ∧ Q (Value.int IntKind.i64 (↑n : Int)) h)
theorem desc_Tables_Clients.ok {t : Option Addr} {h : Heap} {Q : Value → Heap → Prop} (hk : desc_Tables_Clients.wp t h Q) : C Try.prog 32 #[.pointer t] h Q :=
  C_of_xs (H := desc_Tables_Clients.H) (lcuts := desc_Tables_Clients.lc) (rcuts := desc_Tables_Clients.rc) (l := [.pointer t]) 2000 mixed Try.func32 rfl (by kernel_rfl) (Eq.mp (by kernel_rfl) hk)

/-! (*gabion/desc.Tables).Count -/
def desc_Tables_Count.H : Hn := ⟨[], [], []⟩
def desc_Tables_Count.lc : List Cut := [⟨3, [0, 1, 5, 10, 11], []⟩, ⟨6, [0, 1, 5, 10, 11, 20, 21], []⟩]
def desc_Tables_Count.rc : List Cut := []
def desc_Tables_Count.L3 (t : Option Addr) (n : Int) (sum : Int) (t10 : Int) (t11 : Int) (h : Heap) (Q : Value → Heap → Prop) : Prop :=
  TW Try.prog 31 39 [.code (cAt (bodyOf Try.f31) [1, 1, 0, 1, 0, 0]), .inLoop (cAt (bodyOf Try.f31) [1, 1, 0, 1, 0, 0]), .inBlock 0, .code (cAt (bodyOf Try.f31) [1, 1, 1])] ⟨[(0, .v (.pointer t)), (1, .v (.int .i64 n)), (5, .v (.int .i64 sum)), (10, .v (.int .i64 t10)), (11, .v (.int .i64 t11))], []⟩ h Q
def desc_Tables_Count.L6 (t : Option Addr) (n : Int) (sum : Int) (t10 : Int) (t11 : Int) (t20 : List Value) (t21 : Int) (h : Heap) (Q : Value → Heap → Prop) : Prop :=
  TW Try.prog 31 39 [.code (cAt (bodyOf Try.f31) [1, 1, 0, 1, 0, 0, 1, 1, 0, 0, 1, 1, 0, 0]), .inLoop (cAt (bodyOf Try.f31) [1, 1, 0, 1, 0, 0, 1, 1, 0, 0, 1, 1, 0, 0]), .inBlock 2, .inBlock 1, .code (cAt (bodyOf Try.f31) [1, 1, 0, 1, 0, 0, 1, 1, 1]), .inLoop (cAt (bodyOf Try.f31) [1, 1, 0, 1, 0, 0]), .inBlock 0, .code (cAt (bodyOf Try.f31) [1, 1, 1])] ⟨[(0, .v (.pointer t)), (1, .v (.int .i64 n)), (5, .v (.int .i64 sum)), (10, .v (.int .i64 t10)), (11, .v (.int .i64 t11)), (20, .v (.agg t20.toArray)), (21, .v (.int .i64 t21))], []⟩ h Q
def desc_Tables_Count.wp (t : Option Addr) (n : Int) (h : Heap) (Q : Value → Heap → Prop) : Prop :=
  C Try.prog 32 #[Value.pointer t] h fun (r : Value) (h' : Heap) => ∃ (x : Int), r = Value.int IntKind.i64 x ∧ desc_Tables_Count.L3 t n 0 x 0 h' Q
def desc_Tables_Count.L3.wp (t : Option Addr) (n : Int) (sum : Int) (t10 : Int) (t11 : Int) (h : Heap) (Q : Value → Heap → Prop) : Prop :=
  xsIf (decide (t11 < t10))
    (atBase t fun (b o : Nat) =>
      ∃ (x : Option Addr),
        ∃ (n_1 : Nat),
          ∃ (m : Nat),
            h.cell b (o + 0) = some (Value.slice x n_1 m) ∧
              (0 ≤ t11 ∧ t11 < (↑n_1 : Int)) ∧ atBase x fun (b o : Nat) => ∃ (cs : List Value), cs.length = 16 ∧ (∀ (j : Nat), j < cs.length → h.cell b (o + t11.toNat * 16 + j) = lget cs j) ∧ desc_Tables_Count.L6 t n sum t10 t11 cs 0 h Q)
    (Q (Value.int IntKind.i64 sum) h)
def desc_Tables_Count.L6.wp (t : Option Addr) (n : Int) (sum : Int) (t10 : Int) (t11 : Int) (t20 : List Value) (t21 : Int) (h : Heap) (Q : Value → Heap → Prop) : Prop :=
  xsIf (decide (t21 < 16))
    ((0 ≤ t21 ∧ t21 < (↑16 : Int)) ∧
      ∃ (x : Option Addr),
        lget t20 (t21.toNat * 1) = some (Value.pointer x) ∧
          xsIf (!x.isNone)
            (atBase x fun (b o : Nat) =>
              ∃ (x : Int),
                h.cell b (o + 0) = some (Value.int IntKind.i64 x) ∧
                  xsIf (decide (x = n)) (desc_Tables_Count.L6 t n (IntKind.i64.wrap (sum + 1)) t10 t11 t20 (IntKind.i64.wrap (t21 + 1)) h Q) (desc_Tables_Count.L6 t n sum t10 t11 t20 (IntKind.i64.wrap (t21 + 1)) h Q))
            (desc_Tables_Count.L6 t n sum t10 t11 t20 (IntKind.i64.wrap (t21 + 1)) h Q))
    (desc_Tables_Count.L3 t n sum t10 (IntKind.i64.wrap (t11 + 1)) h Q)
theorem desc_Tables_Count.ok {t : Option Addr} {n : Int} {h : Heap} {Q : Value → Heap → Prop} (hk : desc_Tables_Count.wp t n h Q) : C Try.prog 31 #[.pointer t, .int .i64 n] h Q :=
  C_of_xs (H := desc_Tables_Count.H) (lcuts := desc_Tables_Count.lc) (rcuts := desc_Tables_Count.rc) (l := [.pointer t, .int .i64 n]) 2000 mixed Try.func31 rfl (by kernel_rfl) (Eq.mp (by kernel_rfl) hk)
theorem desc_Tables_Count.L3.ok {t : Option Addr} {n : Int} {sum : Int} {t10 : Int} {t11 : Int} {h : Heap} {Q : Value → Heap → Prop} (hk : desc_Tables_Count.L3.wp t n sum t10 t11 h Q) : desc_Tables_Count.L3 t n sum t10 t11 h Q :=
  xs_ok (H := desc_Tables_Count.H) (lcuts := desc_Tables_Count.lc) (rcuts := desc_Tables_Count.rc) (fn := Try.f31) mixed Try.func31 2000 _ _ _ (Eq.mp (by kernel_rfl) hk)
theorem desc_Tables_Count.L6.ok {t : Option Addr} {n : Int} {sum : Int} {t10 : Int} {t11 : Int} {t20 : List Value} {t21 : Int} {h : Heap} {Q : Value → Heap → Prop} (hk : desc_Tables_Count.L6.wp t n sum t10 t11 t20 t21 h Q) : desc_Tables_Count.L6 t n sum t10 t11 t20 t21 h Q :=
  xs_ok (H := desc_Tables_Count.H) (lcuts := desc_Tables_Count.lc) (rcuts := desc_Tables_Count.rc) (fn := Try.f31) mixed Try.func31 2000 _ _ _ (Eq.mp (by kernel_rfl) hk)

/-! gabion/gabionlaw23.wakes -/
def gabionlaw23_wakes.H : Hn := ⟨[], [], []⟩
def gabionlaw23_wakes.lc : List Cut := []
def gabionlaw23_wakes.rc : List Cut := []
def gabionlaw23_wakes.wp  (h : Heap) (Q : Value → Heap → Prop) : Prop :=
  C Try.prog 19 #[Value.int IntKind.i64 2] h fun (r : Value) (h' : Heap) =>
    ∃ (x : Option Addr),
      ∃ (x_1 : Int),
        r = Value.tuple #[Value.pointer x, Value.int IntKind.i64 x_1] ∧
          C Try.prog 22 #[Value.pointer x, Value.int IntKind.i64 1, Value.int IntKind.i64 9, Value.int IntKind.i64 1] h' fun (r : Value) (h' : Heap) =>
            ∃ (x_2 : Int),
              ∃ (x_3 : Int),
                r = Value.tuple #[Value.int IntKind.i64 x_2, Value.int IntKind.i64 x_3] ∧
                  C Try.prog 22 #[Value.pointer x, Value.int IntKind.i64 1, Value.int IntKind.i64 9, Value.int IntKind.i64 3] h' fun (r : Value) (h' : Heap) =>
                    ∃ (x_4 : Int),
                      ∃ (x_5 : Int),
                        r = Value.tuple #[Value.int IntKind.i64 x_4, Value.int IntKind.i64 x_5] ∧
                          C Try.prog 21 #[Value.pointer x, Value.int IntKind.i64 1, Value.int IntKind.i64 0] h' fun (r : Value) (h' : Heap) =>
                            ∃ (x_6 : Int),
                              ∃ (x_7 : Int),
                                r = Value.tuple #[Value.int IntKind.i64 x_6, Value.int IntKind.i64 x_7] ∧
                                  C Try.prog 22 #[Value.pointer x, Value.int IntKind.i64 1, Value.int IntKind.i64 8, Value.int IntKind.i64 2] h' fun (r : Value) (h' : Heap) =>
                                    ∃ (x_8 : Int),
                                      ∃ (x_9 : Int),
                                        r = Value.tuple #[Value.int IntKind.i64 x_8, Value.int IntKind.i64 x_9] ∧
                                          xsIf (decide (x_1 = 0))
                                            (xsIf (decide (x_3 = 0))
                                              (xsIf (decide (x_5 = 0))
                                                (xsIf (decide (x_7 = 0))
                                                  (xsIf (decide (x_9 = 0))
                                                    (xsIf (decide (x_2 = 0))
                                                      (xsIf (decide (x_4 = 1))
                                                        (xsIf (decide (x_6 = 9))
                                                          (xsIf (decide (x_8 = 0))
                                                            (C Try.prog 31 #[Value.pointer x, Value.int IntKind.i64 9] h' fun (r : Value) (h' : Heap) =>
                                                              ∃ (x : Int), r = Value.int IntKind.i64 x ∧ Q (Value.bool (decide (x = 1))) h')
                                                            (Q (Value.bool false) h'))
                                                          (Q (Value.bool false) h'))
                                                        (Q (Value.bool false) h'))
                                                      (Q (Value.bool false) h'))
                                                    (Q (Value.bool false) h'))
                                                  (Q (Value.bool false) h'))
                                                (Q (Value.bool false) h'))
                                              (Q (Value.bool false) h'))
                                            (Q (Value.bool false) h')
theorem gabionlaw23_wakes.ok {h : Heap} {Q : Value → Heap → Prop} (hk : gabionlaw23_wakes.wp h Q) : C Try.prog 20 #[] h Q :=
  C_of_xs (H := gabionlaw23_wakes.H) (lcuts := gabionlaw23_wakes.lc) (rcuts := gabionlaw23_wakes.rc) (l := []) 2000 mixed Try.func20 rfl (by kernel_rfl) (Eq.mp (by kernel_rfl) hk)

/-! gabion/gabionlaw23.DescLeast -/
def gabionlaw23_DescLeast.H : Hn := ⟨[], [5], []⟩
def gabionlaw23_DescLeast.lc : List Cut := [⟨6, [3, 5, 32, 33, 34], [5]⟩, ⟨15, [3, 5, 11, 32, 33, 34], [5]⟩]
def gabionlaw23_DescLeast.rc : List Cut := [⟨4, [0, 3], []⟩, ⟨16, [3, 5, 11, 32, 33, 34], [5]⟩, ⟨17, [3, 5, 11, 32, 33, 34], [5]⟩]
def gabionlaw23_DescLeast.J4 (l : Option Addr) (l_n : Nat) (l_c : Nat) (t : Option Addr) (h : Heap) (Q : Value → Heap → Prop) : Prop :=
  TW Try.prog 7 87 [.code (cAt (bodyOf Try.f7) [1, 1, 1, 0]), .code (cAt (bodyOf Try.f7) [1, 1, 1, 1])] ⟨[(0, .v (.slice l l_n l_c)), (3, .v (.pointer t))], []⟩ h Q
def gabionlaw23_DescLeast.L6 (t : Option Addr) (t32 : Option Addr) (t32_n : Nat) (t32_c : Nat) (t33 : Int) (t34 : Int) (had : List Value) (h : Heap) (Q : Value → Heap → Prop) : Prop :=
  TW Try.prog 7 87 [.code (cAt (bodyOf Try.f7) [1, 1, 1, 1, 0, 1, 0, 0]), .inLoop (cAt (bodyOf Try.f7) [1, 1, 1, 1, 0, 1, 0, 0]), .inBlock 0, .code (cAt (bodyOf Try.f7) [1, 1, 1, 1, 1])] ⟨[(3, .v (.pointer t)), (5, .p 5 0), (32, .v (.slice t32 t32_n t32_c)), (33, .v (.int .i64 t33)), (34, .v (.int .i64 t34))], [(5, had)]⟩ h Q
def gabionlaw23_DescLeast.L15 (t : Option Addr) (want : Int) (t32 : Option Addr) (t32_n : Nat) (t32_c : Nat) (t33 : Int) (t34 : Int) (had : List Value) (h : Heap) (Q : Value → Heap → Prop) : Prop :=
  TW Try.prog 7 87 [.code (cAt (bodyOf Try.f7) [1, 1, 1, 1, 0, 1, 0, 0, 1, 1, 0, 0, 1, 1, 1, 0, 0, 0]), .inLoop (cAt (bodyOf Try.f7) [1, 1, 1, 1, 0, 1, 0, 0, 1, 1, 0, 0, 1, 1, 1, 0, 0, 0]), .inBlock 2, .code (cAt (bodyOf Try.f7) [1, 1, 1, 1, 0, 1, 0, 0, 1, 1, 0, 0, 1, 1, 1, 1]), .inBlock 1, .code (cAt (bodyOf Try.f7) [1, 1, 1, 1, 0, 1, 0, 0, 1, 1, 1]), .inLoop (cAt (bodyOf Try.f7) [1, 1, 1, 1, 0, 1, 0, 0]), .inBlock 0, .code (cAt (bodyOf Try.f7) [1, 1, 1, 1, 1])] ⟨[(3, .v (.pointer t)), (5, .p 5 0), (11, .v (.int .i64 want)), (32, .v (.slice t32 t32_n t32_c)), (33, .v (.int .i64 t33)), (34, .v (.int .i64 t34))], [(5, had)]⟩ h Q
def gabionlaw23_DescLeast.J16 (t : Option Addr) (want : Int) (t32 : Option Addr) (t32_n : Nat) (t32_c : Nat) (t33 : Int) (t34 : Int) (had : List Value) (h : Heap) (Q : Value → Heap → Prop) : Prop :=
  TW Try.prog 7 87 [.code (cAt (bodyOf Try.f7) [1, 1, 1, 1, 0, 1, 0, 0, 1, 1, 0, 0, 1, 1, 1, 0, 0, 0, 1, 0]), .inBlock 3, .inLoop (cAt (bodyOf Try.f7) [1, 1, 1, 1, 0, 1, 0, 0, 1, 1, 0, 0, 1, 1, 1, 0, 0, 0]), .inBlock 2, .code (cAt (bodyOf Try.f7) [1, 1, 1, 1, 0, 1, 0, 0, 1, 1, 0, 0, 1, 1, 1, 1]), .inBlock 1, .code (cAt (bodyOf Try.f7) [1, 1, 1, 1, 0, 1, 0, 0, 1, 1, 1]), .inLoop (cAt (bodyOf Try.f7) [1, 1, 1, 1, 0, 1, 0, 0]), .inBlock 0, .code (cAt (bodyOf Try.f7) [1, 1, 1, 1, 1])] ⟨[(3, .v (.pointer t)), (5, .p 5 0), (11, .v (.int .i64 want)), (32, .v (.slice t32 t32_n t32_c)), (33, .v (.int .i64 t33)), (34, .v (.int .i64 t34))], [(5, had)]⟩ h Q
def gabionlaw23_DescLeast.J17 (t : Option Addr) (want : Int) (t32 : Option Addr) (t32_n : Nat) (t32_c : Nat) (t33 : Int) (t34 : Int) (had : List Value) (h : Heap) (Q : Value → Heap → Prop) : Prop :=
  TW Try.prog 7 87 [.code (cAt (bodyOf Try.f7) [1, 1, 1, 1, 0, 1, 0, 0, 1, 1, 0, 0, 1, 1, 1, 1, 0]), .code (cAt (bodyOf Try.f7) [1, 1, 1, 1, 0, 1, 0, 0, 1, 1, 0, 0, 1, 1, 1, 1, 1]), .inBlock 1, .code (cAt (bodyOf Try.f7) [1, 1, 1, 1, 0, 1, 0, 0, 1, 1, 1]), .inLoop (cAt (bodyOf Try.f7) [1, 1, 1, 1, 0, 1, 0, 0]), .inBlock 0, .code (cAt (bodyOf Try.f7) [1, 1, 1, 1, 1])] ⟨[(3, .v (.pointer t)), (5, .p 5 0), (11, .v (.int .i64 want)), (32, .v (.slice t32 t32_n t32_c)), (33, .v (.int .i64 t33)), (34, .v (.int .i64 t34))], [(5, had)]⟩ h Q
def gabionlaw23_DescLeast.wp (l : Option Addr) (l_n : Nat) (l_c : Nat) (h : Heap) (Q : Value → Heap → Prop) : Prop :=
  C Try.prog 19 #[Value.int IntKind.i64 1] h fun (r : Value) (h' : Heap) =>
    ∃ (x : Option Addr),
      ∃ (x_1 : Int),
        r = Value.tuple #[Value.pointer x, Value.int IntKind.i64 x_1] ∧
          C Try.prog 20 #[] h' fun (r : Value) (h' : Heap) =>
            ∃ (x_2 : Bool), r = Value.bool x_2 ∧ xsIf (!x_2) (Q (Value.bool false) h') (xsIf (decide (x_1 ≠ 0)) (Q (Value.bool false) h') (xsIf x.isNone (Q (Value.bool false) h') (gabionlaw23_DescLeast.J4 l l_n l_c x h' Q)))
def gabionlaw23_DescLeast.J4.wp (l : Option Addr) (l_n : Nat) (l_c : Nat) (t : Option Addr) (h : Heap) (Q : Value → Heap → Prop) : Prop :=
  (0 ≤ imin (↑l_n : Int) 60 ∧ imin (↑l_n : Int) 60 ≤ (↑l_c : Int)) ∧
    gabionlaw23_DescLeast.L6 t (slBase l (↑l_c : Int) 0 1) (imin (↑l_n : Int) 60 - 0).toNat ((↑l_c : Int) - 0).toNat (↑(imin (↑l_n : Int) 60 - 0).toNat : Int) 0
      [Value.bool false, Value.bool false, Value.bool false, Value.bool false, Value.bool false, Value.bool false, Value.bool false, Value.bool false, Value.bool false, Value.bool false, Value.bool false, Value.bool false, Value.bool false,
        Value.bool false, Value.bool false, Value.bool false]
      h Q
def gabionlaw23_DescLeast.L6.wp (t : Option Addr) (t32 : Option Addr) (t32_n : Nat) (t32_c : Nat) (t33 : Int) (t34 : Int) (had : List Value) (h : Heap) (Q : Value → Heap → Prop) : Prop :=
  xsIf (decide (t34 < t33))
    ((0 ≤ t34 ∧ t34 < (↑t32_n : Int)) ∧
      atBase t32 fun (b o : Nat) =>
        ∃ (x : Int),
          h.cell b (o + t34.toNat * 1) = some (Value.int IntKind.u8 x) ∧
            xsIf (decide (irem x 3 = 0))
              (C Try.prog 21 #[Value.pointer t, Value.int IntKind.i64 0, Value.int IntKind.i64 (irem (IntKind.i64.wrap (iquo IntKind.u8 x 3)) 16)] h fun (r : Value) (h' : Heap) =>
                ∃ (x_1 : Int),
                  ∃ (x_2 : Int),
                    r = Value.tuple #[Value.int IntKind.i64 x_1, Value.int IntKind.i64 x_2] ∧
                      (0 ≤ irem (IntKind.i64.wrap (iquo IntKind.u8 x 3)) 16 ∧ irem (IntKind.i64.wrap (iquo IntKind.u8 x 3)) 16 < (↑16 : Int)) ∧
                        ∃ (x_3 : Bool),
                          lget had (0 + (irem (IntKind.i64.wrap (iquo IntKind.u8 x 3)) 16).toNat * 1) = some (Value.bool x_3) ∧
                            xsIf (!x_3 == decide (x_2 = 0)) (Q (Value.bool false) h')
                              ((0 ≤ irem (IntKind.i64.wrap (iquo IntKind.u8 x 3)) 16 ∧ irem (IntKind.i64.wrap (iquo IntKind.u8 x 3)) 16 < (↑16 : Int)) ∧
                                0 + (irem (IntKind.i64.wrap (iquo IntKind.u8 x 3)) 16).toNat * 1 + 1 ≤ had.length ∧
                                  gabionlaw23_DescLeast.L6 t t32 t32_n t32_c t33 (IntKind.i64.wrap (t34 + 1)) (lput had (0 + (irem (IntKind.i64.wrap (iquo IntKind.u8 x 3)) 16).toNat * 1) [Value.bool false]) h' Q))
              (gabionlaw23_DescLeast.L15 t 0 t32 t32_n t32_c t33 t34 had h Q))
    (Q (Value.bool true) h)
def gabionlaw23_DescLeast.L15.wp (t : Option Addr) (want : Int) (t32 : Option Addr) (t32_n : Nat) (t32_c : Nat) (t33 : Int) (t34 : Int) (had : List Value) (h : Heap) (Q : Value → Heap → Prop) : Prop :=
  xsIf (decide (want < 16))
    ((0 ≤ want ∧ want < (↑16 : Int)) ∧
      ∃ (x : Bool), lget had (0 + want.toNat * 1) = some (Value.bool x) ∧ xsIf x (gabionlaw23_DescLeast.J16 t want t32 t32_n t32_c t33 t34 had h Q) (gabionlaw23_DescLeast.J17 t want t32 t32_n t32_c t33 t34 had h Q))
    (gabionlaw23_DescLeast.J17 t want t32 t32_n t32_c t33 t34 had h Q)
def gabionlaw23_DescLeast.J16.wp (t : Option Addr) (want : Int) (t32 : Option Addr) (t32_n : Nat) (t32_c : Nat) (t33 : Int) (t34 : Int) (had : List Value) (h : Heap) (Q : Value → Heap → Prop) : Prop :=
  gabionlaw23_DescLeast.L15 t (IntKind.i64.wrap (want + 1)) t32 t32_n t32_c t33 t34 had h Q
def gabionlaw23_DescLeast.J17.wp (t : Option Addr) (want : Int) (t32 : Option Addr) (t32_n : Nat) (t32_c : Nat) (t33 : Int) (t34 : Int) (had : List Value) (h : Heap) (Q : Value → Heap → Prop) : Prop :=
  C Try.prog 22 #[Value.pointer t, Value.int IntKind.i64 0, Value.int IntKind.i64 1, Value.int IntKind.i64 1] h fun (r : Value) (h' : Heap) =>
    ∃ (x : Int),
      ∃ (x_1 : Int),
        r = Value.tuple #[Value.int IntKind.i64 x, Value.int IntKind.i64 x_1] ∧
          xsIf (decide (want = 16)) (xsIf (decide (x_1 ≠ 7)) (Q (Value.bool false) h') (gabionlaw23_DescLeast.L6 t t32 t32_n t32_c t33 (IntKind.i64.wrap (t34 + 1)) had h' Q))
            (xsIf (decide (x_1 ≠ 0)) (Q (Value.bool false) h')
              (xsIf (decide (x ≠ want)) (Q (Value.bool false) h')
                ((0 ≤ want ∧ want < (↑16 : Int)) ∧ 0 + want.toNat * 1 + 1 ≤ had.length ∧ gabionlaw23_DescLeast.L6 t t32 t32_n t32_c t33 (IntKind.i64.wrap (t34 + 1)) (lput had (0 + want.toNat * 1) [Value.bool true]) h' Q)))
theorem gabionlaw23_DescLeast.ok {l : Option Addr} {l_n : Nat} {l_c : Nat} {h : Heap} {Q : Value → Heap → Prop} (hk : gabionlaw23_DescLeast.wp l l_n l_c h Q) : C Try.prog 7 #[.slice l l_n l_c] h Q :=
  C_of_xs (H := gabionlaw23_DescLeast.H) (lcuts := gabionlaw23_DescLeast.lc) (rcuts := gabionlaw23_DescLeast.rc) (l := [.slice l l_n l_c]) 2000 mixed Try.func7 rfl (by kernel_rfl) (Eq.mp (by kernel_rfl) hk)
theorem gabionlaw23_DescLeast.J4.ok {l : Option Addr} {l_n : Nat} {l_c : Nat} {t : Option Addr} {h : Heap} {Q : Value → Heap → Prop} (hk : gabionlaw23_DescLeast.J4.wp l l_n l_c t h Q) : gabionlaw23_DescLeast.J4 l l_n l_c t h Q :=
  xs_ok (H := gabionlaw23_DescLeast.H) (lcuts := gabionlaw23_DescLeast.lc) (rcuts := [⟨16, [3, 5, 11, 32, 33, 34], [5]⟩, ⟨17, [3, 5, 11, 32, 33, 34], [5]⟩]) (fn := Try.f7) mixed Try.func7 2000 _ _ _ (Eq.mp (by kernel_rfl) hk)
theorem gabionlaw23_DescLeast.L6.ok {t : Option Addr} {t32 : Option Addr} {t32_n : Nat} {t32_c : Nat} {t33 : Int} {t34 : Int} {had : List Value} {h : Heap} {Q : Value → Heap → Prop} (hk : gabionlaw23_DescLeast.L6.wp t t32 t32_n t32_c t33 t34 had h Q) : gabionlaw23_DescLeast.L6 t t32 t32_n t32_c t33 t34 had h Q :=
  xs_ok (H := gabionlaw23_DescLeast.H) (lcuts := gabionlaw23_DescLeast.lc) (rcuts := gabionlaw23_DescLeast.rc) (fn := Try.f7) mixed Try.func7 2000 _ _ _ (Eq.mp (by kernel_rfl) hk)
theorem gabionlaw23_DescLeast.L15.ok {t : Option Addr} {want : Int} {t32 : Option Addr} {t32_n : Nat} {t32_c : Nat} {t33 : Int} {t34 : Int} {had : List Value} {h : Heap} {Q : Value → Heap → Prop} (hk : gabionlaw23_DescLeast.L15.wp t want t32 t32_n t32_c t33 t34 had h Q) : gabionlaw23_DescLeast.L15 t want t32 t32_n t32_c t33 t34 had h Q :=
  xs_ok (H := gabionlaw23_DescLeast.H) (lcuts := gabionlaw23_DescLeast.lc) (rcuts := gabionlaw23_DescLeast.rc) (fn := Try.f7) mixed Try.func7 2000 _ _ _ (Eq.mp (by kernel_rfl) hk)
theorem gabionlaw23_DescLeast.J16.ok {t : Option Addr} {want : Int} {t32 : Option Addr} {t32_n : Nat} {t32_c : Nat} {t33 : Int} {t34 : Int} {had : List Value} {h : Heap} {Q : Value → Heap → Prop} (hk : gabionlaw23_DescLeast.J16.wp t want t32 t32_n t32_c t33 t34 had h Q) : gabionlaw23_DescLeast.J16 t want t32 t32_n t32_c t33 t34 had h Q :=
  xs_ok (H := gabionlaw23_DescLeast.H) (lcuts := gabionlaw23_DescLeast.lc) (rcuts := [⟨4, [0, 3], []⟩, ⟨17, [3, 5, 11, 32, 33, 34], [5]⟩]) (fn := Try.f7) mixed Try.func7 2000 _ _ _ (Eq.mp (by kernel_rfl) hk)
theorem gabionlaw23_DescLeast.J17.ok {t : Option Addr} {want : Int} {t32 : Option Addr} {t32_n : Nat} {t32_c : Nat} {t33 : Int} {t34 : Int} {had : List Value} {h : Heap} {Q : Value → Heap → Prop} (hk : gabionlaw23_DescLeast.J17.wp t want t32 t32_n t32_c t33 t34 had h Q) : gabionlaw23_DescLeast.J17 t want t32 t32_n t32_c t33 t34 had h Q :=
  xs_ok (H := gabionlaw23_DescLeast.H) (lcuts := gabionlaw23_DescLeast.lc) (rcuts := [⟨4, [0, 3], []⟩, ⟨16, [3, 5, 11, 32, 33, 34], [5]⟩]) (fn := Try.f7) mixed Try.func7 2000 _ _ _ (Eq.mp (by kernel_rfl) hk)

/-! (*gabion/desc.Tables).Get -/
def desc_Tables_Get.H : Hn := ⟨[], [], []⟩
def desc_Tables_Get.lc : List Cut := []
def desc_Tables_Get.rc : List Cut := []
def desc_Tables_Get.wp (t : Option Addr) (client : Int) (fd : Int) (h : Heap) (Q : Value → Heap → Prop) : Prop :=
  C Try.prog 40 #[Value.pointer t, Value.int IntKind.i64 client, Value.int IntKind.i64 fd] h fun (r : Value) (h' : Heap) =>
    ∃ (x : Option Addr),
      ∃ (x_1 : Int),
        r = Value.tuple #[Value.pointer x, Value.int IntKind.i64 x_1] ∧
          xsIf (decide (x_1 ≠ 0)) (Q (Value.tuple #[Value.agg #[Value.int IntKind.i64 0, Value.int IntKind.i64 0, Value.int IntKind.i64 0], Value.int IntKind.i64 x_1]) h')
            (atBase x fun (b o : Nat) =>
              ∃ (x : Int),
                h'.cell b o = some (Value.int IntKind.i64 x) ∧
                  ∃ (x_2 : Int),
                    h'.cell b (o + 1) = some (Value.int IntKind.i64 x_2) ∧
                      ∃ (x_3 : Int),
                        h'.cell b (o + 1 + 1) = some (Value.int IntKind.i64 x_3) ∧
                          Q (Value.tuple #[Value.agg #[Value.int IntKind.i64 x, Value.int IntKind.i64 x_2, Value.int IntKind.i64 x_3], Value.int IntKind.i64 0]) h')
theorem desc_Tables_Get.ok {t : Option Addr} {client : Int} {fd : Int} {h : Heap} {Q : Value → Heap → Prop} (hk : desc_Tables_Get.wp t client fd h Q) : C Try.prog 23 #[.pointer t, .int .i64 client, .int .i64 fd] h Q :=
  C_of_xs (H := desc_Tables_Get.H) (lcuts := desc_Tables_Get.lc) (rcuts := desc_Tables_Get.rc) (l := [.pointer t, .int .i64 client, .int .i64 fd]) 2000 mixed Try.func23 rfl (by kernel_rfl) (Eq.mp (by kernel_rfl) hk)

/-! (*gabion/desc.Tables).List -/
def desc_Tables_List.H : Hn := ⟨[], [], []⟩
def desc_Tables_List.lc : List Cut := [⟨5, [5, 19, 20], []⟩]
def desc_Tables_List.rc : List Cut := []
def desc_Tables_List.L5 (out : Option Addr) (out_n : Nat) (out_c : Nat) (t19 : List Value) (t20 : Int) (h : Heap) (Q : Value → Heap → Prop) : Prop :=
  TW Try.prog 24 32 [.code (cAt (bodyOf Try.f24) [1, 1, 1, 0, 1, 0, 0]), .inLoop (cAt (bodyOf Try.f24) [1, 1, 1, 0, 1, 0, 0]), .inBlock 0, .code (cAt (bodyOf Try.f24) [1, 1, 1, 1])] ⟨[(5, .v (.slice out out_n out_c)), (19, .v (.agg t19.toArray)), (20, .v (.int .i64 t20))], []⟩ h Q
def desc_Tables_List.wp (t : Option Addr) (client : Int) (h : Heap) (Q : Value → Heap → Prop) : Prop :=
  C Try.prog 41 #[Value.pointer t, Value.int IntKind.i64 client] h fun (r : Value) (h' : Heap) =>
    ∃ (x : Int),
      r = Value.int IntKind.i64 x ∧
        xsIf (decide (x ≠ 0)) (Q (Value.slice none 0 0) h')
          (atBase t fun (b o : Nat) =>
            ∃ (x : Option Addr),
              ∃ (n : Nat),
                ∃ (m : Nat),
                  h'.cell b (o + 0) = some (Value.slice x n m) ∧
                    (0 ≤ client ∧ client < (↑n : Int)) ∧
                      atBase x fun (b o : Nat) => ∃ (cs : List Value), cs.length = 16 ∧ (∀ (j : Nat), j < cs.length → h'.cell b (o + client.toNat * 16 + j) = lget cs j) ∧ desc_Tables_List.L5 none 0 0 cs 0 h' Q)
def desc_Tables_List.L5.wp (out : Option Addr) (out_n : Nat) (out_c : Nat) (t19 : List Value) (t20 : Int) (h : Heap) (Q : Value → Heap → Prop) : Prop :=
  xsIf (decide (t20 < 16))
    ((0 ≤ t20 ∧ t20 < (↑16 : Int)) ∧
      ∃ (x : Option Addr),
        lget t19 (t20.toNat * 1) = some (Value.pointer x) ∧
          xsIf (!x.isNone)
            (∀ (b : Nat),
              h b = none →
                xsApp Try.prog 3 (upd h b (Obj.cells #[Value.int IntKind.i64 t20] 3 (0, 0))) out out_n out_c (some { block := b, off := 0 }) 1 fun (a' : Option Addr) (n' c' : Nat) (h' : Heap) =>
                  desc_Tables_List.L5 a' n' c' t19 (IntKind.i64.wrap (t20 + 1)) h' Q)
            (desc_Tables_List.L5 out out_n out_c t19 (IntKind.i64.wrap (t20 + 1)) h Q))
    (Q (Value.slice out out_n out_c) h)
theorem desc_Tables_List.ok {t : Option Addr} {client : Int} {h : Heap} {Q : Value → Heap → Prop} (hk : desc_Tables_List.wp t client h Q) : C Try.prog 24 #[.pointer t, .int .i64 client] h Q :=
  C_of_xs (H := desc_Tables_List.H) (lcuts := desc_Tables_List.lc) (rcuts := desc_Tables_List.rc) (l := [.pointer t, .int .i64 client]) 2000 mixed Try.func24 rfl (by kernel_rfl) (Eq.mp (by kernel_rfl) hk)
theorem desc_Tables_List.L5.ok {out : Option Addr} {out_n : Nat} {out_c : Nat} {t19 : List Value} {t20 : Int} {h : Heap} {Q : Value → Heap → Prop} (hk : desc_Tables_List.L5.wp out out_n out_c t19 t20 h Q) : desc_Tables_List.L5 out out_n out_c t19 t20 h Q :=
  xs_ok (H := desc_Tables_List.H) (lcuts := desc_Tables_List.lc) (rcuts := desc_Tables_List.rc) (fn := Try.f24) mixed Try.func24 2000 _ _ _ (Eq.mp (by kernel_rfl) hk)

/-! gabion/gabionlaw23.DescApart -/
def gabionlaw23_DescApart.H : Hn := ⟨[], [], []⟩
def gabionlaw23_DescApart.lc : List Cut := [⟨6, [1, 5, 7, 36, 37], []⟩, ⟨16, [5, 12, 78, 79, 80], []⟩]
def gabionlaw23_DescApart.rc : List Cut := [⟨4, [0, 1, 5], []⟩, ⟨13, [1, 5, 7], []⟩, ⟨22, [5, 12], []⟩]
def gabionlaw23_DescApart.J4 (n : Int) (closed : Option Addr) (closed_n : Nat) (closed_c : Nat) (t : Option Addr) (h : Heap) (Q : Value → Heap → Prop) : Prop :=
  TW Try.prog 8 122 [.code (cAt (bodyOf Try.f8) [1, 1, 1, 0]), .code (cAt (bodyOf Try.f8) [1, 1, 1, 1])] ⟨[(0, .v (.int .u8 n)), (1, .v (.slice closed closed_n closed_c)), (5, .v (.pointer t))], []⟩ h Q
def gabionlaw23_DescApart.L6 (closed : Option Addr) (closed_n : Nat) (closed_c : Nat) (t : Option Addr) (k0 : Int) (t36 : Int) (t37 : Int) (h : Heap) (Q : Value → Heap → Prop) : Prop :=
  TW Try.prog 8 122 [.code (cAt (bodyOf Try.f8) [1, 1, 1, 1, 0, 1, 0, 0]), .inLoop (cAt (bodyOf Try.f8) [1, 1, 1, 1, 0, 1, 0, 0]), .inBlock 0, .code (cAt (bodyOf Try.f8) [1, 1, 1, 1, 1])] ⟨[(1, .v (.slice closed closed_n closed_c)), (5, .v (.pointer t)), (7, .v (.int .i64 k0)), (36, .v (.int .i64 t36)), (37, .v (.int .i64 t37))], []⟩ h Q
def gabionlaw23_DescApart.J13 (closed : Option Addr) (closed_n : Nat) (closed_c : Nat) (t : Option Addr) (k0 : Int) (h : Heap) (Q : Value → Heap → Prop) : Prop :=
  TW Try.prog 8 122 [.code (cAt (bodyOf Try.f8) [1, 1, 1, 1, 1, 0]), .code (cAt (bodyOf Try.f8) [1, 1, 1, 1, 1, 1])] ⟨[(1, .v (.slice closed closed_n closed_c)), (5, .v (.pointer t)), (7, .v (.int .i64 k0))], []⟩ h Q
def gabionlaw23_DescApart.L16 (t : Option Addr) (left : Int) (t78 : Option Addr) (t78_n : Nat) (t78_c : Nat) (t79 : Int) (t80 : Int) (h : Heap) (Q : Value → Heap → Prop) : Prop :=
  TW Try.prog 8 122 [.code (cAt (bodyOf Try.f8) [1, 1, 1, 1, 1, 1, 1, 0, 1, 0, 0]), .inLoop (cAt (bodyOf Try.f8) [1, 1, 1, 1, 1, 1, 1, 0, 1, 0, 0]), .inBlock 2, .code (cAt (bodyOf Try.f8) [1, 1, 1, 1, 1, 1, 1, 1])] ⟨[(5, .v (.pointer t)), (12, .v (.int .i64 left)), (78, .v (.slice t78 t78_n t78_c)), (79, .v (.int .i64 t79)), (80, .v (.int .i64 t80))], []⟩ h Q
def gabionlaw23_DescApart.J22 (t : Option Addr) (left : Int) (h : Heap) (Q : Value → Heap → Prop) : Prop :=
  TW Try.prog 8 122 [.code (cAt (bodyOf Try.f8) [1, 1, 1, 1, 1, 1, 1, 1, 0]), .code (cAt (bodyOf Try.f8) [1, 1, 1, 1, 1, 1, 1, 1, 1])] ⟨[(5, .v (.pointer t)), (12, .v (.int .i64 left))], []⟩ h Q
def gabionlaw23_DescApart.wp (n : Int) (closed : Option Addr) (closed_n : Nat) (closed_c : Nat) (h : Heap) (Q : Value → Heap → Prop) : Prop :=
  C Try.prog 19 #[Value.int IntKind.i64 2] h fun (r : Value) (h' : Heap) =>
    ∃ (x : Option Addr),
      ∃ (x_1 : Int),
        r = Value.tuple #[Value.pointer x, Value.int IntKind.i64 x_1] ∧
          C Try.prog 20 #[] h' fun (r : Value) (h' : Heap) =>
            ∃ (x_2 : Bool), r = Value.bool x_2 ∧ xsIf (!x_2) (Q (Value.bool false) h') (xsIf (decide (x_1 ≠ 0)) (Q (Value.bool false) h') (xsIf x.isNone (Q (Value.bool false) h') (gabionlaw23_DescApart.J4 n closed closed_n closed_c x h' Q)))
def gabionlaw23_DescApart.J4.wp (n : Int) (closed : Option Addr) (closed_n : Nat) (closed_c : Nat) (t : Option Addr) (h : Heap) (Q : Value → Heap → Prop) : Prop :=
  gabionlaw23_DescApart.L6 closed closed_n closed_c t (IntKind.i64.wrap (irem n 20)) (IntKind.i64.wrap (irem n 20)) 0 h Q
def gabionlaw23_DescApart.L6.wp (closed : Option Addr) (closed_n : Nat) (closed_c : Nat) (t : Option Addr) (k0 : Int) (t36 : Int) (t37 : Int) (h : Heap) (Q : Value → Heap → Prop) : Prop :=
  xsIf (decide (t37 < t36))
    (C Try.prog 22 #[Value.pointer t, Value.int IntKind.i64 0, Value.int IntKind.i64 (IntKind.i64.wrap (100 + t37)), Value.int IntKind.i64 1] h fun (r : Value) (h' : Heap) =>
      ∃ (x : Int),
        ∃ (x_1 : Int),
          r = Value.tuple #[Value.int IntKind.i64 x, Value.int IntKind.i64 x_1] ∧
            xsIf (!decide (t37 < 16) == decide (x_1 = 0)) (Q (Value.bool false) h')
              (xsIf (decide (t37 < 16))
                (xsIf (decide (x ≠ t37)) (Q (Value.bool false) h')
                  (xsIf (!decide (t37 < 16)) (xsIf (decide (x_1 ≠ 7)) (Q (Value.bool false) h') (gabionlaw23_DescApart.L6 closed closed_n closed_c t k0 t36 (IntKind.i64.wrap (t37 + 1)) h' Q))
                    (gabionlaw23_DescApart.L6 closed closed_n closed_c t k0 t36 (IntKind.i64.wrap (t37 + 1)) h' Q)))
                (xsIf (!decide (t37 < 16)) (xsIf (decide (x_1 ≠ 7)) (Q (Value.bool false) h') (gabionlaw23_DescApart.L6 closed closed_n closed_c t k0 t36 (IntKind.i64.wrap (t37 + 1)) h' Q))
                  (gabionlaw23_DescApart.L6 closed closed_n closed_c t k0 t36 (IntKind.i64.wrap (t37 + 1)) h' Q))))
    (gabionlaw23_DescApart.J13 closed closed_n closed_c t k0 h Q)
def gabionlaw23_DescApart.J13.wp (closed : Option Addr) (closed_n : Nat) (closed_c : Nat) (t : Option Addr) (k0 : Int) (h : Heap) (Q : Value → Heap → Prop) : Prop :=
  C Try.prog 22 #[Value.pointer t, Value.int IntKind.i64 1, Value.int IntKind.i64 100, Value.int IntKind.i64 2] h fun (r : Value) (h' : Heap) =>
    ∃ (x : Int),
      ∃ (x_1 : Int),
        r = Value.tuple #[Value.int IntKind.i64 x, Value.int IntKind.i64 x_1] ∧
          (0 ≤ imin (↑closed_n : Int) 30 ∧ imin (↑closed_n : Int) 30 ≤ (↑closed_c : Int)) ∧
            gabionlaw23_DescApart.L16 t (imin k0 16) (slBase closed (↑closed_c : Int) 0 1) (imin (↑closed_n : Int) 30 - 0).toNat ((↑closed_c : Int) - 0).toNat (↑(imin (↑closed_n : Int) 30 - 0).toNat : Int) 0 h' Q
def gabionlaw23_DescApart.L16.wp (t : Option Addr) (left : Int) (t78 : Option Addr) (t78_n : Nat) (t78_c : Nat) (t79 : Int) (t80 : Int) (h : Heap) (Q : Value → Heap → Prop) : Prop :=
  xsIf (decide (t80 < t79))
    ((0 ≤ t80 ∧ t80 < (↑t78_n : Int)) ∧
      atBase t78 fun (b o : Nat) =>
        ∃ (x : Int),
          h.cell b (o + t80.toNat * 1) = some (Value.int IntKind.u8 x) ∧
            C Try.prog 21 #[Value.pointer t, Value.int IntKind.i64 0, Value.int IntKind.i64 (IntKind.i64.wrap (irem x 20))] h fun (r : Value) (h' : Heap) =>
              ∃ (x : Int),
                ∃ (x_1 : Int),
                  r = Value.tuple #[Value.int IntKind.i64 x, Value.int IntKind.i64 x_1] ∧
                    xsIf (decide (x_1 = 0)) (gabionlaw23_DescApart.L16 t (IntKind.i64.wrap (left - 1)) t78 t78_n t78_c t79 (IntKind.i64.wrap (t80 + 1)) h' Q)
                      (gabionlaw23_DescApart.L16 t left t78 t78_n t78_c t79 (IntKind.i64.wrap (t80 + 1)) h' Q))
    (gabionlaw23_DescApart.J22 t left h Q)
def gabionlaw23_DescApart.J22.wp (t : Option Addr) (left : Int) (h : Heap) (Q : Value → Heap → Prop) : Prop :=
  C Try.prog 23 #[Value.pointer t, Value.int IntKind.i64 1, Value.int IntKind.i64 0] h fun (r : Value) (h' : Heap) =>
    ∃ (x : Int),
      ∃ (x_1 : Int),
        ∃ (x_2 : Int),
          ∃ (x_3 : Int),
            r = Value.tuple #[Value.agg #[Value.int IntKind.i64 x, Value.int IntKind.i64 x_1, Value.int IntKind.i64 x_2], Value.int IntKind.i64 x_3] ∧
              xsIf (decide (x_3 = 0))
                (xsIf (decide (x = 100))
                  (C Try.prog 24 #[Value.pointer t, Value.int IntKind.i64 1] h' fun (r : Value) (h' : Heap) =>
                    ∃ (x : Option Addr),
                      ∃ (n : Nat),
                        ∃ (m : Nat),
                          r = Value.slice x n m ∧
                            xsIf (decide ((↑n : Int) = 1))
                              (C Try.prog 24 #[Value.pointer t, Value.int IntKind.i64 0] h' fun (r : Value) (h' : Heap) =>
                                ∃ (x : Option Addr), ∃ (n : Nat), ∃ (m : Nat), r = Value.slice x n m ∧ Q (Value.bool (decide ((↑n : Int) = left))) h')
                              (Q (Value.bool false) h'))
                  (Q (Value.bool false) h'))
                (Q (Value.bool false) h')
theorem gabionlaw23_DescApart.ok {n : Int} {closed : Option Addr} {closed_n : Nat} {closed_c : Nat} {h : Heap} {Q : Value → Heap → Prop} (hk : gabionlaw23_DescApart.wp n closed closed_n closed_c h Q) : C Try.prog 8 #[.int .u8 n, .slice closed closed_n closed_c] h Q :=
  C_of_xs (H := gabionlaw23_DescApart.H) (lcuts := gabionlaw23_DescApart.lc) (rcuts := gabionlaw23_DescApart.rc) (l := [.int .u8 n, .slice closed closed_n closed_c]) 2000 mixed Try.func8 rfl (by kernel_rfl) (Eq.mp (by kernel_rfl) hk)
theorem gabionlaw23_DescApart.J4.ok {n : Int} {closed : Option Addr} {closed_n : Nat} {closed_c : Nat} {t : Option Addr} {h : Heap} {Q : Value → Heap → Prop} (hk : gabionlaw23_DescApart.J4.wp n closed closed_n closed_c t h Q) : gabionlaw23_DescApart.J4 n closed closed_n closed_c t h Q :=
  xs_ok (H := gabionlaw23_DescApart.H) (lcuts := gabionlaw23_DescApart.lc) (rcuts := [⟨13, [1, 5, 7], []⟩, ⟨22, [5, 12], []⟩]) (fn := Try.f8) mixed Try.func8 2000 _ _ _ (Eq.mp (by kernel_rfl) hk)
theorem gabionlaw23_DescApart.L6.ok {closed : Option Addr} {closed_n : Nat} {closed_c : Nat} {t : Option Addr} {k0 : Int} {t36 : Int} {t37 : Int} {h : Heap} {Q : Value → Heap → Prop} (hk : gabionlaw23_DescApart.L6.wp closed closed_n closed_c t k0 t36 t37 h Q) : gabionlaw23_DescApart.L6 closed closed_n closed_c t k0 t36 t37 h Q :=
  xs_ok (H := gabionlaw23_DescApart.H) (lcuts := gabionlaw23_DescApart.lc) (rcuts := gabionlaw23_DescApart.rc) (fn := Try.f8) mixed Try.func8 2000 _ _ _ (Eq.mp (by kernel_rfl) hk)
theorem gabionlaw23_DescApart.J13.ok {closed : Option Addr} {closed_n : Nat} {closed_c : Nat} {t : Option Addr} {k0 : Int} {h : Heap} {Q : Value → Heap → Prop} (hk : gabionlaw23_DescApart.J13.wp closed closed_n closed_c t k0 h Q) : gabionlaw23_DescApart.J13 closed closed_n closed_c t k0 h Q :=
  xs_ok (H := gabionlaw23_DescApart.H) (lcuts := gabionlaw23_DescApart.lc) (rcuts := [⟨4, [0, 1, 5], []⟩, ⟨22, [5, 12], []⟩]) (fn := Try.f8) mixed Try.func8 2000 _ _ _ (Eq.mp (by kernel_rfl) hk)
theorem gabionlaw23_DescApart.L16.ok {t : Option Addr} {left : Int} {t78 : Option Addr} {t78_n : Nat} {t78_c : Nat} {t79 : Int} {t80 : Int} {h : Heap} {Q : Value → Heap → Prop} (hk : gabionlaw23_DescApart.L16.wp t left t78 t78_n t78_c t79 t80 h Q) : gabionlaw23_DescApart.L16 t left t78 t78_n t78_c t79 t80 h Q :=
  xs_ok (H := gabionlaw23_DescApart.H) (lcuts := gabionlaw23_DescApart.lc) (rcuts := gabionlaw23_DescApart.rc) (fn := Try.f8) mixed Try.func8 2000 _ _ _ (Eq.mp (by kernel_rfl) hk)
theorem gabionlaw23_DescApart.J22.ok {t : Option Addr} {left : Int} {h : Heap} {Q : Value → Heap → Prop} (hk : gabionlaw23_DescApart.J22.wp t left h Q) : gabionlaw23_DescApart.J22 t left h Q :=
  xs_ok (H := gabionlaw23_DescApart.H) (lcuts := gabionlaw23_DescApart.lc) (rcuts := [⟨4, [0, 1, 5], []⟩, ⟨13, [1, 5, 7], []⟩]) (fn := Try.f8) mixed Try.func8 2000 _ _ _ (Eq.mp (by kernel_rfl) hk)

/-! gabion/gabionref23.Find -/
def gabionref23_Find.H : Hn := ⟨[], [], []⟩
def gabionref23_Find.lc : List Cut := [⟨4, [0, 1, 2, 8], []⟩]
def gabionref23_Find.rc : List Cut := [⟨3, [0, 1, 2], []⟩]
def gabionref23_Find.J3 (t : Option Addr) (client : Int) (fd : Int) (h : Heap) (Q : Value → Heap → Prop) : Prop :=
  TW Try.prog 26 51 [.code (cAt (bodyOf Try.f26) [1, 1, 0, 0]), .code (cAt (bodyOf Try.f26) [1, 1, 0, 1]), .code (cAt (bodyOf Try.f26) [1, 1, 1])] ⟨[(0, .v (.pointer t)), (1, .v (.int .i64 client)), (2, .v (.int .i64 fd))], []⟩ h Q
def gabionref23_Find.L4 (t : Option Addr) (client : Int) (fd : Int) (i : Int) (h : Heap) (Q : Value → Heap → Prop) : Prop :=
  TW Try.prog 26 51 [.code (cAt (bodyOf Try.f26) [1, 1, 0, 1, 0, 0]), .inLoop (cAt (bodyOf Try.f26) [1, 1, 0, 1, 0, 0]), .inBlock 0, .code (cAt (bodyOf Try.f26) [1, 1, 1])] ⟨[(0, .v (.pointer t)), (1, .v (.int .i64 client)), (2, .v (.int .i64 fd)), (8, .v (.int .i64 i))], []⟩ h Q
def gabionref23_Find.wp (t : Option Addr) (client : Int) (fd : Int) (h : Heap) (Q : Value → Heap → Prop) : Prop :=
  xsIf (decide (client < 0)) (Q (Value.tuple #[Value.int IntKind.i64 0, Value.int IntKind.i64 2]) h)
    (atBase t fun (b o : Nat) =>
      ∃ (x : Int), h.cell b (o + 0) = some (Value.int IntKind.i64 x) ∧ xsIf (decide (x ≤ client)) (Q (Value.tuple #[Value.int IntKind.i64 0, Value.int IntKind.i64 2]) h) (gabionref23_Find.J3 t client fd h Q))
def gabionref23_Find.J3.wp (t : Option Addr) (client : Int) (fd : Int) (h : Heap) (Q : Value → Heap → Prop) : Prop :=
  gabionref23_Find.L4 t client fd 0 h Q
def gabionref23_Find.L4.wp (t : Option Addr) (client : Int) (fd : Int) (i : Int) (h : Heap) (Q : Value → Heap → Prop) : Prop :=
  atBase t fun (b o : Nat) =>
    ∃ (x : Option Addr),
      ∃ (n : Nat),
        ∃ (m : Nat),
          h.cell b (o + 1) = some (Value.slice x n m) ∧
            xsIf (decide (i < (↑n : Int)))
              (atBase t fun (b o : Nat) =>
                ∃ (x : Option Addr),
                  ∃ (n : Nat),
                    ∃ (m : Nat),
                      h.cell b (o + 1) = some (Value.slice x n m) ∧
                        (0 ≤ i ∧ i < (↑n : Int)) ∧
                          atBase x fun (b o : Nat) =>
                            ∃ (x : Int),
                              h.cell b (o + i.toNat * 5 + 0) = some (Value.int IntKind.i64 x) ∧
                                xsIf (decide (x = client))
                                  (atBase t fun (b o : Nat) =>
                                    ∃ (x : Option Addr),
                                      ∃ (n : Nat),
                                        ∃ (m : Nat),
                                          h.cell b (o + 1) = some (Value.slice x n m) ∧
                                            (0 ≤ i ∧ i < (↑n : Int)) ∧
                                              atBase x fun (b o : Nat) =>
                                                ∃ (x : Int),
                                                  h.cell b (o + i.toNat * 5 + 1) = some (Value.int IntKind.i64 x) ∧
                                                    xsIf (decide (x = fd)) (Q (Value.tuple #[Value.int IntKind.i64 i, Value.int IntKind.i64 0]) h) (gabionref23_Find.L4 t client fd (IntKind.i64.wrap (i + 1)) h Q))
                                  (gabionref23_Find.L4 t client fd (IntKind.i64.wrap (i + 1)) h Q))
              (Q (Value.tuple #[Value.int IntKind.i64 0, Value.int IntKind.i64 19]) h)
theorem gabionref23_Find.ok {t : Option Addr} {client : Int} {fd : Int} {h : Heap} {Q : Value → Heap → Prop} (hk : gabionref23_Find.wp t client fd h Q) : C Try.prog 26 #[.pointer t, .int .i64 client, .int .i64 fd] h Q :=
  C_of_xs (H := gabionref23_Find.H) (lcuts := gabionref23_Find.lc) (rcuts := gabionref23_Find.rc) (l := [.pointer t, .int .i64 client, .int .i64 fd]) 2000 mixed Try.func26 rfl (by kernel_rfl) (Eq.mp (by kernel_rfl) hk)
theorem gabionref23_Find.J3.ok {t : Option Addr} {client : Int} {fd : Int} {h : Heap} {Q : Value → Heap → Prop} (hk : gabionref23_Find.J3.wp t client fd h Q) : gabionref23_Find.J3 t client fd h Q :=
  xs_ok (H := gabionref23_Find.H) (lcuts := gabionref23_Find.lc) (rcuts := []) (fn := Try.f26) mixed Try.func26 2000 _ _ _ (Eq.mp (by kernel_rfl) hk)
theorem gabionref23_Find.L4.ok {t : Option Addr} {client : Int} {fd : Int} {i : Int} {h : Heap} {Q : Value → Heap → Prop} (hk : gabionref23_Find.L4.wp t client fd i h Q) : gabionref23_Find.L4 t client fd i h Q :=
  xs_ok (H := gabionref23_Find.H) (lcuts := gabionref23_Find.lc) (rcuts := gabionref23_Find.rc) (fn := Try.f26) mixed Try.func26 2000 _ _ _ (Eq.mp (by kernel_rfl) hk)

/-! gabion/gabionref23.Add -/
def gabionref23_Add.H : Hn := ⟨[], [], []⟩
def gabionref23_Add.lc : List Cut := [⟨4, [0, 1, 2, 3, 10], []⟩]
def gabionref23_Add.rc : List Cut := [⟨3, [0, 1, 2, 3], []⟩]
def gabionref23_Add.J3 (t : Option Addr) (client : Int) (n : Int) (flags : Int) (h : Heap) (Q : Value → Heap → Prop) : Prop :=
  TW Try.prog 25 59 [.code (cAt (bodyOf Try.f25) [1, 1, 0, 0]), .code (cAt (bodyOf Try.f25) [1, 1, 0, 1]), .code (cAt (bodyOf Try.f25) [1, 1, 1])] ⟨[(0, .v (.pointer t)), (1, .v (.int .i64 client)), (2, .v (.int .i64 n)), (3, .v (.int .i64 flags))], []⟩ h Q
def gabionref23_Add.L4 (t : Option Addr) (client : Int) (n : Int) (flags : Int) (fd : Int) (h : Heap) (Q : Value → Heap → Prop) : Prop :=
  TW Try.prog 25 59 [.code (cAt (bodyOf Try.f25) [1, 1, 0, 1, 0, 0]), .inLoop (cAt (bodyOf Try.f25) [1, 1, 0, 1, 0, 0]), .inBlock 0, .code (cAt (bodyOf Try.f25) [1, 1, 1])] ⟨[(0, .v (.pointer t)), (1, .v (.int .i64 client)), (2, .v (.int .i64 n)), (3, .v (.int .i64 flags)), (10, .v (.int .i64 fd))], []⟩ h Q
def gabionref23_Add.wp (t : Option Addr) (client : Int) (n : Int) (flags : Int) (h : Heap) (Q : Value → Heap → Prop) : Prop :=
  xsIf (decide (client < 0)) (Q (Value.tuple #[Value.int IntKind.i64 0, Value.int IntKind.i64 2]) h)
    (atBase t fun (b o : Nat) =>
      ∃ (x : Int),
        h.cell b (o + 0) = some (Value.int IntKind.i64 x) ∧
          xsIf (decide (x ≤ client)) (Q (Value.tuple #[Value.int IntKind.i64 0, Value.int IntKind.i64 2]) h)
            (xsIf (decide (flags < 1)) (Q (Value.tuple #[Value.int IntKind.i64 0, Value.int IntKind.i64 2]) h)
              (xsIf (decide (7 < flags)) (Q (Value.tuple #[Value.int IntKind.i64 0, Value.int IntKind.i64 2]) h) (gabionref23_Add.J3 t client n flags h Q))))
def gabionref23_Add.J3.wp (t : Option Addr) (client : Int) (n : Int) (flags : Int) (h : Heap) (Q : Value → Heap → Prop) : Prop :=
  gabionref23_Add.L4 t client n flags 0 h Q
def gabionref23_Add.L4.wp (t : Option Addr) (client : Int) (n : Int) (flags : Int) (fd : Int) (h : Heap) (Q : Value → Heap → Prop) : Prop :=
  xsIf (decide (fd < 16))
    (C Try.prog 26 #[Value.pointer t, Value.int IntKind.i64 client, Value.int IntKind.i64 fd] h fun (r : Value) (h' : Heap) =>
      ∃ (x : Int),
        ∃ (x_1 : Int),
          r = Value.tuple #[Value.int IntKind.i64 x, Value.int IntKind.i64 x_1] ∧
            xsIf (decide (x_1 ≠ 0))
              (atBase t fun (b o : Nat) =>
                ∃ (x : Option Addr),
                  ∃ (n_1 : Nat),
                    ∃ (m : Nat),
                      h'.cell b (o + 1) = some (Value.slice x n_1 m) ∧
                        ∀ (b : Nat),
                          h' b = none →
                            xsApp Try.prog 66 (upd h' b (Obj.cells #[Value.int IntKind.i64 client, Value.int IntKind.i64 fd, Value.int IntKind.i64 n, Value.int IntKind.i64 flags, Value.int IntKind.i64 0] 66 (0, 0))) x n_1 m
                              (some { block := b, off := 0 }) 1 fun (a' : Option Addr) (n' c' : Nat) (h' : Heap) =>
                              atBase t fun (b o : Nat) => h'.can b (o + 1) 1 ∧ Q (Value.tuple #[Value.int IntKind.i64 fd, Value.int IntKind.i64 0]) (h'.put b (o + 1) [Value.slice a' n' c']))
              (gabionref23_Add.L4 t client n flags (IntKind.i64.wrap (fd + 1)) h' Q))
    (Q (Value.tuple #[Value.int IntKind.i64 0, Value.int IntKind.i64 7]) h)
theorem gabionref23_Add.ok {t : Option Addr} {client : Int} {n : Int} {flags : Int} {h : Heap} {Q : Value → Heap → Prop} (hk : gabionref23_Add.wp t client n flags h Q) : C Try.prog 25 #[.pointer t, .int .i64 client, .int .i64 n, .int .i64 flags] h Q :=
  C_of_xs (H := gabionref23_Add.H) (lcuts := gabionref23_Add.lc) (rcuts := gabionref23_Add.rc) (l := [.pointer t, .int .i64 client, .int .i64 n, .int .i64 flags]) 2000 mixed Try.func25 rfl (by kernel_rfl) (Eq.mp (by kernel_rfl) hk)
theorem gabionref23_Add.J3.ok {t : Option Addr} {client : Int} {n : Int} {flags : Int} {h : Heap} {Q : Value → Heap → Prop} (hk : gabionref23_Add.J3.wp t client n flags h Q) : gabionref23_Add.J3 t client n flags h Q :=
  xs_ok (H := gabionref23_Add.H) (lcuts := gabionref23_Add.lc) (rcuts := []) (fn := Try.f25) mixed Try.func25 2000 _ _ _ (Eq.mp (by kernel_rfl) hk)
theorem gabionref23_Add.L4.ok {t : Option Addr} {client : Int} {n : Int} {flags : Int} {fd : Int} {h : Heap} {Q : Value → Heap → Prop} (hk : gabionref23_Add.L4.wp t client n flags fd h Q) : gabionref23_Add.L4 t client n flags fd h Q :=
  xs_ok (H := gabionref23_Add.H) (lcuts := gabionref23_Add.lc) (rcuts := gabionref23_Add.rc) (fn := Try.f25) mixed Try.func25 2000 _ _ _ (Eq.mp (by kernel_rfl) hk)

/-! (*gabion/desc.Tables).Seek -/
def desc_Tables_Seek.H : Hn := ⟨[], [], []⟩
def desc_Tables_Seek.lc : List Cut := []
def desc_Tables_Seek.rc : List Cut := []
def desc_Tables_Seek.wp (t : Option Addr) (client : Int) (fd : Int) (at0 : Int) (h : Heap) (Q : Value → Heap → Prop) : Prop :=
  C Try.prog 40 #[Value.pointer t, Value.int IntKind.i64 client, Value.int IntKind.i64 fd] h fun (r : Value) (h' : Heap) =>
    ∃ (x : Option Addr),
      ∃ (x_1 : Int),
        r = Value.tuple #[Value.pointer x, Value.int IntKind.i64 x_1] ∧
          xsIf (decide (x_1 ≠ 0)) (Q (Value.int IntKind.i64 x_1) h')
            (xsIf (decide (at0 < 0)) (Q (Value.int IntKind.i64 23) h') (atBase x fun (b o : Nat) => h'.can b (o + 2) 1 ∧ Q (Value.int IntKind.i64 0) (h'.put b (o + 2) [Value.int IntKind.i64 at0])))
theorem desc_Tables_Seek.ok {t : Option Addr} {client : Int} {fd : Int} {at0 : Int} {h : Heap} {Q : Value → Heap → Prop} (hk : desc_Tables_Seek.wp t client fd at0 h Q) : C Try.prog 27 #[.pointer t, .int .i64 client, .int .i64 fd, .int .i64 at0] h Q :=
  C_of_xs (H := desc_Tables_Seek.H) (lcuts := desc_Tables_Seek.lc) (rcuts := desc_Tables_Seek.rc) (l := [.pointer t, .int .i64 client, .int .i64 fd, .int .i64 at0]) 2000 mixed Try.func27 rfl (by kernel_rfl) (Eq.mp (by kernel_rfl) hk)

/-! gabion/gabionref23.Seek -/
def gabionref23_Seek.H : Hn := ⟨[], [], []⟩
def gabionref23_Seek.lc : List Cut := []
def gabionref23_Seek.rc : List Cut := []
def gabionref23_Seek.wp (t : Option Addr) (client : Int) (fd : Int) (at0 : Int) (h : Heap) (Q : Value → Heap → Prop) : Prop :=
  C Try.prog 26 #[Value.pointer t, Value.int IntKind.i64 client, Value.int IntKind.i64 fd] h fun (r : Value) (h' : Heap) =>
    ∃ (x : Int),
      ∃ (x_1 : Int),
        r = Value.tuple #[Value.int IntKind.i64 x, Value.int IntKind.i64 x_1] ∧
          xsIf (decide (x_1 ≠ 0)) (Q (Value.int IntKind.i64 x_1) h')
            (xsIf (decide (at0 < 0)) (Q (Value.int IntKind.i64 23) h')
              (atBase t fun (b o : Nat) =>
                ∃ (x_2 : Option Addr),
                  ∃ (n : Nat),
                    ∃ (m : Nat),
                      h'.cell b (o + 1) = some (Value.slice x_2 n m) ∧
                        (0 ≤ x ∧ x < (↑n : Int)) ∧ atBase x_2 fun (b o : Nat) => h'.can b (o + x.toNat * 5 + 4) 1 ∧ Q (Value.int IntKind.i64 0) (h'.put b (o + x.toNat * 5 + 4) [Value.int IntKind.i64 at0])))
theorem gabionref23_Seek.ok {t : Option Addr} {client : Int} {fd : Int} {at0 : Int} {h : Heap} {Q : Value → Heap → Prop} (hk : gabionref23_Seek.wp t client fd at0 h Q) : C Try.prog 28 #[.pointer t, .int .i64 client, .int .i64 fd, .int .i64 at0] h Q :=
  C_of_xs (H := gabionref23_Seek.H) (lcuts := gabionref23_Seek.lc) (rcuts := gabionref23_Seek.rc) (l := [.pointer t, .int .i64 client, .int .i64 fd, .int .i64 at0]) 2000 mixed Try.func28 rfl (by kernel_rfl) (Eq.mp (by kernel_rfl) hk)

/-! gabion/gabionref23.Close -/
def gabionref23_Close.H : Hn := ⟨[], [], []⟩
def gabionref23_Close.lc : List Cut := [⟨7, [0, 8, 10, 11, 12], []⟩]
def gabionref23_Close.rc : List Cut := []
def gabionref23_Close.L7 (t : Option Addr) (k0 : Int) (n : Int) (out : Option Addr) (out_n : Nat) (out_c : Nat) (i : Int) (h : Heap) (Q : Value → Heap → Prop) : Prop :=
  TW Try.prog 29 58 [.code (cAt (bodyOf Try.f29) [1, 1, 1, 1, 1, 0, 1, 0, 0]), .inLoop (cAt (bodyOf Try.f29) [1, 1, 1, 1, 1, 0, 1, 0, 0]), .inBlock 0, .code (cAt (bodyOf Try.f29) [1, 1, 1, 1, 1, 1])] ⟨[(0, .v (.pointer t)), (8, .v (.int .i64 k0)), (10, .v (.int .i64 n)), (11, .v (.slice out out_n out_c)), (12, .v (.int .i64 i))], []⟩ h Q
def gabionref23_Close.wp (t : Option Addr) (client : Int) (fd : Int) (h : Heap) (Q : Value → Heap → Prop) : Prop :=
  C Try.prog 26 #[Value.pointer t, Value.int IntKind.i64 client, Value.int IntKind.i64 fd] h fun (r : Value) (h' : Heap) =>
    ∃ (x : Int),
      ∃ (x_1 : Int),
        r = Value.tuple #[Value.int IntKind.i64 x, Value.int IntKind.i64 x_1] ∧
          xsIf (decide (x_1 ≠ 0)) (Q (Value.tuple #[Value.int IntKind.i64 0, Value.int IntKind.i64 x_1]) h')
            (atBase t fun (b o : Nat) =>
              ∃ (x_2 : Option Addr),
                ∃ (n : Nat),
                  ∃ (m : Nat),
                    h'.cell b (o + 1) = some (Value.slice x_2 n m) ∧
                      (0 ≤ x ∧ x < (↑n : Int)) ∧ atBase x_2 fun (b o : Nat) => ∃ (x_3 : Int), h'.cell b (o + x.toNat * 5 + 2) = some (Value.int IntKind.i64 x_3) ∧ gabionref23_Close.L7 t x x_3 none 0 0 0 h' Q)
def gabionref23_Close.L7.wp (t : Option Addr) (k0 : Int) (n : Int) (out : Option Addr) (out_n : Nat) (out_c : Nat) (i : Int) (h : Heap) (Q : Value → Heap → Prop) : Prop :=
  atBase t fun (b o : Nat) =>
    ∃ (x : Option Addr),
      ∃ (n_1 : Nat),
        ∃ (m : Nat),
          h.cell b (o + 1) = some (Value.slice x n_1 m) ∧
            xsIf (decide (i < (↑n_1 : Int)))
              (xsIf (decide (i ≠ k0))
                (atBase t fun (b o : Nat) =>
                  ∃ (x : Option Addr),
                    ∃ (n_2 : Nat),
                      ∃ (m : Nat),
                        h.cell b (o + 1) = some (Value.slice x n_2 m) ∧
                          (0 ≤ i ∧ i < (↑n_2 : Int)) ∧
                            atBase x fun (b o : Nat) =>
                              ∃ (x : Int),
                                h.cell b (o + i.toNat * 5) = some (Value.int IntKind.i64 x) ∧
                                  ∃ (x_1 : Int),
                                    h.cell b (o + i.toNat * 5 + 1) = some (Value.int IntKind.i64 x_1) ∧
                                      ∃ (x_2 : Int),
                                        h.cell b (o + i.toNat * 5 + 1 + 1) = some (Value.int IntKind.i64 x_2) ∧
                                          ∃ (x_3 : Int),
                                            h.cell b (o + i.toNat * 5 + 1 + 1 + 1) = some (Value.int IntKind.i64 x_3) ∧
                                              ∃ (x_4 : Int),
                                                h.cell b (o + i.toNat * 5 + 1 + 1 + 1 + 1) = some (Value.int IntKind.i64 x_4) ∧
                                                  ∀ (b : Nat),
                                                    h b = none →
                                                      xsApp Try.prog 66
                                                        (upd h b (Obj.cells #[Value.int IntKind.i64 x, Value.int IntKind.i64 x_1, Value.int IntKind.i64 x_2, Value.int IntKind.i64 x_3, Value.int IntKind.i64 x_4] 66 (0, 0))) out
                                                        out_n out_c (some { block := b, off := 0 }) 1 fun (a' : Option Addr) (n' c' : Nat) (h' : Heap) => gabionref23_Close.L7 t k0 n a' n' c' (IntKind.i64.wrap (i + 1)) h' Q)
                (gabionref23_Close.L7 t k0 n out out_n out_c (IntKind.i64.wrap (i + 1)) h Q))
              (atBase t fun (b o : Nat) => h.can b (o + 1) 1 ∧ Q (Value.tuple #[Value.int IntKind.i64 n, Value.int IntKind.i64 0]) (h.put b (o + 1) [Value.slice out out_n out_c]))
theorem gabionref23_Close.ok {t : Option Addr} {client : Int} {fd : Int} {h : Heap} {Q : Value → Heap → Prop} (hk : gabionref23_Close.wp t client fd h Q) : C Try.prog 29 #[.pointer t, .int .i64 client, .int .i64 fd] h Q :=
  C_of_xs (H := gabionref23_Close.H) (lcuts := gabionref23_Close.lc) (rcuts := gabionref23_Close.rc) (l := [.pointer t, .int .i64 client, .int .i64 fd]) 2000 mixed Try.func29 rfl (by kernel_rfl) (Eq.mp (by kernel_rfl) hk)
theorem gabionref23_Close.L7.ok {t : Option Addr} {k0 : Int} {n : Int} {out : Option Addr} {out_n : Nat} {out_c : Nat} {i : Int} {h : Heap} {Q : Value → Heap → Prop} (hk : gabionref23_Close.L7.wp t k0 n out out_n out_c i h Q) : gabionref23_Close.L7 t k0 n out out_n out_c i h Q :=
  xs_ok (H := gabionref23_Close.H) (lcuts := gabionref23_Close.lc) (rcuts := gabionref23_Close.rc) (fn := Try.f29) mixed Try.func29 2000 _ _ _ (Eq.mp (by kernel_rfl) hk)

/-! gabion/gabionlaw23.same -/
def gabionlaw23_same.H : Hn := ⟨[], [], [⟨1, .q 0 (.q 2 (.q 3 (.q 4 (.br 1 (.q 5 (.q 6 (.nil))) (.one 5 (.q 1 (.q 6 (.nil)))))))), []⟩]⟩
def gabionlaw23_same.lc : List Cut := [⟨5, [0, 1, 5, 25, 26], []⟩, ⟨10, [0, 1, 5, 6, 7, 25, 26, 36, 37, 38], []⟩]
def gabionlaw23_same.rc : List Cut := [⟨16, [0, 1, 5, 6, 7, 10, 12, 25, 26, 36, 37, 38], [10]⟩, ⟨21, [0, 1, 5], []⟩]
def gabionlaw23_same.L5 (t : Option Addr) (m : Option Addr) (sum : Int) (t25 : Int) (t26 : Int) (h : Heap) (Q : Value → Heap → Prop) : Prop :=
  TW Try.prog 30 117 [.code (cAt (bodyOf Try.f30) [1, 1, 1, 0, 1, 0, 0]), .inLoop (cAt (bodyOf Try.f30) [1, 1, 1, 0, 1, 0, 0]), .inBlock 0, .code (cAt (bodyOf Try.f30) [1, 1, 1, 1])] ⟨[(0, .v (.pointer t)), (1, .v (.pointer m)), (5, .v (.int .i64 sum)), (25, .v (.int .i64 t25)), (26, .v (.int .i64 t26))], []⟩ h Q
def gabionlaw23_same.L10 (t : Option Addr) (m : Option Addr) (sum : Int) (c : Int) (l : Option Addr) (l_n : Nat) (l_c : Nat) (t25 : Int) (t26 : Int) (t36 : Option Addr) (t36_n : Nat) (t36_c : Nat) (t37 : Int) (t38 : Int) (h : Heap) (Q : Value → Heap → Prop) : Prop :=
  TW Try.prog 30 117 [.code (cAt (bodyOf Try.f30) [1, 1, 1, 0, 1, 0, 0, 1, 1, 0, 0, 1, 1, 1, 1, 0, 0]), .inLoop (cAt (bodyOf Try.f30) [1, 1, 1, 0, 1, 0, 0, 1, 1, 0, 0, 1, 1, 1, 1, 0, 0]), .inBlock 2, .inBlock 1, .code (cAt (bodyOf Try.f30) [1, 1, 1, 0, 1, 0, 0, 1, 1, 1]), .inLoop (cAt (bodyOf Try.f30) [1, 1, 1, 0, 1, 0, 0]), .inBlock 0, .code (cAt (bodyOf Try.f30) [1, 1, 1, 1])] ⟨[(0, .v (.pointer t)), (1, .v (.pointer m)), (5, .v (.int .i64 sum)), (6, .v (.int .i64 c)), (7, .v (.slice l l_n l_c)), (25, .v (.int .i64 t25)), (26, .v (.int .i64 t26)), (36, .v (.slice t36 t36_n t36_c)), (37, .v (.int .i64 t37)), (38, .v (.int .i64 t38))], []⟩ h Q
def gabionlaw23_same.J16 (t : Option Addr) (m : Option Addr) (sum : Int) (c : Int) (l : Option Addr) (l_n : Nat) (l_c : Nat) (k0 : Int) (t25 : Int) (t26 : Int) (t36 : Option Addr) (t36_n : Nat) (t36_c : Nat) (t37 : Int) (t38 : Int) (x_0 : Int) (x_1 : Int) (x_2 : Int) (h : Heap) (Q : Value → Heap → Prop) : Prop :=
  TW Try.prog 30 117 [.code (cAt (bodyOf Try.f30) [1, 1, 1, 0, 1, 0, 0, 1, 1, 0, 0, 1, 1, 1, 1, 0, 0, 1, 1, 0, 0, 1, 1, 1, 1, 0]), .code (cAt (bodyOf Try.f30) [1, 1, 1, 0, 1, 0, 0, 1, 1, 0, 0, 1, 1, 1, 1, 0, 0, 1, 1, 0, 0, 1, 1, 1, 1, 1]), .inBlock 3, .code (cAt (bodyOf Try.f30) [1, 1, 1, 0, 1, 0, 0, 1, 1, 0, 0, 1, 1, 1, 1, 0, 0, 1, 1, 1]), .inLoop (cAt (bodyOf Try.f30) [1, 1, 1, 0, 1, 0, 0, 1, 1, 0, 0, 1, 1, 1, 1, 0, 0]), .inBlock 2, .inBlock 1, .code (cAt (bodyOf Try.f30) [1, 1, 1, 0, 1, 0, 0, 1, 1, 1]), .inLoop (cAt (bodyOf Try.f30) [1, 1, 1, 0, 1, 0, 0]), .inBlock 0, .code (cAt (bodyOf Try.f30) [1, 1, 1, 1])] ⟨[(0, .v (.pointer t)), (1, .v (.pointer m)), (5, .v (.int .i64 sum)), (6, .v (.int .i64 c)), (7, .v (.slice l l_n l_c)), (10, .p 10 0), (12, .v (.int .i64 k0)), (25, .v (.int .i64 t25)), (26, .v (.int .i64 t26)), (36, .v (.slice t36 t36_n t36_c)), (37, .v (.int .i64 t37)), (38, .v (.int .i64 t38))], [(10, [.int .i64 x_0, .int .i64 x_1, .int .i64 x_2])]⟩ h Q
def gabionlaw23_same.J21 (t : Option Addr) (m : Option Addr) (sum : Int) (h : Heap) (Q : Value → Heap → Prop) : Prop :=
  TW Try.prog 30 117 [.code (cAt (bodyOf Try.f30) [1, 1, 1, 1, 0]), .code (cAt (bodyOf Try.f30) [1, 1, 1, 1, 1])] ⟨[(0, .v (.pointer t)), (1, .v (.pointer m)), (5, .v (.int .i64 sum))], []⟩ h Q
def gabionlaw23_same.wp (t : Option Addr) (m : Option Addr) (h : Heap) (Q : Value → Heap → Prop) : Prop :=
  atBase m fun (b o : Nat) =>
    (C Try.prog 32 #[Value.pointer t] h fun (r : Value) (h' : Heap) =>
        ∃ (x : Int),
          r = Value.int IntKind.i64 x ∧
            ∃ (x_1 : Int),
              h'.cell b (o + 0) = some (Value.int IntKind.i64 x_1) ∧
                xsIf (decide (x ≠ x_1)) (Q (Value.bool false) h') (atBase m fun (b o : Nat) => ∃ (x : Int), h'.cell b (o + 0) = some (Value.int IntKind.i64 x) ∧ gabionlaw23_same.L5 t m 0 x 0 h' Q)) ∧
      ∃ (x : Int),
        h.cell b (o + 0) = some (Value.int IntKind.i64 x) ∧
          C Try.prog 32 #[Value.pointer t] h fun (r : Value) (h' : Heap) =>
            ∃ (x_1 : Int), r = Value.int IntKind.i64 x_1 ∧ xsIf (decide (x_1 ≠ x)) (Q (Value.bool false) h') (atBase m fun (b o : Nat) => ∃ (x : Int), h'.cell b (o + 0) = some (Value.int IntKind.i64 x) ∧ gabionlaw23_same.L5 t m 0 x 0 h' Q)
def gabionlaw23_same.L5.wp (t : Option Addr) (m : Option Addr) (sum : Int) (t25 : Int) (t26 : Int) (h : Heap) (Q : Value → Heap → Prop) : Prop :=
  xsIf (decide (t26 < t25))
    (C Try.prog 24 #[Value.pointer t, Value.int IntKind.i64 t26] h fun (r : Value) (h' : Heap) =>
      ∃ (x : Option Addr), ∃ (n : Nat), ∃ (m_1 : Nat), r = Value.slice x n m_1 ∧ gabionlaw23_same.L10 t m (IntKind.i64.wrap (sum + (↑n : Int))) t26 x n m_1 t25 t26 x n m_1 (↑n : Int) 0 h' Q)
    (gabionlaw23_same.J21 t m sum h Q)
def gabionlaw23_same.L10.wp (t : Option Addr) (m : Option Addr) (sum : Int) (c : Int) (l : Option Addr) (l_n : Nat) (l_c : Nat) (t25 : Int) (t26 : Int) (t36 : Option Addr) (t36_n : Nat) (t36_c : Nat) (t37 : Int) (t38 : Int) (h : Heap) (Q : Value → Heap → Prop) : Prop :=
  xsIf (decide (t38 < t37))
    ((0 ≤ t38 ∧ t38 < (↑t36_n : Int)) ∧
      atBase t36 fun (b o : Nat) =>
        ∃ (x : Int),
          h.cell b (o + t38.toNat * 1) = some (Value.int IntKind.i64 x) ∧
            C Try.prog 23 #[Value.pointer t, Value.int IntKind.i64 c, Value.int IntKind.i64 x] h fun (r : Value) (h' : Heap) =>
              ∃ (x_1 : Int),
                ∃ (x_2 : Int),
                  ∃ (x_3 : Int),
                    ∃ (x_4 : Int),
                      r = Value.tuple #[Value.agg #[Value.int IntKind.i64 x_1, Value.int IntKind.i64 x_2, Value.int IntKind.i64 x_3], Value.int IntKind.i64 x_4] ∧
                        C Try.prog 26 #[Value.pointer m, Value.int IntKind.i64 c, Value.int IntKind.i64 x] h' fun (r : Value) (h' : Heap) =>
                          ∃ (x_5 : Int),
                            ∃ (x_6 : Int),
                              r = Value.tuple #[Value.int IntKind.i64 x_5, Value.int IntKind.i64 x_6] ∧
                                xsIf (decide (x_4 ≠ 0)) (Q (Value.bool false) h')
                                  (xsIf (decide (x_6 ≠ 0)) (Q (Value.bool false) h')
                                    (xsIf (decide (0 < t38))
                                      ((0 ≤ IntKind.i64.wrap (t38 - 1) ∧ IntKind.i64.wrap (t38 - 1) < (↑l_n : Int)) ∧
                                        atBase l fun (b o : Nat) =>
                                          ∃ (x_7 : Int),
                                            h'.cell b (o + (IntKind.i64.wrap (t38 - 1)).toNat * 1) = some (Value.int IntKind.i64 x_7) ∧
                                              xsIf (decide (x ≤ x_7)) (Q (Value.bool false) h') (gabionlaw23_same.J16 t m sum c l l_n l_c x_5 t25 t26 t36 t36_n t36_c t37 t38 x_1 x_2 x_3 h' Q))
                                      (gabionlaw23_same.J16 t m sum c l l_n l_c x_5 t25 t26 t36 t36_n t36_c t37 t38 x_1 x_2 x_3 h' Q))))
    (gabionlaw23_same.L5 t m sum t25 (IntKind.i64.wrap (t26 + 1)) h Q)
def gabionlaw23_same.J16.wp (t : Option Addr) (m : Option Addr) (sum : Int) (c : Int) (l : Option Addr) (l_n : Nat) (l_c : Nat) (k0 : Int) (t25 : Int) (t26 : Int) (t36 : Option Addr) (t36_n : Nat) (t36_c : Nat) (t37 : Int) (t38 : Int) (x_0 : Int) (x_1 : Int) (x_2 : Int) (h : Heap) (Q : Value → Heap → Prop) : Prop :=
  atBase m fun (b o : Nat) =>
    ∃ (x : Option Addr),
      ∃ (n : Nat),
        ∃ (m_1 : Nat),
          h.cell b (o + 1) = some (Value.slice x n m_1) ∧
            (0 ≤ k0 ∧ k0 < (↑n : Int)) ∧
              atBase x fun (b o : Nat) =>
                ∃ (x : Int),
                  h.cell b (o + k0.toNat * 5) = some (Value.int IntKind.i64 x) ∧
                    ∃ (x : Int),
                      h.cell b (o + k0.toNat * 5 + 1) = some (Value.int IntKind.i64 x) ∧
                        ∃ (x : Int),
                          h.cell b (o + k0.toNat * 5 + 1 + 1) = some (Value.int IntKind.i64 x) ∧
                            ∃ (x_3 : Int),
                              h.cell b (o + k0.toNat * 5 + 1 + 1 + 1) = some (Value.int IntKind.i64 x_3) ∧
                                ∃ (x_4 : Int),
                                  h.cell b (o + k0.toNat * 5 + 1 + 1 + 1 + 1) = some (Value.int IntKind.i64 x_4) ∧
                                    xsIf (!(decide (x_0 = x) && (decide (x_1 = x_3) && (decide (x_2 = x_4) && true)))) (Q (Value.bool false) h)
                                      (gabionlaw23_same.L10 t m sum c l l_n l_c t25 t26 t36 t36_n t36_c t37 (IntKind.i64.wrap (t38 + 1)) h Q)
def gabionlaw23_same.J21.wp (t : Option Addr) (m : Option Addr) (sum : Int) (h : Heap) (Q : Value → Heap → Prop) : Prop :=
  atBase m fun (b o : Nat) =>
    ∃ (x : Option Addr),
      ∃ (n : Nat),
        ∃ (m_1 : Nat),
          h.cell b (o + 1) = some (Value.slice x n m_1) ∧
            xsIf (decide (sum = (↑n : Int)))
              (C Try.prog 24 #[Value.pointer t, Value.int IntKind.i64 (-1)] h fun (r : Value) (h' : Heap) =>
                ∃ (x : Option Addr),
                  ∃ (n : Nat),
                    ∃ (m_2 : Nat),
                      r = Value.slice x n m_2 ∧
                        xsIf (decide ((↑n : Int) = 0))
                          (atBase m fun (b o : Nat) =>
                            ∃ (x : Int),
                              h'.cell b (o + 0) = some (Value.int IntKind.i64 x) ∧
                                C Try.prog 24 #[Value.pointer t, Value.int IntKind.i64 x] h' fun (r : Value) (h' : Heap) =>
                                  ∃ (x : Option Addr), ∃ (n : Nat), ∃ (m : Nat), r = Value.slice x n m ∧ Q (Value.bool (decide ((↑n : Int) = 0))) h')
                          (Q (Value.bool false) h'))
              (Q (Value.bool false) h)
theorem gabionlaw23_same.ok {t : Option Addr} {m : Option Addr} {h : Heap} {Q : Value → Heap → Prop} (hk : gabionlaw23_same.wp t m h Q) : C Try.prog 30 #[.pointer t, .pointer m] h Q :=
  C_of_xs (H := gabionlaw23_same.H) (lcuts := gabionlaw23_same.lc) (rcuts := gabionlaw23_same.rc) (l := [.pointer t, .pointer m]) 2000 mixed Try.func30 rfl (by kernel_rfl) (Eq.mp (by kernel_rfl) hk)
theorem gabionlaw23_same.L5.ok {t : Option Addr} {m : Option Addr} {sum : Int} {t25 : Int} {t26 : Int} {h : Heap} {Q : Value → Heap → Prop} (hk : gabionlaw23_same.L5.wp t m sum t25 t26 h Q) : gabionlaw23_same.L5 t m sum t25 t26 h Q :=
  xs_ok (H := gabionlaw23_same.H) (lcuts := gabionlaw23_same.lc) (rcuts := gabionlaw23_same.rc) (fn := Try.f30) mixed Try.func30 2000 _ _ _ (Eq.mp (by kernel_rfl) hk)
theorem gabionlaw23_same.L10.ok {t : Option Addr} {m : Option Addr} {sum : Int} {c : Int} {l : Option Addr} {l_n : Nat} {l_c : Nat} {t25 : Int} {t26 : Int} {t36 : Option Addr} {t36_n : Nat} {t36_c : Nat} {t37 : Int} {t38 : Int} {h : Heap} {Q : Value → Heap → Prop} (hk : gabionlaw23_same.L10.wp t m sum c l l_n l_c t25 t26 t36 t36_n t36_c t37 t38 h Q) : gabionlaw23_same.L10 t m sum c l l_n l_c t25 t26 t36 t36_n t36_c t37 t38 h Q :=
  xs_ok (H := gabionlaw23_same.H) (lcuts := gabionlaw23_same.lc) (rcuts := gabionlaw23_same.rc) (fn := Try.f30) mixed Try.func30 2000 _ _ _ (Eq.mp (by kernel_rfl) hk)
theorem gabionlaw23_same.J16.ok {t : Option Addr} {m : Option Addr} {sum : Int} {c : Int} {l : Option Addr} {l_n : Nat} {l_c : Nat} {k0 : Int} {t25 : Int} {t26 : Int} {t36 : Option Addr} {t36_n : Nat} {t36_c : Nat} {t37 : Int} {t38 : Int} {x_0 : Int} {x_1 : Int} {x_2 : Int} {h : Heap} {Q : Value → Heap → Prop} (hk : gabionlaw23_same.J16.wp t m sum c l l_n l_c k0 t25 t26 t36 t36_n t36_c t37 t38 x_0 x_1 x_2 h Q) : gabionlaw23_same.J16 t m sum c l l_n l_c k0 t25 t26 t36 t36_n t36_c t37 t38 x_0 x_1 x_2 h Q :=
  xs_ok (H := gabionlaw23_same.H) (lcuts := gabionlaw23_same.lc) (rcuts := [⟨21, [0, 1, 5], []⟩]) (fn := Try.f30) mixed Try.func30 2000 _ _ _ (Eq.mp (by kernel_rfl) hk)
theorem gabionlaw23_same.J21.ok {t : Option Addr} {m : Option Addr} {sum : Int} {h : Heap} {Q : Value → Heap → Prop} (hk : gabionlaw23_same.J21.wp t m sum h Q) : gabionlaw23_same.J21 t m sum h Q :=
  xs_ok (H := gabionlaw23_same.H) (lcuts := gabionlaw23_same.lc) (rcuts := [⟨16, [0, 1, 5, 6, 7, 10, 12, 25, 26, 36, 37, 38], [10]⟩]) (fn := Try.f30) mixed Try.func30 2000 _ _ _ (Eq.mp (by kernel_rfl) hk)

/-! gabion/gabionlaw23.DescPlays -/
def gabionlaw23_DescPlays.H : Hn := ⟨[37], [], [⟨19, .q 0 (.q 1 (.q 2 (.q 3 (.q 4 (.q 5 (.q 6 (.q 7 (.q 8 (.q 9 (.q 10 (.q 11 (.q 12 (.q 13 (.q 14 (.q 15 (.q 16 (.q 17 (.q 18 (.q 19 (.q 21 (.q 20 (.q 22 (.q 23 (.q 24 (.q 25 (.q 26 (.q 27 (.q 28 (.q 29 (.nil)))))))))))))))))))))))))))))), []⟩, ⟨21, .q 0 (.q 1 (.q 2 (.q 3 (.q 4 (.q 5 (.q 6 (.q 8 (.q 9 (.q 10 (.q 11 (.q 12 (.q 13 (.q 14 (.q 7 (.q 15 (.q 16 (.q 17 (.nil)))))))))))))))))), []⟩]⟩
def gabionlaw23_DescPlays.lc : List Cut := [⟨7, [5, 7, 52, 53, 54], []⟩, ⟨28, [5, 7, 9, 10, 23, 52, 53, 54, 194, 195, 196], [9]⟩]
def gabionlaw23_DescPlays.rc : List Cut := [⟨6, [1, 5, 7], []⟩, ⟨13, [5, 7, 9, 52, 53, 54], [9]⟩, ⟨26, [5, 7, 9, 10, 52, 53, 54], [9]⟩, ⟨32, [5, 7, 9, 10, 23, 52, 53, 54, 194, 195, 196], [9]⟩]
def gabionlaw23_DescPlays.J6 (acts : Option Addr) (acts_n : Nat) (acts_c : Nat) (t : Option Addr) (m : Option Addr) (h : Heap) (Q : Value → Heap → Prop) : Prop :=
  TW Try.prog 9 225 [.code (cAt (bodyOf Try.f9) [1, 1, 1, 1, 1, 0, 0]), .code (cAt (bodyOf Try.f9) [1, 1, 1, 1, 1, 0, 1]), .code (cAt (bodyOf Try.f9) [1, 1, 1, 1, 1, 1])] ⟨[(1, .v (.slice acts acts_n acts_c)), (5, .v (.pointer t)), (7, .v (.pointer m))], []⟩ h Q
def gabionlaw23_DescPlays.L7 (t : Option Addr) (m : Option Addr) (t52 : Option Addr) (t52_n : Nat) (t52_c : Nat) (t53 : Int) (t54 : Int) (h : Heap) (Q : Value → Heap → Prop) : Prop :=
  TW Try.prog 9 225 [.code (cAt (bodyOf Try.f9) [1, 1, 1, 1, 1, 0, 1, 0, 0]), .inLoop (cAt (bodyOf Try.f9) [1, 1, 1, 1, 1, 0, 1, 0, 0]), .inBlock 0, .code (cAt (bodyOf Try.f9) [1, 1, 1, 1, 1, 1])] ⟨[(5, .v (.pointer t)), (7, .v (.pointer m)), (52, .v (.slice t52 t52_n t52_c)), (53, .v (.int .i64 t53)), (54, .v (.int .i64 t54))], []⟩ h Q
def gabionlaw23_DescPlays.J13 (t : Option Addr) (m : Option Addr) (t52 : Option Addr) (t52_n : Nat) (t52_c : Nat) (t53 : Int) (t54 : Int) (a_0 : Int) (a_1 : Int) (a_2 : Int) (a_3 : Int) (h : Heap) (Q : Value → Heap → Prop) : Prop :=
  TW Try.prog 9 225 [.code (cAt (bodyOf Try.f9) [1, 1, 1, 1, 1, 0, 1, 0, 0, 1, 1, 0, 0, 1, 1, 0, 1, 0, 1, 0, 0]), .code (cAt (bodyOf Try.f9) [1, 1, 1, 1, 1, 0, 1, 0, 0, 1, 1, 0, 0, 1, 1, 0, 1, 0, 1, 0, 1]), .inBlock 2, .code (cAt (bodyOf Try.f9) [1, 1, 1, 1, 1, 0, 1, 0, 0, 1, 1, 0, 0, 1, 1, 1]), .inBlock 1, .code (cAt (bodyOf Try.f9) [1, 1, 1, 1, 1, 0, 1, 0, 0, 1, 1, 1]), .inLoop (cAt (bodyOf Try.f9) [1, 1, 1, 1, 1, 0, 1, 0, 0]), .inBlock 0, .code (cAt (bodyOf Try.f9) [1, 1, 1, 1, 1, 1])] ⟨[(5, .v (.pointer t)), (7, .v (.pointer m)), (9, .p 9 0), (52, .v (.slice t52 t52_n t52_c)), (53, .v (.int .i64 t53)), (54, .v (.int .i64 t54))], [(9, [.int .i64 a_0, .int .i64 a_1, .int .i64 a_2, .int .i64 a_3])]⟩ h Q
def gabionlaw23_DescPlays.J26 (t : Option Addr) (m : Option Addr) (ok : Bool) (t52 : Option Addr) (t52_n : Nat) (t52_c : Nat) (t53 : Int) (t54 : Int) (a_0 : Int) (a_1 : Int) (a_2 : Int) (a_3 : Int) (h : Heap) (Q : Value → Heap → Prop) : Prop :=
  TW Try.prog 9 225 [.code (cAt (bodyOf Try.f9) [1, 1, 1, 1, 1, 0, 1, 0, 0, 1, 1, 0, 0, 1, 1, 1, 0]), .code (cAt (bodyOf Try.f9) [1, 1, 1, 1, 1, 0, 1, 0, 0, 1, 1, 0, 0, 1, 1, 1, 1]), .inBlock 1, .code (cAt (bodyOf Try.f9) [1, 1, 1, 1, 1, 0, 1, 0, 0, 1, 1, 1]), .inLoop (cAt (bodyOf Try.f9) [1, 1, 1, 1, 1, 0, 1, 0, 0]), .inBlock 0, .code (cAt (bodyOf Try.f9) [1, 1, 1, 1, 1, 1])] ⟨[(5, .v (.pointer t)), (7, .v (.pointer m)), (9, .p 9 0), (10, .v (.bool ok)), (52, .v (.slice t52 t52_n t52_c)), (53, .v (.int .i64 t53)), (54, .v (.int .i64 t54))], [(9, [.int .i64 a_0, .int .i64 a_1, .int .i64 a_2, .int .i64 a_3])]⟩ h Q
def gabionlaw23_DescPlays.L28 (t : Option Addr) (m : Option Addr) (ok : Bool) (count : Int) (t52 : Option Addr) (t52_n : Nat) (t52_c : Nat) (t53 : Int) (t54 : Int) (t194 : Option Addr) (t194_n : Nat) (t194_c : Nat) (t195 : Int) (t196 : Int) (a_0 : Int) (a_1 : Int) (a_2 : Int) (a_3 : Int) (h : Heap) (Q : Value → Heap → Prop) : Prop :=
  TW Try.prog 9 225 [.code (cAt (bodyOf Try.f9) [1, 1, 1, 1, 1, 0, 1, 0, 0, 1, 1, 0, 0, 1, 1, 1, 1, 0, 1, 0, 0]), .inLoop (cAt (bodyOf Try.f9) [1, 1, 1, 1, 1, 0, 1, 0, 0, 1, 1, 0, 0, 1, 1, 1, 1, 0, 1, 0, 0]), .inBlock 3, .code (cAt (bodyOf Try.f9) [1, 1, 1, 1, 1, 0, 1, 0, 0, 1, 1, 0, 0, 1, 1, 1, 1, 1]), .inBlock 1, .code (cAt (bodyOf Try.f9) [1, 1, 1, 1, 1, 0, 1, 0, 0, 1, 1, 1]), .inLoop (cAt (bodyOf Try.f9) [1, 1, 1, 1, 1, 0, 1, 0, 0]), .inBlock 0, .code (cAt (bodyOf Try.f9) [1, 1, 1, 1, 1, 1])] ⟨[(5, .v (.pointer t)), (7, .v (.pointer m)), (9, .p 9 0), (10, .v (.bool ok)), (23, .v (.int .i64 count)), (52, .v (.slice t52 t52_n t52_c)), (53, .v (.int .i64 t53)), (54, .v (.int .i64 t54)), (194, .v (.slice t194 t194_n t194_c)), (195, .v (.int .i64 t195)), (196, .v (.int .i64 t196))], [(9, [.int .i64 a_0, .int .i64 a_1, .int .i64 a_2, .int .i64 a_3])]⟩ h Q
def gabionlaw23_DescPlays.J32 (t : Option Addr) (m : Option Addr) (ok : Bool) (count : Int) (t52 : Option Addr) (t52_n : Nat) (t52_c : Nat) (t53 : Int) (t54 : Int) (t194 : Option Addr) (t194_n : Nat) (t194_c : Nat) (t195 : Int) (t196 : Int) (a_0 : Int) (a_1 : Int) (a_2 : Int) (a_3 : Int) (h : Heap) (Q : Value → Heap → Prop) : Prop :=
  TW Try.prog 9 225 [.code (cAt (bodyOf Try.f9) [1, 1, 1, 1, 1, 0, 1, 0, 0, 1, 1, 0, 0, 1, 1, 1, 1, 0, 1, 0, 0, 1, 1, 1]), .inLoop (cAt (bodyOf Try.f9) [1, 1, 1, 1, 1, 0, 1, 0, 0, 1, 1, 0, 0, 1, 1, 1, 1, 0, 1, 0, 0]), .inBlock 3, .code (cAt (bodyOf Try.f9) [1, 1, 1, 1, 1, 0, 1, 0, 0, 1, 1, 0, 0, 1, 1, 1, 1, 1]), .inBlock 1, .code (cAt (bodyOf Try.f9) [1, 1, 1, 1, 1, 0, 1, 0, 0, 1, 1, 1]), .inLoop (cAt (bodyOf Try.f9) [1, 1, 1, 1, 1, 0, 1, 0, 0]), .inBlock 0, .code (cAt (bodyOf Try.f9) [1, 1, 1, 1, 1, 1])] ⟨[(5, .v (.pointer t)), (7, .v (.pointer m)), (9, .p 9 0), (10, .v (.bool ok)), (23, .v (.int .i64 count)), (52, .v (.slice t52 t52_n t52_c)), (53, .v (.int .i64 t53)), (54, .v (.int .i64 t54)), (194, .v (.slice t194 t194_n t194_c)), (195, .v (.int .i64 t195)), (196, .v (.int .i64 t196))], [(9, [.int .i64 a_0, .int .i64 a_1, .int .i64 a_2, .int .i64 a_3])]⟩ h Q
def gabionlaw23_DescPlays.wp (clients : Int) (acts : Option Addr) (acts_n : Nat) (acts_c : Nat) (h : Heap) (Q : Value → Heap → Prop) : Prop :=
  C Try.prog 19 #[Value.int IntKind.i64 (IntKind.i64.wrap (1 + irem (imax 0 clients) 8))] h fun (r : Value) (h' : Heap) =>
    ∃ (x : Option Addr),
      ∃ (x_1 : Int),
        r = Value.tuple #[Value.pointer x, Value.int IntKind.i64 x_1] ∧
          ∀ (b : Nat),
            h' b = none →
              C Try.prog 20 #[] (upd h' b (Obj.cells #[Value.int IntKind.i64 (IntKind.i64.wrap (1 + irem (imax 0 clients) 8)), Value.slice none 0 0] 59 (0, 0))) fun (r : Value) (h' : Heap) =>
                ∃ (x_2 : Bool),
                  r = Value.bool x_2 ∧
                    xsIf (!x_2) (Q (Value.bool false) h') (xsIf (decide (x_1 ≠ 0)) (Q (Value.bool false) h') (xsIf x.isNone (Q (Value.bool false) h') (gabionlaw23_DescPlays.J6 acts acts_n acts_c x (some { block := b, off := 0 }) h' Q)))
def gabionlaw23_DescPlays.J6.wp (acts : Option Addr) (acts_n : Nat) (acts_c : Nat) (t : Option Addr) (m : Option Addr) (h : Heap) (Q : Value → Heap → Prop) : Prop :=
  (0 ≤ imin (↑acts_n : Int) 80 ∧ imin (↑acts_n : Int) 80 ≤ (↑acts_c : Int)) ∧
    gabionlaw23_DescPlays.L7 t m (slBase acts (↑acts_c : Int) 0 4) (imin (↑acts_n : Int) 80 - 0).toNat ((↑acts_c : Int) - 0).toNat (↑(imin (↑acts_n : Int) 80 - 0).toNat : Int) 0 h Q
def gabionlaw23_DescPlays.L7.wp (t : Option Addr) (m : Option Addr) (t52 : Option Addr) (t52_n : Nat) (t52_c : Nat) (t53 : Int) (t54 : Int) (h : Heap) (Q : Value → Heap → Prop) : Prop :=
  xsIf (decide (t54 < t53))
    ((0 ≤ t54 ∧ t54 < (↑t52_n : Int)) ∧
      atBase t52 fun (b o : Nat) =>
        ∃ (x : Int),
          h.cell b (o + t54.toNat * 4) = some (Value.int IntKind.i64 x) ∧
            ∃ (x_1 : Int),
              h.cell b (o + t54.toNat * 4 + 1) = some (Value.int IntKind.i64 x_1) ∧
                ∃ (x_2 : Int),
                  h.cell b (o + t54.toNat * 4 + 1 + 1) = some (Value.int IntKind.i64 x_2) ∧
                    ∃ (x_3 : Int),
                      h.cell b (o + t54.toNat * 4 + 1 + 1 + 1) = some (Value.int IntKind.i64 x_3) ∧
                        xsIf (decide (irem (imax 0 x) 5 = 0))
                          (xsIf (decide (irem (imax 0 x) 5 = 0)) (gabionlaw23_DescPlays.J13 t m t52 t52_n t52_c t53 t54 x x_1 x_2 x_3 h Q)
                            (xsIf (decide (irem (imax 0 x) 5 = 2))
                              (C Try.prog 23 #[Value.pointer t, Value.int IntKind.i64 x_1, Value.int IntKind.i64 x_2] h fun (r : Value) (h' : Heap) =>
                                ∃ (x_4 : Int),
                                  ∃ (x_5 : Int),
                                    ∃ (x_6 : Int),
                                      ∃ (x_7 : Int),
                                        r = Value.tuple #[Value.agg #[Value.int IntKind.i64 x_4, Value.int IntKind.i64 x_5, Value.int IntKind.i64 x_6], Value.int IntKind.i64 x_7] ∧
                                          C Try.prog 26 #[Value.pointer m, Value.int IntKind.i64 x_1, Value.int IntKind.i64 x_2] h' fun (r : Value) (h' : Heap) =>
                                            ∃ (x_8 : Int),
                                              ∃ (x_9 : Int),
                                                r = Value.tuple #[Value.int IntKind.i64 x_8, Value.int IntKind.i64 x_9] ∧
                                                  xsIf (decide (x_7 = x_9))
                                                    (xsIf (decide (x_9 ≠ 0))
                                                      (xsIf (decide (x_4 = 0) && (decide (x_5 = 0) && (decide (x_6 = 0) && true))) (gabionlaw23_DescPlays.J26 t m true t52 t52_n t52_c t53 t54 x x_1 x_2 x_3 h' Q)
                                                        (xsIf (decide (x_9 = 0))
                                                          (atBase m fun (b o : Nat) =>
                                                            ∃ (x_10 : Option Addr),
                                                              ∃ (n : Nat),
                                                                ∃ (m_1 : Nat),
                                                                  h'.cell b (o + 1) = some (Value.slice x_10 n m_1) ∧
                                                                    (0 ≤ x_8 ∧ x_8 < (↑n : Int)) ∧
                                                                      atBase x_10 fun (b o : Nat) =>
                                                                        ∃ (x_11 : Int),
                                                                          h'.cell b (o + x_8.toNat * 5 + 2) = some (Value.int IntKind.i64 x_11) ∧ gabionlaw23_DescPlays.J26 t m (decide (x_4 = x_11)) t52 t52_n t52_c t53 t54 x x_1 x_2 x_3 h' Q)
                                                          (gabionlaw23_DescPlays.J26 t m false t52 t52_n t52_c t53 t54 x x_1 x_2 x_3 h' Q)))
                                                      (xsIf (decide (x_9 = 0))
                                                        (atBase m fun (b o : Nat) =>
                                                          ∃ (x_10 : Option Addr),
                                                            ∃ (n : Nat),
                                                              ∃ (m_1 : Nat),
                                                                h'.cell b (o + 1) = some (Value.slice x_10 n m_1) ∧
                                                                  (0 ≤ x_8 ∧ x_8 < (↑n : Int)) ∧
                                                                    atBase x_10 fun (b o : Nat) =>
                                                                      ∃ (x_11 : Int),
                                                                        h'.cell b (o + x_8.toNat * 5 + 2) = some (Value.int IntKind.i64 x_11) ∧ gabionlaw23_DescPlays.J26 t m (decide (x_4 = x_11)) t52 t52_n t52_c t53 t54 x x_1 x_2 x_3 h' Q)
                                                        (gabionlaw23_DescPlays.J26 t m false t52 t52_n t52_c t53 t54 x x_1 x_2 x_3 h' Q)))
                                                    (gabionlaw23_DescPlays.J26 t m false t52 t52_n t52_c t53 t54 x x_1 x_2 x_3 h' Q))
                              (xsIf (decide (irem (imax 0 x) 5 = 3))
                                (C Try.prog 27 #[Value.pointer t, Value.int IntKind.i64 x_1, Value.int IntKind.i64 x_2, Value.int IntKind.i64 x_3] h fun (r : Value) (h' : Heap) =>
                                  ∃ (x_4 : Int),
                                    r = Value.int IntKind.i64 x_4 ∧
                                      C Try.prog 28 #[Value.pointer m, Value.int IntKind.i64 x_1, Value.int IntKind.i64 x_2, Value.int IntKind.i64 x_3] h' fun (r : Value) (h' : Heap) =>
                                        ∃ (x_5 : Int), r = Value.int IntKind.i64 x_5 ∧ gabionlaw23_DescPlays.J26 t m (decide (x_4 = x_5)) t52 t52_n t52_c t53 t54 x x_1 x_2 x_3 h' Q)
                                (xsIf (decide (irem (imax 0 x) 5 = 4))
                                  (C Try.prog 21 #[Value.pointer t, Value.int IntKind.i64 x_1, Value.int IntKind.i64 x_2] h fun (r : Value) (h' : Heap) =>
                                    ∃ (x_4 : Int),
                                      ∃ (x_5 : Int),
                                        r = Value.tuple #[Value.int IntKind.i64 x_4, Value.int IntKind.i64 x_5] ∧
                                          C Try.prog 29 #[Value.pointer m, Value.int IntKind.i64 x_1, Value.int IntKind.i64 x_2] h' fun (r : Value) (h' : Heap) =>
                                            ∃ (x_6 : Int),
                                              ∃ (x_7 : Int),
                                                r = Value.tuple #[Value.int IntKind.i64 x_6, Value.int IntKind.i64 x_7] ∧
                                                  xsIf (decide (x_4 = x_6)) (gabionlaw23_DescPlays.J26 t m (decide (x_5 = x_7)) t52 t52_n t52_c t53 t54 x x_1 x_2 x_3 h' Q)
                                                    (gabionlaw23_DescPlays.J26 t m false t52 t52_n t52_c t53 t54 x x_1 x_2 x_3 h' Q))
                                  (gabionlaw23_DescPlays.J26 t m true t52 t52_n t52_c t53 t54 x x_1 x_2 x_3 h Q)))))
                          (xsIf (decide (irem (imax 0 x) 5 = 1)) (gabionlaw23_DescPlays.J13 t m t52 t52_n t52_c t53 t54 x x_1 x_2 x_3 h Q)
                            (xsIf (decide (irem (imax 0 x) 5 = 2))
                              (C Try.prog 23 #[Value.pointer t, Value.int IntKind.i64 x_1, Value.int IntKind.i64 x_2] h fun (r : Value) (h' : Heap) =>
                                ∃ (x_4 : Int),
                                  ∃ (x_5 : Int),
                                    ∃ (x_6 : Int),
                                      ∃ (x_7 : Int),
                                        r = Value.tuple #[Value.agg #[Value.int IntKind.i64 x_4, Value.int IntKind.i64 x_5, Value.int IntKind.i64 x_6], Value.int IntKind.i64 x_7] ∧
                                          C Try.prog 26 #[Value.pointer m, Value.int IntKind.i64 x_1, Value.int IntKind.i64 x_2] h' fun (r : Value) (h' : Heap) =>
                                            ∃ (x_8 : Int),
                                              ∃ (x_9 : Int),
                                                r = Value.tuple #[Value.int IntKind.i64 x_8, Value.int IntKind.i64 x_9] ∧
                                                  xsIf (decide (x_7 = x_9))
                                                    (xsIf (decide (x_9 ≠ 0))
                                                      (xsIf (decide (x_4 = 0) && (decide (x_5 = 0) && (decide (x_6 = 0) && true))) (gabionlaw23_DescPlays.J26 t m true t52 t52_n t52_c t53 t54 x x_1 x_2 x_3 h' Q)
                                                        (xsIf (decide (x_9 = 0))
                                                          (atBase m fun (b o : Nat) =>
                                                            ∃ (x_10 : Option Addr),
                                                              ∃ (n : Nat),
                                                                ∃ (m_1 : Nat),
                                                                  h'.cell b (o + 1) = some (Value.slice x_10 n m_1) ∧
                                                                    (0 ≤ x_8 ∧ x_8 < (↑n : Int)) ∧
                                                                      atBase x_10 fun (b o : Nat) =>
                                                                        ∃ (x_11 : Int),
                                                                          h'.cell b (o + x_8.toNat * 5 + 2) = some (Value.int IntKind.i64 x_11) ∧ gabionlaw23_DescPlays.J26 t m (decide (x_4 = x_11)) t52 t52_n t52_c t53 t54 x x_1 x_2 x_3 h' Q)
                                                          (gabionlaw23_DescPlays.J26 t m false t52 t52_n t52_c t53 t54 x x_1 x_2 x_3 h' Q)))
                                                      (xsIf (decide (x_9 = 0))
                                                        (atBase m fun (b o : Nat) =>
                                                          ∃ (x_10 : Option Addr),
                                                            ∃ (n : Nat),
                                                              ∃ (m_1 : Nat),
                                                                h'.cell b (o + 1) = some (Value.slice x_10 n m_1) ∧
                                                                  (0 ≤ x_8 ∧ x_8 < (↑n : Int)) ∧
                                                                    atBase x_10 fun (b o : Nat) =>
                                                                      ∃ (x_11 : Int),
                                                                        h'.cell b (o + x_8.toNat * 5 + 2) = some (Value.int IntKind.i64 x_11) ∧ gabionlaw23_DescPlays.J26 t m (decide (x_4 = x_11)) t52 t52_n t52_c t53 t54 x x_1 x_2 x_3 h' Q)
                                                        (gabionlaw23_DescPlays.J26 t m false t52 t52_n t52_c t53 t54 x x_1 x_2 x_3 h' Q)))
                                                    (gabionlaw23_DescPlays.J26 t m false t52 t52_n t52_c t53 t54 x x_1 x_2 x_3 h' Q))
                              (xsIf (decide (irem (imax 0 x) 5 = 3))
                                (C Try.prog 27 #[Value.pointer t, Value.int IntKind.i64 x_1, Value.int IntKind.i64 x_2, Value.int IntKind.i64 x_3] h fun (r : Value) (h' : Heap) =>
                                  ∃ (x_4 : Int),
                                    r = Value.int IntKind.i64 x_4 ∧
                                      C Try.prog 28 #[Value.pointer m, Value.int IntKind.i64 x_1, Value.int IntKind.i64 x_2, Value.int IntKind.i64 x_3] h' fun (r : Value) (h' : Heap) =>
                                        ∃ (x_5 : Int), r = Value.int IntKind.i64 x_5 ∧ gabionlaw23_DescPlays.J26 t m (decide (x_4 = x_5)) t52 t52_n t52_c t53 t54 x x_1 x_2 x_3 h' Q)
                                (xsIf (decide (irem (imax 0 x) 5 = 4))
                                  (C Try.prog 21 #[Value.pointer t, Value.int IntKind.i64 x_1, Value.int IntKind.i64 x_2] h fun (r : Value) (h' : Heap) =>
                                    ∃ (x_4 : Int),
                                      ∃ (x_5 : Int),
                                        r = Value.tuple #[Value.int IntKind.i64 x_4, Value.int IntKind.i64 x_5] ∧
                                          C Try.prog 29 #[Value.pointer m, Value.int IntKind.i64 x_1, Value.int IntKind.i64 x_2] h' fun (r : Value) (h' : Heap) =>
                                            ∃ (x_6 : Int),
                                              ∃ (x_7 : Int),
                                                r = Value.tuple #[Value.int IntKind.i64 x_6, Value.int IntKind.i64 x_7] ∧
                                                  xsIf (decide (x_4 = x_6)) (gabionlaw23_DescPlays.J26 t m (decide (x_5 = x_7)) t52 t52_n t52_c t53 t54 x x_1 x_2 x_3 h' Q)
                                                    (gabionlaw23_DescPlays.J26 t m false t52 t52_n t52_c t53 t54 x x_1 x_2 x_3 h' Q))
                                  (gabionlaw23_DescPlays.J26 t m true t52 t52_n t52_c t53 t54 x x_1 x_2 x_3 h Q))))))
    (Q (Value.bool true) h)
def gabionlaw23_DescPlays.J13.wp (t : Option Addr) (m : Option Addr) (t52 : Option Addr) (t52_n : Nat) (t52_c : Nat) (t53 : Int) (t54 : Int) (a_0 : Int) (a_1 : Int) (a_2 : Int) (a_3 : Int) (h : Heap) (Q : Value → Heap → Prop) : Prop :=
  C Try.prog 22 #[Value.pointer t, Value.int IntKind.i64 a_1, Value.int IntKind.i64 a_2, Value.int IntKind.i64 a_3] h fun (r : Value) (h' : Heap) =>
    ∃ (x : Int),
      ∃ (x_1 : Int),
        r = Value.tuple #[Value.int IntKind.i64 x, Value.int IntKind.i64 x_1] ∧
          C Try.prog 25 #[Value.pointer m, Value.int IntKind.i64 a_1, Value.int IntKind.i64 a_2, Value.int IntKind.i64 a_3] h' fun (r : Value) (h' : Heap) =>
            ∃ (x_2 : Int),
              ∃ (x_3 : Int),
                r = Value.tuple #[Value.int IntKind.i64 x_2, Value.int IntKind.i64 x_3] ∧
                  xsIf (decide (x = x_2)) (gabionlaw23_DescPlays.J26 t m (decide (x_1 = x_3)) t52 t52_n t52_c t53 t54 a_0 a_1 a_2 a_3 h' Q) (gabionlaw23_DescPlays.J26 t m false t52 t52_n t52_c t53 t54 a_0 a_1 a_2 a_3 h' Q)
def gabionlaw23_DescPlays.J26.wp (t : Option Addr) (m : Option Addr) (ok : Bool) (t52 : Option Addr) (t52_n : Nat) (t52_c : Nat) (t53 : Int) (t54 : Int) (a_0 : Int) (a_1 : Int) (a_2 : Int) (a_3 : Int) (h : Heap) (Q : Value → Heap → Prop) : Prop :=
  atBase m fun (b o : Nat) => ∃ (x : Option Addr), ∃ (n : Nat), ∃ (m_1 : Nat), h.cell b (o + 1) = some (Value.slice x n m_1) ∧ gabionlaw23_DescPlays.L28 t m ok 0 t52 t52_n t52_c t53 t54 x n m_1 (↑n : Int) 0 a_0 a_1 a_2 a_3 h Q
def gabionlaw23_DescPlays.L28.wp (t : Option Addr) (m : Option Addr) (ok : Bool) (count : Int) (t52 : Option Addr) (t52_n : Nat) (t52_c : Nat) (t53 : Int) (t54 : Int) (t194 : Option Addr) (t194_n : Nat) (t194_c : Nat) (t195 : Int) (t196 : Int) (a_0 : Int) (a_1 : Int) (a_2 : Int) (a_3 : Int) (h : Heap) (Q : Value → Heap → Prop) : Prop :=
  xsIf (decide (t196 < t195))
    ((0 ≤ t196 ∧ t196 < (↑t194_n : Int)) ∧
      atBase t194 fun (b o : Nat) =>
        ∃ (x : Int),
          h.cell b (o + t196.toNat * 5) = some (Value.int IntKind.i64 x) ∧
            ∃ (x : Int),
              h.cell b (o + t196.toNat * 5 + 1) = some (Value.int IntKind.i64 x) ∧
                ∃ (x : Int),
                  h.cell b (o + t196.toNat * 5 + 1 + 1) = some (Value.int IntKind.i64 x) ∧
                    ∃ (x_1 : Int),
                      h.cell b (o + t196.toNat * 5 + 1 + 1 + 1) = some (Value.int IntKind.i64 x_1) ∧
                        ∃ (x_2 : Int),
                          h.cell b (o + t196.toNat * 5 + 1 + 1 + 1 + 1) = some (Value.int IntKind.i64 x_2) ∧
                            xsIf (decide (x = a_2)) (gabionlaw23_DescPlays.J32 t m ok (IntKind.i64.wrap (count + 1)) t52 t52_n t52_c t53 t54 t194 t194_n t194_c t195 t196 a_0 a_1 a_2 a_3 h Q)
                              (gabionlaw23_DescPlays.J32 t m ok count t52 t52_n t52_c t53 t54 t194 t194_n t194_c t195 t196 a_0 a_1 a_2 a_3 h Q))
    (xsIf (!ok) (Q (Value.bool false) h)
      (C Try.prog 30 #[Value.pointer t, Value.pointer m] h fun (r : Value) (h' : Heap) =>
        ∃ (x : Bool),
          r = Value.bool x ∧
            xsIf (!x) (Q (Value.bool false) h')
              (C Try.prog 31 #[Value.pointer t, Value.int IntKind.i64 a_2] h' fun (r : Value) (h' : Heap) =>
                ∃ (x : Int), r = Value.int IntKind.i64 x ∧ xsIf (decide (x ≠ count)) (Q (Value.bool false) h') (gabionlaw23_DescPlays.L7 t m t52 t52_n t52_c t53 (IntKind.i64.wrap (t54 + 1)) h' Q))))
def gabionlaw23_DescPlays.J32.wp (t : Option Addr) (m : Option Addr) (ok : Bool) (count : Int) (t52 : Option Addr) (t52_n : Nat) (t52_c : Nat) (t53 : Int) (t54 : Int) (t194 : Option Addr) (t194_n : Nat) (t194_c : Nat) (t195 : Int) (t196 : Int) (a_0 : Int) (a_1 : Int) (a_2 : Int) (a_3 : Int) (h : Heap) (Q : Value → Heap → Prop) : Prop :=
  gabionlaw23_DescPlays.L28 t m ok count t52 t52_n t52_c t53 t54 t194 t194_n t194_c t195 (IntKind.i64.wrap (t196 + 1)) a_0 a_1 a_2 a_3 h Q
theorem gabionlaw23_DescPlays.ok {clients : Int} {acts : Option Addr} {acts_n : Nat} {acts_c : Nat} {h : Heap} {Q : Value → Heap → Prop} (hk : gabionlaw23_DescPlays.wp clients acts acts_n acts_c h Q) : C Try.prog 9 #[.int .i64 clients, .slice acts acts_n acts_c] h Q :=
  C_of_xs (H := gabionlaw23_DescPlays.H) (lcuts := gabionlaw23_DescPlays.lc) (rcuts := gabionlaw23_DescPlays.rc) (l := [.int .i64 clients, .slice acts acts_n acts_c]) 2000 mixed Try.func9 rfl (by kernel_rfl) (Eq.mp (by kernel_rfl) hk)
theorem gabionlaw23_DescPlays.J6.ok {acts : Option Addr} {acts_n : Nat} {acts_c : Nat} {t : Option Addr} {m : Option Addr} {h : Heap} {Q : Value → Heap → Prop} (hk : gabionlaw23_DescPlays.J6.wp acts acts_n acts_c t m h Q) : gabionlaw23_DescPlays.J6 acts acts_n acts_c t m h Q :=
  xs_ok (H := gabionlaw23_DescPlays.H) (lcuts := gabionlaw23_DescPlays.lc) (rcuts := [⟨13, [5, 7, 9, 52, 53, 54], [9]⟩, ⟨26, [5, 7, 9, 10, 52, 53, 54], [9]⟩, ⟨32, [5, 7, 9, 10, 23, 52, 53, 54, 194, 195, 196], [9]⟩]) (fn := Try.f9) mixed Try.func9 2000 _ _ _ (Eq.mp (by kernel_rfl) hk)
theorem gabionlaw23_DescPlays.L7.ok {t : Option Addr} {m : Option Addr} {t52 : Option Addr} {t52_n : Nat} {t52_c : Nat} {t53 : Int} {t54 : Int} {h : Heap} {Q : Value → Heap → Prop} (hk : gabionlaw23_DescPlays.L7.wp t m t52 t52_n t52_c t53 t54 h Q) : gabionlaw23_DescPlays.L7 t m t52 t52_n t52_c t53 t54 h Q :=
  xs_ok (H := gabionlaw23_DescPlays.H) (lcuts := gabionlaw23_DescPlays.lc) (rcuts := gabionlaw23_DescPlays.rc) (fn := Try.f9) mixed Try.func9 2000 _ _ _ (Eq.mp (by kernel_rfl) hk)
theorem gabionlaw23_DescPlays.J13.ok {t : Option Addr} {m : Option Addr} {t52 : Option Addr} {t52_n : Nat} {t52_c : Nat} {t53 : Int} {t54 : Int} {a_0 : Int} {a_1 : Int} {a_2 : Int} {a_3 : Int} {h : Heap} {Q : Value → Heap → Prop} (hk : gabionlaw23_DescPlays.J13.wp t m t52 t52_n t52_c t53 t54 a_0 a_1 a_2 a_3 h Q) : gabionlaw23_DescPlays.J13 t m t52 t52_n t52_c t53 t54 a_0 a_1 a_2 a_3 h Q :=
  xs_ok (H := gabionlaw23_DescPlays.H) (lcuts := gabionlaw23_DescPlays.lc) (rcuts := [⟨6, [1, 5, 7], []⟩, ⟨26, [5, 7, 9, 10, 52, 53, 54], [9]⟩, ⟨32, [5, 7, 9, 10, 23, 52, 53, 54, 194, 195, 196], [9]⟩]) (fn := Try.f9) mixed Try.func9 2000 _ _ _ (Eq.mp (by kernel_rfl) hk)
theorem gabionlaw23_DescPlays.J26.ok {t : Option Addr} {m : Option Addr} {ok : Bool} {t52 : Option Addr} {t52_n : Nat} {t52_c : Nat} {t53 : Int} {t54 : Int} {a_0 : Int} {a_1 : Int} {a_2 : Int} {a_3 : Int} {h : Heap} {Q : Value → Heap → Prop} (hk : gabionlaw23_DescPlays.J26.wp t m ok t52 t52_n t52_c t53 t54 a_0 a_1 a_2 a_3 h Q) : gabionlaw23_DescPlays.J26 t m ok t52 t52_n t52_c t53 t54 a_0 a_1 a_2 a_3 h Q :=
  xs_ok (H := gabionlaw23_DescPlays.H) (lcuts := gabionlaw23_DescPlays.lc) (rcuts := [⟨6, [1, 5, 7], []⟩, ⟨13, [5, 7, 9, 52, 53, 54], [9]⟩, ⟨32, [5, 7, 9, 10, 23, 52, 53, 54, 194, 195, 196], [9]⟩]) (fn := Try.f9) mixed Try.func9 2000 _ _ _ (Eq.mp (by kernel_rfl) hk)
theorem gabionlaw23_DescPlays.L28.ok {t : Option Addr} {m : Option Addr} {ok : Bool} {count : Int} {t52 : Option Addr} {t52_n : Nat} {t52_c : Nat} {t53 : Int} {t54 : Int} {t194 : Option Addr} {t194_n : Nat} {t194_c : Nat} {t195 : Int} {t196 : Int} {a_0 : Int} {a_1 : Int} {a_2 : Int} {a_3 : Int} {h : Heap} {Q : Value → Heap → Prop} (hk : gabionlaw23_DescPlays.L28.wp t m ok count t52 t52_n t52_c t53 t54 t194 t194_n t194_c t195 t196 a_0 a_1 a_2 a_3 h Q) : gabionlaw23_DescPlays.L28 t m ok count t52 t52_n t52_c t53 t54 t194 t194_n t194_c t195 t196 a_0 a_1 a_2 a_3 h Q :=
  xs_ok (H := gabionlaw23_DescPlays.H) (lcuts := gabionlaw23_DescPlays.lc) (rcuts := gabionlaw23_DescPlays.rc) (fn := Try.f9) mixed Try.func9 2000 _ _ _ (Eq.mp (by kernel_rfl) hk)
theorem gabionlaw23_DescPlays.J32.ok {t : Option Addr} {m : Option Addr} {ok : Bool} {count : Int} {t52 : Option Addr} {t52_n : Nat} {t52_c : Nat} {t53 : Int} {t54 : Int} {t194 : Option Addr} {t194_n : Nat} {t194_c : Nat} {t195 : Int} {t196 : Int} {a_0 : Int} {a_1 : Int} {a_2 : Int} {a_3 : Int} {h : Heap} {Q : Value → Heap → Prop} (hk : gabionlaw23_DescPlays.J32.wp t m ok count t52 t52_n t52_c t53 t54 t194 t194_n t194_c t195 t196 a_0 a_1 a_2 a_3 h Q) : gabionlaw23_DescPlays.J32 t m ok count t52 t52_n t52_c t53 t54 t194 t194_n t194_c t195 t196 a_0 a_1 a_2 a_3 h Q :=
  xs_ok (H := gabionlaw23_DescPlays.H) (lcuts := gabionlaw23_DescPlays.lc) (rcuts := [⟨6, [1, 5, 7], []⟩, ⟨13, [5, 7, 9, 52, 53, 54], [9]⟩, ⟨26, [5, 7, 9, 10, 52, 53, 54], [9]⟩]) (fn := Try.f9) mixed Try.func9 2000 _ _ _ (Eq.mp (by kernel_rfl) hk)

/-! gabion/gabionlaw23.DescMakes -/
def gabionlaw23_DescMakes.H : Hn := ⟨[], [], []⟩
def gabionlaw23_DescMakes.lc : List Cut := [⟨2, [1, 21, 22, 23], []⟩]
def gabionlaw23_DescMakes.rc : List Cut := [⟨9, [1], []⟩]
def gabionlaw23_DescMakes.L2 (fd : Int) (t21 : Option Addr) (t21_n : Nat) (t21_c : Nat) (t22 : Int) (t23 : Int) (h : Heap) (Q : Value → Heap → Prop) : Prop :=
  TW Try.prog 10 119 [.code (cAt (bodyOf Try.f10) [1, 0, 1, 0, 0]), .inLoop (cAt (bodyOf Try.f10) [1, 0, 1, 0, 0]), .inBlock 0, .code (cAt (bodyOf Try.f10) [1, 1])] ⟨[(1, .v (.int .i64 fd)), (21, .v (.slice t21 t21_n t21_c)), (22, .v (.int .i64 t22)), (23, .v (.int .i64 t23))], []⟩ h Q
def gabionlaw23_DescMakes.J9 (fd : Int) (h : Heap) (Q : Value → Heap → Prop) : Prop :=
  TW Try.prog 10 119 [.code (cAt (bodyOf Try.f10) [1, 1, 0]), .code (cAt (bodyOf Try.f10) [1, 1, 1])] ⟨[(1, .v (.int .i64 fd))], []⟩ h Q
def gabionlaw23_DescMakes.wp (clients : Int) (fd : Int) (h : Heap) (Q : Value → Heap → Prop) : Prop :=
  ∀ (b : Nat), h b = none → gabionlaw23_DescMakes.L2 fd (some { block := b, off := 0 }) 2 2 (↑2 : Int) 0 (upd h b (Obj.cells #[Value.int IntKind.i64 clients, Value.int IntKind.i64 (irem (imax 0 clients) 12)] 3 (0, 0))) Q
def gabionlaw23_DescMakes.L2.wp (fd : Int) (t21 : Option Addr) (t21_n : Nat) (t21_c : Nat) (t22 : Int) (t23 : Int) (h : Heap) (Q : Value → Heap → Prop) : Prop :=
  xsIf (decide (t23 < t22))
    ((0 ≤ t23 ∧ t23 < (↑t21_n : Int)) ∧
      atBase t21 fun (b o : Nat) =>
        ∃ (x : Int),
          h.cell b (o + t23.toNat * 1) = some (Value.int IntKind.i64 x) ∧
            C Try.prog 19 #[Value.int IntKind.i64 x] h fun (r : Value) (h' : Heap) =>
              ∃ (x_1 : Option Addr),
                ∃ (x_2 : Int),
                  r = Value.tuple #[Value.pointer x_1, Value.int IntKind.i64 x_2] ∧
                    xsIf (decide (1 ≤ x))
                      (xsIf (!decide (x ≤ 8) == decide (x_2 = 0)) (Q (Value.bool false) h')
                        (xsIf (!decide (x ≤ 8))
                          (xsIf (decide (x_2 ≠ 2)) (Q (Value.bool false) h')
                            (xsIf (!decide (x ≤ 8) == !x_1.isNone) (Q (Value.bool false) h')
                              (xsIf (decide (x ≤ 8))
                                (C Try.prog 32 #[Value.pointer x_1] h' fun (r : Value) (h' : Heap) =>
                                  ∃ (x_3 : Int), r = Value.int IntKind.i64 x_3 ∧ xsIf (decide (x_3 ≠ x)) (Q (Value.bool false) h') (gabionlaw23_DescMakes.L2 fd t21 t21_n t21_c t22 (IntKind.i64.wrap (t23 + 1)) h' Q))
                                (gabionlaw23_DescMakes.L2 fd t21 t21_n t21_c t22 (IntKind.i64.wrap (t23 + 1)) h' Q))))
                          (xsIf (!decide (x ≤ 8) == !x_1.isNone) (Q (Value.bool false) h')
                            (xsIf (decide (x ≤ 8))
                              (C Try.prog 32 #[Value.pointer x_1] h' fun (r : Value) (h' : Heap) =>
                                ∃ (x_3 : Int), r = Value.int IntKind.i64 x_3 ∧ xsIf (decide (x_3 ≠ x)) (Q (Value.bool false) h') (gabionlaw23_DescMakes.L2 fd t21 t21_n t21_c t22 (IntKind.i64.wrap (t23 + 1)) h' Q))
                              (gabionlaw23_DescMakes.L2 fd t21 t21_n t21_c t22 (IntKind.i64.wrap (t23 + 1)) h' Q)))))
                      (xsIf (!false == decide (x_2 = 0)) (Q (Value.bool false) h')
                        (xsIf (decide (x_2 ≠ 2)) (Q (Value.bool false) h') (xsIf (!false == !x_1.isNone) (Q (Value.bool false) h') (gabionlaw23_DescMakes.L2 fd t21 t21_n t21_c t22 (IntKind.i64.wrap (t23 + 1)) h' Q)))))
    (gabionlaw23_DescMakes.J9 fd h Q)
def gabionlaw23_DescMakes.J9.wp (fd : Int) (h : Heap) (Q : Value → Heap → Prop) : Prop :=
  C Try.prog 22 #[Value.pointer none, Value.int IntKind.i64 0, Value.int IntKind.i64 1, Value.int IntKind.i64 1] h fun (r : Value) (h' : Heap) =>
    ∃ (x : Int),
      ∃ (x_1 : Int),
        r = Value.tuple #[Value.int IntKind.i64 x, Value.int IntKind.i64 x_1] ∧
          C Try.prog 23 #[Value.pointer none, Value.int IntKind.i64 0, Value.int IntKind.i64 fd] h' fun (r : Value) (h' : Heap) =>
            ∃ (x : Int),
              ∃ (x_2 : Int),
                ∃ (x_3 : Int),
                  ∃ (x_4 : Int),
                    r = Value.tuple #[Value.agg #[Value.int IntKind.i64 x, Value.int IntKind.i64 x_2, Value.int IntKind.i64 x_3], Value.int IntKind.i64 x_4] ∧
                      C Try.prog 21 #[Value.pointer none, Value.int IntKind.i64 0, Value.int IntKind.i64 fd] h' fun (r : Value) (h' : Heap) =>
                        ∃ (x : Int),
                          ∃ (x_5 : Int),
                            r = Value.tuple #[Value.int IntKind.i64 x, Value.int IntKind.i64 x_5] ∧
                              C Try.prog 20 #[] h' fun (r : Value) (h' : Heap) =>
                                ∃ (x : Bool),
                                  r = Value.bool x ∧
                                    xsIf x
                                      (xsIf (decide (x_1 = 1))
                                        (xsIf (decide (x_4 = 1))
                                          (xsIf (decide (x_5 = 1))
                                            (C Try.prog 27 #[Value.pointer none, Value.int IntKind.i64 0, Value.int IntKind.i64 fd, Value.int IntKind.i64 1] h' fun (r : Value) (h' : Heap) =>
                                              ∃ (x : Int),
                                                r = Value.int IntKind.i64 x ∧
                                                  xsIf (decide (x = 1))
                                                    (C Try.prog 32 #[Value.pointer none] h' fun (r : Value) (h' : Heap) =>
                                                      ∃ (x : Int),
                                                        r = Value.int IntKind.i64 x ∧
                                                          xsIf (decide (x = 0))
                                                            (C Try.prog 31 #[Value.pointer none, Value.int IntKind.i64 fd] h' fun (r : Value) (h' : Heap) =>
                                                              ∃ (x : Int),
                                                                r = Value.int IntKind.i64 x ∧
                                                                  xsIf (decide (x = 0))
                                                                    (C Try.prog 24 #[Value.pointer none, Value.int IntKind.i64 0] h' fun (r : Value) (h' : Heap) =>
                                                                      ∃ (x : Option Addr), ∃ (n : Nat), ∃ (m : Nat), r = Value.slice x n m ∧ Q (Value.bool (decide ((↑n : Int) = 0))) h')
                                                                    (Q (Value.bool false) h'))
                                                            (Q (Value.bool false) h'))
                                                    (Q (Value.bool false) h'))
                                            (Q (Value.bool false) h'))
                                          (Q (Value.bool false) h'))
                                        (Q (Value.bool false) h'))
                                      (Q (Value.bool false) h')
theorem gabionlaw23_DescMakes.ok {clients : Int} {fd : Int} {h : Heap} {Q : Value → Heap → Prop} (hk : gabionlaw23_DescMakes.wp clients fd h Q) : C Try.prog 10 #[.int .i64 clients, .int .i64 fd] h Q :=
  C_of_xs (H := gabionlaw23_DescMakes.H) (lcuts := gabionlaw23_DescMakes.lc) (rcuts := gabionlaw23_DescMakes.rc) (l := [.int .i64 clients, .int .i64 fd]) 2000 mixed Try.func10 rfl (by kernel_rfl) (Eq.mp (by kernel_rfl) hk)
theorem gabionlaw23_DescMakes.L2.ok {fd : Int} {t21 : Option Addr} {t21_n : Nat} {t21_c : Nat} {t22 : Int} {t23 : Int} {h : Heap} {Q : Value → Heap → Prop} (hk : gabionlaw23_DescMakes.L2.wp fd t21 t21_n t21_c t22 t23 h Q) : gabionlaw23_DescMakes.L2 fd t21 t21_n t21_c t22 t23 h Q :=
  xs_ok (H := gabionlaw23_DescMakes.H) (lcuts := gabionlaw23_DescMakes.lc) (rcuts := gabionlaw23_DescMakes.rc) (fn := Try.f10) mixed Try.func10 2000 _ _ _ (Eq.mp (by kernel_rfl) hk)
theorem gabionlaw23_DescMakes.J9.ok {fd : Int} {h : Heap} {Q : Value → Heap → Prop} (hk : gabionlaw23_DescMakes.J9.wp fd h Q) : gabionlaw23_DescMakes.J9 fd h Q :=
  xs_ok (H := gabionlaw23_DescMakes.H) (lcuts := gabionlaw23_DescMakes.lc) (rcuts := []) (fn := Try.f10) mixed Try.func10 2000 _ _ _ (Eq.mp (by kernel_rfl) hk)
end Go.Gb
