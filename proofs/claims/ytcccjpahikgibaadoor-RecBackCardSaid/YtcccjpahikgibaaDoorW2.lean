/- Own text for the seat: W2. -/
import Derived.Test.YtcccjpahikgibaaDoorW1
set_option linter.unusedVariables false
set_option linter.unusedSimpArgs false
set_option linter.unnecessarySimpa false
set_option linter.deprecated false
set_option maxRecDepth 100000
namespace Go.Gb
open Go.Proofs

/-! gabion/gabionref02.Sum -/
/-! gabion/gabionref02.number -/
/-! gabion/gabionref02.Sum32 -/
/-! gabion/gabionref12.Encode -/
/-! gabion/rec.plain -/
def rec_plain.H : Hn := ⟨[3], [], [], []⟩
def rec_plain.lc : List Cut := [⟨2, [0, 3], []⟩]
def rec_plain.rc : List Cut := []
def rec_plain.L2 (s : ByteArray) (b : Nat) (h : Heap) (Q : Value → Heap → Prop) : Prop :=
 TW Tryd.prog 45 13 [.code (cAt (bodyOf Tryd.f45) [1, 1, 0, 0, 0]), .inLoop (cAt (bodyOf Tryd.f45) [1, 1, 0, 0, 0]), .inBlock 0, .code (cAt (bodyOf Tryd.f45) [1, 1, 1])] ⟨[(0, .v (.string s)), (3, .v (.pointer (some ⟨b, 0, none⟩)))], [], .plain⟩ h Q
def rec_plain.wp (s : ByteArray) (h : Heap) (Q : Value → Heap → Prop) : Prop :=
 ∀ (b : Nat), h b = none → rec_plain.L2 s b (upd h b (Obj.cells #[.pointer none, .slice none 0 0] 90 (0, 0))) Q
def rec_plain.L2.wp (s : ByteArray) (b : Nat) (h : Heap) (Q : Value → Heap → Prop) : Prop :=
 xsIf (decide (8 ≤ (↑s.size : Int)))
 (((0 : Int) ≤ 7 ∧ (7 : Int) ≤ (↑s.size : Int)) ∧
 C Tryd.prog 52 #[.pointer (some { block := b, off := 0 }), .string (sext s 0 7)] h fun (r : Value) (h' : Heap) =>
 ∃ (x : Int), ∃ (x_1 : Value), r = .tuple #[.int .i64 x, x_1] ∧ ((0 : Int) ≤ 8 ∧ (8 : Int) ≤ (↑s.size : Int)) ∧ rec_plain.L2 (sext s 8 (↑s.size : Int)) b h' Q)
 (C Tryd.prog 53 #[.pointer (some { block := b, off := 0 })] h fun (r : Value) (h' : Heap) => ∃ (x : ByteArray), r = .string x ∧ Q (.string x) h')
theorem rec_plain.ok {s : ByteArray} {h : Heap} {Q : Value → Heap → Prop} (hk : rec_plain.wp s h Q) : C Tryd.prog 45 #[.string s] h Q :=
 C_of_xs (H := rec_plain.H) (lcuts := rec_plain.lc) (rcuts := rec_plain.rc) (l := [.string s]) 2000 mixed Tryd.func45 rfl (by kernel_rfl) (@cast (rec_plain.wp s h Q) _ (by kernel_rfl) hk)
theorem rec_plain.L2.ok {s : ByteArray} {b : Nat} {h : Heap} {Q : Value → Heap → Prop} (hk : rec_plain.L2.wp s b h Q) : rec_plain.L2 s b h Q :=
 xs_ok (H := rec_plain.H) (lcuts := rec_plain.lc) (rcuts := rec_plain.rc) (fn := Tryd.f45) mixed Tryd.func45 2000 _ _ _ (@cast (rec_plain.L2.wp s b h Q) _ (by kernel_rfl) hk)

/-! gabion/le.Get -/
def le_Get.H : Hn := ⟨[], [], [], []⟩
def le_Get.lc : List Cut := [⟨3, [0, 3, 4], []⟩]
def le_Get.rc : List Cut := []
def le_Get.L3 (s : ByteArray) (n : Int) (i : Int) (h : Heap) (Q : Value → Heap → Prop) : Prop :=
 TW Tryd.prog 63 21 [.code (cAt (bodyOf Tryd.f63) [1, 1, 0, 1, 0, 0]), .inLoop (cAt (bodyOf Tryd.f63) [1, 1, 0, 1, 0, 0]), .inBlock 0, .code (cAt (bodyOf Tryd.f63) [1, 1, 1])] ⟨[(0, .v (.string s)), (3, .v (.int .u64 n)), (4, .v (.int .i64 i))], [], .plain⟩ h Q
def le_Get.wp (s : ByteArray) (h : Heap) (Q : Value → Heap → Prop) : Prop :=
 le_Get.L3 s 0 (IntKind.i64.wrap (imin (↑s.size : Int) 8 - 1)) h Q
def le_Get.L3.wp (s : ByteArray) (n : Int) (i : Int) (h : Heap) (Q : Value → Heap → Prop) : Prop :=
 xsIf (decide (0 ≤ i)) (∃ (c : UInt8), 0 ≤ i ∧ bget s i.toNat = some c ∧ le_Get.L3 s (ior .u64 (ishl .u64 n 8) (IntKind.u64.wrap (↑c.toNat : Int))) (IntKind.i64.wrap (i - 1)) h Q) (Q (.int .u64 n) h)
theorem le_Get.ok {s : ByteArray} {h : Heap} {Q : Value → Heap → Prop} (hk : le_Get.wp s h Q) : C Tryd.prog 63 #[.string s] h Q :=
 C_of_xs (H := le_Get.H) (lcuts := le_Get.lc) (rcuts := le_Get.rc) (l := [.string s]) 2000 mixed Tryd.func63 rfl (by kernel_rfl) (@cast (le_Get.wp s h Q) _ (by kernel_rfl) hk)
theorem le_Get.L3.ok {s : ByteArray} {n : Int} {i : Int} {h : Heap} {Q : Value → Heap → Prop} (hk : le_Get.L3.wp s n i h Q) : le_Get.L3 s n i h Q :=
 xs_ok (H := le_Get.H) (lcuts := le_Get.lc) (rcuts := le_Get.rc) (fn := Tryd.f63) mixed Tryd.func63 2000 _ _ _ (@cast (le_Get.L3.wp s n i h Q) _ (by kernel_rfl) hk)

/-! strings.trimRightByte -/
def strings_trimRightByte.H : Hn := ⟨[], [], [], []⟩
def strings_trimRightByte.lc : List Cut := [⟨1, [0, 1], []⟩]
def strings_trimRightByte.rc : List Cut := []
def strings_trimRightByte.L1 (s : ByteArray) (c : Int) (h : Heap) (Q : Value → Heap → Prop) : Prop :=
 TW Tryd.prog 77 23 [.code (cAt (bodyOf Tryd.f77) [1, 0, 0, 0]), .inLoop (cAt (bodyOf Tryd.f77) [1, 0, 0, 0]), .inBlock 0, .code (cAt (bodyOf Tryd.f77) [1, 1])] ⟨[(0, .v (.string s)), (1, .v (.int .u8 c))], [], .plain⟩ h Q
def strings_trimRightByte.wp (s : ByteArray) (c : Int) (h : Heap) (Q : Value → Heap → Prop) : Prop :=
 strings_trimRightByte.L1 s c h Q
def strings_trimRightByte.L1.wp (s : ByteArray) (c : Int) (h : Heap) (Q : Value → Heap → Prop) : Prop :=
 xsIf (decide (0 < (↑s.size : Int)))
 (∃ (c_1 : UInt8),
 0 ≤ IntKind.i64.wrap ((↑s.size : Int) - 1) ∧
 bget s (IntKind.i64.wrap ((↑s.size : Int) - 1)).toNat = some c_1 ∧
 xsIf (decide ((↑c_1.toNat : Int) = c)) ((0 ≤ IntKind.i64.wrap ((↑s.size : Int) - 1) ∧ IntKind.i64.wrap ((↑s.size : Int) - 1) ≤ (↑s.size : Int)) ∧ strings_trimRightByte.L1 (sext s 0 (IntKind.i64.wrap ((↑s.size : Int) - 1))) c h Q)
 (Q (.string s) h))
 (Q (.string s) h)
theorem strings_trimRightByte.ok {s : ByteArray} {c : Int} {h : Heap} {Q : Value → Heap → Prop} (hk : strings_trimRightByte.wp s c h Q) : C Tryd.prog 77 #[.string s, .int .u8 c] h Q :=
 C_of_xs (H := strings_trimRightByte.H) (lcuts := strings_trimRightByte.lc) (rcuts := strings_trimRightByte.rc) (l := [.string s, .int .u8 c]) 2000 mixed Tryd.func77 rfl (by kernel_rfl) (@cast (strings_trimRightByte.wp s c h Q) _ (by kernel_rfl) hk)
theorem strings_trimRightByte.L1.ok {s : ByteArray} {c : Int} {h : Heap} {Q : Value → Heap → Prop} (hk : strings_trimRightByte.L1.wp s c h Q) : strings_trimRightByte.L1 s c h Q :=
 xs_ok (H := strings_trimRightByte.H) (lcuts := strings_trimRightByte.lc) (rcuts := strings_trimRightByte.rc) (fn := Tryd.f77) mixed Tryd.func77 2000 _ _ _ (@cast (strings_trimRightByte.L1.wp s c h Q) _ (by kernel_rfl) hk)

/-! strings.trimLeftByte -/
def strings_trimLeftByte.H : Hn := ⟨[], [], [], []⟩
def strings_trimLeftByte.lc : List Cut := [⟨1, [0, 1], []⟩]
def strings_trimLeftByte.rc : List Cut := []
def strings_trimLeftByte.L1 (s : ByteArray) (c : Int) (h : Heap) (Q : Value → Heap → Prop) : Prop :=
 TW Tryd.prog 76 17 [.code (cAt (bodyOf Tryd.f76) [1, 0, 0, 0]), .inLoop (cAt (bodyOf Tryd.f76) [1, 0, 0, 0]), .inBlock 0, .code (cAt (bodyOf Tryd.f76) [1, 1])] ⟨[(0, .v (.string s)), (1, .v (.int .u8 c))], [], .plain⟩ h Q
def strings_trimLeftByte.wp (s : ByteArray) (c : Int) (h : Heap) (Q : Value → Heap → Prop) : Prop :=
 strings_trimLeftByte.L1 s c h Q
def strings_trimLeftByte.L1.wp (s : ByteArray) (c : Int) (h : Heap) (Q : Value → Heap → Prop) : Prop :=
 xsIf (decide (0 < (↑s.size : Int))) (∃ (c_1 : UInt8), (0 : Int) ≤ 0 ∧ bget s 0 = some c_1 ∧ xsIf (decide ((↑c_1.toNat : Int) = c)) (((0 : Int) ≤ 1 ∧ (1 : Int) ≤ (↑s.size : Int)) ∧ strings_trimLeftByte.L1 (sext s 1 (↑s.size : Int)) c h Q) (Q (.string s) h))
 (Q (.string s) h)
theorem strings_trimLeftByte.ok {s : ByteArray} {c : Int} {h : Heap} {Q : Value → Heap → Prop} (hk : strings_trimLeftByte.wp s c h Q) : C Tryd.prog 76 #[.string s, .int .u8 c] h Q :=
 C_of_xs (H := strings_trimLeftByte.H) (lcuts := strings_trimLeftByte.lc) (rcuts := strings_trimLeftByte.rc) (l := [.string s, .int .u8 c]) 2000 mixed Tryd.func76 rfl (by kernel_rfl) (@cast (strings_trimLeftByte.wp s c h Q) _ (by kernel_rfl) hk)
theorem strings_trimLeftByte.L1.ok {s : ByteArray} {c : Int} {h : Heap} {Q : Value → Heap → Prop} (hk : strings_trimLeftByte.L1.wp s c h Q) : strings_trimLeftByte.L1 s c h Q :=
 xs_ok (H := strings_trimLeftByte.H) (lcuts := strings_trimLeftByte.lc) (rcuts := strings_trimLeftByte.rc) (fn := Tryd.f76) mixed Tryd.func76 2000 _ _ _ (@cast (strings_trimLeftByte.L1.wp s c h Q) _ (by kernel_rfl) hk)

/-! strings.trimRightASCII -/
/-! strings.trimLeftASCII -/
/-! unicode/utf8.RuneStart -/
/-! unicode/utf8.DecodeLastRuneInString -/
/-! strings.ContainsRune -/
/-! strings.trimRightUnicode -/
/-! strings.trimLeftUnicode -/
/-! strings.Trim -/
def strings_Trim.H : Hn := ⟨[5], [], [⟨4, .q 0 (.q 1 (.q 2 (.q 4 (.q 5 (.q 3 (.q 6 (.q 7 (.nil)))))))), []⟩], []⟩
def strings_Trim.lc : List Cut := []
def strings_Trim.rc : List Cut := [⟨3, [0, 1], []⟩, ⟨5, [0, 1], []⟩]
def strings_Trim.J3 (s : ByteArray) (cutset : ByteArray) (h : Heap) (Q : Value → Heap → Prop) : Prop :=
 TW Tryd.prog 64 43 [.code (cAt (bodyOf Tryd.f64) [1, 1, 0, 0]), .code (cAt (bodyOf Tryd.f64) [1, 1, 0, 1]), .code (cAt (bodyOf Tryd.f64) [1, 1, 1])] ⟨[(0, .v (.string s)), (1, .v (.string cutset))], [], .plain⟩ h Q
def strings_Trim.J5 (s : ByteArray) (cutset : ByteArray) (h : Heap) (Q : Value → Heap → Prop) : Prop :=
 TW Tryd.prog 64 43 [.code (cAt (bodyOf Tryd.f64) [1, 1, 1, 0, 0]), .code (cAt (bodyOf Tryd.f64) [1, 1, 1, 0, 1]), .code (cAt (bodyOf Tryd.f64) [1, 1, 1, 1])] ⟨[(0, .v (.string s)), (1, .v (.string cutset))], [], .plain⟩ h Q
def strings_Trim.wp (s : ByteArray) (cutset : ByteArray) (h : Heap) (Q : Value → Heap → Prop) : Prop :=
 xsIf (decide (s = { data := #[] })) (Q (.string s) h) (xsIf (decide (cutset = { data := #[] })) (Q (.string s) h) (strings_Trim.J3 s cutset h Q))
def strings_Trim.J3.wp (s : ByteArray) (cutset : ByteArray) (h : Heap) (Q : Value → Heap → Prop) : Prop :=
 xsIf (decide ((↑cutset.size : Int) = 1))
 (∃ (c : UInt8),
 (0 : Int) ≤ 0 ∧
 bget cutset 0 = some c ∧
 xsIf (decide ((↑c.toNat : Int) < 128))
 (∃ (c : UInt8),
 (0 : Int) ≤ 0 ∧
 bget cutset 0 = some c ∧
 ∃ (c_1 : UInt8),
 (0 : Int) ≤ 0 ∧
 bget cutset 0 = some c_1 ∧
 C Tryd.prog 77 #[.string s, .int .u8 (↑c.toNat : Int)] h fun (r : Value) (h' : Heap) =>
 ∃ (x : ByteArray),
 r = .string x ∧ C Tryd.prog 76 #[.string x, .int .u8 (↑c_1.toNat : Int)] h' fun (r : Value) (h' : Heap) => ∃ (x : ByteArray), r = .string x ∧ Q (.string x) h')
 (strings_Trim.J5 s cutset h Q))
 (strings_Trim.J5 s cutset h Q)
theorem strings_Trim.ok {s : ByteArray} {cutset : ByteArray} {h : Heap} {Q : Value → Heap → Prop} (hk : strings_Trim.wp s cutset h Q) : C Tryd.prog 64 #[.string s, .string cutset] h Q :=
 C_of_xs (H := strings_Trim.H) (lcuts := strings_Trim.lc) (rcuts := strings_Trim.rc) (l := [.string s, .string cutset]) 2000 mixed Tryd.func64 rfl (by kernel_rfl) (@cast (strings_Trim.wp s cutset h Q) _ (by kernel_rfl) hk)
theorem strings_Trim.J3.ok {s : ByteArray} {cutset : ByteArray} {h : Heap} {Q : Value → Heap → Prop} (hk : strings_Trim.J3.wp s cutset h Q) : strings_Trim.J3 s cutset h Q :=
 xs_ok (H := strings_Trim.H) (lcuts := strings_Trim.lc) (rcuts := [⟨5, [0, 1], []⟩]) (fn := Tryd.f64) mixed Tryd.func64 2000 _ _ _ (@cast (strings_Trim.J3.wp s cutset h Q) _ (by kernel_rfl) hk)
/-! gabion/rec.number -/
def rec_number.H : Hn := ⟨[], [], [], []⟩
def rec_number.lc : List Cut := []
def rec_number.rc : List Cut := []
def rec_number.wp (head : ByteArray) (k0 : Int) (h : Heap) (Q : Value → Heap → Prop) : Prop :=
 (0 ≤ IntKind.i64.wrap (IntKind.i64.wrap (3 + IntKind.i64.wrap (k0 * 4)) + 4) ∧ IntKind.i64.wrap (IntKind.i64.wrap (3 + IntKind.i64.wrap (k0 * 4)) + 4) ≤ (↑head.size : Int)) ∧
 (0 ≤ IntKind.i64.wrap (3 + IntKind.i64.wrap (k0 * 4)) ∧ IntKind.i64.wrap (3 + IntKind.i64.wrap (k0 * 4)) ≤ IntKind.i64.wrap (IntKind.i64.wrap (3 + IntKind.i64.wrap (k0 * 4)) + 4)) ∧
 C Tryd.prog 63 #[.string (sext head (IntKind.i64.wrap (3 + IntKind.i64.wrap (k0 * 4))) (IntKind.i64.wrap (IntKind.i64.wrap (3 + IntKind.i64.wrap (k0 * 4)) + 4)))] h fun (r : Value) (h' : Heap) =>
 ∃ (x : Int), r = .int .u64 x ∧ Q (.int .u32 (IntKind.u32.wrap x)) h'
theorem rec_number.ok {head : ByteArray} {k0 : Int} {h : Heap} {Q : Value → Heap → Prop} (hk : rec_number.wp head k0 h Q) : C Tryd.prog 65 #[.string head, .int .i64 k0] h Q :=
 C_of_xs (H := rec_number.H) (lcuts := rec_number.lc) (rcuts := rec_number.rc) (l := [.string head, .int .i64 k0]) 2000 mixed Tryd.func65 rfl (by kernel_rfl) (@cast (rec_number.wp head k0 h Q) _ (by kernel_rfl) hk)

/-! gabion/rec.begins -/
def rec_begins.H : Hn := ⟨[], [], [⟨7, .q 0 (.q 2 (.q 3 (.q 1 (.q 4 (.q 5 (.q 6 (.q 7 (.q 8 (.q 9 (.q 10 (.q 11 (.q 12 (.nil))))))))))))), []⟩, ⟨8, .q 0 (.q 2 (.q 4 (.q 7 (.q 8 (.q 9 (.q 1 (.q 3 (.q 5 (.q 6 (.q 10 (.q 11 (.q 12 (.q 13 (.q 14 (.q 15 (.q 16 (.q 17 (.q 18 (.q 19 (.q 20 (.q 21 (.nil)))))))))))))))))))))), [2, 3]⟩], []⟩
def rec_begins.lc : List Cut := []
def rec_begins.rc : List Cut := []
def rec_begins.wp (s : ByteArray) (h : Heap) (Q : Value → Heap → Prop) : Prop :=
 xsIf (decide ((↑s.size : Int) < 24))
 (Q
 (.tuple
 #[.agg #[.int .u32 0, .int .u32 0, .int .u32 0], .agg #[.int .u8 0, .string { data := #[] }], .int .i64 0,
 .bool false])
 h)
 (((0 : Int) ≤ 24 ∧ (24 : Int) ≤ (↑s.size : Int)) ∧
 C Tryd.prog 45 #[.string (sext s 0 24)] h fun (r : Value) (h' : Heap) =>
 ∃ (x : ByteArray),
 r = .string x ∧
 ((0 : Int) ≤ 2 ∧ (2 : Int) ≤ (↑x.size : Int)) ∧
 C Tryd.prog 63 #[.string (sext x 0 2)] h' fun (r : Value) (h' : Heap) =>
 ∃ (x_1 : Int),
 r = .int .u64 x_1 ∧
 ∃ (c : UInt8),
 (0 : Int) ≤ 2 ∧
 bget x 2 = some c ∧
 ((0 : Int) ≤ 24 ∧ (24 : Int) ≤ (↑s.size : Int)) ∧
 C Tryd.prog 38 #[.string x, .int .u8 17, .int .u8 1] h' fun (r : Value) (h' : Heap) =>
 ∃ (x_2 : ByteArray),
 r = .string x_2 ∧
 xsIf (decide (x_2 = sext s 0 24))
 (((0 : Int) ≤ 15 ∧ (15 : Int) ≤ (↑x.size : Int)) ∧
 C Tryd.prog 64 #[.string (sext x 15 (↑x.size : Int)), .string { data := #[UInt8.ofNat 0] }] h' fun (r : Value) (h' : Heap) =>
 ∃ (x_3 : ByteArray),
 r = .string x_3 ∧
 C Tryd.prog 65 #[.string x, .int .i64 0] h' fun (r : Value) (h' : Heap) =>
 ∃ (x_4 : Int),
 r = .int .u32 x_4 ∧
 C Tryd.prog 65 #[.string x, .int .i64 1] h' fun (r : Value) (h' : Heap) =>
 ∃ (x_5 : Int),
 r = .int .u32 x_5 ∧
 C Tryd.prog 65 #[.string x, .int .i64 2] h' fun (r : Value) (h' : Heap) =>
 ∃ (x : Int),
 r = .int .u32 x ∧
 xsIf (decide (x_3 = { data := #[] }))
 (C Tryd.prog 24 #[.agg #[.int .u8 (↑c.toNat : Int), .string { data := #[] }]] h' fun (r : Value) (h' : Heap) =>
 ∃ (x_6 : Bool),
 r = .bool x_6 ∧
 xsIf x_6
 (Q
 (.tuple
 #[.agg #[.int .u32 x_4, .int .u32 x_5, .int .u32 x],
 .agg #[.int .u8 (↑c.toNat : Int), .string { data := #[] }], .int .i64 (IntKind.i64.wrap x_1),
 .bool (decide (IntKind.i64.wrap x_1 ≤ 1024))])
 h')
 (Q
 (.tuple
 #[.agg #[.int .u32 x_4, .int .u32 x_5, .int .u32 x],
 .agg #[.int .u8 (↑c.toNat : Int), .string { data := #[] }], .int .i64 (IntKind.i64.wrap x_1),
 .bool false])
 h'))
 (Q
 (.tuple
 #[.agg #[.int .u32 x_4, .int .u32 x_5, .int .u32 x],
 .agg #[.int .u8 (↑c.toNat : Int), .string { data := #[] }], .int .i64 (IntKind.i64.wrap x_1),
 .bool false])
 h'))
 (C Tryd.prog 65 #[.string x, .int .i64 0] h' fun (r : Value) (h' : Heap) =>
 ∃ (x_3 : Int),
 r = .int .u32 x_3 ∧
 C Tryd.prog 65 #[.string x, .int .i64 1] h' fun (r : Value) (h' : Heap) =>
 ∃ (x_4 : Int),
 r = .int .u32 x_4 ∧
 C Tryd.prog 65 #[.string x, .int .i64 2] h' fun (r : Value) (h' : Heap) =>
 ∃ (x : Int),
 r = .int .u32 x ∧
 Q
 (.tuple
 #[.agg #[.int .u32 x_3, .int .u32 x_4, .int .u32 x],
 .agg #[.int .u8 (↑c.toNat : Int), .string { data := #[] }], .int .i64 (IntKind.i64.wrap x_1), .bool false])
 h'))
theorem rec_begins.ok {s : ByteArray} {h : Heap} {Q : Value → Heap → Prop} (hk : rec_begins.wp s h Q) : C Tryd.prog 44 #[.string s] h Q :=
 C_of_xs (H := rec_begins.H) (lcuts := rec_begins.lc) (rcuts := rec_begins.rc) (l := [.string s]) 2000 mixed Tryd.func44 rfl (by kernel_rfl) (@cast (rec_begins.wp s h Q) _ (by kernel_rfl) hk)

/-! gabion/rec.words -/
def rec_words.H : Hn := ⟨[], [], [], []⟩
def rec_words.lc : List Cut := []
def rec_words.rc : List Cut := []
def rec_words.wp (n : Int) (h : Heap) (Q : Value → Heap → Prop) : Prop :=
 Q (.int .i64 (iquo .i64 (IntKind.i64.wrap (IntKind.i64.wrap (n + 7) - 1)) 7)) h
theorem rec_words.ok {n : Int} {h : Heap} {Q : Value → Heap → Prop} (hk : rec_words.wp n h Q) : C Tryd.prog 43 #[.int .i64 n] h Q :=
 C_of_xs (H := rec_words.H) (lcuts := rec_words.lc) (rcuts := rec_words.rc) (l := [.int .i64 n]) 2000 mixed Tryd.func43 rfl (by kernel_rfl) (@cast (rec_words.wp n h Q) _ (by kernel_rfl) hk)

/-! gabion/rec.Decode -/
def rec_Decode.H : Hn := ⟨[], [], [⟨9, .q 0 (.q 1 (.q 3 (.q 4 (.q 5 (.q 6 (.q 2 (.q 7 (.q 8 (.q 9 (.q 10 (.q 12 (.q 13 (.q 14 (.q 15 (.q 16 (.q 11 (.q 17 (.q 18 (.nil))))))))))))))))))), []⟩, ⟨11, .q 0 (.q 1 (.q 2 (.q 4 (.q 5 (.q 6 (.q 7 (.q 8 (.q 3 (.q 9 (.nil)))))))))), []⟩, ⟨13, .q 0 (.q 1 (.q 2 (.q 3 (.q 4 (.nil))))), [2, 3]⟩], []⟩
def rec_Decode.lc : List Cut := []
def rec_Decode.rc : List Cut := [⟨6, [0, 2, 3, 5, 6, 7, 9, 10], [2, 3, 5, 6]⟩, ⟨11, [0, 2, 3, 5, 6, 10], [2, 3, 5, 6]⟩]
def rec_Decode.J6 (s : ByteArray) (n : Int) (at0 : Int) (end0 : Int) (t2_0 : Int) (t2_1 : Int) (t2_2 : Int) (t3_0 : Int) (t3_1 : ByteArray) (stamp_0 : Int) (stamp_1 : Int) (stamp_2 : Int) (r0_0 : Int) (r0_1 : ByteArray) (h : Heap) (Q : Value → Heap → Prop) : Prop :=
 TW Tryd.prog 26 89 [.code (cAt (bodyOf Tryd.f26) [1, 1, 1, 1, 1, 0]), .code (cAt (bodyOf Tryd.f26) [1, 1, 1, 1, 1, 1])] ⟨[(0, .v (.string s)), (2, .p 2 0), (3, .p 3 0), (5, .p 5 0), (6, .p 6 0), (7, .v (.int .i64 n)), (9, .v (.int .i64 at0)), (10, .v (.int .i64 end0))], [(2, [.int .u32 t2_0, .int .u32 t2_1, .int .u32 t2_2]), (3, [.int .u8 t3_0, .string t3_1]), (5, [.int .u32 stamp_0, .int .u32 stamp_1, .int .u32 stamp_2]), (6, [.int .u8 r0_0, .string r0_1])], .plain⟩ h Q
def rec_Decode.J11 (s : ByteArray) (end0 : Int) (t2_0 : Int) (t2_1 : Int) (t2_2 : Int) (t3_0 : Int) (t3_1 : ByteArray) (stamp_0 : Int) (stamp_1 : Int) (stamp_2 : Int) (r0_0 : Int) (r0_1 : ByteArray) (h : Heap) (Q : Value → Heap → Prop) : Prop :=
 TW Tryd.prog 26 89 [.code (cAt (bodyOf Tryd.f26) [1, 1, 1, 1, 1, 1, 1, 1, 1, 0, 0]), .code (cAt (bodyOf Tryd.f26) [1, 1, 1, 1, 1, 1, 1, 1, 1, 0, 1]), .code (cAt (bodyOf Tryd.f26) [1, 1, 1, 1, 1, 1, 1, 1, 1, 1])] ⟨[(0, .v (.string s)), (2, .p 2 0), (3, .p 3 0), (5, .p 5 0), (6, .p 6 0), (10, .v (.int .i64 end0))], [(2, [.int .u32 t2_0, .int .u32 t2_1, .int .u32 t2_2]), (3, [.int .u8 t3_0, .string t3_1]), (5, [.int .u32 stamp_0, .int .u32 stamp_1, .int .u32 stamp_2]), (6, [.int .u8 r0_0, .string r0_1])], .plain⟩ h Q
def rec_Decode.wp (s : ByteArray) (h : Heap) (Q : Value → Heap → Prop) : Prop :=
 C Tryd.prog 44 #[.string s] h fun (r : Value) (h' : Heap) =>
 ∃ (x : Int),
 ∃ (x_1 : Int),
 ∃ (x_2 : Int),
 ∃ (x_3 : Int),
 ∃ (x_4 : ByteArray),
 ∃ (x_5 : Int),
 ∃ (x_6 : Bool),
 r =
 .tuple
 #[.agg #[.int .u32 x, .int .u32 x_1, .int .u32 x_2], .agg #[.int .u8 x_3, .string x_4], .int .i64 x_5,
 .bool x_6] ∧
 C Tryd.prog 43 #[.int .i64 x_5] h' fun (r : Value) (h' : Heap) =>
 ∃ (x_7 : Int),
 r = .int .i64 x_7 ∧
 xsIf (!x_6)
 (Q
 (.tuple
 #[.agg #[.int .u32 0, .int .u32 0, .int .u32 0], .agg #[.int .u8 0, .string { data := #[] }],
 .int .i64 4])
 h')
 (xsIf (decide ((↑s.size : Int) < IntKind.i64.wrap (IntKind.i64.wrap (24 + IntKind.i64.wrap (8 * x_7)) + 8)))
 (Q
 (.tuple
 #[.agg #[.int .u32 0, .int .u32 0, .int .u32 0], .agg #[.int .u8 0, .string { data := #[] }],
 .int .i64 4])
 h')
 (rec_Decode.J6 s x_5 24 (IntKind.i64.wrap (24 + IntKind.i64.wrap (8 * x_7))) 0 0 0 0 { data := #[] } x x_1 x_2 x_3 x_4 h' Q))
def rec_Decode.J6.wp (s : ByteArray) (n : Int) (at0 : Int) (end0 : Int) (t2_0 : Int) (t2_1 : Int) (t2_2 : Int) (t3_0 : Int) (t3_1 : ByteArray) (stamp_0 : Int) (stamp_1 : Int) (stamp_2 : Int) (r0_0 : Int) (r0_1 : ByteArray) (h : Heap) (Q : Value → Heap → Prop) : Prop :=
 (0 ≤ end0 ∧ end0 ≤ (↑s.size : Int)) ∧
 (0 ≤ at0 ∧ at0 ≤ end0) ∧
 C Tryd.prog 45 #[.string (sext s at0 end0)] h fun (r : Value) (h' : Heap) =>
 ∃ (x : ByteArray),
 r = .string x ∧
 (0 ≤ imin n (↑x.size : Int) ∧ imin n (↑x.size : Int) ≤ (↑x.size : Int)) ∧
 (0 ≤ IntKind.i64.wrap (end0 + 8) ∧ IntKind.i64.wrap (end0 + 8) ≤ (↑s.size : Int)) ∧
 (0 ≤ end0 ∧ end0 ≤ IntKind.i64.wrap (end0 + 8)) ∧
 C Tryd.prog 45 #[.string (sext s end0 (IntKind.i64.wrap (end0 + 8)))] h' fun (r : Value) (h' : Heap) =>
 ∃ (x_1 : ByteArray),
 r = .string x_1 ∧
 (0 ≤ end0 ∧ end0 ≤ (↑s.size : Int)) ∧
 (0 ≤ at0 ∧ at0 ≤ end0) ∧
 C Tryd.prog 38 #[.string (sext x 0 (imin n (↑x.size : Int))), .int .u8 32, .int .u8 0] h' fun (r : Value) (h' : Heap) =>
 ∃ (x_2 : ByteArray),
 r = .string x_2 ∧
 xsIf (decide (x_2 ≠ sext s at0 end0))
 (Q
 (.tuple
 #[.agg #[.int .u32 0, .int .u32 0, .int .u32 0], .agg #[.int .u8 0, .string { data := #[] }],
 .int .i64 4])
 h')
 (((0 : Int) ≤ 4 ∧ (4 : Int) ≤ (↑x_1.size : Int)) ∧
 (0 ≤ IntKind.i64.wrap (end0 + 8) ∧ IntKind.i64.wrap (end0 + 8) ≤ (↑s.size : Int)) ∧
 (0 ≤ end0 ∧ end0 ≤ IntKind.i64.wrap (end0 + 8)) ∧
 C Tryd.prog 38 #[.string (sext x_1 0 4), .int .u8 48, .int .u8 0] h' fun (r : Value) (h' : Heap) =>
 ∃ (x_3 : ByteArray),
 r = .string x_3 ∧
 xsIf (decide (x_3 ≠ sext s end0 (IntKind.i64.wrap (end0 + 8))))
 (Q
 (.tuple
 #[.agg #[.int .u32 0, .int .u32 0, .int .u32 0],
 .agg #[.int .u8 0, .string { data := #[] }], .int .i64 4])
 h')
 (rec_Decode.J11 s end0 t2_0 t2_1 t2_2 t3_0 t3_1 stamp_0 stamp_1 stamp_2 r0_0 (sext x 0 (imin n (↑x.size : Int))) h' Q))
def rec_Decode.J11.wp (s : ByteArray) (end0 : Int) (t2_0 : Int) (t2_1 : Int) (t2_2 : Int) (t3_0 : Int) (t3_1 : ByteArray) (stamp_0 : Int) (stamp_1 : Int) (stamp_2 : Int) (r0_0 : Int) (r0_1 : ByteArray) (h : Heap) (Q : Value → Heap → Prop) : Prop :=
 (0 ≤ end0 ∧ end0 ≤ (↑s.size : Int)) ∧
 (0 ≤ IntKind.i64.wrap (end0 + 8) ∧ IntKind.i64.wrap (end0 + 8) ≤ (↑s.size : Int)) ∧
 (0 ≤ end0 ∧ end0 ≤ IntKind.i64.wrap (end0 + 8)) ∧
 C Tryd.prog 39 #[.string (sext s 0 end0)] h fun (r : Value) (h' : Heap) =>
 ∃ (x : ByteArray),
 r = .string x ∧
 xsIf (decide (x ≠ sext s end0 (IntKind.i64.wrap (end0 + 8))))
 (Q
 (.tuple
 #[.agg #[.int .u32 0, .int .u32 0, .int .u32 0], .agg #[.int .u8 0, .string { data := #[] }],
 .int .i64 5])
 h')
 (Q
 (.tuple
 #[.agg #[.int .u32 stamp_0, .int .u32 stamp_1, .int .u32 stamp_2], .agg #[.int .u8 r0_0, .string r0_1],
 .int .i64 0])
 h')
theorem rec_Decode.ok {s : ByteArray} {h : Heap} {Q : Value → Heap → Prop} (hk : rec_Decode.wp s h Q) : C Tryd.prog 26 #[.string s] h Q :=
 C_of_xs (H := rec_Decode.H) (lcuts := rec_Decode.lc) (rcuts := rec_Decode.rc) (l := [.string s]) 2000 mixed Tryd.func26 rfl (by kernel_rfl) (@cast (rec_Decode.wp s h Q) _ (by kernel_rfl) hk)
theorem rec_Decode.J6.ok {s : ByteArray} {n : Int} {at0 : Int} {end0 : Int} {t2_0 : Int} {t2_1 : Int} {t2_2 : Int} {t3_0 : Int} {t3_1 : ByteArray} {stamp_0 : Int} {stamp_1 : Int} {stamp_2 : Int} {r0_0 : Int} {r0_1 : ByteArray} {h : Heap} {Q : Value → Heap → Prop} (hk : rec_Decode.J6.wp s n at0 end0 t2_0 t2_1 t2_2 t3_0 t3_1 stamp_0 stamp_1 stamp_2 r0_0 r0_1 h Q) : rec_Decode.J6 s n at0 end0 t2_0 t2_1 t2_2 t3_0 t3_1 stamp_0 stamp_1 stamp_2 r0_0 r0_1 h Q :=
 xs_ok (H := rec_Decode.H) (lcuts := rec_Decode.lc) (rcuts := [⟨11, [0, 2, 3, 5, 6, 10], [2, 3, 5, 6]⟩]) (fn := Tryd.f26) mixed Tryd.func26 2000 _ _ _ (@cast (rec_Decode.J6.wp s n at0 end0 t2_0 t2_1 t2_2 t3_0 t3_1 stamp_0 stamp_1 stamp_2 r0_0 r0_1 h Q) _ (by kernel_rfl) hk)
theorem rec_Decode.J11.ok {s : ByteArray} {end0 : Int} {t2_0 : Int} {t2_1 : Int} {t2_2 : Int} {t3_0 : Int} {t3_1 : ByteArray} {stamp_0 : Int} {stamp_1 : Int} {stamp_2 : Int} {r0_0 : Int} {r0_1 : ByteArray} {h : Heap} {Q : Value → Heap → Prop} (hk : rec_Decode.J11.wp s end0 t2_0 t2_1 t2_2 t3_0 t3_1 stamp_0 stamp_1 stamp_2 r0_0 r0_1 h Q) : rec_Decode.J11 s end0 t2_0 t2_1 t2_2 t3_0 t3_1 stamp_0 stamp_1 stamp_2 r0_0 r0_1 h Q :=
 xs_ok (H := rec_Decode.H) (lcuts := rec_Decode.lc) (rcuts := [⟨6, [0, 2, 3, 5, 6, 7, 9, 10], [2, 3, 5, 6]⟩]) (fn := Tryd.f26) mixed Tryd.func26 2000 _ _ _ (@cast (rec_Decode.J11.wp s end0 t2_0 t2_1 t2_2 t3_0 t3_1 stamp_0 stamp_1 stamp_2 r0_0 r0_1 h Q) _ (by kernel_rfl) hk)

/-! (gabion/rec.Record).Size -/
def rec_Record_Size.H : Hn := ⟨[], [], [], []⟩
def rec_Record_Size.lc : List Cut := []
def rec_Record_Size.rc : List Cut := []
def rec_Record_Size.wp (r0_0 : Int) (r0_1 : ByteArray) (h : Heap) (Q : Value → Heap → Prop) : Prop :=
 C Tryd.prog 24 #[.agg #[.int .u8 r0_0, .string r0_1]] h fun (r : Value) (h' : Heap) =>
 ∃ (x : Bool),
 r = .bool x ∧
 xsIf (!x) (Q (.int .i64 0) h')
 (C Tryd.prog 43 #[.int .i64 (↑r0_1.size : Int)] h' fun (r : Value) (h' : Heap) =>
 ∃ (x : Int), r = .int .i64 x ∧ Q (.int .i64 (IntKind.i64.wrap (8 * IntKind.i64.wrap (IntKind.i64.wrap (3 + x) + 1)))) h')
theorem rec_Record_Size.ok {r0_0 : Int} {r0_1 : ByteArray} {h : Heap} {Q : Value → Heap → Prop} (hk : rec_Record_Size.wp r0_0 r0_1 h Q) : C Tryd.prog 25 #[.agg #[.int .u8 r0_0, .string r0_1]] h Q :=
 C_of_xs (H := rec_Record_Size.H) (lcuts := rec_Record_Size.lc) (rcuts := rec_Record_Size.rc) (l := [.agg #[.int .u8 r0_0, .string r0_1]]) 2000 mixed Tryd.func25 rfl (by kernel_rfl) (@cast (rec_Record_Size.wp r0_0 r0_1 h Q) _ (by kernel_rfl) hk)

/-! (gabion/rec.Stamp).Follows -/
def rec_Stamp_Follows.H : Hn := ⟨[], [], [], []⟩
def rec_Stamp_Follows.lc : List Cut := []
def rec_Stamp_Follows.rc : List Cut := []
def rec_Stamp_Follows.wp (s_0 : Int) (s_1 : Int) (s_2 : Int) (o_0 : Int) (o_1 : Int) (o_2 : Int) (h : Heap) (Q : Value → Heap → Prop) : Prop :=
 xsIf (decide (s_0 = o_0)) (xsIf (decide (o_1 ≤ s_1)) (xsIf (decide (o_2 ≠ 4294967295)) (Q (.bool (decide (s_2 = IntKind.u32.wrap (o_2 + 1)))) h) (Q (.bool false) h)) (Q (.bool false) h)) (Q (.bool false) h)
theorem rec_Stamp_Follows.ok {s_0 : Int} {s_1 : Int} {s_2 : Int} {o_0 : Int} {o_1 : Int} {o_2 : Int} {h : Heap} {Q : Value → Heap → Prop} (hk : rec_Stamp_Follows.wp s_0 s_1 s_2 o_0 o_1 o_2 h Q) : C Tryd.prog 28 #[.agg #[.int .u32 s_0, .int .u32 s_1, .int .u32 s_2], .agg #[.int .u32 o_0, .int .u32 o_1, .int .u32 o_2]] h Q :=
 C_of_xs (H := rec_Stamp_Follows.H) (lcuts := rec_Stamp_Follows.lc) (rcuts := rec_Stamp_Follows.rc) (l := [.agg #[.int .u32 s_0, .int .u32 s_1, .int .u32 s_2], .agg #[.int .u32 o_0, .int .u32 o_1, .int .u32 o_2]]) 2000 mixed Tryd.func28 rfl (by kernel_rfl) (@cast (rec_Stamp_Follows.wp s_0 s_1 s_2 o_0 o_1 o_2 h Q) _ (by kernel_rfl) hk)

/-! gabion/gabionlaw12.wakes -/
def gabionlaw12_wakes.H : Hn := ⟨[], [], [], []⟩
def gabionlaw12_wakes.lc : List Cut := []
def gabionlaw12_wakes.rc : List Cut := []
def gabionlaw12_wakes.wp  (h : Heap) (Q : Value → Heap → Prop) : Prop :=
 C Tryd.prog 20 #[.agg #[.int .u32 1, .int .u32 0, .int .u32 2], .agg #[.int .u8 5, .string { data := #[] }]] h
 fun (r : Value) (h' : Heap) =>
 ∃ (x : ByteArray),
 ∃ (x_1 : Int),
 r = .tuple #[.string x, .int .i64 x_1] ∧
 (↑(x.size + 4) : Int) ≤ 9223372036854775807 ∧
 C Tryd.prog 26 #[.string (x ++ { data := #[UInt8.ofNat 109, UInt8.ofNat 111, UInt8.ofNat 114, UInt8.ofNat 101] })] h' fun (r : Value) (h' : Heap) =>
 ∃ (x_2 : Int),
 ∃ (x_3 : Int),
 ∃ (x_4 : Int),
 ∃ (x_5 : Int),
 ∃ (x_6 : ByteArray),
 ∃ (x_7 : Int),
 r =
 .tuple
 #[.agg #[.int .u32 x_2, .int .u32 x_3, .int .u32 x_4], .agg #[.int .u8 x_5, .string x_6],
 .int .i64 x_7] ∧
 xsIf (decide (x_1 = 0))
 (xsIf (decide ((↑x.size : Int) = 32))
 (C Tryd.prog 25 #[.agg #[.int .u8 5, .string { data := #[] }]] h' fun (r : Value) (h' : Heap) =>
 ∃ (x : Int),
 r = .int .i64 x ∧
 xsIf (decide (x = 32))
 (xsIf (decide (x_7 = 0))
 (xsIf (decide (x_5 = 5) && (decide (x_6 = { data := #[] }) && true))
 (xsIf (decide (x_2 = 1) && (decide (x_3 = 0) && (decide (x_4 = 2) && true)))
 (C Tryd.prog 28
 #[.agg #[.int .u32 1, .int .u32 0, .int .u32 3],
 .agg #[.int .u32 x_2, .int .u32 x_3, .int .u32 x_4]]
 h' fun (r : Value) (h' : Heap) => ∃ (x : Bool), r = .bool x ∧ Q (.bool x) h')
 (Q (.bool false) h'))
 (Q (.bool false) h'))
 (Q (.bool false) h'))
 (Q (.bool false) h'))
 (Q (.bool false) h'))
 (Q (.bool false) h')
theorem gabionlaw12_wakes.ok {h : Heap} {Q : Value → Heap → Prop} (hk : gabionlaw12_wakes.wp h Q) : C Tryd.prog 23 #[] h Q :=
 C_of_xs (H := gabionlaw12_wakes.H) (lcuts := gabionlaw12_wakes.lc) (rcuts := gabionlaw12_wakes.rc) (l := []) 2000 mixed Tryd.func23 rfl (by kernel_rfl) (@cast (gabionlaw12_wakes.wp h Q) _ (by kernel_rfl) hk)

/-! gabion/gabionref12.Size -/
/-! gabion/gabionref01.Get -/
/-! gabion/gabionref12.Decode -/
/-! gabion/gabionlaw12.RecBytes -/
/-! gabion/gabionref12.Follows -/
/-! gabion/gabionlaw12.RecFollows -/
/-! gabion/gabionlaw12.RecBack -/
def gabionlaw12_RecBack.H : Hn := ⟨[], [], [⟨3, .q 0 (.q 2 (.q 1 (.q 3 (.q 4 (.q 5 (.q 6 (.q 7 (.q 8 (.nil))))))))), []⟩, ⟨5, .q 0 (.q 1 (.q 2 (.q 3 (.q 4 (.q 5 (.q 6 (.q 7 (.q 8 (.q 9 (.q 10 (.q 11 (.q 12 (.q 13 (.q 14 (.q 15 (.q 16 (.q 17 (.q 18 (.q 19 (.q 20 (.q 21 (.q 22 (.q 23 (.q 24 (.q 25 (.q 26 (.q 27 (.nil)))))))))))))))))))))))))))), []⟩, ⟨13, .q 0 (.q 1 (.q 2 (.q 3 (.q 4 (.q 5 (.q 6 (.q 7 (.q 8 (.q 9 (.q 11 (.q 12 (.q 10 (.q 13 (.q 14 (.q 15 (.nil)))))))))))))))), []⟩], []⟩
def gabionlaw12_RecBack.lc : List Cut := []
def gabionlaw12_RecBack.rc : List Cut := [⟨7, [5, 8], [5]⟩]
def gabionlaw12_RecBack.J7 (b : ByteArray) (at0_5_0 : Int) (at0_5_1 : Int) (at0_5_2 : Int) (h : Heap) (Q : Value → Heap → Prop) : Prop :=
 TW Tryd.prog 9 121 [.code (cAt (bodyOf Tryd.f9) [1, 1, 1, 1, 1, 1, 0, 0]), .code (cAt (bodyOf Tryd.f9) [1, 1, 1, 1, 1, 1, 0, 1]), .code (cAt (bodyOf Tryd.f9) [1, 1, 1, 1, 1, 1, 1])] ⟨[(5, .p 5 0), (8, .v (.string b))], [(5, [.int .u8 at0_5_0, .int .u8 at0_5_1, .int .u8 at0_5_2])], .plain⟩ h Q
def gabionlaw12_RecBack.wp (n_0 : Int) (n_1 : Int) (n_2 : Int) (s : ByteArray) (at0_0 : Int) (at0_1 : Int) (at0_2 : Int) (h : Heap) (Q : Value → Heap → Prop) : Prop :=
 (0 ≤ imin (↑s.size : Int) 900 ∧ imin (↑s.size : Int) 900 ≤ (↑s.size : Int)) ∧
 C Tryd.prog 21 #[.agg #[.int .u32 n_0, .int .u32 n_1, .int .u32 n_2]] h fun (r : Value) (h' : Heap) =>
 ∃ (x : Int),
 ∃ (x_1 : Int),
 ∃ (x_2 : Int),
 r = .agg #[.int .u32 x, .int .u32 x_1, .int .u32 x_2] ∧
 C Tryd.prog 20
 #[.agg #[.int .u32 x, .int .u32 x_1, .int .u32 x_2],
 .agg #[.int .u8 (ior .u8 1 at0_2), .string (sext s 0 (imin (↑s.size : Int) 900))]]
 h' fun (r : Value) (h' : Heap) =>
 ∃ (x : ByteArray),
 ∃ (x_3 : Int),
 r = .tuple #[.string x, .int .i64 x_3] ∧
 (↑(x.size + (sext s 0 (imin (↑s.size : Int) 900)).size) : Int) ≤ 9223372036854775807 ∧
 C Tryd.prog 26 #[.string (x ++ sext s 0 (imin (↑s.size : Int) 900))] h' fun (r : Value) (h' : Heap) =>
 ∃ (x_4 : Int),
 ∃ (x_5 : Int),
 ∃ (x_6 : Int),
 ∃ (x_7 : Int),
 ∃ (x_8 : ByteArray),
 ∃ (x_9 : Int),
 r =
 .tuple
 #[.agg #[.int .u32 x_4, .int .u32 x_5, .int .u32 x_6], .agg #[.int .u8 x_7, .string x_8],
 .int .i64 x_9] ∧
 C Tryd.prog 23 #[] h' fun (r : Value) (h' : Heap) =>
 ∃ (x_10 : Bool),
 r = .bool x_10 ∧
 xsIf (!x_10) (Q (.bool false) h')
 (xsIf (decide (x_3 ≠ 0)) (Q (.bool false) h')
 (xsIf (decide (x_9 ≠ 0)) (Q (.bool false) h')
 (C Tryd.prog 21 #[.agg #[.int .u32 n_0, .int .u32 n_1, .int .u32 n_2]] h' fun (r : Value) (h' : Heap) =>
 ∃ (x_11 : Int),
 ∃ (x_12 : Int),
 ∃ (x_13 : Int),
 r = .agg #[.int .u32 x_11, .int .u32 x_12, .int .u32 x_13] ∧
 xsIf (!(decide (x_4 = x_11) && (decide (x_5 = x_12) && (decide (x_6 = x_13) && true)))) (Q (.bool false) h')
 (xsIf (!(decide (x_7 = ior .u8 1 at0_2) && (decide (x_8 = sext s 0 (imin (↑s.size : Int) 900)) && true))) (Q (.bool false) h')
 (C Tryd.prog 25 #[.agg #[.int .u8 (ior .u8 1 at0_2), .string (sext s 0 (imin (↑s.size : Int) 900))]] h'
 fun (r : Value) (h' : Heap) =>
 ∃ (x_14 : Int), r = .int .i64 x_14 ∧ xsIf (decide ((↑x.size : Int) ≠ x_14)) (Q (.bool false) h') (gabionlaw12_RecBack.J7 x at0_0 at0_1 at0_2 h' Q))))))
def gabionlaw12_RecBack.J7.wp (b : ByteArray) (at0_5_0 : Int) (at0_5_1 : Int) (at0_5_2 : Int) (h : Heap) (Q : Value → Heap → Prop) : Prop :=
 (↑b.size : Int) ≠ 0 ∧
 (0 ≤ IntKind.i64.wrap (IntKind.i64.wrap ((↑b.size : Int) - 1) - irem (IntKind.i64.wrap at0_5_0) (↑b.size : Int)) ∧
 IntKind.i64.wrap (IntKind.i64.wrap ((↑b.size : Int) - 1) - irem (IntKind.i64.wrap at0_5_0) (↑b.size : Int)) ≤ (↑b.size : Int)) ∧
 C Tryd.prog 26 #[.string (sext b 0 (IntKind.i64.wrap (IntKind.i64.wrap ((↑b.size : Int) - 1) - irem (IntKind.i64.wrap at0_5_0) (↑b.size : Int))))] h fun (r : Value) (h' : Heap) =>
 ∃ (x : Int),
 ∃ (x_1 : Int),
 ∃ (x_2 : Int),
 ∃ (x_3 : Int),
 ∃ (x_4 : ByteArray),
 ∃ (x_5 : Int),
 r =
 .tuple
 #[.agg #[.int .u32 x, .int .u32 x_1, .int .u32 x_2], .agg #[.int .u8 x_3, .string x_4], .int .i64 x_5] ∧
 xsIf (decide (x_5 = 0)) (Q (.bool false) h')
 (xsIf (decide (at0_5_1 = 0)) (Q (.bool true) h')
 (xsBytes 5 h' b fun (a : Option Addr) (m c : Nat) (h' : Heap) =>
 IntKind.i64.wrap ((↑m : Int) - 2) ≠ 0 ∧
 (0 ≤ IntKind.i64.wrap (2 + irem (IntKind.i64.wrap at0_5_0) (IntKind.i64.wrap ((↑m : Int) - 2))) ∧ IntKind.i64.wrap (2 + irem (IntKind.i64.wrap at0_5_0) (IntKind.i64.wrap ((↑m : Int) - 2))) < (↑m : Int)) ∧
 atBase a fun (b o : Nat) =>
 ∃ (x : Int),
 h'.cell b (o + (IntKind.i64.wrap (2 + irem (IntKind.i64.wrap at0_5_0) (IntKind.i64.wrap ((↑m : Int) - 2)))).toNat * 1) = some (.int .u8 x) ∧
 (0 ≤ IntKind.i64.wrap (2 + irem (IntKind.i64.wrap at0_5_0) (IntKind.i64.wrap ((↑m : Int) - 2))) ∧ IntKind.i64.wrap (2 + irem (IntKind.i64.wrap at0_5_0) (IntKind.i64.wrap ((↑m : Int) - 2))) < (↑m : Int)) ∧
 atBase a fun (b o : Nat) =>
 h'.can b (o + (IntKind.i64.wrap (2 + irem (IntKind.i64.wrap at0_5_0) (IntKind.i64.wrap ((↑m : Int) - 2)))).toNat * 1) 1 ∧
 xsStr (h'.put b (o + (IntKind.i64.wrap (2 + irem (IntKind.i64.wrap at0_5_0) (IntKind.i64.wrap ((↑m : Int) - 2)))).toNat * 1) [.int .u8 (ixor .u8 x at0_5_1)]) a m
 fun (s : ByteArray) =>
 C Tryd.prog 26 #[.string s]
 (h'.put b (o + (IntKind.i64.wrap (2 + irem (IntKind.i64.wrap at0_5_0) (IntKind.i64.wrap ((↑m : Int) - 2)))).toNat * 1) [.int .u8 (ixor .u8 x at0_5_1)])
 fun (r : Value) (h' : Heap) =>
 ∃ (x : Int),
 ∃ (x_6 : Int),
 ∃ (x_7 : Int),
 ∃ (x_8 : Int),
 ∃ (x_9 : ByteArray),
 ∃ (x_10 : Int),
 r =
 .tuple
 #[.agg #[.int .u32 x, .int .u32 x_6, .int .u32 x_7],
 .agg #[.int .u8 x_8, .string x_9], .int .i64 x_10] ∧
 Q (.bool (decide (x_10 ≠ 0))) h'))
theorem gabionlaw12_RecBack.ok {n_0 : Int} {n_1 : Int} {n_2 : Int} {s : ByteArray} {at0_0 : Int} {at0_1 : Int} {at0_2 : Int} {h : Heap} {Q : Value → Heap → Prop} (hk : gabionlaw12_RecBack.wp n_0 n_1 n_2 s at0_0 at0_1 at0_2 h Q) : C Tryd.prog 9 #[.agg #[.int .u32 n_0, .int .u32 n_1, .int .u32 n_2], .string s, .agg #[.int .u8 at0_0, .int .u8 at0_1, .int .u8 at0_2]] h Q :=
 C_of_xs (H := gabionlaw12_RecBack.H) (lcuts := gabionlaw12_RecBack.lc) (rcuts := gabionlaw12_RecBack.rc) (l := [.agg #[.int .u32 n_0, .int .u32 n_1, .int .u32 n_2], .string s, .agg #[.int .u8 at0_0, .int .u8 at0_1, .int .u8 at0_2]]) 2000 mixed Tryd.func9 rfl (by kernel_rfl) (@cast (gabionlaw12_RecBack.wp n_0 n_1 n_2 s at0_0 at0_1 at0_2 h Q) _ (by kernel_rfl) hk)
theorem gabionlaw12_RecBack.J7.ok {b : ByteArray} {at0_5_0 : Int} {at0_5_1 : Int} {at0_5_2 : Int} {h : Heap} {Q : Value → Heap → Prop} (hk : gabionlaw12_RecBack.J7.wp b at0_5_0 at0_5_1 at0_5_2 h Q) : gabionlaw12_RecBack.J7 b at0_5_0 at0_5_1 at0_5_2 h Q :=
 xs_ok (H := gabionlaw12_RecBack.H) (lcuts := gabionlaw12_RecBack.lc) (rcuts := []) (fn := Tryd.f9) mixed Tryd.func9 2000 _ _ _ (@cast (gabionlaw12_RecBack.J7.wp b at0_5_0 at0_5_1 at0_5_2 h Q) _ (by kernel_rfl) hk)

/-! gabion/gabionlaw12.RecWords -/
end Go.Gb
