/- Own text for the seat: W2. -/
import Derived.Test.YtcccjpahikgibaaDoorW1
set_option linter.unusedVariables false
set_option linter.unusedSimpArgs false
set_option linter.unnecessarySimpa false
set_option linter.deprecated false
set_option maxRecDepth 100000
namespace Go.Gb
open Go.Proofs

/-! gabion/gabionref02.Sum -/
/-! gabion/gabionref02.number -/
/-! gabion/gabionref02.Sum32 -/
/-! gabion/gabionref12.Encode -/
/-! gabion/rec.plain -/
def rec_plain.H : Hn := ⟨[3], [], [], []⟩
def rec_plain.lc : List Cut := [⟨2, [0, 3], []⟩]
def rec_plain.rc : List Cut := []
def rec_plain.L2 (s : ByteArray) (b : Nat) (h : Heap) (Q : Value → Heap → Prop) : Prop :=
 TW Tryd.prog 45 13 [.code (cAt (bodyOf Tryd.f45) [1, 1, 0, 0, 0]), .inLoop (cAt (bodyOf Tryd.f45) [1, 1, 0, 0, 0]), .inBlock 0, .code (cAt (bodyOf Tryd.f45) [1, 1, 1])] ⟨[(0, .v (.string s)), (3, .v (.pointer (some ⟨b, 0, none⟩)))], [], .plain⟩ h Q
def rec_plain.wp (s : ByteArray) (h : Heap) (Q : Value → Heap → Prop) : Prop :=
 ∀ (b : Nat), h b = none → rec_plain.L2 s b (upd h b (Obj.cells #[.pointer none, .slice none 0 0] 90 (0, 0))) Q
def rec_plain.L2.wp (s : ByteArray) (b : Nat) (h : Heap) (Q : Value → Heap → Prop) : Prop :=
 xsIf (decide (8 ≤ (↑s.size : Int)))
 (((0 : Int) ≤ 7 ∧ (7 : Int) ≤ (↑s.size : Int)) ∧
 C Tryd.prog 52 #[.pointer (some { block := b, off := 0 }), .string (sext s 0 7)] h fun (r : Value) (h' : Heap) =>
 ∃ (x : Int), ∃ (x_1 : Value), r = .tuple #[.int .i64 x, x_1] ∧ ((0 : Int) ≤ 8 ∧ (8 : Int) ≤ (↑s.size : Int)) ∧ rec_plain.L2 (sext s 8 (↑s.size : Int)) b h' Q)
 (C Tryd.prog 53 #[.pointer (some { block := b, off := 0 })] h fun (r : Value) (h' : Heap) => ∃ (x : ByteArray), r = .string x ∧ Q (.string x) h')
theorem rec_plain.ok {s : ByteArray} {h : Heap} {Q : Value → Heap → Prop} (hk : rec_plain.wp s h Q) : C Tryd.prog 45 #[.string s] h Q :=
 C_of_xs (H := rec_plain.H) (lcuts := rec_plain.lc) (rcuts := rec_plain.rc) (l := [.string s]) 2000 mixed Tryd.func45 rfl (by kernel_rfl) (@cast (rec_plain.wp s h Q) _ (by kernel_rfl) hk)
theorem rec_plain.L2.ok {s : ByteArray} {b : Nat} {h : Heap} {Q : Value → Heap → Prop} (hk : rec_plain.L2.wp s b h Q) : rec_plain.L2 s b h Q :=
 xs_ok (H := rec_plain.H) (lcuts := rec_plain.lc) (rcuts := rec_plain.rc) (fn := Tryd.f45) mixed Tryd.func45 2000 _ _ _ (@cast (rec_plain.L2.wp s b h Q) _ (by kernel_rfl) hk)

/-! gabion/le.Get -/
def le_Get.H : Hn := ⟨[], [], [], []⟩
def le_Get.lc : List Cut := [⟨3, [0, 3, 4], []⟩]
def le_Get.rc : List Cut := []
def le_Get.L3 (s : ByteArray) (n : Int) (i : Int) (h : Heap) (Q : Value → Heap → Prop) : Prop :=
 TW Tryd.prog 63 21 [.code (cAt (bodyOf Tryd.f63) [1, 1, 0, 1, 0, 0]), .inLoop (cAt (bodyOf Tryd.f63) [1, 1, 0, 1, 0, 0]), .inBlock 0, .code (cAt (bodyOf Tryd.f63) [1, 1, 1])] ⟨[(0, .v (.string s)), (3, .v (.int .u64 n)), (4, .v (.int .i64 i))], [], .plain⟩ h Q
def le_Get.wp (s : ByteArray) (h : Heap) (Q : Value → Heap → Prop) : Prop :=
 le_Get.L3 s 0 (IntKind.i64.wrap (imin (↑s.size : Int) 8 - 1)) h Q
def le_Get.L3.wp (s : ByteArray) (n : Int) (i : Int) (h : Heap) (Q : Value → Heap → Prop) : Prop :=
 xsIf (decide (0 ≤ i)) (∃ (c : UInt8), 0 ≤ i ∧ bget s i.toNat = some c ∧ le_Get.L3 s (ior .u64 (ishl .u64 n 8) (IntKind.u64.wrap (↑c.toNat : Int))) (IntKind.i64.wrap (i - 1)) h Q) (Q (.int .u64 n) h)
theorem le_Get.ok {s : ByteArray} {h : Heap} {Q : Value → Heap → Prop} (hk : le_Get.wp s h Q) : C Tryd.prog 63 #[.string s] h Q :=
 C_of_xs (H := le_Get.H) (lcuts := le_Get.lc) (rcuts := le_Get.rc) (l := [.string s]) 2000 mixed Tryd.func63 rfl (by kernel_rfl) (@cast (le_Get.wp s h Q) _ (by kernel_rfl) hk)
theorem le_Get.L3.ok {s : ByteArray} {n : Int} {i : Int} {h : Heap} {Q : Value → Heap → Prop} (hk : le_Get.L3.wp s n i h Q) : le_Get.L3 s n i h Q :=
 xs_ok (H := le_Get.H) (lcuts := le_Get.lc) (rcuts := le_Get.rc) (fn := Tryd.f63) mixed Tryd.func63 2000 _ _ _ (@cast (le_Get.L3.wp s n i h Q) _ (by kernel_rfl) hk)

/-! strings.trimRightByte -/
def strings_trimRightByte.H : Hn := ⟨[], [], [], []⟩
def strings_trimRightByte.lc : List Cut := [⟨1, [0, 1], []⟩]
def strings_trimRightByte.rc : List Cut := []
def strings_trimRightByte.L1 (s : ByteArray) (c : Int) (h : Heap) (Q : Value → Heap → Prop) : Prop :=
 TW Tryd.prog 77 23 [.code (cAt (bodyOf Tryd.f77) [1, 0, 0, 0]), .inLoop (cAt (bodyOf Tryd.f77) [1, 0, 0, 0]), .inBlock 0, .code (cAt (bodyOf Tryd.f77) [1, 1])] ⟨[(0, .v (.string s)), (1, .v (.int .u8 c))], [], .plain⟩ h Q
def strings_trimRightByte.wp (s : ByteArray) (c : Int) (h : Heap) (Q : Value → Heap → Prop) : Prop :=
 strings_trimRightByte.L1 s c h Q
def strings_trimRightByte.L1.wp (s : ByteArray) (c : Int) (h : Heap) (Q : Value → Heap → Prop) : Prop :=
 xsIf (decide (0 < (↑s.size : Int)))
 (∃ (c_1 : UInt8),
 0 ≤ IntKind.i64.wrap ((↑s.size : Int) - 1) ∧
 bget s (IntKind.i64.wrap ((↑s.size : Int) - 1)).toNat = some c_1 ∧
 xsIf (decide ((↑c_1.toNat : Int) = c)) ((0 ≤ IntKind.i64.wrap ((↑s.size : Int) - 1) ∧ IntKind.i64.wrap ((↑s.size : Int) - 1) ≤ (↑s.size : Int)) ∧ strings_trimRightByte.L1 (sext s 0 (IntKind.i64.wrap ((↑s.size : Int) - 1))) c h Q)
 (Q (.string s) h))
 (Q (.string s) h)
theorem strings_trimRightByte.ok {s : ByteArray} {c : Int} {h : Heap} {Q : Value → Heap → Prop} (hk : strings_trimRightByte.wp s c h Q) : C Tryd.prog 77 #[.string s, .int .u8 c] h Q :=
 C_of_xs (H := strings_trimRightByte.H) (lcuts := strings_trimRightByte.lc) (rcuts := strings_trimRightByte.rc) (l := [.string s, .int .u8 c]) 2000 mixed Tryd.func77 rfl (by kernel_rfl) (@cast (strings_trimRightByte.wp s c h Q) _ (by kernel_rfl) hk)
theorem strings_trimRightByte.L1.ok {s : ByteArray} {c : Int} {h : Heap} {Q : Value → Heap → Prop} (hk : strings_trimRightByte.L1.wp s c h Q) : strings_trimRightByte.L1 s c h Q :=
 xs_ok (H := strings_trimRightByte.H) (lcuts := strings_trimRightByte.lc) (rcuts := strings_trimRightByte.rc) (fn := Tryd.f77) mixed Tryd.func77 2000 _ _ _ (@cast (strings_trimRightByte.L1.wp s c h Q) _ (by kernel_rfl) hk)

/-! strings.trimLeftByte -/
def strings_trimLeftByte.H : Hn := ⟨[], [], [], []⟩
def strings_trimLeftByte.lc : List Cut := [⟨1, [0, 1], []⟩]
def strings_trimLeftByte.rc : List Cut := []
def strings_trimLeftByte.L1 (s : ByteArray) (c : Int) (h : Heap) (Q : Value → Heap → Prop) : Prop :=
 TW Tryd.prog 76 17 [.code (cAt (bodyOf Tryd.f76) [1, 0, 0, 0]), .inLoop (cAt (bodyOf Tryd.f76) [1, 0, 0, 0]), .inBlock 0, .code (cAt (bodyOf Tryd.f76) [1, 1])] ⟨[(0, .v (.string s)), (1, .v (.int .u8 c))], [], .plain⟩ h Q
def strings_trimLeftByte.wp (s : ByteArray) (c : Int) (h : Heap) (Q : Value → Heap → Prop) : Prop :=
 strings_trimLeftByte.L1 s c h Q
def strings_trimLeftByte.L1.wp (s : ByteArray) (c : Int) (h : Heap) (Q : Value → Heap → Prop) : Prop :=
 xsIf (decide (0 < (↑s.size : Int))) (∃ (c_1 : UInt8), (0 : Int) ≤ 0 ∧ bget s 0 = some c_1 ∧ xsIf (decide ((↑c_1.toNat : Int) = c)) (((0 : Int) ≤ 1 ∧ (1 : Int) ≤ (↑s.size : Int)) ∧ strings_trimLeftByte.L1 (sext s 1 (↑s.size : Int)) c h Q) (Q (.string s) h))
 (Q (.string s) h)
theorem strings_trimLeftByte.ok {s : ByteArray} {c : Int} {h : Heap} {Q : Value → Heap → Prop} (hk : strings_trimLeftByte.wp s c h Q) : C Tryd.prog 76 #[.string s, .int .u8 c] h Q :=
 C_of_xs (H := strings_trimLeftByte.H) (lcuts := strings_trimLeftByte.lc) (rcuts := strings_trimLeftByte.rc) (l := [.string s, .int .u8 c]) 2000 mixed Tryd.func76 rfl (by kernel_rfl) (@cast (strings_trimLeftByte.wp s c h Q) _ (by kernel_rfl) hk)
theorem strings_trimLeftByte.L1.ok {s : ByteArray} {c : Int} {h : Heap} {Q : Value → Heap → Prop} (hk : strings_trimLeftByte.L1.wp s c h Q) : strings_trimLeftByte.L1 s c h Q :=
 xs_ok (H := strings_trimLeftByte.H) (lcuts := strings_trimLeftByte.lc) (rcuts := strings_trimLeftByte.rc) (fn := Tryd.f76) mixed Tryd.func76 2000 _ _ _ (@cast (strings_trimLeftByte.L1.wp s c h Q) _ (by kernel_rfl) hk)

/-! strings.trimRightASCII -/
/-! strings.trimLeftASCII -/
/-! unicode/utf8.RuneStart -/
/-! unicode/utf8.DecodeLastRuneInString -/
/-! strings.ContainsRune -/
/-! strings.trimRightUnicode -/
/-! strings.trimLeftUnicode -/
/-! strings.Trim -/
def strings_Trim.H : Hn := ⟨[5], [], [⟨4, .q 0 (.q 1 (.q 2 (.q 4 (.q 5 (.q 3 (.q 6 (.q 7 (.nil)))))))), []⟩], []⟩
def strings_Trim.lc : List Cut := []
def strings_Trim.rc : List Cut := [⟨3, [0, 1], []⟩, ⟨5, [0, 1], []⟩]
def strings_Trim.J3 (s : ByteArray) (cutset : ByteArray) (h : Heap) (Q : Value → Heap → Prop) : Prop :=
 TW Tryd.prog 64 43 [.code (cAt (bodyOf Tryd.f64) [1, 1, 0, 0]), .code (cAt (bodyOf Tryd.f64) [1, 1, 0, 1]), .code (cAt (bodyOf Tryd.f64) [1, 1, 1])] ⟨[(0, .v (.string s)), (1, .v (.string cutset))], [], .plain⟩ h Q
def strings_Trim.J5 (s : ByteArray) (cutset : ByteArray) (h : Heap) (Q : Value → Heap → Prop) : Prop :=
 TW Tryd.prog 64 43 [.code (cAt (bodyOf Tryd.f64) [1, 1, 1, 0, 0]), .code (cAt (bodyOf Tryd.f64) [1, 1, 1, 0, 1]), .code (cAt (bodyOf Tryd.f64) [1, 1, 1, 1])] ⟨[(0, .v (.string s)), (1, .v (.string cutset))], [], .plain⟩ h Q
def strings_Trim.wp (s : ByteArray) (cutset : ByteArray) (h : Heap) (Q : Value → Heap → Prop) : Prop :=
 xsIf (decide (s = { data := #[] })) (Q (.string s) h) (xsIf (decide (cutset = { data := #[] })) (Q (.string s) h) (strings_Trim.J3 s cutset h Q))
def strings_Trim.J3.wp (s : ByteArray) (cutset : ByteArray) (h : Heap) (Q : Value → Heap → Prop) : Prop :=
 xsIf (decide ((↑cutset.size : Int) = 1))
 (∃ (c : UInt8),
 (0 : Int) ≤ 0 ∧
 bget cutset 0 = some c ∧
 xsIf (decide ((↑c.toNat : Int) < 128))
 (∃ (c : UInt8),
 (0 : Int) ≤ 0 ∧
 bget cutset 0 = some c ∧
 ∃ (c_1 : UInt8),
 (0 : Int) ≤ 0 ∧
 bget cutset 0 = some c_1 ∧
 C Tryd.prog 77 #[.string s, .int .u8 (↑c.toNat : Int)] h fun (r : Value) (h' : Heap) =>
 ∃ (x : ByteArray),
 r = .string x ∧ C Tryd.prog 76 #[.string x, .int .u8 (↑c_1.toNat : Int)] h' fun (r : Value) (h' : Heap) => ∃ (x : ByteArray), r = .string x ∧ Q (.string x) h')
 (strings_Trim.J5 s cutset h Q))
 (strings_Trim.J5 s cutset h Q)
theorem strings_Trim.ok {s : ByteArray} {cutset : ByteArray} {h : Heap} {Q : Value → Heap → Prop} (hk : strings_Trim.wp s cutset h Q) : C Tryd.prog 64 #[.string s, .string cutset] h Q :=
 C_of_xs (H := strings_Trim.H) (lcuts := strings_Trim.lc) (rcuts := strings_Trim.rc) (l := [.string s, .string cutset]) 2000 mixed Tryd.func64 rfl (by kernel_rfl) (@cast (strings_Trim.wp s cutset h Q) _ (by kernel_rfl) hk)
theorem strings_Trim.J3.ok {s : ByteArray} {cutset : ByteArray} {h : Heap} {Q : Value → Heap → Prop} (hk : strings_Trim.J3.wp s cutset h Q) : strings_Trim.J3 s cutset h Q :=
 xs_ok (H := strings_Trim.H) (lcuts := strings_Trim.lc) (rcuts := [⟨5, [0, 1], []⟩]) (fn := Tryd.f64) mixed Tryd.func64 2000 _ _ _ (@cast (strings_Trim.J3.wp s cutset h Q) _ (by kernel_rfl) hk)
/-! gabion/rec.number -/
def rec_number.H : Hn := ⟨[], [], [], []⟩
def rec_number.lc : List Cut := []
def rec_number.rc : List Cut := []
def rec_number.wp (head : ByteArray) (k0 : Int) (h : Heap) (Q : Value → Heap → Prop) : Prop :=
 (0 ≤ IntKind.i64.wrap (IntKind.i64.wrap (3 + IntKind.i64.wrap (k0 * 4)) + 4) ∧ IntKind.i64.wrap (IntKind.i64.wrap (3 + IntKind.i64.wrap (k0 * 4)) + 4) ≤ (↑head.size : Int)) ∧
 (0 ≤ IntKind.i64.wrap (3 + IntKind.i64.wrap (k0 * 4)) ∧ IntKind.i64.wrap (3 + IntKind.i64.wrap (k0 * 4)) ≤ IntKind.i64.wrap (IntKind.i64.wrap (3 + IntKind.i64.wrap (k0 * 4)) + 4)) ∧
 C Tryd.prog 63 #[.string (sext head (IntKind.i64.wrap (3 + IntKind.i64.wrap (k0 * 4))) (IntKind.i64.wrap (IntKind.i64.wrap (3 + IntKind.i64.wrap (k0 * 4)) + 4)))] h fun (r : Value) (h' : Heap) =>
 ∃ (x : Int), r = .int .u64 x ∧ Q (.int .u32 (IntKind.u32.wrap x)) h'
theorem rec_number.ok {head : ByteArray} {k0 : Int} {h : Heap} {Q : Value → Heap → Prop} (hk : rec_number.wp head k0 h Q) : C Tryd.prog 65 #[.string head, .int .i64 k0] h Q :=
 C_of_xs (H := rec_number.H) (lcuts := rec_number.lc) (rcuts := rec_number.rc) (l := [.string head, .int .i64 k0]) 2000 mixed Tryd.func65 rfl (by kernel_rfl) (@cast (rec_number.wp head k0 h Q) _ (by kernel_rfl) hk)

/-! gabion/rec.begins -/
def rec_begins.H : Hn := ⟨[], [], [⟨7, .q 0 (.q 2 (.q 3 (.q 1 (.q 4 (.q 5 (.q 6 (.q 7 (.q 8 (.q 9 (.q 10 (.q 11 (.q 12 (.nil))))))))))))), []⟩, ⟨8, .q 0 (.q 2 (.q 4 (.q 7 (.q 8 (.q 9 (.q 1 (.q 3 (.q 5 (.q 6 (.q 10 (.q 11 (.q 12 (.q 13 (.q 14 (.q 15 (.q 16 (.q 17 (.q 18 (.q 19 (.q 20 (.q 21 (.nil)))))))))))))))))))))), [2, 3]⟩], []⟩
def rec_begins.lc : List Cut := []
def rec_begins.rc : List Cut := []
def rec_begins.wp (s : ByteArray) (h : Heap) (Q : Value → Heap → Prop) : Prop :=
 xsIf (decide ((↑s.size : Int) < 24))
 (Q
 (.tuple
 #[.agg #[.int .u32 0, .int .u32 0, .int .u32 0], .agg #[.int .u8 0, .string { data := #[] }], .int .i64 0,
 .bool false])
 h)
 (((0 : Int) ≤ 24 ∧ (24 : Int) ≤ (↑s.size : Int)) ∧
 C Tryd.prog 45 #[.string (sext s 0 24)] h fun (r : Value) (h' : Heap) =>
 ∃ (x : ByteArray),
 r = .string x ∧
 ((0 : Int) ≤ 2 ∧ (2 : Int) ≤ (↑x.size : Int)) ∧
 C Tryd.prog 63 #[.string (sext x 0 2)] h' fun (r : Value) (h' : Heap) =>
 ∃ (x_1 : Int),
 r = .int .u64 x_1 ∧
 ∃ (c : UInt8),
 (0 : Int) ≤ 2 ∧
 bget x 2 = some c ∧
 ((0 : Int) ≤ 24 ∧ (24 : Int) ≤ (↑s.size : Int)) ∧
 C Tryd.prog 38 #[.string x, .int .u8 17, .int .u8 1] h' fun (r : Value) (h' : Heap) =>
 ∃ (x_2 : ByteArray),
 r = .string x_2 ∧
 xsIf (decide (x_2 = sext s 0 24))
 (((0 : Int) ≤ 15 ∧ (15 : Int) ≤ (↑x.size : Int)) ∧
 C Tryd.prog 64 #[.string (sext x 15 (↑x.size : Int)), .string { data := #[UInt8.ofNat 0] }] h' fun (r : Value) (h' : Heap) =>
 ∃ (x_3 : ByteArray),
 r = .string x_3 ∧
 C Tryd.prog 65 #[.string x, .int .i64 0] h' fun (r : Value) (h' : Heap) =>
 ∃ (x_4 : Int),
 r = .int .u32 x_4 ∧
 C Tryd.prog 65 #[.string x, .int .i64 1] h' fun (r : Value) (h' : Heap) =>
 ∃ (x_5 : Int),
 r = .int .u32 x_5 ∧
 C Tryd.prog 65 #[.string x, .int .i64 2] h' fun (r : Value) (h' : Heap) =>
 ∃ (x : Int),
 r = .int .u32 x ∧
 xsIf (decide (x_3 = { data := #[] }))
 (C Tryd.prog 24 #[.agg #[.int .u8 (↑c.toNat : Int), .string { data := #[] }]] h' fun (r : Value) (h' : Heap) =>
 ∃ (x_6 : Bool),
 r = .bool x_6 ∧
 xsIf x_6
 (Q
 (.tuple
 #[.agg #[.int .u32 x_4, .int .u32 x_5, .int .u32 x],
 .agg #[.int .u8 (↑c.toNat : Int), .string { data := #[] }], .int .i64 (IntKind.i64.wrap x_1),
 .bool (decide (IntKind.i64.wrap x_1 ≤ 1024))])
 h')
 (Q
 (.tuple
 #[.agg #[.int .u32 x_4, .int .u32 x_5, .int .u32 x],
 .agg #[.int .u8 (↑c.toNat : Int), .string { data := #[] }], .int .i64 (IntKind.i64.wrap x_1),
 .bool false])
 h'))
 (Q
 (.tuple
 #[.agg #[.int .u32 x_4, .int .u32 x_5, .int .u32 x],
 .agg #[.int .u8 (↑c.toNat : Int), .string { data := #[] }], .int .i64 (IntKind.i64.wrap x_1),
 .bool false])
 h'))
 (C Tryd.prog 65 #[.string x, .int .i64 0] h' fun (r : Value) (h' : Heap) =>
 ∃ (x_3 : Int),
 r = .int .u32 x_3 ∧
 C Tryd.prog 65 #[.string x, .int .i64 1] h' fun (r : Value) (h' : Heap) =>
 ∃ (x_4 : Int),
 r = .int .u32 x_4 ∧
 C Tryd.prog 65 #[.string x, .int .i64 2] h' fun (r : Value) (h' : Heap) =>
 ∃ (x : Int),
 r = .int .u32 x ∧
 Q
 (.tuple
 #[.agg #[.int .u32 x_3, .int .u32 x_4, .int .u32 x],
 .agg #[.int .u8 (↑c.toNat : Int), .string { data := #[] }], .int .i64 (IntKind.i64.wrap x_1), .bool false])
 h'))
theorem rec_begins.ok {s : ByteArray} {h : Heap} {Q : Value → Heap → Prop} (hk : rec_begins.wp s h Q) : C Tryd.prog 44 #[.string s] h Q :=
 C_of_xs (H := rec_begins.H) (lcuts := rec_begins.lc) (rcuts := rec_begins.rc) (l := [.string s]) 2000 mixed Tryd.func44 rfl (by kernel_rfl) (@cast (rec_begins.wp s h Q) _ (by kernel_rfl) hk)

/-! gabion/rec.words -/
def rec_words.H : Hn := ⟨[], [], [], []⟩
def rec_words.lc : List Cut := []
def rec_words.rc : List Cut := []
def rec_words.wp (n : Int) (h : Heap) (Q : Value → Heap → Prop) : Prop :=
 Q (.int .i64 (iquo .i64 (IntKind.i64.wrap (IntKind.i64.wrap (n + 7) - 1)) 7)) h
theorem rec_words.ok {n : Int} {h : Heap} {Q : Value → Heap → Prop} (hk : rec_words.wp n h Q) : C Tryd.prog 43 #[.int .i64 n] h Q :=
 C_of_xs (H := rec_words.H) (lcuts := rec_words.lc) (rcuts := rec_words.rc) (l := [.int .i64 n]) 2000 mixed Tryd.func43 rfl (by kernel_rfl) (@cast (rec_words.wp n h Q) _ (by kernel_rfl) hk)

/-! gabion/rec.Decode -/
def rec_Decode.H : Hn := ⟨[], [], [⟨9, .q 0 (.q 1 (.q 3 (.q 4 (.q 5 (.q 6 (.q 2 (.q 7 (.q 8 (.q 9 (.q 10 (.q 12 (.q 13 (.q 14 (.q 15 (.q 16 (.q 11 (.q 17 (.q 18 (.nil))))))))))))))))))), []⟩, ⟨11, .q 0 (.q 1 (.q 2 (.q 4 (.q 5 (.q 6 (.q 7 (.q 8 (.q 3 (.q 9 (.nil)))))))))), []⟩, ⟨13, .q 0 (.q 1 (.q 2 (.q 3 (.q 4 (.nil))))), [2, 3]⟩], []⟩
def rec_Decode.lc : List Cut := []
def rec_Decode.rc : List Cut := [⟨6, [0, 2, 3, 5, 6, 7, 9, 10], [2, 3, 5, 6]⟩, ⟨11, [0, 2, 3, 5, 6, 10], [2, 3, 5, 6]⟩]
def rec_Decode.J6 (s : ByteArray) (n : Int) (at0 : Int) (end0 : Int) (t2_0 : Int) (t2_1 : Int) (t2_2 : Int) (t3_0 : Int) (t3_1 : ByteArray) (stamp_0 : Int) (stamp_1 : Int) (stamp_2 : Int) (r0_0 : Int) (r0_1 : ByteArray) (h : Heap) (Q : Value → Heap → Prop) : Prop :=
 TW Tryd.prog 26 89 [.code (cAt (bodyOf Tryd.f26) [1, 1, 1, 1, 1, 0]), .code (cAt (bodyOf Tryd.f26) [1, 1, 1, 1, 1, 1])] ⟨[(0, .v (.string s)), (2, .p 2 0), (3, .p 3 0), (5, .p 5 0), (6, .p 6 0), (7, .v (.int .i64 n)), (9, .v (.int .i64 at0)), (10, .v (.int .i64 end0))], [(2, [.int .u32 t2_0, .int .u32 t2_1, .int .u32 t2_2]), (3, [.int .u8 t3_0, .string t3_1]), (5, [.int .u32 stamp_0, .int .u32 stamp_1, .int .u32 stamp_2]), (6, [.int .u8 r0_0, .string r0_1])], .plain⟩ h Q
def rec_Decode.J11 (s : ByteArray) (end0 : Int) (t2_0 : Int) (t2_1 : Int) (t2_2 : Int) (t3_0 : Int) (t3_1 : ByteArray) (stamp_0 : Int) (stamp_1 : Int) (stamp_2 : Int) (r0_0 : Int) (r0_1 : ByteArray) (h : Heap) (Q : Value → Heap → Prop) : Prop :=
 TW Tryd.prog 26 89 [.code (cAt (bodyOf Tryd.f26) [1, 1, 1, 1, 1, 1, 1, 1, 1, 0, 0]), .code (cAt (bodyOf Tryd.f26) [1, 1, 1, 1, 1, 1, 1, 1, 1, 0, 1]), .code (cAt (bodyOf Tryd.f26) [1, 1, 1, 1, 1, 1, 1, 1, 1, 1])] ⟨[(0, .v (.string s)), (2, .p 2 0), (3, .p 3 0), (5, .p 5 0), (6, .p 6 0), (10, .v (.int .i64 end0))], [(2, [.int .u32 t2_0, .int .u32 t2_1, .int .u32 t2_2]), (3, [.int .u8 t3_0, .string t3_1]), (5, [.int .u32 stamp_0, .int .u32 stamp_1, .int .u32 stamp_2]), (6, [.int .u8 r0_0, .string r0_1])], .plain⟩ h Q
def rec_Decode.wp (s : ByteArray) (h : Heap) (Q : Value → Heap → Prop) : Prop :=
 C Tryd.prog 44 #[.string s] h fun (r : Value) (h' : Heap) =>
 ∃ (x : Int),
 ∃ (x_1 : Int),
 ∃ (x_2 : Int),
 ∃ (x_3 : Int),
 ∃ (x_4 : ByteArray),
 ∃ (x_5 : Int),
 ∃ (x_6 : Bool),
 r =
 .tuple
 #[.agg #[.int .u32 x, .int .u32 x_1, .int .u32 x_2], .agg #[.int .u8 x_3, .string x_4], .int .i64 x_5,
 .bool x_6] ∧
 C Tryd.prog 43 #[.int .i64 x_5] h' fun (r : Value) (h' : Heap) =>
 ∃ (x_7 : Int),
 r = .int .i64 x_7 ∧
 xsIf (!x_6)
 (Q
 (.tuple
 #[.agg #[.int .u32 0, .int .u32 0, .int .u32 0], .agg #[.int .u8 0, .string { data := #[] }],
 .int .i64 4])
 h')
 (xsIf (decide ((↑s.size : Int) < IntKind.i64.wrap (IntKind.i64.wrap (24 + IntKind.i64.wrap (8 * x_7)) + 8)))
 (Q
 (.tuple
 #[.agg #[.int .u32 0, .int .u32 0, .int .u32 0], .agg #[.int .u8 0, .string { data := #[] }],
 .int .i64 4])
 h')
 (rec_Decode.J6 s x_5 24 (IntKind.i64.wrap (24 + IntKind.i64.wrap (8 * x_7))) 0 0 0 0 { data := #[] } x x_1 x_2 x_3 x_4 h' Q))
def rec_Decode.J6.wp (s : ByteArray) (n : Int) (at0 : Int) (end0 : Int) (t2_0 : Int) (t2_1 : Int) (t2_2 : Int) (t3_0 : Int) (t3_1 : ByteArray) (stamp_0 : Int) (stamp_1 : Int) (stamp_2 : Int) (r0_0 : Int) (r0_1 : ByteArray) (h : Heap) (Q : Value → Heap → Prop) : Prop :=
 (0 ≤ end0 ∧ end0 ≤ (↑s.size : Int)) ∧
 (0 ≤ at0 ∧ at0 ≤ end0) ∧
 C Tryd.prog 45 #[.string (sext s at0 end0)] h fun (r : Value) (h' : Heap) =>
 ∃ (x : ByteArray),
 r = .string x ∧
 (0 ≤ imin n (↑x.size : Int) ∧ imin n (↑x.size : Int) ≤ (↑x.size : Int)) ∧
 (0 ≤ IntKind.i64.wrap (end0 + 8) ∧ IntKind.i64.wrap (end0 + 8) ≤ (↑s.size : Int)) ∧
 (0 ≤ end0 ∧ end0 ≤ IntKind.i64.wrap (end0 + 8)) ∧
 C Tryd.prog 45 #[.string (sext s end0 (IntKind.i64.wrap (end0 + 8)))] h' fun (r : Value) (h' : Heap) =>
 ∃ (x_1 : ByteArray),
 r = .string x_1 ∧
 (0 ≤ end0 ∧ end0 ≤ (↑s.size : Int)) ∧
 (0 ≤ at0 ∧ at0 ≤ end0) ∧
 C Tryd.prog 38 #[.string (sext x 0 (imin n (↑x.size : Int))), .int .u8 32, .int .u8 0] h' fun (r : Value) (h' : Heap) =>
 ∃ (x_2 : ByteArray),
 r = .string x_2 ∧
 xsIf (decide (x_2 ≠ sext s at0 end0))
 (Q
 (.tuple
 #[.agg #[.int .u32 0, .int .u32 0, .int .u32 0], .agg #[.int .u8 0, .string { data := #[] }],
 .int .i64 4])
 h')
 (((0 : Int) ≤ 4 ∧ (4 : Int) ≤ (↑x_1.size : Int)) ∧
 (0 ≤ IntKind.i64.wrap (end0 + 8) ∧ IntKind.i64.wrap (end0 + 8) ≤ (↑s.size : Int)) ∧
 (0 ≤ end0 ∧ end0 ≤ IntKind.i64.wrap (end0 + 8)) ∧
 C Tryd.prog 38 #[.string (sext x_1 0 4), .int .u8 48, .int .u8 0] h' fun (r : Value) (h' : Heap) =>
 ∃ (x_3 : ByteArray),
 r = .string x_3 ∧
 xsIf (decide (x_3 ≠ sext s end0 (IntKind.i64.wrap (end0 + 8))))
 (Q
 (.tuple
 #[.agg #[.int .u32 0, .int .u32 0, .int .u32 0],
 .agg #[.int .u8 0, .string { data := #[] }], .int .i64 4])
 h')
 (rec_Decode.J11 s end0 t2_0 t2_1 t2_2 t3_0 t3_1 stamp_0 stamp_1 stamp_2 r0_0 (sext x 0 (imin n (↑x.size : Int))) h' Q))
def rec_Decode.J11.wp (s : ByteArray) (end0 : Int) (t2_0 : Int) (t2_1 : Int) (t2_2 : Int) (t3_0 : Int) (t3_1 : ByteArray) (stamp_0 : Int) (stamp_1 : Int) (stamp_2 : Int) (r0_0 : Int) (r0_1 : ByteArray) (h : Heap) (Q : Value → Heap → Prop) : Prop :=
 (0 ≤ end0 ∧ end0 ≤ (↑s.size : Int)) ∧
 (0 ≤ IntKind.i64.wrap (end0 + 8) ∧ IntKind.i64.wrap (end0 + 8) ≤ (↑s.size : Int)) ∧
 (0 ≤ end0 ∧ end0 ≤ IntKind.i64.wrap (end0 + 8)) ∧
 C Tryd.prog 39 #[.string (sext s 0 end0)] h fun (r : Value) (h' : Heap) =>
 ∃ (x : ByteArray),
 r = .string x ∧
 xsIf (decide (x ≠ sext s end0 (IntKind.i64.wrap (end0 + 8))))
 (Q
 (.tuple
 #[.agg #[.int .u32 0, .int .u32 0, .int .u32 0], .agg #[.int .u8 0, .string { data := #[] }],
 .int .i64 5])
 h')
 (Q
 (.tuple
 #[.agg #[.int .u32 stamp_0, .int .u32 stamp_1, .int .u32 stamp_2], .agg #[.int .u8 r0_0, .string r0_1],
 .int .i64 0])
 h')
theorem rec_Decode.ok {s : ByteArray} {h : Heap} {Q : Value → Heap → Prop} (hk : rec_Decode.wp s h Q) : C Tryd.prog 26 #[.string s] h Q :=
 C_of_xs (H := rec_Decode.H) (lcuts := rec_Decode.lc) (rcuts := rec_Decode.rc) (l := [.string s]) 2000 mixed Tryd.func26 rfl (by kernel_rfl) (@cast (rec_Decode.wp s h Q) _ (by kernel_rfl) hk)
theorem rec_Decode.J6.ok {s : ByteArray} {n : Int} {at0 : Int} {end0 : Int} {t2_0 : Int} {t2_1 : Int} {t2_2 : Int} {t3_0 : Int} {t3_1 : ByteArray} {stamp_0 : Int} {stamp_1 : Int} {stamp_2 : Int} {r0_0 : Int} {r0_1 : ByteArray} {h : Heap} {Q : Value → Heap → Prop} (hk : rec_Decode.J6.wp s n at0 end0 t2_0 t2_1 t2_2 t3_0 t3_1 stamp_0 stamp_1 stamp_2 r0_0 r0_1 h Q) : rec_Decode.J6 s n at0 end0 t2_0 t2_1 t2_2 t3_0 t3_1 stamp_0 stamp_1 stamp_2 r0_0 r0_1 h Q :=
 xs_ok (H := rec_Decode.H) (lcuts := rec_Decode.lc) (rcuts := [⟨11, [0, 2, 3, 5, 6, 10], [2, 3, 5, 6]⟩]) (fn := Tryd.f26) mixed Tryd.func26 2000 _ _ _ (@cast (rec_Decode.J6.wp s n at0 end0 t2_0 t2_1 t2_2 t3_0 t3_1 stamp_0 stamp_1 stamp_2 r0_0 r0_1 h Q) _ (by kernel_rfl) hk)
theorem rec_Decode.J11.ok {s : ByteArray} {end0 : Int} {t2_0 : Int} {t2_1 : Int} {t2_2 : Int} {t3_0 : Int} {t3_1 : ByteArray} {stamp_0 : Int} {stamp_1 : Int} {stamp_2 : Int} {r0_0 : Int} {r0_1 : ByteArray} {h : Heap} {Q : Value → Heap → Prop} (hk : rec_Decode.J11.wp s end0 t2_0 t2_1 t2_2 t3_0 t3_1 stamp_0 stamp_1 stamp_2 r0_0 r0_1 h Q) : rec_Decode.J11 s end0 t2_0 t2_1 t2_2 t3_0 t3_1 stamp_0 stamp_1 stamp_2 r0_0 r0_1 h Q :=
 xs_ok (H := rec_Decode.H) (lcuts := rec_Decode.lc) (rcuts := [⟨6, [0, 2, 3, 5, 6, 7, 9, 10], [2, 3, 5, 6]⟩]) (fn := Tryd.f26) mixed Tryd.func26 2000 _ _ _ (@cast (rec_Decode.J11.wp s end0 t2_0 t2_1 t2_2 t3_0 t3_1 stamp_0 stamp_1 stamp_2 r0_0 r0_1 h Q) _ (by kernel_rfl) hk)

/-! (gabion/rec.Record).Size -/
def rec_Record_Size.H : Hn := ⟨[], [], [], []⟩
def rec_Record_Size.lc : List Cut := []
def rec_Record_Size.rc : List Cut := []
def rec_Record_Size.wp (r0_0 : Int) (r0_1 : ByteArray) (h : Heap) (Q : Value → Heap → Prop) : Prop :=
 C Tryd.prog 24 #[.agg #[.int .u8 r0_0, .string r0_1]] h fun (r : Value) (h' : Heap) =>
 ∃ (x : Bool),
 r = .bool x ∧
 xsIf (!x) (Q (.int .i64 0) h')
 (C Tryd.prog 43 #[.int .i64 (↑r0_1.size : Int)] h' fun (r : Value) (h' : Heap) =>
 ∃ (x : Int), r = .int .i64 x ∧ Q (.int .i64 (IntKind.i64.wrap (8 * IntKind.i64.wrap (IntKind.i64.wrap (3 + x) + 1)))) h')
theorem rec_Record_Size.ok {r0_0 : Int} {r0_1 : ByteArray} {h : Heap} {Q : Value → Heap → Prop} (hk : rec_Record_Size.wp r0_0 r0_1 h Q) : C Tryd.prog 25 #[.agg #[.int .u8 r0_0, .string r0_1]] h Q :=
 C_of_xs (H := rec_Record_Size.H) (lcuts := rec_Record_Size.lc) (rcuts := rec_Record_Size.rc) (l := [.agg #[.int .u8 r0_0, .string r0_1]]) 2000 mixed Tryd.func25 rfl (by kernel_rfl) (@cast (rec_Record_Size.wp r0_0 r0_1 h Q) _ (by kernel_rfl) hk)

/-! (gabion/rec.Stamp).Follows -/
def rec_Stamp_Follows.H : Hn := ⟨[], [], [], []⟩
def rec_Stamp_Follows.lc : List Cut := []
def rec_Stamp_Follows.rc : List Cut := []
def rec_Stamp_Follows.wp (s_0 : Int) (s_1 : Int) (s_2 : Int) (o_0 : Int) (o_1 : Int) (o_2 : Int) (h : Heap) (Q : Value → Heap → Prop) : Prop :=
 xsIf (decide (s_0 = o_0)) (xsIf (decide (o_1 ≤ s_1)) (xsIf (decide (o_2 ≠ 4294967295)) (Q (.bool (decide (s_2 = IntKind.u32.wrap (o_2 + 1)))) h) (Q (.bool false) h)) (Q (.bool false) h)) (Q (.bool false) h)
theorem rec_Stamp_Follows.ok {s_0 : Int} {s_1 : Int} {s_2 : Int} {o_0 : Int} {o_1 : Int} {o_2 : Int} {h : Heap} {Q : Value → Heap → Prop} (hk : rec_Stamp_Follows.wp s_0 s_1 s_2 o_0 o_1 o_2 h Q) : C Tryd.prog 28 #[.agg #[.int .u32 s_0, .int .u32 s_1, .int .u32 s_2], .agg #[.int .u32 o_0, .int .u32 o_1, .int .u32 o_2]] h Q :=
 C_of_xs (H := rec_Stamp_Follows.H) (lcuts := rec_Stamp_Follows.lc) (rcuts := rec_Stamp_Follows.rc) (l := [.agg #[.int .u32 s_0, .int .u32 s_1, .int .u32 s_2], .agg #[.int .u32 o_0, .int .u32 o_1, .int .u32 o_2]]) 2000 mixed Tryd.func28 rfl (by kernel_rfl) (@cast (rec_Stamp_Follows.wp s_0 s_1 s_2 o_0 o_1 o_2 h Q) _ (by kernel_rfl) hk)

/-! gabion/gabionlaw12.wakes -/
def gabionlaw12_wakes.H : Hn := ⟨[], [], [], []⟩
def gabionlaw12_wakes.lc : List Cut := []
def gabionlaw12_wakes.rc : List Cut := []
def gabionlaw12_wakes.wp  (h : Heap) (Q : Value → Heap → Prop) : Prop :=
 C Tryd.prog 20 #[.agg #[.int .u32 1, .int .u32 0, .int .u32 2], .agg #[.int .u8 5, .string { data := #[] }]] h
 fun (r : Value) (h' : Heap) =>
 ∃ (x : ByteArray),
 ∃ (x_1 : Int),
 r = .tuple #[.string x, .int .i64 x_1] ∧
 (↑(x.size + 4) : Int) ≤ 9223372036854775807 ∧
 C Tryd.prog 26 #[.string (x ++ { data := #[UInt8.ofNat 109, UInt8.ofNat 111, UInt8.ofNat 114, UInt8.ofNat 101] })] h' fun (r : Value) (h' : Heap) =>
 ∃ (x_2 : Int),
 ∃ (x_3 : Int),
 ∃ (x_4 : Int),
 ∃ (x_5 : Int),
 ∃ (x_6 : ByteArray),
 ∃ (x_7 : Int),
 r =
 .tuple
 #[.agg #[.int .u32 x_2, .int .u32 x_3, .int .u32 x_4], .agg #[.int .u8 x_5, .string x_6],
 .int .i64 x_7] ∧
 xsIf (decide (x_1 = 0))
 (xsIf (decide ((↑x.size : Int) = 32))
 (C Tryd.prog 25 #[.agg #[.int .u8 5, .string { data := #[] }]] h' fun (r : Value) (h' : Heap) =>
 ∃ (x : Int),
 r = .int .i64 x ∧
 xsIf (decide (x = 32))
 (xsIf (decide (x_7 = 0))
 (xsIf (decide (x_5 = 5) && (decide (x_6 = { data := #[] }) && true))
 (xsIf (decide (x_2 = 1) && (decide (x_3 = 0) && (decide (x_4 = 2) && true)))
 (C Tryd.prog 28
 #[.agg #[.int .u32 1, .int .u32 0, .int .u32 3],
 .agg #[.int .u32 x_2, .int .u32 x_3, .int .u32 x_4]]
 h' fun (r : Value) (h' : Heap) => ∃ (x : Bool), r = .bool x ∧ Q (.bool x) h')
 (Q (.bool false) h'))
 (Q (.bool false) h'))
 (Q (.bool false) h'))
 (Q (.bool false) h'))
 (Q (.bool false) h'))
 (Q (.bool false) h')
theorem gabionlaw12_wakes.ok {h : Heap} {Q : Value → Heap → Prop} (hk : gabionlaw12_wakes.wp h Q) : C Tryd.prog 23 #[] h Q :=
 C_of_xs (H := gabionlaw12_wakes.H) (lcuts := gabionlaw12_wakes.lc) (rcuts := gabionlaw12_wakes.rc) (l := []) 2000 mixed Tryd.func23 rfl (by kernel_rfl) (@cast (gabionlaw12_wakes.wp h Q) _ (by kernel_rfl) hk)

/-! gabion/gabionref12.Size -/
/-! gabion/gabionref01.Get -/
/-! gabion/gabionref12.Decode -/
/-! gabion/gabionlaw12.RecBytes -/
/-! gabion/gabionref12.Follows -/
/-! gabion/gabionlaw12.RecFollows -/
/-! gabion/gabionlaw12.RecBack -/
/-! gabion/gabionlaw12.RecWords -/
def gabionlaw12_RecWords.H : Hn := ⟨[], [3, 4, 7], [⟨5, .q 0 (.q 1 (.q 2 (.q 4 (.q 5 (.q 6 (.q 7 (.q 8 (.q 9 (.q 10 (.q 11 (.q 12 (.q 13 (.q 3 (.q 14 (.q 15 (.q 16 (.q 17 (.q 18 (.q 19 (.nil)))))))))))))))))))), []⟩, ⟨13, .q 0 (.q 1 (.q 2 (.q 3 (.q 4 (.q 5 (.q 6 (.br 7 (.q 8 (.q 9 (.q 10 (.q 11 (.br 12 (.q 13 (.q 14 (.q 15 (.q 16 (.nil))))) (.one 13 (.q 12 (.q 14 (.q 15 (.q 16 (.nil))))))))))) (.br 12 (.br 7 (.q 8 (.q 9 (.q 10 (.q 11 (.q 13 (.q 14 (.q 15 (.q 16 (.nil))))))))) (.one 13 (.q 7 (.q 8 (.q 9 (.q 10 (.q 11 (.q 14 (.q 15 (.q 16 (.nil))))))))))) (.one 13 (.br 7 (.q 8 (.q 9 (.q 10 (.q 11 (.q 12 (.q 14 (.q 15 (.q 16 (.nil))))))))) (.one 12 (.q 7 (.q 8 (.q 9 (.q 10 (.q 11 (.q 14 (.q 15 (.q 16 (.nil)))))))))))))))))))), [12, 13]⟩], []⟩
def gabionlaw12_RecWords.lc : List Cut := [⟨3, [2, 3, 4, 7, 21], [3, 4, 7]⟩, ⟨11, [2, 7, 11], [7]⟩, ⟨18, [2, 7, 15, 16], [7]⟩, ⟨22, [15, 17], []⟩]
def gabionlaw12_RecWords.rc : List Cut := [⟨8, [2, 3, 4, 7, 8, 9, 21], [3, 4, 7]⟩]
def gabionlaw12_RecWords.L3 (pick : Int) (t21 : Int) (n_3 : List Value) (s_4 : List Value) (b : List Value) (h : Heap) (Q : Value → Heap → Prop) : Prop :=
 TW Tryd.prog 10 122 [.code (cAt (bodyOf Tryd.f10) [1, 1, 0, 1, 0, 0]), .inLoop (cAt (bodyOf Tryd.f10) [1, 1, 0, 1, 0, 0]), .inBlock 0, .code (cAt (bodyOf Tryd.f10) [1, 1, 1])] ⟨[(2, .v (.int .u64 pick)), (3, .p 3 0), (4, .p 4 0), (7, .p 7 0), (21, .v (.int .i64 t21))], [(3, n_3), (4, s_4), (7, b)], .plain⟩ h Q
def gabionlaw12_RecWords.J8 (pick : Int) (i : Int) (t : ByteArray) (t21 : Int) (n_3 : List Value) (s_4 : List Value) (b : List Value) (h : Heap) (Q : Value → Heap → Prop) : Prop :=
 TW Tryd.prog 10 122 [.code (cAt (bodyOf Tryd.f10) [1, 1, 0, 1, 0, 0, 1, 1, 0, 0, 1, 1, 1]), .inBlock 1, .code (cAt (bodyOf Tryd.f10) [1, 1, 0, 1, 0, 0, 1, 1, 1]), .inLoop (cAt (bodyOf Tryd.f10) [1, 1, 0, 1, 0, 0]), .inBlock 0, .code (cAt (bodyOf Tryd.f10) [1, 1, 1])] ⟨[(2, .v (.int .u64 pick)), (3, .p 3 0), (4, .p 4 0), (7, .p 7 0), (8, .v (.int .i64 i)), (9, .v (.string t)), (21, .v (.int .i64 t21))], [(3, n_3), (4, s_4), (7, b)], .plain⟩ h Q
def gabionlaw12_RecWords.L11 (pick : Int) (k0_11 : Int) (b : List Value) (h : Heap) (Q : Value → Heap → Prop) : Prop :=
 TW Tryd.prog 10 122 [.code (cAt (bodyOf Tryd.f10) [1, 1, 1, 0, 1, 0, 0]), .inLoop (cAt (bodyOf Tryd.f10) [1, 1, 1, 0, 1, 0, 0]), .inBlock 2, .code (cAt (bodyOf Tryd.f10) [1, 1, 1, 1])] ⟨[(2, .v (.int .u64 pick)), (7, .p 7 0), (11, .v (.int .i64 k0_11))], [(7, b)], .plain⟩ h Q
def gabionlaw12_RecWords.L18 (pick : Int) (mixed0 : ByteArray) (k0_16 : Int) (b : List Value) (h : Heap) (Q : Value → Heap → Prop) : Prop :=
 TW Tryd.prog 10 122 [.code (cAt (bodyOf Tryd.f10) [1, 1, 1, 1, 1, 0, 1, 0, 0]), .inLoop (cAt (bodyOf Tryd.f10) [1, 1, 1, 1, 1, 0, 1, 0, 0]), .inBlock 4, .code (cAt (bodyOf Tryd.f10) [1, 1, 1, 1, 1, 1])] ⟨[(2, .v (.int .u64 pick)), (7, .p 7 0), (15, .v (.string mixed0)), (16, .v (.int .i64 k0_16))], [(7, b)], .plain⟩ h Q
def gabionlaw12_RecWords.L22 (mixed0 : ByteArray) (k0_17 : Int) (h : Heap) (Q : Value → Heap → Prop) : Prop :=
 TW Tryd.prog 10 122 [.code (cAt (bodyOf Tryd.f10) [1, 1, 1, 1, 1, 1, 0, 1, 0, 0]), .inLoop (cAt (bodyOf Tryd.f10) [1, 1, 1, 1, 1, 1, 0, 1, 0, 0]), .inBlock 6, .code (cAt (bodyOf Tryd.f10) [1, 1, 1, 1, 1, 1, 1])] ⟨[(15, .v (.string mixed0)), (17, .v (.int .i64 k0_17))], [], .plain⟩ h Q
def gabionlaw12_RecWords.wp (n_0 : Int) (n_1 : Int) (n_2 : Int) (n_3 : Int) (n_4 : Int) (n_5 : Int) (s_0 : ByteArray) (s_1 : ByteArray) (pick : Int) (h : Heap) (Q : Value → Heap → Prop) : Prop :=
 gabionlaw12_RecWords.L3 pick 0 [.int .u32 n_0, .int .u32 n_1, .int .u32 n_2, .int .u32 n_3, .int .u32 n_4, .int .u32 n_5] [.string s_0, .string s_1]
 [.string { data := #[] }, .string { data := #[] }] h Q
def gabionlaw12_RecWords.L3.wp (pick : Int) (t21 : Int) (n_3 : List Value) (s_4 : List Value) (b : List Value) (h : Heap) (Q : Value → Heap → Prop) : Prop :=
 xsIf (decide (t21 < 2))
 ((0 ≤ t21 ∧ t21 < (↑2 : Int)) ∧
 0 + t21.toNat * 3 + 3 ≤ n_3.length ∧
 ∃ (x : Int),
 lget n_3 (0 + t21.toNat * 3) = some (.int .u32 x) ∧
 ∃ (x_1 : Int),
 lget n_3 (0 + t21.toNat * 3 + 1) = some (.int .u32 x_1) ∧
 ∃ (x_2 : Int),
 lget n_3 (0 + t21.toNat * 3 + 1 + 1) = some (.int .u32 x_2) ∧
 (0 ≤ t21 ∧ t21 < (↑2 : Int)) ∧
 ∃ (x_3 : ByteArray),
 lget s_4 (0 + t21.toNat * 1) = some (.string x_3) ∧
 (0 ≤ t21 ∧ t21 < (↑2 : Int)) ∧
 ∃ (x_4 : ByteArray),
 lget s_4 (0 + t21.toNat * 1) = some (.string x_4) ∧
 (0 ≤ imin (↑x_4.size : Int) 400 ∧ imin (↑x_4.size : Int) 400 ≤ (↑x_3.size : Int)) ∧
 C Tryd.prog 21 #[.agg #[.int .u32 x, .int .u32 x_1, .int .u32 x_2]] h fun (r : Value) (h' : Heap) =>
 ∃ (x : Int),
 ∃ (x_5 : Int),
 ∃ (x_6 : Int),
 r = .agg #[.int .u32 x, .int .u32 x_5, .int .u32 x_6] ∧
 C Tryd.prog 20
 #[.agg #[.int .u32 x, .int .u32 x_5, .int .u32 x_6],
 .agg #[.int .u8 7, .string (sext x_3 0 (imin (↑x_4.size : Int) 400))]]
 h' fun (r : Value) (h' : Heap) =>
 ∃ (x : ByteArray),
 ∃ (x_7 : Int),
 r = .tuple #[.string x, .int .i64 x_7] ∧
 xsIf (decide (x_7 ≠ 0)) (Q (.bool false) h') (xsIf (decide ((↑x.size : Int) < 8)) (Q (.bool false) h') (gabionlaw12_RecWords.J8 pick t21 x t21 n_3 s_4 b h' Q)))
 (gabionlaw12_RecWords.L11 pick 8 b h Q)
def gabionlaw12_RecWords.J8.wp (pick : Int) (i : Int) (t : ByteArray) (t21 : Int) (n_3 : List Value) (s_4 : List Value) (b : List Value) (h : Heap) (Q : Value → Heap → Prop) : Prop :=
 (0 ≤ i ∧ i < (↑2 : Int)) ∧ 0 + i.toNat * 1 + 1 ≤ b.length ∧ gabionlaw12_RecWords.L3 pick (IntKind.i64.wrap (t21 + 1)) n_3 s_4 (lput b (0 + i.toNat * 1) [.string t]) h Q
def gabionlaw12_RecWords.L11.wp (pick : Int) (k0_11 : Int) (b : List Value) (h : Heap) (Q : Value → Heap → Prop) : Prop :=
 ∃ (x : ByteArray),
 lget b 0 = some (.string x) ∧
 xsIf (decide (IntKind.i64.wrap (k0_11 + 8) ≤ (↑x.size : Int)))
 (∃ (x : ByteArray),
 lget b 0 = some (.string x) ∧
 (0 ≤ k0_11 ∧ k0_11 ≤ (↑x.size : Int)) ∧
 ∃ (x_1 : ByteArray),
 lget b 1 = some (.string x_1) ∧
 (↑((sext x k0_11 (↑x.size : Int)).size + x_1.size) : Int) ≤ 9223372036854775807 ∧
 (C Tryd.prog 26 #[.string (sext x k0_11 (↑x.size : Int) ++ x_1)] h fun (r : Value) (h' : Heap) =>
 ∃ (x : Int),
 ∃ (x_2 : Int),
 ∃ (x_3 : Int),
 ∃ (x_4 : Int),
 ∃ (x_5 : ByteArray),
 ∃ (x_6 : Int),
 r =
 .tuple
 #[.agg #[.int .u32 x, .int .u32 x_2, .int .u32 x_3], .agg #[.int .u8 x_4, .string x_5],
 .int .i64 x_6] ∧
 xsIf (decide (x_6 ≠ 4)) (Q (.bool false) h') (gabionlaw12_RecWords.L11 pick (IntKind.i64.wrap (k0_11 + 8)) b h' Q) ∧
 xsIf (decide (x_6 ≠ 4)) (Q (.bool false) h') (gabionlaw12_RecWords.L11 pick (IntKind.i64.wrap (k0_11 + 8)) b h' Q)) ∧
 ((C Tryd.prog 26 #[.string (sext x k0_11 (↑x.size : Int) ++ x_1)] h fun (r : Value) (h' : Heap) =>
 ∃ (x : Int),
 ∃ (x_2 : Int),
 ∃ (x_3 : Int),
 ∃ (x_4 : Int),
 ∃ (x_5 : ByteArray),
 ∃ (x_6 : Int),
 r =
 .tuple
 #[.agg #[.int .u32 x, .int .u32 x_2, .int .u32 x_3], .agg #[.int .u8 x_4, .string x_5],
 .int .i64 x_6] ∧
 xsIf (decide (x_6 ≠ 4)) (Q (.bool false) h') (gabionlaw12_RecWords.L11 pick (IntKind.i64.wrap (k0_11 + 8)) b h' Q)) ∧
 C Tryd.prog 26 #[.string (sext x k0_11 (↑x.size : Int) ++ x_1)] h fun (r : Value) (h' : Heap) =>
 ∃ (x : Int),
 ∃ (x_2 : Int),
 ∃ (x_3 : Int),
 ∃ (x_4 : Int),
 ∃ (x_5 : ByteArray),
 ∃ (x_6 : Int),
 r =
 .tuple
 #[.agg #[.int .u32 x, .int .u32 x_2, .int .u32 x_3], .agg #[.int .u8 x_4, .string x_5],
 .int .i64 x_6] ∧
 xsIf (decide (x_6 ≠ 4)) (Q (.bool false) h') (gabionlaw12_RecWords.L11 pick (IntKind.i64.wrap (k0_11 + 8)) b h' Q)) ∧
 (C Tryd.prog 26 #[.string (sext x k0_11 (↑x.size : Int) ++ x_1)] h fun (r : Value) (h' : Heap) =>
 ∃ (x : Int),
 ∃ (x_2 : Int),
 ∃ (x_3 : Int),
 ∃ (x_4 : Int),
 ∃ (x_5 : ByteArray),
 ∃ (x_6 : Int),
 r =
 .tuple
 #[.agg #[.int .u32 x, .int .u32 x_2, .int .u32 x_3], .agg #[.int .u8 x_4, .string x_5],
 .int .i64 x_6] ∧
 xsIf (decide (x_6 ≠ 4)) (Q (.bool false) h') (gabionlaw12_RecWords.L11 pick (IntKind.i64.wrap (k0_11 + 8)) b h' Q)) ∧
 C Tryd.prog 26 #[.string (sext x k0_11 (↑x.size : Int) ++ x_1)] h fun (r : Value) (h' : Heap) =>
 ∃ (x : Int),
 ∃ (x_2 : Int),
 ∃ (x_3 : Int),
 ∃ (x_4 : Int),
 ∃ (x_5 : ByteArray),
 ∃ (x_6 : Int),
 r =
 .tuple
 #[.agg #[.int .u32 x, .int .u32 x_2, .int .u32 x_3], .agg #[.int .u8 x_4, .string x_5],
 .int .i64 x_6] ∧
 xsIf (decide (x_6 ≠ 4)) (Q (.bool false) h') (gabionlaw12_RecWords.L11 pick (IntKind.i64.wrap (k0_11 + 8)) b h' Q))
 (∃ (x : ByteArray), lget b 0 = some (.string x) ∧ ((0 : Int) ≤ 8 ∧ (8 : Int) ≤ (↑x.size : Int)) ∧ gabionlaw12_RecWords.L18 pick (sext x 0 8) 8 b h Q)
def gabionlaw12_RecWords.L18.wp (pick : Int) (mixed0 : ByteArray) (k0_16 : Int) (b : List Value) (h : Heap) (Q : Value → Heap → Prop) : Prop :=
 ∃ (x : ByteArray),
 lget b 0 = some (.string x) ∧
 ∃ (x_1 : ByteArray),
 lget b 1 = some (.string x_1) ∧
 xsIf (decide (IntKind.i64.wrap (k0_16 + 8) ≤ imin (↑x.size : Int) (↑x_1.size : Int)))
 (0 ≤ irem (iquo .i64 k0_16 8) 64 ∧
 (0 ≤ iand .u64 (ishr .u64 pick (irem (iquo .i64 k0_16 8) 64)) 1 ∧ iand .u64 (ishr .u64 pick (irem (iquo .i64 k0_16 8) 64)) 1 < (↑2 : Int)) ∧
 ∃ (x : ByteArray),
 lget b (0 + (iand .u64 (ishr .u64 pick (irem (iquo .i64 k0_16 8) 64)) 1).toNat * 1) = some (.string x) ∧
 (0 ≤ IntKind.i64.wrap (k0_16 + 8) ∧ IntKind.i64.wrap (k0_16 + 8) ≤ (↑x.size : Int)) ∧
 (0 ≤ k0_16 ∧ k0_16 ≤ IntKind.i64.wrap (k0_16 + 8)) ∧
 (↑(mixed0.size + (sext x k0_16 (IntKind.i64.wrap (k0_16 + 8))).size) : Int) ≤ 9223372036854775807 ∧
 gabionlaw12_RecWords.L18 pick (mixed0 ++ sext x k0_16 (IntKind.i64.wrap (k0_16 + 8))) (IntKind.i64.wrap (k0_16 + 8)) b h Q)
 (gabionlaw12_RecWords.L22 mixed0 8 h Q)
def gabionlaw12_RecWords.L22.wp (mixed0 : ByteArray) (k0_17 : Int) (h : Heap) (Q : Value → Heap → Prop) : Prop :=
 xsIf (decide (IntKind.i64.wrap (k0_17 + 8) ≤ (↑mixed0.size : Int)))
 ((0 ≤ k0_17 ∧ k0_17 ≤ (↑mixed0.size : Int)) ∧
 C Tryd.prog 26 #[.string (sext mixed0 k0_17 (↑mixed0.size : Int))] h fun (r : Value) (h' : Heap) =>
 ∃ (x : Int),
 ∃ (x_1 : Int),
 ∃ (x_2 : Int),
 ∃ (x_3 : Int),
 ∃ (x_4 : ByteArray),
 ∃ (x_5 : Int),
 r =
 .tuple
 #[.agg #[.int .u32 x, .int .u32 x_1, .int .u32 x_2], .agg #[.int .u8 x_3, .string x_4], .int .i64 x_5] ∧
 xsIf (decide (x_5 ≠ 4)) (Q (.bool false) h') (gabionlaw12_RecWords.L22 mixed0 (IntKind.i64.wrap (k0_17 + 8)) h' Q))
 (C Tryd.prog 23 #[] h fun (r : Value) (h' : Heap) => ∃ (x : Bool), r = .bool x ∧ Q (.bool x) h')
theorem gabionlaw12_RecWords.ok {n_0 : Int} {n_1 : Int} {n_2 : Int} {n_3 : Int} {n_4 : Int} {n_5 : Int} {s_0 : ByteArray} {s_1 : ByteArray} {pick : Int} {h : Heap} {Q : Value → Heap → Prop} (hk : gabionlaw12_RecWords.wp n_0 n_1 n_2 n_3 n_4 n_5 s_0 s_1 pick h Q) : C Tryd.prog 10 #[.agg #[.int .u32 n_0, .int .u32 n_1, .int .u32 n_2, .int .u32 n_3, .int .u32 n_4, .int .u32 n_5], .agg #[.string s_0, .string s_1], .int .u64 pick] h Q :=
 C_of_xs (H := gabionlaw12_RecWords.H) (lcuts := gabionlaw12_RecWords.lc) (rcuts := gabionlaw12_RecWords.rc) (l := [.agg #[.int .u32 n_0, .int .u32 n_1, .int .u32 n_2, .int .u32 n_3, .int .u32 n_4, .int .u32 n_5], .agg #[.string s_0, .string s_1], .int .u64 pick]) 2000 mixed Tryd.func10 rfl (by kernel_rfl) (@cast (gabionlaw12_RecWords.wp n_0 n_1 n_2 n_3 n_4 n_5 s_0 s_1 pick h Q) _ (by kernel_rfl) hk)
theorem gabionlaw12_RecWords.L3.ok {pick : Int} {t21 : Int} {n_3 : List Value} {s_4 : List Value} {b : List Value} {h : Heap} {Q : Value → Heap → Prop} (hk : gabionlaw12_RecWords.L3.wp pick t21 n_3 s_4 b h Q) : gabionlaw12_RecWords.L3 pick t21 n_3 s_4 b h Q :=
 xs_ok (H := gabionlaw12_RecWords.H) (lcuts := gabionlaw12_RecWords.lc) (rcuts := gabionlaw12_RecWords.rc) (fn := Tryd.f10) mixed Tryd.func10 2000 _ _ _ (@cast (gabionlaw12_RecWords.L3.wp pick t21 n_3 s_4 b h Q) _ (by kernel_rfl) hk)
theorem gabionlaw12_RecWords.J8.ok {pick : Int} {i : Int} {t : ByteArray} {t21 : Int} {n_3 : List Value} {s_4 : List Value} {b : List Value} {h : Heap} {Q : Value → Heap → Prop} (hk : gabionlaw12_RecWords.J8.wp pick i t t21 n_3 s_4 b h Q) : gabionlaw12_RecWords.J8 pick i t t21 n_3 s_4 b h Q :=
 xs_ok (H := gabionlaw12_RecWords.H) (lcuts := gabionlaw12_RecWords.lc) (rcuts := []) (fn := Tryd.f10) mixed Tryd.func10 2000 _ _ _ (@cast (gabionlaw12_RecWords.J8.wp pick i t t21 n_3 s_4 b h Q) _ (by kernel_rfl) hk)
theorem gabionlaw12_RecWords.L11.ok {pick : Int} {k0_11 : Int} {b : List Value} {h : Heap} {Q : Value → Heap → Prop} (hk : gabionlaw12_RecWords.L11.wp pick k0_11 b h Q) : gabionlaw12_RecWords.L11 pick k0_11 b h Q :=
 xs_ok (H := gabionlaw12_RecWords.H) (lcuts := gabionlaw12_RecWords.lc) (rcuts := gabionlaw12_RecWords.rc) (fn := Tryd.f10) mixed Tryd.func10 2000 _ _ _ (@cast (gabionlaw12_RecWords.L11.wp pick k0_11 b h Q) _ (by kernel_rfl) hk)
theorem gabionlaw12_RecWords.L18.ok {pick : Int} {mixed0 : ByteArray} {k0_16 : Int} {b : List Value} {h : Heap} {Q : Value → Heap → Prop} (hk : gabionlaw12_RecWords.L18.wp pick mixed0 k0_16 b h Q) : gabionlaw12_RecWords.L18 pick mixed0 k0_16 b h Q :=
 xs_ok (H := gabionlaw12_RecWords.H) (lcuts := gabionlaw12_RecWords.lc) (rcuts := gabionlaw12_RecWords.rc) (fn := Tryd.f10) mixed Tryd.func10 2000 _ _ _ (@cast (gabionlaw12_RecWords.L18.wp pick mixed0 k0_16 b h Q) _ (by kernel_rfl) hk)
theorem gabionlaw12_RecWords.L22.ok {mixed0 : ByteArray} {k0_17 : Int} {h : Heap} {Q : Value → Heap → Prop} (hk : gabionlaw12_RecWords.L22.wp mixed0 k0_17 h Q) : gabionlaw12_RecWords.L22 mixed0 k0_17 h Q :=
 xs_ok (H := gabionlaw12_RecWords.H) (lcuts := gabionlaw12_RecWords.lc) (rcuts := gabionlaw12_RecWords.rc) (fn := Tryd.f10) mixed Tryd.func10 2000 _ _ _ (@cast (gabionlaw12_RecWords.L22.wp mixed0 k0_17 h Q) _ (by kernel_rfl) hk)
end Go.Gb
