/- Own text for the seat: W1. -/
import Derived.Test.YtcccjpahikgibaaDoorA11
import Derived.Test.YtcccjpahikgibaaDoorProg
set_option linter.unusedVariables false
set_option linter.unusedSimpArgs false
set_option linter.unnecessarySimpa false
set_option linter.deprecated false
set_option maxRecDepth 100000
namespace Go.Gb
open Go.Proofs
theorem mixed : Tryd.prog.follows .mixedOrders = true := by kernel_rfl

/-! internal/stringslite.HasPrefix -/
def stringslite_HasPrefix.H : Hn := ⟨[], [], [], []⟩
def stringslite_HasPrefix.lc : List Cut := []
def stringslite_HasPrefix.rc : List Cut := []
def stringslite_HasPrefix.wp (s : ByteArray) (prefix0 : ByteArray) (h : Heap) (Q : Value → Heap → Prop) : Prop :=
 xsIf (decide ((↑prefix0.size : Int) ≤ (↑s.size : Int))) ((0 ≤ (↑prefix0.size : Int) ∧ (↑prefix0.size : Int) ≤ (↑s.size : Int)) ∧ Q (.bool (decide (sext s 0 (↑prefix0.size : Int) = prefix0))) h) (Q (.bool false) h)
theorem stringslite_HasPrefix.ok {s : ByteArray} {prefix0 : ByteArray} {h : Heap} {Q : Value → Heap → Prop} (hk : stringslite_HasPrefix.wp s prefix0 h Q) : C Tryd.prog 48 #[.string s, .string prefix0] h Q :=
 C_of_xs (H := stringslite_HasPrefix.H) (lcuts := stringslite_HasPrefix.lc) (rcuts := stringslite_HasPrefix.rc) (l := [.string s, .string prefix0]) 2000 mixed Tryd.func48 rfl (by kernel_rfl) (@cast (stringslite_HasPrefix.wp s prefix0 h Q) _ (by kernel_rfl) hk)

/-! strings.HasPrefix -/
def strings_HasPrefix.H : Hn := ⟨[], [], [], []⟩
def strings_HasPrefix.lc : List Cut := []
def strings_HasPrefix.rc : List Cut := []
def strings_HasPrefix.wp (s : ByteArray) (prefix0 : ByteArray) (h : Heap) (Q : Value → Heap → Prop) : Prop :=
 C Tryd.prog 48 #[.string s, .string prefix0] h fun (r : Value) (h' : Heap) => ∃ (x : Bool), r = .bool x ∧ Q (.bool x) h'
theorem strings_HasPrefix.ok {s : ByteArray} {prefix0 : ByteArray} {h : Heap} {Q : Value → Heap → Prop} (hk : strings_HasPrefix.wp s prefix0 h Q) : C Tryd.prog 30 #[.string s, .string prefix0] h Q :=
 C_of_xs (H := strings_HasPrefix.H) (lcuts := strings_HasPrefix.lc) (rcuts := strings_HasPrefix.rc) (l := [.string s, .string prefix0]) 2000 mixed Tryd.func30 rfl (by kernel_rfl) (@cast (strings_HasPrefix.wp s prefix0 h Q) _ (by kernel_rfl) hk)

/-! unicode/utf8.DecodeRuneInString -/
/-! internal/stringslite.IndexByte -/
/-! internal/bytealg.Cutover -/
/-! internal/bytealg.hashStr[string] -/
/-! internal/bytealg.IndexRabinKarp[string] -/
/-! internal/stringslite.Index -/
/-! strings.Index -/
def strings_Index.H : Hn := ⟨[], [], [], []⟩
def strings_Index.lc : List Cut := []
def strings_Index.rc : List Cut := []
def strings_Index.wp (s : ByteArray) (substr : ByteArray) (h : Heap) (Q : Value → Heap → Prop) : Prop :=
 C Tryd.prog 84 #[.string s, .string substr] h fun (r : Value) (h' : Heap) => ∃ (x : Int), r = .int .i64 x ∧ Q (.int .i64 x) h'
theorem strings_Index.ok {s : ByteArray} {substr : ByteArray} {h : Heap} {Q : Value → Heap → Prop} (hk : strings_Index.wp s substr h Q) : C Tryd.prog 68 #[.string s, .string substr] h Q :=
 C_of_xs (H := strings_Index.H) (lcuts := strings_Index.lc) (rcuts := strings_Index.rc) (l := [.string s, .string substr]) 2000 mixed Tryd.func68 rfl (by kernel_rfl) (@cast (strings_Index.wp s substr h Q) _ (by kernel_rfl) hk)

/-! strings.splitSeq$1 -/
def strings_splitSeq_1.H : Hn := ⟨[], [], [], []⟩
def strings_splitSeq_1.lc : List Cut := [⟨1, [0, 2], []⟩, ⟨5, [0, 1, 2, 3], []⟩]
def strings_splitSeq_1.rc : List Cut := []
def strings_splitSeq_1.L1 (yield : Nat) (t2 : Nat) (h : Heap) (Q : Value → Heap → Prop) : Prop :=
 TW Tryd.prog 66 52 [.code (cAt (bodyOf Tryd.f66) [0, 1, 0, 0, 0, 0]), .inLoop (cAt (bodyOf Tryd.f66) [0, 1, 0, 0, 0, 0]), .inBlock 0, .code (cAt (bodyOf Tryd.f66) [0, 1, 0, 1]), .code (cAt (bodyOf Tryd.f66) [1])] ⟨[(0, .v (.func (.yield yield) #[] #[])), (2, .v (.pointer (some ⟨t2, 0, none⟩)))], [], .plain⟩ h Q
def strings_splitSeq_1.L5 (yield : Nat) (t1 : Nat) (t2 : Nat) (t3 : Nat) (h : Heap) (Q : Value → Heap → Prop) : Prop :=
 TW Tryd.prog 66 52 [.code (cAt (bodyOf Tryd.f66) [1, 0, 0, 0]), .inLoop (cAt (bodyOf Tryd.f66) [1, 0, 0, 0]), .inBlock 2, .code (cAt (bodyOf Tryd.f66) [1, 1])] ⟨[(0, .v (.func (.yield yield) #[] #[])), (1, .v (.pointer (some ⟨t1, 0, none⟩))), (2, .v (.pointer (some ⟨t2, 0, none⟩))), (3, .v (.pointer (some ⟨t3, 0, none⟩)))], [], .plain⟩ h Q
def strings_splitSeq_1.wp (yield : Nat) (t1 : Nat) (t2 : Nat) (t3 : Nat) (h : Heap) (Q : Value → Heap → Prop) : Prop :=
 ∃ (x : ByteArray), h.cell t1 0 = some (.string x) ∧ xsIf (decide ((↑x.size : Int) = 0)) (strings_splitSeq_1.L1 yield t2 h Q) (strings_splitSeq_1.L5 yield t1 t2 t3 h Q)
def strings_splitSeq_1.L5.wp (yield : Nat) (t1 : Nat) (t2 : Nat) (t3 : Nat) (h : Heap) (Q : Value → Heap → Prop) : Prop :=
 ∃ (x : ByteArray),
 h.cell t2 0 = some (.string x) ∧
 ∃ (x_1 : ByteArray),
 h.cell t1 0 = some (.string x_1) ∧
 C Tryd.prog 68 #[.string x, .string x_1] h fun (r : Value) (h' : Heap) =>
 ∃ (x : Int),
 r = .int .i64 x ∧
 xsIf (decide (x < 0)) (∃ (x : ByteArray), h'.cell t2 0 = some (.string x) ∧ Y Tryd.prog yield [.string x] h' fun (r : Value) (h' : Heap) => ∃ (x : Bool), r = .bool x ∧ Q (.tuple #[]) h')
 (∃ (x_2 : ByteArray),
 h'.cell t2 0 = some (.string x_2) ∧
 ∃ (x_3 : Int),
 h'.cell t3 0 = some (.int .i64 x_3) ∧
 (0 ≤ IntKind.i64.wrap (x + x_3) ∧ IntKind.i64.wrap (x + x_3) ≤ (↑x_2.size : Int)) ∧
 Y Tryd.prog yield [.string (sext x_2 0 (IntKind.i64.wrap (x + x_3)))] h' fun (r : Value) (h' : Heap) =>
 ∃ (x_4 : Bool),
 r = .bool x_4 ∧
 xsIf (!x_4) (Q (.tuple #[]) h')
 (∃ (x_5 : ByteArray),
 h'.cell t2 0 = some (.string x_5) ∧
 ∃ (x_6 : ByteArray),
 h'.cell t1 0 = some (.string x_6) ∧
 (0 ≤ IntKind.i64.wrap (x + (↑x_6.size : Int)) ∧ IntKind.i64.wrap (x + (↑x_6.size : Int)) ≤ (↑x_5.size : Int)) ∧
 h'.can t2 0 1 ∧ strings_splitSeq_1.L5 yield t1 t2 t3 (h'.put t2 0 [.string (sext x_5 (IntKind.i64.wrap (x + (↑x_6.size : Int))) (↑x_5.size : Int))]) Q))
theorem strings_splitSeq_1.ok {yield : Nat} {t1 : Nat} {t2 : Nat} {t3 : Nat} {h : Heap} {Q : Value → Heap → Prop} (hk : strings_splitSeq_1.wp yield t1 t2 t3 h Q) : C Tryd.prog 66 #[.func (.yield yield) #[] #[], .pointer (some ⟨t1, 0, none⟩), .pointer (some ⟨t2, 0, none⟩), .pointer (some ⟨t3, 0, none⟩)] h Q :=
 C_of_xs (H := strings_splitSeq_1.H) (lcuts := strings_splitSeq_1.lc) (rcuts := strings_splitSeq_1.rc) (l := [.func (.yield yield) #[] #[], .pointer (some ⟨t1, 0, none⟩), .pointer (some ⟨t2, 0, none⟩), .pointer (some ⟨t3, 0, none⟩)]) 2000 mixed Tryd.func66 rfl (by kernel_rfl) (@cast (strings_splitSeq_1.wp yield t1 t2 t3 h Q) _ (by kernel_rfl) hk)
theorem strings_splitSeq_1.L5.ok {yield : Nat} {t1 : Nat} {t2 : Nat} {t3 : Nat} {h : Heap} {Q : Value → Heap → Prop} (hk : strings_splitSeq_1.L5.wp yield t1 t2 t3 h Q) : strings_splitSeq_1.L5 yield t1 t2 t3 h Q :=
 xs_ok (H := strings_splitSeq_1.H) (lcuts := strings_splitSeq_1.lc) (rcuts := strings_splitSeq_1.rc) (fn := Tryd.f66) mixed Tryd.func66 2000 _ _ _ (@cast (strings_splitSeq_1.L5.wp yield t1 t2 t3 h Q) _ (by kernel_rfl) hk)

/-! strings.splitSeq -/
def strings_splitSeq.H : Hn := ⟨[3, 4, 5], [], [], []⟩
def strings_splitSeq.lc : List Cut := []
def strings_splitSeq.rc : List Cut := []
def strings_splitSeq.wp (s : ByteArray) (sep : ByteArray) (sepSave : Int) (h : Heap) (Q : Value → Heap → Prop) : Prop :=
 ∀ (b : Nat),
 h b = none →
 ∀ (b_1 : Nat),
 upd h b (Obj.cells #[.string s] 9 (0, 0)) b_1 = none →
 ∀ (b_2 : Nat),
 upd (upd h b (Obj.cells #[.string s] 9 (0, 0))) b_1 (Obj.cells #[.string sep] 9 (0, 0)) b_2 = none →
 Q (.func (Fn.func 66) #[] #[.pointer (some { block := b_1, off := 0 }), .pointer (some { block := b, off := 0 }), .pointer (some { block := b_2, off := 0 })])
 (upd (upd (upd h b (Obj.cells #[.string s] 9 (0, 0))) b_1 (Obj.cells #[.string sep] 9 (0, 0))) b_2 (Obj.cells #[.int .i64 sepSave] 3 (0, 0)))
theorem strings_splitSeq.ok {s : ByteArray} {sep : ByteArray} {sepSave : Int} {h : Heap} {Q : Value → Heap → Prop} (hk : strings_splitSeq.wp s sep sepSave h Q) : C Tryd.prog 49 #[.string s, .string sep, .int .i64 sepSave] h Q :=
 C_of_xs (H := strings_splitSeq.H) (lcuts := strings_splitSeq.lc) (rcuts := strings_splitSeq.rc) (l := [.string s, .string sep, .int .i64 sepSave]) 2000 mixed Tryd.func49 rfl (by kernel_rfl) (@cast (strings_splitSeq.wp s sep sepSave h Q) _ (by kernel_rfl) hk)

/-! strings.SplitSeq -/
def strings_SplitSeq.H : Hn := ⟨[], [], [], []⟩
def strings_SplitSeq.lc : List Cut := []
def strings_SplitSeq.rc : List Cut := []
def strings_SplitSeq.wp (s : ByteArray) (sep : ByteArray) (h : Heap) (Q : Value → Heap → Prop) : Prop :=
 C Tryd.prog 49 #[.string s, .string sep, .int .i64 0] h fun (r : Value) (h' : Heap) => ∃ (x : Value), r = x ∧ Q x h'
theorem strings_SplitSeq.ok {s : ByteArray} {sep : ByteArray} {h : Heap} {Q : Value → Heap → Prop} (hk : strings_SplitSeq.wp s sep h Q) : C Tryd.prog 31 #[.string s, .string sep] h Q :=
 C_of_xs (H := strings_SplitSeq.H) (lcuts := strings_SplitSeq.lc) (rcuts := strings_SplitSeq.rc) (l := [.string s, .string sep]) 2000 mixed Tryd.func31 rfl (by kernel_rfl) (@cast (strings_SplitSeq.wp s sep h Q) _ (by kernel_rfl) hk)

/-! strings.IndexByte -/
/-! unicode/utf8.ValidRune -/
def utf8_ValidRune.H : Hn := ⟨[], [], [], []⟩
def utf8_ValidRune.lc : List Cut := []
def utf8_ValidRune.rc : List Cut := []
def utf8_ValidRune.wp (r0 : Int) (h : Heap) (Q : Value → Heap → Prop) : Prop :=
 xsIf (decide (0 ≤ r0)) (xsIf (decide (r0 < 55296)) (Q (.bool true) h) (xsIf (decide (57343 < r0)) (xsIf (decide (r0 ≤ 1114111)) (Q (.bool true) h) (Q (.bool false) h)) (Q (.bool false) h)))
 (xsIf (decide (57343 < r0)) (xsIf (decide (r0 ≤ 1114111)) (Q (.bool true) h) (Q (.bool false) h)) (Q (.bool false) h))
theorem utf8_ValidRune.ok {r0 : Int} {h : Heap} {Q : Value → Heap → Prop} (hk : utf8_ValidRune.wp r0 h Q) : C Tryd.prog 97 #[.int .i32 r0] h Q :=
 C_of_xs (H := utf8_ValidRune.H) (lcuts := utf8_ValidRune.lc) (rcuts := utf8_ValidRune.rc) (l := [.int .i32 r0]) 2000 mixed Tryd.func97 rfl (by kernel_rfl) (@cast (utf8_ValidRune.wp r0 h Q) _ (by kernel_rfl) hk)

/-! strings.IndexRune -/
def strings_IndexRune.H : Hn := ⟨[], [], [⟨6, .q 0 (.q 1 (.q 2 (.q 3 (.q 4 (.q 5 (.q 6 (.nil))))))), []⟩, ⟨7, .q 0 (.q 1 (.q 2 (.q 3 (.q 4 (.q 5 (.q 6 (.q 7 (.q 8 (.nil))))))))), []⟩, ⟨14, .q 0 (.q 1 (.q 2 (.q 3 (.q 4 (.q 5 (.q 6 (.q 7 (.q 8 (.q 9 (.q 10 (.nil))))))))))), []⟩, ⟨31, .q 0 (.q 1 (.q 2 (.q 3 (.q 4 (.q 5 (.q 6 (.q 7 (.q 8 (.q 9 (.q 10 (.nil))))))))))), []⟩], [(175, 9)]⟩
def strings_IndexRune.lc : List Cut := [⟨38, [175], []⟩, ⟨5, [0, 1, 7, 8, 9, 10], []⟩, ⟨12, [0, 1, 7, 8, 9, 10, 12], []⟩, ⟨25, [0, 7, 8, 9, 14, 15], []⟩, ⟨29, [0, 7, 8, 9, 14, 15, 16], []⟩]
def strings_IndexRune.rc : List Cut := [⟨11, [0, 1, 7, 8, 9, 10], []⟩]
def strings_IndexRune.L38 (t175 : Nat) (h : Heap) (Q : Value → Heap → Prop) : Prop :=
 TW Tryd.prog 85 187 [.code (cAt (bodyOf Tryd.f85) [1, 0, 1, 1, 1, 0, 0, 1, 0, 0]), .inLoop (cAt (bodyOf Tryd.f85) [1, 0, 1, 1, 1, 0, 0, 1, 0, 0]), .inBlock 9, .code (cAt (bodyOf Tryd.f85) [1, 0, 1, 1, 1, 0, 1]), .inBlock 0] ⟨[(175, .v (.pointer (some ⟨t175, 0, none⟩)))], [], .plain⟩ h Q
def strings_IndexRune.L5 (s : ByteArray) (r0 : Int) (rs : ByteArray) (last : Int) (i_9 : Int) (fails : Int) (h : Heap) (Q : Value → Heap → Prop) : Prop :=
 TW Tryd.prog 85 187 [.code (cAt (bodyOf Tryd.f85) [1, 0, 1, 1, 1, 1, 1, 1, 0, 1, 1, 1, 1, 0, 0, 0]), .inLoop (cAt (bodyOf Tryd.f85) [1, 0, 1, 1, 1, 1, 1, 1, 0, 1, 1, 1, 1, 0, 0, 0]), .inBlock 1, .code (cAt (bodyOf Tryd.f85) [1, 0, 1, 1, 1, 1, 1, 1, 0, 1, 1, 1, 1, 1]), .inScope (cAt (bodyOf Tryd.f85) [1, 0, 1, 1, 1, 1, 1, 1, 0]), .inBlock 0] ⟨[(0, .v (.string s)), (1, .v (.int .i32 r0)), (7, .v (.string rs)), (8, .v (.int .i64 last)), (9, .v (.int .i64 i_9)), (10, .v (.int .i64 fails))], [], .plain⟩ h Q
def strings_IndexRune.J11 (s : ByteArray) (r0 : Int) (rs : ByteArray) (last : Int) (i_9 : Int) (fails : Int) (h : Heap) (Q : Value → Heap → Prop) : Prop :=
 TW Tryd.prog 85 187 [.code (cAt (bodyOf Tryd.f85) [1, 0, 1, 1, 1, 1, 1, 1, 0, 1, 1, 1, 1, 0, 0, 0, 1, 0, 0, 1, 0, 0]), .code (cAt (bodyOf Tryd.f85) [1, 0, 1, 1, 1, 1, 1, 1, 0, 1, 1, 1, 1, 0, 0, 0, 1, 0, 0, 1, 0, 1]), .code (cAt (bodyOf Tryd.f85) [1, 0, 1, 1, 1, 1, 1, 1, 0, 1, 1, 1, 1, 0, 0, 0, 1, 0, 0, 1, 1]), .inScope (cAt (bodyOf Tryd.f85) [1, 0, 1, 1, 1, 1, 1, 1, 0, 1, 1, 1, 1, 0, 0, 0, 1, 0, 0]), .inBlock 2, .inLoop (cAt (bodyOf Tryd.f85) [1, 0, 1, 1, 1, 1, 1, 1, 0, 1, 1, 1, 1, 0, 0, 0]), .inBlock 1, .code (cAt (bodyOf Tryd.f85) [1, 0, 1, 1, 1, 1, 1, 1, 0, 1, 1, 1, 1, 1]), .inScope (cAt (bodyOf Tryd.f85) [1, 0, 1, 1, 1, 1, 1, 1, 0]), .inBlock 0] ⟨[(0, .v (.string s)), (1, .v (.int .i32 r0)), (7, .v (.string rs)), (8, .v (.int .i64 last)), (9, .v (.int .i64 i_9)), (10, .v (.int .i64 fails))], [], .plain⟩ h Q
def strings_IndexRune.wp (s : ByteArray) (r0 : Int) (h : Heap) (Q : Value → Heap → Prop) : Prop :=
 xsIf (decide (0 ≤ r0))
 (xsIf (decide (r0 < 128)) (C Tryd.prog 96 #[.string s, .int .u8 (IntKind.u8.wrap r0)] h fun (r : Value) (h' : Heap) => ∃ (x : Int), r = .int .i64 x ∧ Q (.int .i64 x) h')
 (xsIf (decide (r0 = 65533)) (∀ (b : Nat), h b = none → strings_IndexRune.L38 b (upd h b (Obj.stringIter s 0)) Q)
 (C Tryd.prog 97 #[.int .i32 r0] h fun (r : Value) (h' : Heap) =>
 ∃ (x : Bool),
 r = .bool x ∧
 xsIf (!x) (Q (.int .i64 (-1)) h') (strings_IndexRune.L5 s r0 (Utf8.encode r0) (IntKind.i64.wrap ((↑(Utf8.encode r0).size : Int) - 1)) (IntKind.i64.wrap ((↑(Utf8.encode r0).size : Int) - 1)) 0 h' Q))))
 (xsIf (decide (r0 = 65533)) (∀ (b : Nat), h b = none → strings_IndexRune.L38 b (upd h b (Obj.stringIter s 0)) Q)
 (C Tryd.prog 97 #[.int .i32 r0] h fun (r : Value) (h' : Heap) =>
 ∃ (x : Bool),
 r = .bool x ∧ xsIf (!x) (Q (.int .i64 (-1)) h') (strings_IndexRune.L5 s r0 (Utf8.encode r0) (IntKind.i64.wrap ((↑(Utf8.encode r0).size : Int) - 1)) (IntKind.i64.wrap ((↑(Utf8.encode r0).size : Int) - 1)) 0 h' Q)))
def strings_IndexRune.L38.wp (t175 : Nat) (h : Heap) (Q : Value → Heap → Prop) : Prop :=
 atBase (some { block := t175, off := 0 }) fun (b o : Nat) =>
 o = 0 ∧
 ∃ (s : ByteArray),
 ∃ (pos : Nat),
 h b = some (Obj.stringIter s pos) ∧
 (pos < s.size → xsIf (decide (udR s pos = 65533)) (Q (.int .i64 (↑pos : Int)) (upd h b (Obj.stringIter s (pos + udW s pos)))) (strings_IndexRune.L38 t175 (upd h b (Obj.stringIter s (pos + udW s pos))) Q)) ∧
 (s.size ≤ pos → Q (.int .i64 (-1)) h)
def strings_IndexRune.L5.wp (s : ByteArray) (r0 : Int) (rs : ByteArray) (last : Int) (i_9 : Int) (fails : Int) (h : Heap) (Q : Value → Heap → Prop) : Prop :=
 xsIf (decide (i_9 < (↑s.size : Int)))
 (∃ (c : UInt8),
 0 ≤ i_9 ∧
 bget s i_9.toNat = some c ∧
 ∃ (c_1 : UInt8),
 0 ≤ last ∧
 bget rs last.toNat = some c_1 ∧
 xsIf (decide ((↑c.toNat : Int) ≠ (↑c_1.toNat : Int)))
 ((0 ≤ IntKind.i64.wrap (i_9 + 1) ∧ IntKind.i64.wrap (i_9 + 1) ≤ (↑s.size : Int)) ∧
 ∃ (c : UInt8),
 0 ≤ last ∧
 bget rs last.toNat = some c ∧
 C Tryd.prog 96 #[.string (sext s (IntKind.i64.wrap (i_9 + 1)) (↑s.size : Int)), .int .u8 (↑c.toNat : Int)] h fun (r : Value) (h' : Heap) =>
 ∃ (x : Int), r = .int .i64 x ∧ xsIf (decide (x < 0)) (Q (.int .i64 (-1)) h') (strings_IndexRune.J11 s r0 rs last (IntKind.i64.wrap (i_9 + IntKind.i64.wrap (x + 1))) fails h' Q))
 (strings_IndexRune.J11 s r0 rs last i_9 fails h Q))
 (Q (.int .i64 (-1)) h)
theorem strings_IndexRune.ok {s : ByteArray} {r0 : Int} {h : Heap} {Q : Value → Heap → Prop} (hk : strings_IndexRune.wp s r0 h Q) : C Tryd.prog 85 #[.string s, .int .i32 r0] h Q :=
 C_of_xs (H := strings_IndexRune.H) (lcuts := strings_IndexRune.lc) (rcuts := strings_IndexRune.rc) (l := [.string s, .int .i32 r0]) 2000 mixed Tryd.func85 rfl (by kernel_rfl) (@cast (strings_IndexRune.wp s r0 h Q) _ (by kernel_rfl) hk)
theorem strings_IndexRune.L38.ok {t175 : Nat} {h : Heap} {Q : Value → Heap → Prop} (hk : strings_IndexRune.L38.wp t175 h Q) : strings_IndexRune.L38 t175 h Q :=
 xs_ok (H := strings_IndexRune.H) (lcuts := strings_IndexRune.lc) (rcuts := strings_IndexRune.rc) (fn := Tryd.f85) mixed Tryd.func85 2000 _ _ _ (@cast (strings_IndexRune.L38.wp t175 h Q) _ (by kernel_rfl) hk)
theorem strings_IndexRune.L5.ok {s : ByteArray} {r0 : Int} {rs : ByteArray} {last : Int} {i_9 : Int} {fails : Int} {h : Heap} {Q : Value → Heap → Prop} (hk : strings_IndexRune.L5.wp s r0 rs last i_9 fails h Q) : strings_IndexRune.L5 s r0 rs last i_9 fails h Q :=
 xs_ok (H := strings_IndexRune.H) (lcuts := strings_IndexRune.lc) (rcuts := strings_IndexRune.rc) (fn := Tryd.f85) mixed Tryd.func85 2000 _ _ _ (@cast (strings_IndexRune.L5.wp s r0 rs last i_9 fails h Q) _ (by kernel_rfl) hk)
/-! strings.shouldUseASCIISet -/
def strings_shouldUseASCIISet.H : Hn := ⟨[], [], [], []⟩
def strings_shouldUseASCIISet.lc : List Cut := []
def strings_shouldUseASCIISet.rc : List Cut := []
def strings_shouldUseASCIISet.wp (bufLen : Int) (h : Heap) (Q : Value → Heap → Prop) : Prop :=
 Q (.bool (decide (8 < bufLen))) h
theorem strings_shouldUseASCIISet.ok {bufLen : Int} {h : Heap} {Q : Value → Heap → Prop} (hk : strings_shouldUseASCIISet.wp bufLen h Q) : C Tryd.prog 86 #[.int .i64 bufLen] h Q :=
 C_of_xs (H := strings_shouldUseASCIISet.H) (lcuts := strings_shouldUseASCIISet.lc) (rcuts := strings_shouldUseASCIISet.rc) (l := [.int .i64 bufLen]) 2000 mixed Tryd.func86 rfl (by kernel_rfl) (@cast (strings_shouldUseASCIISet.wp bufLen h Q) _ (by kernel_rfl) hk)

/-! strings.makeASCIISet -/
/-! (*strings.asciiSet).contains -/
/-! strings.IndexAny -/
def strings_IndexAny.H : Hn := ⟨[6], [], [], [(45, 9)]⟩
def strings_IndexAny.lc : List Cut := [⟨12, [0, 6, 8], []⟩, ⟨18, [1, 45], []⟩]
def strings_IndexAny.rc : List Cut := [⟨7, [0, 5], []⟩, ⟨17, [0, 1], []⟩]
def strings_IndexAny.J7 (s : ByteArray) (r0 : Int) (h : Heap) (Q : Value → Heap → Prop) : Prop :=
 TW Tryd.prog 69 55 [.code (cAt (bodyOf Tryd.f69) [1, 1, 0, 1, 0, 1, 1, 0]), .code (cAt (bodyOf Tryd.f69) [1, 1, 0, 1, 0, 1, 1, 1]), .code (cAt (bodyOf Tryd.f69) [1, 1, 1])] ⟨[(0, .v (.string s)), (5, .v (.int .i32 r0))], [], .plain⟩ h Q
def strings_IndexAny.L12 (s : ByteArray) (as0 : Nat) (i_8 : Int) (h : Heap) (Q : Value → Heap → Prop) : Prop :=
 TW Tryd.prog 69 55 [.code (cAt (bodyOf Tryd.f69) [1, 1, 1, 0, 1, 0, 1, 1, 0, 0, 1, 0, 0]), .inLoop (cAt (bodyOf Tryd.f69) [1, 1, 1, 0, 1, 0, 1, 1, 0, 0, 1, 0, 0]), .inBlock 0, .code (cAt (bodyOf Tryd.f69) [1, 1, 1, 0, 1, 0, 1, 1, 0, 1]), .code (cAt (bodyOf Tryd.f69) [1, 1, 1, 1])] ⟨[(0, .v (.string s)), (6, .v (.pointer (some ⟨as0, 0, none⟩))), (8, .v (.int .i64 i_8))], [], .plain⟩ h Q
def strings_IndexAny.J17 (s : ByteArray) (chars : ByteArray) (h : Heap) (Q : Value → Heap → Prop) : Prop :=
 TW Tryd.prog 69 55 [.code (cAt (bodyOf Tryd.f69) [1, 1, 1, 1, 0, 0]), .code (cAt (bodyOf Tryd.f69) [1, 1, 1, 1, 0, 1]), .code (cAt (bodyOf Tryd.f69) [1, 1, 1, 1, 1])] ⟨[(0, .v (.string s)), (1, .v (.string chars))], [], .plain⟩ h Q
def strings_IndexAny.L18 (chars : ByteArray) (t45 : Nat) (h : Heap) (Q : Value → Heap → Prop) : Prop :=
 TW Tryd.prog 69 55 [.code (cAt (bodyOf Tryd.f69) [1, 1, 1, 1, 0, 1, 0, 0]), .inLoop (cAt (bodyOf Tryd.f69) [1, 1, 1, 1, 0, 1, 0, 0]), .inBlock 2, .code (cAt (bodyOf Tryd.f69) [1, 1, 1, 1, 1])] ⟨[(1, .v (.string chars)), (45, .v (.pointer (some ⟨t45, 0, none⟩)))], [], .plain⟩ h Q
def strings_IndexAny.wp (s : ByteArray) (chars : ByteArray) (h : Heap) (Q : Value → Heap → Prop) : Prop :=
 xsIf (decide (chars = { data := #[] })) (Q (.int .i64 (-1)) h)
 (xsIf (decide ((↑chars.size : Int) = 1))
 (∃ (c : UInt8), (0 : Int) ≤ 0 ∧ bget chars 0 = some c ∧ xsIf (decide (128 ≤ IntKind.i32.wrap (↑c.toNat : Int))) (strings_IndexAny.J7 s 65533 h Q) (strings_IndexAny.J7 s (IntKind.i32.wrap (↑c.toNat : Int)) h Q))
 (C Tryd.prog 86 #[.int .i64 (↑s.size : Int)] h fun (r : Value) (h' : Heap) =>
 ∃ (x : Bool),
 r = .bool x ∧
 xsIf x
 (C Tryd.prog 78 #[.string chars] h' fun (r : Value) (h' : Heap) =>
 ∃ (cs : List Value),
 cs.length = 256 ∧
 ∃ (x : Bool),
 r = .tuple #[.agg (List.toArray (cs)), .bool x] ∧
 ∀ (b : Nat),
 h' b = none →
 xsIf ((List.toArray (cs)).size.beq 256)
 (xsIf (oneCells cs)
 ((upd h' b
 (Obj.cells
 #[.bool false, .bool false, .bool false, .bool false, .bool false, .bool false, .bool false, .bool false, .bool false, .bool false,
 .bool false, .bool false, .bool false, .bool false, .bool false, .bool false, .bool false, .bool false, .bool false, .bool false,
 .bool false, .bool false, .bool false, .bool false, .bool false, .bool false, .bool false, .bool false, .bool false, .bool false,
 .bool false, .bool false, .bool false, .bool false, .bool false, .bool false, .bool false, .bool false, .bool false, .bool false,
 .bool false, .bool false, .bool false, .bool false, .bool false, .bool false, .bool false, .bool false, .bool false, .bool false,
 .bool false, .bool false, .bool false, .bool false, .bool false, .bool false, .bool false, .bool false, .bool false, .bool false,
 .bool false, .bool false, .bool false, .bool false, .bool false, .bool false, .bool false, .bool false, .bool false, .bool false,
 .bool false, .bool false, .bool false, .bool false, .bool false, .bool false, .bool false, .bool false, .bool false, .bool false,
 .bool false, .bool false, .bool false, .bool false, .bool false, .bool false, .bool false, .bool false, .bool false, .bool false,
 .bool false, .bool false, .bool false, .bool false, .bool false, .bool false, .bool false, .bool false, .bool false, .bool false,
 .bool false, .bool false, .bool false, .bool false, .bool false, .bool false, .bool false, .bool false, .bool false, .bool false,
 .bool false, .bool false, .bool false, .bool false, .bool false, .bool false, .bool false, .bool false, .bool false, .bool false,
 .bool false, .bool false, .bool false, .bool false, .bool false, .bool false, .bool false, .bool false, .bool false, .bool false,
 .bool false, .bool false, .bool false, .bool false, .bool false, .bool false, .bool false, .bool false, .bool false, .bool false,
 .bool false, .bool false, .bool false, .bool false, .bool false, .bool false, .bool false, .bool false, .bool false, .bool false,
 .bool false, .bool false, .bool false, .bool false, .bool false, .bool false, .bool false, .bool false, .bool false, .bool false,
 .bool false, .bool false, .bool false, .bool false, .bool false, .bool false, .bool false, .bool false, .bool false, .bool false,
 .bool false, .bool false, .bool false, .bool false, .bool false, .bool false, .bool false, .bool false, .bool false, .bool false,
 .bool false, .bool false, .bool false, .bool false, .bool false, .bool false, .bool false, .bool false, .bool false, .bool false,
 .bool false, .bool false, .bool false, .bool false, .bool false, .bool false, .bool false, .bool false, .bool false, .bool false,
 .bool false, .bool false, .bool false, .bool false, .bool false, .bool false, .bool false, .bool false, .bool false, .bool false,
 .bool false, .bool false, .bool false, .bool false, .bool false, .bool false, .bool false, .bool false, .bool false, .bool false,
 .bool false, .bool false, .bool false, .bool false, .bool false, .bool false, .bool false, .bool false, .bool false, .bool false,
 .bool false, .bool false, .bool false, .bool false, .bool false, .bool false, .bool false, .bool false, .bool false, .bool false,
 .bool false, .bool false, .bool false, .bool false, .bool false, .bool false, .bool false, .bool false, .bool false, .bool false,
 .bool false, .bool false, .bool false, .bool false, .bool false, .bool false]
 121 (0, 0))).can
 b 0 256 ∧
 xsIf x
 (strings_IndexAny.L12 s b 0
 ((upd h' b
 (Obj.cells
 #[.bool false, .bool false, .bool false, .bool false, .bool false, .bool false, .bool false, .bool false, .bool false, .bool false,
 .bool false, .bool false, .bool false, .bool false, .bool false, .bool false, .bool false, .bool false, .bool false, .bool false,
 .bool false, .bool false, .bool false, .bool false, .bool false, .bool false, .bool false, .bool false, .bool false, .bool false,
 .bool false, .bool false, .bool false, .bool false, .bool false, .bool false, .bool false, .bool false, .bool false, .bool false,
 .bool false, .bool false, .bool false, .bool false, .bool false, .bool false, .bool false, .bool false, .bool false, .bool false,
 .bool false, .bool false, .bool false, .bool false, .bool false, .bool false, .bool false, .bool false, .bool false, .bool false,
 .bool false, .bool false, .bool false, .bool false, .bool false, .bool false, .bool false, .bool false, .bool false, .bool false,
 .bool false, .bool false, .bool false, .bool false, .bool false, .bool false, .bool false, .bool false, .bool false, .bool false,
 .bool false, .bool false, .bool false, .bool false, .bool false, .bool false, .bool false, .bool false, .bool false, .bool false,
 .bool false, .bool false, .bool false, .bool false, .bool false, .bool false, .bool false, .bool false, .bool false, .bool false,
 .bool false, .bool false, .bool false, .bool false, .bool false, .bool false, .bool false, .bool false, .bool false, .bool false,
 .bool false, .bool false, .bool false, .bool false, .bool false, .bool false, .bool false, .bool false, .bool false, .bool false,
 .bool false, .bool false, .bool false, .bool false, .bool false, .bool false, .bool false, .bool false, .bool false, .bool false,
 .bool false, .bool false, .bool false, .bool false, .bool false, .bool false, .bool false, .bool false, .bool false, .bool false,
 .bool false, .bool false, .bool false, .bool false, .bool false, .bool false, .bool false, .bool false, .bool false, .bool false,
 .bool false, .bool false, .bool false, .bool false, .bool false, .bool false, .bool false, .bool false, .bool false, .bool false,
 .bool false, .bool false, .bool false, .bool false, .bool false, .bool false, .bool false, .bool false, .bool false, .bool false,
 .bool false, .bool false, .bool false, .bool false, .bool false, .bool false, .bool false, .bool false, .bool false, .bool false,
 .bool false, .bool false, .bool false, .bool false, .bool false, .bool false, .bool false, .bool false, .bool false, .bool false,
 .bool false, .bool false, .bool false, .bool false, .bool false, .bool false, .bool false, .bool false, .bool false, .bool false,
 .bool false, .bool false, .bool false, .bool false, .bool false, .bool false, .bool false, .bool false, .bool false, .bool false,
 .bool false, .bool false, .bool false, .bool false, .bool false, .bool false, .bool false, .bool false, .bool false, .bool false,
 .bool false, .bool false, .bool false, .bool false, .bool false, .bool false, .bool false, .bool false, .bool false, .bool false,
 .bool false, .bool false, .bool false, .bool false, .bool false, .bool false, .bool false, .bool false, .bool false, .bool false,
 .bool false, .bool false, .bool false, .bool false, .bool false, .bool false, .bool false, .bool false, .bool false, .bool false,
 .bool false, .bool false, .bool false, .bool false, .bool false, .bool false]
 121 (0, 0))).put
 b 0 cs)
 Q)
 (strings_IndexAny.J17 s chars
 ((upd h' b
 (Obj.cells
 #[.bool false, .bool false, .bool false, .bool false, .bool false, .bool false, .bool false, .bool false, .bool false, .bool false,
 .bool false, .bool false, .bool false, .bool false, .bool false, .bool false, .bool false, .bool false, .bool false, .bool false,
 .bool false, .bool false, .bool false, .bool false, .bool false, .bool false, .bool false, .bool false, .bool false, .bool false,
 .bool false, .bool false, .bool false, .bool false, .bool false, .bool false, .bool false, .bool false, .bool false, .bool false,
 .bool false, .bool false, .bool false, .bool false, .bool false, .bool false, .bool false, .bool false, .bool false, .bool false,
 .bool false, .bool false, .bool false, .bool false, .bool false, .bool false, .bool false, .bool false, .bool false, .bool false,
 .bool false, .bool false, .bool false, .bool false, .bool false, .bool false, .bool false, .bool false, .bool false, .bool false,
 .bool false, .bool false, .bool false, .bool false, .bool false, .bool false, .bool false, .bool false, .bool false, .bool false,
 .bool false, .bool false, .bool false, .bool false, .bool false, .bool false, .bool false, .bool false, .bool false, .bool false,
 .bool false, .bool false, .bool false, .bool false, .bool false, .bool false, .bool false, .bool false, .bool false, .bool false,
 .bool false, .bool false, .bool false, .bool false, .bool false, .bool false, .bool false, .bool false, .bool false, .bool false,
 .bool false, .bool false, .bool false, .bool false, .bool false, .bool false, .bool false, .bool false, .bool false, .bool false,
 .bool false, .bool false, .bool false, .bool false, .bool false, .bool false, .bool false, .bool false, .bool false, .bool false,
 .bool false, .bool false, .bool false, .bool false, .bool false, .bool false, .bool false, .bool false, .bool false, .bool false,
 .bool false, .bool false, .bool false, .bool false, .bool false, .bool false, .bool false, .bool false, .bool false, .bool false,
 .bool false, .bool false, .bool false, .bool false, .bool false, .bool false, .bool false, .bool false, .bool false, .bool false,
 .bool false, .bool false, .bool false, .bool false, .bool false, .bool false, .bool false, .bool false, .bool false, .bool false,
 .bool false, .bool false, .bool false, .bool false, .bool false, .bool false, .bool false, .bool false, .bool false, .bool false,
 .bool false, .bool false, .bool false, .bool false, .bool false, .bool false, .bool false, .bool false, .bool false, .bool false,
 .bool false, .bool false, .bool false, .bool false, .bool false, .bool false, .bool false, .bool false, .bool false, .bool false,
 .bool false, .bool false, .bool false, .bool false, .bool false, .bool false, .bool false, .bool false, .bool false, .bool false,
 .bool false, .bool false, .bool false, .bool false, .bool false, .bool false, .bool false, .bool false, .bool false, .bool false,
 .bool false, .bool false, .bool false, .bool false, .bool false, .bool false, .bool false, .bool false, .bool false, .bool false,
 .bool false, .bool false, .bool false, .bool false, .bool false, .bool false, .bool false, .bool false, .bool false, .bool false,
 .bool false, .bool false, .bool false, .bool false, .bool false, .bool false, .bool false, .bool false, .bool false, .bool false,
 .bool false, .bool false, .bool false, .bool false, .bool false, .bool false]
 121 (0, 0))).put
 b 0 cs)
 Q))
 False)
 False)
 (strings_IndexAny.J17 s chars h' Q)))
def strings_IndexAny.J17.wp (s : ByteArray) (chars : ByteArray) (h : Heap) (Q : Value → Heap → Prop) : Prop :=
 ∀ (b : Nat), h b = none → strings_IndexAny.L18 chars b (upd h b (Obj.stringIter s 0)) Q
def strings_IndexAny.L18.wp (chars : ByteArray) (t45 : Nat) (h : Heap) (Q : Value → Heap → Prop) : Prop :=
 atBase (some { block := t45, off := 0 }) fun (b o : Nat) =>
 o = 0 ∧
 ∃ (s : ByteArray),
 ∃ (pos : Nat),
 h b = some (Obj.stringIter s pos) ∧
 (pos < s.size →
 C Tryd.prog 85 #[.string chars, .int .i32 (udR s pos)] (upd h b (Obj.stringIter s (pos + udW s pos))) fun (r : Value) (h' : Heap) =>
 ∃ (x : Int), r = .int .i64 x ∧ xsIf (decide (0 ≤ x)) (Q (.int .i64 (↑pos : Int)) h') (strings_IndexAny.L18 chars t45 h' Q)) ∧
 (s.size ≤ pos → Q (.int .i64 (-1)) h)
theorem strings_IndexAny.ok {s : ByteArray} {chars : ByteArray} {h : Heap} {Q : Value → Heap → Prop} (hk : strings_IndexAny.wp s chars h Q) : C Tryd.prog 69 #[.string s, .string chars] h Q :=
 C_of_xs (H := strings_IndexAny.H) (lcuts := strings_IndexAny.lc) (rcuts := strings_IndexAny.rc) (l := [.string s, .string chars]) 2000 mixed Tryd.func69 rfl (by kernel_rfl) (@cast (strings_IndexAny.wp s chars h Q) _ (by kernel_rfl) hk)
theorem strings_IndexAny.J17.ok {s : ByteArray} {chars : ByteArray} {h : Heap} {Q : Value → Heap → Prop} (hk : strings_IndexAny.J17.wp s chars h Q) : strings_IndexAny.J17 s chars h Q :=
 xs_ok (H := strings_IndexAny.H) (lcuts := strings_IndexAny.lc) (rcuts := [⟨7, [0, 5], []⟩]) (fn := Tryd.f69) mixed Tryd.func69 2000 _ _ _ (@cast (strings_IndexAny.J17.wp s chars h Q) _ (by kernel_rfl) hk)
theorem strings_IndexAny.L18.ok {chars : ByteArray} {t45 : Nat} {h : Heap} {Q : Value → Heap → Prop} (hk : strings_IndexAny.L18.wp chars t45 h Q) : strings_IndexAny.L18 chars t45 h Q :=
 xs_ok (H := strings_IndexAny.H) (lcuts := strings_IndexAny.lc) (rcuts := strings_IndexAny.rc) (fn := Tryd.f69) mixed Tryd.func69 2000 _ _ _ (@cast (strings_IndexAny.L18.wp chars t45 h Q) _ (by kernel_rfl) hk)

/-! strings.ContainsAny -/
def strings_ContainsAny.H : Hn := ⟨[], [], [], []⟩
def strings_ContainsAny.lc : List Cut := []
def strings_ContainsAny.rc : List Cut := []
def strings_ContainsAny.wp (s : ByteArray) (chars : ByteArray) (h : Heap) (Q : Value → Heap → Prop) : Prop :=
 C Tryd.prog 69 #[.string s, .string chars] h fun (r : Value) (h' : Heap) => ∃ (x : Int), r = .int .i64 x ∧ Q (.bool (decide (0 ≤ x))) h'
theorem strings_ContainsAny.ok {s : ByteArray} {chars : ByteArray} {h : Heap} {Q : Value → Heap → Prop} (hk : strings_ContainsAny.wp s chars h Q) : C Tryd.prog 50 #[.string s, .string chars] h Q :=
 C_of_xs (H := strings_ContainsAny.H) (lcuts := strings_ContainsAny.lc) (rcuts := strings_ContainsAny.rc) (l := [.string s, .string chars]) 2000 mixed Tryd.func50 rfl (by kernel_rfl) (@cast (strings_ContainsAny.wp s chars h Q) _ (by kernel_rfl) hk)

/-! gabion/dir.Name -/
def dir_Name.H : Hn := ⟨[], [], [], []⟩
def dir_Name.lc : List Cut := []
def dir_Name.rc : List Cut := []
def dir_Name.wp (s : ByteArray) (h : Heap) (Q : Value → Heap → Prop) : Prop :=
 xsIf (decide (s = { data := #[] })) (Q (.int .i64 18) h)
 (xsIf (decide (32 < (↑s.size : Int))) (Q (.int .i64 18) h)
 (xsIf (decide (s = { data := #[46] })) (Q (.int .i64 18) h)
 (xsIf (decide (s = { data := #[46, 46] })) (Q (.int .i64 18) h)
 (C Tryd.prog 50 #[.string s, .string { data := #[UInt8.ofNat 47, UInt8.ofNat 0] }] h fun (r : Value) (h' : Heap) =>
 ∃ (x : Bool), r = .bool x ∧ xsIf x (Q (.int .i64 18) h') (Q (.int .i64 0) h')))))
theorem dir_Name.ok {s : ByteArray} {h : Heap} {Q : Value → Heap → Prop} (hk : dir_Name.wp s h Q) : C Tryd.prog 32 #[.string s] h Q :=
 C_of_xs (H := dir_Name.H) (lcuts := dir_Name.lc) (rcuts := dir_Name.rc) (l := [.string s]) 2000 mixed Tryd.func32 rfl (by kernel_rfl) (@cast (dir_Name.wp s h Q) _ (by kernel_rfl) hk)

/-! gabion/path.Parse -/
def path_Parse.H : Hn := ⟨[2, 3, 4], [], [], []⟩
def path_Parse.lc : List Cut := [⟨8, [2, 3, 4, 20], []⟩]
def path_Parse.rc : List Cut := [⟨14, [2, 3, 4], []⟩]
def path_Parse.G8 (t2 : Nat) (t3 : Nat) (w : Nat) (t20 : Value) (h : Heap) (Q : Value → Heap → Prop) : Prop :=
 TW Tryd.prog 11 48 [.code (cAt (bodyOf Tryd.f11) [1, 1, 1, 0, 1, 0]), .inBlock 1, .code (cAt (bodyOf Tryd.f11) [1, 1, 1, 1])] ⟨[(2, .v (.pointer (some ⟨t2, 0, none⟩))), (3, .v (.pointer (some ⟨t3, 0, none⟩))), (4, .v (.pointer (some ⟨w, 0, none⟩))), (20, .v (t20))], [], .plain⟩ h Q
def path_Parse.R8 (mkL : Nat) (t2 : Nat) (t3 : Nat) (w : Nat) (t21 : ByteArray) (h : Heap) (Q : Value → Heap → Prop) : Prop :=
 TW Tryd.prog 11 48 [.code (cAt (bodyOf Tryd.f11) [1, 1, 1, 0, 1, 0, 0]), .beginRound, .code (cAt (bodyOf Tryd.f11) [1, 1, 1, 0, 1, 0, 1])] ⟨[(2, .v (.pointer (some ⟨t2, 0, none⟩))), (3, .v (.pointer (some ⟨t3, 0, none⟩))), (4, .v (.pointer (some ⟨w, 0, none⟩))), (21, .v (.string t21))], [], .round mkL⟩ h Q
def path_Parse.K8 (mkD : Nat) (t2 : Nat) (t3 : Nat) (w : Nat) (t20 : Value) (h : Heap) (Q : Value → Heap → Prop) : Prop :=
 TW Tryd.prog 11 48 [.inBlock 1, .code (cAt (bodyOf Tryd.f11) [1, 1, 1, 1])] ⟨[(2, .v (.pointer (some ⟨t2, 0, none⟩))), (3, .v (.pointer (some ⟨t3, 0, none⟩))), (4, .v (.pointer (some ⟨w, 0, none⟩))), (20, .v (t20))], [], .marked mkD⟩ h Q
def path_Parse.E8 (mkD : Nat) (t2 : Nat) (t3 : Nat) (w : Nat) (t20 : Value) (h : Heap) (Q : Value → Heap → Prop) : Prop :=
 TW Tryd.prog 11 48 [.code .ret, .inBlock 1, .code (cAt (bodyOf Tryd.f11) [1, 1, 1, 1])] ⟨[(2, .v (.pointer (some ⟨t2, 0, none⟩))), (3, .v (.pointer (some ⟨t3, 0, none⟩))), (4, .v (.pointer (some ⟨w, 0, none⟩))), (20, .v (t20))], [], .marked mkD⟩ h Q
def path_Parse.J14 (mkD : Nat) (t2 : Nat) (t3 : Nat) (w : Nat) (h : Heap) (Q : Value → Heap → Prop) : Prop :=
 TW Tryd.prog 11 48 [.code (cAt (bodyOf Tryd.f11) [1, 1, 1, 1, 0]), .code (cAt (bodyOf Tryd.f11) [1, 1, 1, 1, 1])] ⟨[(2, .v (.pointer (some ⟨t2, 0, none⟩))), (3, .v (.pointer (some ⟨t3, 0, none⟩))), (4, .v (.pointer (some ⟨w, 0, none⟩)))], [], .marked mkD⟩ h Q
def path_Parse.wp (s : ByteArray) (h : Heap) (Q : Value → Heap → Prop) : Prop :=
 ∀ (b : Nat),
 h b = none →
 ∀ (b_1 : Nat),
 upd h b (Obj.cells #[.bool false, .slice none 0 0, .bool false] 24 (0, 0)) b_1 = none →
 xsIf (decide (s = { data := #[] }))
 ((upd (upd h b (Obj.cells #[.bool false, .slice none 0 0, .bool false] 24 (0, 0))) b_1 (Obj.cells #[.int .i64 0] 25 (0, 0))).can b 0 3 ∧
 ((upd (upd h b (Obj.cells #[.bool false, .slice none 0 0, .bool false] 24 (0, 0))) b_1 (Obj.cells #[.int .i64 0] 25 (0, 0))).put b 0
 [.bool false, .slice none 0 0, .bool false]).can
 b_1 0 1 ∧
 ∃ (x : Bool),
 (((upd (upd h b (Obj.cells #[.bool false, .slice none 0 0, .bool false] 24 (0, 0))) b_1 (Obj.cells #[.int .i64 0] 25 (0, 0))).put b 0
 [.bool false, .slice none 0 0, .bool false]).put
 b_1 0 [.int .i64 13]).cell
 b 0 =
 some (.bool x) ∧
 ∃ (x_1 : Option Addr),
 ∃ (n : Nat),
 ∃ (m : Nat),
 (((upd (upd h b (Obj.cells #[.bool false, .slice none 0 0, .bool false] 24 (0, 0))) b_1 (Obj.cells #[.int .i64 0] 25 (0, 0))).put b 0
 [.bool false, .slice none 0 0, .bool false]).put
 b_1 0 [.int .i64 13]).cell
 b 1 =
 some (.slice x_1 n m) ∧
 ∃ (x_2 : Bool),
 (((upd (upd h b (Obj.cells #[.bool false, .slice none 0 0, .bool false] 24 (0, 0))) b_1 (Obj.cells #[.int .i64 0] 25 (0, 0))).put b 0
 [.bool false, .slice none 0 0, .bool false]).put
 b_1 0 [.int .i64 13]).cell
 b 2 =
 some (.bool x_2) ∧
 ∃ (x_3 : Int),
 (((upd (upd h b (Obj.cells #[.bool false, .slice none 0 0, .bool false] 24 (0, 0))) b_1 (Obj.cells #[.int .i64 0] 25 (0, 0))).put b 0
 [.bool false, .slice none 0 0, .bool false]).put
 b_1 0 [.int .i64 13]).cell
 b_1 0 =
 some (.int .i64 x_3) ∧
 Q (.tuple #[.agg #[.bool x, .slice x_1 n m, .bool x_2], .int .i64 x_3])
 (((upd (upd h b (Obj.cells #[.bool false, .slice none 0 0, .bool false] 24 (0, 0))) b_1 (Obj.cells #[.int .i64 0] 25 (0, 0))).put b 0
 [.bool false, .slice none 0 0, .bool false]).put
 b_1 0 [.int .i64 13]))
 (xsIf (decide (256 < (↑s.size : Int)))
 ((upd (upd h b (Obj.cells #[.bool false, .slice none 0 0, .bool false] 24 (0, 0))) b_1 (Obj.cells #[.int .i64 0] 25 (0, 0))).can b 0 3 ∧
 ((upd (upd h b (Obj.cells #[.bool false, .slice none 0 0, .bool false] 24 (0, 0))) b_1 (Obj.cells #[.int .i64 0] 25 (0, 0))).put b 0
 [.bool false, .slice none 0 0, .bool false]).can
 b_1 0 1 ∧
 ∃ (x : Bool),
 (((upd (upd h b (Obj.cells #[.bool false, .slice none 0 0, .bool false] 24 (0, 0))) b_1 (Obj.cells #[.int .i64 0] 25 (0, 0))).put b 0
 [.bool false, .slice none 0 0, .bool false]).put
 b_1 0 [.int .i64 9]).cell
 b 0 =
 some (.bool x) ∧
 ∃ (x_1 : Option Addr),
 ∃ (n : Nat),
 ∃ (m : Nat),
 (((upd (upd h b (Obj.cells #[.bool false, .slice none 0 0, .bool false] 24 (0, 0))) b_1 (Obj.cells #[.int .i64 0] 25 (0, 0))).put b 0
 [.bool false, .slice none 0 0, .bool false]).put
 b_1 0 [.int .i64 9]).cell
 b 1 =
 some (.slice x_1 n m) ∧
 ∃ (x_2 : Bool),
 (((upd (upd h b (Obj.cells #[.bool false, .slice none 0 0, .bool false] 24 (0, 0))) b_1 (Obj.cells #[.int .i64 0] 25 (0, 0))).put b 0
 [.bool false, .slice none 0 0, .bool false]).put
 b_1 0 [.int .i64 9]).cell
 b 2 =
 some (.bool x_2) ∧
 ∃ (x_3 : Int),
 (((upd (upd h b (Obj.cells #[.bool false, .slice none 0 0, .bool false] 24 (0, 0))) b_1 (Obj.cells #[.int .i64 0] 25 (0, 0))).put b 0
 [.bool false, .slice none 0 0, .bool false]).put
 b_1 0 [.int .i64 9]).cell
 b_1 0 =
 some (.int .i64 x_3) ∧
 Q (.tuple #[.agg #[.bool x, .slice x_1 n m, .bool x_2], .int .i64 x_3])
 (((upd (upd h b (Obj.cells #[.bool false, .slice none 0 0, .bool false] 24 (0, 0))) b_1 (Obj.cells #[.int .i64 0] 25 (0, 0))).put b 0
 [.bool false, .slice none 0 0, .bool false]).put
 b_1 0 [.int .i64 9]))
 (C Tryd.prog 30 #[.string s, .string { data := #[UInt8.ofNat 47] }]
 (upd (upd h b (Obj.cells #[.bool false, .slice none 0 0, .bool false] 24 (0, 0))) b_1 (Obj.cells #[.int .i64 0] 25 (0, 0))) fun (r : Value) (h' : Heap) =>
 ∃ (x : Bool),
 r = .bool x ∧
 ∀ (b_2 : Nat),
 h' b_2 = none →
 (upd h' b_2 (Obj.cells #[.bool false, .slice none 0 0, .bool false] 24 (0, 0))).can b_2 0 3 ∧
 C Tryd.prog 31 #[.string s, .string { data := #[UInt8.ofNat 47] }]
 ((upd h' b_2 (Obj.cells #[.bool false, .slice none 0 0, .bool false] 24 (0, 0))).put b_2 0 [.bool x, .slice none 0 0, .bool false]) fun (r : Value) (h' : Heap) =>
 ∃ (x : Value), r = x ∧ path_Parse.G8 b b_1 b_2 x h' Q))
def path_Parse.R8.wp (mkL : Nat) (t2 : Nat) (t3 : Nat) (w : Nat) (t21 : ByteArray) (h : Heap) (Q : Value → Heap → Prop) : Prop :=
 ∃ (r : Loop),
 h mkL = some (Obj.loop r) ∧
 r.1 = LoopState.ready ∧
 xsIf (decide (t21 = { data := #[] }))
 ((upd h mkL (Obj.loop { state := LoopState.busy, pending := r.2, fn := r.fn, tmps := r.4, params := r.5, assign := r.6, body := r.7, defers := r.defers })).can w 2 1 ∧
 ∃ (x : Bool),
 ((upd h mkL (Obj.loop { state := LoopState.busy, pending := r.2, fn := r.fn, tmps := r.4, params := r.5, assign := r.6, body := r.7, defers := r.defers })).put w 2 [.bool true]).cell w 2 = some (.bool x) ∧
 xsIf x (Q (.bool true) ((upd h mkL (Obj.loop { state := LoopState.busy, pending := r.2, fn := r.fn, tmps := r.4, params := r.5, assign := r.6, body := r.7, defers := r.defers })).put w 2 [.bool true]))
 (C Tryd.prog 32 #[.string t21]
 ((upd h mkL (Obj.loop { state := LoopState.busy, pending := r.2, fn := r.fn, tmps := r.4, params := r.5, assign := r.6, body := r.7, defers := r.defers })).put w 2 [.bool true]) fun (r : Value) (h' : Heap) =>
 ∃ (x : Int),
 r = .int .i64 x ∧
 xsIf (decide (x ≠ 0))
 (xsIf (decide (t21 ≠ { data := #[46, 46] }))
 (h'.can t2 0 3 ∧
 (h'.put t2 0 [.bool false, .slice none 0 0, .bool false]).can t3 0 1 ∧
 Q (.bool false) ((h'.put t2 0 [.bool false, .slice none 0 0, .bool false]).put t3 0 [.int .i64 x]))
 (∃ (x : Option Addr),
 ∃ (n : Nat),
 ∃ (m : Nat),
 h'.cell w 1 = some (.slice x n m) ∧
 ∀ (b : Nat),
 h' b = none →
 xsApp Tryd.prog 9 (upd h' b (Obj.cells #[.string t21] 9 (0, 0))) x n m (some { block := b, off := 0 }) 1 fun (a' : Option Addr) (n' c' : Nat) (h' : Heap) =>
 h'.can w 1 1 ∧ Q (.bool true) (h'.put w 1 [.slice a' n' c'])))
 (∃ (x : Option Addr),
 ∃ (n : Nat),
 ∃ (m : Nat),
 h'.cell w 1 = some (.slice x n m) ∧
 ∀ (b : Nat),
 h' b = none →
 xsApp Tryd.prog 9 (upd h' b (Obj.cells #[.string t21] 9 (0, 0))) x n m (some { block := b, off := 0 }) 1 fun (a' : Option Addr) (n' c' : Nat) (h' : Heap) =>
 h'.can w 1 1 ∧ Q (.bool true) (h'.put w 1 [.slice a' n' c']))))
 ((upd h mkL (Obj.loop { state := LoopState.busy, pending := r.2, fn := r.fn, tmps := r.4, params := r.5, assign := r.6, body := r.7, defers := r.defers })).can w 2 1 ∧
 ∃ (x : Bool),
 ((upd h mkL (Obj.loop { state := LoopState.busy, pending := r.2, fn := r.fn, tmps := r.4, params := r.5, assign := r.6, body := r.7, defers := r.defers })).put w 2 [.bool (decide (t21 = { data := #[46] }))]).cell w 2 =
 some (.bool x) ∧
 xsIf x
 (Q (.bool true)
 ((upd h mkL (Obj.loop { state := LoopState.busy, pending := r.2, fn := r.fn, tmps := r.4, params := r.5, assign := r.6, body := r.7, defers := r.defers })).put w 2 [.bool (decide (t21 = { data := #[46] }))]))
 (C Tryd.prog 32 #[.string t21]
 ((upd h mkL (Obj.loop { state := LoopState.busy, pending := r.2, fn := r.fn, tmps := r.4, params := r.5, assign := r.6, body := r.7, defers := r.defers })).put w 2 [.bool (decide (t21 = { data := #[46] }))])
 fun (r : Value) (h' : Heap) =>
 ∃ (x : Int),
 r = .int .i64 x ∧
 xsIf (decide (x ≠ 0))
 (xsIf (decide (t21 ≠ { data := #[46, 46] }))
 (h'.can t2 0 3 ∧
 (h'.put t2 0 [.bool false, .slice none 0 0, .bool false]).can t3 0 1 ∧
 Q (.bool false) ((h'.put t2 0 [.bool false, .slice none 0 0, .bool false]).put t3 0 [.int .i64 x]))
 (∃ (x : Option Addr),
 ∃ (n : Nat),
 ∃ (m : Nat),
 h'.cell w 1 = some (.slice x n m) ∧
 ∀ (b : Nat),
 h' b = none →
 xsApp Tryd.prog 9 (upd h' b (Obj.cells #[.string t21] 9 (0, 0))) x n m (some { block := b, off := 0 }) 1 fun (a' : Option Addr) (n' c' : Nat) (h' : Heap) =>
 h'.can w 1 1 ∧ Q (.bool true) (h'.put w 1 [.slice a' n' c'])))
 (∃ (x : Option Addr),
 ∃ (n : Nat),
 ∃ (m : Nat),
 h'.cell w 1 = some (.slice x n m) ∧
 ∀ (b : Nat),
 h' b = none →
 xsApp Tryd.prog 9 (upd h' b (Obj.cells #[.string t21] 9 (0, 0))) x n m (some { block := b, off := 0 }) 1 fun (a' : Option Addr) (n' c' : Nat) (h' : Heap) =>
 h'.can w 1 1 ∧ Q (.bool true) (h'.put w 1 [.slice a' n' c']))))
def path_Parse.K8.wp (mkD : Nat) (t2 : Nat) (t3 : Nat) (w : Nat) (t20 : Value) (h : Heap) (Q : Value → Heap → Prop) : Prop :=
 path_Parse.J14 mkD t2 t3 w h Q
def path_Parse.E8.wp (mkD : Nat) (t2 : Nat) (t3 : Nat) (w : Nat) (t20 : Value) (h : Heap) (Q : Value → Heap → Prop) : Prop :=
 h mkD = some (Obj.deferred (some [])) ∧
 ∃ (x : Bool),
 (h.del mkD).cell t2 0 = some (.bool x) ∧
 ∃ (x_1 : Option Addr),
 ∃ (n : Nat),
 ∃ (m : Nat),
 (h.del mkD).cell t2 1 = some (.slice x_1 n m) ∧
 ∃ (x_2 : Bool),
 (h.del mkD).cell t2 2 = some (.bool x_2) ∧
 ∃ (x_3 : Int), (h.del mkD).cell t3 0 = some (.int .i64 x_3) ∧ Q (.tuple #[.agg #[.bool x, .slice x_1 n m, .bool x_2], .int .i64 x_3]) (h.del mkD)
def path_Parse.J14.wp (mkD : Nat) (t2 : Nat) (t3 : Nat) (w : Nat) (h : Heap) (Q : Value → Heap → Prop) : Prop :=
 ∃ (x : Bool),
 h.cell w 0 = some (.bool x) ∧
 ∃ (x_1 : Option Addr),
 ∃ (n : Nat),
 ∃ (m : Nat),
 h.cell w 1 = some (.slice x_1 n m) ∧
 ∃ (x_2 : Bool),
 h.cell w 2 = some (.bool x_2) ∧
 h.can t2 0 3 ∧
 (h.put t2 0 [.bool x, .slice x_1 n m, .bool x_2]).can t3 0 1 ∧
 (h.put t2 0 [.bool x, .slice x_1 n m, .bool x_2]).put t3 0 [.int .i64 0] mkD = some (Obj.deferred (some [])) ∧
 ∃ (x_3 : Bool),
 (((h.put t2 0 (Value.agg #[.bool x, .slice x_1 n m, .bool x_2]).cells.toList).put t3 0 (Value.int .i64 0).cells.toList).del mkD).cell t2 0 = some (.bool x_3) ∧
 ∃ (x_4 : Option Addr),
 ∃ (n_1 : Nat),
 ∃ (m_1 : Nat),
 (((h.put t2 0 (Value.agg #[.bool x, .slice x_1 n m, .bool x_2]).cells.toList).put t3 0 (Value.int .i64 0).cells.toList).del mkD).cell t2 1 = some (.slice x_4 n_1 m_1) ∧
 ∃ (x_5 : Bool),
 (((h.put t2 0 (Value.agg #[.bool x, .slice x_1 n m, .bool x_2]).cells.toList).put t3 0 (Value.int .i64 0).cells.toList).del mkD).cell t2 2 = some (.bool x_5) ∧
 ∃ (x_6 : Int),
 (((h.put t2 0 (Value.agg #[.bool x, .slice x_1 n m, .bool x_2]).cells.toList).put t3 0 (Value.int .i64 0).cells.toList).del mkD).cell t3 0 = some (.int .i64 x_6) ∧
 Q (.tuple #[.agg #[.bool x_3, .slice x_4 n_1 m_1, .bool x_5], .int .i64 x_6])
 (((h.put t2 0 (Value.agg #[.bool x, .slice x_1 n m, .bool x_2]).cells.toList).put t3 0 (Value.int .i64 0).cells.toList).del mkD)
theorem path_Parse.ok {s : ByteArray} {h : Heap} {Q : Value → Heap → Prop} (hk : path_Parse.wp s h Q) : C Tryd.prog 11 #[.string s] h Q :=
 C_of_xs (H := path_Parse.H) (lcuts := path_Parse.lc) (rcuts := path_Parse.rc) (l := [.string s]) 2000 mixed Tryd.func11 rfl (by kernel_rfl) (@cast (path_Parse.wp s h Q) _ (by kernel_rfl) hk)
theorem path_Parse.R8.ok {mkL : Nat} {t2 : Nat} {t3 : Nat} {w : Nat} {t21 : ByteArray} {h : Heap} {Q : Value → Heap → Prop} (hk : path_Parse.R8.wp mkL t2 t3 w t21 h Q) : path_Parse.R8 mkL t2 t3 w t21 h Q :=
 xs_ok (H := path_Parse.H) (lcuts := path_Parse.lc) (rcuts := path_Parse.rc) (fn := Tryd.f11) mixed Tryd.func11 2000 _ _ _ (@cast (path_Parse.R8.wp mkL t2 t3 w t21 h Q) _ (by kernel_rfl) hk)
theorem path_Parse.K8.ok {mkD : Nat} {t2 : Nat} {t3 : Nat} {w : Nat} {t20 : Value} {h : Heap} {Q : Value → Heap → Prop} (hk : path_Parse.K8.wp mkD t2 t3 w t20 h Q) : path_Parse.K8 mkD t2 t3 w t20 h Q :=
 xs_ok (H := path_Parse.H) (lcuts := path_Parse.lc) (rcuts := path_Parse.rc) (fn := Tryd.f11) mixed Tryd.func11 2000 _ _ _ (@cast (path_Parse.K8.wp mkD t2 t3 w t20 h Q) _ (by kernel_rfl) hk)
theorem path_Parse.E8.ok {mkD : Nat} {t2 : Nat} {t3 : Nat} {w : Nat} {t20 : Value} {h : Heap} {Q : Value → Heap → Prop} (hk : path_Parse.E8.wp mkD t2 t3 w t20 h Q) : path_Parse.E8 mkD t2 t3 w t20 h Q :=
 xs_ok (H := path_Parse.H) (lcuts := path_Parse.lc) (rcuts := path_Parse.rc) (fn := Tryd.f11) mixed Tryd.func11 2000 _ _ _ (@cast (path_Parse.E8.wp mkD t2 t3 w t20 h Q) _ (by kernel_rfl) hk)
theorem path_Parse.J14.ok {mkD : Nat} {t2 : Nat} {t3 : Nat} {w : Nat} {h : Heap} {Q : Value → Heap → Prop} (hk : path_Parse.J14.wp mkD t2 t3 w h Q) : path_Parse.J14 mkD t2 t3 w h Q :=
 xs_ok (H := path_Parse.H) (lcuts := path_Parse.lc) (rcuts := []) (fn := Tryd.f11) mixed Tryd.func11 2000 _ _ _ (@cast (path_Parse.J14.wp mkD t2 t3 w h Q) _ (by kernel_rfl) hk)
theorem path_Parse.G8.eq (t2 : Nat) (t3 : Nat) (w : Nat) (t20 : Value) (h : Heap) (Q : Value → Heap → Prop) : path_Parse.G8 t2 t3 w t20 h Q = TW Tryd.prog 11 48 (.code (.rangeFunc (.tmp 20) #[21] (cAt (bodyOf Tryd.f11) [1, 1, 1, 0, 1, 0, 0]) (cAt (bodyOf Tryd.f11) [1, 1, 1, 0, 1, 0, 1])) :: [.inBlock 1, .code (cAt (bodyOf Tryd.f11) [1, 1, 1, 1])]) ⟨[(2, .v (.pointer (some ⟨t2, 0, none⟩))), (3, .v (.pointer (some ⟨t3, 0, none⟩))), (4, .v (.pointer (some ⟨w, 0, none⟩))), (20, .v (t20))], [], .plain⟩ h Q := by kernel_rfl

/-! gabion/gabionref17.Name -/
/-! gabion/gabionref18.Parse -/
/-! (gabion/path.Way).Text -/
def path_Way_Text.H : Hn := ⟨[], [], [], []⟩
def path_Way_Text.lc : List Cut := []
def path_Way_Text.rc : List Cut := []
def path_Way_Text.wp (w_0 : Bool) (w_1 : Option Addr) (w_1_n : Nat) (w_1_c : Nat) (w_2 : Bool) (h : Heap) (Q : Value → Heap → Prop) : Prop :=
 C Tryd.prog 33 #[.slice w_1 w_1_n w_1_c, .string { data := #[UInt8.ofNat 47] }] h fun (r : Value) (h' : Heap) =>
 ∃ (x : ByteArray),
 r = .string x ∧
 xsIf w_0
 (xsIf (decide (x ≠ { data := #[] }))
 (xsIf w_2
 ((↑(1 + x.size) : Int) ≤ 9223372036854775807 ∧
 (↑(({ data := #[UInt8.ofNat 47] } ++ x).size + 1) : Int) ≤ 9223372036854775807 ∧ Q (.string ({ data := #[UInt8.ofNat 47] } ++ x ++ { data := #[UInt8.ofNat 47] })) h')
 (xsIf w_0 ((↑(1 + x.size) : Int) ≤ 9223372036854775807 ∧ Q (.string ({ data := #[UInt8.ofNat 47] } ++ x)) h')
 (xsIf (decide (x = { data := #[] })) (Q (.string { data := #[UInt8.ofNat 46] }) h')
 (xsIf w_2 ((↑(x.size + 1) : Int) ≤ 9223372036854775807 ∧ Q (.string (x ++ { data := #[UInt8.ofNat 47] })) h') (Q (.string x) h')))))
 (xsIf w_0 ((↑(1 + x.size) : Int) ≤ 9223372036854775807 ∧ Q (.string ({ data := #[UInt8.ofNat 47] } ++ x)) h')
 (xsIf (decide (x = { data := #[] })) (Q (.string { data := #[UInt8.ofNat 46] }) h')
 (xsIf w_2 ((↑(x.size + 1) : Int) ≤ 9223372036854775807 ∧ Q (.string (x ++ { data := #[UInt8.ofNat 47] })) h') (Q (.string x) h')))))
 (xsIf w_0 ((↑(1 + x.size) : Int) ≤ 9223372036854775807 ∧ Q (.string ({ data := #[UInt8.ofNat 47] } ++ x)) h')
 (xsIf (decide (x = { data := #[] })) (Q (.string { data := #[UInt8.ofNat 46] }) h')
 (xsIf w_2 ((↑(x.size + 1) : Int) ≤ 9223372036854775807 ∧ Q (.string (x ++ { data := #[UInt8.ofNat 47] })) h') (Q (.string x) h'))))
theorem path_Way_Text.ok {w_0 : Bool} {w_1 : Option Addr} {w_1_n : Nat} {w_1_c : Nat} {w_2 : Bool} {h : Heap} {Q : Value → Heap → Prop} (hk : path_Way_Text.wp w_0 w_1 w_1_n w_1_c w_2 h Q) : C Tryd.prog 15 #[.agg #[.bool w_0, .slice w_1 w_1_n w_1_c, .bool w_2]] h Q :=
 C_of_xs (H := path_Way_Text.H) (lcuts := path_Way_Text.lc) (rcuts := path_Way_Text.rc) (l := [.agg #[.bool w_0, .slice w_1 w_1_n w_1_c, .bool w_2]]) 2000 mixed Tryd.func15 rfl (by kernel_rfl) (@cast (path_Way_Text.wp w_0 w_1 w_1_n w_1_c w_2 h Q) _ (by kernel_rfl) hk)

/-! gabion/gabionlaw18.wakes -/
def gabionlaw18_wakes.H : Hn := ⟨[], [], [], []⟩
def gabionlaw18_wakes.lc : List Cut := []
def gabionlaw18_wakes.rc : List Cut := []
def gabionlaw18_wakes.wp  (h : Heap) (Q : Value → Heap → Prop) : Prop :=
 C Tryd.prog 11 #[.string { data := #[UInt8.ofNat 47, UInt8.ofNat 97, UInt8.ofNat 47, UInt8.ofNat 47, UInt8.ofNat 46, UInt8.ofNat 47, UInt8.ofNat 98, UInt8.ofNat 47] }] h fun (r : Value) (h' : Heap) =>
 ∃ (x : Bool),
 ∃ (x_1 : Option Addr),
 ∃ (n : Nat),
 ∃ (m : Nat),
 ∃ (x_2 : Bool),
 ∃ (x_3 : Int),
 r = .tuple #[.agg #[.bool x, .slice x_1 n m, .bool x_2], .int .i64 x_3] ∧
 xsIf (decide (x_3 = 0))
 (xsIf x
 (xsIf x_2
 (xsIf (decide ((↑n : Int) = 2))
 (((0 : Int) ≤ 1 ∧ (1 : Int) < (↑n : Int)) ∧
 atBase x_1 fun (b o : Nat) =>
 ∃ (x_4 : ByteArray),
 h'.cell b (o + 1) = some (.string x_4) ∧
 xsIf (decide (x_4 = { data := #[98] }))
 (C Tryd.prog 15 #[.agg #[.bool x, .slice x_1 n m, .bool x_2]] h' fun (r : Value) (h' : Heap) =>
 ∃ (x : ByteArray), r = .string x ∧ Q (.bool (decide (x = { data := #[47, 97, 47, 98, 47] }))) h')
 (Q (.bool false) h'))
 (Q (.bool false) h'))
 (Q (.bool false) h'))
 (Q (.bool false) h'))
 (Q (.bool false) h')
theorem gabionlaw18_wakes.ok {h : Heap} {Q : Value → Heap → Prop} (hk : gabionlaw18_wakes.wp h Q) : C Tryd.prog 13 #[] h Q :=
 C_of_xs (H := gabionlaw18_wakes.H) (lcuts := gabionlaw18_wakes.lc) (rcuts := gabionlaw18_wakes.rc) (l := []) 2000 mixed Tryd.func13 rfl (by kernel_rfl) (@cast (gabionlaw18_wakes.wp h Q) _ (by kernel_rfl) hk)

/-! gabion/gabionlaw18.same -/
def gabionlaw18_same.H : Hn := ⟨[], [], [⟨6, .q 0 (.q 1 (.q 2 (.q 3 (.q 5 (.q 6 (.q 7 (.q 8 (.ld 4 1024 (.q 9 (.q 10 (.nil))))))))))), []⟩], []⟩
def gabionlaw18_same.lc : List Cut := [⟨4, [2, 3, 29, 30], [2, 3]⟩]
def gabionlaw18_same.rc : List Cut := [⟨3, [2, 3], [2, 3]⟩]
def gabionlaw18_same.J3 (a_2_0 : Bool) (a_2_1 : Option Addr) (a_2_1_n : Nat) (a_2_1_c : Nat) (a_2_2 : Bool) (b_3_0 : Bool) (b_3_1 : Option Addr) (b_3_1_n : Nat) (b_3_1_c : Nat) (b_3_2 : Bool) (h : Heap) (Q : Value → Heap → Prop) : Prop :=
 TW Tryd.prog 14 45 [.code (cAt (bodyOf Tryd.f14) [1, 1, 0, 0]), .code (cAt (bodyOf Tryd.f14) [1, 1, 0, 1]), .code (cAt (bodyOf Tryd.f14) [1, 1, 1])] ⟨[(2, .p 2 0), (3, .p 3 0)], [(2, [.bool a_2_0, .slice a_2_1 a_2_1_n a_2_1_c, .bool a_2_2]), (3, [.bool b_3_0, .slice b_3_1 b_3_1_n b_3_1_c, .bool b_3_2])], .plain⟩ h Q
def gabionlaw18_same.L4 (t29 : Int) (t30 : Int) (a_2_0 : Bool) (a_2_1 : Option Addr) (a_2_1_n : Nat) (a_2_1_c : Nat) (a_2_2 : Bool) (b_3_0 : Bool) (b_3_1 : Option Addr) (b_3_1_n : Nat) (b_3_1_c : Nat) (b_3_2 : Bool) (h : Heap) (Q : Value → Heap → Prop) : Prop :=
 TW Tryd.prog 14 45 [.code (cAt (bodyOf Tryd.f14) [1, 1, 0, 1, 0, 0]), .inLoop (cAt (bodyOf Tryd.f14) [1, 1, 0, 1, 0, 0]), .inBlock 0, .code (cAt (bodyOf Tryd.f14) [1, 1, 1])] ⟨[(2, .p 2 0), (3, .p 3 0), (29, .v (.int .i64 t29)), (30, .v (.int .i64 t30))], [(2, [.bool a_2_0, .slice a_2_1 a_2_1_n a_2_1_c, .bool a_2_2]), (3, [.bool b_3_0, .slice b_3_1 b_3_1_n b_3_1_c, .bool b_3_2])], .plain⟩ h Q
def gabionlaw18_same.wp (a_0 : Bool) (a_1 : Option Addr) (a_1_n : Nat) (a_1_c : Nat) (a_2 : Bool) (b_0 : Bool) (b_1 : Option Addr) (b_1_n : Nat) (b_1_c : Nat) (b_2 : Bool) (h : Heap) (Q : Value → Heap → Prop) : Prop :=
 xsIf (!a_0 == b_0) (Q (.bool false) h) (xsIf (!a_2 == b_2) (Q (.bool false) h) (xsIf (decide ((↑a_1_n : Int) ≠ (↑b_1_n : Int))) (Q (.bool false) h) (gabionlaw18_same.J3 a_0 a_1 a_1_n a_1_c a_2 b_0 b_1 b_1_n b_1_c b_2 h Q)))
def gabionlaw18_same.J3.wp (a_2_0 : Bool) (a_2_1 : Option Addr) (a_2_1_n : Nat) (a_2_1_c : Nat) (a_2_2 : Bool) (b_3_0 : Bool) (b_3_1 : Option Addr) (b_3_1_n : Nat) (b_3_1_c : Nat) (b_3_2 : Bool) (h : Heap) (Q : Value → Heap → Prop) : Prop :=
 gabionlaw18_same.L4 (↑a_2_1_n : Int) 0 a_2_0 a_2_1 a_2_1_n a_2_1_c a_2_2 b_3_0 b_3_1 b_3_1_n b_3_1_c b_3_2 h Q
def gabionlaw18_same.L4.wp (t29 : Int) (t30 : Int) (a_2_0 : Bool) (a_2_1 : Option Addr) (a_2_1_n : Nat) (a_2_1_c : Nat) (a_2_2 : Bool) (b_3_0 : Bool) (b_3_1 : Option Addr) (b_3_1_n : Nat) (b_3_1_c : Nat) (b_3_2 : Bool) (h : Heap) (Q : Value → Heap → Prop) : Prop :=
 xsIf (decide (t30 < t29))
 ((0 ≤ t30 ∧ t30 < (↑a_2_1_n : Int)) ∧
 atBase a_2_1 fun (b o : Nat) =>
 (0 ≤ t30 ∧ t30 < (↑b_3_1_n : Int)) ∧
 atBase b_3_1 fun (b_1 o_1 : Nat) =>
 ∃ (x : ByteArray),
 h.cell b (o + t30.toNat * 1) = some (.string x) ∧
 ∃ (x_1 : ByteArray),
 h.cell b_1 (o_1 + t30.toNat * 1) = some (.string x_1) ∧
 xsIf (decide (x ≠ x_1)) (Q (.bool false) h) (gabionlaw18_same.L4 t29 (IntKind.i64.wrap (t30 + 1)) a_2_0 a_2_1 a_2_1_n a_2_1_c a_2_2 b_3_0 b_3_1 b_3_1_n b_3_1_c b_3_2 h Q))
 (Q (.bool true) h)
theorem gabionlaw18_same.ok {a_0 : Bool} {a_1 : Option Addr} {a_1_n : Nat} {a_1_c : Nat} {a_2 : Bool} {b_0 : Bool} {b_1 : Option Addr} {b_1_n : Nat} {b_1_c : Nat} {b_2 : Bool} {h : Heap} {Q : Value → Heap → Prop} (hk : gabionlaw18_same.wp a_0 a_1 a_1_n a_1_c a_2 b_0 b_1 b_1_n b_1_c b_2 h Q) : C Tryd.prog 14 #[.agg #[.bool a_0, .slice a_1 a_1_n a_1_c, .bool a_2], .agg #[.bool b_0, .slice b_1 b_1_n b_1_c, .bool b_2]] h Q :=
 C_of_xs (H := gabionlaw18_same.H) (lcuts := gabionlaw18_same.lc) (rcuts := gabionlaw18_same.rc) (l := [.agg #[.bool a_0, .slice a_1 a_1_n a_1_c, .bool a_2], .agg #[.bool b_0, .slice b_1 b_1_n b_1_c, .bool b_2]]) 2000 mixed Tryd.func14 rfl (by kernel_rfl) (@cast (gabionlaw18_same.wp a_0 a_1 a_1_n a_1_c a_2 b_0 b_1 b_1_n b_1_c b_2 h Q) _ (by kernel_rfl) hk)
theorem gabionlaw18_same.J3.ok {a_2_0 : Bool} {a_2_1 : Option Addr} {a_2_1_n : Nat} {a_2_1_c : Nat} {a_2_2 : Bool} {b_3_0 : Bool} {b_3_1 : Option Addr} {b_3_1_n : Nat} {b_3_1_c : Nat} {b_3_2 : Bool} {h : Heap} {Q : Value → Heap → Prop} (hk : gabionlaw18_same.J3.wp a_2_0 a_2_1 a_2_1_n a_2_1_c a_2_2 b_3_0 b_3_1 b_3_1_n b_3_1_c b_3_2 h Q) : gabionlaw18_same.J3 a_2_0 a_2_1 a_2_1_n a_2_1_c a_2_2 b_3_0 b_3_1 b_3_1_n b_3_1_c b_3_2 h Q :=
 xs_ok (H := gabionlaw18_same.H) (lcuts := gabionlaw18_same.lc) (rcuts := []) (fn := Tryd.f14) mixed Tryd.func14 2000 _ _ _ (@cast (gabionlaw18_same.J3.wp a_2_0 a_2_1 a_2_1_n a_2_1_c a_2_2 b_3_0 b_3_1 b_3_1_n b_3_1_c b_3_2 h Q) _ (by kernel_rfl) hk)
theorem gabionlaw18_same.L4.ok {t29 : Int} {t30 : Int} {a_2_0 : Bool} {a_2_1 : Option Addr} {a_2_1_n : Nat} {a_2_1_c : Nat} {a_2_2 : Bool} {b_3_0 : Bool} {b_3_1 : Option Addr} {b_3_1_n : Nat} {b_3_1_c : Nat} {b_3_2 : Bool} {h : Heap} {Q : Value → Heap → Prop} (hk : gabionlaw18_same.L4.wp t29 t30 a_2_0 a_2_1 a_2_1_n a_2_1_c a_2_2 b_3_0 b_3_1 b_3_1_n b_3_1_c b_3_2 h Q) : gabionlaw18_same.L4 t29 t30 a_2_0 a_2_1 a_2_1_n a_2_1_c a_2_2 b_3_0 b_3_1 b_3_1_n b_3_1_c b_3_2 h Q :=
 xs_ok (H := gabionlaw18_same.H) (lcuts := gabionlaw18_same.lc) (rcuts := gabionlaw18_same.rc) (fn := Tryd.f14) mixed Tryd.func14 2000 _ _ _ (@cast (gabionlaw18_same.L4.wp t29 t30 a_2_0 a_2_1 a_2_1_n a_2_1_c a_2_2 b_3_0 b_3_1 b_3_1_n b_3_1_c b_3_2 h Q) _ (by kernel_rfl) hk)

/-! gabion/gabionref18.Text -/
/-! gabion/gabionlaw18.PathParses -/
/-! gabion/gabionlaw18.PathBack -/
/-! gabion/gabionlaw18.PathNames -/
/-! slices.Clone[[]string,string] -/
def slices_Clone_string_string.H : Hn := ⟨[], [], [], []⟩
def slices_Clone_string_string.lc : List Cut := []
def slices_Clone_string_string.rc : List Cut := []
def slices_Clone_string_string.wp (s : Option Addr) (s_n : Nat) (s_c : Nat) (h : Heap) (Q : Value → Heap → Prop) : Prop :=
 xsIf s.isNone (Q (.slice none 0 0) h)
 (∀ (b : Nat), h b = none → xsApp Tryd.prog 9 (upd h b (Obj.cells #[] 9 (0, 0))) (some { block := b, off := 0 }) 0 0 s s_n fun (a' : Option Addr) (n' c' : Nat) (h' : Heap) => Q (.slice a' n' c') h')
theorem slices_Clone_string_string.ok {s : Option Addr} {s_n : Nat} {s_c : Nat} {h : Heap} {Q : Value → Heap → Prop} (hk : slices_Clone_string_string.wp s s_n s_c h Q) : C Tryd.prog 34 #[.slice s s_n s_c] h Q :=
 C_of_xs (H := slices_Clone_string_string.H) (lcuts := slices_Clone_string_string.lc) (rcuts := slices_Clone_string_string.rc) (l := [.slice s s_n s_c]) 2000 mixed Tryd.func34 rfl (by kernel_rfl) (@cast (slices_Clone_string_string.wp s s_n s_c h Q) _ (by kernel_rfl) hk)

/-! slices.Grow[[]string,string] -/
def slices_Grow_string_string.H : Hn := ⟨[], [], [], []⟩
def slices_Grow_string_string.lc : List Cut := []
def slices_Grow_string_string.rc : List Cut := [⟨3, [0, 1], []⟩]
def slices_Grow_string_string.J3 (s : Option Addr) (s_n : Nat) (s_c : Nat) (n : Int) (h : Heap) (Q : Value → Heap → Prop) : Prop :=
 TW Tryd.prog 54 27 [.code (cAt (bodyOf Tryd.f54) [1, 1, 0, 0]), .code (cAt (bodyOf Tryd.f54) [1, 1, 0, 1]), .code (cAt (bodyOf Tryd.f54) [1, 1, 1])] ⟨[(0, .v (.slice s s_n s_c)), (1, .v (.int .i64 n))], [], .plain⟩ h Q
def slices_Grow_string_string.wp (s : Option Addr) (s_n : Nat) (s_c : Nat) (n : Int) (h : Heap) (Q : Value → Heap → Prop) : Prop :=
 xsIf (decide (n < 0)) False (slices_Grow_string_string.J3 s s_n s_c n h Q)
def slices_Grow_string_string.J3.wp (s : Option Addr) (s_n : Nat) (s_c : Nat) (n : Int) (h : Heap) (Q : Value → Heap → Prop) : Prop :=
 xsIf (decide (0 < IntKind.i64.wrap (n - IntKind.i64.wrap ((↑s_c : Int) - (↑s_n : Int)))))
 ((0 ≤ (↑s_c : Int) ∧ (↑s_c : Int) ≤ (↑s_c : Int)) ∧
 xsAppZ Tryd.prog 9 h (slBase s (↑s_c : Int) 0 1) ((↑s_c : Int) - 0).toNat ((↑s_c : Int) - 0).toNat (IntKind.i64.wrap (n - IntKind.i64.wrap ((↑s_c : Int) - (↑s_n : Int)))) fun (a' : Option Addr) (n' c' : Nat) (h' : Heap) =>
 (0 ≤ (↑s_n : Int) ∧ (↑s_n : Int) ≤ (↑c' : Int)) ∧ Q (.slice (slBase a' (↑c' : Int) 0 1) ((↑s_n : Int) - 0).toNat ((↑c' : Int) - 0).toNat) h')
 (Q (.slice s s_n s_c) h)
theorem slices_Grow_string_string.ok {s : Option Addr} {s_n : Nat} {s_c : Nat} {n : Int} {h : Heap} {Q : Value → Heap → Prop} (hk : slices_Grow_string_string.wp s s_n s_c n h Q) : C Tryd.prog 54 #[.slice s s_n s_c, .int .i64 n] h Q :=
 C_of_xs (H := slices_Grow_string_string.H) (lcuts := slices_Grow_string_string.lc) (rcuts := slices_Grow_string_string.rc) (l := [.slice s s_n s_c, .int .i64 n]) 2000 mixed Tryd.func54 rfl (by kernel_rfl) (@cast (slices_Grow_string_string.wp s s_n s_c n h Q) _ (by kernel_rfl) hk)
theorem slices_Grow_string_string.J3.ok {s : Option Addr} {s_n : Nat} {s_c : Nat} {n : Int} {h : Heap} {Q : Value → Heap → Prop} (hk : slices_Grow_string_string.J3.wp s s_n s_c n h Q) : slices_Grow_string_string.J3 s s_n s_c n h Q :=
 xs_ok (H := slices_Grow_string_string.H) (lcuts := slices_Grow_string_string.lc) (rcuts := []) (fn := Tryd.f54) mixed Tryd.func54 2000 _ _ _ (@cast (slices_Grow_string_string.J3.wp s s_n s_c n h Q) _ (by kernel_rfl) hk)

/-! slices.Concat[[]string,string] -/
def slices_Concat_string_string.H : Hn := ⟨[], [], [], []⟩
def slices_Concat_string_string.lc : List Cut := [⟨3, [0, 3, 9, 10, 11], []⟩, ⟨11, [6, 25, 26, 27], []⟩]
def slices_Concat_string_string.rc : List Cut := [⟨8, [0, 3, 9, 10, 11], []⟩]
def slices_Concat_string_string.L3 (slices : Option Addr) (slices_n : Nat) (slices_c : Nat) (size : Int) (t9 : Option Addr) (t9_n : Nat) (t9_c : Nat) (t10 : Int) (t11 : Int) (h : Heap) (Q : Value → Heap → Prop) : Prop :=
 TW Tryd.prog 35 36 [.code (cAt (bodyOf Tryd.f35) [1, 1, 0, 1, 0, 0]), .inLoop (cAt (bodyOf Tryd.f35) [1, 1, 0, 1, 0, 0]), .inBlock 0, .code (cAt (bodyOf Tryd.f35) [1, 1, 1])] ⟨[(0, .v (.slice slices slices_n slices_c)), (3, .v (.int .i64 size)), (9, .v (.slice t9 t9_n t9_c)), (10, .v (.int .i64 t10)), (11, .v (.int .i64 t11))], [], .plain⟩ h Q
def slices_Concat_string_string.J8 (slices : Option Addr) (slices_n : Nat) (slices_c : Nat) (size : Int) (t9 : Option Addr) (t9_n : Nat) (t9_c : Nat) (t10 : Int) (t11 : Int) (h : Heap) (Q : Value → Heap → Prop) : Prop :=
 TW Tryd.prog 35 36 [.code (cAt (bodyOf Tryd.f35) [1, 1, 0, 1, 0, 0, 1, 1, 1]), .inLoop (cAt (bodyOf Tryd.f35) [1, 1, 0, 1, 0, 0]), .inBlock 0, .code (cAt (bodyOf Tryd.f35) [1, 1, 1])] ⟨[(0, .v (.slice slices slices_n slices_c)), (3, .v (.int .i64 size)), (9, .v (.slice t9 t9_n t9_c)), (10, .v (.int .i64 t10)), (11, .v (.int .i64 t11))], [], .plain⟩ h Q
def slices_Concat_string_string.L11 (newslice : Option Addr) (newslice_n : Nat) (newslice_c : Nat) (t25 : Option Addr) (t25_n : Nat) (t25_c : Nat) (t26 : Int) (t27 : Int) (h : Heap) (Q : Value → Heap → Prop) : Prop :=
 TW Tryd.prog 35 36 [.code (cAt (bodyOf Tryd.f35) [1, 1, 1, 1, 0, 1, 0, 0]), .inLoop (cAt (bodyOf Tryd.f35) [1, 1, 1, 1, 0, 1, 0, 0]), .inBlock 2, .code (cAt (bodyOf Tryd.f35) [1, 1, 1, 1, 1])] ⟨[(6, .v (.slice newslice newslice_n newslice_c)), (25, .v (.slice t25 t25_n t25_c)), (26, .v (.int .i64 t26)), (27, .v (.int .i64 t27))], [], .plain⟩ h Q
def slices_Concat_string_string.wp (slices : Option Addr) (slices_n : Nat) (slices_c : Nat) (h : Heap) (Q : Value → Heap → Prop) : Prop :=
 slices_Concat_string_string.L3 slices slices_n slices_c 0 slices slices_n slices_c (↑slices_n : Int) 0 h Q
def slices_Concat_string_string.L3.wp (slices : Option Addr) (slices_n : Nat) (slices_c : Nat) (size : Int) (t9 : Option Addr) (t9_n : Nat) (t9_c : Nat) (t10 : Int) (t11 : Int) (h : Heap) (Q : Value → Heap → Prop) : Prop :=
 xsIf (decide (t11 < t10))
 ((0 ≤ t11 ∧ t11 < (↑t9_n : Int)) ∧
 atBase t9 fun (b o : Nat) =>
 ∃ (x : Option Addr),
 ∃ (n : Nat),
 ∃ (m : Nat),
 h.cell b (o + t11.toNat * 1) = some (.slice x n m) ∧
 xsIf (decide (IntKind.i64.wrap (size + (↑n : Int)) < 0)) False (slices_Concat_string_string.J8 slices slices_n slices_c (IntKind.i64.wrap (size + (↑n : Int))) t9 t9_n t9_c t10 t11 h Q))
 (C Tryd.prog 54 #[.slice none 0 0, .int .i64 size] h fun (r : Value) (h' : Heap) =>
 ∃ (x : Option Addr), ∃ (n : Nat), ∃ (m : Nat), r = .slice x n m ∧ slices_Concat_string_string.L11 x n m slices slices_n slices_c (↑slices_n : Int) 0 h' Q)
def slices_Concat_string_string.J8.wp (slices : Option Addr) (slices_n : Nat) (slices_c : Nat) (size : Int) (t9 : Option Addr) (t9_n : Nat) (t9_c : Nat) (t10 : Int) (t11 : Int) (h : Heap) (Q : Value → Heap → Prop) : Prop :=
 slices_Concat_string_string.L3 slices slices_n slices_c size t9 t9_n t9_c t10 (IntKind.i64.wrap (t11 + 1)) h Q
def slices_Concat_string_string.L11.wp (newslice : Option Addr) (newslice_n : Nat) (newslice_c : Nat) (t25 : Option Addr) (t25_n : Nat) (t25_c : Nat) (t26 : Int) (t27 : Int) (h : Heap) (Q : Value → Heap → Prop) : Prop :=
 xsIf (decide (t27 < t26))
 ((0 ≤ t27 ∧ t27 < (↑t25_n : Int)) ∧
 atBase t25 fun (b o : Nat) =>
 ∃ (x : Option Addr),
 ∃ (n : Nat),
 ∃ (m : Nat),
 h.cell b (o + t27.toNat * 1) = some (.slice x n m) ∧
 xsApp Tryd.prog 9 h newslice newslice_n newslice_c x n fun (a' : Option Addr) (n' c' : Nat) (h' : Heap) => slices_Concat_string_string.L11 a' n' c' t25 t25_n t25_c t26 (IntKind.i64.wrap (t27 + 1)) h' Q)
 (Q (.slice newslice newslice_n newslice_c) h)
theorem slices_Concat_string_string.ok {slices : Option Addr} {slices_n : Nat} {slices_c : Nat} {h : Heap} {Q : Value → Heap → Prop} (hk : slices_Concat_string_string.wp slices slices_n slices_c h Q) : C Tryd.prog 35 #[.slice slices slices_n slices_c] h Q :=
 C_of_xs (H := slices_Concat_string_string.H) (lcuts := slices_Concat_string_string.lc) (rcuts := slices_Concat_string_string.rc) (l := [.slice slices slices_n slices_c]) 2000 mixed Tryd.func35 rfl (by kernel_rfl) (@cast (slices_Concat_string_string.wp slices slices_n slices_c h Q) _ (by kernel_rfl) hk)
theorem slices_Concat_string_string.L3.ok {slices : Option Addr} {slices_n : Nat} {slices_c : Nat} {size : Int} {t9 : Option Addr} {t9_n : Nat} {t9_c : Nat} {t10 : Int} {t11 : Int} {h : Heap} {Q : Value → Heap → Prop} (hk : slices_Concat_string_string.L3.wp slices slices_n slices_c size t9 t9_n t9_c t10 t11 h Q) : slices_Concat_string_string.L3 slices slices_n slices_c size t9 t9_n t9_c t10 t11 h Q :=
 xs_ok (H := slices_Concat_string_string.H) (lcuts := slices_Concat_string_string.lc) (rcuts := slices_Concat_string_string.rc) (fn := Tryd.f35) mixed Tryd.func35 2000 _ _ _ (@cast (slices_Concat_string_string.L3.wp slices slices_n slices_c size t9 t9_n t9_c t10 t11 h Q) _ (by kernel_rfl) hk)
theorem slices_Concat_string_string.J8.ok {slices : Option Addr} {slices_n : Nat} {slices_c : Nat} {size : Int} {t9 : Option Addr} {t9_n : Nat} {t9_c : Nat} {t10 : Int} {t11 : Int} {h : Heap} {Q : Value → Heap → Prop} (hk : slices_Concat_string_string.J8.wp slices slices_n slices_c size t9 t9_n t9_c t10 t11 h Q) : slices_Concat_string_string.J8 slices slices_n slices_c size t9 t9_n t9_c t10 t11 h Q :=
 xs_ok (H := slices_Concat_string_string.H) (lcuts := slices_Concat_string_string.lc) (rcuts := []) (fn := Tryd.f35) mixed Tryd.func35 2000 _ _ _ (@cast (slices_Concat_string_string.J8.wp slices slices_n slices_c size t9 t9_n t9_c t10 t11 h Q) _ (by kernel_rfl) hk)
theorem slices_Concat_string_string.L11.ok {newslice : Option Addr} {newslice_n : Nat} {newslice_c : Nat} {t25 : Option Addr} {t25_n : Nat} {t25_c : Nat} {t26 : Int} {t27 : Int} {h : Heap} {Q : Value → Heap → Prop} (hk : slices_Concat_string_string.L11.wp newslice newslice_n newslice_c t25 t25_n t25_c t26 t27 h Q) : slices_Concat_string_string.L11 newslice newslice_n newslice_c t25 t25_n t25_c t26 t27 h Q :=
 xs_ok (H := slices_Concat_string_string.H) (lcuts := slices_Concat_string_string.lc) (rcuts := slices_Concat_string_string.rc) (fn := Tryd.f35) mixed Tryd.func35 2000 _ _ _ (@cast (slices_Concat_string_string.L11.wp newslice newslice_n newslice_c t25 t25_n t25_c t26 t27 h Q) _ (by kernel_rfl) hk)

/-! gabion/path.Join -/
def path_Join.H : Hn := ⟨[], [], [⟨2, .q 0 (.q 1 (.q 2 (.q 3 (.q 5 (.q 6 (.q 4 (.q 7 (.q 8 (.nil))))))))), [4]⟩, ⟨3, .q 0 (.q 1 (.q 2 (.q 3 (.q 4 (.q 5 (.q 8 (.q 9 (.q 6 (.q 7 (.q 10 (.q 11 (.nil)))))))))))), [4]⟩], []⟩
def path_Join.lc : List Cut := []
def path_Join.rc : List Cut := []
def path_Join.wp (a_0 : Bool) (a_1 : Option Addr) (a_1_n : Nat) (a_1_c : Nat) (a_2 : Bool) (b_0 : Bool) (b_1 : Option Addr) (b_1_n : Nat) (b_1_c : Nat) (b_2 : Bool) (h : Heap) (Q : Value → Heap → Prop) : Prop :=
 xsIf b_0
 (C Tryd.prog 34 #[.slice b_1 b_1_n b_1_c] h fun (r : Value) (h' : Heap) =>
 ∃ (x : Option Addr), ∃ (n : Nat), ∃ (m : Nat), r = .slice x n m ∧ Q (.agg #[.bool b_0, .slice x n m, .bool b_2]) h')
 (∀ (b : Nat),
 h b = none →
 C Tryd.prog 35 #[.slice (some { block := b, off := 0 }) 2 2] (upd h b (Obj.cells #[.slice a_1 a_1_n a_1_c, .slice b_1 b_1_n b_1_c] 22 (0, 0))) fun (r : Value) (h' : Heap) =>
 ∃ (x : Option Addr), ∃ (n : Nat), ∃ (m : Nat), r = .slice x n m ∧ Q (.agg #[.bool a_0, .slice x n m, .bool b_2]) h')
theorem path_Join.ok {a_0 : Bool} {a_1 : Option Addr} {a_1_n : Nat} {a_1_c : Nat} {a_2 : Bool} {b_0 : Bool} {b_1 : Option Addr} {b_1_n : Nat} {b_1_c : Nat} {b_2 : Bool} {h : Heap} {Q : Value → Heap → Prop} (hk : path_Join.wp a_0 a_1 a_1_n a_1_c a_2 b_0 b_1 b_1_n b_1_c b_2 h Q) : C Tryd.prog 18 #[.agg #[.bool a_0, .slice a_1 a_1_n a_1_c, .bool a_2], .agg #[.bool b_0, .slice b_1 b_1_n b_1_c, .bool b_2]] h Q :=
 C_of_xs (H := path_Join.H) (lcuts := path_Join.lc) (rcuts := path_Join.rc) (l := [.agg #[.bool a_0, .slice a_1 a_1_n a_1_c, .bool a_2], .agg #[.bool b_0, .slice b_1 b_1_n b_1_c, .bool b_2]]) 2000 mixed Tryd.func18 rfl (by kernel_rfl) (@cast (path_Join.wp a_0 a_1 a_1_n a_1_c a_2 b_0 b_1 b_1_n b_1_c b_2 h Q) _ (by kernel_rfl) hk)

/-! (gabion/path.Way).Last -/
def path_Way_Last.H : Hn := ⟨[], [], [⟨4, .q 0 (.q 1 (.q 2 (.q 3 (.q 4 (.q 5 (.q 8 (.q 9 (.q 10 (.q 11 (.br 6 (.q 7 (.br 12 (.q 13 (.q 14 (.q 15 (.nil)))) (.one 13 (.q 12 (.q 14 (.q 15 (.nil))))))) (.one 12 (.q 6 (.q 7 (.q 13 (.q 14 (.q 15 (.nil))))))))))))))))), [2]⟩], []⟩
def path_Way_Last.lc : List Cut := []
def path_Way_Last.rc : List Cut := []
def path_Way_Last.wp (w_0 : Bool) (w_1 : Option Addr) (w_1_n : Nat) (w_1_c : Nat) (w_2 : Bool) (h : Heap) (Q : Value → Heap → Prop) : Prop :=
 xsIf (decide (IntKind.i64.wrap ((↑w_1_n : Int) - 1) < 0)) (Q (.tuple #[.agg #[.bool false, .slice none 0 0, .bool false], .string { data := #[] }, .bool false]) h)
 ((0 ≤ IntKind.i64.wrap ((↑w_1_n : Int) - 1) ∧ IntKind.i64.wrap ((↑w_1_n : Int) - 1) ≤ (↑w_1_c : Int)) ∧
 (0 ≤ IntKind.i64.wrap ((↑w_1_n : Int) - 1) ∧ IntKind.i64.wrap ((↑w_1_n : Int) - 1) < (↑w_1_n : Int)) ∧
 atBase w_1 fun (b o : Nat) =>
 (C Tryd.prog 34 #[.slice (slBase w_1 (↑w_1_c : Int) 0 1) (IntKind.i64.wrap ((↑w_1_n : Int) - 1) - 0).toNat ((↑w_1_c : Int) - 0).toNat] h fun (r : Value) (h' : Heap) =>
 ∃ (x : Option Addr),
 ∃ (n : Nat),
 ∃ (m : Nat),
 r = .slice x n m ∧
 (∃ (x_1 : ByteArray),
 h'.cell b (o + (IntKind.i64.wrap ((↑w_1_n : Int) - 1)).toNat * 1) = some (.string x_1) ∧
 Q (.tuple #[.agg #[.bool w_0, .slice x n m, .bool true], .string x_1, .bool true]) h') ∧
 ∃ (x_1 : ByteArray),
 h'.cell b (o + (IntKind.i64.wrap ((↑w_1_n : Int) - 1)).toNat * 1) = some (.string x_1) ∧
 Q (.tuple #[.agg #[.bool w_0, .slice x n m, .bool true], .string x_1, .bool true]) h') ∧
 ∃ (x : ByteArray),
 h.cell b (o + (IntKind.i64.wrap ((↑w_1_n : Int) - 1)).toNat * 1) = some (.string x) ∧
 C Tryd.prog 34 #[.slice (slBase w_1 (↑w_1_c : Int) 0 1) (IntKind.i64.wrap ((↑w_1_n : Int) - 1) - 0).toNat ((↑w_1_c : Int) - 0).toNat] h fun (r : Value) (h' : Heap) =>
 ∃ (x_1 : Option Addr), ∃ (n : Nat), ∃ (m : Nat), r = .slice x_1 n m ∧ Q (.tuple #[.agg #[.bool w_0, .slice x_1 n m, .bool true], .string x, .bool true]) h')
theorem path_Way_Last.ok {w_0 : Bool} {w_1 : Option Addr} {w_1_n : Nat} {w_1_c : Nat} {w_2 : Bool} {h : Heap} {Q : Value → Heap → Prop} (hk : path_Way_Last.wp w_0 w_1 w_1_n w_1_c w_2 h Q) : C Tryd.prog 19 #[.agg #[.bool w_0, .slice w_1 w_1_n w_1_c, .bool w_2]] h Q :=
 C_of_xs (H := path_Way_Last.H) (lcuts := path_Way_Last.lc) (rcuts := path_Way_Last.rc) (l := [.agg #[.bool w_0, .slice w_1 w_1_n w_1_c, .bool w_2]]) 2000 mixed Tryd.func19 rfl (by kernel_rfl) (@cast (path_Way_Last.wp w_0 w_1 w_1_n w_1_c w_2 h Q) _ (by kernel_rfl) hk)

/-! gabion/gabionlaw18.PathJoins -/
def gabionlaw18_PathJoins.H : Hn := ⟨[], [], [⟨6, .q 0 (.q 1 (.q 2 (.q 3 (.q 5 (.q 6 (.q 8 (.q 9 (.br 4 (.br 7 (.q 10 (.q 11 (.q 12 (.nil)))) (.one 11 (.q 7 (.q 10 (.q 12 (.nil)))))) (.one 11 (.q 4 (.q 7 (.q 10 (.q 12 (.nil)))))))))))))), [10]⟩], []⟩
def gabionlaw18_PathJoins.lc : List Cut := []
def gabionlaw18_PathJoins.rc : List Cut := [⟨5, [5, 7], [5, 7]⟩, ⟨9, [9, 10], [9, 10]⟩, ⟨12, [9, 11, 12, 13], [9, 11]⟩]
def gabionlaw18_PathJoins.J5 (a_0 : Bool) (a_1 : Option Addr) (a_1_n : Nat) (a_1_c : Nat) (a_2 : Bool) (b_0 : Bool) (b_1 : Option Addr) (b_1_n : Nat) (b_1_c : Nat) (b_2 : Bool) (h : Heap) (Q : Value → Heap → Prop) : Prop :=
 TW Tryd.prog 6 102 [.code (cAt (bodyOf Tryd.f6) [1, 1, 1, 1, 0]), .code (cAt (bodyOf Tryd.f6) [1, 1, 1, 1, 1])] ⟨[(5, .p 5 0), (7, .p 7 0)], [(5, [.bool a_0, .slice a_1 a_1_n a_1_c, .bool a_2]), (7, [.bool b_0, .slice b_1 b_1_n b_1_c, .bool b_2])], .plain⟩ h Q
def gabionlaw18_PathJoins.J9 (c_0 : Bool) (c_1 : Option Addr) (c_1_n : Nat) (c_1_c : Nat) (c_2 : Bool) (want_0 : Bool) (want_1 : Option Addr) (want_1_n : Nat) (want_1_c : Nat) (want_2 : Bool) (h : Heap) (Q : Value → Heap → Prop) : Prop :=
 TW Tryd.prog 6 102 [.code (cAt (bodyOf Tryd.f6) [1, 1, 1, 1, 1, 1, 1, 0]), .code (cAt (bodyOf Tryd.f6) [1, 1, 1, 1, 1, 1, 1, 1])] ⟨[(9, .p 9 0), (10, .p 10 0)], [(9, [.bool c_0, .slice c_1 c_1_n c_1_c, .bool c_2]), (10, [.bool want_0, .slice want_1 want_1_n want_1_c, .bool want_2])], .plain⟩ h Q
def gabionlaw18_PathJoins.J12 (last : ByteArray) (ok : Bool) (c_0 : Bool) (c_1 : Option Addr) (c_1_n : Nat) (c_1_c : Nat) (c_2 : Bool) (head_0 : Bool) (head_1 : Option Addr) (head_1_n : Nat) (head_1_c : Nat) (head_2 : Bool) (h : Heap) (Q : Value → Heap → Prop) : Prop :=
 TW Tryd.prog 6 102 [.code (cAt (bodyOf Tryd.f6) [1, 1, 1, 1, 1, 1, 1, 1, 1, 0, 0]), .code (cAt (bodyOf Tryd.f6) [1, 1, 1, 1, 1, 1, 1, 1, 1, 0, 1]), .code (cAt (bodyOf Tryd.f6) [1, 1, 1, 1, 1, 1, 1, 1, 1, 1])] ⟨[(9, .p 9 0), (11, .p 11 0), (12, .v (.string last)), (13, .v (.bool ok))], [(9, [.bool c_0, .slice c_1 c_1_n c_1_c, .bool c_2]), (11, [.bool head_0, .slice head_1 head_1_n head_1_c, .bool head_2])], .plain⟩ h Q
def gabionlaw18_PathJoins.wp (s : ByteArray) (t : ByteArray) (h : Heap) (Q : Value → Heap → Prop) : Prop :=
 (0 ≤ imin (↑s.size : Int) 200 ∧ imin (↑s.size : Int) 200 ≤ (↑s.size : Int)) ∧
 C Tryd.prog 11 #[.string (sext s 0 (imin (↑s.size : Int) 200))] h fun (r : Value) (h' : Heap) =>
 ∃ (x : Bool),
 ∃ (x_1 : Option Addr),
 ∃ (n : Nat),
 ∃ (m : Nat),
 ∃ (x_2 : Bool),
 ∃ (x_3 : Int),
 r = .tuple #[.agg #[.bool x, .slice x_1 n m, .bool x_2], .int .i64 x_3] ∧
 (0 ≤ imin (↑t.size : Int) 200 ∧ imin (↑t.size : Int) 200 ≤ (↑t.size : Int)) ∧
 C Tryd.prog 11 #[.string (sext t 0 (imin (↑t.size : Int) 200))] h' fun (r : Value) (h' : Heap) =>
 ∃ (x_4 : Bool),
 ∃ (x_5 : Option Addr),
 ∃ (n_1 : Nat),
 ∃ (m_1 : Nat),
 ∃ (x_6 : Bool),
 ∃ (x_7 : Int),
 r = .tuple #[.agg #[.bool x_4, .slice x_5 n_1 m_1, .bool x_6], .int .i64 x_7] ∧
 C Tryd.prog 13 #[] h' fun (r : Value) (h' : Heap) =>
 ∃ (x_8 : Bool),
 r = .bool x_8 ∧
 xsIf (!x_8) (C Tryd.prog 13 #[] h' fun (r : Value) (h' : Heap) => ∃ (x : Bool), r = .bool x ∧ Q (.bool x) h')
 (xsIf (decide (x_3 ≠ 0)) (C Tryd.prog 13 #[] h' fun (r : Value) (h' : Heap) => ∃ (x : Bool), r = .bool x ∧ Q (.bool x) h')
 (xsIf (decide (x_7 ≠ 0)) (C Tryd.prog 13 #[] h' fun (r : Value) (h' : Heap) => ∃ (x : Bool), r = .bool x ∧ Q (.bool x) h')
 (gabionlaw18_PathJoins.J5 x x_1 n m x_2 x_4 x_5 n_1 m_1 x_6 h' Q)))
def gabionlaw18_PathJoins.J5.wp (a_0 : Bool) (a_1 : Option Addr) (a_1_n : Nat) (a_1_c : Nat) (a_2 : Bool) (b_0 : Bool) (b_1 : Option Addr) (b_1_n : Nat) (b_1_c : Nat) (b_2 : Bool) (h : Heap) (Q : Value → Heap → Prop) : Prop :=
 C Tryd.prog 18 #[.agg #[.bool a_0, .slice a_1 a_1_n a_1_c, .bool a_2], .agg #[.bool b_0, .slice b_1 b_1_n b_1_c, .bool b_2]] h fun (r : Value) (h' : Heap) =>
 ∃ (x : Bool),
 ∃ (x_1 : Option Addr),
 ∃ (n : Nat),
 ∃ (m : Nat),
 ∃ (x_2 : Bool),
 r = .agg #[.bool x, .slice x_1 n m, .bool x_2] ∧
 (xsApp Tryd.prog 9 h' none 0 0 a_1 a_1_n fun (a' : Option Addr) (n' c' : Nat) (h' : Heap) =>
 (xsApp Tryd.prog 9 h' a' n' c' b_1 b_1_n fun (a' : Option Addr) (n' c' : Nat) (h' : Heap) =>
 xsIf b_0 (gabionlaw18_PathJoins.J9 x x_1 n m x_2 b_0 b_1 b_1_n b_1_c b_2 h' Q) (gabionlaw18_PathJoins.J9 x x_1 n m x_2 a_0 a' n' c' b_2 h' Q)) ∧
 xsApp Tryd.prog 9 h' a' n' c' b_1 b_1_n fun (a' : Option Addr) (n' c' : Nat) (h' : Heap) =>
 xsIf b_0 (gabionlaw18_PathJoins.J9 x x_1 n m x_2 b_0 b_1 b_1_n b_1_c b_2 h' Q) (gabionlaw18_PathJoins.J9 x x_1 n m x_2 a_0 a' n' c' b_2 h' Q)) ∧
 xsApp Tryd.prog 9 h' none 0 0 a_1 a_1_n fun (a' : Option Addr) (n' c' : Nat) (h' : Heap) =>
 xsApp Tryd.prog 9 h' a' n' c' b_1 b_1_n fun (a' : Option Addr) (n' c' : Nat) (h' : Heap) =>
 xsIf b_0 (gabionlaw18_PathJoins.J9 x x_1 n m x_2 b_0 b_1 b_1_n b_1_c b_2 h' Q) (gabionlaw18_PathJoins.J9 x x_1 n m x_2 a_0 a' n' c' b_2 h' Q)
def gabionlaw18_PathJoins.J9.wp (c_0 : Bool) (c_1 : Option Addr) (c_1_n : Nat) (c_1_c : Nat) (c_2 : Bool) (want_0 : Bool) (want_1 : Option Addr) (want_1_n : Nat) (want_1_c : Nat) (want_2 : Bool) (h : Heap) (Q : Value → Heap → Prop) : Prop :=
 C Tryd.prog 19 #[.agg #[.bool c_0, .slice c_1 c_1_n c_1_c, .bool c_2]] h fun (r : Value) (h' : Heap) =>
 ∃ (x : Bool),
 ∃ (x_1 : Option Addr),
 ∃ (n : Nat),
 ∃ (m : Nat),
 ∃ (x_2 : Bool),
 ∃ (x_3 : ByteArray),
 ∃ (x_4 : Bool),
 r = .tuple #[.agg #[.bool x, .slice x_1 n m, .bool x_2], .string x_3, .bool x_4] ∧
 C Tryd.prog 14 #[.agg #[.bool c_0, .slice c_1 c_1_n c_1_c, .bool c_2], .agg #[.bool want_0, .slice want_1 want_1_n want_1_c, .bool want_2]] h'
 fun (r : Value) (h' : Heap) =>
 ∃ (x_5 : Bool),
 r = .bool x_5 ∧ xsIf (!x_5) (Q (.bool false) h') (xsIf (!x_4 == decide (0 < (↑c_1_n : Int))) (Q (.bool false) h') (gabionlaw18_PathJoins.J12 x_3 x_4 c_0 c_1 c_1_n c_1_c c_2 x x_1 n m x_2 h' Q))
def gabionlaw18_PathJoins.J12.wp (last : ByteArray) (ok : Bool) (c_0 : Bool) (c_1 : Option Addr) (c_1_n : Nat) (c_1_c : Nat) (c_2 : Bool) (head_0 : Bool) (head_1 : Option Addr) (head_1_n : Nat) (head_1_c : Nat) (head_2 : Bool) (h : Heap) (Q : Value → Heap → Prop) : Prop :=
 xsIf (!ok)
 (xsIf (decide (last = { data := #[] }))
 (C Tryd.prog 14 #[.agg #[.bool head_0, .slice head_1 head_1_n head_1_c, .bool head_2], .agg #[.bool false, .slice none 0 0, .bool false]] h
 fun (r : Value) (h' : Heap) => ∃ (x : Bool), r = .bool x ∧ Q (.bool x) h')
 (Q (.bool false) h))
 (∀ (b : Nat),
 h b = none →
 C Tryd.prog 18
 #[.agg #[.bool head_0, .slice head_1 head_1_n head_1_c, .bool head_2], .agg #[.bool false, .slice (some { block := b, off := 0 }) 1 1, .bool c_2]]
 (upd h b (Obj.cells #[.string last] 9 (0, 0))) fun (r : Value) (h' : Heap) =>
 ∃ (x : Bool),
 ∃ (x_1 : Option Addr),
 ∃ (n : Nat),
 ∃ (m : Nat),
 ∃ (x_2 : Bool),
 r = .agg #[.bool x, .slice x_1 n m, .bool x_2] ∧
 xsIf head_2
 (C Tryd.prog 14 #[.agg #[.bool x, .slice x_1 n m, .bool x_2], .agg #[.bool c_0, .slice c_1 c_1_n c_1_c, .bool c_2]] h'
 fun (r : Value) (h' : Heap) => ∃ (x : Bool), r = .bool x ∧ Q (.bool x) h')
 (Q (.bool false) h'))
theorem gabionlaw18_PathJoins.ok {s : ByteArray} {t : ByteArray} {h : Heap} {Q : Value → Heap → Prop} (hk : gabionlaw18_PathJoins.wp s t h Q) : C Tryd.prog 6 #[.string s, .string t] h Q :=
 C_of_xs (H := gabionlaw18_PathJoins.H) (lcuts := gabionlaw18_PathJoins.lc) (rcuts := gabionlaw18_PathJoins.rc) (l := [.string s, .string t]) 2000 mixed Tryd.func6 rfl (by kernel_rfl) (@cast (gabionlaw18_PathJoins.wp s t h Q) _ (by kernel_rfl) hk)
theorem gabionlaw18_PathJoins.J5.ok {a_0 : Bool} {a_1 : Option Addr} {a_1_n : Nat} {a_1_c : Nat} {a_2 : Bool} {b_0 : Bool} {b_1 : Option Addr} {b_1_n : Nat} {b_1_c : Nat} {b_2 : Bool} {h : Heap} {Q : Value → Heap → Prop} (hk : gabionlaw18_PathJoins.J5.wp a_0 a_1 a_1_n a_1_c a_2 b_0 b_1 b_1_n b_1_c b_2 h Q) : gabionlaw18_PathJoins.J5 a_0 a_1 a_1_n a_1_c a_2 b_0 b_1 b_1_n b_1_c b_2 h Q :=
 xs_ok (H := gabionlaw18_PathJoins.H) (lcuts := gabionlaw18_PathJoins.lc) (rcuts := [⟨9, [9, 10], [9, 10]⟩, ⟨12, [9, 11, 12, 13], [9, 11]⟩]) (fn := Tryd.f6) mixed Tryd.func6 2000 _ _ _ (@cast (gabionlaw18_PathJoins.J5.wp a_0 a_1 a_1_n a_1_c a_2 b_0 b_1 b_1_n b_1_c b_2 h Q) _ (by kernel_rfl) hk)
theorem gabionlaw18_PathJoins.J9.ok {c_0 : Bool} {c_1 : Option Addr} {c_1_n : Nat} {c_1_c : Nat} {c_2 : Bool} {want_0 : Bool} {want_1 : Option Addr} {want_1_n : Nat} {want_1_c : Nat} {want_2 : Bool} {h : Heap} {Q : Value → Heap → Prop} (hk : gabionlaw18_PathJoins.J9.wp c_0 c_1 c_1_n c_1_c c_2 want_0 want_1 want_1_n want_1_c want_2 h Q) : gabionlaw18_PathJoins.J9 c_0 c_1 c_1_n c_1_c c_2 want_0 want_1 want_1_n want_1_c want_2 h Q :=
 xs_ok (H := gabionlaw18_PathJoins.H) (lcuts := gabionlaw18_PathJoins.lc) (rcuts := [⟨5, [5, 7], [5, 7]⟩, ⟨12, [9, 11, 12, 13], [9, 11]⟩]) (fn := Tryd.f6) mixed Tryd.func6 2000 _ _ _ (@cast (gabionlaw18_PathJoins.J9.wp c_0 c_1 c_1_n c_1_c c_2 want_0 want_1 want_1_n want_1_c want_2 h Q) _ (by kernel_rfl) hk)
theorem gabionlaw18_PathJoins.J12.ok {last : ByteArray} {ok : Bool} {c_0 : Bool} {c_1 : Option Addr} {c_1_n : Nat} {c_1_c : Nat} {c_2 : Bool} {head_0 : Bool} {head_1 : Option Addr} {head_1_n : Nat} {head_1_c : Nat} {head_2 : Bool} {h : Heap} {Q : Value → Heap → Prop} (hk : gabionlaw18_PathJoins.J12.wp last ok c_0 c_1 c_1_n c_1_c c_2 head_0 head_1 head_1_n head_1_c head_2 h Q) : gabionlaw18_PathJoins.J12 last ok c_0 c_1 c_1_n c_1_c c_2 head_0 head_1 head_1_n head_1_c head_2 h Q :=
 xs_ok (H := gabionlaw18_PathJoins.H) (lcuts := gabionlaw18_PathJoins.lc) (rcuts := [⟨5, [5, 7], [5, 7]⟩, ⟨9, [9, 10], [9, 10]⟩]) (fn := Tryd.f6) mixed Tryd.func6 2000 _ _ _ (@cast (gabionlaw18_PathJoins.J12.wp last ok c_0 c_1 c_1_n c_1_c c_2 head_0 head_1 head_1_n head_1_c head_2 h Q) _ (by kernel_rfl) hk)

/-! gabion/gabionlaw12.of -/
/-! (gabion/rec.Record).Right -/
/-! gabion/le.Put -/
/-! (*strings.Builder).copyCheck -/
/-! (*strings.Builder).WriteString -/
/-! (*strings.Builder).WriteByte -/
/-! (*strings.Builder).String -/
/-! gabion/rec.marked -/
/-! gabion/crc.Sum32 -/
/-! gabion/rec.sum -/
/-! gabion/rec.Encode -/
/-! gabion/gabionref01.Put -/
/-! gabion/gabionref12.word -/
/-! gabion/gabionref01.may -/
/-! gabion/gabionref01.bit -/
/-! gabion/gabionref01.Field -/
/-! gabion/gabionref02.bits -/
end Go.Gb
