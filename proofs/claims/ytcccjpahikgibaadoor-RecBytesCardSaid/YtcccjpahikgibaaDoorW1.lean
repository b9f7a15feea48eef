/- Own text for the seat: W1. -/
import Derived.Test.YtcccjpahikgibaaDoorA11
import Derived.Test.YtcccjpahikgibaaDoorProg
set_option linter.unusedVariables false
set_option linter.unusedSimpArgs false
set_option linter.unnecessarySimpa false
set_option linter.deprecated false
set_option maxRecDepth 100000
namespace Go.Gb
open Go.Proofs
theorem mixed : Tryd.prog.follows .mixedOrders = true := by kernel_rfl

/-! internal/stringslite.HasPrefix -/
/-! strings.HasPrefix -/
/-! unicode/utf8.DecodeRuneInString -/
/-! internal/stringslite.IndexByte -/
/-! internal/bytealg.Cutover -/
/-! internal/bytealg.hashStr[string] -/
/-! internal/bytealg.IndexRabinKarp[string] -/
/-! internal/stringslite.Index -/
/-! strings.Index -/
/-! strings.splitSeq$1 -/
/-! strings.splitSeq -/
/-! strings.SplitSeq -/
/-! strings.IndexByte -/
/-! unicode/utf8.ValidRune -/
def utf8_ValidRune.H : Hn := ⟨[], [], [], []⟩
def utf8_ValidRune.lc : List Cut := []
def utf8_ValidRune.rc : List Cut := []
def utf8_ValidRune.wp (r0 : Int) (h : Heap) (Q : Value → Heap → Prop) : Prop :=
 xsIf (decide (0 ≤ r0)) (xsIf (decide (r0 < 55296)) (Q (.bool true) h) (xsIf (decide (57343 < r0)) (xsIf (decide (r0 ≤ 1114111)) (Q (.bool true) h) (Q (.bool false) h)) (Q (.bool false) h)))
 (xsIf (decide (57343 < r0)) (xsIf (decide (r0 ≤ 1114111)) (Q (.bool true) h) (Q (.bool false) h)) (Q (.bool false) h))
theorem utf8_ValidRune.ok {r0 : Int} {h : Heap} {Q : Value → Heap → Prop} (hk : utf8_ValidRune.wp r0 h Q) : C Tryd.prog 97 #[.int .i32 r0] h Q :=
 C_of_xs (H := utf8_ValidRune.H) (lcuts := utf8_ValidRune.lc) (rcuts := utf8_ValidRune.rc) (l := [.int .i32 r0]) 2000 mixed Tryd.func97 rfl (by kernel_rfl) (@cast (utf8_ValidRune.wp r0 h Q) _ (by kernel_rfl) hk)

/-! strings.IndexRune -/
def strings_IndexRune.H : Hn := ⟨[], [], [⟨6, .q 0 (.q 1 (.q 2 (.q 3 (.q 4 (.q 5 (.q 6 (.nil))))))), []⟩, ⟨7, .q 0 (.q 1 (.q 2 (.q 3 (.q 4 (.q 5 (.q 6 (.q 7 (.q 8 (.nil))))))))), []⟩, ⟨14, .q 0 (.q 1 (.q 2 (.q 3 (.q 4 (.q 5 (.q 6 (.q 7 (.q 8 (.q 9 (.q 10 (.nil))))))))))), []⟩, ⟨31, .q 0 (.q 1 (.q 2 (.q 3 (.q 4 (.q 5 (.q 6 (.q 7 (.q 8 (.q 9 (.q 10 (.nil))))))))))), []⟩], [(175, 9)]⟩
def strings_IndexRune.lc : List Cut := [⟨38, [175], []⟩, ⟨5, [0, 1, 7, 8, 9, 10], []⟩, ⟨12, [0, 1, 7, 8, 9, 10, 12], []⟩, ⟨25, [0, 7, 8, 9, 14, 15], []⟩, ⟨29, [0, 7, 8, 9, 14, 15, 16], []⟩]
def strings_IndexRune.rc : List Cut := [⟨11, [0, 1, 7, 8, 9, 10], []⟩]
def strings_IndexRune.L38 (t175 : Nat) (h : Heap) (Q : Value → Heap → Prop) : Prop :=
 TW Tryd.prog 85 187 [.code (cAt (bodyOf Tryd.f85) [1, 0, 1, 1, 1, 0, 0, 1, 0, 0]), .inLoop (cAt (bodyOf Tryd.f85) [1, 0, 1, 1, 1, 0, 0, 1, 0, 0]), .inBlock 9, .code (cAt (bodyOf Tryd.f85) [1, 0, 1, 1, 1, 0, 1]), .inBlock 0] ⟨[(175, .v (.pointer (some ⟨t175, 0, none⟩)))], [], .plain⟩ h Q
def strings_IndexRune.L5 (s : ByteArray) (r0 : Int) (rs : ByteArray) (last : Int) (i_9 : Int) (fails : Int) (h : Heap) (Q : Value → Heap → Prop) : Prop :=
 TW Tryd.prog 85 187 [.code (cAt (bodyOf Tryd.f85) [1, 0, 1, 1, 1, 1, 1, 1, 0, 1, 1, 1, 1, 0, 0, 0]), .inLoop (cAt (bodyOf Tryd.f85) [1, 0, 1, 1, 1, 1, 1, 1, 0, 1, 1, 1, 1, 0, 0, 0]), .inBlock 1, .code (cAt (bodyOf Tryd.f85) [1, 0, 1, 1, 1, 1, 1, 1, 0, 1, 1, 1, 1, 1]), .inScope (cAt (bodyOf Tryd.f85) [1, 0, 1, 1, 1, 1, 1, 1, 0]), .inBlock 0] ⟨[(0, .v (.string s)), (1, .v (.int .i32 r0)), (7, .v (.string rs)), (8, .v (.int .i64 last)), (9, .v (.int .i64 i_9)), (10, .v (.int .i64 fails))], [], .plain⟩ h Q
def strings_IndexRune.J11 (s : ByteArray) (r0 : Int) (rs : ByteArray) (last : Int) (i_9 : Int) (fails : Int) (h : Heap) (Q : Value → Heap → Prop) : Prop :=
 TW Tryd.prog 85 187 [.code (cAt (bodyOf Tryd.f85) [1, 0, 1, 1, 1, 1, 1, 1, 0, 1, 1, 1, 1, 0, 0, 0, 1, 0, 0, 1, 0, 0]), .code (cAt (bodyOf Tryd.f85) [1, 0, 1, 1, 1, 1, 1, 1, 0, 1, 1, 1, 1, 0, 0, 0, 1, 0, 0, 1, 0, 1]), .code (cAt (bodyOf Tryd.f85) [1, 0, 1, 1, 1, 1, 1, 1, 0, 1, 1, 1, 1, 0, 0, 0, 1, 0, 0, 1, 1]), .inScope (cAt (bodyOf Tryd.f85) [1, 0, 1, 1, 1, 1, 1, 1, 0, 1, 1, 1, 1, 0, 0, 0, 1, 0, 0]), .inBlock 2, .inLoop (cAt (bodyOf Tryd.f85) [1, 0, 1, 1, 1, 1, 1, 1, 0, 1, 1, 1, 1, 0, 0, 0]), .inBlock 1, .code (cAt (bodyOf Tryd.f85) [1, 0, 1, 1, 1, 1, 1, 1, 0, 1, 1, 1, 1, 1]), .inScope (cAt (bodyOf Tryd.f85) [1, 0, 1, 1, 1, 1, 1, 1, 0]), .inBlock 0] ⟨[(0, .v (.string s)), (1, .v (.int .i32 r0)), (7, .v (.string rs)), (8, .v (.int .i64 last)), (9, .v (.int .i64 i_9)), (10, .v (.int .i64 fails))], [], .plain⟩ h Q
def strings_IndexRune.wp (s : ByteArray) (r0 : Int) (h : Heap) (Q : Value → Heap → Prop) : Prop :=
 xsIf (decide (0 ≤ r0))
 (xsIf (decide (r0 < 128)) (C Tryd.prog 96 #[.string s, .int .u8 (IntKind.u8.wrap r0)] h fun (r : Value) (h' : Heap) => ∃ (x : Int), r = .int .i64 x ∧ Q (.int .i64 x) h')
 (xsIf (decide (r0 = 65533)) (∀ (b : Nat), h b = none → strings_IndexRune.L38 b (upd h b (Obj.stringIter s 0)) Q)
 (C Tryd.prog 97 #[.int .i32 r0] h fun (r : Value) (h' : Heap) =>
 ∃ (x : Bool),
 r = .bool x ∧
 xsIf (!x) (Q (.int .i64 (-1)) h') (strings_IndexRune.L5 s r0 (Utf8.encode r0) (IntKind.i64.wrap ((↑(Utf8.encode r0).size : Int) - 1)) (IntKind.i64.wrap ((↑(Utf8.encode r0).size : Int) - 1)) 0 h' Q))))
 (xsIf (decide (r0 = 65533)) (∀ (b : Nat), h b = none → strings_IndexRune.L38 b (upd h b (Obj.stringIter s 0)) Q)
 (C Tryd.prog 97 #[.int .i32 r0] h fun (r : Value) (h' : Heap) =>
 ∃ (x : Bool),
 r = .bool x ∧ xsIf (!x) (Q (.int .i64 (-1)) h') (strings_IndexRune.L5 s r0 (Utf8.encode r0) (IntKind.i64.wrap ((↑(Utf8.encode r0).size : Int) - 1)) (IntKind.i64.wrap ((↑(Utf8.encode r0).size : Int) - 1)) 0 h' Q)))
def strings_IndexRune.L38.wp (t175 : Nat) (h : Heap) (Q : Value → Heap → Prop) : Prop :=
 atBase (some { block := t175, off := 0 }) fun (b o : Nat) =>
 o = 0 ∧
 ∃ (s : ByteArray),
 ∃ (pos : Nat),
 h b = some (Obj.stringIter s pos) ∧
 (pos < s.size → xsIf (decide (udR s pos = 65533)) (Q (.int .i64 (↑pos : Int)) (upd h b (Obj.stringIter s (pos + udW s pos)))) (strings_IndexRune.L38 t175 (upd h b (Obj.stringIter s (pos + udW s pos))) Q)) ∧
 (s.size ≤ pos → Q (.int .i64 (-1)) h)
def strings_IndexRune.L5.wp (s : ByteArray) (r0 : Int) (rs : ByteArray) (last : Int) (i_9 : Int) (fails : Int) (h : Heap) (Q : Value → Heap → Prop) : Prop :=
 xsIf (decide (i_9 < (↑s.size : Int)))
 (∃ (c : UInt8),
 0 ≤ i_9 ∧
 bget s i_9.toNat = some c ∧
 ∃ (c_1 : UInt8),
 0 ≤ last ∧
 bget rs last.toNat = some c_1 ∧
 xsIf (decide ((↑c.toNat : Int) ≠ (↑c_1.toNat : Int)))
 ((0 ≤ IntKind.i64.wrap (i_9 + 1) ∧ IntKind.i64.wrap (i_9 + 1) ≤ (↑s.size : Int)) ∧
 ∃ (c : UInt8),
 0 ≤ last ∧
 bget rs last.toNat = some c ∧
 C Tryd.prog 96 #[.string (sext s (IntKind.i64.wrap (i_9 + 1)) (↑s.size : Int)), .int .u8 (↑c.toNat : Int)] h fun (r : Value) (h' : Heap) =>
 ∃ (x : Int), r = .int .i64 x ∧ xsIf (decide (x < 0)) (Q (.int .i64 (-1)) h') (strings_IndexRune.J11 s r0 rs last (IntKind.i64.wrap (i_9 + IntKind.i64.wrap (x + 1))) fails h' Q))
 (strings_IndexRune.J11 s r0 rs last i_9 fails h Q))
 (Q (.int .i64 (-1)) h)
theorem strings_IndexRune.ok {s : ByteArray} {r0 : Int} {h : Heap} {Q : Value → Heap → Prop} (hk : strings_IndexRune.wp s r0 h Q) : C Tryd.prog 85 #[.string s, .int .i32 r0] h Q :=
 C_of_xs (H := strings_IndexRune.H) (lcuts := strings_IndexRune.lc) (rcuts := strings_IndexRune.rc) (l := [.string s, .int .i32 r0]) 2000 mixed Tryd.func85 rfl (by kernel_rfl) (@cast (strings_IndexRune.wp s r0 h Q) _ (by kernel_rfl) hk)
theorem strings_IndexRune.L38.ok {t175 : Nat} {h : Heap} {Q : Value → Heap → Prop} (hk : strings_IndexRune.L38.wp t175 h Q) : strings_IndexRune.L38 t175 h Q :=
 xs_ok (H := strings_IndexRune.H) (lcuts := strings_IndexRune.lc) (rcuts := strings_IndexRune.rc) (fn := Tryd.f85) mixed Tryd.func85 2000 _ _ _ (@cast (strings_IndexRune.L38.wp t175 h Q) _ (by kernel_rfl) hk)
theorem strings_IndexRune.L5.ok {s : ByteArray} {r0 : Int} {rs : ByteArray} {last : Int} {i_9 : Int} {fails : Int} {h : Heap} {Q : Value → Heap → Prop} (hk : strings_IndexRune.L5.wp s r0 rs last i_9 fails h Q) : strings_IndexRune.L5 s r0 rs last i_9 fails h Q :=
 xs_ok (H := strings_IndexRune.H) (lcuts := strings_IndexRune.lc) (rcuts := strings_IndexRune.rc) (fn := Tryd.f85) mixed Tryd.func85 2000 _ _ _ (@cast (strings_IndexRune.L5.wp s r0 rs last i_9 fails h Q) _ (by kernel_rfl) hk)
/-! strings.shouldUseASCIISet -/
/-! strings.makeASCIISet -/
/-! (*strings.asciiSet).contains -/
/-! strings.IndexAny -/
def strings_IndexAny.H : Hn := ⟨[6], [], [], [(45, 9)]⟩
def strings_IndexAny.lc : List Cut := [⟨12, [0, 6, 8], []⟩, ⟨18, [1, 45], []⟩]
def strings_IndexAny.rc : List Cut := [⟨7, [0, 5], []⟩, ⟨17, [0, 1], []⟩]
def strings_IndexAny.L18 (chars : ByteArray) (t45 : Nat) (h : Heap) (Q : Value → Heap → Prop) : Prop :=
 TW Tryd.prog 69 55 [.code (cAt (bodyOf Tryd.f69) [1, 1, 1, 1, 0, 1, 0, 0]), .inLoop (cAt (bodyOf Tryd.f69) [1, 1, 1, 1, 0, 1, 0, 0]), .inBlock 2, .code (cAt (bodyOf Tryd.f69) [1, 1, 1, 1, 1])] ⟨[(1, .v (.string chars)), (45, .v (.pointer (some ⟨t45, 0, none⟩)))], [], .plain⟩ h Q
def strings_IndexAny.L18.wp (chars : ByteArray) (t45 : Nat) (h : Heap) (Q : Value → Heap → Prop) : Prop :=
 atBase (some { block := t45, off := 0 }) fun (b o : Nat) =>
 o = 0 ∧
 ∃ (s : ByteArray),
 ∃ (pos : Nat),
 h b = some (Obj.stringIter s pos) ∧
 (pos < s.size →
 C Tryd.prog 85 #[.string chars, .int .i32 (udR s pos)] (upd h b (Obj.stringIter s (pos + udW s pos))) fun (r : Value) (h' : Heap) =>
 ∃ (x : Int), r = .int .i64 x ∧ xsIf (decide (0 ≤ x)) (Q (.int .i64 (↑pos : Int)) h') (strings_IndexAny.L18 chars t45 h' Q)) ∧
 (s.size ≤ pos → Q (.int .i64 (-1)) h)
theorem strings_IndexAny.L18.ok {chars : ByteArray} {t45 : Nat} {h : Heap} {Q : Value → Heap → Prop} (hk : strings_IndexAny.L18.wp chars t45 h Q) : strings_IndexAny.L18 chars t45 h Q :=
 xs_ok (H := strings_IndexAny.H) (lcuts := strings_IndexAny.lc) (rcuts := strings_IndexAny.rc) (fn := Tryd.f69) mixed Tryd.func69 2000 _ _ _ (@cast (strings_IndexAny.L18.wp chars t45 h Q) _ (by kernel_rfl) hk)

/-! strings.ContainsAny -/
/-! gabion/dir.Name -/
/-! gabion/path.Parse -/
/-! gabion/gabionref17.Name -/
/-! gabion/gabionref18.Parse -/
/-! (gabion/path.Way).Text -/
/-! gabion/gabionlaw18.wakes -/
/-! gabion/gabionlaw18.same -/
def gabionlaw18_same.H : Hn := ⟨[], [], [⟨6, .q 0 (.q 1 (.q 2 (.q 3 (.q 5 (.q 6 (.q 7 (.q 8 (.ld 4 1024 (.q 9 (.q 10 (.nil))))))))))), []⟩], []⟩
def gabionlaw18_same.lc : List Cut := [⟨4, [2, 3, 29, 30], [2, 3]⟩]
def gabionlaw18_same.rc : List Cut := [⟨3, [2, 3], [2, 3]⟩]
def gabionlaw18_same.J3 (a_2_0 : Bool) (a_2_1 : Option Addr) (a_2_1_n : Nat) (a_2_1_c : Nat) (a_2_2 : Bool) (b_3_0 : Bool) (b_3_1 : Option Addr) (b_3_1_n : Nat) (b_3_1_c : Nat) (b_3_2 : Bool) (h : Heap) (Q : Value → Heap → Prop) : Prop :=
 TW Tryd.prog 14 45 [.code (cAt (bodyOf Tryd.f14) [1, 1, 0, 0]), .code (cAt (bodyOf Tryd.f14) [1, 1, 0, 1]), .code (cAt (bodyOf Tryd.f14) [1, 1, 1])] ⟨[(2, .p 2 0), (3, .p 3 0)], [(2, [.bool a_2_0, .slice a_2_1 a_2_1_n a_2_1_c, .bool a_2_2]), (3, [.bool b_3_0, .slice b_3_1 b_3_1_n b_3_1_c, .bool b_3_2])], .plain⟩ h Q
def gabionlaw18_same.L4 (t29 : Int) (t30 : Int) (a_2_0 : Bool) (a_2_1 : Option Addr) (a_2_1_n : Nat) (a_2_1_c : Nat) (a_2_2 : Bool) (b_3_0 : Bool) (b_3_1 : Option Addr) (b_3_1_n : Nat) (b_3_1_c : Nat) (b_3_2 : Bool) (h : Heap) (Q : Value → Heap → Prop) : Prop :=
 TW Tryd.prog 14 45 [.code (cAt (bodyOf Tryd.f14) [1, 1, 0, 1, 0, 0]), .inLoop (cAt (bodyOf Tryd.f14) [1, 1, 0, 1, 0, 0]), .inBlock 0, .code (cAt (bodyOf Tryd.f14) [1, 1, 1])] ⟨[(2, .p 2 0), (3, .p 3 0), (29, .v (.int .i64 t29)), (30, .v (.int .i64 t30))], [(2, [.bool a_2_0, .slice a_2_1 a_2_1_n a_2_1_c, .bool a_2_2]), (3, [.bool b_3_0, .slice b_3_1 b_3_1_n b_3_1_c, .bool b_3_2])], .plain⟩ h Q
def gabionlaw18_same.wp (a_0 : Bool) (a_1 : Option Addr) (a_1_n : Nat) (a_1_c : Nat) (a_2 : Bool) (b_0 : Bool) (b_1 : Option Addr) (b_1_n : Nat) (b_1_c : Nat) (b_2 : Bool) (h : Heap) (Q : Value → Heap → Prop) : Prop :=
 xsIf (!a_0 == b_0) (Q (.bool false) h) (xsIf (!a_2 == b_2) (Q (.bool false) h) (xsIf (decide ((↑a_1_n : Int) ≠ (↑b_1_n : Int))) (Q (.bool false) h) (gabionlaw18_same.J3 a_0 a_1 a_1_n a_1_c a_2 b_0 b_1 b_1_n b_1_c b_2 h Q)))
def gabionlaw18_same.J3.wp (a_2_0 : Bool) (a_2_1 : Option Addr) (a_2_1_n : Nat) (a_2_1_c : Nat) (a_2_2 : Bool) (b_3_0 : Bool) (b_3_1 : Option Addr) (b_3_1_n : Nat) (b_3_1_c : Nat) (b_3_2 : Bool) (h : Heap) (Q : Value → Heap → Prop) : Prop :=
 gabionlaw18_same.L4 (↑a_2_1_n : Int) 0 a_2_0 a_2_1 a_2_1_n a_2_1_c a_2_2 b_3_0 b_3_1 b_3_1_n b_3_1_c b_3_2 h Q
def gabionlaw18_same.L4.wp (t29 : Int) (t30 : Int) (a_2_0 : Bool) (a_2_1 : Option Addr) (a_2_1_n : Nat) (a_2_1_c : Nat) (a_2_2 : Bool) (b_3_0 : Bool) (b_3_1 : Option Addr) (b_3_1_n : Nat) (b_3_1_c : Nat) (b_3_2 : Bool) (h : Heap) (Q : Value → Heap → Prop) : Prop :=
 xsIf (decide (t30 < t29))
 ((0 ≤ t30 ∧ t30 < (↑a_2_1_n : Int)) ∧
 atBase a_2_1 fun (b o : Nat) =>
 (0 ≤ t30 ∧ t30 < (↑b_3_1_n : Int)) ∧
 atBase b_3_1 fun (b_1 o_1 : Nat) =>
 ∃ (x : ByteArray),
 h.cell b (o + t30.toNat * 1) = some (.string x) ∧
 ∃ (x_1 : ByteArray),
 h.cell b_1 (o_1 + t30.toNat * 1) = some (.string x_1) ∧
 xsIf (decide (x ≠ x_1)) (Q (.bool false) h) (gabionlaw18_same.L4 t29 (IntKind.i64.wrap (t30 + 1)) a_2_0 a_2_1 a_2_1_n a_2_1_c a_2_2 b_3_0 b_3_1 b_3_1_n b_3_1_c b_3_2 h Q))
 (Q (.bool true) h)
theorem gabionlaw18_same.ok {a_0 : Bool} {a_1 : Option Addr} {a_1_n : Nat} {a_1_c : Nat} {a_2 : Bool} {b_0 : Bool} {b_1 : Option Addr} {b_1_n : Nat} {b_1_c : Nat} {b_2 : Bool} {h : Heap} {Q : Value → Heap → Prop} (hk : gabionlaw18_same.wp a_0 a_1 a_1_n a_1_c a_2 b_0 b_1 b_1_n b_1_c b_2 h Q) : C Tryd.prog 14 #[.agg #[.bool a_0, .slice a_1 a_1_n a_1_c, .bool a_2], .agg #[.bool b_0, .slice b_1 b_1_n b_1_c, .bool b_2]] h Q :=
 C_of_xs (H := gabionlaw18_same.H) (lcuts := gabionlaw18_same.lc) (rcuts := gabionlaw18_same.rc) (l := [.agg #[.bool a_0, .slice a_1 a_1_n a_1_c, .bool a_2], .agg #[.bool b_0, .slice b_1 b_1_n b_1_c, .bool b_2]]) 2000 mixed Tryd.func14 rfl (by kernel_rfl) (@cast (gabionlaw18_same.wp a_0 a_1 a_1_n a_1_c a_2 b_0 b_1 b_1_n b_1_c b_2 h Q) _ (by kernel_rfl) hk)
theorem gabionlaw18_same.J3.ok {a_2_0 : Bool} {a_2_1 : Option Addr} {a_2_1_n : Nat} {a_2_1_c : Nat} {a_2_2 : Bool} {b_3_0 : Bool} {b_3_1 : Option Addr} {b_3_1_n : Nat} {b_3_1_c : Nat} {b_3_2 : Bool} {h : Heap} {Q : Value → Heap → Prop} (hk : gabionlaw18_same.J3.wp a_2_0 a_2_1 a_2_1_n a_2_1_c a_2_2 b_3_0 b_3_1 b_3_1_n b_3_1_c b_3_2 h Q) : gabionlaw18_same.J3 a_2_0 a_2_1 a_2_1_n a_2_1_c a_2_2 b_3_0 b_3_1 b_3_1_n b_3_1_c b_3_2 h Q :=
 xs_ok (H := gabionlaw18_same.H) (lcuts := gabionlaw18_same.lc) (rcuts := []) (fn := Tryd.f14) mixed Tryd.func14 2000 _ _ _ (@cast (gabionlaw18_same.J3.wp a_2_0 a_2_1 a_2_1_n a_2_1_c a_2_2 b_3_0 b_3_1 b_3_1_n b_3_1_c b_3_2 h Q) _ (by kernel_rfl) hk)
theorem gabionlaw18_same.L4.ok {t29 : Int} {t30 : Int} {a_2_0 : Bool} {a_2_1 : Option Addr} {a_2_1_n : Nat} {a_2_1_c : Nat} {a_2_2 : Bool} {b_3_0 : Bool} {b_3_1 : Option Addr} {b_3_1_n : Nat} {b_3_1_c : Nat} {b_3_2 : Bool} {h : Heap} {Q : Value → Heap → Prop} (hk : gabionlaw18_same.L4.wp t29 t30 a_2_0 a_2_1 a_2_1_n a_2_1_c a_2_2 b_3_0 b_3_1 b_3_1_n b_3_1_c b_3_2 h Q) : gabionlaw18_same.L4 t29 t30 a_2_0 a_2_1 a_2_1_n a_2_1_c a_2_2 b_3_0 b_3_1 b_3_1_n b_3_1_c b_3_2 h Q :=
 xs_ok (H := gabionlaw18_same.H) (lcuts := gabionlaw18_same.lc) (rcuts := gabionlaw18_same.rc) (fn := Tryd.f14) mixed Tryd.func14 2000 _ _ _ (@cast (gabionlaw18_same.L4.wp t29 t30 a_2_0 a_2_1 a_2_1_n a_2_1_c a_2_2 b_3_0 b_3_1 b_3_1_n b_3_1_c b_3_2 h Q) _ (by kernel_rfl) hk)

/-! gabion/gabionref18.Text -/
/-! gabion/gabionlaw18.PathParses -/
/-! gabion/gabionlaw18.PathBack -/
/-! gabion/gabionlaw18.PathNames -/
/-! slices.Clone[[]string,string] -/
/-! slices.Grow[[]string,string] -/
/-! slices.Concat[[]string,string] -/
/-! gabion/path.Join -/
/-! (gabion/path.Way).Last -/
/-! gabion/gabionlaw18.PathJoins -/
/-! gabion/gabionlaw12.of -/
def gabionlaw12_of.H : Hn := ⟨[], [], [], []⟩
def gabionlaw12_of.lc : List Cut := []
def gabionlaw12_of.rc : List Cut := []
def gabionlaw12_of.wp (n_0 : Int) (n_1 : Int) (n_2 : Int) (h : Heap) (Q : Value → Heap → Prop) : Prop :=
 Q (.agg #[.int .u32 n_0, .int .u32 n_1, .int .u32 n_2]) h
theorem gabionlaw12_of.ok {n_0 : Int} {n_1 : Int} {n_2 : Int} {h : Heap} {Q : Value → Heap → Prop} (hk : gabionlaw12_of.wp n_0 n_1 n_2 h Q) : C Tryd.prog 21 #[.agg #[.int .u32 n_0, .int .u32 n_1, .int .u32 n_2]] h Q :=
 C_of_xs (H := gabionlaw12_of.H) (lcuts := gabionlaw12_of.lc) (rcuts := gabionlaw12_of.rc) (l := [.agg #[.int .u32 n_0, .int .u32 n_1, .int .u32 n_2]]) 2000 mixed Tryd.func21 rfl (by kernel_rfl) (@cast (gabionlaw12_of.wp n_0 n_1 n_2 h Q) _ (by kernel_rfl) hk)

/-! (gabion/rec.Record).Right -/
def rec_Record_Right.H : Hn := ⟨[], [], [], []⟩
def rec_Record_Right.lc : List Cut := []
def rec_Record_Right.rc : List Cut := []
def rec_Record_Right.wp (r0_0 : Int) (r0_1 : ByteArray) (h : Heap) (Q : Value → Heap → Prop) : Prop :=
 xsIf (decide (r0_0 ≠ 0)) (Q (.bool (decide ((↑r0_1.size : Int) ≤ 1024))) h) (Q (.bool false) h)
theorem rec_Record_Right.ok {r0_0 : Int} {r0_1 : ByteArray} {h : Heap} {Q : Value → Heap → Prop} (hk : rec_Record_Right.wp r0_0 r0_1 h Q) : C Tryd.prog 24 #[.agg #[.int .u8 r0_0, .string r0_1]] h Q :=
 C_of_xs (H := rec_Record_Right.H) (lcuts := rec_Record_Right.lc) (rcuts := rec_Record_Right.rc) (l := [.agg #[.int .u8 r0_0, .string r0_1]]) 2000 mixed Tryd.func24 rfl (by kernel_rfl) (@cast (rec_Record_Right.wp r0_0 r0_1 h Q) _ (by kernel_rfl) hk)

/-! gabion/le.Put -/
def le_Put.H : Hn := ⟨[], [], [], []⟩
def le_Put.lc : List Cut := [⟨3, [0, 5, 8, 9], []⟩]
def le_Put.rc : List Cut := []
def le_Put.L3 (n : Int) (b : Option Addr) (b_n : Nat) (b_c : Nat) (t8 : Int) (t9 : Int) (h : Heap) (Q : Value → Heap → Prop) : Prop :=
 TW Tryd.prog 36 21 [.code (cAt (bodyOf Tryd.f36) [1, 1, 0, 1, 0, 0]), .inLoop (cAt (bodyOf Tryd.f36) [1, 1, 0, 1, 0, 0]), .inBlock 0, .code (cAt (bodyOf Tryd.f36) [1, 1, 1])] ⟨[(0, .v (.int .u64 n)), (5, .v (.slice b b_n b_c)), (8, .v (.int .i64 t8)), (9, .v (.int .i64 t9))], [], .plain⟩ h Q
def le_Put.wp (n : Int) (size : Int) (h : Heap) (Q : Value → Heap → Prop) : Prop :=
 le_Put.L3 n none 0 0 (imin (imax size 0) 8) 0 h Q
def le_Put.L3.wp (n : Int) (b : Option Addr) (b_n : Nat) (b_c : Nat) (t8 : Int) (t9 : Int) (h : Heap) (Q : Value → Heap → Prop) : Prop :=
 xsIf (decide (t9 < t8))
 (∀ (b_1 : Nat),
 h b_1 = none →
 xsApp Tryd.prog 5 (upd h b_1 (Obj.cells #[.int .u8 (IntKind.u8.wrap n)] 5 (0, 0))) b b_n b_c (some { block := b_1, off := 0 }) 1 fun (a' : Option Addr) (n' c' : Nat) (h' : Heap) =>
 le_Put.L3 (ishr .u64 n 8) a' n' c' t8 (IntKind.i64.wrap (t9 + 1)) h' Q)
 (xsStr h b b_n fun (s : ByteArray) => Q (.string s) h)
theorem le_Put.ok {n : Int} {size : Int} {h : Heap} {Q : Value → Heap → Prop} (hk : le_Put.wp n size h Q) : C Tryd.prog 36 #[.int .u64 n, .int .i64 size] h Q :=
 C_of_xs (H := le_Put.H) (lcuts := le_Put.lc) (rcuts := le_Put.rc) (l := [.int .u64 n, .int .i64 size]) 2000 mixed Tryd.func36 rfl (by kernel_rfl) (@cast (le_Put.wp n size h Q) _ (by kernel_rfl) hk)
theorem le_Put.L3.ok {n : Int} {b : Option Addr} {b_n : Nat} {b_c : Nat} {t8 : Int} {t9 : Int} {h : Heap} {Q : Value → Heap → Prop} (hk : le_Put.L3.wp n b b_n b_c t8 t9 h Q) : le_Put.L3 n b b_n b_c t8 t9 h Q :=
 xs_ok (H := le_Put.H) (lcuts := le_Put.lc) (rcuts := le_Put.rc) (fn := Tryd.f36) mixed Tryd.func36 2000 _ _ _ (@cast (le_Put.L3.wp n b b_n b_c t8 t9 h Q) _ (by kernel_rfl) hk)

/-! (*strings.Builder).copyCheck -/
/-! (*strings.Builder).WriteString -/
def strings_Builder_WriteString.H : Hn := ⟨[], [], [], []⟩
def strings_Builder_WriteString.lc : List Cut := []
def strings_Builder_WriteString.rc : List Cut := []
def strings_Builder_WriteString.wp (b : Option Addr) (s : ByteArray) (h : Heap) (Q : Value → Heap → Prop) : Prop :=
 C Tryd.prog 70 #[.pointer b] h fun (r : Value) (h' : Heap) =>
 atBase b fun (b_1 o : Nat) =>
 ∃ (x : Option Addr),
 ∃ (n : Nat),
 ∃ (m : Nat),
 h'.cell b_1 (o + 1) = some (.slice x n m) ∧
 xsAppS Tryd.prog 5 h' x n m s fun (a' : Option Addr) (n' c' : Nat) (h' : Heap) =>
 atBase b fun (b o : Nat) => h'.can b (o + 1) 1 ∧ Q (.tuple #[.int .i64 (↑s.size : Int), Value.nilIface]) (h'.put b (o + 1) [.slice a' n' c'])
theorem strings_Builder_WriteString.ok {b : Option Addr} {s : ByteArray} {h : Heap} {Q : Value → Heap → Prop} (hk : strings_Builder_WriteString.wp b s h Q) : C Tryd.prog 52 #[.pointer b, .string s] h Q :=
 C_of_xs (H := strings_Builder_WriteString.H) (lcuts := strings_Builder_WriteString.lc) (rcuts := strings_Builder_WriteString.rc) (l := [.pointer b, .string s]) 2000 mixed Tryd.func52 rfl (by kernel_rfl) (@cast (strings_Builder_WriteString.wp b s h Q) _ (by kernel_rfl) hk)

/-! (*strings.Builder).WriteByte -/
def strings_Builder_WriteByte.H : Hn := ⟨[], [], [], []⟩
def strings_Builder_WriteByte.lc : List Cut := []
def strings_Builder_WriteByte.rc : List Cut := []
def strings_Builder_WriteByte.wp (b : Option Addr) (c : Int) (h : Heap) (Q : Value → Heap → Prop) : Prop :=
 C Tryd.prog 70 #[.pointer b] h fun (r : Value) (h' : Heap) =>
 atBase b fun (b_1 o : Nat) =>
 ∃ (x : Option Addr),
 ∃ (n : Nat),
 ∃ (m : Nat),
 h'.cell b_1 (o + 1) = some (.slice x n m) ∧
 ∀ (b_2 : Nat),
 h' b_2 = none →
 xsApp Tryd.prog 5 (upd h' b_2 (Obj.cells #[.int .u8 c] 5 (0, 0))) x n m (some { block := b_2, off := 0 }) 1 fun (a' : Option Addr) (n' c' : Nat) (h' : Heap) =>
 atBase b fun (b o : Nat) => h'.can b (o + 1) 1 ∧ Q Value.nilIface (h'.put b (o + 1) [.slice a' n' c'])
theorem strings_Builder_WriteByte.ok {b : Option Addr} {c : Int} {h : Heap} {Q : Value → Heap → Prop} (hk : strings_Builder_WriteByte.wp b c h Q) : C Tryd.prog 57 #[.pointer b, .int .u8 c] h Q :=
 C_of_xs (H := strings_Builder_WriteByte.H) (lcuts := strings_Builder_WriteByte.lc) (rcuts := strings_Builder_WriteByte.rc) (l := [.pointer b, .int .u8 c]) 2000 mixed Tryd.func57 rfl (by kernel_rfl) (@cast (strings_Builder_WriteByte.wp b c h Q) _ (by kernel_rfl) hk)

/-! (*strings.Builder).String -/
def strings_Builder_String.H : Hn := ⟨[], [], [⟨1, .q 0 (.q 1 (.q 2 (.q 5 (.q 6 (.q 7 (.br 3 (.br 4 (.q 8 (.q 9 (.q 10 (.q 11 (.nil))))) (.one 8 (.q 9 (.q 4 (.q 10 (.q 11 (.nil))))))) (.one 8 (.q 9 (.q 3 (.q 4 (.q 10 (.q 11 (.nil))))))))))))), []⟩], []⟩
def strings_Builder_String.lc : List Cut := []
def strings_Builder_String.rc : List Cut := []
def strings_Builder_String.wp (b : Option Addr) (h : Heap) (Q : Value → Heap → Prop) : Prop :=
 atBase b fun (b_1 o : Nat) =>
 atBase b fun (b o_1 : Nat) =>
 (∃ (x : Option Addr),
 ∃ (n : Nat),
 ∃ (m : Nat),
 h.cell b_1 (o + 1) = some (.slice x n m) ∧
 (xsSd x m fun (p : Option Addr) => ∃ (x : Option Addr), ∃ (n : Nat), ∃ (m : Nat), h.cell b (o_1 + 1) = some (.slice x n m) ∧ xsUs 5 h p (↑n : Int) fun (s : ByteArray) (h' : Heap) => Q (.string s) h') ∧
 ∃ (x_1 : Option Addr), ∃ (n : Nat), ∃ (m_1 : Nat), h.cell b (o_1 + 1) = some (.slice x_1 n m_1) ∧ xsSd x m fun (p : Option Addr) => xsUs 5 h p (↑n : Int) fun (s : ByteArray) (h' : Heap) => Q (.string s) h') ∧
 ∃ (x : Option Addr),
 ∃ (n : Nat),
 ∃ (m : Nat),
 h.cell b (o_1 + 1) = some (.slice x n m) ∧
 ∃ (x : Option Addr), ∃ (n_1 : Nat), ∃ (m : Nat), h.cell b_1 (o + 1) = some (.slice x n_1 m) ∧ xsSd x m fun (p : Option Addr) => xsUs 5 h p (↑n : Int) fun (s : ByteArray) (h' : Heap) => Q (.string s) h'
theorem strings_Builder_String.ok {b : Option Addr} {h : Heap} {Q : Value → Heap → Prop} (hk : strings_Builder_String.wp b h Q) : C Tryd.prog 53 #[.pointer b] h Q :=
 C_of_xs (H := strings_Builder_String.H) (lcuts := strings_Builder_String.lc) (rcuts := strings_Builder_String.rc) (l := [.pointer b]) 2000 mixed Tryd.func53 rfl (by kernel_rfl) (@cast (strings_Builder_String.wp b h Q) _ (by kernel_rfl) hk)

/-! gabion/rec.marked -/
def rec_marked.H : Hn := ⟨[7], [], [⟨4, .q 0 (.q 1 (.q 2 (.q 3 (.q 4 (.q 5 (.q 6 (.q 7 (.nil)))))))), []⟩], []⟩
def rec_marked.lc : List Cut := [⟨2, [0, 1, 2, 7], []⟩]
def rec_marked.rc : List Cut := []
def rec_marked.L2 (s : ByteArray) (mark : Int) (more : Int) (b : Nat) (h : Heap) (Q : Value → Heap → Prop) : Prop :=
 TW Tryd.prog 38 32 [.code (cAt (bodyOf Tryd.f38) [1, 1, 0, 0, 0]), .inLoop (cAt (bodyOf Tryd.f38) [1, 1, 0, 0, 0]), .inBlock 0, .code (cAt (bodyOf Tryd.f38) [1, 1, 1])] ⟨[(0, .v (.string s)), (1, .v (.int .u8 mark)), (2, .v (.int .u8 more)), (7, .v (.pointer (some ⟨b, 0, none⟩)))], [], .plain⟩ h Q
def rec_marked.wp (s : ByteArray) (mark : Int) (more : Int) (h : Heap) (Q : Value → Heap → Prop) : Prop :=
 ∀ (b : Nat), h b = none → rec_marked.L2 s mark more b (upd h b (Obj.cells #[.pointer none, .slice none 0 0] 90 (0, 0))) Q
def rec_marked.L2.wp (s : ByteArray) (mark : Int) (more : Int) (b : Nat) (h : Heap) (Q : Value → Heap → Prop) : Prop :=
 xsIf (decide (0 < (↑s.size : Int)))
 ((0 ≤ imin (↑s.size : Int) 7 ∧ imin (↑s.size : Int) 7 ≤ (↑s.size : Int)) ∧
 C Tryd.prog 37 #[.string { data := #[UInt8.ofNat 0] }, .int .i64 (IntKind.i64.wrap (7 - imin (↑s.size : Int) 7))] h fun (r : Value) (h' : Heap) =>
 ∃ (x : ByteArray),
 r = .string x ∧
 (↑((sext s 0 (imin (↑s.size : Int) 7)).size + x.size) : Int) ≤ 9223372036854775807 ∧
 C Tryd.prog 52 #[.pointer (some { block := b, off := 0 }), .string (sext s 0 (imin (↑s.size : Int) 7) ++ x)] h' fun (r : Value) (h' : Heap) =>
 ∃ (x : Int),
 ∃ (x_1 : Value),
 r = .tuple #[.int .i64 x, x_1] ∧
 C Tryd.prog 57 #[.pointer (some { block := b, off := 0 }), .int .u8 mark] h' fun (r : Value) (h' : Heap) =>
 ∃ (x : Value), r = x ∧ (0 ≤ imin (↑s.size : Int) 7 ∧ imin (↑s.size : Int) 7 ≤ (↑s.size : Int)) ∧ rec_marked.L2 (sext s (imin (↑s.size : Int) 7) (↑s.size : Int)) (IntKind.u8.wrap (mark + more)) more b h' Q)
 (C Tryd.prog 53 #[.pointer (some { block := b, off := 0 })] h fun (r : Value) (h' : Heap) => ∃ (x : ByteArray), r = .string x ∧ Q (.string x) h')
theorem rec_marked.ok {s : ByteArray} {mark : Int} {more : Int} {h : Heap} {Q : Value → Heap → Prop} (hk : rec_marked.wp s mark more h Q) : C Tryd.prog 38 #[.string s, .int .u8 mark, .int .u8 more] h Q :=
 C_of_xs (H := rec_marked.H) (lcuts := rec_marked.lc) (rcuts := rec_marked.rc) (l := [.string s, .int .u8 mark, .int .u8 more]) 2000 mixed Tryd.func38 rfl (by kernel_rfl) (@cast (rec_marked.wp s mark more h Q) _ (by kernel_rfl) hk)
theorem rec_marked.L2.ok {s : ByteArray} {mark : Int} {more : Int} {b : Nat} {h : Heap} {Q : Value → Heap → Prop} (hk : rec_marked.L2.wp s mark more b h Q) : rec_marked.L2 s mark more b h Q :=
 xs_ok (H := rec_marked.H) (lcuts := rec_marked.lc) (rcuts := rec_marked.rc) (fn := Tryd.f38) mixed Tryd.func38 2000 _ _ _ (@cast (rec_marked.L2.wp s mark more b h Q) _ (by kernel_rfl) hk)

/-! gabion/crc.Sum32 -/
def crc_Sum32.H : Hn := ⟨[], [], [], []⟩
def crc_Sum32.lc : List Cut := [⟨3, [0, 3, 7, 8], []⟩, ⟨7, [0, 3, 7, 8, 17], []⟩]
def crc_Sum32.rc : List Cut := []
def crc_Sum32.L3 (s : ByteArray) (r0 : Int) (t7 : Int) (t8 : Int) (h : Heap) (Q : Value → Heap → Prop) : Prop :=
 TW Tryd.prog 58 31 [.code (cAt (bodyOf Tryd.f58) [1, 1, 0, 1, 0, 0]), .inLoop (cAt (bodyOf Tryd.f58) [1, 1, 0, 1, 0, 0]), .inBlock 0, .code (cAt (bodyOf Tryd.f58) [1, 1, 1])] ⟨[(0, .v (.string s)), (3, .v (.int .u32 r0)), (7, .v (.int .i64 t7)), (8, .v (.int .i64 t8))], [], .plain⟩ h Q
def crc_Sum32.L7 (s : ByteArray) (r0 : Int) (t7 : Int) (t8 : Int) (t17 : Int) (h : Heap) (Q : Value → Heap → Prop) : Prop :=
 TW Tryd.prog 58 31 [.code (cAt (bodyOf Tryd.f58) [1, 1, 0, 1, 0, 0, 1, 1, 0, 0, 1, 1, 1, 0, 0]), .inLoop (cAt (bodyOf Tryd.f58) [1, 1, 0, 1, 0, 0, 1, 1, 0, 0, 1, 1, 1, 0, 0]), .inBlock 2, .inBlock 1, .code (cAt (bodyOf Tryd.f58) [1, 1, 0, 1, 0, 0, 1, 1, 1]), .inLoop (cAt (bodyOf Tryd.f58) [1, 1, 0, 1, 0, 0]), .inBlock 0, .code (cAt (bodyOf Tryd.f58) [1, 1, 1])] ⟨[(0, .v (.string s)), (3, .v (.int .u32 r0)), (7, .v (.int .i64 t7)), (8, .v (.int .i64 t8)), (17, .v (.int .i64 t17))], [], .plain⟩ h Q
def crc_Sum32.wp (s : ByteArray) (h : Heap) (Q : Value → Heap → Prop) : Prop :=
 crc_Sum32.L3 s 4294967295 (↑s.size : Int) 0 h Q
def crc_Sum32.L3.wp (s : ByteArray) (r0 : Int) (t7 : Int) (t8 : Int) (h : Heap) (Q : Value → Heap → Prop) : Prop :=
 xsIf (decide (t8 < t7)) (∃ (c : UInt8), 0 ≤ t8 ∧ bget s t8.toNat = some c ∧ crc_Sum32.L7 s (ixor .u32 r0 (IntKind.u32.wrap (↑c.toNat : Int))) t7 t8 0 h Q) (Q (.int .u32 (inot .u32 r0)) h)
def crc_Sum32.L7.wp (s : ByteArray) (r0 : Int) (t7 : Int) (t8 : Int) (t17 : Int) (h : Heap) (Q : Value → Heap → Prop) : Prop :=
 xsIf (decide (t17 < 8))
 (xsIf (decide (iand .u32 r0 1 ≠ 0)) (crc_Sum32.L7 s (ixor .u32 (ishr .u32 r0 1) 2197175160) t7 t8 (IntKind.i64.wrap (t17 + 1)) h Q) (crc_Sum32.L7 s (ishr .u32 r0 1) t7 t8 (IntKind.i64.wrap (t17 + 1)) h Q))
 (crc_Sum32.L3 s r0 t7 (IntKind.i64.wrap (t8 + 1)) h Q)
theorem crc_Sum32.ok {s : ByteArray} {h : Heap} {Q : Value → Heap → Prop} (hk : crc_Sum32.wp s h Q) : C Tryd.prog 58 #[.string s] h Q :=
 C_of_xs (H := crc_Sum32.H) (lcuts := crc_Sum32.lc) (rcuts := crc_Sum32.rc) (l := [.string s]) 2000 mixed Tryd.func58 rfl (by kernel_rfl) (@cast (crc_Sum32.wp s h Q) _ (by kernel_rfl) hk)
theorem crc_Sum32.L3.ok {s : ByteArray} {r0 : Int} {t7 : Int} {t8 : Int} {h : Heap} {Q : Value → Heap → Prop} (hk : crc_Sum32.L3.wp s r0 t7 t8 h Q) : crc_Sum32.L3 s r0 t7 t8 h Q :=
 xs_ok (H := crc_Sum32.H) (lcuts := crc_Sum32.lc) (rcuts := crc_Sum32.rc) (fn := Tryd.f58) mixed Tryd.func58 2000 _ _ _ (@cast (crc_Sum32.L3.wp s r0 t7 t8 h Q) _ (by kernel_rfl) hk)
theorem crc_Sum32.L7.ok {s : ByteArray} {r0 : Int} {t7 : Int} {t8 : Int} {t17 : Int} {h : Heap} {Q : Value → Heap → Prop} (hk : crc_Sum32.L7.wp s r0 t7 t8 t17 h Q) : crc_Sum32.L7 s r0 t7 t8 t17 h Q :=
 xs_ok (H := crc_Sum32.H) (lcuts := crc_Sum32.lc) (rcuts := crc_Sum32.rc) (fn := Tryd.f58) mixed Tryd.func58 2000 _ _ _ (@cast (crc_Sum32.L7.wp s r0 t7 t8 t17 h Q) _ (by kernel_rfl) hk)

/-! gabion/rec.sum -/
def rec_sum.H : Hn := ⟨[], [], [], []⟩
def rec_sum.lc : List Cut := []
def rec_sum.rc : List Cut := []
def rec_sum.wp (s : ByteArray) (h : Heap) (Q : Value → Heap → Prop) : Prop :=
 C Tryd.prog 58 #[.string s] h fun (r : Value) (h' : Heap) =>
 ∃ (x : Int),
 r = .int .u32 x ∧
 C Tryd.prog 36 #[.int .u64 (IntKind.u64.wrap x), .int .i64 4] h' fun (r : Value) (h' : Heap) =>
 ∃ (x : ByteArray), r = .string x ∧ C Tryd.prog 38 #[.string x, .int .u8 48, .int .u8 0] h' fun (r : Value) (h' : Heap) => ∃ (x : ByteArray), r = .string x ∧ Q (.string x) h'
theorem rec_sum.ok {s : ByteArray} {h : Heap} {Q : Value → Heap → Prop} (hk : rec_sum.wp s h Q) : C Tryd.prog 39 #[.string s] h Q :=
 C_of_xs (H := rec_sum.H) (lcuts := rec_sum.lc) (rcuts := rec_sum.rc) (l := [.string s]) 2000 mixed Tryd.func39 rfl (by kernel_rfl) (@cast (rec_sum.wp s h Q) _ (by kernel_rfl) hk)

/-! gabion/rec.Encode -/
def rec_Encode.H : Hn := ⟨[], [], [⟨3, .q 0 (.q 1 (.q 2 (.q 3 (.q 5 (.q 6 (.br 4 (.q 7 (.q 8 (.q 9 (.q 10 (.nil))))) (.one 7 (.br 4 (.q 8 (.q 9 (.q 10 (.nil)))) (.one 8 (.q 4 (.q 9 (.q 10 (.nil))))))))))))), []⟩, ⟨10, .q 0 (.q 2 (.q 3 (.q 1 (.q 4 (.q 5 (.q 6 (.nil))))))), []⟩], []⟩
def rec_Encode.lc : List Cut := [⟨5, [3, 6, 29, 30, 31], [3]⟩]
def rec_Encode.rc : List Cut := []
def rec_Encode.L5 (head : ByteArray) (t29 : Option Addr) (t29_n : Nat) (t29_c : Nat) (t30 : Int) (t31 : Int) (r0_3_0 : Int) (r0_3_1 : ByteArray) (h : Heap) (Q : Value → Heap → Prop) : Prop :=
 TW Tryd.prog 20 57 [.code (cAt (bodyOf Tryd.f20) [1, 1, 1, 0, 1, 0, 0]), .inLoop (cAt (bodyOf Tryd.f20) [1, 1, 1, 0, 1, 0, 0]), .inBlock 0, .code (cAt (bodyOf Tryd.f20) [1, 1, 1, 1])] ⟨[(3, .p 3 0), (6, .v (.string head)), (29, .v (.slice t29 t29_n t29_c)), (30, .v (.int .i64 t30)), (31, .v (.int .i64 t31))], [(3, [.int .u8 r0_3_0, .string r0_3_1])], .plain⟩ h Q
def rec_Encode.wp (s_0 : Int) (s_1 : Int) (s_2 : Int) (r0_0 : Int) (r0_1 : ByteArray) (h : Heap) (Q : Value → Heap → Prop) : Prop :=
 C Tryd.prog 24 #[.agg #[.int .u8 r0_0, .string r0_1]] h fun (r : Value) (h' : Heap) =>
 ∃ (x : Bool),
 r = .bool x ∧
 xsIf (!x) (Q (.tuple #[.string { data := #[] }, .int .i64 2]) h')
 ((C Tryd.prog 36 #[.int .u64 (IntKind.u64.wrap (↑r0_1.size : Int)), .int .i64 2] h' fun (r : Value) (h' : Heap) =>
 ∃ (x : ByteArray),
 r = .string x ∧
 ∀ (b : Nat),
 h' b = none →
 xsStr (upd h' b (Obj.cells #[.int .u8 r0_0] 5 (0, 0))) (some { block := b, off := 0 }) 1 fun (s : ByteArray) =>
 (↑(x.size + s.size) : Int) ≤ 9223372036854775807 ∧
 ∀ (b_1 : Nat),
 upd h' b (Obj.cells #[.int .u8 r0_0] 5 (0, 0)) b_1 = none →
 rec_Encode.L5 (x ++ s) (some { block := b_1, off := 0 }) 3 3 (↑3 : Int) 0 r0_0 r0_1
 (upd (upd h' b (Obj.cells #[.int .u8 r0_0] 5 (0, 0))) b_1 (Obj.cells #[.int .u32 s_0, .int .u32 s_1, .int .u32 s_2] 42 (0, 0))) Q) ∧
 ∀ (b : Nat),
 h' b = none →
 (C Tryd.prog 36 #[.int .u64 (IntKind.u64.wrap (↑r0_1.size : Int)), .int .i64 2] (upd h' b (Obj.cells #[.int .u8 r0_0] 5 (0, 0))) fun (r : Value) (h' : Heap) =>
 ∃ (x : ByteArray),
 r = .string x ∧
 xsStr h' (some { block := b, off := 0 }) 1 fun (s : ByteArray) =>
 (↑(x.size + s.size) : Int) ≤ 9223372036854775807 ∧
 ∀ (b : Nat),
 h' b = none →
 rec_Encode.L5 (x ++ s) (some { block := b, off := 0 }) 3 3 (↑3 : Int) 0 r0_0 r0_1 (upd h' b (Obj.cells #[.int .u32 s_0, .int .u32 s_1, .int .u32 s_2] 42 (0, 0)))
 Q) ∧
 xsStr (upd h' b (Obj.cells #[.int .u8 r0_0] 5 (0, 0))) (some { block := b, off := 0 }) 1 fun (s : ByteArray) =>
 C Tryd.prog 36 #[.int .u64 (IntKind.u64.wrap (↑r0_1.size : Int)), .int .i64 2] (upd h' b (Obj.cells #[.int .u8 r0_0] 5 (0, 0))) fun (r : Value) (h' : Heap) =>
 ∃ (x : ByteArray),
 r = .string x ∧
 (↑(x.size + s.size) : Int) ≤ 9223372036854775807 ∧
 ∀ (b : Nat),
 h' b = none →
 rec_Encode.L5 (x ++ s) (some { block := b, off := 0 }) 3 3 (↑3 : Int) 0 r0_0 r0_1 (upd h' b (Obj.cells #[.int .u32 s_0, .int .u32 s_1, .int .u32 s_2] 42 (0, 0)))
 Q)
def rec_Encode.L5.wp (head : ByteArray) (t29 : Option Addr) (t29_n : Nat) (t29_c : Nat) (t30 : Int) (t31 : Int) (r0_3_0 : Int) (r0_3_1 : ByteArray) (h : Heap) (Q : Value → Heap → Prop) : Prop :=
 xsIf (decide (t31 < t30))
 ((0 ≤ t31 ∧ t31 < (↑t29_n : Int)) ∧
 atBase t29 fun (b o : Nat) =>
 ∃ (x : Int),
 h.cell b (o + t31.toNat * 1) = some (.int .u32 x) ∧
 C Tryd.prog 36 #[.int .u64 (IntKind.u64.wrap x), .int .i64 4] h fun (r : Value) (h' : Heap) =>
 ∃ (x : ByteArray), r = .string x ∧ (↑(head.size + x.size) : Int) ≤ 9223372036854775807 ∧ rec_Encode.L5 (head ++ x) t29 t29_n t29_c t30 (IntKind.i64.wrap (t31 + 1)) r0_3_0 r0_3_1 h' Q)
 (C Tryd.prog 37 #[.string { data := #[UInt8.ofNat 0] }, .int .i64 (IntKind.i64.wrap (21 - (↑head.size : Int)))] h fun (r : Value) (h' : Heap) =>
 ∃ (x : ByteArray),
 r = .string x ∧
 (↑(head.size + x.size) : Int) ≤ 9223372036854775807 ∧
 C Tryd.prog 38 #[.string (head ++ x), .int .u8 17, .int .u8 1] h' fun (r : Value) (h' : Heap) =>
 ∃ (x : ByteArray),
 r = .string x ∧
 C Tryd.prog 38 #[.string r0_3_1, .int .u8 32, .int .u8 0] h' fun (r : Value) (h' : Heap) =>
 ∃ (x_1 : ByteArray),
 r = .string x_1 ∧
 (↑(x.size + x_1.size) : Int) ≤ 9223372036854775807 ∧
 C Tryd.prog 39 #[.string (x ++ x_1)] h' fun (r : Value) (h' : Heap) =>
 ∃ (x_2 : ByteArray), r = .string x_2 ∧ (↑((x ++ x_1).size + x_2.size) : Int) ≤ 9223372036854775807 ∧ Q (.tuple #[.string (x ++ x_1 ++ x_2), .int .i64 0]) h')
theorem rec_Encode.ok {s_0 : Int} {s_1 : Int} {s_2 : Int} {r0_0 : Int} {r0_1 : ByteArray} {h : Heap} {Q : Value → Heap → Prop} (hk : rec_Encode.wp s_0 s_1 s_2 r0_0 r0_1 h Q) : C Tryd.prog 20 #[.agg #[.int .u32 s_0, .int .u32 s_1, .int .u32 s_2], .agg #[.int .u8 r0_0, .string r0_1]] h Q :=
 C_of_xs (H := rec_Encode.H) (lcuts := rec_Encode.lc) (rcuts := rec_Encode.rc) (l := [.agg #[.int .u32 s_0, .int .u32 s_1, .int .u32 s_2], .agg #[.int .u8 r0_0, .string r0_1]]) 2000 mixed Tryd.func20 rfl (by kernel_rfl) (@cast (rec_Encode.wp s_0 s_1 s_2 r0_0 r0_1 h Q) _ (by kernel_rfl) hk)
theorem rec_Encode.L5.ok {head : ByteArray} {t29 : Option Addr} {t29_n : Nat} {t29_c : Nat} {t30 : Int} {t31 : Int} {r0_3_0 : Int} {r0_3_1 : ByteArray} {h : Heap} {Q : Value → Heap → Prop} (hk : rec_Encode.L5.wp head t29 t29_n t29_c t30 t31 r0_3_0 r0_3_1 h Q) : rec_Encode.L5 head t29 t29_n t29_c t30 t31 r0_3_0 r0_3_1 h Q :=
 xs_ok (H := rec_Encode.H) (lcuts := rec_Encode.lc) (rcuts := rec_Encode.rc) (fn := Tryd.f20) mixed Tryd.func20 2000 _ _ _ (@cast (rec_Encode.L5.wp head t29 t29_n t29_c t30 t31 r0_3_0 r0_3_1 h Q) _ (by kernel_rfl) hk)

/-! gabion/gabionref01.Put -/
def gabionref01_Put.H : Hn := ⟨[], [], [], []⟩
def gabionref01_Put.lc : List Cut := [⟨3, [0, 1, 5, 6], []⟩]
def gabionref01_Put.rc : List Cut := [⟨5, [0, 1, 5, 6], []⟩]
def gabionref01_Put.L3 (n : Int) (size : Int) (b : Option Addr) (b_n : Nat) (b_c : Nat) (i : Int) (h : Heap) (Q : Value → Heap → Prop) : Prop :=
 TW Tryd.prog 40 26 [.code (cAt (bodyOf Tryd.f40) [1, 1, 0, 1, 0, 0]), .inLoop (cAt (bodyOf Tryd.f40) [1, 1, 0, 1, 0, 0]), .inBlock 0, .code (cAt (bodyOf Tryd.f40) [1, 1, 1])] ⟨[(0, .v (.int .u64 n)), (1, .v (.int .i64 size)), (5, .v (.slice b b_n b_c)), (6, .v (.int .i64 i))], [], .plain⟩ h Q
def gabionref01_Put.J5 (n : Int) (size : Int) (b : Option Addr) (b_n : Nat) (b_c : Nat) (i : Int) (h : Heap) (Q : Value → Heap → Prop) : Prop :=
 TW Tryd.prog 40 26 [.code (cAt (bodyOf Tryd.f40) [1, 1, 0, 1, 0, 0, 1, 0, 0, 0]), .code (cAt (bodyOf Tryd.f40) [1, 1, 0, 1, 0, 0, 1, 0, 0, 1]), .inBlock 1, .code (cAt (bodyOf Tryd.f40) [1, 1, 0, 1, 0, 0, 1, 1]), .inLoop (cAt (bodyOf Tryd.f40) [1, 1, 0, 1, 0, 0]), .inBlock 0, .code (cAt (bodyOf Tryd.f40) [1, 1, 1])] ⟨[(0, .v (.int .u64 n)), (1, .v (.int .i64 size)), (5, .v (.slice b b_n b_c)), (6, .v (.int .i64 i))], [], .plain⟩ h Q
def gabionref01_Put.wp (n : Int) (size : Int) (h : Heap) (Q : Value → Heap → Prop) : Prop :=
 gabionref01_Put.L3 n size none 0 0 0 h Q
def gabionref01_Put.L3.wp (n : Int) (size : Int) (b : Option Addr) (b_n : Nat) (b_c : Nat) (i : Int) (h : Heap) (Q : Value → Heap → Prop) : Prop :=
 xsIf (decide (i < size)) (xsIf (decide (i < 8)) (gabionref01_Put.J5 n size b b_n b_c i h Q) (xsStr h b b_n fun (s : ByteArray) => Q (.string s) h)) (xsStr h b b_n fun (s : ByteArray) => Q (.string s) h)
def gabionref01_Put.J5.wp (n : Int) (size : Int) (b : Option Addr) (b_n : Nat) (b_c : Nat) (i : Int) (h : Heap) (Q : Value → Heap → Prop) : Prop :=
 ∀ (b_1 : Nat),
 h b_1 = none →
 xsApp Tryd.prog 5 (upd h b_1 (Obj.cells #[.int .u8 (IntKind.u8.wrap (irem n 256))] 5 (0, 0))) b b_n b_c (some { block := b_1, off := 0 }) 1 fun (a' : Option Addr) (n' c' : Nat) (h' : Heap) =>
 gabionref01_Put.L3 (iquo .u64 n 256) size a' n' c' (IntKind.i64.wrap (i + 1)) h' Q
theorem gabionref01_Put.ok {n : Int} {size : Int} {h : Heap} {Q : Value → Heap → Prop} (hk : gabionref01_Put.wp n size h Q) : C Tryd.prog 40 #[.int .u64 n, .int .i64 size] h Q :=
 C_of_xs (H := gabionref01_Put.H) (lcuts := gabionref01_Put.lc) (rcuts := gabionref01_Put.rc) (l := [.int .u64 n, .int .i64 size]) 2000 mixed Tryd.func40 rfl (by kernel_rfl) (@cast (gabionref01_Put.wp n size h Q) _ (by kernel_rfl) hk)
theorem gabionref01_Put.L3.ok {n : Int} {size : Int} {b : Option Addr} {b_n : Nat} {b_c : Nat} {i : Int} {h : Heap} {Q : Value → Heap → Prop} (hk : gabionref01_Put.L3.wp n size b b_n b_c i h Q) : gabionref01_Put.L3 n size b b_n b_c i h Q :=
 xs_ok (H := gabionref01_Put.H) (lcuts := gabionref01_Put.lc) (rcuts := gabionref01_Put.rc) (fn := Tryd.f40) mixed Tryd.func40 2000 _ _ _ (@cast (gabionref01_Put.L3.wp n size b b_n b_c i h Q) _ (by kernel_rfl) hk)
theorem gabionref01_Put.J5.ok {n : Int} {size : Int} {b : Option Addr} {b_n : Nat} {b_c : Nat} {i : Int} {h : Heap} {Q : Value → Heap → Prop} (hk : gabionref01_Put.J5.wp n size b b_n b_c i h Q) : gabionref01_Put.J5 n size b b_n b_c i h Q :=
 xs_ok (H := gabionref01_Put.H) (lcuts := gabionref01_Put.lc) (rcuts := []) (fn := Tryd.f40) mixed Tryd.func40 2000 _ _ _ (@cast (gabionref01_Put.J5.wp n size b b_n b_c i h Q) _ (by kernel_rfl) hk)

/-! gabion/gabionref12.word -/
def gabionref12_word.H : Hn := ⟨[], [], [], []⟩
def gabionref12_word.lc : List Cut := [⟨1, [0, 1], []⟩]
def gabionref12_word.rc : List Cut := []
def gabionref12_word.L1 (s : ByteArray) (mark : Int) (h : Heap) (Q : Value → Heap → Prop) : Prop :=
 TW Tryd.prog 41 15 [.code (cAt (bodyOf Tryd.f41) [1, 0, 0, 0]), .inLoop (cAt (bodyOf Tryd.f41) [1, 0, 0, 0]), .inBlock 0, .code (cAt (bodyOf Tryd.f41) [1, 1])] ⟨[(0, .v (.string s)), (1, .v (.int .u8 mark))], [], .plain⟩ h Q
def gabionref12_word.wp (s : ByteArray) (mark : Int) (h : Heap) (Q : Value → Heap → Prop) : Prop :=
 gabionref12_word.L1 s mark h Q
def gabionref12_word.L1.wp (s : ByteArray) (mark : Int) (h : Heap) (Q : Value → Heap → Prop) : Prop :=
 xsIf (decide ((↑s.size : Int) < 7)) ((↑(s.size + 1) : Int) ≤ 9223372036854775807 ∧ gabionref12_word.L1 (s ++ { data := #[UInt8.ofNat 0] }) mark h Q)
 (∀ (b : Nat),
 h b = none →
 xsStr (upd h b (Obj.cells #[.int .u8 mark] 5 (0, 0))) (some { block := b, off := 0 }) 1 fun (s_1 : ByteArray) =>
 (↑(s.size + s_1.size) : Int) ≤ 9223372036854775807 ∧ Q (.string (s ++ s_1)) (upd h b (Obj.cells #[.int .u8 mark] 5 (0, 0))))
theorem gabionref12_word.ok {s : ByteArray} {mark : Int} {h : Heap} {Q : Value → Heap → Prop} (hk : gabionref12_word.wp s mark h Q) : C Tryd.prog 41 #[.string s, .int .u8 mark] h Q :=
 C_of_xs (H := gabionref12_word.H) (lcuts := gabionref12_word.lc) (rcuts := gabionref12_word.rc) (l := [.string s, .int .u8 mark]) 2000 mixed Tryd.func41 rfl (by kernel_rfl) (@cast (gabionref12_word.wp s mark h Q) _ (by kernel_rfl) hk)
theorem gabionref12_word.L1.ok {s : ByteArray} {mark : Int} {h : Heap} {Q : Value → Heap → Prop} (hk : gabionref12_word.L1.wp s mark h Q) : gabionref12_word.L1 s mark h Q :=
 xs_ok (H := gabionref12_word.H) (lcuts := gabionref12_word.lc) (rcuts := gabionref12_word.rc) (fn := Tryd.f41) mixed Tryd.func41 2000 _ _ _ (@cast (gabionref12_word.L1.wp s mark h Q) _ (by kernel_rfl) hk)

/-! gabion/gabionref01.may -/
def gabionref01_may.H : Hn := ⟨[], [], [], []⟩
def gabionref01_may.lc : List Cut := []
def gabionref01_may.rc : List Cut := []
def gabionref01_may.wp (at0 : Int) (width : Int) (h : Heap) (Q : Value → Heap → Prop) : Prop :=
 xsIf (decide (0 ≤ at0)) (xsIf (decide (at0 < 64)) (xsIf (decide (1 ≤ width)) (Q (.bool (decide (width ≤ IntKind.i64.wrap (64 - at0)))) h) (Q (.bool false) h)) (Q (.bool false) h)) (Q (.bool false) h)
theorem gabionref01_may.ok {at0 : Int} {width : Int} {h : Heap} {Q : Value → Heap → Prop} (hk : gabionref01_may.wp at0 width h Q) : C Tryd.prog 74 #[.int .i64 at0, .int .i64 width] h Q :=
 C_of_xs (H := gabionref01_may.H) (lcuts := gabionref01_may.lc) (rcuts := gabionref01_may.rc) (l := [.int .i64 at0, .int .i64 width]) 2000 mixed Tryd.func74 rfl (by kernel_rfl) (@cast (gabionref01_may.wp at0 width h Q) _ (by kernel_rfl) hk)

/-! gabion/gabionref01.bit -/
def gabionref01_bit.H : Hn := ⟨[], [], [], []⟩
def gabionref01_bit.lc : List Cut := [⟨2, [0, 1, 5], []⟩]
def gabionref01_bit.rc : List Cut := []
def gabionref01_bit.L2 (w : Int) (i : Int) (k0 : Int) (h : Heap) (Q : Value → Heap → Prop) : Prop :=
 TW Tryd.prog 75 15 [.code (cAt (bodyOf Tryd.f75) [1, 0, 1, 0, 0]), .inLoop (cAt (bodyOf Tryd.f75) [1, 0, 1, 0, 0]), .inBlock 0, .code (cAt (bodyOf Tryd.f75) [1, 1])] ⟨[(0, .v (.int .u64 w)), (1, .v (.int .i64 i)), (5, .v (.int .i64 k0))], [], .plain⟩ h Q
def gabionref01_bit.wp (w : Int) (i : Int) (h : Heap) (Q : Value → Heap → Prop) : Prop :=
 gabionref01_bit.L2 w i 0 h Q
def gabionref01_bit.L2.wp (w : Int) (i : Int) (k0 : Int) (h : Heap) (Q : Value → Heap → Prop) : Prop :=
 xsIf (decide (k0 < i)) (gabionref01_bit.L2 (iquo .u64 w 2) i (IntKind.i64.wrap (k0 + 1)) h Q) (Q (.int .u64 (irem w 2)) h)
theorem gabionref01_bit.ok {w : Int} {i : Int} {h : Heap} {Q : Value → Heap → Prop} (hk : gabionref01_bit.wp w i h Q) : C Tryd.prog 75 #[.int .u64 w, .int .i64 i] h Q :=
 C_of_xs (H := gabionref01_bit.H) (lcuts := gabionref01_bit.lc) (rcuts := gabionref01_bit.rc) (l := [.int .u64 w, .int .i64 i]) 2000 mixed Tryd.func75 rfl (by kernel_rfl) (@cast (gabionref01_bit.wp w i h Q) _ (by kernel_rfl) hk)
theorem gabionref01_bit.L2.ok {w : Int} {i : Int} {k0 : Int} {h : Heap} {Q : Value → Heap → Prop} (hk : gabionref01_bit.L2.wp w i k0 h Q) : gabionref01_bit.L2 w i k0 h Q :=
 xs_ok (H := gabionref01_bit.H) (lcuts := gabionref01_bit.lc) (rcuts := gabionref01_bit.rc) (fn := Tryd.f75) mixed Tryd.func75 2000 _ _ _ (@cast (gabionref01_bit.L2.wp w i k0 h Q) _ (by kernel_rfl) hk)

/-! gabion/gabionref01.Field -/
def gabionref01_Field.H : Hn := ⟨[], [], [], []⟩
def gabionref01_Field.lc : List Cut := [⟨4, [0, 1, 2, 7, 8, 9], []⟩]
def gabionref01_Field.rc : List Cut := [⟨6, [0, 1, 2, 7, 8, 9], []⟩]
def gabionref01_Field.L4 (w : Int) (at0 : Int) (width : Int) (ok : Bool) (n : Int) (i : Int) (h : Heap) (Q : Value → Heap → Prop) : Prop :=
 TW Tryd.prog 59 35 [.code (cAt (bodyOf Tryd.f59) [1, 1, 1, 0, 1, 0, 0]), .inLoop (cAt (bodyOf Tryd.f59) [1, 1, 1, 0, 1, 0, 0]), .inBlock 0, .code (cAt (bodyOf Tryd.f59) [1, 1, 1, 1])] ⟨[(0, .v (.int .u64 w)), (1, .v (.int .i64 at0)), (2, .v (.int .i64 width)), (7, .v (.bool ok)), (8, .v (.int .u64 n)), (9, .v (.int .i64 i))], [], .plain⟩ h Q
def gabionref01_Field.J6 (w : Int) (at0 : Int) (width : Int) (ok : Bool) (n : Int) (i : Int) (h : Heap) (Q : Value → Heap → Prop) : Prop :=
 TW Tryd.prog 59 35 [.code (cAt (bodyOf Tryd.f59) [1, 1, 1, 0, 1, 0, 0, 1, 0, 0, 0]), .code (cAt (bodyOf Tryd.f59) [1, 1, 1, 0, 1, 0, 0, 1, 0, 0, 1]), .inBlock 1, .code (cAt (bodyOf Tryd.f59) [1, 1, 1, 0, 1, 0, 0, 1, 1]), .inLoop (cAt (bodyOf Tryd.f59) [1, 1, 1, 0, 1, 0, 0]), .inBlock 0, .code (cAt (bodyOf Tryd.f59) [1, 1, 1, 1])] ⟨[(0, .v (.int .u64 w)), (1, .v (.int .i64 at0)), (2, .v (.int .i64 width)), (7, .v (.bool ok)), (8, .v (.int .u64 n)), (9, .v (.int .i64 i))], [], .plain⟩ h Q
def gabionref01_Field.wp (w : Int) (at0 : Int) (width : Int) (h : Heap) (Q : Value → Heap → Prop) : Prop :=
 C Tryd.prog 74 #[.int .i64 at0, .int .i64 width] h fun (r : Value) (h' : Heap) => ∃ (x : Bool), r = .bool x ∧ gabionref01_Field.L4 w at0 width x 0 0 h' Q
def gabionref01_Field.L4.wp (w : Int) (at0 : Int) (width : Int) (ok : Bool) (n : Int) (i : Int) (h : Heap) (Q : Value → Heap → Prop) : Prop :=
 xsIf ok (xsIf (decide (i < width)) (gabionref01_Field.J6 w at0 width ok n i h Q) (Q (.int .u64 n) h)) (Q (.int .u64 n) h)
def gabionref01_Field.J6.wp (w : Int) (at0 : Int) (width : Int) (ok : Bool) (n : Int) (i : Int) (h : Heap) (Q : Value → Heap → Prop) : Prop :=
 C Tryd.prog 75 #[.int .u64 w, .int .i64 (IntKind.i64.wrap (IntKind.i64.wrap (IntKind.i64.wrap (at0 + width) - 1) - i))] h fun (r : Value) (h' : Heap) =>
 ∃ (x : Int), r = .int .u64 x ∧ gabionref01_Field.L4 w at0 width ok (IntKind.u64.wrap (IntKind.u64.wrap (2 * n) + x)) (IntKind.i64.wrap (i + 1)) h' Q
theorem gabionref01_Field.ok {w : Int} {at0 : Int} {width : Int} {h : Heap} {Q : Value → Heap → Prop} (hk : gabionref01_Field.wp w at0 width h Q) : C Tryd.prog 59 #[.int .u64 w, .int .i64 at0, .int .i64 width] h Q :=
 C_of_xs (H := gabionref01_Field.H) (lcuts := gabionref01_Field.lc) (rcuts := gabionref01_Field.rc) (l := [.int .u64 w, .int .i64 at0, .int .i64 width]) 2000 mixed Tryd.func59 rfl (by kernel_rfl) (@cast (gabionref01_Field.wp w at0 width h Q) _ (by kernel_rfl) hk)
theorem gabionref01_Field.L4.ok {w : Int} {at0 : Int} {width : Int} {ok : Bool} {n : Int} {i : Int} {h : Heap} {Q : Value → Heap → Prop} (hk : gabionref01_Field.L4.wp w at0 width ok n i h Q) : gabionref01_Field.L4 w at0 width ok n i h Q :=
 xs_ok (H := gabionref01_Field.H) (lcuts := gabionref01_Field.lc) (rcuts := gabionref01_Field.rc) (fn := Tryd.f59) mixed Tryd.func59 2000 _ _ _ (@cast (gabionref01_Field.L4.wp w at0 width ok n i h Q) _ (by kernel_rfl) hk)
theorem gabionref01_Field.J6.ok {w : Int} {at0 : Int} {width : Int} {ok : Bool} {n : Int} {i : Int} {h : Heap} {Q : Value → Heap → Prop} (hk : gabionref01_Field.J6.wp w at0 width ok n i h Q) : gabionref01_Field.J6 w at0 width ok n i h Q :=
 xs_ok (H := gabionref01_Field.H) (lcuts := gabionref01_Field.lc) (rcuts := []) (fn := Tryd.f59) mixed Tryd.func59 2000 _ _ _ (@cast (gabionref01_Field.J6.wp w at0 width ok n i h Q) _ (by kernel_rfl) hk)

/-! gabion/gabionref02.bits -/
def gabionref02_bits.H : Hn := ⟨[], [], [], []⟩
def gabionref02_bits.lc : List Cut := [⟨3, [0, 1, 5, 6], []⟩, ⟨6, [0, 1, 5, 6, 7], []⟩]
def gabionref02_bits.rc : List Cut := [⟨11, [0, 1, 5, 6, 7, 8], []⟩]
def gabionref02_bits.L3 (s : ByteArray) (low : Bool) (out : Option Addr) (out_n : Nat) (out_c : Nat) (i : Int) (h : Heap) (Q : Value → Heap → Prop) : Prop :=
 TW Tryd.prog 60 36 [.code (cAt (bodyOf Tryd.f60) [1, 1, 0, 1, 0, 0]), .inLoop (cAt (bodyOf Tryd.f60) [1, 1, 0, 1, 0, 0]), .inBlock 0, .code (cAt (bodyOf Tryd.f60) [1, 1, 1])] ⟨[(0, .v (.string s)), (1, .v (.bool low)), (5, .v (.slice out out_n out_c)), (6, .v (.int .i64 i))], [], .plain⟩ h Q
def gabionref02_bits.L6 (s : ByteArray) (low : Bool) (out : Option Addr) (out_n : Nat) (out_c : Nat) (i : Int) (k0 : Int) (h : Heap) (Q : Value → Heap → Prop) : Prop :=
 TW Tryd.prog 60 36 [.code (cAt (bodyOf Tryd.f60) [1, 1, 0, 1, 0, 0, 1, 0, 0, 1, 0, 0]), .inLoop (cAt (bodyOf Tryd.f60) [1, 1, 0, 1, 0, 0, 1, 0, 0, 1, 0, 0]), .inBlock 2, .inBlock 1, .code (cAt (bodyOf Tryd.f60) [1, 1, 0, 1, 0, 0, 1, 1]), .inLoop (cAt (bodyOf Tryd.f60) [1, 1, 0, 1, 0, 0]), .inBlock 0, .code (cAt (bodyOf Tryd.f60) [1, 1, 1])] ⟨[(0, .v (.string s)), (1, .v (.bool low)), (5, .v (.slice out out_n out_c)), (6, .v (.int .i64 i)), (7, .v (.int .i64 k0))], [], .plain⟩ h Q
def gabionref02_bits.J11 (s : ByteArray) (low : Bool) (out : Option Addr) (out_n : Nat) (out_c : Nat) (i : Int) (k0 : Int) (at0 : Int) (h : Heap) (Q : Value → Heap → Prop) : Prop :=
 TW Tryd.prog 60 36 [.code (cAt (bodyOf Tryd.f60) [1, 1, 0, 1, 0, 0, 1, 0, 0, 1, 0, 0, 1, 0, 0, 1, 1, 0]), .code (cAt (bodyOf Tryd.f60) [1, 1, 0, 1, 0, 0, 1, 0, 0, 1, 0, 0, 1, 0, 0, 1, 1, 1]), .inBlock 3, .code (cAt (bodyOf Tryd.f60) [1, 1, 0, 1, 0, 0, 1, 0, 0, 1, 0, 0, 1, 1]), .inLoop (cAt (bodyOf Tryd.f60) [1, 1, 0, 1, 0, 0, 1, 0, 0, 1, 0, 0]), .inBlock 2, .inBlock 1, .code (cAt (bodyOf Tryd.f60) [1, 1, 0, 1, 0, 0, 1, 1]), .inLoop (cAt (bodyOf Tryd.f60) [1, 1, 0, 1, 0, 0]), .inBlock 0, .code (cAt (bodyOf Tryd.f60) [1, 1, 1])] ⟨[(0, .v (.string s)), (1, .v (.bool low)), (5, .v (.slice out out_n out_c)), (6, .v (.int .i64 i)), (7, .v (.int .i64 k0)), (8, .v (.int .i64 at0))], [], .plain⟩ h Q
def gabionref02_bits.wp (s : ByteArray) (low : Bool) (h : Heap) (Q : Value → Heap → Prop) : Prop :=
 gabionref02_bits.L3 s low none 0 0 0 h Q
def gabionref02_bits.L3.wp (s : ByteArray) (low : Bool) (out : Option Addr) (out_n : Nat) (out_c : Nat) (i : Int) (h : Heap) (Q : Value → Heap → Prop) : Prop :=
 xsIf (decide (i < (↑s.size : Int))) (gabionref02_bits.L6 s low out out_n out_c i 0 h Q) (Q (.slice out out_n out_c) h)
def gabionref02_bits.L6.wp (s : ByteArray) (low : Bool) (out : Option Addr) (out_n : Nat) (out_c : Nat) (i : Int) (k0 : Int) (h : Heap) (Q : Value → Heap → Prop) : Prop :=
 xsIf (decide (k0 < 8)) (xsIf low (gabionref02_bits.J11 s low out out_n out_c i k0 k0 h Q) (gabionref02_bits.J11 s low out out_n out_c i k0 (IntKind.i64.wrap (7 - k0)) h Q))
 (gabionref02_bits.L3 s low out out_n out_c (IntKind.i64.wrap (i + 1)) h Q)
def gabionref02_bits.J11.wp (s : ByteArray) (low : Bool) (out : Option Addr) (out_n : Nat) (out_c : Nat) (i : Int) (k0 : Int) (at0 : Int) (h : Heap) (Q : Value → Heap → Prop) : Prop :=
 ∃ (c : UInt8),
 0 ≤ i ∧
 bget s i.toNat = some c ∧
 C Tryd.prog 59 #[.int .u64 (IntKind.u64.wrap (↑c.toNat : Int)), .int .i64 at0, .int .i64 1] h fun (r : Value) (h' : Heap) =>
 ∃ (x : Int),
 r = .int .u64 x ∧
 ∀ (b : Nat),
 h' b = none →
 xsApp Tryd.prog 3 (upd h' b (Obj.cells #[.int .i64 (IntKind.i64.wrap x)] 3 (0, 0))) out out_n out_c (some { block := b, off := 0 }) 1 fun (a' : Option Addr) (n' c' : Nat) (h' : Heap) =>
 gabionref02_bits.L6 s low a' n' c' i (IntKind.i64.wrap (k0 + 1)) h' Q
theorem gabionref02_bits.ok {s : ByteArray} {low : Bool} {h : Heap} {Q : Value → Heap → Prop} (hk : gabionref02_bits.wp s low h Q) : C Tryd.prog 60 #[.string s, .bool low] h Q :=
 C_of_xs (H := gabionref02_bits.H) (lcuts := gabionref02_bits.lc) (rcuts := gabionref02_bits.rc) (l := [.string s, .bool low]) 2000 mixed Tryd.func60 rfl (by kernel_rfl) (@cast (gabionref02_bits.wp s low h Q) _ (by kernel_rfl) hk)
theorem gabionref02_bits.L3.ok {s : ByteArray} {low : Bool} {out : Option Addr} {out_n : Nat} {out_c : Nat} {i : Int} {h : Heap} {Q : Value → Heap → Prop} (hk : gabionref02_bits.L3.wp s low out out_n out_c i h Q) : gabionref02_bits.L3 s low out out_n out_c i h Q :=
 xs_ok (H := gabionref02_bits.H) (lcuts := gabionref02_bits.lc) (rcuts := gabionref02_bits.rc) (fn := Tryd.f60) mixed Tryd.func60 2000 _ _ _ (@cast (gabionref02_bits.L3.wp s low out out_n out_c i h Q) _ (by kernel_rfl) hk)
theorem gabionref02_bits.L6.ok {s : ByteArray} {low : Bool} {out : Option Addr} {out_n : Nat} {out_c : Nat} {i : Int} {k0 : Int} {h : Heap} {Q : Value → Heap → Prop} (hk : gabionref02_bits.L6.wp s low out out_n out_c i k0 h Q) : gabionref02_bits.L6 s low out out_n out_c i k0 h Q :=
 xs_ok (H := gabionref02_bits.H) (lcuts := gabionref02_bits.lc) (rcuts := gabionref02_bits.rc) (fn := Tryd.f60) mixed Tryd.func60 2000 _ _ _ (@cast (gabionref02_bits.L6.wp s low out out_n out_c i k0 h Q) _ (by kernel_rfl) hk)
theorem gabionref02_bits.J11.ok {s : ByteArray} {low : Bool} {out : Option Addr} {out_n : Nat} {out_c : Nat} {i : Int} {k0 : Int} {at0 : Int} {h : Heap} {Q : Value → Heap → Prop} (hk : gabionref02_bits.J11.wp s low out out_n out_c i k0 at0 h Q) : gabionref02_bits.J11 s low out out_n out_c i k0 at0 h Q :=
 xs_ok (H := gabionref02_bits.H) (lcuts := gabionref02_bits.lc) (rcuts := []) (fn := Tryd.f60) mixed Tryd.func60 2000 _ _ _ (@cast (gabionref02_bits.J11.wp s low out out_n out_c i k0 at0 h Q) _ (by kernel_rfl) hk)
end Go.Gb
