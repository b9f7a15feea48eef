/- Own text for the seat: W2. -/
import Derived.Test.YtcccjpahikgibaaDoorW1
set_option linter.unusedVariables false
set_option linter.unusedSimpArgs false
set_option linter.unnecessarySimpa false
set_option linter.deprecated false
set_option maxRecDepth 100000
namespace Go.Gb
open Go.Proofs

/-! gabion/gabionref02.Sum -/
def gabionref02_Sum.H : Hn := ⟨[], [], [⟨9, .q 0 (.q 1 (.q 3 (.q 4 (.q 5 (.ld 2 896 (.q 6 (.q 7 (.q 8 (.q 9 (.nil)))))))))), []⟩, ⟨18, .q 0 (.q 1 (.q 2 (.q 3 (.q 4 (.q 6 (.q 7 (.q 8 (.ld 5 15360 (.q 9 (.q 10 (.q 11 (.q 12 (.q 13 (.nil)))))))))))))), []⟩], []⟩
def gabionref02_Sum.lc : List Cut := [⟨3, [0, 1, 5, 6], []⟩, ⟨7, [0, 1, 5, 7], []⟩, ⟨11, [0, 1, 5, 7, 8, 9], []⟩, ⟨16, [0, 1, 5, 7, 8, 10], []⟩]
def gabionref02_Sum.rc : List Cut := [⟨6, [0, 1, 5], []⟩, ⟨14, [0, 1, 5, 7, 8], []⟩, ⟨18, [0, 1, 5, 7, 8, 10], []⟩]
def gabionref02_Sum.L3 (l : Option Addr) (l_n : Nat) (l_c : Nat) (turns : Option Addr) (turns_n : Nat) (turns_c : Nat) (r0 : Option Addr) (r0_n : Nat) (r0_c : Nat) (i_6 : Int) (h : Heap) (Q : Value → Heap → Prop) : Prop :=
 TW Tryd.prog 61 82 [.code (cAt (bodyOf Tryd.f61) [1, 1, 0, 1, 0, 0]), .inLoop (cAt (bodyOf Tryd.f61) [1, 1, 0, 1, 0, 0]), .inBlock 0, .code (cAt (bodyOf Tryd.f61) [1, 1, 1])] ⟨[(0, .v (.slice l l_n l_c)), (1, .v (.slice turns turns_n turns_c)), (5, .v (.slice r0 r0_n r0_c)), (6, .v (.int .i64 i_6))], [], .plain⟩ h Q
def gabionref02_Sum.J6 (l : Option Addr) (l_n : Nat) (l_c : Nat) (turns : Option Addr) (turns_n : Nat) (turns_c : Nat) (r0 : Option Addr) (r0_n : Nat) (r0_c : Nat) (h : Heap) (Q : Value → Heap → Prop) : Prop :=
 TW Tryd.prog 61 82 [.code (cAt (bodyOf Tryd.f61) [1, 1, 1, 0, 0]), .code (cAt (bodyOf Tryd.f61) [1, 1, 1, 0, 1]), .code (cAt (bodyOf Tryd.f61) [1, 1, 1, 1])] ⟨[(0, .v (.slice l l_n l_c)), (1, .v (.slice turns turns_n turns_c)), (5, .v (.slice r0 r0_n r0_c))], [], .plain⟩ h Q
def gabionref02_Sum.L7 (l : Option Addr) (l_n : Nat) (l_c : Nat) (turns : Option Addr) (turns_n : Nat) (turns_c : Nat) (r0 : Option Addr) (r0_n : Nat) (r0_c : Nat) (i_7 : Int) (h : Heap) (Q : Value → Heap → Prop) : Prop :=
 TW Tryd.prog 61 82 [.code (cAt (bodyOf Tryd.f61) [1, 1, 1, 0, 1, 0, 0]), .inLoop (cAt (bodyOf Tryd.f61) [1, 1, 1, 0, 1, 0, 0]), .inBlock 2, .code (cAt (bodyOf Tryd.f61) [1, 1, 1, 1])] ⟨[(0, .v (.slice l l_n l_c)), (1, .v (.slice turns turns_n turns_c)), (5, .v (.slice r0 r0_n r0_c)), (7, .v (.int .i64 i_7))], [], .plain⟩ h Q
def gabionref02_Sum.L11 (l : Option Addr) (l_n : Nat) (l_c : Nat) (turns : Option Addr) (turns_n : Nat) (turns_c : Nat) (r0 : Option Addr) (r0_n : Nat) (r0_c : Nat) (i_7 : Int) (out : Int) (k0_9 : Int) (h : Heap) (Q : Value → Heap → Prop) : Prop :=
 TW Tryd.prog 61 82 [.code (cAt (bodyOf Tryd.f61) [1, 1, 1, 0, 1, 0, 0, 1, 0, 0, 1, 0, 1, 0, 0]), .inLoop (cAt (bodyOf Tryd.f61) [1, 1, 1, 0, 1, 0, 0, 1, 0, 0, 1, 0, 1, 0, 0]), .inBlock 4, .code (cAt (bodyOf Tryd.f61) [1, 1, 1, 0, 1, 0, 0, 1, 0, 0, 1, 1]), .inBlock 3, .code (cAt (bodyOf Tryd.f61) [1, 1, 1, 0, 1, 0, 0, 1, 1]), .inLoop (cAt (bodyOf Tryd.f61) [1, 1, 1, 0, 1, 0, 0]), .inBlock 2, .code (cAt (bodyOf Tryd.f61) [1, 1, 1, 1])] ⟨[(0, .v (.slice l l_n l_c)), (1, .v (.slice turns turns_n turns_c)), (5, .v (.slice r0 r0_n r0_c)), (7, .v (.int .i64 i_7)), (8, .v (.int .i64 out)), (9, .v (.int .i64 k0_9))], [], .plain⟩ h Q
def gabionref02_Sum.J14 (l : Option Addr) (l_n : Nat) (l_c : Nat) (turns : Option Addr) (turns_n : Nat) (turns_c : Nat) (r0 : Option Addr) (r0_n : Nat) (r0_c : Nat) (i_7 : Int) (out : Int) (h : Heap) (Q : Value → Heap → Prop) : Prop :=
 TW Tryd.prog 61 82 [.code (cAt (bodyOf Tryd.f61) [1, 1, 1, 0, 1, 0, 0, 1, 0, 0, 1, 1, 0]), .code (cAt (bodyOf Tryd.f61) [1, 1, 1, 0, 1, 0, 0, 1, 0, 0, 1, 1, 1]), .inBlock 3, .code (cAt (bodyOf Tryd.f61) [1, 1, 1, 0, 1, 0, 0, 1, 1]), .inLoop (cAt (bodyOf Tryd.f61) [1, 1, 1, 0, 1, 0, 0]), .inBlock 2, .code (cAt (bodyOf Tryd.f61) [1, 1, 1, 1])] ⟨[(0, .v (.slice l l_n l_c)), (1, .v (.slice turns turns_n turns_c)), (5, .v (.slice r0 r0_n r0_c)), (7, .v (.int .i64 i_7)), (8, .v (.int .i64 out))], [], .plain⟩ h Q
def gabionref02_Sum.L16 (l : Option Addr) (l_n : Nat) (l_c : Nat) (turns : Option Addr) (turns_n : Nat) (turns_c : Nat) (r0 : Option Addr) (r0_n : Nat) (r0_c : Nat) (i_7 : Int) (out : Int) (k0_10 : Int) (h : Heap) (Q : Value → Heap → Prop) : Prop :=
 TW Tryd.prog 61 82 [.code (cAt (bodyOf Tryd.f61) [1, 1, 1, 0, 1, 0, 0, 1, 0, 0, 1, 1, 1, 1, 0, 0]), .inLoop (cAt (bodyOf Tryd.f61) [1, 1, 1, 0, 1, 0, 0, 1, 0, 0, 1, 1, 1, 1, 0, 0]), .inBlock 6, .inBlock 3, .code (cAt (bodyOf Tryd.f61) [1, 1, 1, 0, 1, 0, 0, 1, 1]), .inLoop (cAt (bodyOf Tryd.f61) [1, 1, 1, 0, 1, 0, 0]), .inBlock 2, .code (cAt (bodyOf Tryd.f61) [1, 1, 1, 1])] ⟨[(0, .v (.slice l l_n l_c)), (1, .v (.slice turns turns_n turns_c)), (5, .v (.slice r0 r0_n r0_c)), (7, .v (.int .i64 i_7)), (8, .v (.int .i64 out)), (10, .v (.int .i64 k0_10))], [], .plain⟩ h Q
def gabionref02_Sum.J18 (l : Option Addr) (l_n : Nat) (l_c : Nat) (turns : Option Addr) (turns_n : Nat) (turns_c : Nat) (r0 : Option Addr) (r0_n : Nat) (r0_c : Nat) (i_7 : Int) (out : Int) (k0_10 : Int) (h : Heap) (Q : Value → Heap → Prop) : Prop :=
 TW Tryd.prog 61 82 [.code (cAt (bodyOf Tryd.f61) [1, 1, 1, 0, 1, 0, 0, 1, 0, 0, 1, 1, 1, 1, 0, 0, 1, 0, 0]), .inBlock 7, .code (cAt (bodyOf Tryd.f61) [1, 1, 1, 0, 1, 0, 0, 1, 0, 0, 1, 1, 1, 1, 0, 0, 1, 1]), .inLoop (cAt (bodyOf Tryd.f61) [1, 1, 1, 0, 1, 0, 0, 1, 0, 0, 1, 1, 1, 1, 0, 0]), .inBlock 6, .inBlock 3, .code (cAt (bodyOf Tryd.f61) [1, 1, 1, 0, 1, 0, 0, 1, 1]), .inLoop (cAt (bodyOf Tryd.f61) [1, 1, 1, 0, 1, 0, 0]), .inBlock 2, .code (cAt (bodyOf Tryd.f61) [1, 1, 1, 1])] ⟨[(0, .v (.slice l l_n l_c)), (1, .v (.slice turns turns_n turns_c)), (5, .v (.slice r0 r0_n r0_c)), (7, .v (.int .i64 i_7)), (8, .v (.int .i64 out)), (10, .v (.int .i64 k0_10))], [], .plain⟩ h Q
def gabionref02_Sum.wp (l : Option Addr) (l_n : Nat) (l_c : Nat) (turns : Option Addr) (turns_n : Nat) (turns_c : Nat) (h : Heap) (Q : Value → Heap → Prop) : Prop :=
 xsMk Tryd.prog 3 h (↑turns_n : Int) (↑turns_n : Int) fun (a : Option Addr) (n' c' : Nat) (h' : Heap) => gabionref02_Sum.L3 l l_n l_c turns turns_n turns_c a n' c' 0 h' Q
def gabionref02_Sum.L3.wp (l : Option Addr) (l_n : Nat) (l_c : Nat) (turns : Option Addr) (turns_n : Nat) (turns_c : Nat) (r0 : Option Addr) (r0_n : Nat) (r0_c : Nat) (i_6 : Int) (h : Heap) (Q : Value → Heap → Prop) : Prop :=
 xsIf (decide (i_6 < (↑r0_n : Int)))
 ((0 ≤ i_6 ∧ i_6 < (↑r0_n : Int)) ∧
 atBase r0 fun (b o : Nat) => h.can b (o + i_6.toNat * 1) 1 ∧ gabionref02_Sum.L3 l l_n l_c turns turns_n turns_c r0 r0_n r0_c (IntKind.i64.wrap (i_6 + 1)) (h.put b (o + i_6.toNat * 1) [.int .i64 1]) Q)
 (gabionref02_Sum.J6 l l_n l_c turns turns_n turns_c r0 r0_n r0_c h Q)
def gabionref02_Sum.J6.wp (l : Option Addr) (l_n : Nat) (l_c : Nat) (turns : Option Addr) (turns_n : Nat) (turns_c : Nat) (r0 : Option Addr) (r0_n : Nat) (r0_c : Nat) (h : Heap) (Q : Value → Heap → Prop) : Prop :=
 gabionref02_Sum.L7 l l_n l_c turns turns_n turns_c r0 r0_n r0_c 0 h Q
def gabionref02_Sum.L7.wp (l : Option Addr) (l_n : Nat) (l_c : Nat) (turns : Option Addr) (turns_n : Nat) (turns_c : Nat) (r0 : Option Addr) (r0_n : Nat) (r0_c : Nat) (i_7 : Int) (h : Heap) (Q : Value → Heap → Prop) : Prop :=
 xsIf (decide (i_7 < (↑l_n : Int)))
 (((0 : Int) ≤ 0 ∧ (0 : Int) < (↑r0_n : Int)) ∧
 atBase r0 fun (b o : Nat) =>
 (0 ≤ i_7 ∧ i_7 < (↑l_n : Int)) ∧
 atBase l fun (b_1 o_1 : Nat) =>
 ∃ (x : Int),
 h.cell b (o + 0) = some (.int .i64 x) ∧
 ∃ (x_1 : Int), h.cell b_1 (o_1 + i_7.toNat * 1) = some (.int .i64 x_1) ∧ gabionref02_Sum.L11 l l_n l_c turns turns_n turns_c r0 r0_n r0_c i_7 (irem (IntKind.i64.wrap (x + x_1)) 2) 0 h Q)
 (Q (.slice r0 r0_n r0_c) h)
def gabionref02_Sum.L11.wp (l : Option Addr) (l_n : Nat) (l_c : Nat) (turns : Option Addr) (turns_n : Nat) (turns_c : Nat) (r0 : Option Addr) (r0_n : Nat) (r0_c : Nat) (i_7 : Int) (out : Int) (k0_9 : Int) (h : Heap) (Q : Value → Heap → Prop) : Prop :=
 xsIf (decide (IntKind.i64.wrap (k0_9 + 1) < (↑r0_n : Int)))
 ((0 ≤ IntKind.i64.wrap (k0_9 + 1) ∧ IntKind.i64.wrap (k0_9 + 1) < (↑r0_n : Int)) ∧
 atBase r0 fun (b o : Nat) =>
 ∃ (x : Int),
 h.cell b (o + (IntKind.i64.wrap (k0_9 + 1)).toNat * 1) = some (.int .i64 x) ∧
 (0 ≤ k0_9 ∧ k0_9 < (↑r0_n : Int)) ∧
 atBase r0 fun (b o : Nat) => h.can b (o + k0_9.toNat * 1) 1 ∧ gabionref02_Sum.L11 l l_n l_c turns turns_n turns_c r0 r0_n r0_c i_7 out (IntKind.i64.wrap (k0_9 + 1)) (h.put b (o + k0_9.toNat * 1) [.int .i64 x]) Q)
 (gabionref02_Sum.J14 l l_n l_c turns turns_n turns_c r0 r0_n r0_c i_7 out h Q)
def gabionref02_Sum.J14.wp (l : Option Addr) (l_n : Nat) (l_c : Nat) (turns : Option Addr) (turns_n : Nat) (turns_c : Nat) (r0 : Option Addr) (r0_n : Nat) (r0_c : Nat) (i_7 : Int) (out : Int) (h : Heap) (Q : Value → Heap → Prop) : Prop :=
 (0 ≤ IntKind.i64.wrap ((↑r0_n : Int) - 1) ∧ IntKind.i64.wrap ((↑r0_n : Int) - 1) < (↑r0_n : Int)) ∧
 atBase r0 fun (b o : Nat) =>
 h.can b (o + (IntKind.i64.wrap ((↑r0_n : Int) - 1)).toNat * 1) 1 ∧ gabionref02_Sum.L16 l l_n l_c turns turns_n turns_c r0 r0_n r0_c i_7 out 0 (h.put b (o + (IntKind.i64.wrap ((↑r0_n : Int) - 1)).toNat * 1) [.int .i64 0]) Q
def gabionref02_Sum.L16.wp (l : Option Addr) (l_n : Nat) (l_c : Nat) (turns : Option Addr) (turns_n : Nat) (turns_c : Nat) (r0 : Option Addr) (r0_n : Nat) (r0_c : Nat) (i_7 : Int) (out : Int) (k0_10 : Int) (h : Heap) (Q : Value → Heap → Prop) : Prop :=
 xsIf (decide (k0_10 < (↑r0_n : Int)))
 (xsIf (decide (out = 1)) (gabionref02_Sum.J18 l l_n l_c turns turns_n turns_c r0 r0_n r0_c i_7 out k0_10 h Q) (gabionref02_Sum.L7 l l_n l_c turns turns_n turns_c r0 r0_n r0_c (IntKind.i64.wrap (i_7 + 1)) h Q))
 (gabionref02_Sum.L7 l l_n l_c turns turns_n turns_c r0 r0_n r0_c (IntKind.i64.wrap (i_7 + 1)) h Q)
def gabionref02_Sum.J18.wp (l : Option Addr) (l_n : Nat) (l_c : Nat) (turns : Option Addr) (turns_n : Nat) (turns_c : Nat) (r0 : Option Addr) (r0_n : Nat) (r0_c : Nat) (i_7 : Int) (out : Int) (k0_10 : Int) (h : Heap) (Q : Value → Heap → Prop) : Prop :=
 (0 ≤ k0_10 ∧ k0_10 < (↑r0_n : Int)) ∧
 atBase r0 fun (b o : Nat) =>
 (0 ≤ k0_10 ∧ k0_10 < (↑turns_n : Int)) ∧
 atBase turns fun (b_1 o_1 : Nat) =>
 ∃ (x : Int),
 h.cell b (o + k0_10.toNat * 1) = some (.int .i64 x) ∧
 ∃ (x_1 : Int),
 h.cell b_1 (o_1 + k0_10.toNat * 1) = some (.int .i64 x_1) ∧
 (0 ≤ k0_10 ∧ k0_10 < (↑r0_n : Int)) ∧
 atBase r0 fun (b o : Nat) =>
 h.can b (o + k0_10.toNat * 1) 1 ∧
 gabionref02_Sum.L16 l l_n l_c turns turns_n turns_c r0 r0_n r0_c i_7 out (IntKind.i64.wrap (k0_10 + 1)) (h.put b (o + k0_10.toNat * 1) [.int .i64 (irem (IntKind.i64.wrap (x + x_1)) 2)]) Q
theorem gabionref02_Sum.ok {l : Option Addr} {l_n : Nat} {l_c : Nat} {turns : Option Addr} {turns_n : Nat} {turns_c : Nat} {h : Heap} {Q : Value → Heap → Prop} (hk : gabionref02_Sum.wp l l_n l_c turns turns_n turns_c h Q) : C Tryd.prog 61 #[.slice l l_n l_c, .slice turns turns_n turns_c] h Q :=
 C_of_xs (H := gabionref02_Sum.H) (lcuts := gabionref02_Sum.lc) (rcuts := gabionref02_Sum.rc) (l := [.slice l l_n l_c, .slice turns turns_n turns_c]) 2000 mixed Tryd.func61 rfl (by kernel_rfl) (@cast (gabionref02_Sum.wp l l_n l_c turns turns_n turns_c h Q) _ (by kernel_rfl) hk)
theorem gabionref02_Sum.L3.ok {l : Option Addr} {l_n : Nat} {l_c : Nat} {turns : Option Addr} {turns_n : Nat} {turns_c : Nat} {r0 : Option Addr} {r0_n : Nat} {r0_c : Nat} {i_6 : Int} {h : Heap} {Q : Value → Heap → Prop} (hk : gabionref02_Sum.L3.wp l l_n l_c turns turns_n turns_c r0 r0_n r0_c i_6 h Q) : gabionref02_Sum.L3 l l_n l_c turns turns_n turns_c r0 r0_n r0_c i_6 h Q :=
 xs_ok (H := gabionref02_Sum.H) (lcuts := gabionref02_Sum.lc) (rcuts := gabionref02_Sum.rc) (fn := Tryd.f61) mixed Tryd.func61 2000 _ _ _ (@cast (gabionref02_Sum.L3.wp l l_n l_c turns turns_n turns_c r0 r0_n r0_c i_6 h Q) _ (by kernel_rfl) hk)
theorem gabionref02_Sum.J6.ok {l : Option Addr} {l_n : Nat} {l_c : Nat} {turns : Option Addr} {turns_n : Nat} {turns_c : Nat} {r0 : Option Addr} {r0_n : Nat} {r0_c : Nat} {h : Heap} {Q : Value → Heap → Prop} (hk : gabionref02_Sum.J6.wp l l_n l_c turns turns_n turns_c r0 r0_n r0_c h Q) : gabionref02_Sum.J6 l l_n l_c turns turns_n turns_c r0 r0_n r0_c h Q :=
 xs_ok (H := gabionref02_Sum.H) (lcuts := gabionref02_Sum.lc) (rcuts := [⟨14, [0, 1, 5, 7, 8], []⟩, ⟨18, [0, 1, 5, 7, 8, 10], []⟩]) (fn := Tryd.f61) mixed Tryd.func61 2000 _ _ _ (@cast (gabionref02_Sum.J6.wp l l_n l_c turns turns_n turns_c r0 r0_n r0_c h Q) _ (by kernel_rfl) hk)
theorem gabionref02_Sum.L7.ok {l : Option Addr} {l_n : Nat} {l_c : Nat} {turns : Option Addr} {turns_n : Nat} {turns_c : Nat} {r0 : Option Addr} {r0_n : Nat} {r0_c : Nat} {i_7 : Int} {h : Heap} {Q : Value → Heap → Prop} (hk : gabionref02_Sum.L7.wp l l_n l_c turns turns_n turns_c r0 r0_n r0_c i_7 h Q) : gabionref02_Sum.L7 l l_n l_c turns turns_n turns_c r0 r0_n r0_c i_7 h Q :=
 xs_ok (H := gabionref02_Sum.H) (lcuts := gabionref02_Sum.lc) (rcuts := gabionref02_Sum.rc) (fn := Tryd.f61) mixed Tryd.func61 2000 _ _ _ (@cast (gabionref02_Sum.L7.wp l l_n l_c turns turns_n turns_c r0 r0_n r0_c i_7 h Q) _ (by kernel_rfl) hk)
theorem gabionref02_Sum.L11.ok {l : Option Addr} {l_n : Nat} {l_c : Nat} {turns : Option Addr} {turns_n : Nat} {turns_c : Nat} {r0 : Option Addr} {r0_n : Nat} {r0_c : Nat} {i_7 : Int} {out : Int} {k0_9 : Int} {h : Heap} {Q : Value → Heap → Prop} (hk : gabionref02_Sum.L11.wp l l_n l_c turns turns_n turns_c r0 r0_n r0_c i_7 out k0_9 h Q) : gabionref02_Sum.L11 l l_n l_c turns turns_n turns_c r0 r0_n r0_c i_7 out k0_9 h Q :=
 xs_ok (H := gabionref02_Sum.H) (lcuts := gabionref02_Sum.lc) (rcuts := gabionref02_Sum.rc) (fn := Tryd.f61) mixed Tryd.func61 2000 _ _ _ (@cast (gabionref02_Sum.L11.wp l l_n l_c turns turns_n turns_c r0 r0_n r0_c i_7 out k0_9 h Q) _ (by kernel_rfl) hk)
theorem gabionref02_Sum.J14.ok {l : Option Addr} {l_n : Nat} {l_c : Nat} {turns : Option Addr} {turns_n : Nat} {turns_c : Nat} {r0 : Option Addr} {r0_n : Nat} {r0_c : Nat} {i_7 : Int} {out : Int} {h : Heap} {Q : Value → Heap → Prop} (hk : gabionref02_Sum.J14.wp l l_n l_c turns turns_n turns_c r0 r0_n r0_c i_7 out h Q) : gabionref02_Sum.J14 l l_n l_c turns turns_n turns_c r0 r0_n r0_c i_7 out h Q :=
 xs_ok (H := gabionref02_Sum.H) (lcuts := gabionref02_Sum.lc) (rcuts := [⟨6, [0, 1, 5], []⟩, ⟨18, [0, 1, 5, 7, 8, 10], []⟩]) (fn := Tryd.f61) mixed Tryd.func61 2000 _ _ _ (@cast (gabionref02_Sum.J14.wp l l_n l_c turns turns_n turns_c r0 r0_n r0_c i_7 out h Q) _ (by kernel_rfl) hk)
theorem gabionref02_Sum.L16.ok {l : Option Addr} {l_n : Nat} {l_c : Nat} {turns : Option Addr} {turns_n : Nat} {turns_c : Nat} {r0 : Option Addr} {r0_n : Nat} {r0_c : Nat} {i_7 : Int} {out : Int} {k0_10 : Int} {h : Heap} {Q : Value → Heap → Prop} (hk : gabionref02_Sum.L16.wp l l_n l_c turns turns_n turns_c r0 r0_n r0_c i_7 out k0_10 h Q) : gabionref02_Sum.L16 l l_n l_c turns turns_n turns_c r0 r0_n r0_c i_7 out k0_10 h Q :=
 xs_ok (H := gabionref02_Sum.H) (lcuts := gabionref02_Sum.lc) (rcuts := gabionref02_Sum.rc) (fn := Tryd.f61) mixed Tryd.func61 2000 _ _ _ (@cast (gabionref02_Sum.L16.wp l l_n l_c turns turns_n turns_c r0 r0_n r0_c i_7 out k0_10 h Q) _ (by kernel_rfl) hk)
theorem gabionref02_Sum.J18.ok {l : Option Addr} {l_n : Nat} {l_c : Nat} {turns : Option Addr} {turns_n : Nat} {turns_c : Nat} {r0 : Option Addr} {r0_n : Nat} {r0_c : Nat} {i_7 : Int} {out : Int} {k0_10 : Int} {h : Heap} {Q : Value → Heap → Prop} (hk : gabionref02_Sum.J18.wp l l_n l_c turns turns_n turns_c r0 r0_n r0_c i_7 out k0_10 h Q) : gabionref02_Sum.J18 l l_n l_c turns turns_n turns_c r0 r0_n r0_c i_7 out k0_10 h Q :=
 xs_ok (H := gabionref02_Sum.H) (lcuts := gabionref02_Sum.lc) (rcuts := [⟨6, [0, 1, 5], []⟩, ⟨14, [0, 1, 5, 7, 8], []⟩]) (fn := Tryd.f61) mixed Tryd.func61 2000 _ _ _ (@cast (gabionref02_Sum.J18.wp l l_n l_c turns turns_n turns_c r0 r0_n r0_c i_7 out k0_10 h Q) _ (by kernel_rfl) hk)

/-! gabion/gabionref02.number -/
def gabionref02_number.H : Hn := ⟨[], [], [], []⟩
def gabionref02_number.lc : List Cut := [⟨3, [0, 3, 4], []⟩]
def gabionref02_number.rc : List Cut := []
def gabionref02_number.L3 (r0 : Option Addr) (r0_n : Nat) (r0_c : Nat) (n : Int) (i : Int) (h : Heap) (Q : Value → Heap → Prop) : Prop :=
 TW Tryd.prog 62 20 [.code (cAt (bodyOf Tryd.f62) [1, 1, 0, 1, 0, 0]), .inLoop (cAt (bodyOf Tryd.f62) [1, 1, 0, 1, 0, 0]), .inBlock 0, .code (cAt (bodyOf Tryd.f62) [1, 1, 1])] ⟨[(0, .v (.slice r0 r0_n r0_c)), (3, .v (.int .u64 n)), (4, .v (.int .i64 i))], [], .plain⟩ h Q
def gabionref02_number.wp (r0 : Option Addr) (r0_n : Nat) (r0_c : Nat) (h : Heap) (Q : Value → Heap → Prop) : Prop :=
 gabionref02_number.L3 r0 r0_n r0_c 0 0 h Q
def gabionref02_number.L3.wp (r0 : Option Addr) (r0_n : Nat) (r0_c : Nat) (n : Int) (i : Int) (h : Heap) (Q : Value → Heap → Prop) : Prop :=
 xsIf (decide (i < (↑r0_n : Int)))
 ((0 ≤ i ∧ i < (↑r0_n : Int)) ∧
 atBase r0 fun (b o : Nat) =>
 ∃ (x : Int), h.cell b (o + i.toNat * 1) = some (.int .i64 x) ∧ gabionref02_number.L3 r0 r0_n r0_c (IntKind.u64.wrap (IntKind.u64.wrap (2 * n) + IntKind.u64.wrap x)) (IntKind.i64.wrap (i + 1)) h Q)
 (Q (.int .u64 n) h)
theorem gabionref02_number.ok {r0 : Option Addr} {r0_n : Nat} {r0_c : Nat} {h : Heap} {Q : Value → Heap → Prop} (hk : gabionref02_number.wp r0 r0_n r0_c h Q) : C Tryd.prog 62 #[.slice r0 r0_n r0_c] h Q :=
 C_of_xs (H := gabionref02_number.H) (lcuts := gabionref02_number.lc) (rcuts := gabionref02_number.rc) (l := [.slice r0 r0_n r0_c]) 2000 mixed Tryd.func62 rfl (by kernel_rfl) (@cast (gabionref02_number.wp r0 r0_n r0_c h Q) _ (by kernel_rfl) hk)
theorem gabionref02_number.L3.ok {r0 : Option Addr} {r0_n : Nat} {r0_c : Nat} {n : Int} {i : Int} {h : Heap} {Q : Value → Heap → Prop} (hk : gabionref02_number.L3.wp r0 r0_n r0_c n i h Q) : gabionref02_number.L3 r0 r0_n r0_c n i h Q :=
 xs_ok (H := gabionref02_number.H) (lcuts := gabionref02_number.lc) (rcuts := gabionref02_number.rc) (fn := Tryd.f62) mixed Tryd.func62 2000 _ _ _ (@cast (gabionref02_number.L3.wp r0 r0_n r0_c n i h Q) _ (by kernel_rfl) hk)

/-! gabion/gabionref02.Sum32 -/
def gabionref02_Sum32.H : Hn := ⟨[], [], [], []⟩
def gabionref02_Sum32.lc : List Cut := [⟨4, [0, 3, 4, 5], []⟩, ⟨12, [8, 9, 10], []⟩]
def gabionref02_Sum32.rc : List Cut := [⟨8, [0, 4], []⟩]
def gabionref02_Sum32.L4 (s : ByteArray) (poly : Int) (turns : Option Addr) (turns_n : Nat) (turns_c : Nat) (k0_5 : Int) (h : Heap) (Q : Value → Heap → Prop) : Prop :=
 TW Tryd.prog 42 43 [.code (cAt (bodyOf Tryd.f42) [1, 1, 1, 0, 1, 0, 0]), .inLoop (cAt (bodyOf Tryd.f42) [1, 1, 1, 0, 1, 0, 0]), .inBlock 0, .code (cAt (bodyOf Tryd.f42) [1, 1, 1, 1])] ⟨[(0, .v (.string s)), (3, .v (.int .u64 poly)), (4, .v (.slice turns turns_n turns_c)), (5, .v (.int .i64 k0_5))], [], .plain⟩ h Q
def gabionref02_Sum32.J8 (s : ByteArray) (turns : Option Addr) (turns_n : Nat) (turns_c : Nat) (h : Heap) (Q : Value → Heap → Prop) : Prop :=
 TW Tryd.prog 42 43 [.code (cAt (bodyOf Tryd.f42) [1, 1, 1, 1, 0]), .code (cAt (bodyOf Tryd.f42) [1, 1, 1, 1, 1])] ⟨[(0, .v (.string s)), (4, .v (.slice turns turns_n turns_c))], [], .plain⟩ h Q
def gabionref02_Sum32.L12 (r0 : Option Addr) (r0_n : Nat) (r0_c : Nat) (back : Option Addr) (back_n : Nat) (back_c : Nat) (k0_10 : Int) (h : Heap) (Q : Value → Heap → Prop) : Prop :=
 TW Tryd.prog 42 43 [.code (cAt (bodyOf Tryd.f42) [1, 1, 1, 1, 1, 1, 1, 0, 1, 0, 0]), .inLoop (cAt (bodyOf Tryd.f42) [1, 1, 1, 1, 1, 1, 1, 0, 1, 0, 0]), .inBlock 2, .code (cAt (bodyOf Tryd.f42) [1, 1, 1, 1, 1, 1, 1, 1])] ⟨[(8, .v (.slice r0 r0_n r0_c)), (9, .v (.slice back back_n back_c)), (10, .v (.int .i64 k0_10))], [], .plain⟩ h Q
def gabionref02_Sum32.wp (s : ByteArray) (h : Heap) (Q : Value → Heap → Prop) : Prop :=
 gabionref02_Sum32.L4 s 2197175160 none 0 0 0 h Q
def gabionref02_Sum32.L4.wp (s : ByteArray) (poly : Int) (turns : Option Addr) (turns_n : Nat) (turns_c : Nat) (k0_5 : Int) (h : Heap) (Q : Value → Heap → Prop) : Prop :=
 xsIf (decide (k0_5 < 32))
 (C Tryd.prog 59 #[.int .u64 poly, .int .i64 k0_5, .int .i64 1] h fun (r : Value) (h' : Heap) =>
 ∃ (x : Int),
 r = .int .u64 x ∧
 ∀ (b : Nat),
 h' b = none →
 xsApp Tryd.prog 3 (upd h' b (Obj.cells #[.int .i64 (IntKind.i64.wrap x)] 3 (0, 0))) turns turns_n turns_c (some { block := b, off := 0 }) 1 fun (a' : Option Addr) (n' c' : Nat) (h' : Heap) =>
 gabionref02_Sum32.L4 s poly a' n' c' (IntKind.i64.wrap (k0_5 + 1)) h' Q)
 (gabionref02_Sum32.J8 s turns turns_n turns_c h Q)
def gabionref02_Sum32.J8.wp (s : ByteArray) (turns : Option Addr) (turns_n : Nat) (turns_c : Nat) (h : Heap) (Q : Value → Heap → Prop) : Prop :=
 C Tryd.prog 60 #[.string s, .bool true] h fun (r : Value) (h' : Heap) =>
 ∃ (x : Option Addr),
 ∃ (n : Nat),
 ∃ (m : Nat),
 r = .slice x n m ∧
 C Tryd.prog 61 #[.slice x n m, .slice turns turns_n turns_c] h' fun (r : Value) (h' : Heap) =>
 ∃ (x : Option Addr), ∃ (n : Nat), ∃ (m : Nat), r = .slice x n m ∧ gabionref02_Sum32.L12 x n m none 0 0 0 h' Q
def gabionref02_Sum32.L12.wp (r0 : Option Addr) (r0_n : Nat) (r0_c : Nat) (back : Option Addr) (back_n : Nat) (back_c : Nat) (k0_10 : Int) (h : Heap) (Q : Value → Heap → Prop) : Prop :=
 xsIf (decide (k0_10 < 32))
 ((0 ≤ IntKind.i64.wrap (31 - k0_10) ∧ IntKind.i64.wrap (31 - k0_10) < (↑r0_n : Int)) ∧
 atBase r0 fun (b o : Nat) =>
 ∃ (x : Int),
 h.cell b (o + (IntKind.i64.wrap (31 - k0_10)).toNat * 1) = some (.int .i64 x) ∧
 ∀ (b : Nat),
 h b = none →
 xsApp Tryd.prog 3 (upd h b (Obj.cells #[.int .i64 (IntKind.i64.wrap (1 - x))] 3 (0, 0))) back back_n back_c (some { block := b, off := 0 }) 1 fun (a' : Option Addr) (n' c' : Nat) (h' : Heap) =>
 gabionref02_Sum32.L12 r0 r0_n r0_c a' n' c' (IntKind.i64.wrap (k0_10 + 1)) h' Q)
 (C Tryd.prog 62 #[.slice back back_n back_c] h fun (r : Value) (h' : Heap) => ∃ (x : Int), r = .int .u64 x ∧ Q (.int .u64 x) h')
theorem gabionref02_Sum32.ok {s : ByteArray} {h : Heap} {Q : Value → Heap → Prop} (hk : gabionref02_Sum32.wp s h Q) : C Tryd.prog 42 #[.string s] h Q :=
 C_of_xs (H := gabionref02_Sum32.H) (lcuts := gabionref02_Sum32.lc) (rcuts := gabionref02_Sum32.rc) (l := [.string s]) 2000 mixed Tryd.func42 rfl (by kernel_rfl) (@cast (gabionref02_Sum32.wp s h Q) _ (by kernel_rfl) hk)
theorem gabionref02_Sum32.L4.ok {s : ByteArray} {poly : Int} {turns : Option Addr} {turns_n : Nat} {turns_c : Nat} {k0_5 : Int} {h : Heap} {Q : Value → Heap → Prop} (hk : gabionref02_Sum32.L4.wp s poly turns turns_n turns_c k0_5 h Q) : gabionref02_Sum32.L4 s poly turns turns_n turns_c k0_5 h Q :=
 xs_ok (H := gabionref02_Sum32.H) (lcuts := gabionref02_Sum32.lc) (rcuts := gabionref02_Sum32.rc) (fn := Tryd.f42) mixed Tryd.func42 2000 _ _ _ (@cast (gabionref02_Sum32.L4.wp s poly turns turns_n turns_c k0_5 h Q) _ (by kernel_rfl) hk)
theorem gabionref02_Sum32.J8.ok {s : ByteArray} {turns : Option Addr} {turns_n : Nat} {turns_c : Nat} {h : Heap} {Q : Value → Heap → Prop} (hk : gabionref02_Sum32.J8.wp s turns turns_n turns_c h Q) : gabionref02_Sum32.J8 s turns turns_n turns_c h Q :=
 xs_ok (H := gabionref02_Sum32.H) (lcuts := gabionref02_Sum32.lc) (rcuts := []) (fn := Tryd.f42) mixed Tryd.func42 2000 _ _ _ (@cast (gabionref02_Sum32.J8.wp s turns turns_n turns_c h Q) _ (by kernel_rfl) hk)
theorem gabionref02_Sum32.L12.ok {r0 : Option Addr} {r0_n : Nat} {r0_c : Nat} {back : Option Addr} {back_n : Nat} {back_c : Nat} {k0_10 : Int} {h : Heap} {Q : Value → Heap → Prop} (hk : gabionref02_Sum32.L12.wp r0 r0_n r0_c back back_n back_c k0_10 h Q) : gabionref02_Sum32.L12 r0 r0_n r0_c back back_n back_c k0_10 h Q :=
 xs_ok (H := gabionref02_Sum32.H) (lcuts := gabionref02_Sum32.lc) (rcuts := gabionref02_Sum32.rc) (fn := Tryd.f42) mixed Tryd.func42 2000 _ _ _ (@cast (gabionref02_Sum32.L12.wp r0 r0_n r0_c back back_n back_c k0_10 h Q) _ (by kernel_rfl) hk)

/-! gabion/gabionref12.Encode -/
def gabionref12_Encode.H : Hn := ⟨[], [1], [], []⟩
def gabionref12_Encode.lc : List Cut := [⟨6, [1, 4, 5], [1]⟩, ⟨15, [1, 10, 11], [1]⟩]
def gabionref12_Encode.rc : List Cut := [⟨3, [1], [1]⟩, ⟨20, [1, 10, 11, 12], [1]⟩]
def gabionref12_Encode.J3 (r0_1 : List Value) (h : Heap) (Q : Value → Heap → Prop) : Prop :=
 TW Tryd.prog 22 99 [.code (cAt (bodyOf Tryd.f22) [1, 1, 0]), .code (cAt (bodyOf Tryd.f22) [1, 1, 1])] ⟨[(1, .p 1 0)], [(1, r0_1)], .plain⟩ h Q
def gabionref12_Encode.L6 (h0 : ByteArray) (i_5 : Int) (r0_1 : List Value) (h : Heap) (Q : Value → Heap → Prop) : Prop :=
 TW Tryd.prog 22 99 [.code (cAt (bodyOf Tryd.f22) [1, 1, 1, 1, 0, 1, 0, 0]), .inLoop (cAt (bodyOf Tryd.f22) [1, 1, 1, 1, 0, 1, 0, 0]), .inBlock 0, .code (cAt (bodyOf Tryd.f22) [1, 1, 1, 1, 1])] ⟨[(1, .p 1 0), (4, .v (.string h0)), (5, .v (.int .i64 i_5))], [(1, r0_1)], .plain⟩ h Q
def gabionref12_Encode.L15 (s : ByteArray) (i_11 : Int) (r0_1 : List Value) (h : Heap) (Q : Value → Heap → Prop) : Prop :=
 TW Tryd.prog 22 99 [.code (cAt (bodyOf Tryd.f22) [1, 1, 1, 1, 1, 1, 1, 1, 1, 0, 1, 0, 0]), .inLoop (cAt (bodyOf Tryd.f22) [1, 1, 1, 1, 1, 1, 1, 1, 1, 0, 1, 0, 0]), .inBlock 2, .code (cAt (bodyOf Tryd.f22) [1, 1, 1, 1, 1, 1, 1, 1, 1, 1])] ⟨[(1, .p 1 0), (10, .v (.string s)), (11, .v (.int .i64 i_11))], [(1, r0_1)], .plain⟩ h Q
def gabionref12_Encode.J20 (s : ByteArray) (i_11 : Int) (to0 : Int) (r0_1 : List Value) (h : Heap) (Q : Value → Heap → Prop) : Prop :=
 TW Tryd.prog 22 99 [.code (cAt (bodyOf Tryd.f22) [1, 1, 1, 1, 1, 1, 1, 1, 1, 0, 1, 0, 0, 1, 0, 0, 1, 1, 0]), .code (cAt (bodyOf Tryd.f22) [1, 1, 1, 1, 1, 1, 1, 1, 1, 0, 1, 0, 0, 1, 0, 0, 1, 1, 1]), .inBlock 3, .code (cAt (bodyOf Tryd.f22) [1, 1, 1, 1, 1, 1, 1, 1, 1, 0, 1, 0, 0, 1, 1]), .inLoop (cAt (bodyOf Tryd.f22) [1, 1, 1, 1, 1, 1, 1, 1, 1, 0, 1, 0, 0]), .inBlock 2, .code (cAt (bodyOf Tryd.f22) [1, 1, 1, 1, 1, 1, 1, 1, 1, 1])] ⟨[(1, .p 1 0), (10, .v (.string s)), (11, .v (.int .i64 i_11)), (12, .v (.int .i64 to0))], [(1, r0_1)], .plain⟩ h Q
def gabionref12_Encode.wp (r0_0 : Int) (r0_1 : Int) (r0_2 : Int) (r0_3 : Int) (r0_4 : ByteArray) (h : Heap) (Q : Value → Heap → Prop) : Prop :=
 ∃ (x : Int),
 lget [.int .u32 r0_0, .int .u32 r0_1, .int .u32 r0_2, .int .u8 r0_3, .string r0_4] 3 = some (.int .u8 x) ∧
 xsIf (decide (x = 0)) (Q (.tuple #[.string { data := #[] }, .int .i64 2]) h)
 (∃ (x : ByteArray),
 lget [.int .u32 r0_0, .int .u32 r0_1, .int .u32 r0_2, .int .u8 r0_3, .string r0_4] 4 = some (.string x) ∧
 xsIf (decide (1024 < (↑x.size : Int))) (Q (.tuple #[.string { data := #[] }, .int .i64 2]) h)
 (gabionref12_Encode.J3 [.int .u32 r0_0, .int .u32 r0_1, .int .u32 r0_2, .int .u8 r0_3, .string r0_4] h Q))
def gabionref12_Encode.J3.wp (r0_1 : List Value) (h : Heap) (Q : Value → Heap → Prop) : Prop :=
 ∃ (x : ByteArray),
 lget r0_1 4 = some (.string x) ∧
 C Tryd.prog 40 #[.int .u64 (IntKind.u64.wrap (↑x.size : Int)), .int .i64 2] h fun (r : Value) (h' : Heap) =>
 ∃ (x : ByteArray),
 r = .string x ∧
 ∃ (x_1 : Int),
 lget r0_1 3 = some (.int .u8 x_1) ∧
 ∀ (b : Nat),
 h' b = none →
 xsStr (upd h' b (Obj.cells #[.int .u8 x_1] 5 (0, 0))) (some { block := b, off := 0 }) 1 fun (s : ByteArray) =>
 (↑(x.size + s.size) : Int) ≤ 9223372036854775807 ∧ gabionref12_Encode.L6 (x ++ s) 0 r0_1 (upd h' b (Obj.cells #[.int .u8 x_1] 5 (0, 0))) Q
def gabionref12_Encode.L6.wp (h0 : ByteArray) (i_5 : Int) (r0_1 : List Value) (h : Heap) (Q : Value → Heap → Prop) : Prop :=
 xsIf (decide (i_5 < 3))
 ((0 ≤ i_5 ∧ i_5 < (↑3 : Int)) ∧
 ∃ (x : Int),
 lget r0_1 (0 + i_5.toNat * 1) = some (.int .u32 x) ∧
 C Tryd.prog 40 #[.int .u64 (IntKind.u64.wrap x), .int .i64 4] h fun (r : Value) (h' : Heap) =>
 ∃ (x : ByteArray), r = .string x ∧ (↑(h0.size + x.size) : Int) ≤ 9223372036854775807 ∧ gabionref12_Encode.L6 (h0 ++ x) (IntKind.i64.wrap (i_5 + 1)) r0_1 h' Q)
 (((0 : Int) ≤ 7 ∧ (7 : Int) ≤ (↑h0.size : Int)) ∧
 C Tryd.prog 41 #[.string (sext h0 0 7), .int .u8 17] h fun (r : Value) (h' : Heap) =>
 ∃ (x : ByteArray),
 r = .string x ∧
 ((0 : Int) ≤ 14 ∧ (14 : Int) ≤ (↑h0.size : Int)) ∧
 ((0 : Int) ≤ 7 ∧ (7 : Int) ≤ 14) ∧
 C Tryd.prog 41 #[.string (sext h0 7 14), .int .u8 18] h' fun (r : Value) (h' : Heap) =>
 ∃ (x_1 : ByteArray),
 r = .string x_1 ∧
 ((0 : Int) ≤ 14 ∧ (14 : Int) ≤ (↑h0.size : Int)) ∧
 C Tryd.prog 41 #[.string (sext h0 14 (↑h0.size : Int)), .int .u8 19] h' fun (r : Value) (h' : Heap) =>
 ∃ (x_2 : ByteArray), r = .string x_2 ∧ (↑(x.size + x_1.size) : Int) ≤ 9223372036854775807 ∧ (↑((x ++ x_1).size + x_2.size) : Int) ≤ 9223372036854775807 ∧ gabionref12_Encode.L15 (x ++ x_1 ++ x_2) 0 r0_1 h' Q)
def gabionref12_Encode.L15.wp (s : ByteArray) (i_11 : Int) (r0_1 : List Value) (h : Heap) (Q : Value → Heap → Prop) : Prop :=
 ∃ (x : ByteArray),
 lget r0_1 4 = some (.string x) ∧
 xsIf (decide (i_11 < (↑x.size : Int)))
 (∃ (x : ByteArray),
 lget r0_1 4 = some (.string x) ∧
 xsIf (decide ((↑x.size : Int) < IntKind.i64.wrap (i_11 + 7))) (∃ (x : ByteArray), lget r0_1 4 = some (.string x) ∧ gabionref12_Encode.J20 s i_11 (↑x.size : Int) r0_1 h Q)
 (gabionref12_Encode.J20 s i_11 (IntKind.i64.wrap (i_11 + 7)) r0_1 h Q))
 (C Tryd.prog 42 #[.string s] h fun (r : Value) (h' : Heap) =>
 ∃ (x : Int),
 r = .int .u64 x ∧
 C Tryd.prog 40 #[.int .u64 x, .int .i64 4] h' fun (r : Value) (h' : Heap) =>
 ∃ (x : ByteArray),
 r = .string x ∧
 C Tryd.prog 41 #[.string x, .int .u8 48] h' fun (r : Value) (h' : Heap) =>
 ∃ (x : ByteArray), r = .string x ∧ (↑(s.size + x.size) : Int) ≤ 9223372036854775807 ∧ Q (.tuple #[.string (s ++ x), .int .i64 0]) h')
def gabionref12_Encode.J20.wp (s : ByteArray) (i_11 : Int) (to0 : Int) (r0_1 : List Value) (h : Heap) (Q : Value → Heap → Prop) : Prop :=
 ∃ (x : ByteArray),
 lget r0_1 4 = some (.string x) ∧
 (0 ≤ to0 ∧ to0 ≤ (↑x.size : Int)) ∧
 (0 ≤ i_11 ∧ i_11 ≤ to0) ∧
 C Tryd.prog 41 #[.string (sext x i_11 to0), .int .u8 32] h fun (r : Value) (h' : Heap) =>
 ∃ (x : ByteArray), r = .string x ∧ (↑(s.size + x.size) : Int) ≤ 9223372036854775807 ∧ gabionref12_Encode.L15 (s ++ x) (IntKind.i64.wrap (i_11 + 7)) r0_1 h' Q
theorem gabionref12_Encode.ok {r0_0 : Int} {r0_1 : Int} {r0_2 : Int} {r0_3 : Int} {r0_4 : ByteArray} {h : Heap} {Q : Value → Heap → Prop} (hk : gabionref12_Encode.wp r0_0 r0_1 r0_2 r0_3 r0_4 h Q) : C Tryd.prog 22 #[.agg #[.int .u32 r0_0, .int .u32 r0_1, .int .u32 r0_2, .int .u8 r0_3, .string r0_4]] h Q :=
 C_of_xs (H := gabionref12_Encode.H) (lcuts := gabionref12_Encode.lc) (rcuts := gabionref12_Encode.rc) (l := [.agg #[.int .u32 r0_0, .int .u32 r0_1, .int .u32 r0_2, .int .u8 r0_3, .string r0_4]]) 2000 mixed Tryd.func22 rfl (by kernel_rfl) (@cast (gabionref12_Encode.wp r0_0 r0_1 r0_2 r0_3 r0_4 h Q) _ (by kernel_rfl) hk)
theorem gabionref12_Encode.J3.ok {r0_1 : List Value} {h : Heap} {Q : Value → Heap → Prop} (hk : gabionref12_Encode.J3.wp r0_1 h Q) : gabionref12_Encode.J3 r0_1 h Q :=
 xs_ok (H := gabionref12_Encode.H) (lcuts := gabionref12_Encode.lc) (rcuts := [⟨20, [1, 10, 11, 12], [1]⟩]) (fn := Tryd.f22) mixed Tryd.func22 2000 _ _ _ (@cast (gabionref12_Encode.J3.wp r0_1 h Q) _ (by kernel_rfl) hk)
theorem gabionref12_Encode.L6.ok {h0 : ByteArray} {i_5 : Int} {r0_1 : List Value} {h : Heap} {Q : Value → Heap → Prop} (hk : gabionref12_Encode.L6.wp h0 i_5 r0_1 h Q) : gabionref12_Encode.L6 h0 i_5 r0_1 h Q :=
 xs_ok (H := gabionref12_Encode.H) (lcuts := gabionref12_Encode.lc) (rcuts := gabionref12_Encode.rc) (fn := Tryd.f22) mixed Tryd.func22 2000 _ _ _ (@cast (gabionref12_Encode.L6.wp h0 i_5 r0_1 h Q) _ (by kernel_rfl) hk)
theorem gabionref12_Encode.L15.ok {s : ByteArray} {i_11 : Int} {r0_1 : List Value} {h : Heap} {Q : Value → Heap → Prop} (hk : gabionref12_Encode.L15.wp s i_11 r0_1 h Q) : gabionref12_Encode.L15 s i_11 r0_1 h Q :=
 xs_ok (H := gabionref12_Encode.H) (lcuts := gabionref12_Encode.lc) (rcuts := gabionref12_Encode.rc) (fn := Tryd.f22) mixed Tryd.func22 2000 _ _ _ (@cast (gabionref12_Encode.L15.wp s i_11 r0_1 h Q) _ (by kernel_rfl) hk)
theorem gabionref12_Encode.J20.ok {s : ByteArray} {i_11 : Int} {to0 : Int} {r0_1 : List Value} {h : Heap} {Q : Value → Heap → Prop} (hk : gabionref12_Encode.J20.wp s i_11 to0 r0_1 h Q) : gabionref12_Encode.J20 s i_11 to0 r0_1 h Q :=
 xs_ok (H := gabionref12_Encode.H) (lcuts := gabionref12_Encode.lc) (rcuts := [⟨3, [1], [1]⟩]) (fn := Tryd.f22) mixed Tryd.func22 2000 _ _ _ (@cast (gabionref12_Encode.J20.wp s i_11 to0 r0_1 h Q) _ (by kernel_rfl) hk)

/-! gabion/rec.plain -/
def rec_plain.H : Hn := ⟨[3], [], [], []⟩
def rec_plain.lc : List Cut := [⟨2, [0, 3], []⟩]
def rec_plain.rc : List Cut := []
def rec_plain.L2 (s : ByteArray) (b : Nat) (h : Heap) (Q : Value → Heap → Prop) : Prop :=
 TW Tryd.prog 45 13 [.code (cAt (bodyOf Tryd.f45) [1, 1, 0, 0, 0]), .inLoop (cAt (bodyOf Tryd.f45) [1, 1, 0, 0, 0]), .inBlock 0, .code (cAt (bodyOf Tryd.f45) [1, 1, 1])] ⟨[(0, .v (.string s)), (3, .v (.pointer (some ⟨b, 0, none⟩)))], [], .plain⟩ h Q
def rec_plain.wp (s : ByteArray) (h : Heap) (Q : Value → Heap → Prop) : Prop :=
 ∀ (b : Nat), h b = none → rec_plain.L2 s b (upd h b (Obj.cells #[.pointer none, .slice none 0 0] 90 (0, 0))) Q
def rec_plain.L2.wp (s : ByteArray) (b : Nat) (h : Heap) (Q : Value → Heap → Prop) : Prop :=
 xsIf (decide (8 ≤ (↑s.size : Int)))
 (((0 : Int) ≤ 7 ∧ (7 : Int) ≤ (↑s.size : Int)) ∧
 C Tryd.prog 52 #[.pointer (some { block := b, off := 0 }), .string (sext s 0 7)] h fun (r : Value) (h' : Heap) =>
 ∃ (x : Int), ∃ (x_1 : Value), r = .tuple #[.int .i64 x, x_1] ∧ ((0 : Int) ≤ 8 ∧ (8 : Int) ≤ (↑s.size : Int)) ∧ rec_plain.L2 (sext s 8 (↑s.size : Int)) b h' Q)
 (C Tryd.prog 53 #[.pointer (some { block := b, off := 0 })] h fun (r : Value) (h' : Heap) => ∃ (x : ByteArray), r = .string x ∧ Q (.string x) h')
theorem rec_plain.ok {s : ByteArray} {h : Heap} {Q : Value → Heap → Prop} (hk : rec_plain.wp s h Q) : C Tryd.prog 45 #[.string s] h Q :=
 C_of_xs (H := rec_plain.H) (lcuts := rec_plain.lc) (rcuts := rec_plain.rc) (l := [.string s]) 2000 mixed Tryd.func45 rfl (by kernel_rfl) (@cast (rec_plain.wp s h Q) _ (by kernel_rfl) hk)
theorem rec_plain.L2.ok {s : ByteArray} {b : Nat} {h : Heap} {Q : Value → Heap → Prop} (hk : rec_plain.L2.wp s b h Q) : rec_plain.L2 s b h Q :=
 xs_ok (H := rec_plain.H) (lcuts := rec_plain.lc) (rcuts := rec_plain.rc) (fn := Tryd.f45) mixed Tryd.func45 2000 _ _ _ (@cast (rec_plain.L2.wp s b h Q) _ (by kernel_rfl) hk)

/-! gabion/le.Get -/
def le_Get.H : Hn := ⟨[], [], [], []⟩
def le_Get.lc : List Cut := [⟨3, [0, 3, 4], []⟩]
def le_Get.rc : List Cut := []
def le_Get.L3 (s : ByteArray) (n : Int) (i : Int) (h : Heap) (Q : Value → Heap → Prop) : Prop :=
 TW Tryd.prog 63 21 [.code (cAt (bodyOf Tryd.f63) [1, 1, 0, 1, 0, 0]), .inLoop (cAt (bodyOf Tryd.f63) [1, 1, 0, 1, 0, 0]), .inBlock 0, .code (cAt (bodyOf Tryd.f63) [1, 1, 1])] ⟨[(0, .v (.string s)), (3, .v (.int .u64 n)), (4, .v (.int .i64 i))], [], .plain⟩ h Q
def le_Get.wp (s : ByteArray) (h : Heap) (Q : Value → Heap → Prop) : Prop :=
 le_Get.L3 s 0 (IntKind.i64.wrap (imin (↑s.size : Int) 8 - 1)) h Q
def le_Get.L3.wp (s : ByteArray) (n : Int) (i : Int) (h : Heap) (Q : Value → Heap → Prop) : Prop :=
 xsIf (decide (0 ≤ i)) (∃ (c : UInt8), 0 ≤ i ∧ bget s i.toNat = some c ∧ le_Get.L3 s (ior .u64 (ishl .u64 n 8) (IntKind.u64.wrap (↑c.toNat : Int))) (IntKind.i64.wrap (i - 1)) h Q) (Q (.int .u64 n) h)
theorem le_Get.ok {s : ByteArray} {h : Heap} {Q : Value → Heap → Prop} (hk : le_Get.wp s h Q) : C Tryd.prog 63 #[.string s] h Q :=
 C_of_xs (H := le_Get.H) (lcuts := le_Get.lc) (rcuts := le_Get.rc) (l := [.string s]) 2000 mixed Tryd.func63 rfl (by kernel_rfl) (@cast (le_Get.wp s h Q) _ (by kernel_rfl) hk)
theorem le_Get.L3.ok {s : ByteArray} {n : Int} {i : Int} {h : Heap} {Q : Value → Heap → Prop} (hk : le_Get.L3.wp s n i h Q) : le_Get.L3 s n i h Q :=
 xs_ok (H := le_Get.H) (lcuts := le_Get.lc) (rcuts := le_Get.rc) (fn := Tryd.f63) mixed Tryd.func63 2000 _ _ _ (@cast (le_Get.L3.wp s n i h Q) _ (by kernel_rfl) hk)

/-! strings.trimRightByte -/
def strings_trimRightByte.H : Hn := ⟨[], [], [], []⟩
def strings_trimRightByte.lc : List Cut := [⟨1, [0, 1], []⟩]
def strings_trimRightByte.rc : List Cut := []
def strings_trimRightByte.L1 (s : ByteArray) (c : Int) (h : Heap) (Q : Value → Heap → Prop) : Prop :=
 TW Tryd.prog 77 23 [.code (cAt (bodyOf Tryd.f77) [1, 0, 0, 0]), .inLoop (cAt (bodyOf Tryd.f77) [1, 0, 0, 0]), .inBlock 0, .code (cAt (bodyOf Tryd.f77) [1, 1])] ⟨[(0, .v (.string s)), (1, .v (.int .u8 c))], [], .plain⟩ h Q
def strings_trimRightByte.wp (s : ByteArray) (c : Int) (h : Heap) (Q : Value → Heap → Prop) : Prop :=
 strings_trimRightByte.L1 s c h Q
def strings_trimRightByte.L1.wp (s : ByteArray) (c : Int) (h : Heap) (Q : Value → Heap → Prop) : Prop :=
 xsIf (decide (0 < (↑s.size : Int)))
 (∃ (c_1 : UInt8),
 0 ≤ IntKind.i64.wrap ((↑s.size : Int) - 1) ∧
 bget s (IntKind.i64.wrap ((↑s.size : Int) - 1)).toNat = some c_1 ∧
 xsIf (decide ((↑c_1.toNat : Int) = c)) ((0 ≤ IntKind.i64.wrap ((↑s.size : Int) - 1) ∧ IntKind.i64.wrap ((↑s.size : Int) - 1) ≤ (↑s.size : Int)) ∧ strings_trimRightByte.L1 (sext s 0 (IntKind.i64.wrap ((↑s.size : Int) - 1))) c h Q)
 (Q (.string s) h))
 (Q (.string s) h)
theorem strings_trimRightByte.ok {s : ByteArray} {c : Int} {h : Heap} {Q : Value → Heap → Prop} (hk : strings_trimRightByte.wp s c h Q) : C Tryd.prog 77 #[.string s, .int .u8 c] h Q :=
 C_of_xs (H := strings_trimRightByte.H) (lcuts := strings_trimRightByte.lc) (rcuts := strings_trimRightByte.rc) (l := [.string s, .int .u8 c]) 2000 mixed Tryd.func77 rfl (by kernel_rfl) (@cast (strings_trimRightByte.wp s c h Q) _ (by kernel_rfl) hk)
theorem strings_trimRightByte.L1.ok {s : ByteArray} {c : Int} {h : Heap} {Q : Value → Heap → Prop} (hk : strings_trimRightByte.L1.wp s c h Q) : strings_trimRightByte.L1 s c h Q :=
 xs_ok (H := strings_trimRightByte.H) (lcuts := strings_trimRightByte.lc) (rcuts := strings_trimRightByte.rc) (fn := Tryd.f77) mixed Tryd.func77 2000 _ _ _ (@cast (strings_trimRightByte.L1.wp s c h Q) _ (by kernel_rfl) hk)

/-! strings.trimLeftByte -/
def strings_trimLeftByte.H : Hn := ⟨[], [], [], []⟩
def strings_trimLeftByte.lc : List Cut := [⟨1, [0, 1], []⟩]
def strings_trimLeftByte.rc : List Cut := []
def strings_trimLeftByte.L1 (s : ByteArray) (c : Int) (h : Heap) (Q : Value → Heap → Prop) : Prop :=
 TW Tryd.prog 76 17 [.code (cAt (bodyOf Tryd.f76) [1, 0, 0, 0]), .inLoop (cAt (bodyOf Tryd.f76) [1, 0, 0, 0]), .inBlock 0, .code (cAt (bodyOf Tryd.f76) [1, 1])] ⟨[(0, .v (.string s)), (1, .v (.int .u8 c))], [], .plain⟩ h Q
def strings_trimLeftByte.wp (s : ByteArray) (c : Int) (h : Heap) (Q : Value → Heap → Prop) : Prop :=
 strings_trimLeftByte.L1 s c h Q
def strings_trimLeftByte.L1.wp (s : ByteArray) (c : Int) (h : Heap) (Q : Value → Heap → Prop) : Prop :=
 xsIf (decide (0 < (↑s.size : Int))) (∃ (c_1 : UInt8), (0 : Int) ≤ 0 ∧ bget s 0 = some c_1 ∧ xsIf (decide ((↑c_1.toNat : Int) = c)) (((0 : Int) ≤ 1 ∧ (1 : Int) ≤ (↑s.size : Int)) ∧ strings_trimLeftByte.L1 (sext s 1 (↑s.size : Int)) c h Q) (Q (.string s) h))
 (Q (.string s) h)
theorem strings_trimLeftByte.ok {s : ByteArray} {c : Int} {h : Heap} {Q : Value → Heap → Prop} (hk : strings_trimLeftByte.wp s c h Q) : C Tryd.prog 76 #[.string s, .int .u8 c] h Q :=
 C_of_xs (H := strings_trimLeftByte.H) (lcuts := strings_trimLeftByte.lc) (rcuts := strings_trimLeftByte.rc) (l := [.string s, .int .u8 c]) 2000 mixed Tryd.func76 rfl (by kernel_rfl) (@cast (strings_trimLeftByte.wp s c h Q) _ (by kernel_rfl) hk)
theorem strings_trimLeftByte.L1.ok {s : ByteArray} {c : Int} {h : Heap} {Q : Value → Heap → Prop} (hk : strings_trimLeftByte.L1.wp s c h Q) : strings_trimLeftByte.L1 s c h Q :=
 xs_ok (H := strings_trimLeftByte.H) (lcuts := strings_trimLeftByte.lc) (rcuts := strings_trimLeftByte.rc) (fn := Tryd.f76) mixed Tryd.func76 2000 _ _ _ (@cast (strings_trimLeftByte.L1.wp s c h Q) _ (by kernel_rfl) hk)

/-! strings.trimRightASCII -/
/-! strings.trimLeftASCII -/
/-! unicode/utf8.RuneStart -/
/-! unicode/utf8.DecodeLastRuneInString -/
/-! strings.ContainsRune -/
/-! strings.trimRightUnicode -/
/-! strings.trimLeftUnicode -/
/-! strings.Trim -/
def strings_Trim.H : Hn := ⟨[5], [], [⟨4, .q 0 (.q 1 (.q 2 (.q 4 (.q 5 (.q 3 (.q 6 (.q 7 (.nil)))))))), []⟩], []⟩
def strings_Trim.lc : List Cut := []
def strings_Trim.rc : List Cut := [⟨3, [0, 1], []⟩, ⟨5, [0, 1], []⟩]
def strings_Trim.J3 (s : ByteArray) (cutset : ByteArray) (h : Heap) (Q : Value → Heap → Prop) : Prop :=
 TW Tryd.prog 64 43 [.code (cAt (bodyOf Tryd.f64) [1, 1, 0, 0]), .code (cAt (bodyOf Tryd.f64) [1, 1, 0, 1]), .code (cAt (bodyOf Tryd.f64) [1, 1, 1])] ⟨[(0, .v (.string s)), (1, .v (.string cutset))], [], .plain⟩ h Q
def strings_Trim.J5 (s : ByteArray) (cutset : ByteArray) (h : Heap) (Q : Value → Heap → Prop) : Prop :=
 TW Tryd.prog 64 43 [.code (cAt (bodyOf Tryd.f64) [1, 1, 1, 0, 0]), .code (cAt (bodyOf Tryd.f64) [1, 1, 1, 0, 1]), .code (cAt (bodyOf Tryd.f64) [1, 1, 1, 1])] ⟨[(0, .v (.string s)), (1, .v (.string cutset))], [], .plain⟩ h Q
def strings_Trim.wp (s : ByteArray) (cutset : ByteArray) (h : Heap) (Q : Value → Heap → Prop) : Prop :=
 xsIf (decide (s = { data := #[] })) (Q (.string s) h) (xsIf (decide (cutset = { data := #[] })) (Q (.string s) h) (strings_Trim.J3 s cutset h Q))
def strings_Trim.J3.wp (s : ByteArray) (cutset : ByteArray) (h : Heap) (Q : Value → Heap → Prop) : Prop :=
 xsIf (decide ((↑cutset.size : Int) = 1))
 (∃ (c : UInt8),
 (0 : Int) ≤ 0 ∧
 bget cutset 0 = some c ∧
 xsIf (decide ((↑c.toNat : Int) < 128))
 (∃ (c : UInt8),
 (0 : Int) ≤ 0 ∧
 bget cutset 0 = some c ∧
 ∃ (c_1 : UInt8),
 (0 : Int) ≤ 0 ∧
 bget cutset 0 = some c_1 ∧
 C Tryd.prog 77 #[.string s, .int .u8 (↑c.toNat : Int)] h fun (r : Value) (h' : Heap) =>
 ∃ (x : ByteArray),
 r = .string x ∧ C Tryd.prog 76 #[.string x, .int .u8 (↑c_1.toNat : Int)] h' fun (r : Value) (h' : Heap) => ∃ (x : ByteArray), r = .string x ∧ Q (.string x) h')
 (strings_Trim.J5 s cutset h Q))
 (strings_Trim.J5 s cutset h Q)
theorem strings_Trim.ok {s : ByteArray} {cutset : ByteArray} {h : Heap} {Q : Value → Heap → Prop} (hk : strings_Trim.wp s cutset h Q) : C Tryd.prog 64 #[.string s, .string cutset] h Q :=
 C_of_xs (H := strings_Trim.H) (lcuts := strings_Trim.lc) (rcuts := strings_Trim.rc) (l := [.string s, .string cutset]) 2000 mixed Tryd.func64 rfl (by kernel_rfl) (@cast (strings_Trim.wp s cutset h Q) _ (by kernel_rfl) hk)
theorem strings_Trim.J3.ok {s : ByteArray} {cutset : ByteArray} {h : Heap} {Q : Value → Heap → Prop} (hk : strings_Trim.J3.wp s cutset h Q) : strings_Trim.J3 s cutset h Q :=
 xs_ok (H := strings_Trim.H) (lcuts := strings_Trim.lc) (rcuts := [⟨5, [0, 1], []⟩]) (fn := Tryd.f64) mixed Tryd.func64 2000 _ _ _ (@cast (strings_Trim.J3.wp s cutset h Q) _ (by kernel_rfl) hk)
/-! gabion/rec.number -/
def rec_number.H : Hn := ⟨[], [], [], []⟩
def rec_number.lc : List Cut := []
def rec_number.rc : List Cut := []
def rec_number.wp (head : ByteArray) (k0 : Int) (h : Heap) (Q : Value → Heap → Prop) : Prop :=
 (0 ≤ IntKind.i64.wrap (IntKind.i64.wrap (3 + IntKind.i64.wrap (k0 * 4)) + 4) ∧ IntKind.i64.wrap (IntKind.i64.wrap (3 + IntKind.i64.wrap (k0 * 4)) + 4) ≤ (↑head.size : Int)) ∧
 (0 ≤ IntKind.i64.wrap (3 + IntKind.i64.wrap (k0 * 4)) ∧ IntKind.i64.wrap (3 + IntKind.i64.wrap (k0 * 4)) ≤ IntKind.i64.wrap (IntKind.i64.wrap (3 + IntKind.i64.wrap (k0 * 4)) + 4)) ∧
 C Tryd.prog 63 #[.string (sext head (IntKind.i64.wrap (3 + IntKind.i64.wrap (k0 * 4))) (IntKind.i64.wrap (IntKind.i64.wrap (3 + IntKind.i64.wrap (k0 * 4)) + 4)))] h fun (r : Value) (h' : Heap) =>
 ∃ (x : Int), r = .int .u64 x ∧ Q (.int .u32 (IntKind.u32.wrap x)) h'
theorem rec_number.ok {head : ByteArray} {k0 : Int} {h : Heap} {Q : Value → Heap → Prop} (hk : rec_number.wp head k0 h Q) : C Tryd.prog 65 #[.string head, .int .i64 k0] h Q :=
 C_of_xs (H := rec_number.H) (lcuts := rec_number.lc) (rcuts := rec_number.rc) (l := [.string head, .int .i64 k0]) 2000 mixed Tryd.func65 rfl (by kernel_rfl) (@cast (rec_number.wp head k0 h Q) _ (by kernel_rfl) hk)

/-! gabion/rec.begins -/
def rec_begins.H : Hn := ⟨[], [], [⟨7, .q 0 (.q 2 (.q 3 (.q 1 (.q 4 (.q 5 (.q 6 (.q 7 (.q 8 (.q 9 (.q 10 (.q 11 (.q 12 (.nil))))))))))))), []⟩, ⟨8, .q 0 (.q 2 (.q 4 (.q 7 (.q 8 (.q 9 (.q 1 (.q 3 (.q 5 (.q 6 (.q 10 (.q 11 (.q 12 (.q 13 (.q 14 (.q 15 (.q 16 (.q 17 (.q 18 (.q 19 (.q 20 (.q 21 (.nil)))))))))))))))))))))), [2, 3]⟩], []⟩
def rec_begins.lc : List Cut := []
def rec_begins.rc : List Cut := []
def rec_begins.wp (s : ByteArray) (h : Heap) (Q : Value → Heap → Prop) : Prop :=
 xsIf (decide ((↑s.size : Int) < 24))
 (Q
 (.tuple
 #[.agg #[.int .u32 0, .int .u32 0, .int .u32 0], .agg #[.int .u8 0, .string { data := #[] }], .int .i64 0,
 .bool false])
 h)
 (((0 : Int) ≤ 24 ∧ (24 : Int) ≤ (↑s.size : Int)) ∧
 C Tryd.prog 45 #[.string (sext s 0 24)] h fun (r : Value) (h' : Heap) =>
 ∃ (x : ByteArray),
 r = .string x ∧
 ((0 : Int) ≤ 2 ∧ (2 : Int) ≤ (↑x.size : Int)) ∧
 C Tryd.prog 63 #[.string (sext x 0 2)] h' fun (r : Value) (h' : Heap) =>
 ∃ (x_1 : Int),
 r = .int .u64 x_1 ∧
 ∃ (c : UInt8),
 (0 : Int) ≤ 2 ∧
 bget x 2 = some c ∧
 ((0 : Int) ≤ 24 ∧ (24 : Int) ≤ (↑s.size : Int)) ∧
 C Tryd.prog 38 #[.string x, .int .u8 17, .int .u8 1] h' fun (r : Value) (h' : Heap) =>
 ∃ (x_2 : ByteArray),
 r = .string x_2 ∧
 xsIf (decide (x_2 = sext s 0 24))
 (((0 : Int) ≤ 15 ∧ (15 : Int) ≤ (↑x.size : Int)) ∧
 C Tryd.prog 64 #[.string (sext x 15 (↑x.size : Int)), .string { data := #[UInt8.ofNat 0] }] h' fun (r : Value) (h' : Heap) =>
 ∃ (x_3 : ByteArray),
 r = .string x_3 ∧
 C Tryd.prog 65 #[.string x, .int .i64 0] h' fun (r : Value) (h' : Heap) =>
 ∃ (x_4 : Int),
 r = .int .u32 x_4 ∧
 C Tryd.prog 65 #[.string x, .int .i64 1] h' fun (r : Value) (h' : Heap) =>
 ∃ (x_5 : Int),
 r = .int .u32 x_5 ∧
 C Tryd.prog 65 #[.string x, .int .i64 2] h' fun (r : Value) (h' : Heap) =>
 ∃ (x : Int),
 r = .int .u32 x ∧
 xsIf (decide (x_3 = { data := #[] }))
 (C Tryd.prog 24 #[.agg #[.int .u8 (↑c.toNat : Int), .string { data := #[] }]] h' fun (r : Value) (h' : Heap) =>
 ∃ (x_6 : Bool),
 r = .bool x_6 ∧
 xsIf x_6
 (Q
 (.tuple
 #[.agg #[.int .u32 x_4, .int .u32 x_5, .int .u32 x],
 .agg #[.int .u8 (↑c.toNat : Int), .string { data := #[] }], .int .i64 (IntKind.i64.wrap x_1),
 .bool (decide (IntKind.i64.wrap x_1 ≤ 1024))])
 h')
 (Q
 (.tuple
 #[.agg #[.int .u32 x_4, .int .u32 x_5, .int .u32 x],
 .agg #[.int .u8 (↑c.toNat : Int), .string { data := #[] }], .int .i64 (IntKind.i64.wrap x_1),
 .bool false])
 h'))
 (Q
 (.tuple
 #[.agg #[.int .u32 x_4, .int .u32 x_5, .int .u32 x],
 .agg #[.int .u8 (↑c.toNat : Int), .string { data := #[] }], .int .i64 (IntKind.i64.wrap x_1),
 .bool false])
 h'))
 (C Tryd.prog 65 #[.string x, .int .i64 0] h' fun (r : Value) (h' : Heap) =>
 ∃ (x_3 : Int),
 r = .int .u32 x_3 ∧
 C Tryd.prog 65 #[.string x, .int .i64 1] h' fun (r : Value) (h' : Heap) =>
 ∃ (x_4 : Int),
 r = .int .u32 x_4 ∧
 C Tryd.prog 65 #[.string x, .int .i64 2] h' fun (r : Value) (h' : Heap) =>
 ∃ (x : Int),
 r = .int .u32 x ∧
 Q
 (.tuple
 #[.agg #[.int .u32 x_3, .int .u32 x_4, .int .u32 x],
 .agg #[.int .u8 (↑c.toNat : Int), .string { data := #[] }], .int .i64 (IntKind.i64.wrap x_1), .bool false])
 h'))
theorem rec_begins.ok {s : ByteArray} {h : Heap} {Q : Value → Heap → Prop} (hk : rec_begins.wp s h Q) : C Tryd.prog 44 #[.string s] h Q :=
 C_of_xs (H := rec_begins.H) (lcuts := rec_begins.lc) (rcuts := rec_begins.rc) (l := [.string s]) 2000 mixed Tryd.func44 rfl (by kernel_rfl) (@cast (rec_begins.wp s h Q) _ (by kernel_rfl) hk)

/-! gabion/rec.words -/
def rec_words.H : Hn := ⟨[], [], [], []⟩
def rec_words.lc : List Cut := []
def rec_words.rc : List Cut := []
def rec_words.wp (n : Int) (h : Heap) (Q : Value → Heap → Prop) : Prop :=
 Q (.int .i64 (iquo .i64 (IntKind.i64.wrap (IntKind.i64.wrap (n + 7) - 1)) 7)) h
theorem rec_words.ok {n : Int} {h : Heap} {Q : Value → Heap → Prop} (hk : rec_words.wp n h Q) : C Tryd.prog 43 #[.int .i64 n] h Q :=
 C_of_xs (H := rec_words.H) (lcuts := rec_words.lc) (rcuts := rec_words.rc) (l := [.int .i64 n]) 2000 mixed Tryd.func43 rfl (by kernel_rfl) (@cast (rec_words.wp n h Q) _ (by kernel_rfl) hk)

/-! gabion/rec.Decode -/
def rec_Decode.H : Hn := ⟨[], [], [⟨9, .q 0 (.q 1 (.q 3 (.q 4 (.q 5 (.q 6 (.q 2 (.q 7 (.q 8 (.q 9 (.q 10 (.q 12 (.q 13 (.q 14 (.q 15 (.q 16 (.q 11 (.q 17 (.q 18 (.nil))))))))))))))))))), []⟩, ⟨11, .q 0 (.q 1 (.q 2 (.q 4 (.q 5 (.q 6 (.q 7 (.q 8 (.q 3 (.q 9 (.nil)))))))))), []⟩, ⟨13, .q 0 (.q 1 (.q 2 (.q 3 (.q 4 (.nil))))), [2, 3]⟩], []⟩
def rec_Decode.lc : List Cut := []
def rec_Decode.rc : List Cut := [⟨6, [0, 2, 3, 5, 6, 7, 9, 10], [2, 3, 5, 6]⟩, ⟨11, [0, 2, 3, 5, 6, 10], [2, 3, 5, 6]⟩]
def rec_Decode.J6 (s : ByteArray) (n : Int) (at0 : Int) (end0 : Int) (t2_0 : Int) (t2_1 : Int) (t2_2 : Int) (t3_0 : Int) (t3_1 : ByteArray) (stamp_0 : Int) (stamp_1 : Int) (stamp_2 : Int) (r0_0 : Int) (r0_1 : ByteArray) (h : Heap) (Q : Value → Heap → Prop) : Prop :=
 TW Tryd.prog 26 89 [.code (cAt (bodyOf Tryd.f26) [1, 1, 1, 1, 1, 0]), .code (cAt (bodyOf Tryd.f26) [1, 1, 1, 1, 1, 1])] ⟨[(0, .v (.string s)), (2, .p 2 0), (3, .p 3 0), (5, .p 5 0), (6, .p 6 0), (7, .v (.int .i64 n)), (9, .v (.int .i64 at0)), (10, .v (.int .i64 end0))], [(2, [.int .u32 t2_0, .int .u32 t2_1, .int .u32 t2_2]), (3, [.int .u8 t3_0, .string t3_1]), (5, [.int .u32 stamp_0, .int .u32 stamp_1, .int .u32 stamp_2]), (6, [.int .u8 r0_0, .string r0_1])], .plain⟩ h Q
def rec_Decode.J11 (s : ByteArray) (end0 : Int) (t2_0 : Int) (t2_1 : Int) (t2_2 : Int) (t3_0 : Int) (t3_1 : ByteArray) (stamp_0 : Int) (stamp_1 : Int) (stamp_2 : Int) (r0_0 : Int) (r0_1 : ByteArray) (h : Heap) (Q : Value → Heap → Prop) : Prop :=
 TW Tryd.prog 26 89 [.code (cAt (bodyOf Tryd.f26) [1, 1, 1, 1, 1, 1, 1, 1, 1, 0, 0]), .code (cAt (bodyOf Tryd.f26) [1, 1, 1, 1, 1, 1, 1, 1, 1, 0, 1]), .code (cAt (bodyOf Tryd.f26) [1, 1, 1, 1, 1, 1, 1, 1, 1, 1])] ⟨[(0, .v (.string s)), (2, .p 2 0), (3, .p 3 0), (5, .p 5 0), (6, .p 6 0), (10, .v (.int .i64 end0))], [(2, [.int .u32 t2_0, .int .u32 t2_1, .int .u32 t2_2]), (3, [.int .u8 t3_0, .string t3_1]), (5, [.int .u32 stamp_0, .int .u32 stamp_1, .int .u32 stamp_2]), (6, [.int .u8 r0_0, .string r0_1])], .plain⟩ h Q
def rec_Decode.wp (s : ByteArray) (h : Heap) (Q : Value → Heap → Prop) : Prop :=
 C Tryd.prog 44 #[.string s] h fun (r : Value) (h' : Heap) =>
 ∃ (x : Int),
 ∃ (x_1 : Int),
 ∃ (x_2 : Int),
 ∃ (x_3 : Int),
 ∃ (x_4 : ByteArray),
 ∃ (x_5 : Int),
 ∃ (x_6 : Bool),
 r =
 .tuple
 #[.agg #[.int .u32 x, .int .u32 x_1, .int .u32 x_2], .agg #[.int .u8 x_3, .string x_4], .int .i64 x_5,
 .bool x_6] ∧
 C Tryd.prog 43 #[.int .i64 x_5] h' fun (r : Value) (h' : Heap) =>
 ∃ (x_7 : Int),
 r = .int .i64 x_7 ∧
 xsIf (!x_6)
 (Q
 (.tuple
 #[.agg #[.int .u32 0, .int .u32 0, .int .u32 0], .agg #[.int .u8 0, .string { data := #[] }],
 .int .i64 4])
 h')
 (xsIf (decide ((↑s.size : Int) < IntKind.i64.wrap (IntKind.i64.wrap (24 + IntKind.i64.wrap (8 * x_7)) + 8)))
 (Q
 (.tuple
 #[.agg #[.int .u32 0, .int .u32 0, .int .u32 0], .agg #[.int .u8 0, .string { data := #[] }],
 .int .i64 4])
 h')
 (rec_Decode.J6 s x_5 24 (IntKind.i64.wrap (24 + IntKind.i64.wrap (8 * x_7))) 0 0 0 0 { data := #[] } x x_1 x_2 x_3 x_4 h' Q))
def rec_Decode.J6.wp (s : ByteArray) (n : Int) (at0 : Int) (end0 : Int) (t2_0 : Int) (t2_1 : Int) (t2_2 : Int) (t3_0 : Int) (t3_1 : ByteArray) (stamp_0 : Int) (stamp_1 : Int) (stamp_2 : Int) (r0_0 : Int) (r0_1 : ByteArray) (h : Heap) (Q : Value → Heap → Prop) : Prop :=
 (0 ≤ end0 ∧ end0 ≤ (↑s.size : Int)) ∧
 (0 ≤ at0 ∧ at0 ≤ end0) ∧
 C Tryd.prog 45 #[.string (sext s at0 end0)] h fun (r : Value) (h' : Heap) =>
 ∃ (x : ByteArray),
 r = .string x ∧
 (0 ≤ imin n (↑x.size : Int) ∧ imin n (↑x.size : Int) ≤ (↑x.size : Int)) ∧
 (0 ≤ IntKind.i64.wrap (end0 + 8) ∧ IntKind.i64.wrap (end0 + 8) ≤ (↑s.size : Int)) ∧
 (0 ≤ end0 ∧ end0 ≤ IntKind.i64.wrap (end0 + 8)) ∧
 C Tryd.prog 45 #[.string (sext s end0 (IntKind.i64.wrap (end0 + 8)))] h' fun (r : Value) (h' : Heap) =>
 ∃ (x_1 : ByteArray),
 r = .string x_1 ∧
 (0 ≤ end0 ∧ end0 ≤ (↑s.size : Int)) ∧
 (0 ≤ at0 ∧ at0 ≤ end0) ∧
 C Tryd.prog 38 #[.string (sext x 0 (imin n (↑x.size : Int))), .int .u8 32, .int .u8 0] h' fun (r : Value) (h' : Heap) =>
 ∃ (x_2 : ByteArray),
 r = .string x_2 ∧
 xsIf (decide (x_2 ≠ sext s at0 end0))
 (Q
 (.tuple
 #[.agg #[.int .u32 0, .int .u32 0, .int .u32 0], .agg #[.int .u8 0, .string { data := #[] }],
 .int .i64 4])
 h')
 (((0 : Int) ≤ 4 ∧ (4 : Int) ≤ (↑x_1.size : Int)) ∧
 (0 ≤ IntKind.i64.wrap (end0 + 8) ∧ IntKind.i64.wrap (end0 + 8) ≤ (↑s.size : Int)) ∧
 (0 ≤ end0 ∧ end0 ≤ IntKind.i64.wrap (end0 + 8)) ∧
 C Tryd.prog 38 #[.string (sext x_1 0 4), .int .u8 48, .int .u8 0] h' fun (r : Value) (h' : Heap) =>
 ∃ (x_3 : ByteArray),
 r = .string x_3 ∧
 xsIf (decide (x_3 ≠ sext s end0 (IntKind.i64.wrap (end0 + 8))))
 (Q
 (.tuple
 #[.agg #[.int .u32 0, .int .u32 0, .int .u32 0],
 .agg #[.int .u8 0, .string { data := #[] }], .int .i64 4])
 h')
 (rec_Decode.J11 s end0 t2_0 t2_1 t2_2 t3_0 t3_1 stamp_0 stamp_1 stamp_2 r0_0 (sext x 0 (imin n (↑x.size : Int))) h' Q))
def rec_Decode.J11.wp (s : ByteArray) (end0 : Int) (t2_0 : Int) (t2_1 : Int) (t2_2 : Int) (t3_0 : Int) (t3_1 : ByteArray) (stamp_0 : Int) (stamp_1 : Int) (stamp_2 : Int) (r0_0 : Int) (r0_1 : ByteArray) (h : Heap) (Q : Value → Heap → Prop) : Prop :=
 (0 ≤ end0 ∧ end0 ≤ (↑s.size : Int)) ∧
 (0 ≤ IntKind.i64.wrap (end0 + 8) ∧ IntKind.i64.wrap (end0 + 8) ≤ (↑s.size : Int)) ∧
 (0 ≤ end0 ∧ end0 ≤ IntKind.i64.wrap (end0 + 8)) ∧
 C Tryd.prog 39 #[.string (sext s 0 end0)] h fun (r : Value) (h' : Heap) =>
 ∃ (x : ByteArray),
 r = .string x ∧
 xsIf (decide (x ≠ sext s end0 (IntKind.i64.wrap (end0 + 8))))
 (Q
 (.tuple
 #[.agg #[.int .u32 0, .int .u32 0, .int .u32 0], .agg #[.int .u8 0, .string { data := #[] }],
 .int .i64 5])
 h')
 (Q
 (.tuple
 #[.agg #[.int .u32 stamp_0, .int .u32 stamp_1, .int .u32 stamp_2], .agg #[.int .u8 r0_0, .string r0_1],
 .int .i64 0])
 h')
theorem rec_Decode.ok {s : ByteArray} {h : Heap} {Q : Value → Heap → Prop} (hk : rec_Decode.wp s h Q) : C Tryd.prog 26 #[.string s] h Q :=
 C_of_xs (H := rec_Decode.H) (lcuts := rec_Decode.lc) (rcuts := rec_Decode.rc) (l := [.string s]) 2000 mixed Tryd.func26 rfl (by kernel_rfl) (@cast (rec_Decode.wp s h Q) _ (by kernel_rfl) hk)
theorem rec_Decode.J6.ok {s : ByteArray} {n : Int} {at0 : Int} {end0 : Int} {t2_0 : Int} {t2_1 : Int} {t2_2 : Int} {t3_0 : Int} {t3_1 : ByteArray} {stamp_0 : Int} {stamp_1 : Int} {stamp_2 : Int} {r0_0 : Int} {r0_1 : ByteArray} {h : Heap} {Q : Value → Heap → Prop} (hk : rec_Decode.J6.wp s n at0 end0 t2_0 t2_1 t2_2 t3_0 t3_1 stamp_0 stamp_1 stamp_2 r0_0 r0_1 h Q) : rec_Decode.J6 s n at0 end0 t2_0 t2_1 t2_2 t3_0 t3_1 stamp_0 stamp_1 stamp_2 r0_0 r0_1 h Q :=
 xs_ok (H := rec_Decode.H) (lcuts := rec_Decode.lc) (rcuts := [⟨11, [0, 2, 3, 5, 6, 10], [2, 3, 5, 6]⟩]) (fn := Tryd.f26) mixed Tryd.func26 2000 _ _ _ (@cast (rec_Decode.J6.wp s n at0 end0 t2_0 t2_1 t2_2 t3_0 t3_1 stamp_0 stamp_1 stamp_2 r0_0 r0_1 h Q) _ (by kernel_rfl) hk)
theorem rec_Decode.J11.ok {s : ByteArray} {end0 : Int} {t2_0 : Int} {t2_1 : Int} {t2_2 : Int} {t3_0 : Int} {t3_1 : ByteArray} {stamp_0 : Int} {stamp_1 : Int} {stamp_2 : Int} {r0_0 : Int} {r0_1 : ByteArray} {h : Heap} {Q : Value → Heap → Prop} (hk : rec_Decode.J11.wp s end0 t2_0 t2_1 t2_2 t3_0 t3_1 stamp_0 stamp_1 stamp_2 r0_0 r0_1 h Q) : rec_Decode.J11 s end0 t2_0 t2_1 t2_2 t3_0 t3_1 stamp_0 stamp_1 stamp_2 r0_0 r0_1 h Q :=
 xs_ok (H := rec_Decode.H) (lcuts := rec_Decode.lc) (rcuts := [⟨6, [0, 2, 3, 5, 6, 7, 9, 10], [2, 3, 5, 6]⟩]) (fn := Tryd.f26) mixed Tryd.func26 2000 _ _ _ (@cast (rec_Decode.J11.wp s end0 t2_0 t2_1 t2_2 t3_0 t3_1 stamp_0 stamp_1 stamp_2 r0_0 r0_1 h Q) _ (by kernel_rfl) hk)

/-! (gabion/rec.Record).Size -/
def rec_Record_Size.H : Hn := ⟨[], [], [], []⟩
def rec_Record_Size.lc : List Cut := []
def rec_Record_Size.rc : List Cut := []
def rec_Record_Size.wp (r0_0 : Int) (r0_1 : ByteArray) (h : Heap) (Q : Value → Heap → Prop) : Prop :=
 C Tryd.prog 24 #[.agg #[.int .u8 r0_0, .string r0_1]] h fun (r : Value) (h' : Heap) =>
 ∃ (x : Bool),
 r = .bool x ∧
 xsIf (!x) (Q (.int .i64 0) h')
 (C Tryd.prog 43 #[.int .i64 (↑r0_1.size : Int)] h' fun (r : Value) (h' : Heap) =>
 ∃ (x : Int), r = .int .i64 x ∧ Q (.int .i64 (IntKind.i64.wrap (8 * IntKind.i64.wrap (IntKind.i64.wrap (3 + x) + 1)))) h')
theorem rec_Record_Size.ok {r0_0 : Int} {r0_1 : ByteArray} {h : Heap} {Q : Value → Heap → Prop} (hk : rec_Record_Size.wp r0_0 r0_1 h Q) : C Tryd.prog 25 #[.agg #[.int .u8 r0_0, .string r0_1]] h Q :=
 C_of_xs (H := rec_Record_Size.H) (lcuts := rec_Record_Size.lc) (rcuts := rec_Record_Size.rc) (l := [.agg #[.int .u8 r0_0, .string r0_1]]) 2000 mixed Tryd.func25 rfl (by kernel_rfl) (@cast (rec_Record_Size.wp r0_0 r0_1 h Q) _ (by kernel_rfl) hk)

/-! (gabion/rec.Stamp).Follows -/
def rec_Stamp_Follows.H : Hn := ⟨[], [], [], []⟩
def rec_Stamp_Follows.lc : List Cut := []
def rec_Stamp_Follows.rc : List Cut := []
def rec_Stamp_Follows.wp (s_0 : Int) (s_1 : Int) (s_2 : Int) (o_0 : Int) (o_1 : Int) (o_2 : Int) (h : Heap) (Q : Value → Heap → Prop) : Prop :=
 xsIf (decide (s_0 = o_0)) (xsIf (decide (o_1 ≤ s_1)) (xsIf (decide (o_2 ≠ 4294967295)) (Q (.bool (decide (s_2 = IntKind.u32.wrap (o_2 + 1)))) h) (Q (.bool false) h)) (Q (.bool false) h)) (Q (.bool false) h)
theorem rec_Stamp_Follows.ok {s_0 : Int} {s_1 : Int} {s_2 : Int} {o_0 : Int} {o_1 : Int} {o_2 : Int} {h : Heap} {Q : Value → Heap → Prop} (hk : rec_Stamp_Follows.wp s_0 s_1 s_2 o_0 o_1 o_2 h Q) : C Tryd.prog 28 #[.agg #[.int .u32 s_0, .int .u32 s_1, .int .u32 s_2], .agg #[.int .u32 o_0, .int .u32 o_1, .int .u32 o_2]] h Q :=
 C_of_xs (H := rec_Stamp_Follows.H) (lcuts := rec_Stamp_Follows.lc) (rcuts := rec_Stamp_Follows.rc) (l := [.agg #[.int .u32 s_0, .int .u32 s_1, .int .u32 s_2], .agg #[.int .u32 o_0, .int .u32 o_1, .int .u32 o_2]]) 2000 mixed Tryd.func28 rfl (by kernel_rfl) (@cast (rec_Stamp_Follows.wp s_0 s_1 s_2 o_0 o_1 o_2 h Q) _ (by kernel_rfl) hk)

/-! gabion/gabionlaw12.wakes -/
def gabionlaw12_wakes.H : Hn := ⟨[], [], [], []⟩
def gabionlaw12_wakes.lc : List Cut := []
def gabionlaw12_wakes.rc : List Cut := []
def gabionlaw12_wakes.wp  (h : Heap) (Q : Value → Heap → Prop) : Prop :=
 C Tryd.prog 20 #[.agg #[.int .u32 1, .int .u32 0, .int .u32 2], .agg #[.int .u8 5, .string { data := #[] }]] h
 fun (r : Value) (h' : Heap) =>
 ∃ (x : ByteArray),
 ∃ (x_1 : Int),
 r = .tuple #[.string x, .int .i64 x_1] ∧
 (↑(x.size + 4) : Int) ≤ 9223372036854775807 ∧
 C Tryd.prog 26 #[.string (x ++ { data := #[UInt8.ofNat 109, UInt8.ofNat 111, UInt8.ofNat 114, UInt8.ofNat 101] })] h' fun (r : Value) (h' : Heap) =>
 ∃ (x_2 : Int),
 ∃ (x_3 : Int),
 ∃ (x_4 : Int),
 ∃ (x_5 : Int),
 ∃ (x_6 : ByteArray),
 ∃ (x_7 : Int),
 r =
 .tuple
 #[.agg #[.int .u32 x_2, .int .u32 x_3, .int .u32 x_4], .agg #[.int .u8 x_5, .string x_6],
 .int .i64 x_7] ∧
 xsIf (decide (x_1 = 0))
 (xsIf (decide ((↑x.size : Int) = 32))
 (C Tryd.prog 25 #[.agg #[.int .u8 5, .string { data := #[] }]] h' fun (r : Value) (h' : Heap) =>
 ∃ (x : Int),
 r = .int .i64 x ∧
 xsIf (decide (x = 32))
 (xsIf (decide (x_7 = 0))
 (xsIf (decide (x_5 = 5) && (decide (x_6 = { data := #[] }) && true))
 (xsIf (decide (x_2 = 1) && (decide (x_3 = 0) && (decide (x_4 = 2) && true)))
 (C Tryd.prog 28
 #[.agg #[.int .u32 1, .int .u32 0, .int .u32 3],
 .agg #[.int .u32 x_2, .int .u32 x_3, .int .u32 x_4]]
 h' fun (r : Value) (h' : Heap) => ∃ (x : Bool), r = .bool x ∧ Q (.bool x) h')
 (Q (.bool false) h'))
 (Q (.bool false) h'))
 (Q (.bool false) h'))
 (Q (.bool false) h'))
 (Q (.bool false) h'))
 (Q (.bool false) h')
theorem gabionlaw12_wakes.ok {h : Heap} {Q : Value → Heap → Prop} (hk : gabionlaw12_wakes.wp h Q) : C Tryd.prog 23 #[] h Q :=
 C_of_xs (H := gabionlaw12_wakes.H) (lcuts := gabionlaw12_wakes.lc) (rcuts := gabionlaw12_wakes.rc) (l := []) 2000 mixed Tryd.func23 rfl (by kernel_rfl) (@cast (gabionlaw12_wakes.wp h Q) _ (by kernel_rfl) hk)

/-! gabion/gabionref12.Size -/
def gabionref12_Size.H : Hn := ⟨[], [], [], []⟩
def gabionref12_Size.lc : List Cut := []
def gabionref12_Size.rc : List Cut := []
def gabionref12_Size.wp (n : Int) (h : Heap) (Q : Value → Heap → Prop) : Prop :=
 Q (.int .i64 (IntKind.i64.wrap (IntKind.i64.wrap (8 * iquo .i64 (IntKind.i64.wrap (n + 6)) 7) + 32))) h
theorem gabionref12_Size.ok {n : Int} {h : Heap} {Q : Value → Heap → Prop} (hk : gabionref12_Size.wp n h Q) : C Tryd.prog 46 #[.int .i64 n] h Q :=
 C_of_xs (H := gabionref12_Size.H) (lcuts := gabionref12_Size.lc) (rcuts := gabionref12_Size.rc) (l := [.int .i64 n]) 2000 mixed Tryd.func46 rfl (by kernel_rfl) (@cast (gabionref12_Size.wp n h Q) _ (by kernel_rfl) hk)

/-! gabion/gabionref01.Get -/
def gabionref01_Get.H : Hn := ⟨[], [], [], []⟩
def gabionref01_Get.lc : List Cut := [⟨4, [0, 3, 4, 5], []⟩]
def gabionref01_Get.rc : List Cut := [⟨6, [0, 3, 4, 5], []⟩]
def gabionref01_Get.L4 (s : ByteArray) (n : Int) (m : Int) (i : Int) (h : Heap) (Q : Value → Heap → Prop) : Prop :=
 TW Tryd.prog 47 27 [.code (cAt (bodyOf Tryd.f47) [1, 1, 1, 0, 1, 0, 0]), .inLoop (cAt (bodyOf Tryd.f47) [1, 1, 1, 0, 1, 0, 0]), .inBlock 0, .code (cAt (bodyOf Tryd.f47) [1, 1, 1, 1])] ⟨[(0, .v (.string s)), (3, .v (.int .u64 n)), (4, .v (.int .u64 m)), (5, .v (.int .i64 i))], [], .plain⟩ h Q
def gabionref01_Get.J6 (s : ByteArray) (n : Int) (m : Int) (i : Int) (h : Heap) (Q : Value → Heap → Prop) : Prop :=
 TW Tryd.prog 47 27 [.code (cAt (bodyOf Tryd.f47) [1, 1, 1, 0, 1, 0, 0, 1, 0, 0, 0]), .code (cAt (bodyOf Tryd.f47) [1, 1, 1, 0, 1, 0, 0, 1, 0, 0, 1]), .inBlock 1, .code (cAt (bodyOf Tryd.f47) [1, 1, 1, 0, 1, 0, 0, 1, 1]), .inLoop (cAt (bodyOf Tryd.f47) [1, 1, 1, 0, 1, 0, 0]), .inBlock 0, .code (cAt (bodyOf Tryd.f47) [1, 1, 1, 1])] ⟨[(0, .v (.string s)), (3, .v (.int .u64 n)), (4, .v (.int .u64 m)), (5, .v (.int .i64 i))], [], .plain⟩ h Q
def gabionref01_Get.wp (s : ByteArray) (h : Heap) (Q : Value → Heap → Prop) : Prop :=
 gabionref01_Get.L4 s 0 1 0 h Q
def gabionref01_Get.L4.wp (s : ByteArray) (n : Int) (m : Int) (i : Int) (h : Heap) (Q : Value → Heap → Prop) : Prop :=
 xsIf (decide (i < (↑s.size : Int))) (xsIf (decide (i < 8)) (gabionref01_Get.J6 s n m i h Q) (Q (.int .u64 n) h)) (Q (.int .u64 n) h)
def gabionref01_Get.J6.wp (s : ByteArray) (n : Int) (m : Int) (i : Int) (h : Heap) (Q : Value → Heap → Prop) : Prop :=
 ∃ (c : UInt8), 0 ≤ i ∧ bget s i.toNat = some c ∧ gabionref01_Get.L4 s (IntKind.u64.wrap (n + IntKind.u64.wrap (m * IntKind.u64.wrap (↑c.toNat : Int)))) (IntKind.u64.wrap (m * 256)) (IntKind.i64.wrap (i + 1)) h Q
theorem gabionref01_Get.ok {s : ByteArray} {h : Heap} {Q : Value → Heap → Prop} (hk : gabionref01_Get.wp s h Q) : C Tryd.prog 47 #[.string s] h Q :=
 C_of_xs (H := gabionref01_Get.H) (lcuts := gabionref01_Get.lc) (rcuts := gabionref01_Get.rc) (l := [.string s]) 2000 mixed Tryd.func47 rfl (by kernel_rfl) (@cast (gabionref01_Get.wp s h Q) _ (by kernel_rfl) hk)
theorem gabionref01_Get.L4.ok {s : ByteArray} {n : Int} {m : Int} {i : Int} {h : Heap} {Q : Value → Heap → Prop} (hk : gabionref01_Get.L4.wp s n m i h Q) : gabionref01_Get.L4 s n m i h Q :=
 xs_ok (H := gabionref01_Get.H) (lcuts := gabionref01_Get.lc) (rcuts := gabionref01_Get.rc) (fn := Tryd.f47) mixed Tryd.func47 2000 _ _ _ (@cast (gabionref01_Get.L4.wp s n m i h Q) _ (by kernel_rfl) hk)
theorem gabionref01_Get.J6.ok {s : ByteArray} {n : Int} {m : Int} {i : Int} {h : Heap} {Q : Value → Heap → Prop} (hk : gabionref01_Get.J6.wp s n m i h Q) : gabionref01_Get.J6 s n m i h Q :=
 xs_ok (H := gabionref01_Get.H) (lcuts := gabionref01_Get.lc) (rcuts := []) (fn := Tryd.f47) mixed Tryd.func47 2000 _ _ _ (@cast (gabionref01_Get.J6.wp s n m i h Q) _ (by kernel_rfl) hk)

/-! gabion/gabionref12.Decode -/
def gabionref12_Decode.H : Hn := ⟨[], [8], [⟨4, .q 0 (.q 1 (.q 2 (.q 3 (.q 4 (.q 5 (.q 6 (.q 7 (.q 8 (.nil))))))))), []⟩, ⟨5, .q 0 (.q 1 (.q 2 (.q 3 (.q 4 (.q 5 (.q 6 (.q 7 (.q 8 (.nil))))))))), []⟩, ⟨21, .q 0 (.q 2 (.q 3 (.q 4 (.q 5 (.q 6 (.q 1 (.q 7 (.q 8 (.q 9 (.nil)))))))))), [8]⟩, ⟨25, .q 0 (.q 1 (.q 2 (.q 3 (.q 4 (.q 5 (.q 6 (.q 7 (.q 8 (.q 9 (.q 10 (.q 11 (.q 12 (.q 13 (.q 14 (.q 15 (.q 16 (.q 17 (.q 18 (.q 19 (.q 20 (.nil))))))))))))))))))))), []⟩], []⟩
def gabionref12_Decode.lc : List Cut := [⟨13, [0, 2, 4, 5, 6, 7, 8, 9], [2, 4, 8]⟩, ⟨18, [0, 2, 4, 6, 7, 8, 11], [2, 4, 8]⟩]
def gabionref12_Decode.rc : List Cut := []
def gabionref12_Decode.L13 (s : ByteArray) (h0 : ByteArray) (n : Int) (size : Int) (i_9 : Int) (t2_0 : Int) (t2_1 : Int) (t2_2 : Int) (t2_3 : Int) (t2_4 : ByteArray) (none_0 : Int) (none_1 : Int) (none_2 : Int) (none_3 : Int) (none_4 : ByteArray) (r0 : List Value) (h : Heap) (Q : Value → Heap → Prop) : Prop :=
 TW Tryd.prog 27 125 [.code (cAt (bodyOf Tryd.f27) [1, 1, 1, 1, 1, 1, 1, 1, 1, 0, 1, 0, 0]), .inLoop (cAt (bodyOf Tryd.f27) [1, 1, 1, 1, 1, 1, 1, 1, 1, 0, 1, 0, 0]), .inBlock 0, .code (cAt (bodyOf Tryd.f27) [1, 1, 1, 1, 1, 1, 1, 1, 1, 1])] ⟨[(0, .v (.string s)), (2, .p 2 0), (4, .p 4 0), (5, .v (.string h0)), (6, .v (.int .i64 n)), (7, .v (.int .i64 size)), (8, .p 8 0), (9, .v (.int .i64 i_9))], [(2, [.int .u32 t2_0, .int .u32 t2_1, .int .u32 t2_2, .int .u8 t2_3, .string t2_4]), (4, [.int .u32 none_0, .int .u32 none_1, .int .u32 none_2, .int .u8 none_3, .string none_4]), (8, r0)], .plain⟩ h Q
def gabionref12_Decode.L18 (s : ByteArray) (n : Int) (size : Int) (i_11 : Int) (t2_0 : Int) (t2_1 : Int) (t2_2 : Int) (t2_3 : Int) (t2_4 : ByteArray) (none_0 : Int) (none_1 : Int) (none_2 : Int) (none_3 : Int) (none_4 : ByteArray) (r0 : List Value) (h : Heap) (Q : Value → Heap → Prop) : Prop :=
 TW Tryd.prog 27 125 [.code (cAt (bodyOf Tryd.f27) [1, 1, 1, 1, 1, 1, 1, 1, 1, 1, 0, 1, 0, 0]), .inLoop (cAt (bodyOf Tryd.f27) [1, 1, 1, 1, 1, 1, 1, 1, 1, 1, 0, 1, 0, 0]), .inBlock 2, .code (cAt (bodyOf Tryd.f27) [1, 1, 1, 1, 1, 1, 1, 1, 1, 1, 1])] ⟨[(0, .v (.string s)), (2, .p 2 0), (4, .p 4 0), (6, .v (.int .i64 n)), (7, .v (.int .i64 size)), (8, .p 8 0), (11, .v (.int .i64 i_11))], [(2, [.int .u32 t2_0, .int .u32 t2_1, .int .u32 t2_2, .int .u8 t2_3, .string t2_4]), (4, [.int .u32 none_0, .int .u32 none_1, .int .u32 none_2, .int .u8 none_3, .string none_4]), (8, r0)], .plain⟩ h Q
def gabionref12_Decode.wp (s : ByteArray) (h : Heap) (Q : Value → Heap → Prop) : Prop :=
 xsIf (decide ((↑s.size : Int) < 24))
 (Q (.tuple #[.agg #[.int .u32 0, .int .u32 0, .int .u32 0, .int .u8 0, .string { data := #[] }], .int .i64 4]) h)
 (((0 : Int) ≤ 7 ∧ (7 : Int) ≤ (↑s.size : Int)) ∧
 ((0 : Int) ≤ 15 ∧ (15 : Int) ≤ (↑s.size : Int)) ∧
 ((0 : Int) ≤ 8 ∧ (8 : Int) ≤ 15) ∧
 (↑((sext s 0 7).size + (sext s 8 15).size) : Int) ≤ 9223372036854775807 ∧
 ((0 : Int) ≤ 23 ∧ (23 : Int) ≤ (↑s.size : Int)) ∧
 ((0 : Int) ≤ 16 ∧ (16 : Int) ≤ 23) ∧
 (↑((sext s 0 7 ++ sext s 8 15).size + (sext s 16 23).size) : Int) ≤ 9223372036854775807 ∧
 ∃ (c : UInt8),
 (0 : Int) ≤ 0 ∧
 bget (sext s 0 7 ++ sext s 8 15 ++ sext s 16 23) 0 = some c ∧
 ∃ (c_1 : UInt8),
 (0 : Int) ≤ 1 ∧
 bget (sext s 0 7 ++ sext s 8 15 ++ sext s 16 23) 1 = some c_1 ∧
 xsIf (decide (1024 < IntKind.i64.wrap (IntKind.i64.wrap (↑c.toNat : Int) + IntKind.i64.wrap (256 * IntKind.i64.wrap (↑c_1.toNat : Int)))))
 (Q
 (.tuple
 #[.agg #[.int .u32 0, .int .u32 0, .int .u32 0, .int .u8 0, .string { data := #[] }], .int .i64 4])
 h)
 (C Tryd.prog 46 #[.int .i64 (IntKind.i64.wrap (IntKind.i64.wrap (↑c.toNat : Int) + IntKind.i64.wrap (256 * IntKind.i64.wrap (↑c_1.toNat : Int))))] h fun (r : Value) (h' : Heap) =>
 ∃ (x : Int),
 r = .int .i64 x ∧
 xsIf (decide ((↑s.size : Int) < x))
 (Q
 (.tuple
 #[.agg #[.int .u32 0, .int .u32 0, .int .u32 0, .int .u8 0, .string { data := #[] }],
 .int .i64 4])
 h')
 (∃ (c_2 : UInt8),
 (0 : Int) ≤ 2 ∧
 bget (sext s 0 7 ++ sext s 8 15 ++ sext s 16 23) 2 = some c_2 ∧
 5 ≤ 5 ∧
 gabionref12_Decode.L13 s (sext s 0 7 ++ sext s 8 15 ++ sext s 16 23) (IntKind.i64.wrap (IntKind.i64.wrap (↑c.toNat : Int) + IntKind.i64.wrap (256 * IntKind.i64.wrap (↑c_1.toNat : Int)))) x 0 0 0
 0 0 { data := #[] } 0 0 0 0 { data := #[] }
 (lput [.int .u32 0, .int .u32 0, .int .u32 0, .int .u8 0, .string { data := #[] }] 0
 [.int .u32 0, .int .u32 0, .int .u32 0, .int .u8 (↑c_2.toNat : Int), .string { data := #[] }])
 h' Q)))
def gabionref12_Decode.L13.wp (s : ByteArray) (h0 : ByteArray) (n : Int) (size : Int) (i_9 : Int) (t2_0 : Int) (t2_1 : Int) (t2_2 : Int) (t2_3 : Int) (t2_4 : ByteArray) (none_0 : Int) (none_1 : Int) (none_2 : Int) (none_3 : Int) (none_4 : ByteArray) (r0 : List Value) (h : Heap) (Q : Value → Heap → Prop) : Prop :=
 xsIf (decide (i_9 < 3))
 ((0 ≤ IntKind.i64.wrap (7 + IntKind.i64.wrap (4 * i_9)) ∧ IntKind.i64.wrap (7 + IntKind.i64.wrap (4 * i_9)) ≤ (↑h0.size : Int)) ∧
 (0 ≤ IntKind.i64.wrap (3 + IntKind.i64.wrap (4 * i_9)) ∧ IntKind.i64.wrap (3 + IntKind.i64.wrap (4 * i_9)) ≤ IntKind.i64.wrap (7 + IntKind.i64.wrap (4 * i_9))) ∧
 C Tryd.prog 47 #[.string (sext h0 (IntKind.i64.wrap (3 + IntKind.i64.wrap (4 * i_9))) (IntKind.i64.wrap (7 + IntKind.i64.wrap (4 * i_9))))] h fun (r : Value) (h' : Heap) =>
 ∃ (x : Int),
 r = .int .u64 x ∧
 (0 ≤ i_9 ∧ i_9 < (↑3 : Int)) ∧
 0 + i_9.toNat * 1 + 1 ≤ r0.length ∧
 gabionref12_Decode.L13 s h0 n size (IntKind.i64.wrap (i_9 + 1)) t2_0 t2_1 t2_2 t2_3 t2_4 none_0 none_1 none_2 none_3 none_4 (lput r0 (0 + i_9.toNat * 1) [.int .u32 (IntKind.u32.wrap x)]) h' Q)
 (gabionref12_Decode.L18 s n size 0 t2_0 t2_1 t2_2 t2_3 t2_4 none_0 none_1 none_2 none_3 none_4 r0 h Q)
def gabionref12_Decode.L18.wp (s : ByteArray) (n : Int) (size : Int) (i_11 : Int) (t2_0 : Int) (t2_1 : Int) (t2_2 : Int) (t2_3 : Int) (t2_4 : ByteArray) (none_0 : Int) (none_1 : Int) (none_2 : Int) (none_3 : Int) (none_4 : ByteArray) (r0 : List Value) (h : Heap) (Q : Value → Heap → Prop) : Prop :=
 xsIf (decide (i_11 < n))
 ((0 ≤ IntKind.i64.wrap (IntKind.i64.wrap (IntKind.i64.wrap (24 + IntKind.i64.wrap (8 * iquo .i64 i_11 7)) + irem i_11 7) + 1) ∧
 IntKind.i64.wrap (IntKind.i64.wrap (IntKind.i64.wrap (24 + IntKind.i64.wrap (8 * iquo .i64 i_11 7)) + irem i_11 7) + 1) ≤ (↑s.size : Int)) ∧
 (0 ≤ IntKind.i64.wrap (IntKind.i64.wrap (24 + IntKind.i64.wrap (8 * iquo .i64 i_11 7)) + irem i_11 7) ∧
 IntKind.i64.wrap (IntKind.i64.wrap (24 + IntKind.i64.wrap (8 * iquo .i64 i_11 7)) + irem i_11 7) ≤
 IntKind.i64.wrap (IntKind.i64.wrap (IntKind.i64.wrap (24 + IntKind.i64.wrap (8 * iquo .i64 i_11 7)) + irem i_11 7) + 1)) ∧
 ∃ (x : ByteArray),
 lget r0 4 = some (.string x) ∧
 (↑(x.size +
 (sext s (IntKind.i64.wrap (IntKind.i64.wrap (24 + IntKind.i64.wrap (8 * iquo .i64 i_11 7)) + irem i_11 7))
 (IntKind.i64.wrap (IntKind.i64.wrap (IntKind.i64.wrap (24 + IntKind.i64.wrap (8 * iquo .i64 i_11 7)) + irem i_11 7) + 1))).size) :
 Int) ≤
 9223372036854775807 ∧
 5 ≤ r0.length ∧
 gabionref12_Decode.L18 s n size (IntKind.i64.wrap (i_11 + 1)) t2_0 t2_1 t2_2 t2_3 t2_4 none_0 none_1 none_2 none_3 none_4
 (lput r0 4
 [.string
 (x ++
 sext s (IntKind.i64.wrap (IntKind.i64.wrap (24 + IntKind.i64.wrap (8 * iquo .i64 i_11 7)) + irem i_11 7))
 (IntKind.i64.wrap (IntKind.i64.wrap (IntKind.i64.wrap (24 + IntKind.i64.wrap (8 * iquo .i64 i_11 7)) + irem i_11 7) + 1)))])
 h Q)
 (5 ≤ r0.length ∧
 ∃ (x : Int),
 lget r0 0 = some (.int .u32 x) ∧
 ∃ (x_1 : Int),
 lget r0 1 = some (.int .u32 x_1) ∧
 ∃ (x_2 : Int),
 lget r0 2 = some (.int .u32 x_2) ∧
 ∃ (x_3 : Int),
 lget r0 3 = some (.int .u8 x_3) ∧
 ∃ (x_4 : ByteArray),
 lget r0 4 = some (.string x_4) ∧
 C Tryd.prog 22 #[.agg #[.int .u32 x, .int .u32 x_1, .int .u32 x_2, .int .u8 x_3, .string x_4]] h fun (r : Value) (h' : Heap) =>
 ∃ (x : ByteArray),
 ∃ (x_5 : Int),
 r = .tuple #[.string x, .int .i64 x_5] ∧
 xsIf (decide (x_5 ≠ 0))
 (Q
 (.tuple
 #[.agg #[.int .u32 none_0, .int .u32 none_1, .int .u32 none_2, .int .u8 none_3, .string none_4], .int .i64 4])
 h')
 ((0 ≤ IntKind.i64.wrap (size - 8) ∧ IntKind.i64.wrap (size - 8) ≤ (↑x.size : Int)) ∧
 (0 ≤ IntKind.i64.wrap (size - 8) ∧ IntKind.i64.wrap (size - 8) ≤ (↑s.size : Int)) ∧
 xsIf (decide (sext x 0 (IntKind.i64.wrap (size - 8)) ≠ sext s 0 (IntKind.i64.wrap (size - 8))))
 (Q
 (.tuple
 #[.agg #[.int .u32 none_0, .int .u32 none_1, .int .u32 none_2, .int .u8 none_3, .string none_4],
 .int .i64 4])
 h')
 ((0 ≤ IntKind.i64.wrap (size - 4) ∧ IntKind.i64.wrap (size - 4) ≤ (↑x.size : Int)) ∧
 (0 ≤ size ∧ size ≤ (↑s.size : Int)) ∧
 (0 ≤ IntKind.i64.wrap (size - 4) ∧ IntKind.i64.wrap (size - 4) ≤ size) ∧
 xsIf (decide (sext x (IntKind.i64.wrap (size - 4)) (↑x.size : Int) ≠ sext s (IntKind.i64.wrap (size - 4)) size))
 (Q
 (.tuple
 #[.agg #[.int .u32 none_0, .int .u32 none_1, .int .u32 none_2, .int .u8 none_3, .string none_4],
 .int .i64 4])
 h')
 ((0 ≤ size ∧ size ≤ (↑s.size : Int)) ∧
 xsIf (decide (x ≠ sext s 0 size))
 (Q
 (.tuple
 #[.agg #[.int .u32 none_0, .int .u32 none_1, .int .u32 none_2, .int .u8 none_3, .string none_4],
 .int .i64 5])
 h')
 (5 ≤ r0.length ∧
 ∃ (x : Int),
 lget r0 0 = some (.int .u32 x) ∧
 ∃ (x_6 : Int),
 lget r0 1 = some (.int .u32 x_6) ∧
 ∃ (x_7 : Int),
 lget r0 2 = some (.int .u32 x_7) ∧
 ∃ (x_8 : Int),
 lget r0 3 = some (.int .u8 x_8) ∧
 ∃ (x_9 : ByteArray),
 lget r0 4 = some (.string x_9) ∧
 Q
 (.tuple
 #[.agg #[.int .u32 x, .int .u32 x_6, .int .u32 x_7, .int .u8 x_8, .string x_9],
 .int .i64 0])
 h')))))
theorem gabionref12_Decode.ok {s : ByteArray} {h : Heap} {Q : Value → Heap → Prop} (hk : gabionref12_Decode.wp s h Q) : C Tryd.prog 27 #[.string s] h Q :=
 C_of_xs (H := gabionref12_Decode.H) (lcuts := gabionref12_Decode.lc) (rcuts := gabionref12_Decode.rc) (l := [.string s]) 2000 mixed Tryd.func27 rfl (by kernel_rfl) (@cast (gabionref12_Decode.wp s h Q) _ (by kernel_rfl) hk)
theorem gabionref12_Decode.L13.ok {s : ByteArray} {h0 : ByteArray} {n : Int} {size : Int} {i_9 : Int} {t2_0 : Int} {t2_1 : Int} {t2_2 : Int} {t2_3 : Int} {t2_4 : ByteArray} {none_0 : Int} {none_1 : Int} {none_2 : Int} {none_3 : Int} {none_4 : ByteArray} {r0 : List Value} {h : Heap} {Q : Value → Heap → Prop} (hk : gabionref12_Decode.L13.wp s h0 n size i_9 t2_0 t2_1 t2_2 t2_3 t2_4 none_0 none_1 none_2 none_3 none_4 r0 h Q) : gabionref12_Decode.L13 s h0 n size i_9 t2_0 t2_1 t2_2 t2_3 t2_4 none_0 none_1 none_2 none_3 none_4 r0 h Q :=
 xs_ok (H := gabionref12_Decode.H) (lcuts := gabionref12_Decode.lc) (rcuts := gabionref12_Decode.rc) (fn := Tryd.f27) mixed Tryd.func27 2000 _ _ _ (@cast (gabionref12_Decode.L13.wp s h0 n size i_9 t2_0 t2_1 t2_2 t2_3 t2_4 none_0 none_1 none_2 none_3 none_4 r0 h Q) _ (by kernel_rfl) hk)
theorem gabionref12_Decode.L18.ok {s : ByteArray} {n : Int} {size : Int} {i_11 : Int} {t2_0 : Int} {t2_1 : Int} {t2_2 : Int} {t2_3 : Int} {t2_4 : ByteArray} {none_0 : Int} {none_1 : Int} {none_2 : Int} {none_3 : Int} {none_4 : ByteArray} {r0 : List Value} {h : Heap} {Q : Value → Heap → Prop} (hk : gabionref12_Decode.L18.wp s n size i_11 t2_0 t2_1 t2_2 t2_3 t2_4 none_0 none_1 none_2 none_3 none_4 r0 h Q) : gabionref12_Decode.L18 s n size i_11 t2_0 t2_1 t2_2 t2_3 t2_4 none_0 none_1 none_2 none_3 none_4 r0 h Q :=
 xs_ok (H := gabionref12_Decode.H) (lcuts := gabionref12_Decode.lc) (rcuts := gabionref12_Decode.rc) (fn := Tryd.f27) mixed Tryd.func27 2000 _ _ _ (@cast (gabionref12_Decode.L18.wp s n size i_11 t2_0 t2_1 t2_2 t2_3 t2_4 none_0 none_1 none_2 none_3 none_4 r0 h Q) _ (by kernel_rfl) hk)

/-! gabion/gabionlaw12.RecBytes -/
def gabionlaw12_RecBytes.H : Hn := ⟨[], [], [⟨3, .q 0 (.q 2 (.q 1 (.q 3 (.q 4 (.q 5 (.q 6 (.q 7 (.q 8 (.nil))))))))), []⟩, ⟨12, .q 0 (.q 1 (.q 2 (.q 3 (.q 4 (.q 5 (.q 6 (.q 7 (.q 8 (.q 9 (.q 10 (.q 11 (.q 12 (.q 13 (.q 14 (.q 15 (.q 16 (.q 17 (.q 18 (.q 19 (.q 20 (.q 21 (.q 22 (.q 23 (.nil)))))))))))))))))))))))), []⟩], []⟩
def gabionlaw12_RecBytes.lc : List Cut := [⟨8, [79, 80, 81], []⟩]
def gabionlaw12_RecBytes.rc : List Cut := [⟨7, [2, 8], []⟩]
def gabionlaw12_RecBytes.J7 (s : ByteArray) (b : ByteArray) (h : Heap) (Q : Value → Heap → Prop) : Prop :=
 TW Tryd.prog 7 121 [.code (cAt (bodyOf Tryd.f7) [1, 1, 1, 1, 1, 1, 0, 0]), .code (cAt (bodyOf Tryd.f7) [1, 1, 1, 1, 1, 1, 0, 1]), .code (cAt (bodyOf Tryd.f7) [1, 1, 1, 1, 1, 1, 1])] ⟨[(2, .v (.string s)), (8, .v (.string b))], [], .plain⟩ h Q
def gabionlaw12_RecBytes.L8 (t79 : Option Addr) (t79_n : Nat) (t79_c : Nat) (t80 : Int) (t81 : Int) (h : Heap) (Q : Value → Heap → Prop) : Prop :=
 TW Tryd.prog 7 121 [.code (cAt (bodyOf Tryd.f7) [1, 1, 1, 1, 1, 1, 0, 1, 0, 0]), .inLoop (cAt (bodyOf Tryd.f7) [1, 1, 1, 1, 1, 1, 0, 1, 0, 0]), .inBlock 0, .code (cAt (bodyOf Tryd.f7) [1, 1, 1, 1, 1, 1, 1])] ⟨[(79, .v (.slice t79 t79_n t79_c)), (80, .v (.int .i64 t80)), (81, .v (.int .i64 t81))], [], .plain⟩ h Q
def gabionlaw12_RecBytes.wp (n_0 : Int) (n_1 : Int) (n_2 : Int) (kind : Int) (s : ByteArray) (h : Heap) (Q : Value → Heap → Prop) : Prop :=
 (0 ≤ imin (↑s.size : Int) 1100 ∧ imin (↑s.size : Int) 1100 ≤ (↑s.size : Int)) ∧
 C Tryd.prog 21 #[.agg #[.int .u32 n_0, .int .u32 n_1, .int .u32 n_2]] h fun (r : Value) (h' : Heap) =>
 ∃ (x : Int),
 ∃ (x_1 : Int),
 ∃ (x_2 : Int),
 r = .agg #[.int .u32 x, .int .u32 x_1, .int .u32 x_2] ∧
 C Tryd.prog 20
 #[.agg #[.int .u32 x, .int .u32 x_1, .int .u32 x_2], .agg #[.int .u8 kind, .string (sext s 0 (imin (↑s.size : Int) 1100))]]
 h' fun (r : Value) (h' : Heap) =>
 ∃ (x : ByteArray),
 ∃ (x_3 : Int),
 r = .tuple #[.string x, .int .i64 x_3] ∧
 C Tryd.prog 22 #[.agg #[.int .u32 n_0, .int .u32 n_1, .int .u32 n_2, .int .u8 kind, .string (sext s 0 (imin (↑s.size : Int) 1100))]] h'
 fun (r : Value) (h' : Heap) =>
 ∃ (x_4 : ByteArray),
 ∃ (x_5 : Int),
 r = .tuple #[.string x_4, .int .i64 x_5] ∧
 C Tryd.prog 23 #[] h' fun (r : Value) (h' : Heap) =>
 ∃ (x_6 : Bool),
 r = .bool x_6 ∧
 xsIf (!x_6) (Q (.bool false) h')
 (xsIf (decide (x ≠ x_4)) (Q (.bool false) h')
 (xsIf (decide (x_3 ≠ x_5)) (Q (.bool false) h')
 (C Tryd.prog 24 #[.agg #[.int .u8 kind, .string (sext s 0 (imin (↑s.size : Int) 1100))]] h' fun (r : Value) (h' : Heap) =>
 ∃ (x_7 : Bool),
 r = .bool x_7 ∧
 xsIf (!x_7 == decide (x_5 = 0)) (Q (.bool false) h')
 (C Tryd.prog 25 #[.agg #[.int .u8 kind, .string (sext s 0 (imin (↑s.size : Int) 1100))]] h' fun (r : Value) (h' : Heap) =>
 ∃ (x_8 : Int), r = .int .i64 x_8 ∧ xsIf (decide (x_8 ≠ (↑x_4.size : Int))) (Q (.bool false) h') (gabionlaw12_RecBytes.J7 (sext s 0 (imin (↑s.size : Int) 1100)) x h' Q)))))
def gabionlaw12_RecBytes.J7.wp (s : ByteArray) (b : ByteArray) (h : Heap) (Q : Value → Heap → Prop) : Prop :=
 (↑(b.size + s.size) : Int) ≤ 9223372036854775807 ∧
 (0 ≤ imax 0 (IntKind.i64.wrap ((↑b.size : Int) - 1)) ∧ imax 0 (IntKind.i64.wrap ((↑b.size : Int) - 1)) ≤ (↑b.size : Int)) ∧
 ∀ (b_1 : Nat),
 h b_1 = none →
 gabionlaw12_RecBytes.L8 (some { block := b_1, off := 0 }) 4 4 (↑4 : Int) 0
 (upd h b_1 (Obj.cells #[.string s, .string b, .string (b ++ s), .string (sext b 0 (imax 0 (IntKind.i64.wrap ((↑b.size : Int) - 1))))] 9 (0, 0))) Q
def gabionlaw12_RecBytes.L8.wp (t79 : Option Addr) (t79_n : Nat) (t79_c : Nat) (t80 : Int) (t81 : Int) (h : Heap) (Q : Value → Heap → Prop) : Prop :=
 xsIf (decide (t81 < t80))
 ((0 ≤ t81 ∧ t81 < (↑t79_n : Int)) ∧
 atBase t79 fun (b o : Nat) =>
 ∃ (x : ByteArray),
 h.cell b (o + t81.toNat * 1) = some (.string x) ∧
 C Tryd.prog 26 #[.string x] h fun (r : Value) (h' : Heap) =>
 ∃ (x_1 : Int),
 ∃ (x_2 : Int),
 ∃ (x_3 : Int),
 ∃ (x_4 : Int),
 ∃ (x_5 : ByteArray),
 ∃ (x_6 : Int),
 r =
 .tuple
 #[.agg #[.int .u32 x_1, .int .u32 x_2, .int .u32 x_3], .agg #[.int .u8 x_4, .string x_5],
 .int .i64 x_6] ∧
 C Tryd.prog 27 #[.string x] h' fun (r : Value) (h' : Heap) =>
 ∃ (x : Int),
 ∃ (x_7 : Int),
 ∃ (x_8 : Int),
 ∃ (x_9 : Int),
 ∃ (x_10 : ByteArray),
 ∃ (x_11 : Int),
 r =
 .tuple
 #[.agg #[.int .u32 x, .int .u32 x_7, .int .u32 x_8, .int .u8 x_9, .string x_10], .int .i64 x_11] ∧
 xsIf (decide (x_6 ≠ x_11)) (Q (.bool false) h')
 (C Tryd.prog 21 #[.agg #[.int .u32 x, .int .u32 x_7, .int .u32 x_8]] h' fun (r : Value) (h' : Heap) =>
 ∃ (x : Int),
 ∃ (x_12 : Int),
 ∃ (x_13 : Int),
 r = .agg #[.int .u32 x, .int .u32 x_12, .int .u32 x_13] ∧
 xsIf (!(decide (x_1 = x) && (decide (x_2 = x_12) && (decide (x_3 = x_13) && true)))) (Q (.bool false) h')
 (xsIf (decide (x_4 ≠ x_9)) (Q (.bool false) h')
 (xsIf (decide (x_5 ≠ x_10)) (Q (.bool false) h') (gabionlaw12_RecBytes.L8 t79 t79_n t79_c t80 (IntKind.i64.wrap (t81 + 1)) h' Q)))))
 (Q (.bool true) h)
theorem gabionlaw12_RecBytes.ok {n_0 : Int} {n_1 : Int} {n_2 : Int} {kind : Int} {s : ByteArray} {h : Heap} {Q : Value → Heap → Prop} (hk : gabionlaw12_RecBytes.wp n_0 n_1 n_2 kind s h Q) : C Tryd.prog 7 #[.agg #[.int .u32 n_0, .int .u32 n_1, .int .u32 n_2], .int .u8 kind, .string s] h Q :=
 C_of_xs (H := gabionlaw12_RecBytes.H) (lcuts := gabionlaw12_RecBytes.lc) (rcuts := gabionlaw12_RecBytes.rc) (l := [.agg #[.int .u32 n_0, .int .u32 n_1, .int .u32 n_2], .int .u8 kind, .string s]) 2000 mixed Tryd.func7 rfl (by kernel_rfl) (@cast (gabionlaw12_RecBytes.wp n_0 n_1 n_2 kind s h Q) _ (by kernel_rfl) hk)
theorem gabionlaw12_RecBytes.J7.ok {s : ByteArray} {b : ByteArray} {h : Heap} {Q : Value → Heap → Prop} (hk : gabionlaw12_RecBytes.J7.wp s b h Q) : gabionlaw12_RecBytes.J7 s b h Q :=
 xs_ok (H := gabionlaw12_RecBytes.H) (lcuts := gabionlaw12_RecBytes.lc) (rcuts := []) (fn := Tryd.f7) mixed Tryd.func7 2000 _ _ _ (@cast (gabionlaw12_RecBytes.J7.wp s b h Q) _ (by kernel_rfl) hk)
theorem gabionlaw12_RecBytes.L8.ok {t79 : Option Addr} {t79_n : Nat} {t79_c : Nat} {t80 : Int} {t81 : Int} {h : Heap} {Q : Value → Heap → Prop} (hk : gabionlaw12_RecBytes.L8.wp t79 t79_n t79_c t80 t81 h Q) : gabionlaw12_RecBytes.L8 t79 t79_n t79_c t80 t81 h Q :=
 xs_ok (H := gabionlaw12_RecBytes.H) (lcuts := gabionlaw12_RecBytes.lc) (rcuts := gabionlaw12_RecBytes.rc) (fn := Tryd.f7) mixed Tryd.func7 2000 _ _ _ (@cast (gabionlaw12_RecBytes.L8.wp t79 t79_n t79_c t80 t81 h Q) _ (by kernel_rfl) hk)

/-! gabion/gabionref12.Follows -/
/-! gabion/gabionlaw12.RecFollows -/
/-! gabion/gabionlaw12.RecBack -/
/-! gabion/gabionlaw12.RecWords -/
end Go.Gb
