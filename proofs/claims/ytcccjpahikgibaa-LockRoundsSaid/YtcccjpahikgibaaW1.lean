/- Own text for the seat: W1. -/
import Derived.Test.YtcccjpahikgibaaA10
import Derived.Test.YtcccjpahikgibaaProg
set_option linter.unusedVariables false
set_option linter.unusedSimpArgs false
set_option linter.unnecessarySimpa false
set_option linter.deprecated false
set_option maxRecDepth 100000
namespace Go.Gb
open Go.Proofs
theorem mixed : Try.prog.follows .mixedOrders = true := by kernel_rfl

/-! gabion/lock.New -/
def lock_New.H : Hn := ⟨[14], [], [], []⟩
def lock_New.lc : List Cut := []
def lock_New.rc : List Cut := []
def lock_New.wp (clients : Int) (h : Heap) (Q : Value → Heap → Prop) : Prop :=
 xsIf (decide (clients < 1)) (Q (.tuple #[.pointer none, .int .i64 2]) h)
 (xsIf (decide (8 < clients)) (Q (.tuple #[.pointer none, .int .i64 2]) h)
 (∀ (b : Nat),
 h b = none →
 xsMk Try.prog 32 (upd h b (Obj.map #[] 0)) clients clients fun (a : Option Addr) (n' c' : Nat) (h' : Heap) =>
 ∀ (b_1 : Nat), h' b_1 = none → Q (.tuple #[.pointer (some { block := b_1, off := 0 }), .int .i64 0]) (upd h' b_1 (Obj.cells #[Value.map (some b), .slice a n' c'] 55 (0, 0)))))
theorem lock_New.ok {clients : Int} {h : Heap} {Q : Value → Heap → Prop} (hk : lock_New.wp clients h Q) : C Try.prog 6 #[.int .i64 clients] h Q :=
 C_of_xs (H := lock_New.H) (lcuts := lock_New.lc) (rcuts := lock_New.rc) (l := [.int .i64 clients]) 2000 mixed Try.func6 rfl (by kernel_rfl) (@cast (lock_New.wp clients h Q) _ (by kernel_rfl) hk)

/-! (*gabion/lock.Locks).client -/
def lock_Locks_client.H : Hn := ⟨[], [], [], []⟩
def lock_Locks_client.lc : List Cut := []
def lock_Locks_client.rc : List Cut := []
def lock_Locks_client.wp (l : Option Addr) (c : Int) (h : Heap) (Q : Value → Heap → Prop) : Prop :=
 xsIf l.isNone (Q (.int .i64 1) h)
 (xsIf (decide (c < 0)) (Q (.int .i64 2) h)
 (atBase l fun (b o : Nat) => ∃ (x : Option Addr), ∃ (n : Nat), ∃ (m : Nat), h.cell b (o + 1) = some (.slice x n m) ∧ xsIf (decide ((↑n : Int) ≤ c)) (Q (.int .i64 2) h) (Q (.int .i64 0) h)))
theorem lock_Locks_client.ok {l : Option Addr} {c : Int} {h : Heap} {Q : Value → Heap → Prop} (hk : lock_Locks_client.wp l c h Q) : C Try.prog 19 #[.pointer l, .int .i64 c] h Q :=
 C_of_xs (H := lock_Locks_client.H) (lcuts := lock_Locks_client.lc) (rcuts := lock_Locks_client.rc) (l := [.pointer l, .int .i64 c]) 2000 mixed Try.func19 rfl (by kernel_rfl) (@cast (lock_Locks_client.wp l c h Q) _ (by kernel_rfl) hk)

/-! slices.Values[[]int,int]$1 -/
def slices_Values_int_int_1.H : Hn := ⟨[], [], [], []⟩
def slices_Values_int_int_1.lc : List Cut := [⟨1, [0, 5, 6, 7], []⟩]
def slices_Values_int_int_1.rc : List Cut := []
def slices_Values_int_int_1.L1 (yield : Nat) (t5 : Option Addr) (t5_n : Nat) (t5_c : Nat) (t6 : Int) (t7 : Int) (h : Heap) (Q : Value → Heap → Prop) : Prop :=
 TW Try.prog 32 16 [.code (cAt (bodyOf Try.f32) [1, 0, 0]), .inLoop (cAt (bodyOf Try.f32) [1, 0, 0]), .inBlock 0] ⟨[(0, .v (.func (.yield yield) #[] #[])), (5, .v (.slice t5 t5_n t5_c)), (6, .v (.int .i64 t6)), (7, .v (.int .i64 t7))], [], .plain⟩ h Q
def slices_Values_int_int_1.wp (yield : Nat) (t1 : Nat) (h : Heap) (Q : Value → Heap → Prop) : Prop :=
 ∃ (x : Option Addr), ∃ (n : Nat), ∃ (m : Nat), h.cell t1 0 = some (.slice x n m) ∧ slices_Values_int_int_1.L1 yield x n m (↑n : Int) 0 h Q
def slices_Values_int_int_1.L1.wp (yield : Nat) (t5 : Option Addr) (t5_n : Nat) (t5_c : Nat) (t6 : Int) (t7 : Int) (h : Heap) (Q : Value → Heap → Prop) : Prop :=
 xsIf (decide (t7 < t6))
 ((0 ≤ t7 ∧ t7 < (↑t5_n : Int)) ∧
 atBase t5 fun (b o : Nat) =>
 ∃ (x : Int),
 h.cell b (o + t7.toNat * 1) = some (.int .i64 x) ∧
 Y Try.prog yield [.int .i64 x] h fun (r : Value) (h' : Heap) =>
 ∃ (x : Bool), r = .bool x ∧ xsIf (!x) (Q (.tuple #[]) h') (slices_Values_int_int_1.L1 yield t5 t5_n t5_c t6 (IntKind.i64.wrap (t7 + 1)) h' Q))
 (Q (.tuple #[]) h)
theorem slices_Values_int_int_1.ok {yield : Nat} {t1 : Nat} {h : Heap} {Q : Value → Heap → Prop} (hk : slices_Values_int_int_1.wp yield t1 h Q) : C Try.prog 32 #[.func (.yield yield) #[] #[], .pointer (some ⟨t1, 0, none⟩)] h Q :=
 C_of_xs (H := slices_Values_int_int_1.H) (lcuts := slices_Values_int_int_1.lc) (rcuts := slices_Values_int_int_1.rc) (l := [.func (.yield yield) #[] #[], .pointer (some ⟨t1, 0, none⟩)]) 2000 mixed Try.func32 rfl (by kernel_rfl) (@cast (slices_Values_int_int_1.wp yield t1 h Q) _ (by kernel_rfl) hk)
theorem slices_Values_int_int_1.L1.ok {yield : Nat} {t5 : Option Addr} {t5_n : Nat} {t5_c : Nat} {t6 : Int} {t7 : Int} {h : Heap} {Q : Value → Heap → Prop} (hk : slices_Values_int_int_1.L1.wp yield t5 t5_n t5_c t6 t7 h Q) : slices_Values_int_int_1.L1 yield t5 t5_n t5_c t6 t7 h Q :=
 xs_ok (H := slices_Values_int_int_1.H) (lcuts := slices_Values_int_int_1.lc) (rcuts := slices_Values_int_int_1.rc) (fn := Try.f32) mixed Try.func32 2000 _ _ _ (@cast (slices_Values_int_int_1.L1.wp yield t5 t5_n t5_c t6 t7 h Q) _ (by kernel_rfl) hk)

/-! slices.Values[[]int,int] -/
def slices_Values_int_int.H : Hn := ⟨[1], [], [], []⟩
def slices_Values_int_int.lc : List Cut := []
def slices_Values_int_int.rc : List Cut := []
def slices_Values_int_int.wp (s : Option Addr) (s_n : Nat) (s_c : Nat) (h : Heap) (Q : Value → Heap → Prop) : Prop :=
 ∀ (b : Nat), h b = none → Q (.func (Fn.func 32) #[] #[.pointer (some { block := b, off := 0 })]) (upd h b (Obj.cells #[.slice s s_n s_c] 32 (0, 0)))
theorem slices_Values_int_int.ok {s : Option Addr} {s_n : Nat} {s_c : Nat} {h : Heap} {Q : Value → Heap → Prop} (hk : slices_Values_int_int.wp s s_n s_c h Q) : C Try.prog 22 #[.slice s s_n s_c] h Q :=
 C_of_xs (H := slices_Values_int_int.H) (lcuts := slices_Values_int_int.lc) (rcuts := slices_Values_int_int.rc) (l := [.slice s s_n s_c]) 2000 mixed Try.func22 rfl (by kernel_rfl) (@cast (slices_Values_int_int.wp s s_n s_c h Q) _ (by kernel_rfl) hk)

/-! slices.AppendSeq[[]int,int] -/
def slices_AppendSeq_int_int.H : Hn := ⟨[2], [], [], []⟩
def slices_AppendSeq_int_int.lc : List Cut := [⟨3, [2, 4, 6], []⟩]
def slices_AppendSeq_int_int.rc : List Cut := [⟨4, [2], []⟩]
def slices_AppendSeq_int_int.G3 (s_2 : Nat) (t4 : Option Addr) (t4_n : Nat) (t4_c : Nat) (t6 : Value) (h : Heap) (Q : Value → Heap → Prop) : Prop :=
 TW Try.prog 35 13 [.code (cAt (bodyOf Try.f35) [1, 0, 1, 0]), .inBlock 0, .code (cAt (bodyOf Try.f35) [1, 1])] ⟨[(2, .v (.pointer (some ⟨s_2, 0, none⟩))), (4, .v (.slice t4 t4_n t4_c)), (6, .v (t6))], [], .plain⟩ h Q
def slices_AppendSeq_int_int.R3 (mkL : Nat) (s_2 : Nat) (t7 : Int) (h : Heap) (Q : Value → Heap → Prop) : Prop :=
 TW Try.prog 35 13 [.code (cAt (bodyOf Try.f35) [1, 0, 1, 0, 0]), .beginRound, .code (cAt (bodyOf Try.f35) [1, 0, 1, 0, 1])] ⟨[(2, .v (.pointer (some ⟨s_2, 0, none⟩))), (7, .v (.int .i64 t7))], [], .round mkL⟩ h Q
def slices_AppendSeq_int_int.K3 (mkD : Nat) (s_2 : Nat) (t4 : Option Addr) (t4_n : Nat) (t4_c : Nat) (t6 : Value) (h : Heap) (Q : Value → Heap → Prop) : Prop :=
 TW Try.prog 35 13 [.inBlock 0, .code (cAt (bodyOf Try.f35) [1, 1])] ⟨[(2, .v (.pointer (some ⟨s_2, 0, none⟩))), (4, .v (.slice t4 t4_n t4_c)), (6, .v (t6))], [], .marked mkD⟩ h Q
def slices_AppendSeq_int_int.J4 (mkD : Nat) (s_2 : Nat) (h : Heap) (Q : Value → Heap → Prop) : Prop :=
 TW Try.prog 35 13 [.code (cAt (bodyOf Try.f35) [1, 1, 0]), .code (cAt (bodyOf Try.f35) [1, 1, 1])] ⟨[(2, .v (.pointer (some ⟨s_2, 0, none⟩)))], [], .marked mkD⟩ h Q
def slices_AppendSeq_int_int.wp (s : Option Addr) (s_n : Nat) (s_c : Nat) (seq : Nat) (seq_a : Array Value) (seq_c : Array Value) (h : Heap) (Q : Value → Heap → Prop) : Prop :=
 ∀ (b : Nat), h b = none → slices_AppendSeq_int_int.G3 b none 0 0 (.func (Fn.func seq) seq_a seq_c) (upd h b (Obj.cells #[.slice s s_n s_c] 32 (0, 0))) Q
def slices_AppendSeq_int_int.R3.wp (mkL : Nat) (s_2 : Nat) (t7 : Int) (h : Heap) (Q : Value → Heap → Prop) : Prop :=
 ∃ (r : Loop),
 h mkL = some (Obj.loop r) ∧
 r.1 = LoopState.ready ∧
 ∃ (x : Option Addr),
 ∃ (n : Nat),
 ∃ (m : Nat),
 (upd h mkL (Obj.loop { state := LoopState.busy, pending := r.2, fn := r.fn, tmps := r.4, params := r.5, assign := r.6, body := r.7, defers := r.defers })).cell s_2 0 = some (.slice x n m) ∧
 ∀ (b : Nat),
 upd h mkL (Obj.loop { state := LoopState.busy, pending := r.2, fn := r.fn, tmps := r.4, params := r.5, assign := r.6, body := r.7, defers := r.defers }) b = none →
 xsApp Try.prog 3
 (upd (upd h mkL (Obj.loop { state := LoopState.busy, pending := r.2, fn := r.fn, tmps := r.4, params := r.5, assign := r.6, body := r.7, defers := r.defers })) b
 (Obj.cells #[.int .i64 t7] 3 (0, 0)))
 x n m (some { block := b, off := 0 }) 1 fun (a' : Option Addr) (n' c' : Nat) (h' : Heap) => h'.can s_2 0 1 ∧ Q (.bool true) (h'.put s_2 0 [.slice a' n' c'])
def slices_AppendSeq_int_int.K3.wp (mkD : Nat) (s_2 : Nat) (t4 : Option Addr) (t4_n : Nat) (t4_c : Nat) (t6 : Value) (h : Heap) (Q : Value → Heap → Prop) : Prop :=
 slices_AppendSeq_int_int.J4 mkD s_2 h Q
def slices_AppendSeq_int_int.J4.wp (mkD : Nat) (s_2 : Nat) (h : Heap) (Q : Value → Heap → Prop) : Prop :=
 ∃ (x : Option Addr), ∃ (n : Nat), ∃ (m : Nat), h.cell s_2 0 = some (.slice x n m) ∧ h mkD = some (Obj.deferred (some [])) ∧ Q (.slice x n m) (h.del mkD)
theorem slices_AppendSeq_int_int.ok {s : Option Addr} {s_n : Nat} {s_c : Nat} {seq : Nat} {seq_a : Array Value} {seq_c : Array Value} {h : Heap} {Q : Value → Heap → Prop} (hk : slices_AppendSeq_int_int.wp s s_n s_c seq seq_a seq_c h Q) : C Try.prog 35 #[.slice s s_n s_c, .func (.func seq) seq_a seq_c] h Q :=
 C_of_xs (H := slices_AppendSeq_int_int.H) (lcuts := slices_AppendSeq_int_int.lc) (rcuts := slices_AppendSeq_int_int.rc) (l := [.slice s s_n s_c, .func (.func seq) seq_a seq_c]) 2000 mixed Try.func35 rfl (by kernel_rfl) (@cast (slices_AppendSeq_int_int.wp s s_n s_c seq seq_a seq_c h Q) _ (by kernel_rfl) hk)
theorem slices_AppendSeq_int_int.R3.ok {mkL : Nat} {s_2 : Nat} {t7 : Int} {h : Heap} {Q : Value → Heap → Prop} (hk : slices_AppendSeq_int_int.R3.wp mkL s_2 t7 h Q) : slices_AppendSeq_int_int.R3 mkL s_2 t7 h Q :=
 xs_ok (H := slices_AppendSeq_int_int.H) (lcuts := slices_AppendSeq_int_int.lc) (rcuts := slices_AppendSeq_int_int.rc) (fn := Try.f35) mixed Try.func35 2000 _ _ _ (@cast (slices_AppendSeq_int_int.R3.wp mkL s_2 t7 h Q) _ (by kernel_rfl) hk)
theorem slices_AppendSeq_int_int.K3.ok {mkD : Nat} {s_2 : Nat} {t4 : Option Addr} {t4_n : Nat} {t4_c : Nat} {t6 : Value} {h : Heap} {Q : Value → Heap → Prop} (hk : slices_AppendSeq_int_int.K3.wp mkD s_2 t4 t4_n t4_c t6 h Q) : slices_AppendSeq_int_int.K3 mkD s_2 t4 t4_n t4_c t6 h Q :=
 xs_ok (H := slices_AppendSeq_int_int.H) (lcuts := slices_AppendSeq_int_int.lc) (rcuts := slices_AppendSeq_int_int.rc) (fn := Try.f35) mixed Try.func35 2000 _ _ _ (@cast (slices_AppendSeq_int_int.K3.wp mkD s_2 t4 t4_n t4_c t6 h Q) _ (by kernel_rfl) hk)
theorem slices_AppendSeq_int_int.J4.ok {mkD : Nat} {s_2 : Nat} {h : Heap} {Q : Value → Heap → Prop} (hk : slices_AppendSeq_int_int.J4.wp mkD s_2 h Q) : slices_AppendSeq_int_int.J4 mkD s_2 h Q :=
 xs_ok (H := slices_AppendSeq_int_int.H) (lcuts := slices_AppendSeq_int_int.lc) (rcuts := []) (fn := Try.f35) mixed Try.func35 2000 _ _ _ (@cast (slices_AppendSeq_int_int.J4.wp mkD s_2 h Q) _ (by kernel_rfl) hk)
theorem slices_AppendSeq_int_int.G3.eq (s_2 : Nat) (t4 : Option Addr) (t4_n : Nat) (t4_c : Nat) (t6 : Value) (h : Heap) (Q : Value → Heap → Prop) : slices_AppendSeq_int_int.G3 s_2 t4 t4_n t4_c t6 h Q = TW Try.prog 35 13 (.code (.rangeFunc (.tmp 6) #[7] (cAt (bodyOf Try.f35) [1, 0, 1, 0, 0]) (cAt (bodyOf Try.f35) [1, 0, 1, 0, 1])) :: [.inBlock 0, .code (cAt (bodyOf Try.f35) [1, 1])]) ⟨[(2, .v (.pointer (some ⟨s_2, 0, none⟩))), (4, .v (.slice t4 t4_n t4_c)), (6, .v (t6))], [], .plain⟩ h Q := by kernel_rfl

/-! slices.Collect[int] -/
def slices_Collect_int.H : Hn := ⟨[], [], [], []⟩
def slices_Collect_int.lc : List Cut := []
def slices_Collect_int.rc : List Cut := []
def slices_Collect_int.wp (seq : Nat) (seq_a : Array Value) (seq_c : Array Value) (h : Heap) (Q : Value → Heap → Prop) : Prop :=
 C Try.prog 35 #[.slice none 0 0, .func (Fn.func seq) seq_a seq_c] h fun (r : Value) (h' : Heap) => ∃ (x : Option Addr), ∃ (n : Nat), ∃ (m : Nat), r = .slice x n m ∧ Q (.slice x n m) h'
theorem slices_Collect_int.ok {seq : Nat} {seq_a : Array Value} {seq_c : Array Value} {h : Heap} {Q : Value → Heap → Prop} (hk : slices_Collect_int.wp seq seq_a seq_c h Q) : C Try.prog 31 #[.func (.func seq) seq_a seq_c] h Q :=
 C_of_xs (H := slices_Collect_int.H) (lcuts := slices_Collect_int.lc) (rcuts := slices_Collect_int.rc) (l := [.func (.func seq) seq_a seq_c]) 2000 mixed Try.func31 rfl (by kernel_rfl) (@cast (slices_Collect_int.wp seq seq_a seq_c h Q) _ (by kernel_rfl) hk)

/-! slices.Sorted[int] -/
def slices_Sorted_int.H : Hn := ⟨[], [], [], []⟩
def slices_Sorted_int.lc : List Cut := []
def slices_Sorted_int.rc : List Cut := []
def slices_Sorted_int.wp (seq : Nat) (seq_a : Array Value) (seq_c : Array Value) (h : Heap) (Q : Value → Heap → Prop) : Prop :=
 C Try.prog 31 #[.func (Fn.func seq) seq_a seq_c] h fun (r : Value) (h' : Heap) =>
 ∃ (x : Option Addr), ∃ (n : Nat), ∃ (m : Nat), r = .slice x n m ∧ C Try.prog 29 #[.slice x n m] h' fun (r : Value) (h' : Heap) => Q (.slice x n m) h'
theorem slices_Sorted_int.ok {seq : Nat} {seq_a : Array Value} {seq_c : Array Value} {h : Heap} {Q : Value → Heap → Prop} (hk : slices_Sorted_int.wp seq seq_a seq_c h Q) : C Try.prog 21 #[.func (.func seq) seq_a seq_c] h Q :=
 C_of_xs (H := slices_Sorted_int.H) (lcuts := slices_Sorted_int.lc) (rcuts := slices_Sorted_int.rc) (l := [.func (.func seq) seq_a seq_c]) 2000 mixed Try.func21 rfl (by kernel_rfl) (@cast (slices_Sorted_int.wp seq seq_a seq_c h Q) _ (by kernel_rfl) hk)

/-! slices.Compact[[]int,int] -/
def slices_Compact_int_int.H : Hn := ⟨[], [], [⟨6, .q 0 (.q 1 (.q 2 (.q 4 (.q 5 (.q 6 (.q 7 (.ld 3 512 (.q 8 (.q 9 (.nil)))))))))), []⟩, ⟨11, .q 0 (.q 1 (.q 2 (.q 4 (.q 5 (.q 6 (.q 7 (.ld 3 512 (.q 8 (.q 9 (.nil)))))))))), []⟩], []⟩
def slices_Compact_int_int.lc : List Cut := [⟨4, [0, 3], []⟩, ⟨9, [0, 3, 4, 5], []⟩]
def slices_Compact_int_int.rc : List Cut := [⟨10, [0, 3, 4, 5], []⟩]
def slices_Compact_int_int.L4 (s : Option Addr) (s_n : Nat) (s_c : Nat) (k0 : Int) (h : Heap) (Q : Value → Heap → Prop) : Prop :=
 TW Try.prog 20 61 [.code (cAt (bodyOf Try.f20) [1, 1, 0, 1, 0, 0]), .inLoop (cAt (bodyOf Try.f20) [1, 1, 0, 1, 0, 0]), .inBlock 0, .code (cAt (bodyOf Try.f20) [1, 1, 1])] ⟨[(0, .v (.slice s s_n s_c)), (3, .v (.int .i64 k0))], [], .plain⟩ h Q
def slices_Compact_int_int.L9 (s : Option Addr) (s_n : Nat) (s_c : Nat) (k0 : Int) (s2 : Option Addr) (s2_n : Nat) (s2_c : Nat) (k2 : Int) (h : Heap) (Q : Value → Heap → Prop) : Prop :=
 TW Try.prog 20 61 [.code (cAt (bodyOf Try.f20) [1, 1, 0, 1, 0, 0, 1, 0, 0, 1, 0, 1, 0, 1, 0, 0]), .inLoop (cAt (bodyOf Try.f20) [1, 1, 0, 1, 0, 0, 1, 0, 0, 1, 0, 1, 0, 1, 0, 0]), .inBlock 2, .code (cAt (bodyOf Try.f20) [1, 1, 0, 1, 0, 0, 1, 0, 0, 1, 0, 1, 1]), .inBlock 1, .code (cAt (bodyOf Try.f20) [1, 1, 0, 1, 0, 0, 1, 1]), .inLoop (cAt (bodyOf Try.f20) [1, 1, 0, 1, 0, 0]), .inBlock 0, .code (cAt (bodyOf Try.f20) [1, 1, 1])] ⟨[(0, .v (.slice s s_n s_c)), (3, .v (.int .i64 k0)), (4, .v (.slice s2 s2_n s2_c)), (5, .v (.int .i64 k2))], [], .plain⟩ h Q
def slices_Compact_int_int.J10 (s : Option Addr) (s_n : Nat) (s_c : Nat) (k0 : Int) (s2 : Option Addr) (s2_n : Nat) (s2_c : Nat) (k2 : Int) (h : Heap) (Q : Value → Heap → Prop) : Prop :=
 TW Try.prog 20 61 [.code (cAt (bodyOf Try.f20) [1, 1, 0, 1, 0, 0, 1, 0, 0, 1, 0, 1, 0, 1, 0, 0, 1, 1]), .inLoop (cAt (bodyOf Try.f20) [1, 1, 0, 1, 0, 0, 1, 0, 0, 1, 0, 1, 0, 1, 0, 0]), .inBlock 2, .code (cAt (bodyOf Try.f20) [1, 1, 0, 1, 0, 0, 1, 0, 0, 1, 0, 1, 1]), .inBlock 1, .code (cAt (bodyOf Try.f20) [1, 1, 0, 1, 0, 0, 1, 1]), .inLoop (cAt (bodyOf Try.f20) [1, 1, 0, 1, 0, 0]), .inBlock 0, .code (cAt (bodyOf Try.f20) [1, 1, 1])] ⟨[(0, .v (.slice s s_n s_c)), (3, .v (.int .i64 k0)), (4, .v (.slice s2 s2_n s2_c)), (5, .v (.int .i64 k2))], [], .plain⟩ h Q
def slices_Compact_int_int.wp (s : Option Addr) (s_n : Nat) (s_c : Nat) (h : Heap) (Q : Value → Heap → Prop) : Prop :=
 xsIf (decide ((↑s_n : Int) < 2)) (Q (.slice s s_n s_c) h) (slices_Compact_int_int.L4 s s_n s_c 1 h Q)
def slices_Compact_int_int.L4.wp (s : Option Addr) (s_n : Nat) (s_c : Nat) (k0 : Int) (h : Heap) (Q : Value → Heap → Prop) : Prop :=
 xsIf (decide (k0 < (↑s_n : Int)))
 ((0 ≤ k0 ∧ k0 < (↑s_n : Int)) ∧
 atBase s fun (b o : Nat) =>
 (0 ≤ IntKind.i64.wrap (k0 - 1) ∧ IntKind.i64.wrap (k0 - 1) < (↑s_n : Int)) ∧
 atBase s fun (b_1 o_1 : Nat) =>
 ∃ (x : Int),
 h.cell b (o + k0.toNat * 1) = some (.int .i64 x) ∧
 ∃ (x_1 : Int),
 h.cell b_1 (o_1 + (IntKind.i64.wrap (k0 - 1)).toNat * 1) = some (.int .i64 x_1) ∧
 xsIf (decide (x = x_1)) ((0 ≤ k0 ∧ k0 ≤ (↑s_n : Int)) ∧ slices_Compact_int_int.L9 s s_n s_c k0 (slBase s (↑s_c : Int) k0 1) ((↑s_n : Int) - k0).toNat ((↑s_c : Int) - k0).toNat 1 h Q)
 (slices_Compact_int_int.L4 s s_n s_c (IntKind.i64.wrap (k0 + 1)) h Q))
 (Q (.slice s s_n s_c) h)
def slices_Compact_int_int.L9.wp (s : Option Addr) (s_n : Nat) (s_c : Nat) (k0 : Int) (s2 : Option Addr) (s2_n : Nat) (s2_c : Nat) (k2 : Int) (h : Heap) (Q : Value → Heap → Prop) : Prop :=
 xsIf (decide (k2 < (↑s2_n : Int)))
 ((0 ≤ k2 ∧ k2 < (↑s2_n : Int)) ∧
 atBase s2 fun (b o : Nat) =>
 (0 ≤ IntKind.i64.wrap (k2 - 1) ∧ IntKind.i64.wrap (k2 - 1) < (↑s2_n : Int)) ∧
 atBase s2 fun (b_1 o_1 : Nat) =>
 ∃ (x : Int),
 h.cell b (o + k2.toNat * 1) = some (.int .i64 x) ∧
 ∃ (x_1 : Int),
 h.cell b_1 (o_1 + (IntKind.i64.wrap (k2 - 1)).toNat * 1) = some (.int .i64 x_1) ∧
 xsIf (decide (x ≠ x_1))
 ((0 ≤ k2 ∧ k2 < (↑s2_n : Int)) ∧
 atBase s2 fun (b o : Nat) =>
 ∃ (x : Int),
 h.cell b (o + k2.toNat * 1) = some (.int .i64 x) ∧
 (0 ≤ k0 ∧ k0 < (↑s_n : Int)) ∧
 atBase s fun (b o : Nat) => h.can b (o + k0.toNat * 1) 1 ∧ slices_Compact_int_int.J10 s s_n s_c (IntKind.i64.wrap (k0 + 1)) s2 s2_n s2_c k2 (h.put b (o + k0.toNat * 1) [.int .i64 x]) Q)
 (slices_Compact_int_int.J10 s s_n s_c k0 s2 s2_n s2_c k2 h Q))
 ((0 ≤ k0 ∧ k0 ≤ (↑s_n : Int)) ∧
 (((↑s_n : Int) - k0).toNat = 0 → (0 ≤ k0 ∧ k0 ≤ (↑s_c : Int)) ∧ Q (.slice (slBase s (↑s_c : Int) 0 1) (k0 - 0).toNat ((↑s_c : Int) - 0).toNat) h) ∧
 (0 < ((↑s_n : Int) - k0).toNat →
 atBase (slBase s (↑s_c : Int) k0 1) fun (b o : Nat) =>
 h.can b o (((↑s_n : Int) - k0).toNat * 1) ∧ (0 ≤ k0 ∧ k0 ≤ (↑s_c : Int)) ∧ Q (.slice (slBase s (↑s_c : Int) 0 1) (k0 - 0).toNat ((↑s_c : Int) - 0).toNat) (h.put b o (zeros Try.prog 3 ((↑s_n : Int) - k0).toNat))))
def slices_Compact_int_int.J10.wp (s : Option Addr) (s_n : Nat) (s_c : Nat) (k0 : Int) (s2 : Option Addr) (s2_n : Nat) (s2_c : Nat) (k2 : Int) (h : Heap) (Q : Value → Heap → Prop) : Prop :=
 slices_Compact_int_int.L9 s s_n s_c k0 s2 s2_n s2_c (IntKind.i64.wrap (k2 + 1)) h Q
theorem slices_Compact_int_int.ok {s : Option Addr} {s_n : Nat} {s_c : Nat} {h : Heap} {Q : Value → Heap → Prop} (hk : slices_Compact_int_int.wp s s_n s_c h Q) : C Try.prog 20 #[.slice s s_n s_c] h Q :=
 C_of_xs (H := slices_Compact_int_int.H) (lcuts := slices_Compact_int_int.lc) (rcuts := slices_Compact_int_int.rc) (l := [.slice s s_n s_c]) 2000 mixed Try.func20 rfl (by kernel_rfl) (@cast (slices_Compact_int_int.wp s s_n s_c h Q) _ (by kernel_rfl) hk)
theorem slices_Compact_int_int.L4.ok {s : Option Addr} {s_n : Nat} {s_c : Nat} {k0 : Int} {h : Heap} {Q : Value → Heap → Prop} (hk : slices_Compact_int_int.L4.wp s s_n s_c k0 h Q) : slices_Compact_int_int.L4 s s_n s_c k0 h Q :=
 xs_ok (H := slices_Compact_int_int.H) (lcuts := slices_Compact_int_int.lc) (rcuts := slices_Compact_int_int.rc) (fn := Try.f20) mixed Try.func20 2000 _ _ _ (@cast (slices_Compact_int_int.L4.wp s s_n s_c k0 h Q) _ (by kernel_rfl) hk)
theorem slices_Compact_int_int.L9.ok {s : Option Addr} {s_n : Nat} {s_c : Nat} {k0 : Int} {s2 : Option Addr} {s2_n : Nat} {s2_c : Nat} {k2 : Int} {h : Heap} {Q : Value → Heap → Prop} (hk : slices_Compact_int_int.L9.wp s s_n s_c k0 s2 s2_n s2_c k2 h Q) : slices_Compact_int_int.L9 s s_n s_c k0 s2 s2_n s2_c k2 h Q :=
 xs_ok (H := slices_Compact_int_int.H) (lcuts := slices_Compact_int_int.lc) (rcuts := slices_Compact_int_int.rc) (fn := Try.f20) mixed Try.func20 2000 _ _ _ (@cast (slices_Compact_int_int.L9.wp s s_n s_c k0 s2 s2_n s2_c k2 h Q) _ (by kernel_rfl) hk)
theorem slices_Compact_int_int.J10.ok {s : Option Addr} {s_n : Nat} {s_c : Nat} {k0 : Int} {s2 : Option Addr} {s2_n : Nat} {s2_c : Nat} {k2 : Int} {h : Heap} {Q : Value → Heap → Prop} (hk : slices_Compact_int_int.J10.wp s s_n s_c k0 s2 s2_n s2_c k2 h Q) : slices_Compact_int_int.J10 s s_n s_c k0 s2 s2_n s2_c k2 h Q :=
 xs_ok (H := slices_Compact_int_int.H) (lcuts := slices_Compact_int_int.lc) (rcuts := []) (fn := Try.f20) mixed Try.func20 2000 _ _ _ (@cast (slices_Compact_int_int.J10.wp s s_n s_c k0 s2 s2_n s2_c k2 h Q) _ (by kernel_rfl) hk)

/-! (*gabion/lock.Locks).Has -/
def lock_Locks_Has.H : Hn := ⟨[], [], [], [(17, 53)]⟩
def lock_Locks_Has.lc : List Cut := [⟨5, [1, 5, 17], []⟩]
def lock_Locks_Has.rc : List Cut := []
def lock_Locks_Has.L5 (client : Int) (out : Option Addr) (out_n : Nat) (out_c : Nat) (t17 : Nat) (h : Heap) (Q : Value → Heap → Prop) : Prop :=
 TW Try.prog 15 33 [.code (cAt (bodyOf Try.f15) [1, 1, 1, 0, 1, 0, 0]), .inLoop (cAt (bodyOf Try.f15) [1, 1, 1, 0, 1, 0, 0]), .inBlock 0, .code (cAt (bodyOf Try.f15) [1, 1, 1, 1])] ⟨[(1, .v (.int .i64 client)), (5, .v (.slice out out_n out_c)), (17, .v (.pointer (some ⟨t17, 0, none⟩)))], [], .plain⟩ h Q
def lock_Locks_Has.wp (l : Option Addr) (client : Int) (h : Heap) (Q : Value → Heap → Prop) : Prop :=
 C Try.prog 19 #[.pointer l, .int .i64 client] h fun (r : Value) (h' : Heap) =>
 ∃ (x : Int),
 r = .int .i64 x ∧
 xsIf (decide (x ≠ 0)) (Q (.slice none 0 0) h')
 (atBase l fun (b o : Nat) =>
 ∃ (x : Option Nat),
 h'.cell b (o + 0) = some (Value.map x) ∧
 atMap x fun (r : Nat) => ∃ (l : List (Int × Value × Nat)), ∃ (c : Nat), h' r = some (mapO (.int .i64) l c) ∧ ∀ (b : Nat), h' b = none → lock_Locks_Has.L5 client none 0 0 b (upd h' b (iterO r c [] c)) Q)
def lock_Locks_Has.L5.wp (client : Int) (out : Option Addr) (out_n : Nat) (out_c : Nat) (t17 : Nat) (h : Heap) (Q : Value → Heap → Prop) : Prop :=
 atBase (some { block := t17, off := 0 }) fun (b o : Nat) =>
 o = 0 ∧
 ∃ (r : Nat),
 ∃ (since : Nat),
 ∃ (c0 : Nat),
 ∃ (seen : List Nat),
 h b = some (iterO r since seen c0) ∧
 ∃ (l : List (Int × Value × Nat)),
 ∃ (c : Nat),
 h r = some (mapO (.int .i64) l c) ∧
 (∀ (j : Nat) (n : Int) (v : Value) (b' : Nat), mnth l j = some (n, v, b') → b' < since) ∧
 since ≤ c0 ∧
 (∀ (j : Nat) (n : Int) (v : Value) (b' : Nat),
 mnth l j = some (n, v, b') →
 List.elem b' seen = false →
 ∃ (x : Int),
 v = .int .i64 x ∧
 atBase (some { block := t17, off := 0 }) fun (b_1 o : Nat) =>
 o = 0 ∧
 ∃ (r_1 : Nat),
 ∃ (since_1 : Nat),
 ∃ (c_1 : Nat),
 ∃ (seen_1 : List Nat),
 ∃ (l : List (Int × Value × Nat)),
 ∃ (j : Nat),
 ∃ (n : Int),
 ∃ (v : Value),
 ∃ (b'_1 : Nat),
 upd h b (iterO r since (snoc seen b') c) b_1 = some (iterO r_1 since_1 (snoc seen_1 b'_1) c_1) ∧
 upd h b (iterO r since (snoc seen b') c) r_1 = some (mapO (.int .i64) l c_1) ∧
 mnth l j = some (n, v, b'_1) ∧
 (∀ (i : Nat) (n2 : Int) (v2 : Value), mnth l i = some (n2, v2, b'_1) → i = j) ∧
 ∃ (x : Int),
 v = .int .i64 x ∧
 xsIf (decide (x = client))
 (∀ (b_2 : Nat),
 upd h b (iterO r since (snoc seen b') c) b_2 = none →
 xsApp Try.prog 3 (upd (upd h b (iterO r since (snoc seen b') c)) b_2 (Obj.cells #[.int .i64 n] 3 (0, 0))) out out_n out_c
 (some { block := b_2, off := 0 }) 1 fun (a' : Option Addr) (n' c' : Nat) (h' : Heap) => lock_Locks_Has.L5 client a' n' c' t17 h' Q)
 (lock_Locks_Has.L5 client out out_n out_c t17 (upd h b (iterO r since (snoc seen b') c)) Q)) ∧
 ((∀ (j : Nat) (n : Int) (v : Value) (b' : Nat), mnth l j = some (n, v, b') → List.elem b' seen = true) →
 C Try.prog 29 #[.slice out out_n out_c] h fun (r : Value) (h' : Heap) => Q (.slice out out_n out_c) h')
theorem lock_Locks_Has.ok {l : Option Addr} {client : Int} {h : Heap} {Q : Value → Heap → Prop} (hk : lock_Locks_Has.wp l client h Q) : C Try.prog 15 #[.pointer l, .int .i64 client] h Q :=
 C_of_xs (H := lock_Locks_Has.H) (lcuts := lock_Locks_Has.lc) (rcuts := lock_Locks_Has.rc) (l := [.pointer l, .int .i64 client]) 2000 mixed Try.func15 rfl (by kernel_rfl) (@cast (lock_Locks_Has.wp l client h Q) _ (by kernel_rfl) hk)
theorem lock_Locks_Has.L5.ok {client : Int} {out : Option Addr} {out_n : Nat} {out_c : Nat} {t17 : Nat} {h : Heap} {Q : Value → Heap → Prop} (hk : lock_Locks_Has.L5.wp client out out_n out_c t17 h Q) : lock_Locks_Has.L5 client out out_n out_c t17 h Q :=
 xs_ok (H := lock_Locks_Has.H) (lcuts := lock_Locks_Has.lc) (rcuts := lock_Locks_Has.rc) (fn := Try.f15) mixed Try.func15 2000 _ _ _ (@cast (lock_Locks_Has.L5.wp client out out_n out_c t17 h Q) _ (by kernel_rfl) hk)

/-! (*gabion/lock.Locks).Ask -/
def lock_Locks_Ask.H : Hn := ⟨[], [], [⟨6, .q 0 (.q 1 (.q 2 (.q 4 (.q 3 (.q 5 (.q 6 (.q 7 (.q 8 (.q 9 (.q 10 (.q 11 (.q 12 (.q 13 (.q 14 (.q 15 (.q 16 (.q 17 (.q 18 (.q 19 (.q 20 (.q 21 (.q 22 (.q 23 (.q 25 (.q 26 (.ld 24 1879048192 (.q 27 (.q 28 (.q 29 (.q 30 (.nil))))))))))))))))))))))))))))))), []⟩], []⟩
def lock_Locks_Ask.lc : List Cut := []
def lock_Locks_Ask.rc : List Cut := []
def lock_Locks_Ask.wp (l : Option Addr) (client : Int) (locks : Option Addr) (locks_n : Nat) (locks_c : Nat) (h : Heap) (Q : Value → Heap → Prop) : Prop :=
 C Try.prog 19 #[.pointer l, .int .i64 client] h fun (r : Value) (h' : Heap) =>
 ∃ (x : Int),
 r = .int .i64 x ∧
 xsIf (decide (x ≠ 0)) (Q (.int .i64 x) h')
 (C Try.prog 22 #[.slice locks locks_n locks_c] h' fun (r : Value) (h' : Heap) =>
 ∃ (x : Value),
 r = x ∧
 C Try.prog 21 #[x] h' fun (r : Value) (h' : Heap) =>
 ∃ (x : Option Addr),
 ∃ (n : Nat),
 ∃ (m : Nat),
 r = .slice x n m ∧
 C Try.prog 20 #[.slice x n m] h' fun (r : Value) (h' : Heap) =>
 ∃ (x : Option Addr),
 ∃ (n : Nat),
 ∃ (m : Nat),
 r = .slice x n m ∧
 C Try.prog 15 #[.pointer l, .int .i64 client] h' fun (r : Value) (h' : Heap) =>
 ∃ (x_1 : Option Addr),
 ∃ (n_1 : Nat),
 ∃ (m_1 : Nat),
 r = .slice x_1 n_1 m_1 ∧
 atBase l fun (b o : Nat) =>
 ∃ (x_2 : Option Addr),
 ∃ (n_2 : Nat),
 ∃ (m_2 : Nat),
 h'.cell b (o + 1) = some (.slice x_2 n_2 m_2) ∧
 (0 ≤ client ∧ client < (↑n_2 : Int)) ∧
 atBase x_2 fun (b o : Nat) =>
 ∃ (x_3 : Option Addr),
 ∃ (n_3 : Nat),
 ∃ (m_3 : Nat),
 h'.cell b (o + client.toNat * 1) = some (.slice x_3 n_3 m_3) ∧
 xsIf (decide (0 < (↑n_3 : Int))) (Q (.int .i64 8) h')
 (xsIf (decide (0 < (↑n_1 : Int)))
 (xsIf (decide (0 < (↑n : Int)))
 ((0 ≤ IntKind.i64.wrap ((↑n_1 : Int) - 1) ∧ IntKind.i64.wrap ((↑n_1 : Int) - 1) < (↑n_1 : Int)) ∧
 atBase x_1 fun (b o : Nat) =>
 ((0 : Int) ≤ 0 ∧ (0 : Int) < (↑n : Int)) ∧
 atBase x fun (b_1 o_1 : Nat) =>
 ∃ (x_4 : Int),
 h'.cell b (o + (IntKind.i64.wrap ((↑n_1 : Int) - 1)).toNat * 1) = some (.int .i64 x_4) ∧
 ∃ (x_5 : Int),
 h'.cell b_1 (o_1 + 0) = some (.int .i64 x_5) ∧
 xsIf (decide (x_5 ≤ x_4)) (Q (.int .i64 8) h')
 (atBase l fun (b o : Nat) =>
 ∃ (x_6 : Option Addr),
 ∃ (n_4 : Nat),
 ∃ (m_4 : Nat),
 h'.cell b (o + 1) = some (.slice x_6 n_4 m_4) ∧
 (0 ≤ client ∧ client < (↑n_4 : Int)) ∧
 atBase x_6 fun (b o : Nat) =>
 h'.can b (o + client.toNat * 1) 1 ∧ Q (.int .i64 0) (h'.put b (o + client.toNat * 1) [.slice x n m])))
 (atBase l fun (b o : Nat) =>
 ∃ (x_4 : Option Addr),
 ∃ (n_4 : Nat),
 ∃ (m_4 : Nat),
 h'.cell b (o + 1) = some (.slice x_4 n_4 m_4) ∧
 (0 ≤ client ∧ client < (↑n_4 : Int)) ∧
 atBase x_4 fun (b o : Nat) => h'.can b (o + client.toNat * 1) 1 ∧ Q (.int .i64 0) (h'.put b (o + client.toNat * 1) [.slice x n m])))
 (atBase l fun (b o : Nat) =>
 ∃ (x_4 : Option Addr),
 ∃ (n_4 : Nat),
 ∃ (m_4 : Nat),
 h'.cell b (o + 1) = some (.slice x_4 n_4 m_4) ∧
 (0 ≤ client ∧ client < (↑n_4 : Int)) ∧
 atBase x_4 fun (b o : Nat) => h'.can b (o + client.toNat * 1) 1 ∧ Q (.int .i64 0) (h'.put b (o + client.toNat * 1) [.slice x n m]))))
theorem lock_Locks_Ask.ok {l : Option Addr} {client : Int} {locks : Option Addr} {locks_n : Nat} {locks_c : Nat} {h : Heap} {Q : Value → Heap → Prop} (hk : lock_Locks_Ask.wp l client locks locks_n locks_c h Q) : C Try.prog 8 #[.pointer l, .int .i64 client, .slice locks locks_n locks_c] h Q :=
 C_of_xs (H := lock_Locks_Ask.H) (lcuts := lock_Locks_Ask.lc) (rcuts := lock_Locks_Ask.rc) (l := [.pointer l, .int .i64 client, .slice locks locks_n locks_c]) 2000 mixed Try.func8 rfl (by kernel_rfl) (@cast (lock_Locks_Ask.wp l client locks locks_n locks_c h Q) _ (by kernel_rfl) hk)

/-! (*gabion/lock.Locks).Step -/
def lock_Locks_Step.H : Hn := ⟨[], [], [⟨6, .q 0 (.q 1 (.q 2 (.q 4 (.q 5 (.ld 3 8064 (.q 6 (.q 7 (.q 8 (.q 9 (.q 10 (.q 11 (.q 12 (.nil))))))))))))), []⟩, ⟨8, .q 0 (.q 1 (.q 2 (.q 4 (.q 5 (.q 7 (.ld 3 256 (.q 6 (.q 8 (.nil))))))))), []⟩, ⟨9, .q 0 (.q 1 (.q 2 (.q 4 (.q 5 (.q 6 (.q 3 (.q 7 (.q 8 (.nil))))))))), []⟩], []⟩
def lock_Locks_Step.lc : List Cut := []
def lock_Locks_Step.rc : List Cut := []
def lock_Locks_Step.wp (l : Option Addr) (client : Int) (h : Heap) (Q : Value → Heap → Prop) : Prop :=
 C Try.prog 19 #[.pointer l, .int .i64 client] h fun (r : Value) (h' : Heap) =>
 ∃ (x : Int),
 r = .int .i64 x ∧
 xsIf (decide (x ≠ 0)) (Q (.tuple #[.bool false, .int .i64 x]) h')
 (atBase l fun (b o : Nat) =>
 ∃ (x : Option Addr),
 ∃ (n : Nat),
 ∃ (m : Nat),
 h'.cell b (o + 1) = some (.slice x n m) ∧
 (0 ≤ client ∧ client < (↑n : Int)) ∧
 atBase x fun (b o : Nat) =>
 ∃ (x : Option Addr),
 ∃ (n : Nat),
 ∃ (m : Nat),
 h'.cell b (o + client.toNat * 1) = some (.slice x n m) ∧
 xsIf (decide (0 < (↑n : Int)))
 (atBase l fun (b o : Nat) =>
 ((0 : Int) ≤ 0 ∧ (0 : Int) < (↑n : Int)) ∧
 atBase x fun (b_1 o_1 : Nat) =>
 ∃ (x_1 : Option Nat),
 h'.cell b (o + 0) = some (Value.map x_1) ∧
 ∃ (x_2 : Int),
 h'.cell b_1 (o_1 + 0) = some (.int .i64 x_2) ∧
 atMap x_1 fun (r : Nat) =>
 ∃ (l_1 : List (Int × Value × Nat)),
 ∃ (c : Nat),
 h' r = some (mapO (.int .i64) l_1 c) ∧
 (∀ (j : Nat) (v : Value) (b : Nat),
 mnth l_1 j = some (x_2, v, b) →
 ∃ (x : Int),
 v = .int .i64 x ∧
 atBase l fun (b o : Nat) =>
 ∃ (x : Option Addr),
 ∃ (n : Nat),
 ∃ (m : Nat),
 h'.cell b (o + 1) = some (.slice x n m) ∧
 (0 ≤ client ∧ client < (↑n : Int)) ∧
 atBase x fun (b o : Nat) =>
 ∃ (x : Option Addr),
 ∃ (n : Nat),
 ∃ (m : Nat),
 h'.cell b (o + client.toNat * 1) = some (.slice x n m) ∧
 Q (.tuple #[.bool (decide ((↑n : Int) = 0)), .int .i64 0]) h') ∧
 ((∀ (j : Nat) (v : Value) (b : Nat), ¬mnth l_1 j = some (x_2, v, b)) →
 atBase l fun (b o : Nat) =>
 ((0 : Int) ≤ 0 ∧ (0 : Int) < (↑n : Int)) ∧
 atBase x fun (b_2 o_2 : Nat) =>
 ∃ (x_3 : Option Nat),
 h'.cell b (o + 0) = some (Value.map x_3) ∧
 ∃ (x_4 : Int),
 h'.cell b_2 (o_2 + 0) = some (.int .i64 x_4) ∧
 atMap x_3 fun (r : Nat) =>
 ∃ (l_2 : List (Int × Value × Nat)),
 ∃ (c : Nat),
 h' r = some (mapO (.int .i64) l_2 c) ∧
 (∀ (j : Nat) (v : Value) (b : Nat),
 mnth l_2 j = some (x_4, v, b) →
 atBase l fun (b_3 o : Nat) =>
 ((0 : Int) ≤ 1 ∧ (1 : Int) ≤ (↑n : Int)) ∧
 ∃ (x_5 : Option Addr),
 ∃ (n_1 : Nat),
 ∃ (m_1 : Nat),
 (upd h' r (mapO (.int .i64) (mset l_2 j (x_4, .int .i64 client, b)) c)).cell b_3 (o + 1) =
 some (.slice x_5 n_1 m_1) ∧
 (0 ≤ client ∧ client < (↑n_1 : Int)) ∧
 atBase x_5 fun (b_4 o : Nat) =>
 (upd h' r (mapO (.int .i64) (mset l_2 j (x_4, .int .i64 client, b)) c)).can b_4 (o + client.toNat * 1) 1 ∧
 atBase l fun (b_5 o_3 : Nat) =>
 ∃ (x_6 : Option Addr),
 ∃ (n_2 : Nat),
 ∃ (m_2 : Nat),
 ((upd h' r (mapO (.int .i64) (mset l_2 j (x_4, .int .i64 client, b)) c)).put b_4 (o + client.toNat * 1)
 [.slice (slBase x (↑m : Int) 1 1) ((↑n : Int) - 1).toNat ((↑m : Int) - 1).toNat]).cell
 b_5 (o_3 + 1) =
 some (.slice x_6 n_2 m_2) ∧
 (0 ≤ client ∧ client < (↑n_2 : Int)) ∧
 atBase x_6 fun (b_6 o_4 : Nat) =>
 ∃ (x_7 : Option Addr),
 ∃ (n_3 : Nat),
 ∃ (m_3 : Nat),
 ((upd h' r (mapO (.int .i64) (mset l_2 j (x_4, .int .i64 client, b)) c)).put b_4
 (o + client.toNat * 1)
 [.slice (slBase x (↑m : Int) 1 1) ((↑n : Int) - 1).toNat ((↑m : Int) - 1).toNat]).cell
 b_6 (o_4 + client.toNat * 1) =
 some (.slice x_7 n_3 m_3) ∧
 Q (.tuple #[.bool (decide ((↑n_3 : Int) = 0)), .int .i64 0])
 ((upd h' r (mapO (.int .i64) (mset l_2 j (x_4, .int .i64 client, b)) c)).put b_4
 (o + client.toNat * 1)
 [.slice (slBase x (↑m : Int) 1 1) ((↑n : Int) - 1).toNat ((↑m : Int) - 1).toNat])) ∧
 ((∀ (j : Nat) (v : Value) (b : Nat), ¬mnth l_2 j = some (x_4, v, b)) →
 atBase l fun (b o : Nat) =>
 ((0 : Int) ≤ 1 ∧ (1 : Int) ≤ (↑n : Int)) ∧
 ∃ (x_5 : Option Addr),
 ∃ (n_1 : Nat),
 ∃ (m_1 : Nat),
 (upd h' r (mapO (.int .i64) (madd l_2 (x_4, .int .i64 client, c)) (c + 1))).cell b (o + 1) =
 some (.slice x_5 n_1 m_1) ∧
 (0 ≤ client ∧ client < (↑n_1 : Int)) ∧
 atBase x_5 fun (b o : Nat) =>
 (upd h' r (mapO (.int .i64) (madd l_2 (x_4, .int .i64 client, c)) (c + 1))).can b (o + client.toNat * 1) 1 ∧
 atBase l fun (b_3 o_3 : Nat) =>
 ∃ (x_6 : Option Addr),
 ∃ (n_2 : Nat),
 ∃ (m_2 : Nat),
 ((upd h' r (mapO (.int .i64) (madd l_2 (x_4, .int .i64 client, c)) (c + 1))).put b (o + client.toNat * 1)
 [.slice (slBase x (↑m : Int) 1 1) ((↑n : Int) - 1).toNat ((↑m : Int) - 1).toNat]).cell
 b_3 (o_3 + 1) =
 some (.slice x_6 n_2 m_2) ∧
 (0 ≤ client ∧ client < (↑n_2 : Int)) ∧
 atBase x_6 fun (b_4 o_4 : Nat) =>
 ∃ (x_7 : Option Addr),
 ∃ (n_3 : Nat),
 ∃ (m_3 : Nat),
 ((upd h' r (mapO (.int .i64) (madd l_2 (x_4, .int .i64 client, c)) (c + 1))).put b
 (o + client.toNat * 1)
 [.slice (slBase x (↑m : Int) 1 1) ((↑n : Int) - 1).toNat ((↑m : Int) - 1).toNat]).cell
 b_4 (o_4 + client.toNat * 1) =
 some (.slice x_7 n_3 m_3) ∧
 Q (.tuple #[.bool (decide ((↑n_3 : Int) = 0)), .int .i64 0])
 ((upd h' r (mapO (.int .i64) (madd l_2 (x_4, .int .i64 client, c)) (c + 1))).put b
 (o + client.toNat * 1) [.slice (slBase x (↑m : Int) 1 1) ((↑n : Int) - 1).toNat ((↑m : Int) - 1).toNat]))))
 (atBase l fun (b o : Nat) =>
 ∃ (x : Option Addr),
 ∃ (n : Nat),
 ∃ (m : Nat),
 h'.cell b (o + 1) = some (.slice x n m) ∧
 (0 ≤ client ∧ client < (↑n : Int)) ∧
 atBase x fun (b o : Nat) =>
 ∃ (x : Option Addr),
 ∃ (n : Nat), ∃ (m : Nat), h'.cell b (o + client.toNat * 1) = some (.slice x n m) ∧ Q (.tuple #[.bool (decide ((↑n : Int) = 0)), .int .i64 0]) h'))
theorem lock_Locks_Step.ok {l : Option Addr} {client : Int} {h : Heap} {Q : Value → Heap → Prop} (hk : lock_Locks_Step.wp l client h Q) : C Try.prog 12 #[.pointer l, .int .i64 client] h Q :=
 C_of_xs (H := lock_Locks_Step.H) (lcuts := lock_Locks_Step.lc) (rcuts := lock_Locks_Step.rc) (l := [.pointer l, .int .i64 client]) 2000 mixed Try.func12 rfl (by kernel_rfl) (@cast (lock_Locks_Step.wp l client h Q) _ (by kernel_rfl) hk)

/-! (*gabion/lock.Locks).Waits -/
def lock_Locks_Waits.H : Hn := ⟨[], [], [⟨3, .q 0 (.q 1 (.q 2 (.q 4 (.q 5 (.q 6 (.q 8 (.ld 3 516096 (.q 7 (.q 9 (.q 10 (.q 11 (.q 12 (.q 13 (.q 14 (.q 15 (.q 16 (.q 17 (.q 18 (.nil))))))))))))))))))), []⟩], []⟩
def lock_Locks_Waits.lc : List Cut := []
def lock_Locks_Waits.rc : List Cut := [⟨3, [0, 1], []⟩]
def lock_Locks_Waits.J3 (l : Option Addr) (client : Int) (h : Heap) (Q : Value → Heap → Prop) : Prop :=
 TW Try.prog 17 42 [.code (cAt (bodyOf Try.f17) [1, 1, 0]), .code (cAt (bodyOf Try.f17) [1, 1, 1])] ⟨[(0, .v (.pointer l)), (1, .v (.int .i64 client))], [], .plain⟩ h Q
def lock_Locks_Waits.wp (l : Option Addr) (client : Int) (h : Heap) (Q : Value → Heap → Prop) : Prop :=
 C Try.prog 19 #[.pointer l, .int .i64 client] h fun (r : Value) (h' : Heap) =>
 ∃ (x : Int),
 r = .int .i64 x ∧
 xsIf (decide (x ≠ 0)) (Q (.int .i64 (-1)) h')
 (atBase l fun (b o : Nat) =>
 ∃ (x : Option Addr),
 ∃ (n : Nat),
 ∃ (m : Nat),
 h'.cell b (o + 1) = some (.slice x n m) ∧
 (0 ≤ client ∧ client < (↑n : Int)) ∧
 atBase x fun (b o : Nat) =>
 ∃ (x : Option Addr), ∃ (n : Nat), ∃ (m : Nat), h'.cell b (o + client.toNat * 1) = some (.slice x n m) ∧ xsIf (decide ((↑n : Int) = 0)) (Q (.int .i64 (-1)) h') (lock_Locks_Waits.J3 l client h' Q))
def lock_Locks_Waits.J3.wp (l : Option Addr) (client : Int) (h : Heap) (Q : Value → Heap → Prop) : Prop :=
 atBase l fun (b o : Nat) =>
 atBase l fun (b_1 o_1 : Nat) =>
 ∃ (x : Option Nat),
 h.cell b (o + 0) = some (Value.map x) ∧
 ∃ (x_1 : Option Addr),
 ∃ (n : Nat),
 ∃ (m : Nat),
 h.cell b_1 (o_1 + 1) = some (.slice x_1 n m) ∧
 (0 ≤ client ∧ client < (↑n : Int)) ∧
 atBase x_1 fun (b o : Nat) =>
 ∃ (x_2 : Option Addr),
 ∃ (n : Nat),
 ∃ (m : Nat),
 h.cell b (o + client.toNat * 1) = some (.slice x_2 n m) ∧
 ((0 : Int) ≤ 0 ∧ (0 : Int) < (↑n : Int)) ∧
 atBase x_2 fun (b o : Nat) =>
 ∃ (x_3 : Int),
 h.cell b (o + 0) = some (.int .i64 x_3) ∧
 atMap x fun (r : Nat) =>
 ∃ (l : List (Int × Value × Nat)),
 ∃ (c : Nat),
 h r = some (mapO (.int .i64) l c) ∧
 (∀ (j : Nat) (v : Value) (b : Nat), mnth l j = some (x_3, v, b) → ∃ (x : Int), v = .int .i64 x ∧ Q (.int .i64 x) h) ∧
 ((∀ (j : Nat) (v : Value) (b : Nat), ¬mnth l j = some (x_3, v, b)) → Q (.int .i64 (-1)) h)
theorem lock_Locks_Waits.ok {l : Option Addr} {client : Int} {h : Heap} {Q : Value → Heap → Prop} (hk : lock_Locks_Waits.wp l client h Q) : C Try.prog 17 #[.pointer l, .int .i64 client] h Q :=
 C_of_xs (H := lock_Locks_Waits.H) (lcuts := lock_Locks_Waits.lc) (rcuts := lock_Locks_Waits.rc) (l := [.pointer l, .int .i64 client]) 2000 mixed Try.func17 rfl (by kernel_rfl) (@cast (lock_Locks_Waits.wp l client h Q) _ (by kernel_rfl) hk)
theorem lock_Locks_Waits.J3.ok {l : Option Addr} {client : Int} {h : Heap} {Q : Value → Heap → Prop} (hk : lock_Locks_Waits.J3.wp l client h Q) : lock_Locks_Waits.J3 l client h Q :=
 xs_ok (H := lock_Locks_Waits.H) (lcuts := lock_Locks_Waits.lc) (rcuts := []) (fn := Try.f17) mixed Try.func17 2000 _ _ _ (@cast (lock_Locks_Waits.J3.wp l client h Q) _ (by kernel_rfl) hk)

/-! gabion/gabionlaw24.wakes -/
def gabionlaw24_wakes.H : Hn := ⟨[], [], [], []⟩
def gabionlaw24_wakes.lc : List Cut := []
def gabionlaw24_wakes.rc : List Cut := []
def gabionlaw24_wakes.wp  (h : Heap) (Q : Value → Heap → Prop) : Prop :=
 C Try.prog 6 #[.int .i64 2] h fun (r : Value) (h' : Heap) =>
 ∃ (x : Option Addr),
 ∃ (x_1 : Int),
 r = .tuple #[.pointer x, .int .i64 x_1] ∧
 ∀ (b : Nat),
 h' b = none →
 C Try.prog 8 #[.pointer x, .int .i64 0, .slice (some { block := b, off := 0 }) 3 3]
 (upd h' b (Obj.cells #[.int .i64 2, .int .i64 1, .int .i64 2] 3 (0, 0))) fun (r : Value) (h' : Heap) =>
 ∃ (x_2 : Int),
 r = .int .i64 x_2 ∧
 ∀ (b : Nat),
 h' b = none →
 C Try.prog 8 #[.pointer x, .int .i64 1, .slice (some { block := b, off := 0 }) 1 1] (upd h' b (Obj.cells #[.int .i64 1] 3 (0, 0)))
 fun (r : Value) (h' : Heap) =>
 ∃ (x_3 : Int),
 r = .int .i64 x_3 ∧
 C Try.prog 12 #[.pointer x, .int .i64 0] h' fun (r : Value) (h' : Heap) =>
 ∃ (x_4 : Bool),
 ∃ (x_5 : Int),
 r = .tuple #[.bool x_4, .int .i64 x_5] ∧
 C Try.prog 12 #[.pointer x, .int .i64 1] h' fun (r : Value) (h' : Heap) =>
 ∃ (x_6 : Bool),
 ∃ (x_7 : Int),
 r = .tuple #[.bool x_6, .int .i64 x_7] ∧
 C Try.prog 12 #[.pointer x, .int .i64 0] h' fun (r : Value) (h' : Heap) =>
 ∃ (x_8 : Bool),
 ∃ (x_9 : Int),
 r = .tuple #[.bool x_8, .int .i64 x_9] ∧
 xsIf (decide (x_1 = 0))
 (xsIf (decide (x_2 = 0))
 (xsIf (decide (x_3 = 0))
 (xsIf (!x_4)
 (xsIf (!x_6)
 (xsIf x_8
 (C Try.prog 17 #[.pointer x, .int .i64 1] h' fun (r : Value) (h' : Heap) =>
 ∃ (x_10 : Int),
 r = .int .i64 x_10 ∧
 xsIf (decide (x_10 = 0))
 (C Try.prog 17 #[.pointer x, .int .i64 0] h' fun (r : Value) (h' : Heap) =>
 ∃ (x_11 : Int),
 r = .int .i64 x_11 ∧
 xsIf (decide (x_11 = -1))
 (C Try.prog 15 #[.pointer x, .int .i64 0] h' fun (r : Value) (h' : Heap) =>
 ∃ (x : Option Addr), ∃ (n : Nat), ∃ (m : Nat), r = .slice x n m ∧ Q (.bool (decide ((↑n : Int) = 2))) h')
 (Q (.bool false) h'))
 (Q (.bool false) h'))
 (Q (.bool false) h'))
 (Q (.bool false) h'))
 (Q (.bool false) h'))
 (Q (.bool false) h'))
 (Q (.bool false) h'))
 (Q (.bool false) h')
theorem gabionlaw24_wakes.ok {h : Heap} {Q : Value → Heap → Prop} (hk : gabionlaw24_wakes.wp h Q) : C Try.prog 7 #[] h Q :=
 C_of_xs (H := gabionlaw24_wakes.H) (lcuts := gabionlaw24_wakes.lc) (rcuts := gabionlaw24_wakes.rc) (l := []) 2000 mixed Try.func7 rfl (by kernel_rfl) (@cast (gabionlaw24_wakes.wp h Q) _ (by kernel_rfl) hk)

/-! gabion/gabionref24.bad -/
/-! gabion/gabionref24.of -/
/-! gabion/gabionref24.Had -/
/-! gabion/gabionref24.Wanted -/
/-! gabion/gabionref24.Ask -/
/-! (*gabion/lock.Locks).Drop$1 -/
def lock_Locks_Drop_1.H : Hn := ⟨[], [], [], []⟩
def lock_Locks_Drop_1.lc : List Cut := []
def lock_Locks_Drop_1.rc : List Cut := []
def lock_Locks_Drop_1.wp (_0 : Int) (owner : Int) (t2 : Nat) (h : Heap) (Q : Value → Heap → Prop) : Prop :=
 ∃ (x : Int), h.cell t2 0 = some (.int .i64 x) ∧ Q (.bool (decide (owner = x))) h
theorem lock_Locks_Drop_1.ok {_0 : Int} {owner : Int} {t2 : Nat} {h : Heap} {Q : Value → Heap → Prop} (hk : lock_Locks_Drop_1.wp _0 owner t2 h Q) : C Try.prog 26 #[.int .i64 _0, .int .i64 owner, .pointer (some ⟨t2, 0, none⟩)] h Q :=
 C_of_xs (H := lock_Locks_Drop_1.H) (lcuts := lock_Locks_Drop_1.lc) (rcuts := lock_Locks_Drop_1.rc) (l := [.int .i64 _0, .int .i64 owner, .pointer (some ⟨t2, 0, none⟩)]) 2000 mixed Try.func26 rfl (by kernel_rfl) (@cast (lock_Locks_Drop_1.wp _0 owner t2 h Q) _ (by kernel_rfl) hk)

/-! maps.DeleteFunc[map[int]int,int,int] -/
def maps_DeleteFunc_map_int_int_int_int.H : Hn := ⟨[], [], [], [(7, 53)]⟩
def maps_DeleteFunc_map_int_int_int_int.lc : List Cut := [⟨1, [0, 1, 7], []⟩]
def maps_DeleteFunc_map_int_int_int_int.rc : List Cut := []
def maps_DeleteFunc_map_int_int_int_int.L1 (m : Option Nat) (del : Nat) (del_a : Array Value) (del_c : Array Value) (t7 : Nat) (h : Heap) (Q : Value → Heap → Prop) : Prop :=
 TW Try.prog 25 19 [.code (cAt (bodyOf Try.f25) [1, 0, 0]), .inLoop (cAt (bodyOf Try.f25) [1, 0, 0]), .inBlock 0] ⟨[(0, .v (.map m)), (1, .v (.func (.func del) del_a del_c)), (7, .v (.pointer (some ⟨t7, 0, none⟩)))], [], .plain⟩ h Q
def maps_DeleteFunc_map_int_int_int_int.wp (m : Option Nat) (del : Nat) (del_a : Array Value) (del_c : Array Value) (h : Heap) (Q : Value → Heap → Prop) : Prop :=
 atMap m fun (r : Nat) => ∃ (l : List (Int × Value × Nat)), ∃ (c : Nat), h r = some (mapO (.int .i64) l c) ∧ ∀ (b : Nat), h b = none → maps_DeleteFunc_map_int_int_int_int.L1 m del del_a del_c b (upd h b (iterO r c [] c)) Q
def maps_DeleteFunc_map_int_int_int_int.L1.wp (m : Option Nat) (del : Nat) (del_a : Array Value) (del_c : Array Value) (t7 : Nat) (h : Heap) (Q : Value → Heap → Prop) : Prop :=
 atBase (some { block := t7, off := 0 }) fun (b o : Nat) =>
 o = 0 ∧
 ∃ (r : Nat),
 ∃ (since : Nat),
 ∃ (c0 : Nat),
 ∃ (seen : List Nat),
 h b = some (iterO r since seen c0) ∧
 ∃ (l : List (Int × Value × Nat)),
 ∃ (c : Nat),
 h r = some (mapO (.int .i64) l c) ∧
 (∀ (j : Nat) (n : Int) (v : Value) (b' : Nat), mnth l j = some (n, v, b') → b' < since) ∧
 since ≤ c0 ∧
 (∀ (j : Nat) (n : Int) (v : Value) (b' : Nat),
 mnth l j = some (n, v, b') →
 List.elem b' seen = false →
 ∃ (x : Int),
 v = .int .i64 x ∧
 atBase (some { block := t7, off := 0 }) fun (b_1 o : Nat) =>
 o = 0 ∧
 ∃ (r_1 : Nat),
 ∃ (since_1 : Nat),
 ∃ (c_1 : Nat),
 ∃ (seen_1 : List Nat),
 ∃ (l : List (Int × Value × Nat)),
 ∃ (j : Nat),
 ∃ (n : Int),
 ∃ (v : Value),
 ∃ (b'_1 : Nat),
 upd h b (iterO r since (snoc seen b') c) b_1 = some (iterO r_1 since_1 (snoc seen_1 b'_1) c_1) ∧
 upd h b (iterO r since (snoc seen b') c) r_1 = some (mapO (.int .i64) l c_1) ∧
 mnth l j = some (n, v, b'_1) ∧
 (∀ (i : Nat) (n2 : Int) (v2 : Value), mnth l i = some (n2, v2, b'_1) → i = j) ∧
 ∃ (x : Int),
 v = .int .i64 x ∧
 xsIf (goOk Try.prog del)
 (C Try.prog del (List.toArray (del_a.toList ++ [.int .i64 n, .int .i64 x] ++ del_c.toList)) (upd h b (iterO r since (snoc seen b') c))
 fun (r : Value) (h' : Heap) =>
 ∃ (x : Bool),
 r = .bool x ∧
 xsIf x
 (atMap m fun (r : Nat) =>
 ∃ (l : List (Int × Value × Nat)),
 ∃ (c : Nat),
 h' r = some (mapO (.int .i64) l c) ∧
 (∀ (j : Nat) (v : Value) (b : Nat),
 mnth l j = some (n, v, b) → maps_DeleteFunc_map_int_int_int_int.L1 m del del_a del_c t7 (upd h' r (mapO (.int .i64) (mdel l j) c)) Q) ∧
 ((∀ (j : Nat) (v : Value) (b : Nat), ¬mnth l j = some (n, v, b)) →
 maps_DeleteFunc_map_int_int_int_int.L1 m del del_a del_c t7 (upd h' r (mapO (.int .i64) l c)) Q))
 (maps_DeleteFunc_map_int_int_int_int.L1 m del del_a del_c t7 h' Q))
 False) ∧
 ((∀ (j : Nat) (n : Int) (v : Value) (b' : Nat), mnth l j = some (n, v, b') → List.elem b' seen = true) → Q (.tuple #[]) h)
theorem maps_DeleteFunc_map_int_int_int_int.ok {m : Option Nat} {del : Nat} {del_a : Array Value} {del_c : Array Value} {h : Heap} {Q : Value → Heap → Prop} (hk : maps_DeleteFunc_map_int_int_int_int.wp m del del_a del_c h Q) : C Try.prog 25 #[.map m, .func (.func del) del_a del_c] h Q :=
 C_of_xs (H := maps_DeleteFunc_map_int_int_int_int.H) (lcuts := maps_DeleteFunc_map_int_int_int_int.lc) (rcuts := maps_DeleteFunc_map_int_int_int_int.rc) (l := [.map m, .func (.func del) del_a del_c]) 2000 mixed Try.func25 rfl (by kernel_rfl) (@cast (maps_DeleteFunc_map_int_int_int_int.wp m del del_a del_c h Q) _ (by kernel_rfl) hk)
theorem maps_DeleteFunc_map_int_int_int_int.L1.ok {m : Option Nat} {del : Nat} {del_a : Array Value} {del_c : Array Value} {t7 : Nat} {h : Heap} {Q : Value → Heap → Prop} (hk : maps_DeleteFunc_map_int_int_int_int.L1.wp m del del_a del_c t7 h Q) : maps_DeleteFunc_map_int_int_int_int.L1 m del del_a del_c t7 h Q :=
 xs_ok (H := maps_DeleteFunc_map_int_int_int_int.H) (lcuts := maps_DeleteFunc_map_int_int_int_int.lc) (rcuts := maps_DeleteFunc_map_int_int_int_int.rc) (fn := Try.f25) mixed Try.func25 2000 _ _ _ (@cast (maps_DeleteFunc_map_int_int_int_int.L1.wp m del del_a del_c t7 h Q) _ (by kernel_rfl) hk)

/-! (*gabion/lock.Locks).Drop -/
def lock_Locks_Drop.H : Hn := ⟨[3], [], [⟨4, .q 0 (.q 1 (.q 2 (.ld 3 96 (.q 4 (.q 5 (.q 6 (.nil))))))), []⟩], []⟩
def lock_Locks_Drop.lc : List Cut := []
def lock_Locks_Drop.rc : List Cut := []
def lock_Locks_Drop.wp (l : Option Addr) (client : Int) (h : Heap) (Q : Value → Heap → Prop) : Prop :=
 ∀ (b : Nat),
 h b = none →
 ∃ (x : Int),
 (upd h b (Obj.cells #[.int .i64 client] 3 (0, 0))).cell b 0 = some (.int .i64 x) ∧
 C Try.prog 19 #[.pointer l, .int .i64 x] (upd h b (Obj.cells #[.int .i64 client] 3 (0, 0))) fun (r : Value) (h' : Heap) =>
 ∃ (x : Int),
 r = .int .i64 x ∧
 xsIf (decide (x ≠ 0)) (Q (.int .i64 x) h')
 (atBase l fun (b_1 o : Nat) =>
 ∃ (x : Option Addr),
 ∃ (n : Nat),
 ∃ (m : Nat),
 h'.cell b_1 (o + 1) = some (.slice x n m) ∧
 ∃ (x_1 : Int),
 h'.cell b 0 = some (.int .i64 x_1) ∧
 (0 ≤ x_1 ∧ x_1 < (↑n : Int)) ∧
 atBase x fun (b_2 o : Nat) =>
 h'.can b_2 (o + x_1.toNat * 1) 1 ∧
 atBase l fun (b_3 o_1 : Nat) =>
 ∃ (x : Option Nat),
 (h'.put b_2 (o + x_1.toNat * 1) [.slice none 0 0]).cell b_3 (o_1 + 0) = some (Value.map x) ∧
 C Try.prog 25 #[Value.map x, .func (Fn.func 26) #[] #[.pointer (some { block := b, off := 0 })]]
 (h'.put b_2 (o + x_1.toNat * 1) [.slice none 0 0]) fun (r : Value) (h' : Heap) => Q (.int .i64 0) h')
theorem lock_Locks_Drop.ok {l : Option Addr} {client : Int} {h : Heap} {Q : Value → Heap → Prop} (hk : lock_Locks_Drop.wp l client h Q) : C Try.prog 10 #[.pointer l, .int .i64 client] h Q :=
 C_of_xs (H := lock_Locks_Drop.H) (lcuts := lock_Locks_Drop.lc) (rcuts := lock_Locks_Drop.rc) (l := [.pointer l, .int .i64 client]) 2000 mixed Try.func10 rfl (by kernel_rfl) (@cast (lock_Locks_Drop.wp l client h Q) _ (by kernel_rfl) hk)

/-! gabion/gabionref24.without -/
/-! gabion/gabionref24.Drop -/
/-! gabion/gabionref24.Owner -/
/-! gabion/gabionref24.Step -/
/-! gabion/gabionlaw24.equal -/
/-! gabion/gabionref24.Waits -/
/-! gabion/gabionlaw24.LockPlays -/
/-! gabion/gabionlaw24.LockMakes -/
/-! gabion/gabionlaw24.LockRounds -/
def gabionlaw24_LockRounds.H : Hn := ⟨[], [14], [], []⟩
def gabionlaw24_LockRounds.lc : List Cut := [⟨5, [1, 5, 36, 37, 38], []⟩, ⟨11, [5, 57, 58, 59], []⟩, ⟨15, [5, 57, 58, 59, 68], []⟩, ⟨19, [5, 12, 13, 57, 58, 59, 68], []⟩, ⟨28, [5, 14, 90], [14]⟩, ⟨30, [5, 14, 90, 92], [14]⟩]
def gabionlaw24_LockRounds.rc : List Cut := [⟨4, [0, 1, 5], []⟩, ⟨23, [5, 12, 13, 57, 58, 59, 68], []⟩]
def gabionlaw24_LockRounds.J4 (asks : Option Addr) (asks_n : Nat) (asks_c : Nat) (picks : Option Addr) (picks_n : Nat) (picks_c : Nat) (l : Option Addr) (h : Heap) (Q : Value → Heap → Prop) : Prop :=
 TW Try.prog 5 114 [.code (cAt (bodyOf Try.f5) [1, 1, 1, 0, 0]), .code (cAt (bodyOf Try.f5) [1, 1, 1, 0, 1]), .code (cAt (bodyOf Try.f5) [1, 1, 1, 1])] ⟨[(0, .v (.slice asks asks_n asks_c)), (1, .v (.slice picks picks_n picks_c)), (5, .v (.pointer l))], [], .plain⟩ h Q
def gabionlaw24_LockRounds.L5 (picks : Option Addr) (picks_n : Nat) (picks_c : Nat) (l : Option Addr) (t36 : Option Addr) (t36_n : Nat) (t36_c : Nat) (t37 : Int) (t38 : Int) (h : Heap) (Q : Value → Heap → Prop) : Prop :=
 TW Try.prog 5 114 [.code (cAt (bodyOf Try.f5) [1, 1, 1, 0, 1, 0, 0]), .inLoop (cAt (bodyOf Try.f5) [1, 1, 1, 0, 1, 0, 0]), .inBlock 0, .code (cAt (bodyOf Try.f5) [1, 1, 1, 1])] ⟨[(1, .v (.slice picks picks_n picks_c)), (5, .v (.pointer l)), (36, .v (.slice t36 t36_n t36_c)), (37, .v (.int .i64 t37)), (38, .v (.int .i64 t38))], [], .plain⟩ h Q
def gabionlaw24_LockRounds.L11 (l : Option Addr) (t57 : Option Addr) (t57_n : Nat) (t57_c : Nat) (t58 : Int) (t59 : Int) (h : Heap) (Q : Value → Heap → Prop) : Prop :=
 TW Try.prog 5 114 [.code (cAt (bodyOf Try.f5) [1, 1, 1, 1, 0, 1, 0, 0]), .inLoop (cAt (bodyOf Try.f5) [1, 1, 1, 1, 0, 1, 0, 0]), .inBlock 2, .code (cAt (bodyOf Try.f5) [1, 1, 1, 1, 1])] ⟨[(5, .v (.pointer l)), (57, .v (.slice t57 t57_n t57_c)), (58, .v (.int .i64 t58)), (59, .v (.int .i64 t59))], [], .plain⟩ h Q
def gabionlaw24_LockRounds.L15 (l : Option Addr) (t57 : Option Addr) (t57_n : Nat) (t57_c : Nat) (t58 : Int) (t59 : Int) (t68 : Int) (h : Heap) (Q : Value → Heap → Prop) : Prop :=
 TW Try.prog 5 114 [.code (cAt (bodyOf Try.f5) [1, 1, 1, 1, 0, 1, 0, 0, 1, 1, 0, 0, 1, 1, 1, 0, 0]), .inLoop (cAt (bodyOf Try.f5) [1, 1, 1, 1, 0, 1, 0, 0, 1, 1, 0, 0, 1, 1, 1, 0, 0]), .inBlock 4, .inBlock 3, .code (cAt (bodyOf Try.f5) [1, 1, 1, 1, 0, 1, 0, 0, 1, 1, 1]), .inLoop (cAt (bodyOf Try.f5) [1, 1, 1, 1, 0, 1, 0, 0]), .inBlock 2, .code (cAt (bodyOf Try.f5) [1, 1, 1, 1, 1])] ⟨[(5, .v (.pointer l)), (57, .v (.slice t57 t57_n t57_c)), (58, .v (.int .i64 t58)), (59, .v (.int .i64 t59)), (68, .v (.int .i64 t68))], [], .plain⟩ h Q
def gabionlaw24_LockRounds.L19 (l : Option Addr) (at0 : Int) (steps : Int) (t57 : Option Addr) (t57_n : Nat) (t57_c : Nat) (t58 : Int) (t59 : Int) (t68 : Int) (h : Heap) (Q : Value → Heap → Prop) : Prop :=
 TW Try.prog 5 114 [.code (cAt (bodyOf Try.f5) [1, 1, 1, 1, 0, 1, 0, 0, 1, 1, 0, 0, 1, 1, 1, 0, 0, 1, 1, 0, 0, 1, 1, 1, 0, 0]), .inLoop (cAt (bodyOf Try.f5) [1, 1, 1, 1, 0, 1, 0, 0, 1, 1, 0, 0, 1, 1, 1, 0, 0, 1, 1, 0, 0, 1, 1, 1, 0, 0]), .inBlock 6, .inBlock 5, .code (cAt (bodyOf Try.f5) [1, 1, 1, 1, 0, 1, 0, 0, 1, 1, 0, 0, 1, 1, 1, 0, 0, 1, 1, 1]), .inLoop (cAt (bodyOf Try.f5) [1, 1, 1, 1, 0, 1, 0, 0, 1, 1, 0, 0, 1, 1, 1, 0, 0]), .inBlock 4, .inBlock 3, .code (cAt (bodyOf Try.f5) [1, 1, 1, 1, 0, 1, 0, 0, 1, 1, 1]), .inLoop (cAt (bodyOf Try.f5) [1, 1, 1, 1, 0, 1, 0, 0]), .inBlock 2, .code (cAt (bodyOf Try.f5) [1, 1, 1, 1, 1])] ⟨[(5, .v (.pointer l)), (12, .v (.int .i64 at0)), (13, .v (.int .i64 steps)), (57, .v (.slice t57 t57_n t57_c)), (58, .v (.int .i64 t58)), (59, .v (.int .i64 t59)), (68, .v (.int .i64 t68))], [], .plain⟩ h Q
def gabionlaw24_LockRounds.J23 (l : Option Addr) (at0 : Int) (steps : Int) (t57 : Option Addr) (t57_n : Nat) (t57_c : Nat) (t58 : Int) (t59 : Int) (t68 : Int) (h : Heap) (Q : Value → Heap → Prop) : Prop :=
 TW Try.prog 5 114 [.code (cAt (bodyOf Try.f5) [1, 1, 1, 1, 0, 1, 0, 0, 1, 1, 0, 0, 1, 1, 1, 0, 0, 1, 1, 0, 0, 1, 1, 1, 0, 0, 1, 0, 0, 1]), .inBlock 7, .code (cAt (bodyOf Try.f5) [1, 1, 1, 1, 0, 1, 0, 0, 1, 1, 0, 0, 1, 1, 1, 0, 0, 1, 1, 0, 0, 1, 1, 1, 0, 0, 1, 1]), .inLoop (cAt (bodyOf Try.f5) [1, 1, 1, 1, 0, 1, 0, 0, 1, 1, 0, 0, 1, 1, 1, 0, 0, 1, 1, 0, 0, 1, 1, 1, 0, 0]), .inBlock 6, .inBlock 5, .code (cAt (bodyOf Try.f5) [1, 1, 1, 1, 0, 1, 0, 0, 1, 1, 0, 0, 1, 1, 1, 0, 0, 1, 1, 1]), .inLoop (cAt (bodyOf Try.f5) [1, 1, 1, 1, 0, 1, 0, 0, 1, 1, 0, 0, 1, 1, 1, 0, 0]), .inBlock 4, .inBlock 3, .code (cAt (bodyOf Try.f5) [1, 1, 1, 1, 0, 1, 0, 0, 1, 1, 1]), .inLoop (cAt (bodyOf Try.f5) [1, 1, 1, 1, 0, 1, 0, 0]), .inBlock 2, .code (cAt (bodyOf Try.f5) [1, 1, 1, 1, 1])] ⟨[(5, .v (.pointer l)), (12, .v (.int .i64 at0)), (13, .v (.int .i64 steps)), (57, .v (.slice t57 t57_n t57_c)), (58, .v (.int .i64 t58)), (59, .v (.int .i64 t59)), (68, .v (.int .i64 t68))], [], .plain⟩ h Q
def gabionlaw24_LockRounds.L28 (l : Option Addr) (t90 : Int) (done : List Value) (h : Heap) (Q : Value → Heap → Prop) : Prop :=
 TW Try.prog 5 114 [.code (cAt (bodyOf Try.f5) [1, 1, 1, 1, 1, 1, 0, 1, 0, 0]), .inLoop (cAt (bodyOf Try.f5) [1, 1, 1, 1, 1, 1, 0, 1, 0, 0]), .inBlock 8, .code (cAt (bodyOf Try.f5) [1, 1, 1, 1, 1, 1, 1])] ⟨[(5, .v (.pointer l)), (14, .p 14 0), (90, .v (.int .i64 t90))], [(14, done)], .plain⟩ h Q
def gabionlaw24_LockRounds.L30 (l : Option Addr) (t90 : Int) (t92 : Int) (done : List Value) (h : Heap) (Q : Value → Heap → Prop) : Prop :=
 TW Try.prog 5 114 [.code (cAt (bodyOf Try.f5) [1, 1, 1, 1, 1, 1, 0, 1, 0, 0, 1, 1, 0, 0, 1, 0, 0]), .inLoop (cAt (bodyOf Try.f5) [1, 1, 1, 1, 1, 1, 0, 1, 0, 0, 1, 1, 0, 0, 1, 0, 0]), .inBlock 10, .inBlock 9, .code (cAt (bodyOf Try.f5) [1, 1, 1, 1, 1, 1, 0, 1, 0, 0, 1, 1, 1]), .inLoop (cAt (bodyOf Try.f5) [1, 1, 1, 1, 1, 1, 0, 1, 0, 0]), .inBlock 8, .code (cAt (bodyOf Try.f5) [1, 1, 1, 1, 1, 1, 1])] ⟨[(5, .v (.pointer l)), (14, .p 14 0), (90, .v (.int .i64 t90)), (92, .v (.int .i64 t92))], [(14, done)], .plain⟩ h Q
def gabionlaw24_LockRounds.wp (asks : Option Addr) (asks_n : Nat) (asks_c : Nat) (picks : Option Addr) (picks_n : Nat) (picks_c : Nat) (h : Heap) (Q : Value → Heap → Prop) : Prop :=
 C Try.prog 6 #[.int .i64 6] h fun (r : Value) (h' : Heap) =>
 ∃ (x : Option Addr),
 ∃ (x_1 : Int),
 r = .tuple #[.pointer x, .int .i64 x_1] ∧
 C Try.prog 7 #[] h' fun (r : Value) (h' : Heap) =>
 ∃ (x_2 : Bool),
 r = .bool x_2 ∧ xsIf (!x_2) (Q (.bool false) h') (xsIf (decide (x_1 ≠ 0)) (Q (.bool false) h') (xsIf x.isNone (Q (.bool false) h') (gabionlaw24_LockRounds.J4 asks asks_n asks_c picks picks_n picks_c x h' Q)))
def gabionlaw24_LockRounds.J4.wp (asks : Option Addr) (asks_n : Nat) (asks_c : Nat) (picks : Option Addr) (picks_n : Nat) (picks_c : Nat) (l : Option Addr) (h : Heap) (Q : Value → Heap → Prop) : Prop :=
 (0 ≤ imin (↑asks_n : Int) 6 ∧ imin (↑asks_n : Int) 6 ≤ (↑asks_c : Int)) ∧
 gabionlaw24_LockRounds.L5 picks picks_n picks_c l (slBase asks (↑asks_c : Int) 0 1) (imin (↑asks_n : Int) 6 - 0).toNat ((↑asks_c : Int) - 0).toNat (↑(imin (↑asks_n : Int) 6 - 0).toNat : Int) 0 h Q
def gabionlaw24_LockRounds.L5.wp (picks : Option Addr) (picks_n : Nat) (picks_c : Nat) (l : Option Addr) (t36 : Option Addr) (t36_n : Nat) (t36_c : Nat) (t37 : Int) (t38 : Int) (h : Heap) (Q : Value → Heap → Prop) : Prop :=
 xsIf (decide (t38 < t37))
 ((0 ≤ t38 ∧ t38 < (↑t36_n : Int)) ∧
 atBase t36 fun (b o : Nat) =>
 ∃ (x : Option Addr),
 ∃ (n : Nat),
 ∃ (m : Nat),
 h.cell b (o + t38.toNat * 1) = some (.slice x n m) ∧
 (0 ≤ imin (↑n : Int) 5 ∧ imin (↑n : Int) 5 ≤ (↑m : Int)) ∧
 C Try.prog 8 #[.pointer l, .int .i64 t38, .slice (slBase x (↑m : Int) 0 1) (imin (↑n : Int) 5 - 0).toNat ((↑m : Int) - 0).toNat] h fun (r : Value) (h' : Heap) =>
 ∃ (x : Int), r = .int .i64 x ∧ xsIf (decide (x ≠ 0)) (Q (.bool false) h') (gabionlaw24_LockRounds.L5 picks picks_n picks_c l t36 t36_n t36_c t37 (IntKind.i64.wrap (t38 + 1)) h' Q))
 ((0 ≤ imin (↑picks_n : Int) 60 ∧ imin (↑picks_n : Int) 60 ≤ (↑picks_c : Int)) ∧
 gabionlaw24_LockRounds.L11 l (slBase picks (↑picks_c : Int) 0 1) (imin (↑picks_n : Int) 60 - 0).toNat ((↑picks_c : Int) - 0).toNat (↑(imin (↑picks_n : Int) 60 - 0).toNat : Int) 0 h Q)
def gabionlaw24_LockRounds.L11.wp (l : Option Addr) (t57 : Option Addr) (t57_n : Nat) (t57_c : Nat) (t58 : Int) (t59 : Int) (h : Heap) (Q : Value → Heap → Prop) : Prop :=
 xsIf (decide (t59 < t58))
 ((0 ≤ t59 ∧ t59 < (↑t57_n : Int)) ∧
 atBase t57 fun (b o : Nat) =>
 ∃ (x : Int),
 h.cell b (o + t59.toNat * 1) = some (.int .u8 x) ∧
 C Try.prog 12 #[.pointer l, .int .i64 (IntKind.i64.wrap (irem x 6))] h fun (r : Value) (h' : Heap) =>
 ∃ (x : Bool), ∃ (x_1 : Int), r = .tuple #[.bool x, .int .i64 x_1] ∧ gabionlaw24_LockRounds.L15 l t57 t57_n t57_c t58 t59 0 h' Q)
 (gabionlaw24_LockRounds.L28 l 0 [.bool false, .bool false, .bool false, .bool false, .bool false, .bool false] h Q)
def gabionlaw24_LockRounds.L15.wp (l : Option Addr) (t57 : Option Addr) (t57_n : Nat) (t57_c : Nat) (t58 : Int) (t59 : Int) (t68 : Int) (h : Heap) (Q : Value → Heap → Prop) : Prop :=
 xsIf (decide (t68 < 6)) (gabionlaw24_LockRounds.L19 l t68 0 t57 t57_n t57_c t58 t59 t68 h Q) (gabionlaw24_LockRounds.L11 l t57 t57_n t57_c t58 (IntKind.i64.wrap (t59 + 1)) h Q)
def gabionlaw24_LockRounds.L19.wp (l : Option Addr) (at0 : Int) (steps : Int) (t57 : Option Addr) (t57_n : Nat) (t57_c : Nat) (t58 : Int) (t59 : Int) (t68 : Int) (h : Heap) (Q : Value → Heap → Prop) : Prop :=
 xsIf (decide (at0 ≠ -1))
 (xsIf (decide (6 < steps)) (Q (.bool false) h)
 (C Try.prog 17 #[.pointer l, .int .i64 at0] h fun (r : Value) (h' : Heap) =>
 ∃ (x : Int), r = .int .i64 x ∧ xsIf (decide (x = at0)) (Q (.bool false) h') (gabionlaw24_LockRounds.J23 l at0 steps t57 t57_n t57_c t58 t59 t68 h' Q)))
 (gabionlaw24_LockRounds.L15 l t57 t57_n t57_c t58 t59 (IntKind.i64.wrap (t68 + 1)) h Q)
def gabionlaw24_LockRounds.J23.wp (l : Option Addr) (at0 : Int) (steps : Int) (t57 : Option Addr) (t57_n : Nat) (t57_c : Nat) (t58 : Int) (t59 : Int) (t68 : Int) (h : Heap) (Q : Value → Heap → Prop) : Prop :=
 C Try.prog 17 #[.pointer l, .int .i64 at0] h fun (r : Value) (h' : Heap) =>
 ∃ (x : Int), r = .int .i64 x ∧ gabionlaw24_LockRounds.L19 l x (IntKind.i64.wrap (steps + 1)) t57 t57_n t57_c t58 t59 t68 h' Q
def gabionlaw24_LockRounds.L28.wp (l : Option Addr) (t90 : Int) (done : List Value) (h : Heap) (Q : Value → Heap → Prop) : Prop :=
 xsIf (decide (t90 < 36)) (gabionlaw24_LockRounds.L30 l t90 0 done h Q)
 (6 ≤ done.length ∧
 ∃ (x : Bool),
 lget done 0 = some (.bool x) ∧
 ∃ (x_1 : Bool),
 lget done 1 = some (.bool x_1) ∧
 ∃ (x_2 : Bool),
 lget done 2 = some (.bool x_2) ∧
 ∃ (x_3 : Bool),
 lget done 3 = some (.bool x_3) ∧
 ∃ (x_4 : Bool),
 lget done 4 = some (.bool x_4) ∧ ∃ (x_5 : Bool), lget done 5 = some (.bool x_5) ∧ Q (.bool (x == true && (x_1 == true && (x_2 == true && (x_3 == true && (x_4 == true && (x_5 == true && true))))))) h)
def gabionlaw24_LockRounds.L30.wp (l : Option Addr) (t90 : Int) (t92 : Int) (done : List Value) (h : Heap) (Q : Value → Heap → Prop) : Prop :=
 xsIf (decide (t92 < 6))
 (C Try.prog 12 #[.pointer l, .int .i64 t92] h fun (r : Value) (h' : Heap) =>
 ∃ (x : Bool),
 ∃ (x_1 : Int),
 r = .tuple #[.bool x, .int .i64 x_1] ∧
 xsIf (decide (x_1 ≠ 0)) (Q (.bool false) h')
 (xsIf x
 ((0 ≤ t92 ∧ t92 < (↑6 : Int)) ∧
 0 + t92.toNat * 1 + 1 ≤ done.length ∧
 C Try.prog 10 #[.pointer l, .int .i64 t92] h' fun (r : Value) (h' : Heap) =>
 ∃ (x : Int), r = .int .i64 x ∧ gabionlaw24_LockRounds.L30 l t90 (IntKind.i64.wrap (t92 + 1)) (lput done (0 + t92.toNat * 1) [.bool true]) h' Q)
 (gabionlaw24_LockRounds.L30 l t90 (IntKind.i64.wrap (t92 + 1)) done h' Q)))
 (gabionlaw24_LockRounds.L28 l (IntKind.i64.wrap (t90 + 1)) done h Q)
theorem gabionlaw24_LockRounds.ok {asks : Option Addr} {asks_n : Nat} {asks_c : Nat} {picks : Option Addr} {picks_n : Nat} {picks_c : Nat} {h : Heap} {Q : Value → Heap → Prop} (hk : gabionlaw24_LockRounds.wp asks asks_n asks_c picks picks_n picks_c h Q) : C Try.prog 5 #[.slice asks asks_n asks_c, .slice picks picks_n picks_c] h Q :=
 C_of_xs (H := gabionlaw24_LockRounds.H) (lcuts := gabionlaw24_LockRounds.lc) (rcuts := gabionlaw24_LockRounds.rc) (l := [.slice asks asks_n asks_c, .slice picks picks_n picks_c]) 2000 mixed Try.func5 rfl (by kernel_rfl) (@cast (gabionlaw24_LockRounds.wp asks asks_n asks_c picks picks_n picks_c h Q) _ (by kernel_rfl) hk)
theorem gabionlaw24_LockRounds.J4.ok {asks : Option Addr} {asks_n : Nat} {asks_c : Nat} {picks : Option Addr} {picks_n : Nat} {picks_c : Nat} {l : Option Addr} {h : Heap} {Q : Value → Heap → Prop} (hk : gabionlaw24_LockRounds.J4.wp asks asks_n asks_c picks picks_n picks_c l h Q) : gabionlaw24_LockRounds.J4 asks asks_n asks_c picks picks_n picks_c l h Q :=
 xs_ok (H := gabionlaw24_LockRounds.H) (lcuts := gabionlaw24_LockRounds.lc) (rcuts := [⟨23, [5, 12, 13, 57, 58, 59, 68], []⟩]) (fn := Try.f5) mixed Try.func5 2000 _ _ _ (@cast (gabionlaw24_LockRounds.J4.wp asks asks_n asks_c picks picks_n picks_c l h Q) _ (by kernel_rfl) hk)
theorem gabionlaw24_LockRounds.L5.ok {picks : Option Addr} {picks_n : Nat} {picks_c : Nat} {l : Option Addr} {t36 : Option Addr} {t36_n : Nat} {t36_c : Nat} {t37 : Int} {t38 : Int} {h : Heap} {Q : Value → Heap → Prop} (hk : gabionlaw24_LockRounds.L5.wp picks picks_n picks_c l t36 t36_n t36_c t37 t38 h Q) : gabionlaw24_LockRounds.L5 picks picks_n picks_c l t36 t36_n t36_c t37 t38 h Q :=
 xs_ok (H := gabionlaw24_LockRounds.H) (lcuts := gabionlaw24_LockRounds.lc) (rcuts := gabionlaw24_LockRounds.rc) (fn := Try.f5) mixed Try.func5 2000 _ _ _ (@cast (gabionlaw24_LockRounds.L5.wp picks picks_n picks_c l t36 t36_n t36_c t37 t38 h Q) _ (by kernel_rfl) hk)
theorem gabionlaw24_LockRounds.L11.ok {l : Option Addr} {t57 : Option Addr} {t57_n : Nat} {t57_c : Nat} {t58 : Int} {t59 : Int} {h : Heap} {Q : Value → Heap → Prop} (hk : gabionlaw24_LockRounds.L11.wp l t57 t57_n t57_c t58 t59 h Q) : gabionlaw24_LockRounds.L11 l t57 t57_n t57_c t58 t59 h Q :=
 xs_ok (H := gabionlaw24_LockRounds.H) (lcuts := gabionlaw24_LockRounds.lc) (rcuts := gabionlaw24_LockRounds.rc) (fn := Try.f5) mixed Try.func5 2000 _ _ _ (@cast (gabionlaw24_LockRounds.L11.wp l t57 t57_n t57_c t58 t59 h Q) _ (by kernel_rfl) hk)
theorem gabionlaw24_LockRounds.L15.ok {l : Option Addr} {t57 : Option Addr} {t57_n : Nat} {t57_c : Nat} {t58 : Int} {t59 : Int} {t68 : Int} {h : Heap} {Q : Value → Heap → Prop} (hk : gabionlaw24_LockRounds.L15.wp l t57 t57_n t57_c t58 t59 t68 h Q) : gabionlaw24_LockRounds.L15 l t57 t57_n t57_c t58 t59 t68 h Q :=
 xs_ok (H := gabionlaw24_LockRounds.H) (lcuts := gabionlaw24_LockRounds.lc) (rcuts := gabionlaw24_LockRounds.rc) (fn := Try.f5) mixed Try.func5 2000 _ _ _ (@cast (gabionlaw24_LockRounds.L15.wp l t57 t57_n t57_c t58 t59 t68 h Q) _ (by kernel_rfl) hk)
theorem gabionlaw24_LockRounds.L19.ok {l : Option Addr} {at0 : Int} {steps : Int} {t57 : Option Addr} {t57_n : Nat} {t57_c : Nat} {t58 : Int} {t59 : Int} {t68 : Int} {h : Heap} {Q : Value → Heap → Prop} (hk : gabionlaw24_LockRounds.L19.wp l at0 steps t57 t57_n t57_c t58 t59 t68 h Q) : gabionlaw24_LockRounds.L19 l at0 steps t57 t57_n t57_c t58 t59 t68 h Q :=
 xs_ok (H := gabionlaw24_LockRounds.H) (lcuts := gabionlaw24_LockRounds.lc) (rcuts := gabionlaw24_LockRounds.rc) (fn := Try.f5) mixed Try.func5 2000 _ _ _ (@cast (gabionlaw24_LockRounds.L19.wp l at0 steps t57 t57_n t57_c t58 t59 t68 h Q) _ (by kernel_rfl) hk)
theorem gabionlaw24_LockRounds.J23.ok {l : Option Addr} {at0 : Int} {steps : Int} {t57 : Option Addr} {t57_n : Nat} {t57_c : Nat} {t58 : Int} {t59 : Int} {t68 : Int} {h : Heap} {Q : Value → Heap → Prop} (hk : gabionlaw24_LockRounds.J23.wp l at0 steps t57 t57_n t57_c t58 t59 t68 h Q) : gabionlaw24_LockRounds.J23 l at0 steps t57 t57_n t57_c t58 t59 t68 h Q :=
 xs_ok (H := gabionlaw24_LockRounds.H) (lcuts := gabionlaw24_LockRounds.lc) (rcuts := [⟨4, [0, 1, 5], []⟩]) (fn := Try.f5) mixed Try.func5 2000 _ _ _ (@cast (gabionlaw24_LockRounds.J23.wp l at0 steps t57 t57_n t57_c t58 t59 t68 h Q) _ (by kernel_rfl) hk)
theorem gabionlaw24_LockRounds.L28.ok {l : Option Addr} {t90 : Int} {done : List Value} {h : Heap} {Q : Value → Heap → Prop} (hk : gabionlaw24_LockRounds.L28.wp l t90 done h Q) : gabionlaw24_LockRounds.L28 l t90 done h Q :=
 xs_ok (H := gabionlaw24_LockRounds.H) (lcuts := gabionlaw24_LockRounds.lc) (rcuts := gabionlaw24_LockRounds.rc) (fn := Try.f5) mixed Try.func5 2000 _ _ _ (@cast (gabionlaw24_LockRounds.L28.wp l t90 done h Q) _ (by kernel_rfl) hk)
theorem gabionlaw24_LockRounds.L30.ok {l : Option Addr} {t90 : Int} {t92 : Int} {done : List Value} {h : Heap} {Q : Value → Heap → Prop} (hk : gabionlaw24_LockRounds.L30.wp l t90 t92 done h Q) : gabionlaw24_LockRounds.L30 l t90 t92 done h Q :=
 xs_ok (H := gabionlaw24_LockRounds.H) (lcuts := gabionlaw24_LockRounds.lc) (rcuts := gabionlaw24_LockRounds.rc) (fn := Try.f5) mixed Try.func5 2000 _ _ _ (@cast (gabionlaw24_LockRounds.L30.wp l t90 t92 done h Q) _ (by kernel_rfl) hk)
end Go.Gb
