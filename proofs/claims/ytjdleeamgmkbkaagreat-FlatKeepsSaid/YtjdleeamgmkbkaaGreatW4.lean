/- Own text for the seat: W4. -/
import Derived.Test.YtjdleeamgmkbkaaGreatW3
set_option linter.unusedVariables false
set_option linter.unusedSimpArgs false
set_option linter.unnecessarySimpa false
set_option linter.deprecated false
set_option maxRecDepth 100000
namespace Go.Gb
open Go.Proofs

/-! gabion/gabionlaw09.FlatAlike -/
/-! (*gabion/ring.Ring).Where -/
def ring_Ring_Where.H : Hn := ⟨[], [], [], []⟩
def ring_Ring_Where.lc : List Cut := []
def ring_Ring_Where.rc : List Cut := []
def ring_Ring_Where.wp (r0 : Option Addr) (i : Int) (h : Heap) (Q : Value → Heap → Prop) : Prop :=
 C Tryz.prog 163 #[.pointer r0, .int .i64 i] h fun (r : Value) (h' : Heap) =>
 ∃ (x : Int),
 ∃ (x_1 : Int),
 r = .tuple #[.int .i64 x, .int .i64 x_1] ∧
 xsIf (decide (x_1 ≠ 0)) (Q (.tuple #[.int .i64 0, .int .i64 x_1]) h')
 (atBase r0 fun (b o : Nat) =>
 ∃ (x_2 : Option Addr),
 h'.cell b (o + 4) = some (.pointer x_2) ∧
 C Tryz.prog 164 #[.pointer x_2, .int .i64 x] h' fun (r : Value) (h' : Heap) =>
 ∃ (x : Int), ∃ (x_3 : Int), r = .tuple #[.int .i64 x, .int .i64 x_3] ∧ Q (.tuple #[.int .i64 x, .int .i64 x_3]) h')
theorem ring_Ring_Where.ok {r0 : Option Addr} {i : Int} {h : Heap} {Q : Value → Heap → Prop} (hk : ring_Ring_Where.wp r0 i h Q) : C Tryz.prog 88 #[.pointer r0, .int .i64 i] h Q :=
 C_of_xs (H := ring_Ring_Where.H) (lcuts := ring_Ring_Where.lc) (rcuts := ring_Ring_Where.rc) (l := [.pointer r0, .int .i64 i]) 2000 mixed Tryz.func88 rfl (by kernel_rfl) (@cast (ring_Ring_Where.wp r0 i h Q) _ (by kernel_rfl) hk)

/-! (*gabion/flat.Flat).Where -/
def flat_Flat_Where.H : Hn := ⟨[], [], [], []⟩
def flat_Flat_Where.lc : List Cut := []
def flat_Flat_Where.rc : List Cut := []
def flat_Flat_Where.wp (f : Option Addr) (l : Int) (h : Heap) (Q : Value → Heap → Prop) : Prop :=
 C Tryz.prog 84 #[.pointer f, .int .i64 l] h fun (r : Value) (h' : Heap) =>
 ∃ (x : Option Addr),
 ∃ (x_1 : Int),
 ∃ (x_2 : Int),
 r = .tuple #[.pointer x, .int .i64 x_1, .int .i64 x_2] ∧
 xsIf (decide (x_2 ≠ 0)) (Q (.tuple #[.int .i64 0, .int .i64 x_2]) h')
 (C Tryz.prog 88 #[.pointer x, .int .i64 x_1] h' fun (r : Value) (h' : Heap) =>
 ∃ (x : Int), ∃ (x_3 : Int), r = .tuple #[.int .i64 x, .int .i64 x_3] ∧ Q (.tuple #[.int .i64 x, .int .i64 x_3]) h')
theorem flat_Flat_Where.ok {f : Option Addr} {l : Int} {h : Heap} {Q : Value → Heap → Prop} (hk : flat_Flat_Where.wp f l h Q) : C Tryz.prog 25 #[.pointer f, .int .i64 l] h Q :=
 C_of_xs (H := flat_Flat_Where.H) (lcuts := flat_Flat_Where.lc) (rcuts := flat_Flat_Where.rc) (l := [.pointer f, .int .i64 l]) 2000 mixed Tryz.func25 rfl (by kernel_rfl) (@cast (flat_Flat_Where.wp f l h Q) _ (by kernel_rfl) hk)

/-! (*gabion/pm.Device).is -/
def pm_Device_is.H : Hn := ⟨[], [], [], []⟩
def pm_Device_is.lc : List Cut := []
def pm_Device_is.rc : List Cut := []
def pm_Device_is.wp (d : Option Addr) (line : Int) (h : Heap) (Q : Value → Heap → Prop) : Prop :=
 xsIf (decide (0 ≤ line)) (C Tryz.prog 74 #[.pointer d] h fun (r : Value) (h' : Heap) => ∃ (x : Int), r = .int .i64 x ∧ Q (.bool (decide (line < x))) h') (Q (.bool false) h)
theorem pm_Device_is.ok {d : Option Addr} {line : Int} {h : Heap} {Q : Value → Heap → Prop} (hk : pm_Device_is.wp d line h Q) : C Tryz.prog 89 #[.pointer d, .int .i64 line] h Q :=
 C_of_xs (H := pm_Device_is.H) (lcuts := pm_Device_is.lc) (rcuts := pm_Device_is.rc) (l := [.pointer d, .int .i64 line]) 2000 mixed Tryz.func89 rfl (by kernel_rfl) (@cast (pm_Device_is.wp d line h Q) _ (by kernel_rfl) hk)

/-! (*gabion/pm.Device).Break -/
def pm_Device_Break.H : Hn := ⟨[], [], [], []⟩
def pm_Device_Break.lc : List Cut := []
def pm_Device_Break.rc : List Cut := []
def pm_Device_Break.wp (d : Option Addr) (line : Int) (h : Heap) (Q : Value → Heap → Prop) : Prop :=
 C Tryz.prog 89 #[.pointer d, .int .i64 line] h fun (r : Value) (h' : Heap) =>
 ∃ (x : Bool),
 r = .bool x ∧
 xsIf x
 (atBase d fun (b o : Nat) =>
 ∃ (x : Option Addr),
 ∃ (n : Nat),
 ∃ (m : Nat),
 h'.cell b (o + 3) = some (.slice x n m) ∧
 (0 ≤ line ∧ line < (↑n : Int)) ∧ atBase x fun (b o : Nat) => h'.can b (o + line.toNat * 1) 1 ∧ Q (.tuple #[]) (h'.put b (o + line.toNat * 1) [.bool true]))
 (Q (.tuple #[]) h')
theorem pm_Device_Break.ok {d : Option Addr} {line : Int} {h : Heap} {Q : Value → Heap → Prop} (hk : pm_Device_Break.wp d line h Q) : C Tryz.prog 26 #[.pointer d, .int .i64 line] h Q :=
 C_of_xs (H := pm_Device_Break.H) (lcuts := pm_Device_Break.lc) (rcuts := pm_Device_Break.rc) (l := [.pointer d, .int .i64 line]) 2000 mixed Tryz.func26 rfl (by kernel_rfl) (@cast (pm_Device_Break.wp d line h Q) _ (by kernel_rfl) hk)

/-! (*gabion/flat.Flat).ring -/
def flat_Flat_ring.H : Hn := ⟨[], [], [], []⟩
def flat_Flat_ring.lc : List Cut := []
def flat_Flat_ring.rc : List Cut := []
def flat_Flat_ring.wp (f : Option Addr) (region : Int) (h : Heap) (Q : Value → Heap → Prop) : Prop :=
 xsIf f.isNone (Q (.pointer none) h)
 (xsIf (decide (region < 0)) (Q (.pointer none) h)
 (atBase f fun (b o : Nat) =>
 ∃ (x : Option Addr),
 ∃ (n : Nat),
 ∃ (m : Nat),
 h.cell b (o + 5) = some (.slice x n m) ∧
 xsIf (decide ((↑n : Int) ≤ region)) (Q (.pointer none) h)
 (atBase f fun (b o : Nat) =>
 ∃ (x : Option Addr),
 ∃ (n : Nat),
 ∃ (m : Nat),
 h.cell b (o + 5) = some (.slice x n m) ∧ (0 ≤ region ∧ region < (↑n : Int)) ∧ atBase x fun (b o : Nat) => ∃ (x : Option Addr), h.cell b (o + region.toNat * 1) = some (.pointer x) ∧ Q (.pointer x) h)))
theorem flat_Flat_ring.ok {f : Option Addr} {region : Int} {h : Heap} {Q : Value → Heap → Prop} (hk : flat_Flat_ring.wp f region h Q) : C Tryz.prog 90 #[.pointer f, .int .i64 region] h Q :=
 C_of_xs (H := flat_Flat_ring.H) (lcuts := flat_Flat_ring.lc) (rcuts := flat_Flat_ring.rc) (l := [.pointer f, .int .i64 region]) 2000 mixed Tryz.func90 rfl (by kernel_rfl) (@cast (flat_Flat_ring.wp f region h Q) _ (by kernel_rfl) hk)

/-! (*gabion/ring.Ring).Left -/
def ring_Ring_Left.H : Hn := ⟨[], [], [], []⟩
def ring_Ring_Left.lc : List Cut := []
def ring_Ring_Left.rc : List Cut := []
def ring_Ring_Left.wp (r0 : Option Addr) (h : Heap) (Q : Value → Heap → Prop) : Prop :=
 xsIf r0.isNone (Q (.int .i64 0) h)
 (atBase r0 fun (b o : Nat) =>
 ∃ (x : Option Addr), h.cell b (o + 4) = some (.pointer x) ∧ C Tryz.prog 165 #[.pointer x] h fun (r : Value) (h' : Heap) => ∃ (x : Int), r = .int .i64 x ∧ Q (.int .i64 x) h')
theorem ring_Ring_Left.ok {r0 : Option Addr} {h : Heap} {Q : Value → Heap → Prop} (hk : ring_Ring_Left.wp r0 h Q) : C Tryz.prog 91 #[.pointer r0] h Q :=
 C_of_xs (H := ring_Ring_Left.H) (lcuts := ring_Ring_Left.lc) (rcuts := ring_Ring_Left.rc) (l := [.pointer r0]) 2000 mixed Tryz.func91 rfl (by kernel_rfl) (@cast (ring_Ring_Left.wp r0 h Q) _ (by kernel_rfl) hk)

/-! (*gabion/flat.Flat).Left -/
def flat_Flat_Left.H : Hn := ⟨[], [], [], []⟩
def flat_Flat_Left.lc : List Cut := []
def flat_Flat_Left.rc : List Cut := []
def flat_Flat_Left.wp (f : Option Addr) (region : Int) (h : Heap) (Q : Value → Heap → Prop) : Prop :=
 C Tryz.prog 90 #[.pointer f, .int .i64 region] h fun (r : Value) (h' : Heap) =>
 ∃ (x : Option Addr), r = .pointer x ∧ C Tryz.prog 91 #[.pointer x] h' fun (r : Value) (h' : Heap) => ∃ (x : Int), r = .int .i64 x ∧ Q (.int .i64 x) h'
theorem flat_Flat_Left.ok {f : Option Addr} {region : Int} {h : Heap} {Q : Value → Heap → Prop} (hk : flat_Flat_Left.wp f region h Q) : C Tryz.prog 27 #[.pointer f, .int .i64 region] h Q :=
 C_of_xs (H := flat_Flat_Left.H) (lcuts := flat_Flat_Left.lc) (rcuts := flat_Flat_Left.rc) (l := [.pointer f, .int .i64 region]) 2000 mixed Tryz.func27 rfl (by kernel_rfl) (@cast (flat_Flat_Left.wp f region h Q) _ (by kernel_rfl) hk)

/-! gabion/gabionlaw09.FlatKeeps -/
def gabionlaw09_FlatKeeps.H : Hn := ⟨[], [], [], []⟩
def gabionlaw09_FlatKeeps.lc : List Cut := [⟨10, [1, 6, 8, 10, 57, 58], []⟩, ⟨15, [6, 8, 10, 70, 71, 72], []⟩, ⟨35, [6, 8, 10, 19, 70, 71, 72, 141, 142, 143], []⟩]
def gabionlaw09_FlatKeeps.rc : List Cut := [⟨5, [1, 6], []⟩, ⟨8, [1, 6, 8], []⟩, ⟨33, [6, 8, 10, 70, 71, 72], []⟩]
def gabionlaw09_FlatKeeps.J5 (acts : Option Addr) (acts_n : Nat) (acts_c : Nat) (d : Option Addr) (h : Heap) (Q : Value → Heap → Prop) : Prop :=
 TW Tryz.prog 4 180 [.code (cAt (bodyOf Tryz.f4) [1, 1, 1, 1, 0]), .code (cAt (bodyOf Tryz.f4) [1, 1, 1, 1, 1])] ⟨[(1, .v (.slice acts acts_n acts_c)), (6, .v (.pointer d))], []⟩ h Q
def gabionlaw09_FlatKeeps.J8 (acts : Option Addr) (acts_n : Nat) (acts_c : Nat) (d : Option Addr) (f : Option Addr) (h : Heap) (Q : Value → Heap → Prop) : Prop :=
 TW Tryz.prog 4 180 [.code (cAt (bodyOf Tryz.f4) [1, 1, 1, 1, 1, 1, 0]), .code (cAt (bodyOf Tryz.f4) [1, 1, 1, 1, 1, 1, 1])] ⟨[(1, .v (.slice acts acts_n acts_c)), (6, .v (.pointer d)), (8, .v (.pointer f))], []⟩ h Q
def gabionlaw09_FlatKeeps.L10 (acts : Option Addr) (acts_n : Nat) (acts_c : Nat) (d : Option Addr) (f : Option Addr) (known : Option Addr) (known_n : Nat) (known_c : Nat) (t57 : Int) (t58 : Int) (h : Heap) (Q : Value → Heap → Prop) : Prop :=
 TW Tryz.prog 4 180 [.code (cAt (bodyOf Tryz.f4) [1, 1, 1, 1, 1, 1, 1, 0, 1, 0, 0]), .inLoop (cAt (bodyOf Tryz.f4) [1, 1, 1, 1, 1, 1, 1, 0, 1, 0, 0]), .inBlock 0, .code (cAt (bodyOf Tryz.f4) [1, 1, 1, 1, 1, 1, 1, 1])] ⟨[(1, .v (.slice acts acts_n acts_c)), (6, .v (.pointer d)), (8, .v (.pointer f)), (10, .v (.slice known known_n known_c)), (57, .v (.int .i64 t57)), (58, .v (.int .i64 t58))], []⟩ h Q
def gabionlaw09_FlatKeeps.L15 (d : Option Addr) (f : Option Addr) (known : Option Addr) (known_n : Nat) (known_c : Nat) (t70 : Option Addr) (t70_n : Nat) (t70_c : Nat) (t71 : Int) (t72 : Int) (h : Heap) (Q : Value → Heap → Prop) : Prop :=
 TW Tryz.prog 4 180 [.code (cAt (bodyOf Tryz.f4) [1, 1, 1, 1, 1, 1, 1, 1, 0, 1, 0, 0]), .inLoop (cAt (bodyOf Tryz.f4) [1, 1, 1, 1, 1, 1, 1, 1, 0, 1, 0, 0]), .inBlock 2, .code (cAt (bodyOf Tryz.f4) [1, 1, 1, 1, 1, 1, 1, 1, 1])] ⟨[(6, .v (.pointer d)), (8, .v (.pointer f)), (10, .v (.slice known known_n known_c)), (70, .v (.slice t70 t70_n t70_c)), (71, .v (.int .i64 t71)), (72, .v (.int .i64 t72))], []⟩ h Q
def gabionlaw09_FlatKeeps.J33 (d : Option Addr) (f : Option Addr) (known : Option Addr) (known_n : Nat) (known_c : Nat) (t70 : Option Addr) (t70_n : Nat) (t70_c : Nat) (t71 : Int) (t72 : Int) (h : Heap) (Q : Value → Heap → Prop) : Prop :=
 TW Tryz.prog 4 180 [.code (cAt (bodyOf Tryz.f4) [1, 1, 1, 1, 1, 1, 1, 1, 0, 1, 0, 0, 1, 1, 0, 0, 1, 1, 1, 0]), .code (cAt (bodyOf Tryz.f4) [1, 1, 1, 1, 1, 1, 1, 1, 0, 1, 0, 0, 1, 1, 0, 0, 1, 1, 1, 1]), .inBlock 3, .code (cAt (bodyOf Tryz.f4) [1, 1, 1, 1, 1, 1, 1, 1, 0, 1, 0, 0, 1, 1, 1]), .inLoop (cAt (bodyOf Tryz.f4) [1, 1, 1, 1, 1, 1, 1, 1, 0, 1, 0, 0]), .inBlock 2, .code (cAt (bodyOf Tryz.f4) [1, 1, 1, 1, 1, 1, 1, 1, 1])] ⟨[(6, .v (.pointer d)), (8, .v (.pointer f)), (10, .v (.slice known known_n known_c)), (70, .v (.slice t70 t70_n t70_c)), (71, .v (.int .i64 t71)), (72, .v (.int .i64 t72))], []⟩ h Q
def gabionlaw09_FlatKeeps.L35 (d : Option Addr) (f : Option Addr) (known : Option Addr) (known_n : Nat) (known_c : Nat) (at0_19 : Option Nat) (t70 : Option Addr) (t70_n : Nat) (t70_c : Nat) (t71 : Int) (t72 : Int) (t141 : Option Addr) (t141_n : Nat) (t141_c : Nat) (t142 : Int) (t143 : Int) (h : Heap) (Q : Value → Heap → Prop) : Prop :=
 TW Tryz.prog 4 180 [.code (cAt (bodyOf Tryz.f4) [1, 1, 1, 1, 1, 1, 1, 1, 0, 1, 0, 0, 1, 1, 0, 0, 1, 1, 1, 1, 1, 0, 0]), .inLoop (cAt (bodyOf Tryz.f4) [1, 1, 1, 1, 1, 1, 1, 1, 0, 1, 0, 0, 1, 1, 0, 0, 1, 1, 1, 1, 1, 0, 0]), .inBlock 5, .inBlock 3, .code (cAt (bodyOf Tryz.f4) [1, 1, 1, 1, 1, 1, 1, 1, 0, 1, 0, 0, 1, 1, 1]), .inLoop (cAt (bodyOf Tryz.f4) [1, 1, 1, 1, 1, 1, 1, 1, 0, 1, 0, 0]), .inBlock 2, .code (cAt (bodyOf Tryz.f4) [1, 1, 1, 1, 1, 1, 1, 1, 1])] ⟨[(6, .v (.pointer d)), (8, .v (.pointer f)), (10, .v (.slice known known_n known_c)), (19, .v (.map at0_19)), (70, .v (.slice t70 t70_n t70_c)), (71, .v (.int .i64 t71)), (72, .v (.int .i64 t72)), (141, .v (.slice t141 t141_n t141_c)), (142, .v (.int .i64 t142)), (143, .v (.int .i64 t143))], []⟩ h Q
def gabionlaw09_FlatKeeps.wp (x_0 : Int) (x_1 : Int) (x_2 : Int) (x_3 : Int) (x_4 : Int) (acts : Option Addr) (acts_n : Nat) (acts_c : Nat) (h : Heap) (Q : Value → Heap → Prop) : Prop :=
 C Tryz.prog 14 #[.agg #[.int .i64 x_0, .int .i64 x_1, .int .i64 x_2, .int .i64 x_3, .int .u64 x_4]] h fun (r : Value) (h' : Heap) =>
 ∃ (x : Int),
 ∃ (x_5 : Int),
 ∃ (x_6 : Int),
 ∃ (x_7 : Int),
 ∃ (x_8 : Int),
 r = .agg #[.int .i64 x, .int .i64 x_5, .int .i64 x_6, .int .i64 x_7, .int .u64 x_8] ∧
 C Tryz.prog 16 #[.agg #[.int .i64 x, .int .i64 x_5, .int .i64 x_6, .int .i64 x_7, .int .u64 x_8]] h' fun (r : Value) (h' : Heap) =>
 ∃ (x_9 : Int),
 r = .int .i64 x_9 ∧
 C Tryz.prog 15 #[.int .i64 x_9] h' fun (r : Value) (h' : Heap) =>
 ∃ (x_10 : Option Addr),
 ∃ (x_11 : Int),
 r = .tuple #[.pointer x_10, .int .i64 x_11] ∧
 C Tryz.prog 23 #[] h' fun (r : Value) (h' : Heap) =>
 ∃ (x_12 : Bool),
 r = .bool x_12 ∧
 xsIf (!x_12) (Q (.bool false) h')
 (C Tryz.prog 17
 #[.pointer x_10, .agg #[.int .i64 x, .int .i64 x_5, .int .i64 x_6, .int .i64 x_7, .int .u64 x_8]] h'
 fun (r : Value) (h' : Heap) => ∃ (x : Int), r = .int .i64 x ∧ xsIf (decide (x ≠ 0)) (Q (.bool false) h') (gabionlaw09_FlatKeeps.J5 acts acts_n acts_c x_10 h' Q))
def gabionlaw09_FlatKeeps.J5.wp (acts : Option Addr) (acts_n : Nat) (acts_c : Nat) (d : Option Addr) (h : Heap) (Q : Value → Heap → Prop) : Prop :=
 C Tryz.prog 18 #[.pointer d] h fun (r : Value) (h' : Heap) =>
 ∃ (x : Option Addr),
 ∃ (x_1 : Int),
 r = .tuple #[.pointer x, .int .i64 x_1] ∧ xsIf (decide (x_1 ≠ 0)) (Q (.bool false) h') (xsIf x.isNone (Q (.bool false) h') (gabionlaw09_FlatKeeps.J8 acts acts_n acts_c d x h' Q))
def gabionlaw09_FlatKeeps.J8.wp (acts : Option Addr) (acts_n : Nat) (acts_c : Nat) (d : Option Addr) (f : Option Addr) (h : Heap) (Q : Value → Heap → Prop) : Prop :=
 C Tryz.prog 24 #[.pointer f] h fun (r : Value) (h' : Heap) =>
 ∃ (x : Int), r = .int .i64 x ∧ xsMk Tryz.prog 9 h' x x fun (a : Option Addr) (n' c' : Nat) (h' : Heap) => gabionlaw09_FlatKeeps.L10 acts acts_n acts_c d f a n' c' (↑n' : Int) 0 h' Q
def gabionlaw09_FlatKeeps.L10.wp (acts : Option Addr) (acts_n : Nat) (acts_c : Nat) (d : Option Addr) (f : Option Addr) (known : Option Addr) (known_n : Nat) (known_c : Nat) (t57 : Int) (t58 : Int) (h : Heap) (Q : Value → Heap → Prop) : Prop :=
 xsIf (decide (t58 < t57))
 (C Tryz.prog 19 #[.string { data := #[] }] h fun (r : Value) (h' : Heap) =>
 ∃ (x : ByteArray),
 r = .string x ∧
 (0 ≤ t58 ∧ t58 < (↑known_n : Int)) ∧
 atBase known fun (b o : Nat) => h'.can b (o + t58.toNat * 1) 1 ∧ gabionlaw09_FlatKeeps.L10 acts acts_n acts_c d f known known_n known_c t57 (IntKind.i64.wrap (t58 + 1)) (h'.put b (o + t58.toNat * 1) [.string x]) Q)
 ((0 ≤ imin (↑acts_n : Int) 40 ∧ imin (↑acts_n : Int) 40 ≤ (↑acts_c : Int)) ∧
 gabionlaw09_FlatKeeps.L15 d f known known_n known_c (slBase acts (↑acts_c : Int) 0 6) (imin (↑acts_n : Int) 40 - 0).toNat ((↑acts_c : Int) - 0).toNat (↑(imin (↑acts_n : Int) 40 - 0).toNat : Int) 0 h Q)
def gabionlaw09_FlatKeeps.L15.wp (d : Option Addr) (f : Option Addr) (known : Option Addr) (known_n : Nat) (known_c : Nat) (t70 : Option Addr) (t70_n : Nat) (t70_c : Nat) (t71 : Int) (t72 : Int) (h : Heap) (Q : Value → Heap → Prop) : Prop :=
 xsIf (decide (t72 < t71))
 ((0 ≤ t72 ∧ t72 < (↑t70_n : Int)) ∧
 atBase t70 fun (b o : Nat) =>
 ∃ (x : Int),
 h.cell b (o + t72.toNat * 6) = some (.int .i64 x) ∧
 ∃ (x_1 : Int),
 h.cell b (o + t72.toNat * 6 + 1) = some (.int .i64 x_1) ∧
 ∃ (x_2 : Int),
 h.cell b (o + t72.toNat * 6 + 1 + 1) = some (.int .i64 x_2) ∧
 ∃ (x_3 : Int),
 h.cell b (o + t72.toNat * 6 + 1 + 1 + 1) = some (.int .u64 x_3) ∧
 ∃ (x_4 : ByteArray),
 h.cell b (o + t72.toNat * 6 + 1 + 1 + 1 + 1) = some (.string x_4) ∧
 ∃ (x_5 : Option Addr),
 ∃ (n : Nat),
 ∃ (m : Nat),
 h.cell b (o + t72.toNat * 6 + 1 + 1 + 1 + 1 + 1) = some (.slice x_5 n m) ∧
 (↑known_n : Int) ≠ 0 ∧
 xsIf (decide (irem (imax 0 x) 7 = 4))
 (C Tryz.prog 25 #[.pointer f, .int .i64 (irem (imax 0 x_1) (↑known_n : Int))] h fun (r : Value) (h' : Heap) =>
 ∃ (x : Int),
 ∃ (x_6 : Int),
 r = .tuple #[.int .i64 x, .int .i64 x_6] ∧
 xsIf (decide (x_6 = 0))
 (C Tryz.prog 26 #[.pointer d, .int .i64 x] h' fun (r : Value) (h' : Heap) => gabionlaw09_FlatKeeps.J33 d f known known_n known_c t70 t70_n t70_c t71 t72 h' Q)
 (gabionlaw09_FlatKeeps.J33 d f known known_n known_c t70 t70_n t70_c t71 t72 h' Q))
 (xsIf (decide (irem (imax 0 x) 7 = 6))
 (C Tryz.prog 18 #[.pointer d] h fun (r : Value) (h' : Heap) =>
 ∃ (x : Option Addr),
 ∃ (x_6 : Int),
 r = .tuple #[.pointer x, .int .i64 x_6] ∧
 xsIf (decide (x_6 ≠ 0)) (Q (.bool false) h') (xsIf x.isNone (Q (.bool false) h') (gabionlaw09_FlatKeeps.J33 d x known known_n known_c t70 t70_n t70_c t71 t72 h' Q)))
 ((0 ≤ imin (↑x_4.size : Int) 64 ∧ imin (↑x_4.size : Int) 64 ≤ (↑x_4.size : Int)) ∧
 C Tryz.prog 19 #[.string (sext x_4 0 (imin (↑x_4.size : Int) 64))] h fun (r : Value) (h' : Heap) =>
 ∃ (x : ByteArray),
 r = .string x ∧
 C Tryz.prog 20 #[.pointer f, .int .i64 (irem (imax 0 x_1) (↑known_n : Int)), .string x] h' fun (r : Value) (h' : Heap) =>
 ∃ (x_6 : Int),
 r = .int .i64 x_6 ∧
 xsIf (decide (x_6 = 0))
 ((0 ≤ irem (imax 0 x_1) (↑known_n : Int) ∧ irem (imax 0 x_1) (↑known_n : Int) < (↑known_n : Int)) ∧
 atBase known fun (b o : Nat) =>
 h'.can b (o + (irem (imax 0 x_1) (↑known_n : Int)).toNat * 1) 1 ∧
 gabionlaw09_FlatKeeps.J33 d f known known_n known_c t70 t70_n t70_c t71 t72 (h'.put b (o + (irem (imax 0 x_1) (↑known_n : Int)).toNat * 1) [.string x]) Q)
 (xsIf (decide (x_6 ≠ 10)) (Q (.bool false) h')
 (C Tryz.prog 28 #[.pointer f, .int .i64 (irem (imax 0 x_1) (↑known_n : Int))] h' fun (r : Value) (h' : Heap) =>
 ∃ (x : Int),
 r = .int .i64 x ∧
 C Tryz.prog 27 #[.pointer f, .int .i64 x] h' fun (r : Value) (h' : Heap) =>
 ∃ (x : Int),
 r = .int .i64 x ∧ xsIf (decide (x ≠ 0)) (Q (.bool false) h') (gabionlaw09_FlatKeeps.J33 d f known known_n known_c t70 t70_n t70_c t71 t72 h' Q))))))
 (Q (.bool true) h)
def gabionlaw09_FlatKeeps.J33.wp (d : Option Addr) (f : Option Addr) (known : Option Addr) (known_n : Nat) (known_c : Nat) (t70 : Option Addr) (t70_n : Nat) (t70_c : Nat) (t71 : Int) (t72 : Int) (h : Heap) (Q : Value → Heap → Prop) : Prop :=
 ∀ (b : Nat), h b = none → gabionlaw09_FlatKeeps.L35 d f known known_n known_c (some b) t70 t70_n t70_c t71 t72 known known_n known_c (↑known_n : Int) 0 (upd h b (Obj.map #[] 0)) Q
def gabionlaw09_FlatKeeps.L35.wp (d : Option Addr) (f : Option Addr) (known : Option Addr) (known_n : Nat) (known_c : Nat) (at0_19 : Option Nat) (t70 : Option Addr) (t70_n : Nat) (t70_c : Nat) (t71 : Int) (t72 : Int) (t141 : Option Addr) (t141_n : Nat) (t141_c : Nat) (t142 : Int) (t143 : Int) (h : Heap) (Q : Value → Heap → Prop) : Prop :=
 xsIf (decide (t143 < t142))
 ((0 ≤ t143 ∧ t143 < (↑t141_n : Int)) ∧
 atBase t141 fun (b o : Nat) =>
 ∃ (x : ByteArray),
 h.cell b (o + t143.toNat * 1) = some (.string x) ∧
 C Tryz.prog 22 #[.pointer f, .int .i64 t143] h fun (r : Value) (h' : Heap) =>
 ∃ (x_1 : ByteArray),
 ∃ (x_2 : Int),
 r = .tuple #[.string x_1, .int .i64 x_2] ∧
 C Tryz.prog 25 #[.pointer f, .int .i64 t143] h' fun (r : Value) (h' : Heap) =>
 ∃ (x_3 : Int),
 ∃ (x_4 : Int),
 r = .tuple #[.int .i64 x_3, .int .i64 x_4] ∧
 xsIf (decide (x_2 ≠ 0)) (Q (.bool false) h')
 (xsIf (decide (x_4 ≠ 0)) (Q (.bool false) h')
 (xsIf (decide (x_1 ≠ x)) (Q (.bool false) h')
 (atMap at0_19 fun (r : Nat) =>
 ∃ (l : List (Int × Value × Nat)),
 ∃ (c : Nat),
 h' r = some (mapO (.int .i64) l c) ∧
 (∀ (j : Nat) (v : Value) (b : Nat),
 mnth l j = some (x_3, v, b) →
 ∃ (x : Bool),
 v = .bool x ∧
 xsIf x (Q (.bool false) h')
 (atMap at0_19 fun (r : Nat) =>
 ∃ (l : List (Int × Value × Nat)),
 ∃ (c : Nat),
 h' r = some (mapO (.int .i64) l c) ∧
 (∀ (j : Nat) (v : Value) (b : Nat),
 mnth l j = some (x_3, v, b) →
 gabionlaw09_FlatKeeps.L35 d f known known_n known_c at0_19 t70 t70_n t70_c t71 t72 t141 t141_n t141_c t142 (IntKind.i64.wrap (t143 + 1))
 (upd h' r (mapO (.int .i64) (mset l j (x_3, .bool true, b)) c)) Q) ∧
 ((∀ (j : Nat) (v : Value) (b : Nat), ¬mnth l j = some (x_3, v, b)) →
 gabionlaw09_FlatKeeps.L35 d f known known_n known_c at0_19 t70 t70_n t70_c t71 t72 t141 t141_n t141_c t142 (IntKind.i64.wrap (t143 + 1))
 (upd h' r (mapO (.int .i64) (madd l (x_3, .bool true, c)) (c + 1))) Q))) ∧
 ((∀ (j : Nat) (v : Value) (b : Nat), ¬mnth l j = some (x_3, v, b)) →
 atMap at0_19 fun (r : Nat) =>
 ∃ (l : List (Int × Value × Nat)),
 ∃ (c : Nat),
 h' r = some (mapO (.int .i64) l c) ∧
 (∀ (j : Nat) (v : Value) (b : Nat),
 mnth l j = some (x_3, v, b) →
 gabionlaw09_FlatKeeps.L35 d f known known_n known_c at0_19 t70 t70_n t70_c t71 t72 t141 t141_n t141_c t142 (IntKind.i64.wrap (t143 + 1))
 (upd h' r (mapO (.int .i64) (mset l j (x_3, .bool true, b)) c)) Q) ∧
 ((∀ (j : Nat) (v : Value) (b : Nat), ¬mnth l j = some (x_3, v, b)) →
 gabionlaw09_FlatKeeps.L35 d f known known_n known_c at0_19 t70 t70_n t70_c t71 t72 t141 t141_n t141_c t142 (IntKind.i64.wrap (t143 + 1))
 (upd h' r (mapO (.int .i64) (madd l (x_3, .bool true, c)) (c + 1))) Q))))))
 (gabionlaw09_FlatKeeps.L15 d f known known_n known_c t70 t70_n t70_c t71 (IntKind.i64.wrap (t72 + 1)) h Q)
theorem gabionlaw09_FlatKeeps.ok {x_0 : Int} {x_1 : Int} {x_2 : Int} {x_3 : Int} {x_4 : Int} {acts : Option Addr} {acts_n : Nat} {acts_c : Nat} {h : Heap} {Q : Value → Heap → Prop} (hk : gabionlaw09_FlatKeeps.wp x_0 x_1 x_2 x_3 x_4 acts acts_n acts_c h Q) : C Tryz.prog 4 #[.agg #[.int .i64 x_0, .int .i64 x_1, .int .i64 x_2, .int .i64 x_3, .int .u64 x_4], .slice acts acts_n acts_c] h Q :=
 C_of_xs (H := gabionlaw09_FlatKeeps.H) (lcuts := gabionlaw09_FlatKeeps.lc) (rcuts := gabionlaw09_FlatKeeps.rc) (l := [.agg #[.int .i64 x_0, .int .i64 x_1, .int .i64 x_2, .int .i64 x_3, .int .u64 x_4], .slice acts acts_n acts_c]) 2000 mixed Tryz.func4 rfl (by kernel_rfl) (@cast (gabionlaw09_FlatKeeps.wp x_0 x_1 x_2 x_3 x_4 acts acts_n acts_c h Q) _ (by kernel_rfl) hk)
theorem gabionlaw09_FlatKeeps.J5.ok {acts : Option Addr} {acts_n : Nat} {acts_c : Nat} {d : Option Addr} {h : Heap} {Q : Value → Heap → Prop} (hk : gabionlaw09_FlatKeeps.J5.wp acts acts_n acts_c d h Q) : gabionlaw09_FlatKeeps.J5 acts acts_n acts_c d h Q :=
 xs_ok (H := gabionlaw09_FlatKeeps.H) (lcuts := gabionlaw09_FlatKeeps.lc) (rcuts := [⟨8, [1, 6, 8], []⟩, ⟨33, [6, 8, 10, 70, 71, 72], []⟩]) (fn := Tryz.f4) mixed Tryz.func4 2000 _ _ _ (@cast (gabionlaw09_FlatKeeps.J5.wp acts acts_n acts_c d h Q) _ (by kernel_rfl) hk)
theorem gabionlaw09_FlatKeeps.J8.ok {acts : Option Addr} {acts_n : Nat} {acts_c : Nat} {d : Option Addr} {f : Option Addr} {h : Heap} {Q : Value → Heap → Prop} (hk : gabionlaw09_FlatKeeps.J8.wp acts acts_n acts_c d f h Q) : gabionlaw09_FlatKeeps.J8 acts acts_n acts_c d f h Q :=
 xs_ok (H := gabionlaw09_FlatKeeps.H) (lcuts := gabionlaw09_FlatKeeps.lc) (rcuts := [⟨5, [1, 6], []⟩, ⟨33, [6, 8, 10, 70, 71, 72], []⟩]) (fn := Tryz.f4) mixed Tryz.func4 2000 _ _ _ (@cast (gabionlaw09_FlatKeeps.J8.wp acts acts_n acts_c d f h Q) _ (by kernel_rfl) hk)
theorem gabionlaw09_FlatKeeps.L10.ok {acts : Option Addr} {acts_n : Nat} {acts_c : Nat} {d : Option Addr} {f : Option Addr} {known : Option Addr} {known_n : Nat} {known_c : Nat} {t57 : Int} {t58 : Int} {h : Heap} {Q : Value → Heap → Prop} (hk : gabionlaw09_FlatKeeps.L10.wp acts acts_n acts_c d f known known_n known_c t57 t58 h Q) : gabionlaw09_FlatKeeps.L10 acts acts_n acts_c d f known known_n known_c t57 t58 h Q :=
 xs_ok (H := gabionlaw09_FlatKeeps.H) (lcuts := gabionlaw09_FlatKeeps.lc) (rcuts := gabionlaw09_FlatKeeps.rc) (fn := Tryz.f4) mixed Tryz.func4 2000 _ _ _ (@cast (gabionlaw09_FlatKeeps.L10.wp acts acts_n acts_c d f known known_n known_c t57 t58 h Q) _ (by kernel_rfl) hk)
theorem gabionlaw09_FlatKeeps.L15.ok {d : Option Addr} {f : Option Addr} {known : Option Addr} {known_n : Nat} {known_c : Nat} {t70 : Option Addr} {t70_n : Nat} {t70_c : Nat} {t71 : Int} {t72 : Int} {h : Heap} {Q : Value → Heap → Prop} (hk : gabionlaw09_FlatKeeps.L15.wp d f known known_n known_c t70 t70_n t70_c t71 t72 h Q) : gabionlaw09_FlatKeeps.L15 d f known known_n known_c t70 t70_n t70_c t71 t72 h Q :=
 xs_ok (H := gabionlaw09_FlatKeeps.H) (lcuts := gabionlaw09_FlatKeeps.lc) (rcuts := gabionlaw09_FlatKeeps.rc) (fn := Tryz.f4) mixed Tryz.func4 2000 _ _ _ (@cast (gabionlaw09_FlatKeeps.L15.wp d f known known_n known_c t70 t70_n t70_c t71 t72 h Q) _ (by kernel_rfl) hk)
theorem gabionlaw09_FlatKeeps.J33.ok {d : Option Addr} {f : Option Addr} {known : Option Addr} {known_n : Nat} {known_c : Nat} {t70 : Option Addr} {t70_n : Nat} {t70_c : Nat} {t71 : Int} {t72 : Int} {h : Heap} {Q : Value → Heap → Prop} (hk : gabionlaw09_FlatKeeps.J33.wp d f known known_n known_c t70 t70_n t70_c t71 t72 h Q) : gabionlaw09_FlatKeeps.J33 d f known known_n known_c t70 t70_n t70_c t71 t72 h Q :=
 xs_ok (H := gabionlaw09_FlatKeeps.H) (lcuts := gabionlaw09_FlatKeeps.lc) (rcuts := [⟨5, [1, 6], []⟩, ⟨8, [1, 6, 8], []⟩]) (fn := Tryz.f4) mixed Tryz.func4 2000 _ _ _ (@cast (gabionlaw09_FlatKeeps.J33.wp d f known known_n known_c t70 t70_n t70_c t71 t72 h Q) _ (by kernel_rfl) hk)
theorem gabionlaw09_FlatKeeps.L35.ok {d : Option Addr} {f : Option Addr} {known : Option Addr} {known_n : Nat} {known_c : Nat} {at0_19 : Option Nat} {t70 : Option Addr} {t70_n : Nat} {t70_c : Nat} {t71 : Int} {t72 : Int} {t141 : Option Addr} {t141_n : Nat} {t141_c : Nat} {t142 : Int} {t143 : Int} {h : Heap} {Q : Value → Heap → Prop} (hk : gabionlaw09_FlatKeeps.L35.wp d f known known_n known_c at0_19 t70 t70_n t70_c t71 t72 t141 t141_n t141_c t142 t143 h Q) : gabionlaw09_FlatKeeps.L35 d f known known_n known_c at0_19 t70 t70_n t70_c t71 t72 t141 t141_n t141_c t142 t143 h Q :=
 xs_ok (H := gabionlaw09_FlatKeeps.H) (lcuts := gabionlaw09_FlatKeeps.lc) (rcuts := gabionlaw09_FlatKeeps.rc) (fn := Tryz.f4) mixed Tryz.func4 2000 _ _ _ (@cast (gabionlaw09_FlatKeeps.L35.wp d f known known_n known_c at0_19 t70 t70_n t70_c t71 t72 t141 t141_n t141_c t142 t143 h Q) _ (by kernel_rfl) hk)

/-! (*gabion/pm.Device).Fuse -/
/-! (*gabion/pm.Device).Boot -/
/-! gabion/line.Mixed -/
/-! gabion/gabionlaw09.FlatTorn -/
/-! gabion/gabionref07.Bank -/
/-! gabion/gabionref05.table -/
/-! gabion/gabionref05.Size -/
/-! gabion/gabionref05.Check -/
/-! gabion/gabionref07.Check -/
/-! gabion/gabionref09.Plan -/
/-! gabion/gabionref09.Size -/
/-! gabion/gabionref09.Check -/
/-! (*gabion/pm.Device).Count -/
/-! (*gabion/ring.Ring).State -/
/-! (*gabion/flat.Flat).Moves -/
/-! gabion/gabionlaw09.FlatMakes -/
/-! gabion/gabionref03.New -/
/-! gabion/gabionref01.Get -/
/-! gabion/gabionref03.begin -/
/-! gabion/gabionref03.Store -/
/-! gabion/gabionref03.Flush -/
/-! gabion/gabionref03.last -/
/-! gabion/gabionref03.Fence -/
/-! gabion/gabionref04.last -/
/-! gabion/gabionref04.Put -/
/-! gabion/gabionref05.Format -/
/-! gabion/gabionref06.Pack -/
/-! gabion/gabionref03.Load -/
/-! gabion/gabionref01.Put -/
/-! gabion/gabionref01.may -/
/-! gabion/gabionref01.bit -/
/-! gabion/gabionref01.Field -/
/-! gabion/gabionref02.bits -/
/-! gabion/gabionref02.Sum -/
end Go.Gb
