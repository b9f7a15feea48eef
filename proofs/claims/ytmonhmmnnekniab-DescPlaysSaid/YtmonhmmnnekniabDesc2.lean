/- Own text for the seat: Desc2. -/
import Derived.Test.YtmonhmmnnekniabDesc1
set_option linter.unusedVariables false
set_option linter.unusedSimpArgs false
set_option linter.unnecessarySimpa false
set_option linter.deprecated false
namespace Go.Gb
open Go.Proofs IntWalk

/-! ## desc: New, List, Count -/

theorem flatten_replicate (n m : Nat) (x : Value) : (List.replicate n (List.replicate m x)).flatten = List.replicate (n * m) x := by
  induction n with
  | zero => simp
  | succ n ih => rw [List.replicate_succ, List.flatten_cons, ih, List.replicate_append_replicate, Nat.succ_mul]; congr 1; omega

theorem row_cells : cellZero Try.prog 85 = List.replicate 16 (.pointer none) ∧ cellBytes Try.prog 85 = 128 := ⟨by kernel_rfl, by kernel_rfl⟩

section
variable {h : Heap} {Q : Value → Heap → Prop}

theorem desc_New.bad {n : Int} (hn : ¬ (1 ≤ n ∧ n ≤ 8)) (hq : Q (.tuple #[.pointer none, .int .i64 2]) h) : C Try.prog 19 #[.int .i64 n] h Q := by
  apply desc_New.ok
  exact xsIf_intro (fun _ => hq) (fun h1 => xsIf_t (by simp at h1 ⊢; omega) hq)

theorem desc_New.c {nc : Nat} (h1 : 1 ≤ nc) (h8 : nc ≤ 8) (hq : ∀ t F' h', Tabs F' h' t nc (fun _ _ => none) → Step (fun _ => False) h F' h' → Q (.tuple #[.pointer (some ⟨t, 0, none⟩), .int .i64 0]) h') :
    C Try.prog 19 #[.int .i64 nc] h Q := by
  apply desc_New.ok
  refine xsIf_f (by simp; omega) (xsIf_f (by simp; omega) ⟨by omega, Int.le_refl _, by omega, by rw [row_cells.2]; omega, fun cb hcb t ht => ?_⟩)
  rw [Int.toNat_natCast] at ht ⊢
  have hz : zeros Try.prog 85 nc = List.replicate (nc * 16) (.pointer none) := by unfold zeros; rw [row_cells.1, flatten_replicate]
  rw [hz] at ht ⊢
  have hne : t ≠ cb := fun e => by rw [e, upd_same] at ht; cases ht
  refine hq t (fun k => (False ∨ k = cb) ∨ k = t) _ ⟨cb, List.replicate (nc * 16) (.pointer none), ?_⟩ ((Step.new hcb _).trans (Step.new ht _))
  refine ⟨h1, h8, .inr rfl, .inl (.inr rfl), hne, Blk.new _ _ _ _, (Blk.new h cb _ _).keep (upd_other _ _ (Ne.symm hne)), by simp, ?_, fun c fd e _ _ h => (by cases h), fun _ _ _ _ _ _ _ _ _ _ h => (by cases h)⟩
  intro c fd hc hf
  rw [List.getElem?_replicate, if_pos (by omega)]
  rfl

variable {F : Nat → Prop} {t nc : Nat} {M : Nat → Nat → Option Op4}

theorem desc_Tables_Clients.c (w : Tabs F h t nc M) (hq : Q (.int .i64 nc) h) : C Try.prog 32 #[.pointer (some ⟨t, 0, none⟩)] h Q := by
  obtain ⟨cb, cs, w⟩ := w
  apply desc_Tables_Clients.ok
  exact xsIf_f rfl ⟨t, 0, rfl, _, _, _, w.bt.cell _, hq⟩

theorem desc_Tables_Clients.nil (hq : Q (.int .i64 0) h) : C Try.prog 32 #[.pointer none] h Q := by
  apply desc_Tables_Clients.ok
  exact xsIf_t rfl hq
theorem desc_Tables_client.nil {c : Int} (hq : Q (.int .i64 1) h) : C Try.prog 41 #[.pointer none, .int .i64 c] h Q := by
  apply desc_Tables_client.ok
  exact xsIf_t rfl hq
theorem desc_Tables_get.nil {c fd : Int} (hq : Q (.tuple #[.pointer none, .int .i64 1]) h) : C Try.prog 40 #[.pointer none, .int .i64 c, .int .i64 fd] h Q := by
  apply desc_Tables_get.ok
  exact desc_Tables_client.nil ⟨_, rfl, xsIf_t rfl hq⟩
theorem desc_Tables_Get.nil {c fd : Int} (hq : Q (.tuple #[.agg #[.int .i64 0, .int .i64 0, .int .i64 0], .int .i64 1]) h) : C Try.prog 23 #[.pointer none, .int .i64 c, .int .i64 fd] h Q := by
  apply desc_Tables_Get.ok
  exact desc_Tables_get.nil ⟨_, _, rfl, xsIf_t rfl hq⟩
theorem desc_Tables_Seek.nil {c fd a : Int} (hq : Q (.int .i64 1) h) : C Try.prog 27 #[.pointer none, .int .i64 c, .int .i64 fd, .int .i64 a] h Q := by
  apply desc_Tables_Seek.ok
  exact desc_Tables_get.nil ⟨_, _, rfl, xsIf_t rfl hq⟩
theorem desc_Tables_Close.nil {c fd : Int} (hq : Q (.tuple #[.int .i64 0, .int .i64 1]) h) : C Try.prog 21 #[.pointer none, .int .i64 c, .int .i64 fd] h Q := by
  apply desc_Tables_Close.ok
  exact desc_Tables_get.nil ⟨_, _, rfl, xsIf_t rfl hq⟩
theorem desc_Tables_Add.nil {c n f : Int} (hq : Q (.tuple #[.int .i64 0, .int .i64 1]) h) : C Try.prog 22 #[.pointer none, .int .i64 c, .int .i64 n, .int .i64 f] h Q := by
  apply desc_Tables_Add.ok
  exact desc_Tables_client.nil ⟨_, rfl, xsIf_t rfl hq⟩
theorem desc_Tables_List.nil {c : Int} (hq : Q (.slice none 0 0) h) : C Try.prog 24 #[.pointer none, .int .i64 c] h Q := by
  apply desc_Tables_List.ok
  exact desc_Tables_client.nil ⟨_, rfl, xsIf_t rfl hq⟩
theorem desc_Tables_Count.nil {n : Int} (hq : Q (.int .i64 0) h) : C Try.prog 31 #[.pointer none, .int .i64 n] h Q := by
  apply desc_Tables_Count.ok
  refine desc_Tables_Clients.nil ⟨_, rfl, ?_⟩
  apply desc_Tables_Count.L3.ok
  exact xsIf_f rfl hq

/-- The numbers that a client has. -/
def openN (M : Nat → Nat → Option Op4) (c k : Nat) : List Nat := (List.range k).filter fun fd => (M c fd).isSome
theorem openN_length (M : Nat → Nat → Option Op4) (c k : Nat) : (openN M c k).length ≤ k := by
  unfold openN; exact Nat.le_trans (List.length_filter_le _ _) (by simp)
theorem openN_succ (M : Nat → Nat → Option Op4) (c k : Nat) : openN M c (k + 1) = openN M c k ++ (if (M c k).isSome then [k] else []) := by
  unfold openN; rw [List.range_succ, List.filter_append]; congr 1; simp [List.filter_cons]

theorem desc_Tables_List.bad {c : Int} (w : Tabs F h t nc M) (hc : ¬ (0 ≤ c ∧ c < nc)) (hq : Q (.slice none 0 0) h) : C Try.prog 24 #[.pointer (some ⟨t, 0, none⟩), .int .i64 c] h Q := by
  apply desc_Tables_List.ok
  refine desc_Tables_client.c w ⟨_, rfl, ?_⟩
  rw [if_neg hc]
  exact xsIf_t rfl hq

theorem list_cells : cellSize Try.prog 3 = 1 ∧ cellZero Try.prog 3 = [.int .i64 0] ∧ cellBytes Try.prog 3 = 8 := ⟨by kernel_rfl, by kernel_rfl, by kernel_rfl⟩

theorem desc_Tables_List.c {c : Nat} (w : Tabs F h t nc M) (hc : c < nc)
    (hq : ∀ a k h', Own h h' 3 1 a (openN M c 16).length k (ints .i64 ((openN M c 16).map fun x : Nat => (x : Int))) → Q (.slice a (openN M c 16).length k) h') : C Try.prog 24 #[.pointer (some ⟨t, 0, none⟩), .int .i64 c] h Q := by
  apply desc_Tables_List.ok
  refine desc_Tables_client.c w ⟨_, rfl, ?_⟩
  rw [if_pos (by omega)]
  obtain ⟨cb, cs, w⟩ := w
  obtain ⟨r1, r2⟩ := w.row hc
  refine xsIf_f rfl ⟨t, 0, rfl, _, _, _, w.bt.cell _, by omega, cb, 0, rfl, rowOf M c, r1, by rw [Int.toNat_natCast]; exact r2, ?_⟩
  have loop : ∀ (j fd : Nat) (a : Option Addr) (k : Nat) (h' : Heap), fd + j = 16 → Own h h' 3 1 a (openN M c fd).length k (ints .i64 ((openN M c fd).map fun x : Nat => (x : Int))) →
      desc_Tables_List.L5 a (openN M c fd).length k (rowOf M c) fd h' Q := by
    intro j
    induction j with
    | zero =>
      intro fd a k h' hfd w
      obtain rfl : fd = 16 := by omega
      apply desc_Tables_List.L5.ok
      exact xsIf_f (by simp) (hq a k h' w)
    | succ j ih =>
      intro fd a k h' hfd w
      apply desc_Tables_List.L5.ok
      refine xsIf_t (by simp; omega) ⟨by omega, _, by rw [Int.toNat_natCast, Nat.mul_one]; exact rowOf_get (by omega), ?_⟩
      rw [ptr_isNone]
      have hs := openN_succ M c fd
      have hl := openN_length M c fd
      cases hm : M c fd with
      | none =>
        rw [hm] at hs
        refine xsIf_f rfl ?_
        rw [i64_in _ (by omega)]
        have := ih (fd + 1) a k h' (by omega) (by rw [hs]; simpa using w)
        rw [hs] at this
        simpa using this
      | some e =>
        rw [hm] at hs
        refine xsIf_t rfl fun b hb => ?_
        refine w.isnoc hb list_cells.1 (by rw [list_cells.2.1]; rfl) (by rw [list_cells.2.2]; omega) fun a' k' h2 w2 => ?_
        rw [i64_in _ (by omega)]
        have e1 : (openN M c fd).map (fun x : Nat => (x : Int)) ++ [(fd : Int)] = (openN M c (fd + 1)).map fun x : Nat => (x : Int) := by rw [hs]; simp
        have e2 : (openN M c fd).length + 1 = (openN M c (fd + 1)).length := by rw [hs]; simp
        rw [e1, e2] at w2
        rw [e2]
        exact ih (fd + 1) a' k' h2 (by omega) w2
  exact loop 16 0 none 0 h (by omega) (Own.nil (Part.refl h))

/-- How often an inode is open. -/
def isN (x : Int) : Option Op4 → Bool
  | some e => decide (e.2.1 = x)
  | none => false
def cntRow (M : Nat → Nat → Option Op4) (x : Int) (c k : Nat) : Nat := (List.range k).countP fun fd => isN x (M c fd)
def cntAll (M : Nat → Nat → Option Op4) (x : Int) (n : Nat) : Nat := ((List.range n).map fun c => cntRow M x c 16).sum
theorem cntRow_succ (M : Nat → Nat → Option Op4) (x : Int) (c k : Nat) : cntRow M x c (k + 1) = cntRow M x c k + (if isN x (M c k) then 1 else 0) := by
  unfold cntRow; rw [List.range_succ, List.countP_append, List.countP_singleton]
theorem cntAll_succ (M : Nat → Nat → Option Op4) (x : Int) (n : Nat) : cntAll M x (n + 1) = cntAll M x n + cntRow M x n 16 := by
  unfold cntAll; rw [List.range_succ, List.map_append, List.sum_append]; simp
theorem cntRow_le (M : Nat → Nat → Option Op4) (x : Int) (c k : Nat) : cntRow M x c k ≤ k := by
  unfold cntRow; exact Nat.le_trans List.countP_le_length (by simp)
theorem cntAll_le (M : Nat → Nat → Option Op4) (x : Int) (n : Nat) : cntAll M x n ≤ 16 * n := by
  induction n with
  | zero => simp [cntAll]
  | succ n ih => rw [cntAll_succ]; have := cntRow_le M x n 16; omega

theorem desc_Tables_Count.c {x : Int} (w : Tabs F h t nc M) (hq : Q (.int .i64 (cntAll M x nc)) h) : C Try.prog 31 #[.pointer (some ⟨t, 0, none⟩), .int .i64 x] h Q := by
  apply desc_Tables_Count.ok
  refine desc_Tables_Clients.c w ⟨_, rfl, ?_⟩
  obtain ⟨cb, cs, w⟩ := w
  have hi := w.hi
  have inner : ∀ (c : Nat) (hc : c < nc) (hn : desc_Tables_Count.L3 (some ⟨t, 0, none⟩) x (cntAll M x (c + 1) : Nat) nc ((c + 1 : Nat) : Int) h Q), ∀ (j fd : Nat), fd + j = 16 →
      desc_Tables_Count.L6 (some ⟨t, 0, none⟩) x (cntAll M x c + cntRow M x c fd : Nat) nc c (rowOf M c) fd h Q := by
    intro c hc hn j
    induction j with
    | zero =>
      intro fd hfd
      obtain rfl : fd = 16 := by omega
      apply desc_Tables_Count.L6.ok
      refine xsIf_f (by simp) ?_
      rw [i64_in _ (by omega), ← cntAll_succ]
      exact hn
    | succ j ih =>
      intro fd hfd
      apply desc_Tables_Count.L6.ok
      have h1 := cntAll_le M x c
      have h2 := cntRow_le M x c fd
      have hs := cntRow_succ M x c fd
      refine xsIf_t (by simp; omega) ⟨by omega, _, by rw [Int.toNat_natCast, Nat.mul_one]; exact rowOf_get (by omega), ?_⟩
      rw [ptr_isNone, i64_in ((fd : Int) + 1) (by omega), i64_in (((cntAll M x c + cntRow M x c fd : Nat) : Int) + 1) (by omega)]
      have hnext := ih (fd + 1) (by omega)
      cases hm : M c fd with
      | none =>
        rw [hm] at hs
        rw [hs] at hnext
        exact xsIf_f rfl (by simpa [isN] using hnext)
      | some e =>
        obtain ⟨g1, g2, g3, g4⟩ := w.ent c fd e hc (by omega) hm
        rw [hm] at hs
        refine xsIf_t rfl ⟨e.1, 0, rfl, _, g4.cell _, xsIf_intro (fun h3 => ?_) (fun h3 => ?_)⟩
        · have h3 : e.2.1 = x := by simpa using h3
          rw [if_pos (by simp [isN, h3])] at hs
          rw [hs] at hnext
          rw [show ((cntAll M x c + cntRow M x c fd : Nat) : Int) + 1 = ((cntAll M x c + (cntRow M x c fd + 1) : Nat) : Int) by omega]
          exact hnext
        · have h3 : ¬ e.2.1 = x := by simpa using h3
          rw [if_neg (by simp [isN, h3])] at hs
          rw [hs] at hnext
          exact hnext
  have loop : ∀ j c : Nat, c + j = nc → desc_Tables_Count.L3 (some ⟨t, 0, none⟩) x (cntAll M x c : Nat) nc c h Q := by
    intro j
    induction j with
    | zero =>
      intro c hc
      obtain rfl : c = nc := by omega
      apply desc_Tables_Count.L3.ok
      exact xsIf_f (by simp) hq
    | succ j ih =>
      intro c hc
      obtain ⟨r1, r2⟩ := w.row (c := c) (by omega)
      apply desc_Tables_Count.L3.ok
      refine xsIf_t (by simp; omega) ⟨t, 0, rfl, _, _, _, w.bt.cell _, by omega, cb, 0, rfl, rowOf M c, r1, by rw [Int.toNat_natCast]; exact r2, ?_⟩
      have := inner c (by omega) (ih (c + 1) (by omega)) 16 0 (by omega)
      simpa [cntRow] using this
  exact loop nc 0 (by omega)

end
end Go.Gb
