/- Own text for the seat: Desc1. -/
import Derived.Test.YtmonhmmnnekniabW
import Derived.Test.YtmonhmmnnekniabGbOwn
import Derived.Test.YtmonhmmnnekniabGbClose
set_option linter.unusedVariables false
set_option linter.unusedSimpArgs false
set_option linter.unnecessarySimpa false
set_option linter.deprecated false
namespace Go.Gb
open Go.Proofs IntWalk

/-! ## desc: what the code computes -/

/-- What is open: its block, inode, flags, place. -/
abbrev Op4 := Nat × Int × Int × Int
def ptrOf (o : Option Op4) : Value := .pointer (o.map fun e => ⟨e.1, 0, none⟩)
def setM (M : Nat → Nat → Option Op4) (c fd : Nat) (v : Option Op4) : Nat → Nat → Option Op4 := fun c' fd' => if c' = c ∧ fd' = fd then v else M c' fd'
theorem setM_same (M : Nat → Nat → Option Op4) (c fd : Nat) (v : Option Op4) : setM M c fd v c fd = v := by simp [setM]
theorem setM_other {M : Nat → Nat → Option Op4} {c fd c' fd' : Nat} {v : Option Op4} (h : ¬ (c' = c ∧ fd' = fd)) : setM M c fd v c' fd' = M c' fd' := by unfold setM; rw [if_neg h]

structure TabsC (F : Nat → Prop) (h : Heap) (t cb : Nat) (cs : List Value) (nc : Nat) (M : Nat → Nat → Option Op4) : Prop where
  lo : 1 ≤ nc
  hi : nc ≤ 8
  ft : F t
  fc : F cb
  ne : t ≠ cb
  bt : Blk h t [.slice (some ⟨cb, 0, none⟩) nc nc]
  bc : Blk h cb cs
  len : cs.length = nc * 16
  get : ∀ c fd, c < nc → fd < 16 → cs[c * 16 + fd]? = some (ptrOf (M c fd))
  ent : ∀ c fd e, c < nc → fd < 16 → M c fd = some e → F e.1 ∧ e.1 ≠ t ∧ e.1 ≠ cb ∧ Blk h e.1 [.int .i64 e.2.1, .int .i64 e.2.2.1, .int .i64 e.2.2.2]
  inj : ∀ c fd c' fd' e e', c < nc → fd < 16 → c' < nc → fd' < 16 → M c fd = some e → M c' fd' = some e' → e.1 = e'.1 → c = c' ∧ fd = fd'

def Tabs (F : Nat → Prop) (h : Heap) (t nc : Nat) (M : Nat → Nat → Option Op4) : Prop := ∃ cb cs, TabsC F h t cb cs nc M

theorem TabsC.keep {F : Nat → Prop} {h h' : Heap} {t cb nc : Nat} {cs : List Value} {M : Nat → Nat → Option Op4} (w : TabsC F h t cb cs nc M) (e : ∀ k, F k → h k ≠ none → h' k = h k) : TabsC F h' t cb cs nc M :=
  ⟨w.lo, w.hi, w.ft, w.fc, w.ne, w.bt.keep (e _ w.ft w.bt.ne), w.bc.keep (e _ w.fc w.bc.ne), w.len, w.get, fun c fd x h1 h2 h3 => by
    obtain ⟨g1, g2, g3, g4⟩ := w.ent c fd x h1 h2 h3
    exact ⟨g1, g2, g3, g4.keep (e _ g1 g4.ne)⟩, w.inj⟩
theorem Tabs.keep {F : Nat → Prop} {h h' : Heap} {t nc : Nat} {M : Nat → Nat → Option Op4} (w : Tabs F h t nc M) (e : ∀ k, F k → h k ≠ none → h' k = h k) : Tabs F h' t nc M := by
  obtain ⟨cb, cs, w⟩ := w
  exact ⟨cb, cs, w.keep e⟩

section
variable {F : Nat → Prop} {h : Heap} {t nc : Nat} {M : Nat → Nat → Option Op4} {Q : Value → Heap → Prop}

theorem desc_Tables_client.c {c : Int} (w : Tabs F h t nc M) (hq : Q (.int .i64 (if 0 ≤ c ∧ c < nc then 0 else 2)) h) : C Try.prog 41 #[.pointer (some ⟨t, 0, none⟩), .int .i64 c] h Q := by
  obtain ⟨cb, cs, w⟩ := w
  apply desc_Tables_client.ok
  refine xsIf_f rfl (xsIf_intro (fun h1 => ?_) (fun h1 => ⟨t, 0, rfl, _, _, _, w.bt.cell _, xsIf_intro (fun h2 => ?_) (fun h2 => ?_)⟩))
  · simp at h1; rw [if_neg (by omega)] at hq; exact hq
  · simp at h1 h2; rw [if_neg (by omega)] at hq; exact hq
  · simp at h1 h2; rw [if_pos (by omega)] at hq; exact hq

def tget (nc : Nat) (M : Nat → Nat → Option Op4) (c fd : Int) : Option Op4 × Int :=
  if 0 ≤ c ∧ c < nc then (if 0 ≤ fd ∧ fd < 16 then (match M c.toNat fd.toNat with | some e => (some e, 0) | none => (none, 19)) else (none, 19)) else (none, 2)

theorem ptr_isNone (o : Option Op4) : (o.map fun e => (⟨e.1, 0, none⟩ : Addr)).isNone = o.isNone := by cases o <;> rfl

theorem desc_Tables_get.c {c fd : Int} (w : Tabs F h t nc M) (hq : Q (.tuple #[ptrOf (tget nc M c fd).1, .int .i64 (tget nc M c fd).2]) h) : C Try.prog 40 #[.pointer (some ⟨t, 0, none⟩), .int .i64 c, .int .i64 fd] h Q := by
  apply desc_Tables_get.ok
  refine desc_Tables_client.c w ⟨_, rfl, ?_⟩
  obtain ⟨cb, cs, w⟩ := w
  unfold tget at hq
  by_cases h1 : 0 ≤ c ∧ c < nc
  · rw [if_pos h1]
    rw [if_pos h1] at hq
    refine xsIf_f rfl (xsIf_intro (fun h2 => ?_) (fun h2 => xsIf_intro (fun h3 => ?_) (fun h3 => ⟨t, 0, rfl, _, _, _, w.bt.cell _, h1, cb, 0, rfl, ?_⟩)))
    · simp at h2; rw [if_neg (by omega)] at hq; exact hq
    · simp at h2 h3; rw [if_neg (by omega)] at hq; exact hq
    · simp at h2 h3
      rw [if_pos (by omega)] at hq
      have hg := w.get c.toNat fd.toNat (by omega) (by omega)
      refine ⟨by omega, _, by rw [w.bc.cell, Nat.zero_add, Nat.mul_one]; exact hg, ?_⟩
      rw [ptr_isNone]
      cases hm : M c.toNat fd.toNat with
      | none =>
        rw [hm] at hq
        exact xsIf_t rfl hq
      | some e =>
        rw [hm] at hq hg
        exact xsIf_f rfl ⟨t, 0, rfl, _, _, _, w.bt.cell _, h1, cb, 0, rfl, by omega, _, by rw [w.bc.cell, Nat.zero_add, Nat.mul_one]; exact hg, hq⟩
  · rw [if_neg h1]
    rw [if_neg h1] at hq
    exact xsIf_t rfl hq

def entV : Option Op4 → Value
  | some e => .agg #[.int .i64 e.2.1, .int .i64 e.2.2.1, .int .i64 e.2.2.2]
  | none => .agg #[.int .i64 0, .int .i64 0, .int .i64 0]

theorem tget_some {c fd : Int} {e : Op4} (h : (tget nc M c fd).1 = some e) : (tget nc M c fd).2 = 0 ∧ 0 ≤ c ∧ c < nc ∧ 0 ≤ fd ∧ fd < 16 ∧ M c.toNat fd.toNat = some e := by
  unfold tget at h ⊢
  split at h
  · rename_i h1
    split at h
    · rename_i h2
      split at h
      · rename_i e' hm
        cases h
        rw [if_pos h1, if_pos h2, hm]
        exact ⟨rfl, h1.1, h1.2, h2.1, h2.2, rfl⟩
      · cases h
    · cases h
  · cases h
theorem tget_none {c fd : Int} (h : (tget nc M c fd).1 = none) : (tget nc M c fd).2 = 19 ∨ (tget nc M c fd).2 = 2 := by
  unfold tget at h ⊢
  split at h
  · rename_i h1
    split at h
    · rename_i h2
      split at h
      · cases h
      · rw [if_pos h1, if_pos h2]; exact .inl rfl
    · rename_i h2; rw [if_pos h1, if_neg h2]; exact .inl rfl
  · rename_i h1; rw [if_neg h1]; exact .inr rfl

theorem desc_Tables_Get.c {c fd : Int} (w : Tabs F h t nc M) (hq : Q (.tuple #[entV (tget nc M c fd).1, .int .i64 (tget nc M c fd).2]) h) : C Try.prog 23 #[.pointer (some ⟨t, 0, none⟩), .int .i64 c, .int .i64 fd] h Q := by
  apply desc_Tables_Get.ok
  refine desc_Tables_get.c w ⟨_, _, rfl, ?_⟩
  cases hg : (tget nc M c fd).1 with
  | none =>
    rw [hg] at hq
    exact xsIf_t (by rcases tget_none hg with h1 | h1 <;> rw [h1] <;> rfl) hq
  | some e =>
    obtain ⟨h0, h1, h2, h3, h4, hm⟩ := tget_some hg
    rw [hg, h0] at hq
    obtain ⟨cb, cs, w⟩ := w
    obtain ⟨g1, g2, g3, g4⟩ := w.ent c.toNat fd.toNat e (by omega) (by omega) hm
    rw [h0]
    exact xsIf_f rfl ⟨e.1, 0, rfl, _, g4.cell _, _, g4.cell _, _, g4.cell _, hq⟩

theorem get_setM {cs : List Value} {M : Nat → Nat → Option Op4} {v : Option Op4} {c fd : Nat} (hlen : cs.length = nc * 16) (hget : ∀ c fd, c < nc → fd < 16 → cs[c * 16 + fd]? = some (ptrOf (M c fd))) (hc : c < nc) (hf : fd < 16) :
    ∀ c' fd', c' < nc → fd' < 16 → (cs.set (c * 16 + fd) (ptrOf v))[c' * 16 + fd']? = some (ptrOf (setM M c fd v c' fd')) := by
  intro c' fd' hc' hf'
  rw [List.getElem?_set]
  by_cases e : c' = c ∧ fd' = fd
  · obtain ⟨rfl, rfl⟩ := e
    rw [if_pos rfl, if_pos (by rw [hlen]; omega), setM_same]
  · rw [if_neg (by omega), setM_other e, hget c' fd' hc' hf']

theorem desc_Tables_Seek.c {c fd at0 : Int} (w : Tabs F h t nc M)
    (hbad : (tget nc M c fd).1 = none → Q (.int .i64 (tget nc M c fd).2) h) (hneg : ∀ e, (tget nc M c fd).1 = some e → at0 < 0 → Q (.int .i64 23) h)
    (hq : ∀ e h', (tget nc M c fd).1 = some e → 0 ≤ at0 → Tabs F h' t nc (setM M c.toNat fd.toNat (some (e.1, e.2.1, e.2.2.1, at0))) → Step F h F h' → Q (.int .i64 0) h') :
    C Try.prog 27 #[.pointer (some ⟨t, 0, none⟩), .int .i64 c, .int .i64 fd, .int .i64 at0] h Q := by
  apply desc_Tables_Seek.ok
  refine desc_Tables_get.c w ⟨_, _, rfl, ?_⟩
  cases hg : (tget nc M c fd).1 with
  | none => exact xsIf_t (by rcases tget_none hg with h1 | h1 <;> rw [h1] <;> rfl) (hbad hg)
  | some e =>
    obtain ⟨h0, h1, h2, h3, h4, hm⟩ := tget_some hg
    rw [h0]
    refine xsIf_f rfl (xsIf_intro (fun h5 => hneg e hg (by simpa using h5)) (fun h5 => ?_))
    obtain ⟨cb, cs, w⟩ := w
    obtain ⟨g1, g2, g3, g4⟩ := w.ent c.toNat fd.toNat e (by omega) (by omega) hm
    refine ⟨e.1, 0, rfl, g4.can (by simp), hq e _ hg (by simpa using h5) ⟨cb, cs, ?_⟩ (Step.put g1 _ _)⟩
    have hother : ∀ k, k ≠ e.1 → (h.put e.1 (0 + 2) [.int .i64 at0]) k = h k := fun k hk => put_other h _ _ hk
    refine ⟨w.lo, w.hi, w.ft, w.fc, w.ne, w.bt.keep (hother _ (Ne.symm g2)), w.bc.keep (hother _ (Ne.symm g3)), w.len, ?_, ?_, ?_⟩
    · intro c' fd' hc' hf'
      rw [w.get c' fd' hc' hf']
      by_cases e2 : c' = c.toNat ∧ fd' = fd.toNat
      · obtain ⟨rfl, rfl⟩ := e2; rw [setM_same, hm]; rfl
      · rw [setM_other e2]
    · intro c' fd' x hc' hf' hx
      by_cases e2 : c' = c.toNat ∧ fd' = fd.toNat
      · obtain ⟨rfl, rfl⟩ := e2
        rw [setM_same] at hx
        cases hx
        exact ⟨g1, g2, g3, g4.put (0 + 2) [.int .i64 at0]⟩
      · rw [setM_other e2] at hx
        obtain ⟨k1, k2, k3, k4⟩ := w.ent c' fd' x hc' hf' hx
        refine ⟨k1, k2, k3, k4.keep (hother _ fun e3 => ?_)⟩
        exact e2 (w.inj c' fd' _ _ x e hc' hf' (by omega) (by omega) hx hm e3)
    · intro c1 fd1 c2 fd2 e1 e2 k1 k2 k3 k4 k5 k6 k7
      have key : ∀ c' fd' x, setM M c.toNat fd.toNat (some (e.1, e.2.1, e.2.2.1, at0)) c' fd' = some x → ∃ y, M c' fd' = some y ∧ y.1 = x.1 := by
        intro c' fd' x hx
        by_cases e3 : c' = c.toNat ∧ fd' = fd.toNat
        · obtain ⟨rfl, rfl⟩ := e3; rw [setM_same] at hx; cases hx; exact ⟨e, hm, rfl⟩
        · rw [setM_other e3] at hx; exact ⟨x, hx, rfl⟩
      obtain ⟨y1, hy1, hz1⟩ := key _ _ _ k5
      obtain ⟨y2, hy2, hz2⟩ := key _ _ _ k6
      exact w.inj c1 fd1 c2 fd2 y1 y2 k1 k2 k3 k4 hy1 hy2 (by rw [hz1, hz2, k7])

theorem desc_Tables_Close.c {c fd : Int} (w : Tabs F h t nc M)
    (hbad : (tget nc M c fd).1 = none → Q (.tuple #[.int .i64 0, .int .i64 (tget nc M c fd).2]) h)
    (hq : ∀ e h', (tget nc M c fd).1 = some e → Tabs F h' t nc (setM M c.toNat fd.toNat none) → Step F h F h' → Q (.tuple #[.int .i64 e.2.1, .int .i64 0]) h') :
    C Try.prog 21 #[.pointer (some ⟨t, 0, none⟩), .int .i64 c, .int .i64 fd] h Q := by
  apply desc_Tables_Close.ok
  refine desc_Tables_get.c w ⟨_, _, rfl, ?_⟩
  cases hg : (tget nc M c fd).1 with
  | none => exact xsIf_t (by rcases tget_none hg with h1 | h1 <;> rw [h1] <;> rfl) (hbad hg)
  | some e =>
    obtain ⟨h0, h1, h2, h3, h4, hm⟩ := tget_some hg
    rw [h0]
    obtain ⟨cb, cs, w⟩ := w
    obtain ⟨g1, g2, g3, g4⟩ := w.ent c.toNat fd.toNat e (by omega) (by omega) hm
    have hlen := w.len
    have hother : ∀ k, k ≠ cb → (h.put cb (0 + c.toNat * 16 + fd.toNat * 1) [.pointer none]) k = h k := fun k hk => put_other h _ _ hk
    refine xsIf_f rfl ⟨t, 0, rfl, _, _, _, w.bt.cell _, ⟨h1, h2⟩, cb, 0, rfl, ⟨h3, h4⟩, w.bc.can (by omega), e.1, 0, rfl, e.2.1, ?_, hq e _ hg ⟨cb, cs.set (c.toNat * 16 + fd.toNat) (ptrOf none), ?_⟩ (Step.put w.fc _ _)⟩
    · rw [Blk.cell (g4.keep (hother _ g3))]; rfl
    · refine ⟨w.lo, w.hi, w.ft, w.fc, w.ne, w.bt.keep (hother _ w.ne), ?_, by rw [List.length_set]; exact hlen, get_setM hlen w.get (by omega) (by omega), ?_, ?_⟩
      · have := w.bc.put (0 + c.toNat * 16 + fd.toNat * 1) [.pointer none]
        rw [setL_one] at this
        simpa [ptrOf] using this
      · intro c' fd' x hc' hf' hx
        by_cases e2 : c' = c.toNat ∧ fd' = fd.toNat
        · obtain ⟨rfl, rfl⟩ := e2; rw [setM_same] at hx; cases hx
        · rw [setM_other e2] at hx
          obtain ⟨k1, k2, k3, k4⟩ := w.ent c' fd' x hc' hf' hx
          exact ⟨k1, k2, k3, k4.keep (hother _ k3)⟩
      · intro c1 fd1 c2 fd2 e1 e2 k1 k2 k3 k4 k5 k6 k7
        have key : ∀ c' fd' x, setM M c.toNat fd.toNat none c' fd' = some x → M c' fd' = some x := by
          intro c' fd' x hx
          by_cases e3 : c' = c.toNat ∧ fd' = fd.toNat
          · obtain ⟨rfl, rfl⟩ := e3; rw [setM_same] at hx; cases hx
          · rw [setM_other e3] at hx; exact hx
        exact w.inj c1 fd1 c2 fd2 e1 e2 k1 k2 k3 k4 (key _ _ _ k5) (key _ _ _ k6) k7

/-- A client's row. -/
def rowOf (M : Nat → Nat → Option Op4) (c : Nat) : List Value := (List.range 16).map fun fd => ptrOf (M c fd)
theorem rowOf_get {M : Nat → Nat → Option Op4} {c fd : Nat} (hf : fd < 16) : (rowOf M c)[fd]? = some (ptrOf (M c fd)) := by simp [rowOf, hf]

theorem TabsC.row {cb : Nat} {cs : List Value} (w : TabsC F h t cb cs nc M) {c : Nat} (hc : c < nc) : (rowOf M c).length = 16 ∧ ∀ j, j < (rowOf M c).length → h.cell cb (0 + c * 16 + j) = lget (rowOf M c) j := by
  have hl : (rowOf M c).length = 16 := by simp [rowOf]
  refine ⟨hl, fun j hj => ?_⟩
  rw [hl] at hj
  unfold lget
  rw [w.bc.cell, rowOf_get hj, Nat.zero_add]
  exact w.get c j hc hj

theorem desc_Tables_Add.bad {c n flags : Int} (w : Tabs F h t nc M) (hb : ¬ (0 ≤ c ∧ c < nc ∧ 1 ≤ flags ∧ flags ≤ 7)) (hq : Q (.tuple #[.int .i64 0, .int .i64 2]) h) :
    C Try.prog 22 #[.pointer (some ⟨t, 0, none⟩), .int .i64 c, .int .i64 n, .int .i64 flags] h Q := by
  apply desc_Tables_Add.ok
  refine desc_Tables_client.c w ⟨_, rfl, ?_⟩
  by_cases h1 : 0 ≤ c ∧ c < nc
  · rw [if_pos h1]
    refine xsIf_f rfl (xsIf_intro (fun _ => hq) (fun h2 => xsIf_t (by simp at h2 ⊢; omega) hq))
  · rw [if_neg h1]
    exact xsIf_t rfl hq

theorem desc_Tables_Add.c {c : Nat} {n flags : Int} (w : Tabs F h t nc M) (hc : c < nc) (hfl : 1 ≤ flags ∧ flags ≤ 7)
    (hfull : (∀ fd, fd < 16 → M c fd ≠ none) → Q (.tuple #[.int .i64 0, .int .i64 7]) h)
    (hq : ∀ fd b F' h', fd < 16 → (∀ j, j < fd → M c j ≠ none) → M c fd = none → Tabs F' h' t nc (setM M c fd (some (b, n, flags, 0))) → Step F h F' h' → Q (.tuple #[.int .i64 fd, .int .i64 0]) h') :
    C Try.prog 22 #[.pointer (some ⟨t, 0, none⟩), .int .i64 c, .int .i64 n, .int .i64 flags] h Q := by
  apply desc_Tables_Add.ok
  refine desc_Tables_client.c w ⟨_, rfl, ?_⟩
  rw [if_pos (by omega)]
  refine xsIf_f rfl (xsIf_f (by simp; omega) (xsIf_f (by simp; omega) ?_))
  apply desc_Tables_Add.J6.ok
  obtain ⟨cb, cs, w⟩ := w
  obtain ⟨r1, r2⟩ := w.row hc
  refine ⟨t, 0, rfl, _, _, _, w.bt.cell _, by omega, cb, 0, rfl, rowOf M c, r1, by rw [Int.toNat_natCast]; exact r2, ?_⟩
  have loop : ∀ j fd : Nat, fd + j = 16 → (∀ i, i < fd → M c i ≠ none) → desc_Tables_Add.L7 (some ⟨t, 0, none⟩) c n flags (rowOf M c) fd h Q := by
    intro j
    induction j with
    | zero =>
      intro fd hfd hall
      apply desc_Tables_Add.L7.ok
      exact xsIf_f (by simp; omega) (hfull fun i hi => hall i (by omega))
    | succ j ih =>
      intro fd hfd hall
      apply desc_Tables_Add.L7.ok
      refine xsIf_t (by simp; omega) ⟨by omega, _, by rw [Int.toNat_natCast, Nat.mul_one]; exact rowOf_get (by omega), ?_⟩
      rw [ptr_isNone]
      cases hm : M c fd with
      | some e =>
        refine xsIf_f rfl ?_
        rw [i64_in _ (by omega)]
        refine ih (fd + 1) (by omega) fun i hi => ?_
        by_cases e2 : i = fd
        · rw [e2, hm]; simp
        · exact hall i (by omega)
      | none =>
        refine xsIf_t rfl ⟨t, 0, rfl, _, _, _, w.bt.cell _, fun b hb => ⟨by omega, cb, 0, rfl, by omega, ?_, ?_⟩⟩
        · have hbc : b ≠ cb := fun e => w.bc.ne (by rw [← e]; exact hb)
          rw [Int.toNat_natCast, Int.toNat_natCast]
          exact (w.bc.keep (upd_other h _ (Ne.symm hbc))).can (by rw [w.len]; omega)
        · have hbc : b ≠ cb := fun e => w.bc.ne (by rw [← e]; exact hb)
          have hbt : b ≠ t := fun e => w.bt.ne (by rw [← e]; exact hb)
          rw [Int.toNat_natCast, Int.toNat_natCast]
          have s1 := Step.new (F := F) hb (.cells #[.int .i64 n, .int .i64 flags, .int .i64 0] 49 (0, 0))
          generalize hh1 : upd h b (.cells #[.int .i64 n, .int .i64 flags, .int .i64 0] 49 (0, 0)) = h1 at s1
          have hk1 : ∀ k, k ≠ b → h1 k = h k := fun k hk => by rw [← hh1]; exact upd_other h _ hk
          have bb : Blk h1 b [.int .i64 n, .int .i64 flags, .int .i64 0] := by rw [← hh1]; exact Blk.new h b _ _
          have hk2 : ∀ k, k ≠ cb → (h1.put cb (0 + c * 16 + fd * 1) [.pointer (some ⟨b, 0, none⟩)]) k = h1 k := fun k hk => put_other h1 _ _ hk
          refine hq fd b (fun k => F k ∨ k = b) _ (by omega) hall hm ⟨cb, cs.set (c * 16 + fd) (ptrOf (some (b, n, flags, 0))), ?_⟩ (s1.trans (Step.put (.inl w.fc) _ _))
          refine ⟨w.lo, w.hi, .inl w.ft, .inl w.fc, w.ne, (w.bt.keep (hk1 _ (Ne.symm hbt))).keep (hk2 _ w.ne), ?_, by rw [List.length_set]; exact w.len, get_setM w.len w.get hc (by omega), ?_, ?_⟩
          · have := (w.bc.keep (hk1 _ (Ne.symm hbc))).put (0 + c * 16 + fd * 1) [.pointer (some ⟨b, 0, none⟩)]
            rw [setL_one] at this
            simpa [ptrOf] using this
          · intro c' fd' x hc' hf' hx
            by_cases e2 : c' = c ∧ fd' = fd
            · obtain ⟨rfl, rfl⟩ := e2
              rw [setM_same] at hx
              cases hx
              exact ⟨.inr rfl, hbt, hbc, bb.keep (hk2 _ hbc)⟩
            · rw [setM_other e2] at hx
              obtain ⟨k1, k2, k3, k4⟩ := w.ent c' fd' x hc' hf' hx
              have hxb : x.1 ≠ b := fun e => k4.ne (by rw [e]; exact hb)
              exact ⟨.inl k1, k2, k3, (k4.keep (hk1 _ hxb)).keep (hk2 _ k3)⟩
          · intro c1 fd1 c2 fd2 e1 e2 k1 k2 k3 k4 k5 k6 k7
            have old : ∀ c' fd' x, c' < nc → fd' < 16 → M c' fd' = some x → x.1 ≠ b := fun c' fd' x hc' hf' hx e => (w.ent c' fd' x hc' hf' hx).2.2.2.ne (by rw [e]; exact hb)
            by_cases e3 : c1 = c ∧ fd1 = fd <;> by_cases e4 : c2 = c ∧ fd2 = fd
            · exact ⟨by omega, by omega⟩
            · obtain ⟨rfl, rfl⟩ := e3
              rw [setM_same] at k5; cases k5
              rw [setM_other e4] at k6
              exact absurd k7.symm (old _ _ _ k3 k4 k6)
            · obtain ⟨rfl, rfl⟩ := e4
              rw [setM_same] at k6; cases k6
              rw [setM_other e3] at k5
              exact absurd k7 (old _ _ _ k1 k2 k5)
            · rw [setM_other e3] at k5
              rw [setM_other e4] at k6
              exact w.inj c1 fd1 c2 fd2 e1 e2 k1 k2 k3 k4 k5 k6 k7
  exact loop 16 0 (by omega) (fun i hi => absurd hi (Nat.not_lt_zero i))

end
end Go.Gb
