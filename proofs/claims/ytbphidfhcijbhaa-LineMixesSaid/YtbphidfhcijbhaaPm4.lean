/- Own text for the seat: Pm4. -/
import Derived.Test.YtbphidfhcijbhaaPm3
set_option linter.unusedVariables false
set_option linter.unusedSimpArgs false
set_option linter.unnecessarySimpa false
set_option linter.deprecated false
namespace Go.Gb
open Go.Proofs IntWalk

/-! ## pm: flush -/

/-- The buffer with the first k words of a line flushed. -/
def fbuf (buf : Nat → Option (Int × Bool)) (at0 k : Nat) : Nat → Option (Int × Bool) := fun w => if 8 * at0 ≤ w ∧ w < 8 * at0 + k then (buf w).map fun x => (x.1, true) else buf w

theorem fbuf_zero (buf : Nat → Option (Int × Bool)) (at0 : Nat) : fbuf buf at0 0 = buf := by
  funext w; unfold fbuf; rw [if_neg (by omega)]
theorem fbuf_some {buf : Nat → Option (Int × Bool)} {at0 k : Nat} {x : Int × Bool} (h : fbuf buf at0 k (8 * at0 + k) = some x) : fset (fbuf buf at0 k) (8 * at0 + k) (some (x.1, true)) = fbuf buf at0 (k + 1) := by
  unfold fbuf at h
  rw [if_neg (by omega)] at h
  funext w
  unfold fset
  split
  · rename_i e; subst e; unfold fbuf; rw [if_pos (by omega), h]; rfl
  · rename_i e
    unfold fbuf
    by_cases e2 : 8 * at0 ≤ w ∧ w < 8 * at0 + k
    · rw [if_pos e2, if_pos (by omega)]
    · rw [if_neg e2, if_neg (by omega)]
theorem fbuf_none {buf : Nat → Option (Int × Bool)} {at0 k : Nat} (h : fbuf buf at0 k (8 * at0 + k) = none) : fbuf buf at0 k = fbuf buf at0 (k + 1) := by
  have h0 := h
  unfold fbuf at h
  rw [if_neg (by omega)] at h
  funext w
  by_cases e : w = 8 * at0 + k
  · subst e; rw [h0]; unfold fbuf; rw [if_pos (by omega), h]; rfl
  · unfold fbuf
    by_cases e2 : 8 * at0 ≤ w ∧ w < 8 * at0 + k
    · rw [if_pos e2, if_pos (by omega)]
    · rw [if_neg e2, if_neg (by omega)]

section
variable {F : Nat → Prop} {d : Nat} {s : PmS} {Q : Value → Heap → Prop}

theorem pm_Device_Flush_1.L1.c {at0 t0 t1 mb r wb bb : Nat} (ha : at0 < s.nl) (n0 : t0 ≠ r) (n1 : t1 ≠ r) : ∀ (j k : Nat) (h : Heap) (l : List (Int × Value × Nat)) (c : Nat), k + j = 8 → PmC F h d mb r wb bb l c { s with buf := fbuf s.buf at0 k } →
    h.cell t0 0 = some (.pointer (some ⟨d, 0, none⟩)) → h.cell t1 0 = some (.int .i64 (at0 : Int)) →
    (∀ h' l' c', PmC F h' d mb r wb bb l' c' { s with buf := fbuf s.buf at0 8 } → Step F h F h' → Q (.tuple #[]) h') → pm_Device_Flush_1.L1 t0 t1 (k : Int) h Q := by
  intro j
  induction j with
  | zero =>
    intro k h l c hk w h0 h1 hq
    apply pm_Device_Flush_1.L1.ok
    have e : k = 8 := by omega
    subst e
    exact xsIf_f (by simp) (hq h l c w (Step.refl _ _))
  | succ j ih =>
    intro k h l c hk w h0 h1 hq
    apply pm_Device_Flush_1.L1.ok
    have hi := w.hi
    have hi : s.nl ≤ 8192 := hi
    have e1 : IntKind.i64.wrap (IntKind.i64.wrap ((at0 : Int) * 8) + (k : Int)) = ((8 * at0 + k : Nat) : Int) := by
      rw [i64_in ((at0 : Int) * 8) (by omega), i64_in _ (by omega)]; omega
    have e2 : IntKind.i64.wrap ((k : Int) + 1) = ((k + 1 : Nat) : Int) := by rw [i64_in _ (by omega)]; omega
    have hn : 8 * at0 + k < 8 * s.nl := by omega
    refine xsIf_t (decide_eq_true (by omega)) ⟨_, h1, _, h0, d, 0, rfl, _, w.hd.cell _, ?_⟩
    rw [e1, e2]
    have key : ∀ (j : Nat) (v : Value) (b : Nat) (x : Int) (f : Bool), mnth l j = some (((8 * at0 + k : Nat) : Int), v, b) → v = cellV (x, f) → pm_Device_Flush_1.L1 t0 t1 ((k + 1 : Nat) : Int) (upd h r (mapO (Value.int .i64) (mset l j (((8 * at0 + k : Nat) : Int), cellV (x, true), b)) c)) Q := by
      intro j v b x f hj hv
      obtain ⟨y, hy, hv'⟩ := w.bm.found hj
      have exy : y.1 = x := by rw [hv] at hv'; simp [cellV] at hv'; exact hv'.1.symm
      have w2 := w.setBuf (w.bm.set hn hj (x, true))
      have eb : fset (fbuf s.buf at0 k) (8 * at0 + k) (some (x, true)) = fbuf s.buf at0 (k + 1) := by rw [← exy]; exact fbuf_some hy
      refine ih (k + 1) _ (mset l j (((8 * at0 + k : Nat) : Int), cellV (x, true), b)) c (by omega) ?_ ?_ ?_ fun h' l' c' w' st => hq h' l' c' w' ((Step.set w.fr _).trans st)
      · rw [← eb]; exact w2
      · rw [cell_same (upd_ne n0)]; exact h0
      · rw [cell_same (upd_ne n1)]; exact h1
    have none' : (∀ (j : Nat) (v : Value) (b : Nat), ¬ mnth l j = some (((8 * at0 + k : Nat) : Int), v, b)) → pm_Device_Flush_1.L1 t0 t1 ((k + 1 : Nat) : Int) h Q := by
      intro hn'
      have hb := w.bm.lacks hn'
      refine ih (k + 1) h l c (by omega) ?_ h0 h1 hq
      rw [← fbuf_none hb]; exact w
    constructor <;>
    · refine ⟨r, rfl, l, c, w.hr, fun j v b hj => ?_, none'⟩
      obtain ⟨y, hy, hv⟩ := w.bm.found hj
      refine ⟨y.1, y.2, hv, _, h1, _, h0, d, 0, rfl, _, w.hd.cell _, r, rfl, l, c, w.hr, ?_⟩
      rw [e1]
      refine ⟨fun j' v' b' hj' => ?_, fun hn' => absurd hj (hn' j v b)⟩
      have ejj := w.bm.im.key hj hj'
      subst ejj
      have hvv : v' = v := by rw [hj] at hj'; cases hj'; rfl
      exact key j v' b' y.1 y.2 hj' (by rw [hvv]; exact hv)

def pflush (s : PmS) (at0 : Int) : Int × PmS :=
  if (pbegin s at0 s.nl).1 = 0 then (0, { (pbegin s at0 s.nl).2 with buf := fbuf s.buf at0.toNat 8 }) else pbegin s at0 s.nl

variable {h : Heap}

theorem pm_Device_Flush.c {k : Int} (w : PmD F h d s) (hq : ∀ h', PmD F h' d (pflush s k).2 → Step F h F h' → Q (.int .i64 (pflush s k).1) h') :
    C Try.prog 15 #[.pointer (some ⟨d, 0, none⟩), .int .i64 k] h Q := by
  apply pm_Device_Flush.ok
  intro b hb b1 hb1
  have n1 : b1 ≠ b := fun e => by subst e; rw [upd_same] at hb1; cases hb1
  obtain ⟨h3, e3⟩ : ∃ h3, upd (upd h b (Obj.cells #[Value.pointer (some ⟨d, 0, none⟩)] 27 (0, 0))) b1 (Obj.cells #[Value.int IntKind.i64 k] 3 (0, 0)) = h3 := ⟨_, rfl⟩
  have s3 : Step F h F h3 := by
    rw [← e3]
    exact (Step.lost hb _).trans (Step.lost hb1 _)
  have c0 : h3.cell b 0 = some (.pointer (some ⟨d, 0, none⟩)) := by
    rw [← e3, cell_same (upd_ne n1.symm)]; exact upd_cell
  have c1 : h3.cell b1 0 = some (.int .i64 k) := by rw [← e3]; exact upd_cell
  have hk3 : ∀ j, h j ≠ none → h3 j = h j := by
    intro j hj
    rw [← e3, upd_ne, upd_ne]
    · intro e; subst e; exact hj hb
    · intro e; subst e; rw [upd_ne n1] at hb1; exact hj hb1
  have w3 : PmD F h3 d s := w.keep fun j _ hj => hk3 j hj
  rw [e3]
  have hdo : C Try.prog 44 #[.pointer (some ⟨d, 0, none⟩), .int .i64 k, .int .i64 s.nl, .func (.func 47) #[] #[.pointer (some ⟨b, 0, none⟩), .pointer (some ⟨b1, 0, none⟩)]] h3 fun r h' => ∃ x : Int, r = .int .i64 x ∧ Q (.int .i64 x) h' := by
    obtain ⟨mb, r, wb, bb, l, c, w⟩ := w
    have hdn : h d ≠ none := w.hd.ne
    have hrn : h r ≠ none := by rw [w.hr]; simp
    have w3' := w.keep (h' := h3) fun j _ hj => hk3 j hj
    have nb : b ≠ d := fun e => hdn (by rw [← e]; exact hb)
    have nb1 : b1 ≠ d := fun e => hdn (by rw [← e]; rw [upd_ne n1] at hb1; exact hb1)
    have nr : b ≠ r := fun e => hrn (by rw [← e]; exact hb)
    have nr1 : b1 ≠ r := fun e => hrn (by rw [← e]; rw [upd_ne n1] at hb1; exact hb1)
    refine pm_Device_do.c (by kernel_rfl) w3' (fun hne h' w' st _ => ⟨_, rfl, ?_⟩) (fun h0 h' w' st hk => ?_)
    · have e : pflush s k = pbegin s k s.nl := by unfold pflush; rw [if_neg hne]
      have := hq h' (by rw [e]; exact ⟨mb, r, wb, bb, l, c, w'⟩) (s3.trans st)
      rw [e] at this; exact this
    · have e : pflush s k = (0, { (pbegin s k s.nl).2 with buf := fbuf s.buf k.toNat 8 }) := by unfold pflush; rw [if_pos h0]
      obtain ⟨_, hk0, hk1⟩ := pbegin_ok h0
      have ek : ((k.toNat : Nat) : Int) = k := by omega
      show C Try.prog 47 #[.pointer (some ⟨b, 0, none⟩), .pointer (some ⟨b1, 0, none⟩)] h' _
      apply pm_Device_Flush_1.ok
      refine pm_Device_Flush_1.L1.c (F := F) (s := (pbegin s k s.nl).2) (at0 := k.toNat) (mb := mb) (r := r) (wb := wb) (bb := bb) (by rw [pbegin_nl]; omega) nr nr1 8 0 h' l c rfl ?_ (by rw [cell_same (hk b nb)]; exact c0) (by rw [cell_same (hk b1 nb1), ek]; exact c1) fun h'' l' c' w'' st2 => ⟨_, rfl, ?_⟩
      · rw [fbuf_zero]; exact w'
      · have := hq h'' (by rw [e]; rw [pbegin_buf] at w''; exact ⟨mb, r, wb, bb, l', c', w''⟩) ((s3.trans st).trans st2)
        rw [e] at this; exact this
  exact ⟨_, c0, ⟨_, c0, ⟨_, c1, pm_Device_Lines.c w3 ⟨_, rfl, hdo⟩⟩, pm_Device_Lines.c w3 ⟨_, rfl, _, c1, hdo⟩⟩, ⟨_, c1, ⟨_, c0, pm_Device_Lines.c w3 ⟨_, rfl, hdo⟩⟩, pm_Device_Lines.c w3 ⟨_, rfl, _, c0, hdo⟩⟩, pm_Device_Lines.c w3 ⟨_, rfl, _, c0, _, c1, hdo⟩⟩

end
end Go.Gb
