/- Own text for the seat: Pm6. -/
import Derived.Test.YtbphidfhcijbhaaPm5
set_option linter.unusedVariables false
set_option linter.unusedSimpArgs false
set_option linter.unnecessarySimpa false
set_option linter.deprecated false
namespace Go.Gb
open Go.Proofs IntWalk

/-! ## pm: last, the words -/

theorem IMap.del {l : List (Int × Value × Nat)} {c j : Nat} (m : IMap l c) : IMap (mdel l j) c := by
  have hs : (l.eraseIdx j).Sublist l := List.eraseIdx_sublist l j
  exact ⟨fun e he => m.born e (hs.subset he), (hs.map _).nodup m.bn, (hs.map _).nodup m.kn, fun e he => m.wf e (hs.subset he)⟩

theorem IMap.del_mem {l : List (Int × Value × Nat)} {c j : Nat} {k : Int} {v : Value} {b : Nat} (m : IMap l c) (hj : mnth l j = some (k, v, b)) {e : Int × Value × Nat} : e ∈ mdel l j ↔ e ∈ l ∧ e.1 ≠ k := by
  have hlt : j < l.length := (List.getElem?_eq_some_iff.1 hj).1
  constructor
  · intro he
    obtain ⟨i, hi, hie⟩ := List.mem_eraseIdx_iff_getElem?.1 he
    refine ⟨List.mem_of_getElem? hie, fun hk => hi ?_⟩
    exact (m.key (v := e.2.1) (b := e.2.2) (by rw [← hk]; exact hie) hj)
  · rintro ⟨he, hk⟩
    obtain ⟨i, hi⟩ := List.getElem?_of_mem he
    refine List.mem_eraseIdx_iff_getElem?.2 ⟨i, fun e1 => ?_, hi⟩
    subst e1
    have e2 := (show l[i]? = some (k, v, b) from hj).symm.trans hi
    cases e2
    exact hk rfl

theorem BufM.del {n : Nat} {buf : Nat → Option (Int × Bool)} {l : List (Int × Value × Nat)} {c : Nat} (m : BufM n buf l c) {k j : Nat} {v : Value} {b : Nat} (hj : mnth l j = some ((k : Int), v, b)) : BufM n (fset buf k none) (mdel l j) c := by
  refine ⟨m.im.del, fun e he => ?_, fun w y hw => ?_⟩
  · obtain ⟨he, hk⟩ := (m.im.del_mem hj).1 he
    obtain ⟨w, y, h1, h2, h3, h4⟩ := m.ent e he
    refine ⟨w, y, h1, h2, ?_, h4⟩
    unfold fset
    rw [if_neg (by rintro rfl; exact hk h2)]
    exact h3
  · unfold fset at hw
    by_cases e : w = k
    · rw [if_pos e] at hw; cases hw
    · rw [if_neg e] at hw
      obtain ⟨b', hb'⟩ := m.has w y hw
      exact ⟨b', (m.im.del_mem hj).2 ⟨hb', by show (w : Int) ≠ (k : Int); omega⟩⟩

def KeysOf' (l : List (Int × Value × Nat)) (p : Nat → Prop) : Prop := ∀ i : Nat, (∃ e ∈ l, e.1 = (i : Int)) ↔ p i

theorem LinesM.set {n : Nat} {l : List (Int × Value × Nat)} {c j i : Nat} {v : Value} {b : Nat} {p : Nat → Prop} (m : LinesM n l c) (hi : i < n) (hk : KeysOf' l p) (hj : mnth l j = some ((i : Int), v, b)) :
    LinesM n (mset l j ((i : Int), .bool true, b)) c ∧ KeysOf' (mset l j ((i : Int), .bool true, b)) fun x => p x ∨ x = i := by
  have hlt : j < l.length := (List.getElem?_eq_some_iff.1 hj).1
  have e1 : (mset l j ((i : Int), (.bool true : Value), b)).map (·.1) = l.map (·.1) := by
    show (l.set j _).map (·.1) = _
    rw [List.map_set]
    apply List.ext_getElem?
    intro q
    rw [List.getElem?_set]
    split
    · rename_i h; subst h
      rw [if_pos (by simpa using hlt), List.getElem?_map, show l[j]? = _ from hj]
      rfl
    · rfl
  refine ⟨⟨m.im.set hj, fun e he => ?_⟩, fun x => ?_⟩
  · rcases List.mem_or_eq_of_mem_set he with h | h
    · exact m.ent e h
    · subst h; exact ⟨i, hi, rfl, rfl⟩
  · have hm : ∀ l' : List (Int × Value × Nat), (∃ e ∈ l', e.1 = (x : Int)) ↔ (x : Int) ∈ l'.map (·.1) := fun l' => by simp
    rw [hm, e1, ← hm, hk x]
    constructor
    · exact .inl
    · rintro (h | rfl)
      · exact h
      · exact (hk x).1 ⟨_, List.mem_of_getElem? hj, rfl⟩

theorem LinesM.add {n : Nat} {l : List (Int × Value × Nat)} {c i : Nat} {p : Nat → Prop} (m : LinesM n l c) (hi : i < n) (hn : n ≤ 65536) (hk : KeysOf' l p) (h0 : ∀ (j : Nat) (v : Value) (b : Nat), ¬ mnth l j = some ((i : Int), v, b)) :
    LinesM n (madd l ((i : Int), .bool true, c)) (c + 1) ∧ KeysOf' (madd l ((i : Int), .bool true, c)) fun x => p x ∨ x = i := by
  refine ⟨⟨m.im.add (by omega) h0, fun e he => ?_⟩, fun x => ?_⟩
  · rcases List.mem_append.1 he with h | h
    · exact m.ent e h
    · simp at h; subst h; exact ⟨i, hi, rfl, rfl⟩
  · constructor
    · rintro ⟨e, he, hx⟩
      rcases List.mem_append.1 he with h | h
      · exact .inl ((hk x).1 ⟨e, h, hx⟩)
      · simp at h; subst h
        right
        have : ((i : Nat) : Int) = (x : Int) := hx
        omega
    · rintro (h | rfl)
      · obtain ⟨e, he, hx⟩ := (hk x).2 h
        exact ⟨e, List.mem_append.2 (.inl he), hx⟩
      · exact ⟨_, List.mem_append.2 (.inr (by simp; rfl)), rfl⟩

section
variable {F : Nat → Prop} {d : Nat} {s : PmS} {Q : Value → Heap → Prop}

theorem PmC.setMedia {h : Heap} {mb r wb bb c i : Nat} {l : List (Int × Value × Nat)} {v : Int} (w : PmC F h d mb r wb bb l c s) : PmC F (h.put mb i [.int .u64 v]) d mb r wb bb l c { s with media := fset s.media i v } := by
  have ne := w.ne
  have hk : ∀ k, k ≠ mb → h.put mb i [.int .u64 v] k = h k := fun k hk => put_other _ _ _ hk
  refine ⟨w.lo, w.hi, w.fd, w.fm, w.fr, w.fw, w.fb, w.ne, w.hd.keep (hk _ ne.1), ?_, by rw [hk _ (Ne.symm ne.2.2.2.2.1), w.hr], w.hw.keep (hk _ (Ne.symm ne.2.2.2.2.2.1)), w.hb.keep (hk _ (Ne.symm ne.2.2.2.2.2.2.1)), w.bm, w.f0, w.f1⟩
  have := w.hm.put i [.int .u64 v]
  rw [setL_one, row_set (Value.int .u64)] at this
  exact this

theorem PmC.other {h : Heap} {mb r wb bb c b : Nat} {l : List (Int × Value × Nat)} {o : Obj} (w : PmC F h d mb r wb bb l c s) (hb : b ≠ d ∧ b ≠ mb ∧ b ≠ r ∧ b ≠ wb ∧ b ≠ bb) : PmC F (upd h b o) d mb r wb bb l c s := by
  have hkk : ∀ k, k ≠ b → upd h b o k = h k := fun k hk => upd_ne hk
  exact ⟨w.lo, w.hi, w.fd, w.fm, w.fr, w.fw, w.fb, w.ne, w.hd.keep (hkk _ hb.1.symm), w.hm.keep (hkk _ hb.2.1.symm), by rw [hkk _ hb.2.2.1.symm, w.hr], w.hw.keep (hkk _ hb.2.2.2.1.symm), w.hb.keep (hkk _ hb.2.2.2.2.symm), w.bm, w.f0, w.f1⟩

theorem pm_Device_last.J7.c {G : Nat → Prop} {h : Heap} {mb r wb bb c r1 c1 k : Nat} {l l1 : List (Int × Value × Nat)} {p : Nat → Prop} {wa : Option Addr} {wn wc : Nat} {t11 t12 : Int} (w : PmC F h d mb r wb bb l c s) (hFG : ∀ k, F k → G k) (hG : G r1)
    (n1 : r1 ≠ d ∧ r1 ≠ mb ∧ r1 ≠ r ∧ r1 ≠ wb ∧ r1 ≠ bb) (h1 : h r1 = some (mapO (Value.int .i64) l1 c1)) (m : LinesM s.nl l1 c1) (hp : KeysOf' l1 p) (hk : k < 8 * s.nl) {x : Int × Bool} (hx : s.buf k = some x)
    (hq : ∀ h' l' l1' c1', PmC F h' d mb r wb bb l' c { s with buf := fset s.buf k none } → h' r1 = some (mapO (Value.int .i64) l1' c1') → LinesM s.nl l1' c1' → KeysOf' l1' (fun y => p y ∨ y = k / 8) → Step G h G h' → (∀ b, b ≠ r → b ≠ r1 → h' b = h b) →
      pm_Device_last.L2 (some ⟨d, 0, none⟩) (some r1) wa wn wc t11 (IntKind.i64.wrap (t12 + 1)) h' Q) :
    pm_Device_last.J7 (some ⟨d, 0, none⟩) (some r1) (k : Int) ((k / 8 : Nat) : Int) wa wn wc t11 t12 h Q := by
  have hi := w.hi
  apply pm_Device_last.J7.ok
  refine ⟨d, 0, rfl, _, w.hd.cell _, r, rfl, l, c, w.hr, fun j v b hj => ?_, fun hn => ?_⟩
  · have w1 := w.setBuf (w.bm.del hj)
    have hm1 : upd h r (mapO (Value.int .i64) (mdel l j) c) r1 = some (mapO (Value.int .i64) l1 c1) := by rw [upd_ne n1.2.2.1]; exact h1
    refine ⟨r1, rfl, l1, c1, hm1, fun j1 v1 b1 hj1 => ?_, fun hn1 => ?_⟩
    · obtain ⟨m2, hp2⟩ := m.set (by omega) hp hj1
      refine hq _ _ _ _ (w1.other n1) (by rw [upd_same]) m2 hp2 ((Step.set (hFG _ w.fr) _).trans (Step.set hG _)) fun b hb hb1 => by rw [upd_ne hb1, upd_ne hb]
    · obtain ⟨m2, hp2⟩ := m.add (by omega) (by omega) hp hn1
      refine hq _ _ _ _ (w1.other n1) (by rw [upd_same]) m2 hp2 ((Step.set (hFG _ w.fr) _).trans (Step.set hG _)) fun b hb hb1 => by rw [upd_ne hb1, upd_ne hb]
  · have := w.bm.lacks hn
    rw [hx] at this; cases this
end
end Go.Gb
