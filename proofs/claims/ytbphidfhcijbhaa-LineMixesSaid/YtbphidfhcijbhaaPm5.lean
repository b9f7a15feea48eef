/- Own text for the seat: Pm5. -/
import Derived.Test.YtbphidfhcijbhaaPm4
set_option linter.unusedVariables false
set_option linter.unusedSimpArgs false
set_option linter.unnecessarySimpa false
set_option linter.deprecated false
namespace Go.Gb
open Go.Proofs IntWalk

/-! ## pm: last -/

/-- Those lines that are worn. -/
structure LinesM (n : Nat) (l : List (Int × Value × Nat)) (c : Nat) : Prop where
  im : IMap l c
  ent : ∀ e ∈ l, ∃ i, i < n ∧ e.1 = ((i : Nat) : Int) ∧ e.2.1 = .bool true

open Classical in
noncomputable def wearN (wear : Nat → Int) (l : List (Int × Value × Nat)) (seen : List Nat) : Nat → Int := fun i => if ∃ e ∈ l, e.1 = (i : Int) ∧ e.2.2 ∈ seen then IntKind.wrap .i64 (wear i + 1) else wear i
open Classical in
noncomputable def wearA (wear : Nat → Int) (l : List (Int × Value × Nat)) : Nat → Int := fun i => if ∃ e ∈ l, e.1 = (i : Int) then IntKind.wrap .i64 (wear i + 1) else wear i

theorem born_inj {l : List (Int × Value × Nat)} {c : Nat} (m : IMap l c) {e e' : Int × Value × Nat} (he : e ∈ l) (he' : e' ∈ l) (hb : e.2.2 = e'.2.2) : e = e' := by
  obtain ⟨i, hi⟩ := List.getElem?_of_mem he
  obtain ⟨j, hj⟩ := List.getElem?_of_mem he'
  have hn := List.pairwise_iff_getElem.1 (List.nodup_iff_pairwise_ne.1 m.bn)
  have hil : i < l.length := (List.getElem?_eq_some_iff.1 hi).1
  have hjl : j < l.length := (List.getElem?_eq_some_iff.1 hj).1
  have h1 := (List.getElem?_eq_some_iff.1 hi).2
  have h2 := (List.getElem?_eq_some_iff.1 hj).2
  rcases Nat.lt_trichotomy i j with h | h | h
  · have q : (l.map (·.2.2))[i]'(by simpa using hil) = (l.map (·.2.2))[j]'(by simpa using hjl) := by rw [List.getElem_map, List.getElem_map, h1, h2]; exact hb
    exact absurd q (hn i j (by simpa using hil) (by simpa using hjl) h)
  · subst h; rw [← h1, ← h2]
  · have q : (l.map (·.2.2))[j]'(by simpa using hjl) = (l.map (·.2.2))[i]'(by simpa using hil) := by rw [List.getElem_map, List.getElem_map, h1, h2]; exact hb.symm
    exact absurd q (hn j i (by simpa using hjl) (by simpa using hil) h)
theorem key_inj {l : List (Int × Value × Nat)} {c : Nat} (m : IMap l c) {e e' : Int × Value × Nat} (he : e ∈ l) (he' : e' ∈ l) (hb : e.1 = e'.1) : e = e' := by
  obtain ⟨i, hi⟩ := List.getElem?_of_mem he
  obtain ⟨j, hj⟩ := List.getElem?_of_mem he'
  have : i = j := m.key (k := e.1) (v := e.2.1) (b := e.2.2) (v' := e'.2.1) (b' := e'.2.2) hi (by rw [hb]; exact hj)
  subst this
  rw [hi] at hj; exact Option.some.inj hj

theorem wearN_step {wear : Nat → Int} {l : List (Int × Value × Nat)} {c : Nat} {seen : List Nat} (m : IMap l c) {i : Nat} {v : Value} {b : Nat} (he : (((i : Nat) : Int), v, b) ∈ l) (hs : b ∉ seen) :
    fset (wearN wear l seen) i (IntKind.wrap .i64 (wearN wear l seen i + 1)) = wearN wear l (snoc seen b) := by
  have h0 : wearN wear l seen i = wear i := by
    unfold wearN
    rw [if_neg]
    rintro ⟨e, he', h1, h2⟩
    have := key_inj m he he' h1.symm
    subst this
    exact hs h2
  funext j
  unfold fset
  by_cases e : j = i
  · subst e
    rw [if_pos rfl, h0]
    unfold wearN
    rw [if_pos ⟨_, he, rfl, by show b ∈ seen ++ [b]; simp⟩]
  · rw [if_neg e]
    unfold wearN
    have hiff : (∃ e ∈ l, e.1 = (j : Int) ∧ e.2.2 ∈ snoc seen b) ↔ (∃ e ∈ l, e.1 = (j : Int) ∧ e.2.2 ∈ seen) := by
      constructor
      · rintro ⟨x, hx, h1, h2⟩
        rcases List.mem_append.1 (show x.2.2 ∈ seen ++ [b] from h2) with h3 | h3
        · exact ⟨x, hx, h1, h3⟩
        · simp at h3
          have := born_inj m hx he h3
          subst this
          have : ((i : Nat) : Int) = (j : Int) := h1
          omega
      · rintro ⟨x, hx, h1, h2⟩
        exact ⟨x, hx, h1, List.mem_append.2 (.inl h2)⟩
    simp only [hiff]

theorem wearN_all {wear : Nat → Int} {l : List (Int × Value × Nat)} {seen : List Nat} (h : ∀ e ∈ l, e.2.2 ∈ seen) : wearN wear l seen = wearA wear l := by
  funext i
  unfold wearN wearA
  have hiff : (∃ e ∈ l, e.1 = (i : Int) ∧ e.2.2 ∈ seen) ↔ (∃ e ∈ l, e.1 = (i : Int)) := ⟨fun ⟨e, a, b, _⟩ => ⟨e, a, b⟩, fun ⟨e, a, b⟩ => ⟨e, a, b, h e a⟩⟩
  simp only [hiff]
theorem wearN_nil (wear : Nat → Int) (l : List (Int × Value × Nat)) : wearN wear l [] = wear := by
  funext i; unfold wearN; rw [if_neg]; rintro ⟨e, _, _, h⟩; cases h

/-- How many are to come still. -/
def leftN (l : List (Int × Value × Nat)) (seen : List Nat) : Nat := (l.filter fun e => !seen.elem e.2.2).length
theorem leftN_step {l : List (Int × Value × Nat)} {seen : List Nat} {e : Int × Value × Nat} (he : e ∈ l) (hs : seen.elem e.2.2 = false) : leftN l (snoc seen e.2.2) < leftN l seen := by
  unfold leftN
  have hsub : (l.filter fun x => !(snoc seen e.2.2).elem x.2.2) = (l.filter fun x => !seen.elem x.2.2).filter fun x => !(x.2.2 == e.2.2) := by
    rw [List.filter_filter]
    refine List.filter_congr fun x _ => ?_
    show (!(seen ++ [e.2.2]).elem x.2.2) = _
    rw [Bool.eq_iff_iff]
    simp [and_comm, not_or]
  rw [hsub]
  refine List.length_filter_lt_length_iff_exists.2 ⟨e, ?_, by simp⟩
  rw [List.mem_filter]
  exact ⟨he, by rw [hs]; rfl⟩

section
variable {F : Nat → Prop} {d : Nat} {s : PmS} {Q : Value → Heap → Prop}

theorem PmC.setWear {h : Heap} {mb r wb bb c i : Nat} {l : List (Int × Value × Nat)} {v : Int} (w : PmC F h d mb r wb bb l c s) : PmC F (h.put wb i [.int .i64 v]) d mb r wb bb l c { s with wear := fset s.wear i v } := by
  have ne := w.ne
  have hk : ∀ k, k ≠ wb → h.put wb i [.int .i64 v] k = h k := fun k hk => put_other _ _ _ hk
  refine ⟨w.lo, w.hi, w.fd, w.fm, w.fr, w.fw, w.fb, w.ne, w.hd.keep (hk _ ne.2.2.1), w.hm.keep (hk _ ne.2.2.2.2.2.1), by rw [hk _ ne.2.2.2.2.2.2.2.1, w.hr], ?_, w.hb.keep (hk _ (Ne.symm ne.2.2.2.2.2.2.2.2.2)), w.bm, w.f0, w.f1⟩
  have := w.hw.put i [.int .i64 v]
  rw [setL_one, row_set (Value.int .i64)] at this
  exact this

theorem pm_Device_last.L11.c {G : Nat → Prop} {t48 r1 c1 mb r wb bb c : Nat} {l l1 : List (Int × Value × Nat)} (hG : G t48) (hFG : ∀ k, F k → G k) (m : LinesM s.nl l1 c1)
    (n1 : t48 ≠ d ∧ t48 ≠ mb ∧ t48 ≠ r ∧ t48 ≠ wb ∧ t48 ≠ bb) (n2 : r1 ≠ wb) (n3 : t48 ≠ r1) : ∀ (n : Nat) (seen : List Nat) (h : Heap), leftN l1 seen ≤ n →
    h t48 = some (iterO r1 c1 seen c1) → h r1 = some (mapO (Value.int .i64) l1 c1) → PmC F h d mb r wb bb l c { s with wear := wearN s.wear l1 seen } →
    (∀ h', PmC F h' d mb r wb bb l c { s with wear := wearA s.wear l1 } → Step G h G h' → Q (.tuple #[]) h') → pm_Device_last.L11 (some ⟨d, 0, none⟩) t48 h Q := by
  intro n
  induction n with
  | zero =>
    intro seen h hn hit hm w hq
    apply pm_Device_last.L11.ok
    refine ⟨t48, 0, rfl, rfl, r1, c1, c1, seen, hit, l1, c1, hm, fun j n v b hj => m.im.born _ (List.mem_of_getElem? hj), Nat.le_refl _, fun j n v b hj hs => ?_, fun hall => ?_⟩
    · have := leftN_step (e := (n, v, b)) (List.mem_of_getElem? hj) hs
      omega
    · have e : wearN s.wear l1 seen = wearA s.wear l1 := wearN_all fun e he => by
        obtain ⟨j, hj⟩ := List.getElem?_of_mem he
        exact List.elem_iff.1 (hall j e.1 e.2.1 e.2.2 hj)
      rw [e] at w
      exact hq h w (Step.refl _ _)
  | succ n ih =>
    intro seen h hn hit hm w hq
    apply pm_Device_last.L11.ok
    refine ⟨t48, 0, rfl, rfl, r1, c1, c1, seen, hit, l1, c1, hm, fun j n v b hj => m.im.born _ (List.mem_of_getElem? hj), Nat.le_refl _, fun j k v b hj hs => ?_, fun hall => ?_⟩
    · have hmem : (k, v, b) ∈ l1 := List.mem_of_getElem? hj
      obtain ⟨i, hi, hk, hv⟩ := m.ent _ hmem
      have hk : k = ((i : Nat) : Int) := hk
      have hv : v = .bool true := hv
      subst hk hv
      have hm1 : upd h t48 (iterO r1 c1 (snoc seen b) c1) r1 = some (mapO (Value.int .i64) l1 c1) := by rw [upd_ne n3.symm]; exact hm
      have w1 : PmC F (upd h t48 (iterO r1 c1 (snoc seen b) c1)) d mb r wb bb l c { s with wear := wearN s.wear l1 seen } := by
        have hkk : ∀ k, k ≠ t48 → upd h t48 (iterO r1 c1 (snoc seen b) c1) k = h k := fun k hk => upd_ne hk
        exact ⟨w.lo, w.hi, w.fd, w.fm, w.fr, w.fw, w.fb, w.ne, w.hd.keep (hkk _ n1.1.symm), w.hm.keep (hkk _ n1.2.1.symm), by rw [hkk _ n1.2.2.1.symm, w.hr], w.hw.keep (hkk _ n1.2.2.2.1.symm), w.hb.keep (hkk _ n1.2.2.2.2.symm), w.bm, w.f0, w.f1⟩
      have hi' : i < s.nl := hi
      have hget : (rowI s.nl (wearN s.wear l1 seen))[i]? = some (.int .i64 (wearN s.wear l1 seen i)) := row_get _ hi'
      refine ⟨true, rfl, t48, 0, rfl, rfl, r1, c1, c1, seen, l1, j, (i : Int), .bool true, b, by rw [upd_same], hm1, hj, fun i2 n2 v2 hj2 => ?_, true, rfl, d, 0, rfl, _, _, _, w1.hd.cell _, ⟨by omega, by show ((i : Nat) : Int) < (s.nl : Int); omega⟩, wb, 0, rfl, _, by rw [w1.hw.cell, Nat.zero_add, Nat.mul_one]; exact hget, ⟨by omega, by show ((i : Nat) : Int) < (s.nl : Int); omega⟩, wb, 0, rfl, w1.hw.can (by simp; omega), ?_⟩
      · have := born_inj m.im (List.mem_of_getElem? hj2) hmem rfl
        cases this
        exact m.im.key hj2 hj
      · have hlt := leftN_step (e := (((i : Nat) : Int), .bool true, b)) hmem hs
        have hns : b ∉ seen := fun hc => by rw [List.elem_iff.2 hc] at hs; cases hs
        refine ih (snoc seen b) _ (by have : leftN l1 (snoc seen b) < leftN l1 seen := hlt; omega) ?_ ?_ ?_ fun h' w' st => hq h' w' (((Step.set hG _).trans (Step.put (hFG _ w.fw) _ _)).trans st)
        · rw [put_other _ _ _ n1.2.2.2.1, upd_same]
        · rw [put_other _ _ _ n2]; exact hm1
        · have w2 := w1.setWear (i := 0 + (i : Int).toNat * 1) (v := IntKind.wrap .i64 (wearN s.wear l1 seen i + 1))
          have ei : 0 + (i : Int).toNat * 1 = i := by omega
          rw [ei] at w2 ⊢
          rw [← wearN_step m.im hmem hns]
          exact w2
    · have e : wearN s.wear l1 seen = wearA s.wear l1 := wearN_all fun e he => by
        obtain ⟨j, hj⟩ := List.getElem?_of_mem he
        exact List.elem_iff.1 (hall j e.1 e.2.1 e.2.2 hj)
      rw [e] at w
      exact hq h w (Step.refl _ _)
end
end Go.Gb
