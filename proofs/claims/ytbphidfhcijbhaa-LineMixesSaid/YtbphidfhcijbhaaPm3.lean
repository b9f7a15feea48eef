/- Own text for the seat: Pm3. -/
import Derived.Test.YtbphidfhcijbhaaPm2
set_option linter.unusedVariables false
set_option linter.unusedSimpArgs false
set_option linter.unnecessarySimpa false
set_option linter.deprecated false
namespace Go.Gb
open Go.Proofs IntWalk

/-! ## pm: what writes -/

theorem IMap.set {l : List (Int × Value × Nat)} {c j : Nat} {k : Int} {v v' : Value} {b : Nat} (m : IMap l c) (hj : mnth l j = some (k, v, b)) : IMap (mset l j (k, v', b)) c := by
  have hlt : j < l.length := (List.getElem?_eq_some_iff.1 hj).1
  have hjj : l[j] = (k, v, b) := (List.getElem?_eq_some_iff.1 hj).2
  have e1 : (mset l j (k, v', b)).map (·.1) = l.map (·.1) := by
    show (l.set j (k, v', b)).map (·.1) = _
    rw [List.map_set]
    apply List.ext_getElem?
    intro i
    rw [List.getElem?_set]
    split
    · rename_i h; subst h
      rw [if_pos (by simpa using hlt)]
      simp [List.getElem?_map, hlt, hjj]
    · rfl
  have e2 : (mset l j (k, v', b)).map (·.2.2) = l.map (·.2.2) := by
    show (l.set j (k, v', b)).map (·.2.2) = _
    rw [List.map_set]
    apply List.ext_getElem?
    intro i
    rw [List.getElem?_set]
    split
    · rename_i h; subst h
      rw [if_pos (by simpa using hlt)]
      simp [List.getElem?_map, hlt, hjj]
    · rfl
  have hmem : ∀ e ∈ mset l j (k, v', b), e = (k, v', b) ∨ e ∈ l := fun e he => (List.mem_or_eq_of_mem_set he).symm
  have hkb : (k, v, b) ∈ l := List.mem_of_getElem? hj
  refine ⟨fun e he => ?_, by rw [e2]; exact m.bn, by rw [e1]; exact m.kn, fun e he => ?_⟩
  · rcases hmem e he with rfl | h
    · exact m.born (k, v, b) hkb
    · exact m.born e h
  · rcases hmem e he with rfl | h
    · exact m.wf (k, v, b) hkb
    · exact m.wf e h

theorem IMap.add {l : List (Int × Value × Nat)} {c : Nat} {k : Int} {v : Value} (m : IMap l c) (hk : -9223372036854775808 ≤ k ∧ k < 9223372036854775808) (hn : ∀ (j : Nat) (v : Value) (b : Nat), ¬ mnth l j = some (k, v, b)) : IMap (madd l (k, v, c)) (c + 1) := by
  refine ⟨fun e he => ?_, ?_, ?_, fun e he => ?_⟩
  · rcases List.mem_append.1 he with h | h
    · have := m.born e h; omega
    · simp at h; subst h; show c < c + 1; omega
  · show ((l ++ [(k, v, c)]).map (·.2.2)).Nodup
    rw [List.map_append, List.nodup_append]
    refine ⟨m.bn, by simp, ?_⟩
    intro a ha b hb
    simp at hb
    obtain ⟨e, he, rfl⟩ := List.mem_map.1 ha
    have := m.born e he
    omega
  · show ((l ++ [(k, v, c)]).map (·.1)).Nodup
    rw [List.map_append, List.nodup_append]
    refine ⟨m.kn, by simp, ?_⟩
    intro a ha b hb
    simp at hb
    obtain ⟨e, he, rfl⟩ := List.mem_map.1 ha
    obtain ⟨j, hj⟩ := List.getElem?_of_mem he
    intro e1
    exact hn j e.2.1 e.2.2 (by rw [← hb, ← e1]; exact hj)
  · rcases List.mem_append.1 he with h | h
    · exact m.wf e h
    · simp at h; subst h; exact hk

theorem IMap.key {l : List (Int × Value × Nat)} {c : Nat} (m : IMap l c) {i j : Nat} {k : Int} {v v' : Value} {b b' : Nat} (hi : mnth l i = some (k, v, b)) (hj : mnth l j = some (k, v', b')) : i = j := by
  have hn := List.pairwise_iff_getElem.1 (List.nodup_iff_pairwise_ne.1 m.kn)
  have h1 : (l.map (·.1))[i]? = some k := by rw [List.getElem?_map]; rw [show l[i]? = some (k, v, b) from hi]; rfl
  have h2 : (l.map (·.1))[j]? = some k := by rw [List.getElem?_map]; rw [show l[j]? = some (k, v', b') from hj]; rfl
  have hil : i < (l.map (·.1)).length := (List.getElem?_eq_some_iff.1 h1).1
  have hjl : j < (l.map (·.1)).length := (List.getElem?_eq_some_iff.1 h2).1
  rcases Nat.lt_trichotomy i j with h | h | h
  · exact absurd ((List.getElem?_eq_some_iff.1 h1).2.trans (List.getElem?_eq_some_iff.1 h2).2.symm) (hn i j hil hjl h)
  · exact h
  · exact absurd ((List.getElem?_eq_some_iff.1 h2).2.trans (List.getElem?_eq_some_iff.1 h1).2.symm) (hn j i hjl hil h)

theorem BufM.set {n : Nat} {buf : Nat → Option (Int × Bool)} {l : List (Int × Value × Nat)} {c : Nat} (m : BufM n buf l c) {k j : Nat} {v : Value} {b : Nat} (hk : k < n) (hj : mnth l j = some ((k : Int), v, b)) (x : Int × Bool) : BufM n (fset buf k (some x)) (mset l j ((k : Int), cellV x, b)) c := by
  have hlt : j < l.length := (List.getElem?_eq_some_iff.1 hj).1
  refine ⟨m.im.set hj, fun e he => ?_, fun w y hw => ?_⟩
  · obtain ⟨i, hi⟩ := List.getElem?_of_mem he
    have hi' : (l.set j ((k : Int), cellV x, b))[i]? = some e := hi
    rw [List.getElem?_set] at hi'
    by_cases e1 : j = i
    · rw [if_pos e1, if_pos hlt] at hi'
      cases hi'
      exact ⟨k, x, hk, rfl, by simp [fset], rfl⟩
    · rw [if_neg e1] at hi'
      obtain ⟨w, y, h1, h2, h3, h4⟩ := m.ent e (List.mem_of_getElem? hi')
      refine ⟨w, y, h1, h2, ?_, h4⟩
      unfold fset
      rw [if_neg]
      · exact h3
      · intro e2
        subst e2
        have h5 : mnth l i = some ((w : Int), e.2.1, e.2.2) := by show l[i]? = _; rw [hi', ← h2]
        exact e1 (m.im.key hj h5)
  · unfold fset at hw
    by_cases e1 : w = k
    · rw [if_pos e1] at hw
      cases hw
      subst e1
      exact ⟨b, List.mem_of_getElem? (i := j) (by show (l.set j _)[j]? = _; rw [List.getElem?_set_self hlt])⟩
    · rw [if_neg e1] at hw
      obtain ⟨b', hb'⟩ := m.has w y hw
      obtain ⟨i, hi⟩ := List.getElem?_of_mem hb'
      refine ⟨b', List.mem_of_getElem? (i := i) ?_⟩
      show (l.set j _)[i]? = _
      rw [List.getElem?_set_ne, hi]
      intro e2
      subst e2
      have : ((w : Int)) = (k : Int) := by
        have := hi.symm.trans hj
        cases this; rfl
      omega

theorem BufM.add {n : Nat} {buf : Nat → Option (Int × Bool)} {l : List (Int × Value × Nat)} {c : Nat} (m : BufM n buf l c) {k : Nat} (hk : k < n) (hn8 : n ≤ 65536) (hn : ∀ (j : Nat) (v : Value) (b : Nat), ¬ mnth l j = some ((k : Int), v, b)) (x : Int × Bool) : BufM n (fset buf k (some x)) (madd l ((k : Int), cellV x, c)) (c + 1) := by
  refine ⟨m.im.add (by omega) hn, fun e he => ?_, fun w y hw => ?_⟩
  · rcases List.mem_append.1 he with h | h
    · obtain ⟨w, y, h1, h2, h3, h4⟩ := m.ent e h
      refine ⟨w, y, h1, h2, ?_, h4⟩
      unfold fset
      rw [if_neg]
      · exact h3
      · intro e2
        subst e2
        obtain ⟨j, hj⟩ := List.getElem?_of_mem h
        exact hn j e.2.1 e.2.2 (by rw [← h2]; exact hj)
    · simp at h; subst h
      exact ⟨k, x, hk, rfl, by simp [fset], rfl⟩
  · unfold fset at hw
    by_cases e1 : w = k
    · rw [if_pos e1] at hw
      cases hw
      subst e1
      exact ⟨c, by show _ ∈ l ++ _; simp⟩
    · rw [if_neg e1] at hw
      obtain ⟨b', hb'⟩ := m.has w y hw
      exact ⟨b', List.mem_append.2 (.inl hb')⟩

section
variable {F : Nat → Prop} {h : Heap} {d : Nat} {s : PmS} {Q : Value → Heap → Prop}

theorem PmC.setBuf {mb r wb bb c c' : Nat} {l l' : List (Int × Value × Nat)} {buf : Nat → Option (Int × Bool)} (w : PmC F h d mb r wb bb l c s) (m : BufM (8 * s.nl) buf l' c') : PmC F (upd h r (mapO (Value.int .i64) l' c')) d mb r wb bb l' c' { s with buf := buf } := by
  have ne := w.ne
  have hk : ∀ k, k ≠ r → upd h r (mapO (Value.int .i64) l' c') k = h k := fun k hk => by unfold upd; rw [if_neg hk]
  exact ⟨w.lo, w.hi, w.fd, w.fm, w.fr, w.fw, w.fb, w.ne, w.hd.keep (hk _ ne.2.1), w.hm.keep (hk _ ne.2.2.2.2.1), by unfold upd; rw [if_pos rfl], w.hw.keep (hk _ (Ne.symm ne.2.2.2.2.2.2.2.1)), w.hb.keep (hk _ (Ne.symm ne.2.2.2.2.2.2.2.2.1)), m, w.f0, w.f1⟩

theorem pm_Device_Store_1.c {k : Nat} {v : Int} {t0 t1 t2 : Nat} (w : PmD F h d s) (hk : k < 8 * s.nl) (h0 : h.cell t0 0 = some (.int .u64 v)) (h1 : h.cell t1 0 = some (.pointer (some ⟨d, 0, none⟩))) (h2 : h.cell t2 0 = some (.int .i64 (k : Int)))
    (hq : ∀ h', PmD F h' d { s with buf := fset s.buf k (some (v, false)) } → Step F h F h' → Q (.tuple #[]) h') :
    C Try.prog 46 #[.pointer (some ⟨t0, 0, none⟩), .pointer (some ⟨t1, 0, none⟩), .pointer (some ⟨t2, 0, none⟩)] h Q := by
  obtain ⟨mb, r, wb, bb, l, c, w⟩ := w
  have := w.hi
  apply pm_Device_Store_1.ok
  refine ⟨_, h0, _, h1, d, 0, rfl, _, w.hd.cell _, _, h2, r, rfl, l, c, w.hr, fun j v' b hj => ?_, fun hn => ?_⟩
  · exact hq _ ⟨mb, r, wb, bb, _, _, w.setBuf (w.bm.set hk hj (v, false))⟩ (Step.set w.fr _)
  · exact hq _ ⟨mb, r, wb, bb, _, _, w.setBuf (w.bm.add hk (by omega) hn (v, false))⟩ (Step.set w.fr _)

def pstore (s : PmS) (k v : Int) : Int × PmS :=
  if (pbegin s k ((8 * s.nl : Nat) : Int)).1 = 0 then (0, { (pbegin s k ((8 * s.nl : Nat) : Int)).2 with buf := fset s.buf k.toNat (some (v, false)) }) else pbegin s k ((8 * s.nl : Nat) : Int)

theorem pburn_nl (s : PmS) : (pburn s).2.nl = s.nl := by unfold pburn; split <;> (try split) <;> rfl
theorem pburn_buf (s : PmS) : (pburn s).2.buf = s.buf := by unfold pburn; split <;> (try split) <;> rfl
theorem pbegin_nl (s : PmS) (a o : Int) : (pbegin s a o).2.nl = s.nl := by unfold pbegin; split; exact pburn_nl s; rfl
theorem pbegin_buf (s : PmS) (a o : Int) : (pbegin s a o).2.buf = s.buf := by unfold pbegin; split; exact pburn_buf s; rfl
theorem pbegin_ok {s : PmS} {a o : Int} (h : (pbegin s a o).1 = 0) : s.off = false ∧ 0 ≤ a ∧ a < o := by
  unfold pbegin at h
  split at h
  · rename_i h1; exact pready_ok h1
  · rename_i h1; exact absurd h h1

theorem upd_ne {h : Heap} {b k : Nat} {o : Obj} (e : k ≠ b) : upd h b o k = h k := by unfold upd; rw [if_neg e]
theorem upd_cell {h : Heap} {b : Nat} {v : Value} {T : TypeId} : (upd h b (.cells #[v] T (0, 0))).cell b 0 = some v := by simp [Heap.cell, upd_same]
theorem cell_same {h h' : Heap} {b o : Nat} (e : h' b = h b) : h'.cell b o = h.cell b o := by unfold Heap.cell; rw [e]

theorem pm_Device_Store.c {k v : Int} (w : PmD F h d s) (hq : ∀ h', PmD F h' d (pstore s k v).2 → Step F h F h' → Q (.int .i64 (pstore s k v).1) h') :
    C Try.prog 14 #[.pointer (some ⟨d, 0, none⟩), .int .i64 k, .int .u64 v] h Q := by
  apply pm_Device_Store.ok
  intro b hb b1 hb1 b2 hb2
  have n1 : b1 ≠ b := fun e => by subst e; rw [upd_same] at hb1; cases hb1
  have n20 : b2 ≠ b1 := fun e => by subst e; rw [upd_same] at hb2; cases hb2
  have n21 : b2 ≠ b := fun e => by subst e; rw [upd_ne n1.symm, upd_same] at hb2; cases hb2
  obtain ⟨h3, e3⟩ : ∃ h3, upd (upd (upd h b (Obj.cells #[Value.pointer (some ⟨d, 0, none⟩)] 27 (0, 0))) b1 (Obj.cells #[Value.int IntKind.i64 k] 3 (0, 0))) b2 (Obj.cells #[Value.int IntKind.u64 v] 22 (0, 0)) = h3 := ⟨_, rfl⟩
  have s3 : Step F h F h3 := by
    rw [← e3]
    exact ((Step.lost hb _).trans (Step.lost hb1 _)).trans (Step.lost hb2 _)
  have c0 : h3.cell b 0 = some (.pointer (some ⟨d, 0, none⟩)) := by
    rw [← e3, cell_same (upd_ne n21.symm), cell_same (upd_ne n1.symm)]; exact upd_cell
  have c1 : h3.cell b1 0 = some (.int .i64 k) := by rw [← e3, cell_same (upd_ne n20.symm)]; exact upd_cell
  have c2 : h3.cell b2 0 = some (.int .u64 v) := by rw [← e3]; exact upd_cell
  have hk3 : ∀ j, h j ≠ none → h3 j = h j := by
    intro j hj
    rw [← e3, upd_ne, upd_ne, upd_ne]
    · intro e; subst e; exact hj hb
    · intro e; subst e; rw [upd_ne n1] at hb1; exact hj hb1
    · intro e; subst e; rw [upd_ne n20, upd_ne n21] at hb2; exact hj hb2
  have w3 : PmD F h3 d s := w.keep fun j _ hj => hk3 j hj
  rw [e3]
  have hdo : C Try.prog 44 #[.pointer (some ⟨d, 0, none⟩), .int .i64 k, .int .i64 ((8 * s.nl : Nat) : Int), .func (.func 46) #[] #[.pointer (some ⟨b2, 0, none⟩), .pointer (some ⟨b, 0, none⟩), .pointer (some ⟨b1, 0, none⟩)]] h3 fun r h' => ∃ x : Int, r = .int .i64 x ∧ Q (.int .i64 x) h' := by
    obtain ⟨mb, r, wb, bb, l, c, w⟩ := w
    have hdn : h d ≠ none := w.hd.ne
    have w3' := w.keep (h' := h3) fun j _ hj => hk3 j hj
    have nb : b ≠ d := fun e => hdn (by rw [← e]; exact hb)
    have nb1 : b1 ≠ d := fun e => hdn (by rw [← e]; rw [upd_ne n1] at hb1; exact hb1)
    have nb2 : b2 ≠ d := fun e => hdn (by rw [← e]; rw [upd_ne n20, upd_ne n21] at hb2; exact hb2)
    refine pm_Device_do.c (by kernel_rfl) w3' (fun hne h' w' st _ => ⟨_, rfl, ?_⟩) (fun h0 h' w' st hk => ?_)
    · have e : pstore s k v = pbegin s k ((8 * s.nl : Nat) : Int) := by unfold pstore; rw [if_neg hne]
      have := hq h' (by rw [e]; exact ⟨mb, r, wb, bb, l, c, w'⟩) (s3.trans st)
      rw [e] at this; exact this
    · have e : pstore s k v = (0, { (pbegin s k ((8 * s.nl : Nat) : Int)).2 with buf := fset s.buf k.toNat (some (v, false)) }) := by unfold pstore; rw [if_pos h0]
      obtain ⟨_, hk0, hk1⟩ := pbegin_ok h0
      have ek : ((k.toNat : Nat) : Int) = k := by omega
      refine pm_Device_Store_1.c (k := k.toNat) (v := v) ⟨mb, r, wb, bb, l, c, w'⟩ (by rw [pbegin_nl]; omega) (by rw [cell_same (hk b2 nb2)]; exact c2) (by rw [cell_same (hk b nb)]; exact c0) (by rw [cell_same (hk b1 nb1), ek]; exact c1) fun h'' w'' st2 => ⟨_, rfl, ?_⟩
      have := hq h'' (by rw [e]; rw [pbegin_buf] at w''; exact w'') ((s3.trans st).trans st2)
      rw [e] at this; exact this
  exact ⟨_, c0, ⟨_, c0, ⟨_, c1, pm_Device_words.c w3 ⟨_, rfl, hdo⟩⟩, pm_Device_words.c w3 ⟨_, rfl, _, c1, hdo⟩⟩, ⟨_, c1, ⟨_, c0, pm_Device_words.c w3 ⟨_, rfl, hdo⟩⟩, pm_Device_words.c w3 ⟨_, rfl, _, c0, hdo⟩⟩, pm_Device_words.c w3 ⟨_, rfl, _, c0, _, c1, hdo⟩⟩

end
end Go.Gb
