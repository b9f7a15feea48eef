/- Own texts for the seat: GbArgs GbArgs2 GbArgs3. -/
import Derived.Test.YtcccjpahikgibaaDoorA12
import Derived.Test.YtcccjpahikgibaaDoorA7
import Derived.SizedLaws
set_option linter.unusedVariables false
set_option linter.unusedSimpArgs false
set_option linter.unnecessarySimpa false
set_option linter.deprecated false
namespace Go.Gb
open Go.ChangeShapes Go.WideShapes Go.ChangeAt Go.RowKit

/-! Arguments of whatever type: what their cells are, told by the type. -/

def Okc (P : Program) (h : Heap) : Nat → TypeId → List Value → Prop
  | 0, _, _ => True
  | d + 1, t, cs => match P.underlying t with
    | some (.int k) => ∃ m : Int, cs = [.int k m] ∧ k.min ≤ m ∧ m ≤ k.max
    | some .bool => ∃ b : Bool, cs = [.bool b]
    | some .string => ∃ s : ByteArray, cs = [.string s] ∧ s.size ≤ 9223372036854775807
    | some (.struct fs) => cs.length = P.cellsOf t ∧ ∀ f, f ∈ fs.toList → Okc P h d f.type ((cs.drop f.offset).take (P.cellsOf f.type))
    | some (.array n e) => cs.length = P.cellsOf t ∧ ∀ i, i < n → Okc P h d e ((cs.drop (i * P.cellsOf e)).take (P.cellsOf e))
    | some (.slice e) => ∃ (a : Option Addr) (n c : Nat), cs = [.slice a n c] ∧ n ≤ c ∧ c ≤ 9223372036854775807 ∧
        (n = 0 ∨ P.cellsOf e = 0 ∨ ∃ b o, a = some ⟨b, o, none⟩ ∧ ∀ i, i < n → ∃ ds : List Value, ds.length = P.cellsOf e ∧ (∀ j, j < ds.length → h.cell b (o + (i * P.cellsOf e + j)) = ds[j]?) ∧ Okc P h d e ds)
    | _ => True

theorem mapM_get {α β : Type} {f : α → Option β} : ∀ {l : List α} {r : List β}, l.mapM f = some r → r.length = l.length ∧ ∀ (i : Nat) (x : α), l[i]? = some x → ∃ y, r[i]? = some y ∧ f x = some y := by
  intro l
  induction l with
  | nil => intro r h; simp at h; subst h; exact ⟨rfl, by simp⟩
  | cons a l ih =>
    intro r h
    rw [List.mapM_cons] at h
    simp only [Option.bind_eq_bind, Option.bind_eq_some_iff, Option.pure_def, Option.some.injEq] at h
    obtain ⟨y, hy, zs, hz, rfl⟩ := h
    obtain ⟨h1, h2⟩ := ih hz
    refine ⟨by simp [h1], fun i x hx => ?_⟩
    cases i with
    | zero => simp at hx; subst hx; exact ⟨y, rfl, hy⟩
    | succ i => simp only [List.getElem?_cons_succ] at hx ⊢; exact h2 i x hx

section
variable {H : Type} {enc : TypeId × Value → H} {P : Program} {w : World} {h : Heap} {base : Nat} {sp : Nat → Bool} {held : Bool}

theorem cell_world (hw : ∀ k, h k = w.heap[k]?) {b o : Nat} {v : Value} (hc : w.cell? ⟨b, o, none⟩ = some v) : h.cell b o = some v := by
  unfold World.cell? at hc
  unfold Heap.cell
  rw [hw]
  split at hc
  · rename_i c T f he
    dsimp only at he
    rw [he]
    simpa using hc
  · cases hc

theorem okc_trod (hw : ∀ k, h k = w.heap[k]?) : ∀ (d : Nat) (t : TypeId) (cs : List Value) (fuel : Nat) (x : DataW H × List MemPlace), DataW.trod enc P w base sp held fuel t cs = some x → Okc P h d t cs := by
  intro d
  induction d with
  | zero => intro t cs fuel x _; trivial
  | succ d ih =>
    intro t cs fuel x hx
    unfold Okc
    split
    · rename_i k ht
      obtain ⟨m, h1, -, h2⟩ := DataW.trod_int ht hx
      exact ⟨m, h1, wf_lo h2⟩
    · rename_i ht
      obtain ⟨b, h1, -⟩ := DataW.trod_bool ht hx
      exact ⟨b, h1⟩
    · rename_i ht
      obtain ⟨s, h1, -, h2⟩ := DataW.trod_string ht hx
      exact ⟨s, h1, h2⟩
    · rename_i fs ht
      cases fuel with
      | zero => simp [DataW.trod] at hx
      | succ m =>
        rw [DataW.trod_step] at hx
        unfold DataW.trodStep at hx
        simp only [ht] at hx
        split at hx
        · rename_i hl
          refine ⟨hl, fun f hf => ?_⟩
          simp only [Option.map_eq_some_iff] at hx
          obtain ⟨ys, hy, -⟩ := hx
          obtain ⟨i, hi⟩ := List.getElem?_of_mem hf
          obtain ⟨y, _, hy2⟩ := (mapM_get hy).2 i f hi
          exact ih _ _ _ _ hy2
        · cases hx
    · rename_i n e ht
      obtain ⟨h1, f', h2⟩ := trod_arr ht hx
      exact ⟨h1, fun i hi => by obtain ⟨y, hy⟩ := h2 i hi; exact ih _ _ _ _ hy⟩
    · rename_i e ht
      cases fuel with
      | zero => simp [DataW.trod] at hx
      | succ m =>
        rw [DataW.trod_step] at hx
        unfold DataW.trodStep at hx
        simp only [ht] at hx
        split at hx
        all_goals first
          | (cases hx; done)
          | skip
        all_goals try (rename_i he; cases he; done)
        all_goals try (exact ⟨none, 0, 0, rfl, Nat.le_refl _, by omega, .inl rfl⟩)
        rename_i e' a len cap he
        cases he
        split at hx
        · rename_i hb
          obtain ⟨hb1, hb2, hb3⟩ := hb
          have hb3 : cap ≤ 9223372036854775807 := hb3
          simp only [Option.bind_eq_some_iff] at hx
          obtain ⟨elems, hel, -⟩ := hx
          refine ⟨some a, len, cap, rfl, hb2, hb3, ?_⟩
          by_cases hlen : len = 0
          · exact .inl hlen
          by_cases hsz : P.cellsOf e = 0
          · exact .inr (.inl hsz)
          refine .inr (.inr ?_)
          have key : ∀ i, i < len → ∃ ds : List Value, ds.length = P.cellsOf e ∧ (∀ j, j < ds.length → w.cell? ((a.add (i * P.cellsOf e)).add j) = ds[j]?) ∧ Okc P h d e ds := by
            intro i hi
            obtain ⟨y, _, hy⟩ := (mapM_get hel).2 i i (by simp [hi])
            rw [Option.bind_eq_some_iff] at hy
            obtain ⟨ds, hds, hok⟩ := hy
            unfold World.cells? at hds
            split at hds
            · obtain ⟨g1, g2⟩ := mapM_get hds
              refine ⟨ds, by simpa using g1, fun j hj => ?_, ih _ _ _ _ hok⟩
              have g1' : ds.length = P.cellsOf e := by simpa using g1
              obtain ⟨v, hv, hv2⟩ := g2 j j (by rw [List.getElem?_range (by omega)])
              rw [hv, hv2]
            · cases hds
          have hspot : a.spot = none := by
            obtain ⟨ds, h1, h2, _⟩ := key 0 (by omega)
            have := h2 0 (by omega)
            rw [Nat.zero_mul] at this
            have e0 : (a.add 0).add 0 = a := by simp [Addr.add]
            rw [e0, List.getElem?_eq_getElem (by omega)] at this
            unfold World.cell? at this
            split at this
            · split at this
              · cases this
              · rename_i hs; simpa using hs
            · cases this
          obtain ⟨b, o, s⟩ := a
          have hspot : s = none := hspot
          subst hspot
          refine ⟨b, o, rfl, fun i hi => ?_⟩
          obtain ⟨ds, h1, h2, h3⟩ := key i hi
          refine ⟨ds, h1, fun j hj => ?_, h3⟩
          have := h2 j hj
          rw [add_lit, add_lit, List.getElem?_eq_getElem hj] at this
          rw [List.getElem?_eq_getElem hj, ← Nat.add_assoc]
          exact cell_world hw this
        · cases hx
    · trivial

/-- A value of many cells. -/
theorem open_aggv {r : Reach} {b0 : Nat} {t : TypeId} {v : Value} (ht : (match P.underlying t with | some (.struct _) => true | some (.array _ _) => true | _ => false) = true)
    (hval : Value.okWide P w r b0 t v) : ∃ cs : List Value, v = .agg cs.toArray := by
  unfold Value.okWide at hval
  split at ht
  · rename_i fs hu
    simp only [hu] at hval
    obtain ⟨cs, rfl, -, -⟩ := hval
    exact ⟨cs.toList, by simp⟩
  · rename_i n e hu
    simp only [hu] at hval
    obtain ⟨cs, rfl, -, -⟩ := hval
    exact ⟨cs.toList, by simp⟩
  · cases ht
theorem okc_agg {d : Nat} {t : TypeId} {cs : List Value} {x : DataW H} {ps : List MemPlace} (hw : ∀ k, h k = w.heap[k]?) (hd : DataW.Trod enc P w base sp held t (.agg cs.toArray) x ps) : Okc P h d t cs := by
  obtain ⟨fuel, hf⟩ := hd
  exact okc_trod hw d t _ _ _ hf
end

end Go.Gb
namespace Go.Gb

/-! The cells of a struct or an array, each by its own type. -/

theorem Okc.less {P : Program} {h : Heap} : ∀ (d : Nat) (t : TypeId) (cs : List Value), Okc P h (d + 1) t cs → Okc P h d t cs := by
  intro d
  induction d with
  | zero => intro t cs _; trivial
  | succ d ih =>
    intro t cs hk
    unfold Okc at hk ⊢
    split
    · rename_i ht; rw [ht] at hk; exact hk
    · rename_i ht; rw [ht] at hk; exact hk
    · rename_i ht; rw [ht] at hk; exact hk
    · rename_i ht; rw [ht] at hk; exact ⟨hk.1, fun f hf => ih _ _ (hk.2 f hf)⟩
    · rename_i ht; rw [ht] at hk; exact ⟨hk.1, fun i hi => ih _ _ (hk.2 i hi)⟩
    · rename_i ht
      rw [ht] at hk
      obtain ⟨a, n, c, h1, h2, h3, h4⟩ := hk
      refine ⟨a, n, c, h1, h2, h3, h4.imp id fun h4 => h4.imp id fun ⟨b, o, h5, h6⟩ => ⟨b, o, h5, fun i hi => ?_⟩⟩
      obtain ⟨ds, k1, k2, k3⟩ := h6 i hi
      exact ⟨ds, k1, k2, ih _ _ k3⟩
    · trivial

theorem Okc.le {P : Program} {h : Heap} {t : TypeId} {cs : List Value} {d : Nat} : ∀ {D : Nat}, d ≤ D → Okc P h D t cs → Okc P h d t cs := by
  intro D
  induction D with
  | zero => intro hd hk; obtain rfl : d = 0 := by omega
            exact hk
  | succ D ih =>
    intro hd hk
    by_cases e : d = D + 1
    · subst e; exact hk
    · exact ih (by omega) (Okc.less D t cs hk)

end Go.Gb
namespace Go.Gb
open Go.ChangeShapes Go.WideShapes Go.ChangeAt Go.RowKit

section
variable {H : Type} {enc : TypeId × Value → H} {P : Program} {w : World} {h : Heap} {base : Nat} {sp : Nat → Bool} {held : Bool}

theorem trod_arr2 {t e : TypeId} {n fuel : Nat} {cs : List Value} {x : DataW H × List MemPlace} (ht : P.underlying t = some (.array n e)) (h : DataW.trod enc P w base sp held fuel t cs = some x) :
    ∃ (f' : Nat) (ys : List (DataW H × List MemPlace)), x.1 = .agg (ys.map (·.1)) ∧ ys.length = n ∧ ∀ i, i < n → ∃ y, ys[i]? = some y ∧ DataW.trod enc P w base sp held f' e ((cs.drop (i * P.cellsOf e)).take (P.cellsOf e)) = some y := by
  cases fuel with
  | zero => simp [DataW.trod] at h
  | succ m =>
    rw [DataW.trod_step] at h
    unfold DataW.trodStep at h
    simp only [ht] at h
    split at h
    · simp only [Option.map_eq_some_iff] at h
      obtain ⟨ys, hy, rfl⟩ := h
      obtain ⟨h1, h2⟩ := mapM_get hy
      refine ⟨m, ys, rfl, by simpa using h1, fun i hi => ?_⟩
      exact h2 i i (by simp [hi])
    · cases h

theorem weights_all_mem {e : TypeId} : ∀ {ds : List (DataW H)} {j : Nat} {d : DataW H}, ds[j]? = some d → ∀ n ∈ d.weights P e, n ∈ DataW.weightsAll P e ds
  | d0 :: ds, 0, d, hd, n, hn => by
    simp only [List.getElem?_cons_zero, Option.some.injEq] at hd
    subst hd
    simp only [DataW.weightsAll, List.mem_append]
    exact Or.inl hn
  | d0 :: ds, j + 1, d, hd, n, hn => by
    simp only [List.getElem?_cons_succ] at hd
    simp only [DataW.weightsAll, List.mem_append]
    exact Or.inr (weights_all_mem hd n hn)
  | [], _, _, hd, _, _ => by simp at hd

/-- An array of strings. -/
theorem open_strs {r : Reach} {b0 : Nat} {t e : TypeId} {n : Nat} {v : Value} {d : DataW H} {ps : List MemPlace} {ts : List TypeId} {ds : List (DataW H)} {j : Nat}
    (ht : P.underlying t = some (.array n e)) (he : P.underlying e = some .string) (hc : P.cellsOf e = 1) (hn : P.cellsOf t = n)
    (hval : Value.okWide P w r b0 t v) (hd : DataW.Trod enc P w base sp held t v d ps)
    (hz : (DataW.weightsEach P ts ds).all (· ≤ reachBytes) = true) (hj : ts[j]? = some t) (hdj : ds[j]? = some d) :
    ∃ ss : List ByteArray, v = .agg (ss.map Value.string).toArray ∧ ss.length = n ∧ ∀ s ∈ ss, s.size ≤ 140737488351232 := by
  unfold Value.okWide at hval
  simp only [ht] at hval
  obtain ⟨cs, rfl, -, -⟩ := hval
  obtain ⟨fuel, hf⟩ := hd
  obtain ⟨hl, -⟩ := trod_arr ht hf
  obtain ⟨f', ys, hx, hy, hi⟩ := trod_arr2 ht hf
  simp only [Value.cells] at hl hi
  rw [hn] at hl
  have hx2 : ∀ i (h : i < cs.toList.length), ∃ s : ByteArray, cs.toList[i] = .string s ∧ s.size ≤ 140737488351232 := by
    intro i h
    obtain ⟨y, hy1, hy2⟩ := hi i (by omega)
    rw [hc, Nat.mul_one] at hy2
    obtain ⟨s, h1, h2, -⟩ := DataW.trod_string he hy2
    rw [List.drop_eq_getElem_cons h] at h1
    simp at h1
    refine ⟨s, by simpa using h1, ?_⟩
    have hm : s.data.toList.length ∈ d.weights P t := by
      have hx : d = .agg (ys.map (·.1)) := hx
      rw [hx]
      unfold DataW.weights
      simp only [ht]
      refine weights_all_mem (j := i) (d := y.1) (by rw [List.getElem?_map, hy1]; rfl) _ ?_
      rw [h2]
      simp [DataW.weights]
    have := List.all_eq_true.1 hz _ (DataW.weights_mem_each hj hdj _ hm)
    have h3 : s.data.toList.length ≤ reachBytes := by simpa using this
    rw [Array.length_toList] at h3
    exact h3
  obtain ⟨ls, hls⟩ : ∃ ls, ls = cs.toList := ⟨_, rfl⟩
  have hcs : cs = ls.toArray := by rw [hls]
  rw [← hls] at hx2 hl
  rw [hcs]
  clear hi hf hls hcs hn hc ht
  have : ∀ (ls : List Value), (∀ i (h : i < ls.length), ∃ s : ByteArray, ls[i] = .string s ∧ s.size ≤ 140737488351232) → ∃ ss : List ByteArray, ls = ss.map Value.string ∧ ∀ s ∈ ss, s.size ≤ 140737488351232 := by
    intro ls
    induction ls with
    | nil => intro _; exact ⟨[], rfl, by simp⟩
    | cons a ls ih =>
      intro h
      obtain ⟨s, h1, h2⟩ := h 0 (by simp)
      obtain ⟨ss, rfl, h3⟩ := ih fun i hi => h (i + 1) (Nat.succ_lt_succ hi)
      refine ⟨s :: ss, ?_, ?_⟩
      · have h1 : a = .string s := by simpa using h1
        rw [h1]; rfl
      · intro x hx
        rcases List.mem_cons.1 hx with rfl | hx
        · exact h2
        · exact h3 x hx
  obtain ⟨ss, rfl, h3⟩ := this ls hx2
  exact ⟨ss, rfl, by simpa using hl, h3⟩
end
end Go.Gb
