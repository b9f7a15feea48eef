/- Own texts for the seat: GbArgs GbArgs2. -/
import Derived.Test.YtcccjpahikgibaaDoorA12
import Derived.Test.YtcccjpahikgibaaDoorA7
set_option linter.unusedVariables false
set_option linter.unusedSimpArgs false
set_option linter.unnecessarySimpa false
set_option linter.deprecated false
namespace Go.Gb
open Go.ChangeShapes Go.WideShapes Go.ChangeAt Go.RowKit

/-! Arguments of whatever type: what their cells are, told by the type. -/

def Okc (P : Program) (h : Heap) : Nat → TypeId → List Value → Prop
  | 0, _, _ => True
  | d + 1, t, cs => match P.underlying t with
    | some (.int k) => ∃ m : Int, cs = [.int k m] ∧ k.min ≤ m ∧ m ≤ k.max
    | some .bool => ∃ b : Bool, cs = [.bool b]
    | some .string => ∃ s : ByteArray, cs = [.string s] ∧ s.size ≤ 9223372036854775807
    | some (.struct fs) => cs.length = P.cellsOf t ∧ ∀ f, f ∈ fs.toList → Okc P h d f.type ((cs.drop f.offset).take (P.cellsOf f.type))
    | some (.array n e) => cs.length = P.cellsOf t ∧ ∀ i, i < n → Okc P h d e ((cs.drop (i * P.cellsOf e)).take (P.cellsOf e))
    | some (.slice e) => ∃ (a : Option Addr) (n c : Nat), cs = [.slice a n c] ∧ n ≤ c ∧ c ≤ 9223372036854775807 ∧
        (n = 0 ∨ P.cellsOf e = 0 ∨ ∃ b o, a = some ⟨b, o, none⟩ ∧ ∀ i, i < n → ∃ ds : List Value, ds.length = P.cellsOf e ∧ (∀ j, j < ds.length → h.cell b (o + (i * P.cellsOf e + j)) = ds[j]?) ∧ Okc P h d e ds)
    | _ => True

theorem mapM_get {α β : Type} {f : α → Option β} : ∀ {l : List α} {r : List β}, l.mapM f = some r → r.length = l.length ∧ ∀ (i : Nat) (x : α), l[i]? = some x → ∃ y, r[i]? = some y ∧ f x = some y := by
  intro l
  induction l with
  | nil => intro r h; simp at h; subst h; exact ⟨rfl, by simp⟩
  | cons a l ih =>
    intro r h
    rw [List.mapM_cons] at h
    simp only [Option.bind_eq_bind, Option.bind_eq_some_iff, Option.pure_def, Option.some.injEq] at h
    obtain ⟨y, hy, zs, hz, rfl⟩ := h
    obtain ⟨h1, h2⟩ := ih hz
    refine ⟨by simp [h1], fun i x hx => ?_⟩
    cases i with
    | zero => simp at hx; subst hx; exact ⟨y, rfl, hy⟩
    | succ i => simp only [List.getElem?_cons_succ] at hx ⊢; exact h2 i x hx

section
variable {H : Type} {enc : TypeId × Value → H} {P : Program} {w : World} {h : Heap} {base : Nat} {sp : Nat → Bool} {held : Bool}

theorem cell_world (hw : ∀ k, h k = w.heap[k]?) {b o : Nat} {v : Value} (hc : w.cell? ⟨b, o, none⟩ = some v) : h.cell b o = some v := by
  unfold World.cell? at hc
  unfold Heap.cell
  rw [hw]
  split at hc
  · rename_i c T f he
    dsimp only at he
    rw [he]
    simpa using hc
  · cases hc

theorem okc_trod (hw : ∀ k, h k = w.heap[k]?) : ∀ (d : Nat) (t : TypeId) (cs : List Value) (fuel : Nat) (x : DataW H × List MemPlace), DataW.trod enc P w base sp held fuel t cs = some x → Okc P h d t cs := by
  intro d
  induction d with
  | zero => intro t cs fuel x _; trivial
  | succ d ih =>
    intro t cs fuel x hx
    unfold Okc
    split
    · rename_i k ht
      obtain ⟨m, h1, -, h2⟩ := DataW.trod_int ht hx
      exact ⟨m, h1, wf_lo h2⟩
    · rename_i ht
      obtain ⟨b, h1, -⟩ := DataW.trod_bool ht hx
      exact ⟨b, h1⟩
    · rename_i ht
      obtain ⟨s, h1, -, h2⟩ := DataW.trod_string ht hx
      exact ⟨s, h1, h2⟩
    · rename_i fs ht
      cases fuel with
      | zero => simp [DataW.trod] at hx
      | succ m =>
        rw [DataW.trod_step] at hx
        unfold DataW.trodStep at hx
        simp only [ht] at hx
        split at hx
        · rename_i hl
          refine ⟨hl, fun f hf => ?_⟩
          simp only [Option.map_eq_some_iff] at hx
          obtain ⟨ys, hy, -⟩ := hx
          obtain ⟨i, hi⟩ := List.getElem?_of_mem hf
          obtain ⟨y, _, hy2⟩ := (mapM_get hy).2 i f hi
          exact ih _ _ _ _ hy2
        · cases hx
    · rename_i n e ht
      obtain ⟨h1, f', h2⟩ := trod_arr ht hx
      exact ⟨h1, fun i hi => by obtain ⟨y, hy⟩ := h2 i hi; exact ih _ _ _ _ hy⟩
    · rename_i e ht
      cases fuel with
      | zero => simp [DataW.trod] at hx
      | succ m =>
        rw [DataW.trod_step] at hx
        unfold DataW.trodStep at hx
        simp only [ht] at hx
        split at hx
        all_goals first
          | (cases hx; done)
          | skip
        all_goals try (rename_i he; cases he; done)
        all_goals try (exact ⟨none, 0, 0, rfl, Nat.le_refl _, by omega, .inl rfl⟩)
        rename_i e' a len cap he
        cases he
        split at hx
        · rename_i hb
          obtain ⟨hb1, hb2, hb3⟩ := hb
          have hb3 : cap ≤ 9223372036854775807 := hb3
          simp only [Option.bind_eq_some_iff] at hx
          obtain ⟨elems, hel, -⟩ := hx
          refine ⟨some a, len, cap, rfl, hb2, hb3, ?_⟩
          by_cases hlen : len = 0
          · exact .inl hlen
          by_cases hsz : P.cellsOf e = 0
          · exact .inr (.inl hsz)
          refine .inr (.inr ?_)
          have key : ∀ i, i < len → ∃ ds : List Value, ds.length = P.cellsOf e ∧ (∀ j, j < ds.length → w.cell? ((a.add (i * P.cellsOf e)).add j) = ds[j]?) ∧ Okc P h d e ds := by
            intro i hi
            obtain ⟨y, _, hy⟩ := (mapM_get hel).2 i i (by simp [hi])
            rw [Option.bind_eq_some_iff] at hy
            obtain ⟨ds, hds, hok⟩ := hy
            unfold World.cells? at hds
            split at hds
            · obtain ⟨g1, g2⟩ := mapM_get hds
              refine ⟨ds, by simpa using g1, fun j hj => ?_, ih _ _ _ _ hok⟩
              have g1' : ds.length = P.cellsOf e := by simpa using g1
              obtain ⟨v, hv, hv2⟩ := g2 j j (by rw [List.getElem?_range (by omega)])
              rw [hv, hv2]
            · cases hds
          have hspot : a.spot = none := by
            obtain ⟨ds, h1, h2, _⟩ := key 0 (by omega)
            have := h2 0 (by omega)
            rw [Nat.zero_mul] at this
            have e0 : (a.add 0).add 0 = a := by simp [Addr.add]
            rw [e0, List.getElem?_eq_getElem (by omega)] at this
            unfold World.cell? at this
            split at this
            · split at this
              · cases this
              · rename_i hs; simpa using hs
            · cases this
          obtain ⟨b, o, s⟩ := a
          have hspot : s = none := hspot
          subst hspot
          refine ⟨b, o, rfl, fun i hi => ?_⟩
          obtain ⟨ds, h1, h2, h3⟩ := key i hi
          refine ⟨ds, h1, fun j hj => ?_, h3⟩
          have := h2 j hj
          rw [add_lit, add_lit, List.getElem?_eq_getElem hj] at this
          rw [List.getElem?_eq_getElem hj, ← Nat.add_assoc]
          exact cell_world hw this
        · cases hx
    · trivial

/-- A value of one cell. -/
theorem open_cell {r : Reach} {b0 d : Nat} {t : TypeId} {v : Value} {x : DataW H} {ps : List MemPlace} (hw : ∀ k, h k = w.heap[k]?) (ht : (match P.underlying t with | some (.slice _) => true | _ => false) = true)
    (hval : Value.okWide P w r b0 t v) (hd : DataW.Trod enc P w base sp held t v x ps) : Okc P h d t [v] := by
  obtain ⟨fuel, hf⟩ := hd
  have hc := okc_trod hw d t _ _ _ hf
  split at ht
  · rename_i e hu
    unfold Value.okWide at hval
    simp only [hu] at hval
    cases v <;> first | exact hc | (exact absurd hval (by unfold Cell.okWide; rw [hu]; dsimp only; unfold Cell.ok; rw [hu]; simp))
  · cases ht

end

/-- A slice's elements, one behind the other. -/
theorem okc_slice {P : Program} {h : Heap} {d : Nat} {t e : TypeId} {sz : Nat} {v : Value} (ht : P.underlying t = some (.slice e)) (hsz : P.cellsOf e = sz) (hpos : 0 < sz) (hk : Okc P h (d + 1) t [v]) :
    ∃ (a : Option Addr) (n c : Nat) (dss : List (List Value)), v = .slice a n c ∧ n ≤ c ∧ c ≤ 9223372036854775807 ∧ dss.length = n ∧ (∀ ds, ds ∈ dss → ds.length = sz ∧ Okc P h d e ds) ∧ readsAt h a dss.flatten := by
  unfold Okc at hk
  rw [ht] at hk
  obtain ⟨a, n, c, hv, h1, h2, h3⟩ := hk
  rw [hsz] at h3
  have hv : v = .slice a n c := by simpa using hv
  subst hv
  rcases h3 with h3 | h3 | ⟨b, o, rfl, h3⟩
  · subst h3
    exact ⟨a, 0, c, [], rfl, h1, h2, rfl, by simp, .inl rfl⟩
  · omega
  · have key : ∀ m, m ≤ n → ∃ dss : List (List Value), dss.length = m ∧ (∀ ds, ds ∈ dss → ds.length = sz ∧ Okc P h d e ds) ∧ dss.flatten.length = m * sz ∧ ∀ j, j < m * sz → h.cell b (o + j) = dss.flatten[j]? := by
      intro m
      induction m with
      | zero => intro _; exact ⟨[], rfl, by simp, by simp, fun j hj => by omega⟩
      | succ m ih =>
        intro hm
        obtain ⟨dss, g1, g2, g3, g4⟩ := ih (by omega)
        obtain ⟨ds, k1, k2, k3⟩ := h3 m (by omega)
        refine ⟨dss ++ [ds], by simp [g1], fun x hx => ?_, by simp [g3, k1, Nat.succ_mul], fun j hj => ?_⟩
        · rcases List.mem_append.1 hx with hx | hx
          · exact g2 x hx
          · simp at hx; subst hx; exact ⟨k1, k3⟩
        · rw [List.flatten_append]
          by_cases hj2 : j < m * sz
          · rw [List.getElem?_append_left (by omega)]; exact g4 j hj2
          · rw [Nat.succ_mul] at hj
            rw [List.getElem?_append_right (by omega), g3]
            have := k2 (j - m * sz) (by omega)
            rw [show o + (m * sz + (j - m * sz)) = o + j by omega] at this
            rw [this]; simp
    obtain ⟨dss, g1, g2, g3, g4⟩ := key n (Nat.le_refl n)
    exact ⟨_, n, c, dss, rfl, h1, h2, g1, g2, .inr ⟨b, o, rfl, fun j hj => g4 j (by omega)⟩⟩

/-- Typed elements. -/
theorem typed {α : Type} {f : α → List Value} {p : α → Prop} : ∀ (dss : List (List Value)), (∀ ds, ds ∈ dss → ∃ x, ds = f x ∧ p x) → ∃ l : List α, dss = l.map f ∧ ∀ x, x ∈ l → p x := by
  intro dss
  induction dss with
  | nil => intro _; exact ⟨[], rfl, by simp⟩
  | cons ds dss ih =>
    intro h
    obtain ⟨x, hx, hp⟩ := h ds (by simp)
    obtain ⟨l, hl, hq⟩ := ih fun y hy => h y (by simp [hy])
    refine ⟨x :: l, by simp [hx, hl], fun y hy => ?_⟩
    rcases List.mem_cons.1 hy with rfl | hy
    · exact hp
    · exact hq y hy

end Go.Gb
namespace Go.Gb

/-! The cells of a struct or an array, each by its own type. -/

theorem Okc.less {P : Program} {h : Heap} : ∀ (d : Nat) (t : TypeId) (cs : List Value), Okc P h (d + 1) t cs → Okc P h d t cs := by
  intro d
  induction d with
  | zero => intro t cs _; trivial
  | succ d ih =>
    intro t cs hk
    unfold Okc at hk ⊢
    split
    · rename_i ht; rw [ht] at hk; exact hk
    · rename_i ht; rw [ht] at hk; exact hk
    · rename_i ht; rw [ht] at hk; exact hk
    · rename_i ht; rw [ht] at hk; exact ⟨hk.1, fun f hf => ih _ _ (hk.2 f hf)⟩
    · rename_i ht; rw [ht] at hk; exact ⟨hk.1, fun i hi => ih _ _ (hk.2 i hi)⟩
    · rename_i ht
      rw [ht] at hk
      obtain ⟨a, n, c, h1, h2, h3, h4⟩ := hk
      refine ⟨a, n, c, h1, h2, h3, h4.imp id fun h4 => h4.imp id fun ⟨b, o, h5, h6⟩ => ⟨b, o, h5, fun i hi => ?_⟩⟩
      obtain ⟨ds, k1, k2, k3⟩ := h6 i hi
      exact ⟨ds, k1, k2, ih _ _ k3⟩
    · trivial

theorem Okc.le {P : Program} {h : Heap} {t : TypeId} {cs : List Value} {d : Nat} : ∀ {D : Nat}, d ≤ D → Okc P h D t cs → Okc P h d t cs := by
  intro D
  induction D with
  | zero => intro hd hk; obtain rfl : d = 0 := by omega
            exact hk
  | succ D ih =>
    intro hd hk
    by_cases e : d = D + 1
    · subst e; exact hk
    · exact ih (by omega) (Okc.less D t cs hk)

end Go.Gb
