/- Own text for the seat: GbArgs2. -/
import Derived.Test.YtbphidfhcijbhaaGbArgs
set_option linter.unusedVariables false
set_option linter.unusedSimpArgs false
set_option linter.unnecessarySimpa false
set_option linter.deprecated false
namespace Go.Gb

/-! The cells of a struct or an array, each by its own type. -/

def leafFs (P : Program) (r : TypeId → Option (List TypeId)) : List Field → Nat → Option (List TypeId)
  | [], _ => some []
  | f :: fs, pos => match Nat.beq f.offset pos with
    | false => none
    | true => match r f.type with
      | none => none
      | some a => match Nat.beq a.length (P.cellsOf f.type) with
        | false => none
        | true => match leafFs P r fs (pos + a.length) with
          | none => none
          | some b => some (a ++ b)

def leafT (P : Program) : Nat → TypeId → Option (List TypeId)
  | 0, _ => none
  | d + 1, t => match P.underlying t with
    | some (.struct fs) => leafFs P (leafT P d) fs.toList 0
    | some (.array n e) => match leafT P d e with
      | none => none
      | some a => match Nat.beq a.length (P.cellsOf e) with
        | false => none
        | true => some ((List.replicate n a).flatten)
    | some _ => some [t]
    | none => none

theorem Okc.less {P : Program} {h : Heap} : ∀ (d : Nat) (t : TypeId) (cs : List Value), Okc P h (d + 1) t cs → Okc P h d t cs := by
  intro d
  induction d with
  | zero => intro t cs _; trivial
  | succ d ih =>
    intro t cs hk
    unfold Okc at hk ⊢
    split
    · rename_i ht; rw [ht] at hk; exact hk
    · rename_i ht; rw [ht] at hk; exact hk
    · rename_i ht; rw [ht] at hk; exact hk
    · rename_i ht; rw [ht] at hk; exact ⟨hk.1, fun f hf => ih _ _ (hk.2 f hf)⟩
    · rename_i ht; rw [ht] at hk; exact ⟨hk.1, fun i hi => ih _ _ (hk.2 i hi)⟩
    · rename_i ht
      rw [ht] at hk
      obtain ⟨a, n, c, h1, h2, h3, h4⟩ := hk
      refine ⟨a, n, c, h1, h2, h3, h4.imp id fun h4 => h4.imp id fun ⟨b, o, h5, h6⟩ => ⟨b, o, h5, fun i hi => ?_⟩⟩
      obtain ⟨ds, k1, k2, k3⟩ := h6 i hi
      exact ⟨ds, k1, k2, ih _ _ k3⟩
    · trivial

theorem Okc.le {P : Program} {h : Heap} {t : TypeId} {cs : List Value} {d : Nat} : ∀ {D : Nat}, d ≤ D → Okc P h D t cs → Okc P h d t cs := by
  intro D
  induction D with
  | zero => intro hd hk; obtain rfl : d = 0 := by omega
            exact hk
  | succ D ih =>
    intro hd hk
    by_cases e : d = D + 1
    · subst e; exact hk
    · exact ih (by omega) (Okc.less D t cs hk)

/-- Cell by cell. -/
def Each (P : Program) (h : Heap) (d : Nat) (ts : List TypeId) (cs : List Value) : Prop := cs.length = ts.length ∧ ∀ (i : Nat) (t : TypeId) (v : Value), ts[i]? = some t → cs[i]? = some v → Okc P h d t [v]

theorem Each.append {P : Program} {h : Heap} {d : Nat} {ts us : List TypeId} {cs ds : List Value} (a : Each P h d ts cs) (b : Each P h d us ds) : Each P h d (ts ++ us) (cs ++ ds) := by
  refine ⟨by simp [a.1, b.1], fun i t v ht hv => ?_⟩
  by_cases hi : i < ts.length
  · rw [List.getElem?_append_left hi] at ht
    rw [List.getElem?_append_left (by rw [a.1]; exact hi)] at hv
    exact a.2 i t v ht hv
  · rw [List.getElem?_append_right (by omega)] at ht
    rw [List.getElem?_append_right (by rw [a.1]; omega), a.1] at hv
    exact b.2 _ t v ht hv

theorem take_drop_split (cs : List Value) (a b : Nat) (h : a + b ≤ cs.length) : (cs.drop a).take b ++ cs.drop (a + b) = cs.drop a := by
  rw [← List.drop_drop, List.take_append_drop]

theorem each_fs {P : Program} {h : Heap} {d D : Nat} {r : TypeId → Option (List TypeId)} (hr : ∀ t ts cs, r t = some ts → Okc P h D t cs → cs.length = ts.length → Each P h d ts cs) :
    ∀ (fs : List Field) (pos : Nat) (ts : List TypeId) (cs : List Value), leafFs P r fs pos = some ts → (∀ f, f ∈ fs → Okc P h D f.type ((cs.drop f.offset).take (P.cellsOf f.type))) → cs.length = pos + ts.length → Each P h d ts (cs.drop pos) := by
  intro fs
  induction fs with
  | nil =>
    intro pos ts cs hl _ hlen
    simp only [leafFs, Option.some.injEq] at hl
    subst hl
    exact ⟨by simp at hlen ⊢; omega, fun i t v ht => by simp at ht⟩
  | cons f fs ih =>
    intro pos ts cs hl hok hlen
    unfold leafFs at hl
    split at hl
    · cases hl
    rename_i hpos
    have hpos := beq_eq.1 hpos
    split at hl
    · cases hl
    rename_i a ha
    split at hl
    · cases hl
    rename_i hal
    have hal := beq_eq.1 hal
    split at hl
    · cases hl
    rename_i b hb
    cases hl
    rw [List.length_append] at hlen
    have h1 := hr f.type a _ ha (hok f (by simp)) (by rw [List.length_take, List.length_drop]; omega)
    have h2 := ih (pos + a.length) b cs hb (fun g hg => hok g (by simp [hg])) (by omega)
    rw [hpos, ← hal] at h1
    have := h1.append h2
    rw [take_drop_split cs pos a.length (by omega)] at this
    exact this

theorem each_arr {P : Program} {h : Heap} {d D : Nat} {e : TypeId} {a : List TypeId} (hal : a.length = P.cellsOf e) (hr : ∀ cs, Okc P h D e cs → cs.length = P.cellsOf e → Each P h d a cs) :
    ∀ (n : Nat) (cs : List Value), cs.length = n * P.cellsOf e → (∀ i, i < n → Okc P h D e ((cs.drop (i * P.cellsOf e)).take (P.cellsOf e))) → Each P h d (List.replicate n a).flatten cs := by
  intro n
  induction n with
  | zero => intro cs hlen _; exact ⟨by simpa using hlen, fun i t v ht => by simp at ht⟩
  | succ n ih =>
    intro cs hlen hok
    rw [List.replicate_succ, List.flatten_cons]
    rw [Nat.succ_mul] at hlen
    have h1 := hr (cs.take (P.cellsOf e)) (by have := hok 0 (by omega); simpa using this) (by rw [List.length_take]; omega)
    have h2 := ih (cs.drop (P.cellsOf e)) (by rw [List.length_drop]; omega) (fun i hi => by
      have := hok (i + 1) (by omega)
      rw [List.drop_drop, Nat.add_comm, ← Nat.succ_mul]; exact this)
    have := h1.append h2
    rw [List.take_append_drop] at this
    exact this

/-- The cells of a value of some type. -/
theorem okc_each {P : Program} {h : Heap} {d : Nat} : ∀ (m : Nat) (t : TypeId) (ts : List TypeId) (cs : List Value), leafT P m t = some ts → Okc P h (m + d) t cs → cs.length = ts.length → Each P h d ts cs := by
  intro m
  induction m with
  | zero => intro t ts cs hl; cases hl
  | succ m ih =>
    intro t ts cs hl hk hlen
    rw [Nat.add_right_comm] at hk
    have hk0 := hk
    unfold leafT at hl
    unfold Okc at hk
    split at hl
    · rename_i fs ht
      rw [ht] at hk
      have key := each_fs (P := P) (h := h) (d := d) (D := m + d) (r := leafT P m) (fun t ts cs h1 h2 h3 => ih t ts cs h1 h2 h3) fs.toList 0 ts cs hl hk.2 (by omega)
      simpa using key
    · rename_i n e ht
      rw [ht] at hk
      split at hl
      · cases hl
      rename_i a ha
      split at hl
      · cases hl
      rename_i hb
      have hb := beq_eq.1 hb
      cases hl
      refine each_arr hb (fun cs h1 h2 => ih e a cs ha h1 (by rw [h2, hb])) n cs ?_ hk.2
      rw [hlen, List.length_flatten]
      simp [hb]
    · rename_i dd hns hna ht
      cases hl
      have h1 : cs.length = 1 := hlen
      obtain ⟨v, rfl⟩ : ∃ v, cs = [v] := by
        cases cs with
        | nil => simp at h1
        | cons v r => cases r with
          | nil => exact ⟨v, rfl⟩
          | cons _ _ => simp at h1
      refine ⟨rfl, fun i t' v' ht' hv' => ?_⟩
      cases i with
      | zero =>
        simp at ht' hv'
        subst ht'; subst hv'
        exact Okc.le (by omega) hk0
      | succ i => simp at ht'
    · cases hl

theorem okc_int {P : Program} {h : Heap} {d : Nat} {t : TypeId} {k : IntKind} {v : Value} (ht : P.underlying t = some (.int k)) (hk : Okc P h (d + 1) t [v]) : ∃ m : Int, v = .int k m ∧ k.min ≤ m ∧ m ≤ k.max := by
  unfold Okc at hk
  rw [ht] at hk
  obtain ⟨m, h1, h2⟩ := hk
  exact ⟨m, by simpa using h1, h2⟩
theorem okc_bool {P : Program} {h : Heap} {d : Nat} {t : TypeId} {v : Value} (ht : P.underlying t = some .bool) (hk : Okc P h (d + 1) t [v]) : ∃ b : Bool, v = .bool b := by
  unfold Okc at hk
  rw [ht] at hk
  obtain ⟨b, h1⟩ := hk
  exact ⟨b, by simpa using h1⟩
theorem okc_str {P : Program} {h : Heap} {d : Nat} {t : TypeId} {v : Value} (ht : P.underlying t = some .string) (hk : Okc P h (d + 1) t [v]) : ∃ s : ByteArray, v = .string s ∧ s.size ≤ 9223372036854775807 := by
  unfold Okc at hk
  rw [ht] at hk
  obtain ⟨s, h1, h2⟩ := hk
  exact ⟨s, by simpa using h1, h2⟩

end Go.Gb
