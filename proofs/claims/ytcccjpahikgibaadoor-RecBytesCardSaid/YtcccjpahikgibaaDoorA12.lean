/- Own texts for the seat: GbClose. -/
import Derived.Test.YtcccjpahikgibaaDoorA11
import Derived.WalkKit
import Derived.ProofKit
import Derived.OpenShut
import Derived.ShutString
import Derived.ChangeOld
import Derived.Below
import Derived.SizedLaws
import Derived.Carry
import Derived.DataShut
set_option linter.unusedVariables false
set_option linter.unusedSimpArgs false
set_option linter.unnecessarySimpa false
set_option linter.deprecated false
namespace Go.Gb
open Go.ChangeShapes Go.WideShapes Go.ChangeAt Go.RowKit

/-! From a contract to the row. -/

/-- A contract that keeps its heap is a call that leaves all old memory as it was. -/
theorem C.below {P : Program} {f : FuncId} {args : Array Value} {w : World} {x : Value} (c : ∀ h, Sub h w → (∀ k, h k = w.heap[k]?) → C P f args h fun v h' => v = x ∧ Part h h') :
    Calls P f args w fun e w' => e = .returned x ∧ Below w.heap.size w w' := by
  refine (c (fun k => w.heap[k]?) (fun k o h => h) (fun _ => rfl) w (fun k o h => h)).mono ?_
  rintro e w' ⟨v, h', rfl, ⟨rfl, hp⟩, p⟩
  refine ⟨rfl, p.os, p.tape, p.output, p.size, fun k hk => ?_⟩
  have : w.heap[k]? = some w.heap[k] := Array.getElem?_eq_getElem hk
  rw [this]
  exact p.sub k _ (hp k _ this)

section
variable {H : Type} {enc : TypeId × Value → H} {P : Program}

theorem trodAll_keeps (hl : laidOutB P = true) {W W' : World} (hb : Below W.heap.size W W') : ∀ (ts : List TypeId) (vs : List Value) (ds : List (DataW H)) (ps : List MemPlace),
    (∀ t ∈ ts, P.readableRec t = true ∧ t < P.types.size) → (∀ x ∈ ps, x.block < W.heap.size) →
    DataW.TrodAll enc P W 0 (fun _ => true) true ts vs ds ps → DataW.TrodAll enc P W' 0 (fun b => decide (b < W.heap.size)) true ts vs ds ps := by
  intro ts
  induction ts with
  | nil => intro vs ds ps _ _ h; cases vs <;> cases ds <;> simp [DataW.TrodAll] at h ⊢; exact h
  | cons t ts ih =>
    intro vs ds ps ht hp h
    cases vs with
    | nil => simp [DataW.TrodAll] at h
    | cons v vs =>
      cases ds with
      | nil => simp [DataW.TrodAll] at h
      | cons d ds =>
        obtain ⟨p, q, h1, h2, rfl⟩ := h
        refine ⟨p, q, ?_, ?_, rfl⟩
        · exact Below.trod hl (ht t (by simp)).1 (ht t (by simp)).2 h1 hb fun x hx => hp x (by simp [hx])
        · exact ih vs ds q (fun t h => ht t (by simp [h])) (fun x hx => hp x (by simp [hx])) h2

theorem trodAll_len {W : World} {b : Nat} {sp : Nat → Bool} {hd : Bool} : ∀ (ts : List TypeId) (vs : List Value) (ds : List (DataW H)) (ps : List MemPlace),
    DataW.TrodAll enc P W b sp hd ts vs ds ps → ds.length = ts.length ∧ vs.length = ts.length := by
  intro ts
  induction ts with
  | nil => intro vs ds ps h; cases vs <;> cases ds <;> simp [DataW.TrodAll] at h ⊢
  | cons t ts ih =>
    intro vs ds ps h
    cases vs with
    | nil => simp [DataW.TrodAll] at h
    | cons v vs =>
      cases ds with
      | nil => simp [DataW.TrodAll] at h
      | cons d ds =>
        obtain ⟨p, q, h1, h2, rfl⟩ := h
        have := ih vs ds q h2
        simp [this]

end

/-! Opening arguments. -/
section
variable {H : Type} {enc : TypeId × Value → H} {P : Program} {w : World} {base : Nat} {sp : Nat → Bool} {held : Bool}

theorem wf_lo {k : IntKind} {n : Int} (h : (Lit.int k n).wf = true) : k.min ≤ n ∧ n ≤ k.max := by simpa using (Lit.wf_int_iff k n).1 h

theorem trod_arr {t e : TypeId} {n fuel : Nat} {cs : List Value} {x : DataW H × List MemPlace} (ht : P.underlying t = some (.array n e)) (h : DataW.trod enc P w base sp held fuel t cs = some x) :
    cs.length = P.cellsOf t ∧ ∃ f', ∀ i, i < n → ∃ y, DataW.trod enc P w base sp held f' e ((cs.drop (i * P.cellsOf e)).take (P.cellsOf e)) = some y := by
  cases fuel with
  | zero => simp [DataW.trod] at h
  | succ m =>
    rw [DataW.trod_step] at h
    unfold DataW.trodStep at h
    simp only [ht] at h
    split at h
    · rename_i hl
      refine ⟨hl, m, fun i hi => ?_⟩
      simp only [Option.map_eq_some_iff] at h
      obtain ⟨ys, hy, -⟩ := h
      have key : ∀ (L : List Nat) (ys : List (DataW H × List MemPlace)), L.mapM (fun i => DataW.trod enc P w base sp held m e ((cs.drop (i * P.cellsOf e)).take (P.cellsOf e))) = some ys → ∀ i ∈ L, ∃ y, DataW.trod enc P w base sp held m e ((cs.drop (i * P.cellsOf e)).take (P.cellsOf e)) = some y := by
        intro L
        induction L with
        | nil => intro ys _ i hi; simp at hi
        | cons a L ih =>
          intro ys hys i hi
          rw [List.mapM_cons] at hys
          simp only [Option.bind_eq_bind, Option.bind_eq_some_iff, Option.pure_def, Option.some.injEq] at hys
          obtain ⟨y, hy, zs, hz, rfl⟩ := hys
          rcases List.mem_cons.1 hi with rfl | hi
          · exact ⟨y, hy⟩
          · exact ih zs hz i hi
      exact key _ ys hy i (by simpa using hi)
    · cases h

/-- An array of numbers. -/
theorem open_ints {r : Reach} {b0 : Nat} {t e : TypeId} {n : Nat} {k : IntKind} {v : Value} {d : DataW H} {ps : List MemPlace}
    (ht : P.underlying t = some (.array n e)) (he : P.underlying e = some (.int k)) (hc : P.cellsOf e = 1) (hn : P.cellsOf t = n)
    (hval : Value.okWide P w r b0 t v) (hd : DataW.Trod enc P w base sp held t v d ps) :
    ∃ ns : List Int, v = .agg (ns.map (Value.int k)).toArray ∧ ns.length = n ∧ ∀ x ∈ ns, k.min ≤ x ∧ x ≤ k.max := by
  unfold Value.okWide at hval
  simp only [ht] at hval
  obtain ⟨cs, rfl, -, -⟩ := hval
  obtain ⟨fuel, hf⟩ := hd
  obtain ⟨hl, f', hi⟩ := trod_arr ht hf
  simp only [Value.cells] at hl hi
  rw [hn] at hl
  have hx : ∀ i (h : i < cs.toList.length), ∃ m, cs.toList[i] = .int k m ∧ k.min ≤ m ∧ m ≤ k.max := by
    intro i h
    obtain ⟨y, hy⟩ := hi i (by omega)
    rw [hc, Nat.mul_one] at hy
    obtain ⟨m, h1, -, hw⟩ := DataW.trod_int he hy
    rw [List.drop_eq_getElem_cons h] at h1
    simp at h1
    exact ⟨m, by simpa using h1, wf_lo hw⟩
  obtain ⟨ls, hls⟩ : ∃ ls, ls = cs.toList := ⟨_, rfl⟩
  have hcs : cs = ls.toArray := by rw [hls]
  rw [← hls] at hx hl
  rw [hcs]
  clear hi hf hls hcs hn hc ht
  have : ∀ (ls : List Value), (∀ i (h : i < ls.length), ∃ m, ls[i] = .int k m ∧ k.min ≤ m ∧ m ≤ k.max) → ∃ ns : List Int, ls = ns.map (Value.int k) ∧ ∀ x ∈ ns, k.min ≤ x ∧ x ≤ k.max := by
    intro ls
    induction ls with
    | nil => intro _; exact ⟨[], rfl, by simp⟩
    | cons a ls ih =>
      intro h
      obtain ⟨m, h1, h2⟩ := h 0 (by simp)
      obtain ⟨ns, rfl, h3⟩ := ih fun i hi => h (i + 1) (Nat.succ_lt_succ hi)
      refine ⟨m :: ns, by simpa using h1, ?_⟩
      intro x hx
      rcases List.mem_cons.1 hx with rfl | hx
      · exact h2
      · exact h3 x hx
  obtain ⟨ns, rfl, h3⟩ := this ls hx
  exact ⟨ns, rfl, by simpa using hl, h3⟩

end
end Go.Gb
