/- Own texts for the seat: GbSrt. -/
import Derived.Shelf.SlIterI.Nil
import Derived.Shelf.SortM.Plain
import Derived.Shelf.SortM.SortNone
import Derived.Test.YtdlenbajhalknaaGreatA7
import Derived.Test.YtdlenbajhalknaaGreatA6
set_option linter.unusedVariables false
set_option linter.unusedSimpArgs false
set_option linter.unnecessarySimpa false
set_option linter.deprecated false
namespace Go.Gb
open Go.Proofs Go.RowKit Go.Maps Go.Sort Go.Shelf
structure IMap (l : List (Int × Value × Nat)) (c : Nat) : Prop where
 born : ∀ e ∈ l, e.2.2 < c
 bn : (l.map (·.2.2)).Nodup
 kn : (l.map (·.1)).Nodup
 wf : ∀ e ∈ l, -9223372036854775808 ≤ e.1 ∧ e.1 < 9223372036854775808
abbrev keysOf (l : List (Int × Value × Nat)) : List Int := l.map (·.1)
abbrev sortZ (l : List Int) : List Int := l.mergeSort fun x y => decide (x ≤ y)
theorem wf_i64 {a : Int} (h : -9223372036854775808 ≤ a ∧ a < 9223372036854775808) : (Lit.int .i64 a).wf = true := by
 unfold Lit.wf
 rw [Bool.and_eq_true, decide_eq_true_eq, decide_eq_true_eq]
 have h1 : IntKind.min .i64 = -9223372036854775808 := by decide
 have h2 : IntKind.max .i64 = 9223372036854775807 := by decide
 omega
theorem IMap.owns {l : List (Int × Value × Nat)} {c r : Nat} (m : IMap l c) (P : Program) {k : TypeId} (hk : P.underlying k = some (.int .i64)) (w : World) (hr : w.heap[r]? = some (mapO (Value.int .i64) l c)) (hs : l.length ≤ maxLen) :
  ∃ D : DataW Nat, w.ownsMap P k (fun _ => some (.nil, [])) r l.length D ∧ (intKeys D).Perm (keysOf l) ∧ Maps.size D = l.length := by
 have hrd : ∀ e ∈ l, Go.WideElems.rd P k (fun _ => some ((.nil : DataW Nat), [])) { key := Value.int .i64 e.1, val := e.2.1, born := e.2.2 } = some (.int .i64 e.1, .nil) := fun e he =>
  Go.WideElems.rd_mk (yv := ((.nil : DataW Nat), [])) (keyOf_int_mk hk (wf_i64 (m.wf e he))) rfl
 have hp := Go.WideShapes.sorted_perm ((l.map fun e => ({ key := Value.int .i64 e.1, val := e.2.1, born := e.2.2 } : MapEntry)).map (Go.WideElems.rg P k (fun _ => some ((.nil : DataW Nat), []))))
 refine ⟨_, ⟨_, c, hr, ⟨?_, ⟨?_, ?_, ?_⟩, ?_⟩, ?_, rfl⟩, ?_, ?_⟩
 ·simpa using hs
 ·intro x hx
  simp at hx
  obtain ⟨a, b, d, he, rfl⟩ := hx
  exact m.born _ he
 ·simpa [List.map_map, Function.comp_def] using m.bn
 ·simp only [List.map_map]
  show (l.map fun e => Value.int .i64 e.1).Nodup
  have := m.kn
  rw [List.nodup_iff_pairwise_ne, List.pairwise_map] at this ⊢
  exact this.imp fun h e => h (by simpa using e)
 ·intro x hx
  simp at hx
  obtain ⟨a, b, d, he, rfl⟩ := hx
  exact ⟨_, hrd _ he⟩
 ·simp
 ·show (List.map (fun (p : Lit × DataW Nat) => intOf p.1) _).Perm _
  refine (hp.map _).trans ?_
  rw [List.map_map, List.map_map]
  refine List.Perm.of_eq (List.map_congr_left fun e he => ?_)
  show intOf (Go.WideElems.rg P k _ _).1 = _
  rw [Go.WideElems.rg_of (hrd e he)]; rfl
 ·show List.length _ = _
  simpa using hp.length_eq
theorem Sub.lt {h : Heap} {w : World} (s : Sub h w) {k : Nat} {o : Obj} (e : h k = some o) : k < w.heap.size := (Array.getElem?_eq_some_iff.1 (s k o e)).1
theorem post_of_row {h : Heap} {w w' : World} {T : TypeId} {v : Value} {n : Nat} {vs : List Value} (hs : Sub h w) (hrow : w'.ownsRow w.heap.size T 1 v n vs) (hb : Below w.heap.size w w') :
  ∃ h', (∃ a m c, v = .slice a m c ∧ m = n ∧ Sl (fun k => h k = none) h' T 1 a m c vs ∧ Part h h') ∧ Post h w h' w' := by
 have hsub : Sub h w' := fun k o e => (hb.block k (hs.lt e)).trans (hs k o e)
 rcases hrow.2 with ⟨rfl, rfl⟩ | ⟨g, cap, cur, rfl, hg, hc, h1, h2, h3, h4⟩
 ·refine ⟨h, ⟨none, 0, 0, rfl, rfl, ⟨by simpa using hrow.1, .inl ⟨rfl, rfl, rfl⟩⟩, fun _ _ e => e⟩, hsub, hb.size, fun k hk _ => hb.block k hk, fun k hk => .inl hk, hb.os, hb.output, hb.tape⟩
 ·have hn : h g = none := by
   cases e : h g with
   | none => rfl
   | some o => exact absurd (hs.lt e) (by omega)
  refine ⟨upd h g (.cells cur T (0, 0)), ⟨_, _, _, rfl, rfl, ⟨by simpa using hrow.1, .inr ⟨g, cur, rfl, hn, by unfold upd; rw [if_pos rfl], by simpa using h3, h1, by simpa using h4⟩⟩, ?_⟩, ?_, hb.size, fun k hk _ => hb.block k hk, ?_, hb.os, hb.output, hb.tape⟩
  ·intro k o e
   unfold upd; rw [if_neg (by intro hk; subst hk; rw [hn] at e; cases e)]; exact e
  ·intro k o e
   unfold upd at e
   by_cases hk : k = g
   ·subst hk; rw [if_pos rfl] at e; cases e; exact hc
   ·rw [if_neg hk] at e; exact hsub k o e
  ·intro k e
   unfold upd at e
   by_cases hk : k = g
   ·right; omega
   ·rw [if_neg hk] at e; exact .inl e
theorem cell_of {h : Heap} {w : World} (hs : Sub h w) {b : Nat} {v : Value} {T : TypeId} (hb : h b = some (.cells #[v] T (0, 0))) : w.cell? ⟨b, 0, none⟩ = some v := by
 have := hs b _ hb
 simp [World.cell?, this]
theorem C_sorted_keys {P : Program} {ρ ρk : Ren} (L : SlLaysZI.n6 P ρ) (K : SlLaysZI.n7 P ρk) (hS : ∀ m, AnyZI.SortsIn P ρ Fence.wide m) (e9 : Enters P (ρ.f 9)) (ek : Enters P (ρk.f 10)) (h26 : P.underlying (ρk.t 26) = some (.int .i64))
  {h : Heap} {r Bm c : Nat} {T : TypeId} {l : List (Int × Value × Nat)} (hB : h Bm = some (.cells #[.map (some r)] T (0, 0))) (hm : h r = some (mapO (Value.int .i64) l c)) (m : IMap l c) (hn : l.length ≤ 10000000000000) :
  C P (ρ.f 6) #[.func (.func (ρk.f 10)) #[] #[.pointer (some ⟨Bm, 0, none⟩)]] h fun v h' => ∃ a n cp, v = .slice a n cp ∧ n = l.length ∧ Sl (fun k => h k = none) h' (ρ.t 26) 1 a n cp ((sortZ (keysOf l)).map (Value.int .i64)) ∧ Part h h' := by
 intro w hs
 obtain ⟨D, hown, hperm, hsz⟩ := m.owns P h26 w (hs r _ hm) (by unfold maxLen; omega)
 have hseq : SeqGives Fence.wide (5 - 1 - 1 - 1) P (ρk.f 10) #[.pointer (some ⟨Bm, 0, none⟩)] encZ (fun ss => ss.Perm (intKeys D)) (Maps.size D) w :=
  AnyZI.keys_gives (ρ := ρk) { K with } Fence.wide _ trivial rfl (by omega) Bm r l.length D _ (hs.lt hB) (cell_of hs hB) hown
 have cS := AnyZI.sorted_in L Fence.wide 5 trivial trivial trivial trivial rfl (by omega) (hS _) e9 (ρk.f 10) #[.pointer (some ⟨Bm, 0, none⟩)] trivial ek _ _ (by unfold maxLen; omega) (by omega) _ hseq
 refine (callsIn_wide.1 cS).mono ?_
 rintro e w' ⟨v, ss, rfl, hp, hrow, _, hb⟩
 have hss : ss.Perm (keysOf l) := hp.trans hperm
 have hlen : ss.length = l.length := by rw [hss.length_eq]; simp
 have hsort : ss.mergeSort (fun x y => decide (x ≤ y)) = sortZ (keysOf l) := mergeSort_of_perm_i hss
 rw [hsort, hlen] at hrow
 obtain ⟨h', ⟨a, m', cp, hv, hm', hsl, hpart⟩, hpost⟩ := post_of_row hs hrow hb
 exact ⟨v, h', rfl, ⟨a, m', cp, hv, hm', hsl, hpart⟩, hpost⟩
end Go.Gb
