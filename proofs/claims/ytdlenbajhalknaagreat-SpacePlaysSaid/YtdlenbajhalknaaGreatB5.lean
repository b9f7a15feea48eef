/- Own texts for the seat: Pm1 Pm2 Pm3 Pm4 Pm5 Pm6 Pm7 Srt1 Pm8 Pm9 Pm10 Pm11 Pm12 PmA PmB PmB2 Ln0 Tg1 Sp0 Sp1 Mp1 Ln1 Rf1 Rf2 Rf3 Rf4 Rf5 Ln2 PmP1 PmP2. -/
import Derived.Test.YtdlenbajhalknaaGreatW
import Derived.Test.YtdlenbajhalknaaGreatA6
import Derived.Test.YtdlenbajhalknaaGreatA9
import Derived.Test.YtdlenbajhalknaaGreatA10
import Derived.Test.YtdlenbajhalknaaGreatLayS
import Derived.Test.YtdlenbajhalknaaGreatB3
import Derived.Test.YtdlenbajhalknaaGreatB2
set_option linter.unusedVariables false
set_option linter.unusedSimpArgs false
set_option linter.unnecessarySimpa false
set_option linter.deprecated false
namespace Go.Gb
open Go.Proofs IntWalk
structure PmS where
 nl : Nat
 media : Nat → Int
 buf : Nat → Option (Int × Bool)
 wear : Nat → Int
 bad : Nat → Bool
 fuse : Int
 off : Bool
 count : Int
abbrev rowU (n : Nat) (f : Nat → Int) : List Value := (List.range n).map fun k => .int .u64 (f k)
abbrev rowI (n : Nat) (f : Nat → Int) : List Value := (List.range n).map fun k => .int .i64 (f k)
abbrev rowB (n : Nat) (f : Nat → Bool) : List Value := (List.range n).map fun k => .bool (f k)
abbrev cellV (x : Int × Bool) : Value := .agg #[.int .u64 x.1, .bool x.2]
theorem row_get {α : Type} {n k : Nat} (f : Nat → α) (h : k < n) : ((List.range n).map f)[k]? = some (f k) := by simp [h]
def fset {α : Type} (f : Nat → α) (k : Nat) (v : α) : Nat → α := fun j => if j = k then v else f j
theorem row_set {α β : Type} {n k : Nat} (g : α → β) (f : Nat → α) (v : α) : ((List.range n).map fun j => g (f j)).set k (g v) = (List.range n).map fun j => g (fset f k v j) := by
 apply List.ext_getElem?
 intro j
 rw [List.getElem?_set]
 by_cases e : k = j
 ·subst e
  by_cases h : k < n
  ·simp [h, fset]
  ·simp [h, fset]
 ·rw [if_neg e]
  by_cases h : j < n
  ·simp [h, fset, Ne.symm e]
  ·simp [h]
structure BufM (n : Nat) (buf : Nat → Option (Int × Bool)) (l : List (Int × Value × Nat)) (c : Nat) : Prop where
 im : IMap l c
 ent : ∀ e ∈ l, ∃ w x, w < n ∧ e.1 = (w : Int) ∧ buf w = some x ∧ e.2.1 = cellV x
 has : ∀ w x, buf w = some x → ∃ b, ((w : Int), cellV x, b) ∈ l
abbrev devV (mb r wb bb nl : Nat) (f : Int) (o : Bool) (n : Int) : List Value := [.slice (some ⟨mb, 0, none⟩) (8 * nl) (8 * nl), .map (some r), .slice (some ⟨wb, 0, none⟩) nl nl, .slice (some ⟨bb, 0, none⟩) nl nl, .int .i64 f, .bool o, .int .i64 n]
structure PmC (F : Nat → Prop) (h : Heap) (d mb r wb bb : Nat) (l : List (Int × Value × Nat)) (c : Nat) (s : PmS) : Prop where
 lo : 1 ≤ s.nl
 hi : s.nl ≤ 8192
 fd : F d
 fm : F mb
 fr : F r
 fw : F wb
 fb : F bb
 ne : d ≠ mb ∧ d ≠ r ∧ d ≠ wb ∧ d ≠ bb ∧ mb ≠ r ∧ mb ≠ wb ∧ mb ≠ bb ∧ r ≠ wb ∧ r ≠ bb ∧ wb ≠ bb
 hd : Blk h d (devV mb r wb bb s.nl s.fuse s.off s.count)
 hm : Blk h mb (rowU (8 * s.nl) s.media)
 hr : h r = some (mapO (Value.int .i64) l c)
 hw : Blk h wb (rowI s.nl s.wear)
 hb : Blk h bb (rowB s.nl s.bad)
 bm : BufM (8 * s.nl) s.buf l c
 f0 : 0 ≤ s.fuse
 f1 : s.fuse < 9223372036854775808
def PmD (F : Nat → Prop) (h : Heap) (d : Nat) (s : PmS) : Prop := ∃ mb r wb bb l c, PmC F h d mb r wb bb l c s
theorem PmC.keep {F : Nat → Prop} {h h' : Heap} {d mb r wb bb : Nat} {l : List (Int × Value × Nat)} {c : Nat} {s : PmS} (w : PmC F h d mb r wb bb l c s) (e : ∀ k, F k → h k ≠ none → h' k = h k) : PmC F h' d mb r wb bb l c s :=
 ⟨w.lo, w.hi, w.fd, w.fm, w.fr, w.fw, w.fb, w.ne, w.hd.keep (e _ w.fd w.hd.ne), w.hm.keep (e _ w.fm w.hm.ne), by rw [e _ w.fr (by rw [w.hr]; simp), w.hr], w.hw.keep (e _ w.fw w.hw.ne), w.hb.keep (e _ w.fb w.hb.ne), w.bm, w.f0, w.f1⟩
theorem PmD.keep {F : Nat → Prop} {h h' : Heap} {d : Nat} {s : PmS} (w : PmD F h d s) (e : ∀ k, F k → h k ≠ none → h' k = h k) : PmD F h' d s := by
 obtain ⟨mb, r, wb, bb, l, c, w⟩ := w
 exact ⟨mb, r, wb, bb, l, c, w.keep e⟩
section
variable {F : Nat → Prop} {h : Heap} {d : Nat} {s : PmS} {Q : QT}
theorem K76.c (w : PmD F h d s) (hq : Q (.int .i64 s.nl) h) : CT 76 #[.pointer (some ⟨d, 0, none⟩)] h Q := by
 obtain ⟨mb, r, wb, bb, l, c, w⟩ := w
 apply K76.ok
 exact xsIf_f rfl ⟨d, 0, rfl, _, _, _, w.hd.cell _, hq⟩
theorem K150.c (w : PmD F h d s) (hq : Q (.int .i64 ((8 * s.nl : Nat) : Int)) h) : CT 150 #[.pointer (some ⟨d, 0, none⟩)] h Q := by
 apply K150.ok
 refine K76.c w ⟨_, rfl, ?_⟩
 obtain ⟨mb, r, wb, bb, l, c, w⟩ := w
 have := w.hi
 rw [i64_in _ (by omega)]
 have e : (s.nl : Int) * 8 = ((8 * s.nl : Nat) : Int) := by omega
 rw [e]; exact hq
def pready (s : PmS) (at0 of0 : Int) : Int := if s.off then 6 else if 0 ≤ at0 ∧ at0 < of0 then 0 else 3
theorem K160.c {at0 of0 : Int} (w : PmD F h d s) (hq : Q (.int .i64 (pready s at0 of0)) h) : CT 160 #[.pointer (some ⟨d, 0, none⟩), .int .i64 at0, .int .i64 of0] h Q := by
 obtain ⟨mb, r, wb, bb, l, c, w⟩ := w
 apply K160.ok
 unfold pready at hq
 refine xsIf_f rfl ⟨d, 0, rfl, _, w.hd.cell _, xsIf_intro (fun h1 => ?_) (fun h1 => xsIf_intro (fun h2 => ?_) (fun h2 => xsIf_intro (fun h3 => ?_) (fun h3 => ?_)))⟩
 ·rw [h1] at hq; exact hq
 ·simp at h2; rw [h1, if_neg (by simp), if_neg (by omega)] at hq; exact hq
 ·simp at h2 h3; rw [h1, if_neg (by simp), if_neg (by omega)] at hq; exact hq
 ·simp at h2 h3; rw [h1, if_neg (by simp), if_pos (by omega)] at hq; exact hq
def pburn (s : PmS) : Int × PmS :=
 if s.fuse = 1 then (6, { s with fuse := 0, off := true }) else if 0 < s.fuse then (0, { s with fuse := s.fuse - 1, count := IntKind.wrap .i64 (s.count + 1) }) else (0, { s with count := IntKind.wrap .i64 (s.count + 1) })
theorem pburn_keep {mb r wb bb c : Nat} {l : List (Int × Value × Nat)} {h' : Heap} (w : PmC F h d mb r wb bb l c s) {f : Int} {o : Bool} {n : Int} (f0 : 0 ≤ f) (f1 : f < 9223372036854775808)
  (hd : Blk h' d (devV mb r wb bb s.nl f o n)) (hk : ∀ k, k ≠ d → h' k = h k) :
  PmC F h' d mb r wb bb l c { s with fuse := f, off := o, count := n } :=
 have ne := w.ne
 ⟨w.lo, w.hi, w.fd, w.fm, w.fr, w.fw, w.fb, w.ne, hd, w.hm.keep (hk _ (Ne.symm ne.1)), by rw [hk _ (Ne.symm ne.2.1), w.hr], w.hw.keep (hk _ (Ne.symm ne.2.2.1)), w.hb.keep (hk _ (Ne.symm ne.2.2.2.1)), w.bm, f0, f1⟩
theorem K179.c {mb r wb bb c : Nat} {l : List (Int × Value × Nat)} (w : PmC F h d mb r wb bb l c s)
  (hq : ∀ h', PmC F h' d mb r wb bb l c (pburn s).2 → Step F h F h' → (∀ k, k ≠ d → h' k = h k) → Q (.int .i64 (pburn s).1) h') : CT 179 #[.pointer (some ⟨d, 0, none⟩)] h Q := by
 apply K179.ok
 have f0 := w.f0
 have f1 := w.f1
 refine ⟨d, 0, rfl, _, w.hd.cell _, xsIf_intro (fun h1 => ?_) (fun h1 => ?_)⟩
 ·have h1 := of_decide_eq_true h1
  refine ⟨d, 0, rfl, _, w.hd.cell _, d, 0, rfl, w.hd.can (by simp), d, 0, rfl, _, (w.hd.put _ _).cell _, ?_⟩
  rw [i64_in _ (by omega)]
  have w1 : Blk (h.put d (0 + 4) [.int .i64 (s.fuse - 1)]) d (devV mb r wb bb s.nl (s.fuse - 1) s.off s.count) := w.hd.put 4 [.int .i64 (s.fuse - 1)]
  refine xsIf_intro (fun h2 => ?_) (fun h2 => ?_)
  ·have h2 := of_decide_eq_true h2
   refine ⟨d, 0, rfl, w1.can (by simp), ?_⟩
   have e : pburn s = (6, { s with fuse := 0, off := true }) := by unfold pburn; rw [if_pos (by omega)]
   rw [e] at hq
   refine hq _ (pburn_keep w (by omega) (by omega) ?_ ?_) ((Step.put w.fd _ _).trans (Step.put w.fd _ _)) ?_
   ·have h3 : Blk ((h.put d (0 + 4) [.int .i64 (s.fuse - 1)]).put d (0 + 5) [.bool true]) d (devV mb r wb bb s.nl (s.fuse - 1) true s.count) := w1.put 5 [.bool true]
    have h4 := h3
    rw [show devV mb r wb bb s.nl (s.fuse - 1) true s.count = devV mb r wb bb s.nl 0 true s.count by rw [h2]] at h4
    exact h4
   all_goals (intro k hk; rw [put_other _ _ _ hk, put_other _ _ _ hk])
  ·have h2 := of_decide_eq_false h2
   refine ⟨d, 0, rfl, _, w1.cell _, d, 0, rfl, w1.can (by simp), ?_⟩
   have e : pburn s = (0, { s with fuse := s.fuse - 1, count := IntKind.wrap .i64 (s.count + 1) }) := by unfold pburn; rw [if_neg (by omega), if_pos h1]
   rw [e] at hq
   refine hq _ (pburn_keep w (by omega) (by omega) (w1.put 6 _) ?_) ((Step.put w.fd _ _).trans (Step.put w.fd _ _)) ?_
   all_goals (intro k hk; rw [put_other _ _ _ hk, put_other _ _ _ hk])
 ·have h1 := of_decide_eq_false h1
  refine ⟨d, 0, rfl, _, w.hd.cell _, d, 0, rfl, w.hd.can (by simp), ?_⟩
  have e : pburn s = (0, { s with count := IntKind.wrap .i64 (s.count + 1) }) := by unfold pburn; rw [if_neg (by omega), if_neg h1]
  rw [e] at hq
  refine hq _ (pburn_keep w f0 f1 (w.hd.put 6 _) ?_) (Step.put w.fd _ _) ?_
  all_goals (intro k hk; rw [put_other _ _ _ hk])
def pbegin (s : PmS) (at0 of0 : Int) : Int × PmS := if pready s at0 of0 = 0 then pburn s else (pready s at0 of0, s)
theorem K149.c {mb r wb bb c : Nat} {l : List (Int × Value × Nat)} {at0 of0 : Int} {f : Nat} {fa fc : Array Value} (hg : goOk Tryz.prog f = true) (w : PmC F h d mb r wb bb l c s)
  (hno : (pbegin s at0 of0).1 ≠ 0 → ∀ h', PmC F h' d mb r wb bb l c (pbegin s at0 of0).2 → Step F h F h' → (∀ k, k ≠ d → h' k = h k) → Q (.int .i64 (pbegin s at0 of0).1) h')
  (hyes : (pbegin s at0 of0).1 = 0 → ∀ h', PmC F h' d mb r wb bb l c (pbegin s at0 of0).2 → Step F h F h' → (∀ k, k ≠ d → h' k = h k) → CT f { toList := fa.toList ++ [] ++ fc.toList } h' fun _ h'' => Q (.int .i64 0) h'') :
  CT 149 #[.pointer (some ⟨d, 0, none⟩), .int .i64 at0, .int .i64 of0, .func (.func f) fa fc] h Q := by
 apply K149.ok
 refine K160.c ⟨_, _, _, _, _, _, w⟩ ⟨_, rfl, ?_⟩
 unfold pbegin at hno hyes
 refine xsIf_intro (fun h1 => ?_) (fun h1 => ?_)
 ·have h1 := of_decide_eq_true h1
  rw [if_neg h1] at hno
  exact hno h1 h w (Step.refl _ _) (fun _ _ => rfl)
 ·have h1 : pready s at0 of0 = 0 := Classical.byContradiction (of_decide_eq_false h1)
  rw [if_pos h1] at hno hyes
  refine K179.c w fun h' w' st hk => ⟨_, rfl, ?_⟩
  refine xsIf_intro (fun h2 => ?_) (fun h2 => ?_)
  ·have h2 := of_decide_eq_true h2
   exact hno h2 h' w' st hk
  ·have h2 : (pburn s).1 = 0 := Classical.byContradiction (of_decide_eq_false h2)
   exact xsIf_t hg (hyes h2 h' w' st hk)
end
end Go.Gb
namespace Go.Gb
open Go.Proofs IntWalk
section
variable {F : Nat → Prop} {h : Heap} {d : Nat} {s : PmS} {Q : QT}
def pload (s : PmS) (w : Int) : Int × Int :=
 if pready s w ((8 * s.nl : Nat) : Int) = 0 then ((match s.buf w.toNat with | some x => x.1 | none => s.media w.toNat), 0) else (0, pready s w ((8 * s.nl : Nat) : Int))
theorem pready_ok {s : PmS} {w o : Int} (h : pready s w o = 0) : s.off = false ∧ 0 ≤ w ∧ w < o := by
 unfold pready at h
 split at h
 ·cases h
 ·rename_i h1
  split at h
  ·rename_i h2; exact ⟨by simpa using h1, h2⟩
  ·cases h
theorem BufM.found {n : Nat} {buf : Nat → Option (Int × Bool)} {l : List (Int × Value × Nat)} {c : Nat} (m : BufM n buf l c) {k : Nat} {j : Nat} {v : Value} {b : Nat} (h : mnth l j = some ((k : Int), v, b)) : ∃ x, buf k = some x ∧ v = cellV x := by
 obtain ⟨w, x, h1, h2, h3, h4⟩ := m.ent _ (List.mem_of_getElem? h)
 have : w = k := by have : (k : Int) = (w : Int) := h2; omega
 subst this
 exact ⟨x, h3, h4⟩
theorem BufM.lacks {n : Nat} {buf : Nat → Option (Int × Bool)} {l : List (Int × Value × Nat)} {c : Nat} (m : BufM n buf l c) {k : Nat} (h : ∀ (j : Nat) (v : Value) (b : Nat), ¬ mnth l j = some ((k : Int), v, b)) : buf k = none := by
 cases e : buf k with
 | none => rfl
 | some x =>
  obtain ⟨b, hb⟩ := m.has k x e
  obtain ⟨j, hj⟩ := List.getElem?_of_mem hb
  exact absurd hj (h j _ _)
theorem K126.c {k : Int} (w : PmD F h d s) (hq : Q (.tuple #[.int .u64 (pload s k).1, .int .i64 (pload s k).2]) h) : CT 126 #[.pointer (some ⟨d, 0, none⟩), .int .i64 k] h Q := by
 apply K126.ok
 refine K150.c w ⟨_, rfl, K160.c w ⟨_, rfl, ?_⟩⟩
 unfold pload at hq
 refine xsIf_intro (fun h1 => ?_) (fun h1 => ?_)
 ·have h1 := of_decide_eq_true h1
  rw [if_neg h1] at hq
  exact hq
 ·have h1 : pready s k ((8 * s.nl : Nat) : Int) = 0 := Classical.byContradiction (of_decide_eq_false h1)
  rw [if_pos h1] at hq
  obtain ⟨_, h2, h3⟩ := pready_ok h1
  obtain ⟨mb, r, wb, bb, l, c, w⟩ := w
  have ek : ((k.toNat : Nat) : Int) = k := by omega
  refine ⟨d, 0, rfl, _, w.hd.cell _, r, rfl, l, c, w.hr, fun j v b hj => ?_, fun hn => ⟨d, 0, rfl, _, _, _, w.hd.cell _, ⟨h2, h3⟩, mb, 0, rfl, _, by rw [w.hm.cell, Nat.zero_add, Nat.mul_one]; exact row_get _ (by omega), ?_⟩⟩
  ·rw [← ek] at hj
   obtain ⟨x, hx, rfl⟩ := w.bm.found hj
   rw [hx] at hq
   exact ⟨_, _, rfl, hq⟩
  ·rw [← ek] at hn
   rw [w.bm.lacks hn] at hq
   exact hq
theorem K159.c {k : Int} (w : PmD F h d s) (hq : Q (.int .u64 (if 0 ≤ k ∧ k < ((8 * s.nl : Nat) : Int) then s.media k.toNat else 0)) h) : CT 159 #[.pointer (some ⟨d, 0, none⟩), .int .i64 k] h Q := by
 apply K159.ok
 refine xsIf_intro (fun h1 => ?_) (fun h1 => K150.c w ⟨_, rfl, xsIf_intro (fun h2 => ?_) (fun h2 => ?_)⟩)
 ·simp only [decide_eq_true_eq] at h1; rw [if_neg (by omega)] at hq; exact hq
 ·simp only [decide_eq_true_eq] at h2; rw [if_neg (by omega)] at hq; exact hq
 ·have h1 := of_decide_eq_false h1
  have h2 := of_decide_eq_false h2
  rw [if_pos (by omega)] at hq
  obtain ⟨mb, r, wb, bb, l, c, w⟩ := w
  exact ⟨d, 0, rfl, _, _, _, w.hd.cell _, ⟨by omega, by omega⟩, mb, 0, rfl, _, by rw [w.hm.cell, Nat.zero_add, Nat.mul_one]; exact row_get _ (by omega), hq⟩
theorem K48.c {k : Int} (w : PmD F h d s) (hq : Q (.bool (decide (0 ≤ k ∧ k < s.nl))) h) : CT 48 #[.pointer (some ⟨d, 0, none⟩), .int .i64 k] h Q := by
 apply K48.ok
 refine xsIf_intro (fun h1 => K76.c w ⟨_, rfl, ?_⟩) (fun h1 => ?_)
 ·have h1 := of_decide_eq_true h1
  have e : decide (0 ≤ k ∧ k < (s.nl : Int)) = decide (k < (s.nl : Int)) := by simp [h1]
  rw [e] at hq; exact hq
 ·have h1 := of_decide_eq_false h1
  have e : decide (0 ≤ k ∧ k < (s.nl : Int)) = false := by simp; omega
  rw [e] at hq; exact hq
end
end Go.Gb
namespace Go.Gb
open Go.Proofs IntWalk
theorem IMap.set {l : List (Int × Value × Nat)} {c j : Nat} {k : Int} {v v' : Value} {b : Nat} (m : IMap l c) (hj : mnth l j = some (k, v, b)) : IMap (mset l j (k, v', b)) c := by
 have hlt : j < l.length := (List.getElem?_eq_some_iff.1 hj).1
 have hjj : l[j] = (k, v, b) := (List.getElem?_eq_some_iff.1 hj).2
 have e1 : (mset l j (k, v', b)).map (·.1) = l.map (·.1) := by
  show (l.set j (k, v', b)).map (·.1) = _
  rw [List.map_set]
  apply List.ext_getElem?
  intro i
  rw [List.getElem?_set]
  split
  ·rename_i h; subst h
   rw [if_pos (by simpa using hlt)]
   simp [List.getElem?_map, hlt, hjj]
  ·rfl
 have e2 : (mset l j (k, v', b)).map (·.2.2) = l.map (·.2.2) := by
  show (l.set j (k, v', b)).map (·.2.2) = _
  rw [List.map_set]
  apply List.ext_getElem?
  intro i
  rw [List.getElem?_set]
  split
  ·rename_i h; subst h
   rw [if_pos (by simpa using hlt)]
   simp [List.getElem?_map, hlt, hjj]
  ·rfl
 have hmem : ∀ e ∈ mset l j (k, v', b), e = (k, v', b) ∨ e ∈ l := fun e he => (List.mem_or_eq_of_mem_set he).symm
 have hkb : (k, v, b) ∈ l := List.mem_of_getElem? hj
 refine ⟨fun e he => ?_, by rw [e2]; exact m.bn, by rw [e1]; exact m.kn, fun e he => ?_⟩
 ·rcases hmem e he with rfl | h
  ·exact m.born (k, v, b) hkb
  ·exact m.born e h
 ·rcases hmem e he with rfl | h
  ·exact m.wf (k, v, b) hkb
  ·exact m.wf e h
theorem IMap.add {l : List (Int × Value × Nat)} {c : Nat} {k : Int} {v : Value} (m : IMap l c) (hk : -9223372036854775808 ≤ k ∧ k < 9223372036854775808) (hn : ∀ (j : Nat) (v : Value) (b : Nat), ¬ mnth l j = some (k, v, b)) : IMap (madd l (k, v, c)) (c + 1) := by
 refine ⟨fun e he => ?_, ?_, ?_, fun e he => ?_⟩
 ·rcases List.mem_append.1 he with h | h
  ·have := m.born e h; omega
  ·simp at h; subst h; show c < c + 1; omega
 ·show ((l ++ [(k, v, c)]).map (·.2.2)).Nodup
  rw [List.map_append, List.nodup_append]
  refine ⟨m.bn, by simp, ?_⟩
  intro a ha b hb
  simp at hb
  obtain ⟨e, he, rfl⟩ := List.mem_map.1 ha
  have := m.born e he
  omega
 ·show ((l ++ [(k, v, c)]).map (·.1)).Nodup
  rw [List.map_append, List.nodup_append]
  refine ⟨m.kn, by simp, ?_⟩
  intro a ha b hb
  simp at hb
  obtain ⟨e, he, rfl⟩ := List.mem_map.1 ha
  obtain ⟨j, hj⟩ := List.getElem?_of_mem he
  intro e1
  exact hn j e.2.1 e.2.2 (by rw [← hb, ← e1]; exact hj)
 ·rcases List.mem_append.1 he with h | h
  ·exact m.wf e h
  ·simp at h; subst h; exact hk
theorem IMap.key {l : List (Int × Value × Nat)} {c : Nat} (m : IMap l c) {i j : Nat} {k : Int} {v v' : Value} {b b' : Nat} (hi : mnth l i = some (k, v, b)) (hj : mnth l j = some (k, v', b')) : i = j := by
 have hn := List.pairwise_iff_getElem.1 (List.nodup_iff_pairwise_ne.1 m.kn)
 have h1 : (l.map (·.1))[i]? = some k := by rw [List.getElem?_map]; rw [show l[i]? = some (k, v, b) from hi]; rfl
 have h2 : (l.map (·.1))[j]? = some k := by rw [List.getElem?_map]; rw [show l[j]? = some (k, v', b') from hj]; rfl
 have hil : i < (l.map (·.1)).length := (List.getElem?_eq_some_iff.1 h1).1
 have hjl : j < (l.map (·.1)).length := (List.getElem?_eq_some_iff.1 h2).1
 rcases Nat.lt_trichotomy i j with h | h | h
 ·exact absurd ((List.getElem?_eq_some_iff.1 h1).2.trans (List.getElem?_eq_some_iff.1 h2).2.symm) (hn i j hil hjl h)
 ·exact h
 ·exact absurd ((List.getElem?_eq_some_iff.1 h2).2.trans (List.getElem?_eq_some_iff.1 h1).2.symm) (hn j i hjl hil h)
theorem BufM.set {n : Nat} {buf : Nat → Option (Int × Bool)} {l : List (Int × Value × Nat)} {c : Nat} (m : BufM n buf l c) {k j : Nat} {v : Value} {b : Nat} (hk : k < n) (hj : mnth l j = some ((k : Int), v, b)) (x : Int × Bool) : BufM n (fset buf k (some x)) (mset l j ((k : Int), cellV x, b)) c := by
 have hlt : j < l.length := (List.getElem?_eq_some_iff.1 hj).1
 refine ⟨m.im.set hj, fun e he => ?_, fun w y hw => ?_⟩
 ·obtain ⟨i, hi⟩ := List.getElem?_of_mem he
  have hi' : (l.set j ((k : Int), cellV x, b))[i]? = some e := hi
  rw [List.getElem?_set] at hi'
  by_cases e1 : j = i
  ·rw [if_pos e1, if_pos hlt] at hi'
   cases hi'
   exact ⟨k, x, hk, rfl, by simp [fset], rfl⟩
  ·rw [if_neg e1] at hi'
   obtain ⟨w, y, h1, h2, h3, h4⟩ := m.ent e (List.mem_of_getElem? hi')
   refine ⟨w, y, h1, h2, ?_, h4⟩
   unfold fset
   rw [if_neg]
   ·exact h3
   ·intro e2
    subst e2
    have h5 : mnth l i = some ((w : Int), e.2.1, e.2.2) := by show l[i]? = _; rw [hi', ← h2]
    exact e1 (m.im.key hj h5)
 ·unfold fset at hw
  by_cases e1 : w = k
  ·rw [if_pos e1] at hw
   cases hw
   subst e1
   exact ⟨b, List.mem_of_getElem? (i := j) (by show (l.set j _)[j]? = _; rw [List.getElem?_set_self hlt])⟩
  ·rw [if_neg e1] at hw
   obtain ⟨b', hb'⟩ := m.has w y hw
   obtain ⟨i, hi⟩ := List.getElem?_of_mem hb'
   refine ⟨b', List.mem_of_getElem? (i := i) ?_⟩
   show (l.set j _)[i]? = _
   rw [List.getElem?_set_ne, hi]
   intro e2
   subst e2
   have : ((w : Int)) = (k : Int) := by
    have := hi.symm.trans hj
    cases this; rfl
   omega
theorem BufM.add {n : Nat} {buf : Nat → Option (Int × Bool)} {l : List (Int × Value × Nat)} {c : Nat} (m : BufM n buf l c) {k : Nat} (hk : k < n) (hn8 : n ≤ 65536) (hn : ∀ (j : Nat) (v : Value) (b : Nat), ¬ mnth l j = some ((k : Int), v, b)) (x : Int × Bool) : BufM n (fset buf k (some x)) (madd l ((k : Int), cellV x, c)) (c + 1) := by
 refine ⟨m.im.add (by omega) hn, fun e he => ?_, fun w y hw => ?_⟩
 ·rcases List.mem_append.1 he with h | h
  ·obtain ⟨w, y, h1, h2, h3, h4⟩ := m.ent e h
   refine ⟨w, y, h1, h2, ?_, h4⟩
   unfold fset
   rw [if_neg]
   ·exact h3
   ·intro e2
    subst e2
    obtain ⟨j, hj⟩ := List.getElem?_of_mem h
    exact hn j e.2.1 e.2.2 (by rw [← h2]; exact hj)
  ·simp at h; subst h
   exact ⟨k, x, hk, rfl, by simp [fset], rfl⟩
 ·unfold fset at hw
  by_cases e1 : w = k
  ·rw [if_pos e1] at hw
   cases hw
   subst e1
   exact ⟨c, by show _ ∈ l ++ _; simp⟩
  ·rw [if_neg e1] at hw
   obtain ⟨b', hb'⟩ := m.has w y hw
   exact ⟨b', List.mem_append.2 (.inl hb')⟩
section
variable {F : Nat → Prop} {h : Heap} {d : Nat} {s : PmS} {Q : QT}
theorem PmC.setBuf {mb r wb bb c c' : Nat} {l l' : List (Int × Value × Nat)} {buf : Nat → Option (Int × Bool)} (w : PmC F h d mb r wb bb l c s) (m : BufM (8 * s.nl) buf l' c') : PmC F (upd h r (mapO (Value.int .i64) l' c')) d mb r wb bb l' c' { s with buf := buf } := by
 have ne := w.ne
 have hk : ∀ k, k ≠ r → upd h r (mapO (Value.int .i64) l' c') k = h k := fun k hk => by unfold upd; rw [if_neg hk]
 exact ⟨w.lo, w.hi, w.fd, w.fm, w.fr, w.fw, w.fb, w.ne, w.hd.keep (hk _ ne.2.1), w.hm.keep (hk _ ne.2.2.2.2.1), by unfold upd; rw [if_pos rfl], w.hw.keep (hk _ (Ne.symm ne.2.2.2.2.2.2.2.1)), w.hb.keep (hk _ (Ne.symm ne.2.2.2.2.2.2.2.2.1)), m, w.f0, w.f1⟩
theorem K151.c {k : Nat} {v : Int} {t0 t1 t2 : Nat} (w : PmD F h d s) (hk : k < 8 * s.nl) (h0 : h.cell t0 0 = some (.int .u64 v)) (h1 : h.cell t1 0 = some (.pointer (some ⟨d, 0, none⟩))) (h2 : h.cell t2 0 = some (.int .i64 (k : Int)))
  (hq : ∀ h', PmD F h' d { s with buf := fset s.buf k (some (v, false)) } → Step F h F h' → Q (.tuple #[]) h') :
  CT 151 #[.pointer (some ⟨t0, 0, none⟩), .pointer (some ⟨t1, 0, none⟩), .pointer (some ⟨t2, 0, none⟩)] h Q := by
 obtain ⟨mb, r, wb, bb, l, c, w⟩ := w
 have := w.hi
 apply K151.ok
 refine ⟨_, h0, _, h1, d, 0, rfl, _, w.hd.cell _, _, h2, r, rfl, l, c, w.hr, fun j v' b hj => ?_, fun hn => ?_⟩
 ·exact hq _ ⟨mb, r, wb, bb, _, _, w.setBuf (w.bm.set hk hj (v, false))⟩ (Step.set w.fr _)
 ·exact hq _ ⟨mb, r, wb, bb, _, _, w.setBuf (w.bm.add hk (by omega) hn (v, false))⟩ (Step.set w.fr _)
def pstore (s : PmS) (k v : Int) : Int × PmS :=
 if (pbegin s k ((8 * s.nl : Nat) : Int)).1 = 0 then (0, { (pbegin s k ((8 * s.nl : Nat) : Int)).2 with buf := fset s.buf k.toNat (some (v, false)) }) else pbegin s k ((8 * s.nl : Nat) : Int)
theorem pburn_nl (s : PmS) : (pburn s).2.nl = s.nl := by unfold pburn; split <;> (try split) <;> rfl
theorem pburn_buf (s : PmS) : (pburn s).2.buf = s.buf := by unfold pburn; split <;> (try split) <;> rfl
theorem pbegin_nl (s : PmS) (a o : Int) : (pbegin s a o).2.nl = s.nl := by unfold pbegin; split; exact pburn_nl s; rfl
theorem pbegin_buf (s : PmS) (a o : Int) : (pbegin s a o).2.buf = s.buf := by unfold pbegin; split; exact pburn_buf s; rfl
theorem pbegin_ok {s : PmS} {a o : Int} (h : (pbegin s a o).1 = 0) : s.off = false ∧ 0 ≤ a ∧ a < o := by
 unfold pbegin at h
 split at h
 ·rename_i h1; exact pready_ok h1
 ·rename_i h1; exact absurd h h1
theorem upd_ne {h : Heap} {b k : Nat} {o : Obj} (e : k ≠ b) : upd h b o k = h k := by unfold upd; rw [if_neg e]
theorem upd_cell {h : Heap} {b : Nat} {v : Value} {T : TypeId} : (upd h b (.cells #[v] T (0, 0))).cell b 0 = some v := by simp [Heap.cell, upd_same]
theorem cell_same {h h' : Heap} {b o : Nat} (e : h' b = h b) : h'.cell b o = h.cell b o := by unfold Heap.cell; rw [e]
theorem K115.c {k v : Int} (w : PmD F h d s) (hq : ∀ h', PmD F h' d (pstore s k v).2 → Step F h F h' → Q (.int .i64 (pstore s k v).1) h') :
  CT 115 #[.pointer (some ⟨d, 0, none⟩), .int .i64 k, .int .u64 v] h Q := by
 apply K115.ok
 intro b hb b1 hb1 b2 hb2
 have n1 : b1 ≠ b := fun e => by subst e; rw [upd_same] at hb1; cases hb1
 have n20 : b2 ≠ b1 := fun e => by subst e; rw [upd_same] at hb2; cases hb2
 have n21 : b2 ≠ b := fun e => by subst e; rw [upd_ne n1.symm, upd_same] at hb2; cases hb2
 obtain ⟨h3, e3⟩ : ∃ h3, upd (upd (upd h b (Obj.cells #[Value.pointer (some ⟨d, 0, none⟩)] 23 (0, 0))) b1 (Obj.cells #[Value.int IntKind.i64 k] 3 (0, 0))) b2 (Obj.cells #[Value.int IntKind.u64 v] 28 (0, 0)) = h3 := ⟨_, rfl⟩
 have s3 : Step F h F h3 := by
  rw [← e3]
  exact ((Step.lost hb _).trans (Step.lost hb1 _)).trans (Step.lost hb2 _)
 have c0 : h3.cell b 0 = some (.pointer (some ⟨d, 0, none⟩)) := by
  rw [← e3, cell_same (upd_ne n21.symm), cell_same (upd_ne n1.symm)]; exact upd_cell
 have c1 : h3.cell b1 0 = some (.int .i64 k) := by rw [← e3, cell_same (upd_ne n20.symm)]; exact upd_cell
 have c2 : h3.cell b2 0 = some (.int .u64 v) := by rw [← e3]; exact upd_cell
 have hk3 : ∀ j, h j ≠ none → h3 j = h j := by
  intro j hj
  rw [← e3, upd_ne, upd_ne, upd_ne]
  ·intro e; subst e; exact hj hb
  ·intro e; subst e; rw [upd_ne n1] at hb1; exact hj hb1
  ·intro e; subst e; rw [upd_ne n20, upd_ne n21] at hb2; exact hj hb2
 have w3 : PmD F h3 d s := w.keep fun j _ hj => hk3 j hj
 rw [e3]
 have hdo : CT 149 #[.pointer (some ⟨d, 0, none⟩), .int .i64 k, .int .i64 ((8 * s.nl : Nat) : Int), .func (.func 151) #[] #[.pointer (some ⟨b2, 0, none⟩), .pointer (some ⟨b, 0, none⟩), .pointer (some ⟨b1, 0, none⟩)]] h3 fun r h' => ∃ x : Int, r = .int .i64 x ∧ Q (.int .i64 x) h' := by
  obtain ⟨mb, r, wb, bb, l, c, w⟩ := w
  have hdn : h d ≠ none := w.hd.ne
  have w3' := w.keep (h' := h3) fun j _ hj => hk3 j hj
  have nb : b ≠ d := fun e => hdn (by rw [← e]; exact hb)
  have nb1 : b1 ≠ d := fun e => hdn (by rw [← e]; rw [upd_ne n1] at hb1; exact hb1)
  have nb2 : b2 ≠ d := fun e => hdn (by rw [← e]; rw [upd_ne n20, upd_ne n21] at hb2; exact hb2)
  refine K149.c (by kernel_rfl) w3' (fun hne h' w' st _ => ⟨_, rfl, ?_⟩) (fun h0 h' w' st hk => ?_)
  ·have e : pstore s k v = pbegin s k ((8 * s.nl : Nat) : Int) := by unfold pstore; rw [if_neg hne]
   have := hq h' (by rw [e]; exact ⟨mb, r, wb, bb, l, c, w'⟩) (s3.trans st)
   rw [e] at this; exact this
  ·have e : pstore s k v = (0, { (pbegin s k ((8 * s.nl : Nat) : Int)).2 with buf := fset s.buf k.toNat (some (v, false)) }) := by unfold pstore; rw [if_pos h0]
   obtain ⟨_, hk0, hk1⟩ := pbegin_ok h0
   have ek : ((k.toNat : Nat) : Int) = k := by omega
   refine K151.c (k := k.toNat) (v := v) ⟨mb, r, wb, bb, l, c, w'⟩ (by rw [pbegin_nl]; omega) (by rw [cell_same (hk b2 nb2)]; exact c2) (by rw [cell_same (hk b nb)]; exact c0) (by rw [cell_same (hk b1 nb1), ek]; exact c1) fun h'' w'' st2 => ⟨_, rfl, ?_⟩
   have := hq h'' (by rw [e]; rw [pbegin_buf] at w''; exact w'') ((s3.trans st).trans st2)
   rw [e] at this; exact this
 exact ⟨_, c0, ⟨_, c0, ⟨_, c1, K150.c w3 ⟨_, rfl, hdo⟩⟩, K150.c w3 ⟨_, rfl, _, c1, hdo⟩⟩, ⟨_, c1, ⟨_, c0, K150.c w3 ⟨_, rfl, hdo⟩⟩, K150.c w3 ⟨_, rfl, _, c0, hdo⟩⟩, K150.c w3 ⟨_, rfl, _, c0, _, c1, hdo⟩⟩
end
end Go.Gb
namespace Go.Gb
open Go.Proofs IntWalk
def fbuf (buf : Nat → Option (Int × Bool)) (at0 k : Nat) : Nat → Option (Int × Bool) := fun w => if 8 * at0 ≤ w ∧ w < 8 * at0 + k then (buf w).map fun x => (x.1, true) else buf w
theorem fbuf_zero (buf : Nat → Option (Int × Bool)) (at0 : Nat) : fbuf buf at0 0 = buf := by
 funext w; unfold fbuf; rw [if_neg (by omega)]
theorem fbuf_some {buf : Nat → Option (Int × Bool)} {at0 k : Nat} {x : Int × Bool} (h : fbuf buf at0 k (8 * at0 + k) = some x) : fset (fbuf buf at0 k) (8 * at0 + k) (some (x.1, true)) = fbuf buf at0 (k + 1) := by
 unfold fbuf at h
 rw [if_neg (by omega)] at h
 funext w
 unfold fset
 split
 ·rename_i e; subst e; unfold fbuf; rw [if_pos (by omega), h]; rfl
 ·rename_i e
  unfold fbuf
  by_cases e2 : 8 * at0 ≤ w ∧ w < 8 * at0 + k
  ·rw [if_pos e2, if_pos (by omega)]
  ·rw [if_neg e2, if_neg (by omega)]
theorem fbuf_none {buf : Nat → Option (Int × Bool)} {at0 k : Nat} (h : fbuf buf at0 k (8 * at0 + k) = none) : fbuf buf at0 k = fbuf buf at0 (k + 1) := by
 have h0 := h
 unfold fbuf at h
 rw [if_neg (by omega)] at h
 funext w
 by_cases e : w = 8 * at0 + k
 ·subst e; rw [h0]; unfold fbuf; rw [if_pos (by omega), h]; rfl
 ·unfold fbuf
  by_cases e2 : 8 * at0 ≤ w ∧ w < 8 * at0 + k
  ·rw [if_pos e2, if_pos (by omega)]
  ·rw [if_neg e2, if_neg (by omega)]
section
variable {F : Nat → Prop} {d : Nat} {s : PmS} {Q : QT}
theorem K180.L1.c {at0 t0 t1 mb r wb bb : Nat} (ha : at0 < s.nl) (n0 : t0 ≠ r) (n1 : t1 ≠ r) : ∀ (j k : Nat) (h : Heap) (l : List (Int × Value × Nat)) (c : Nat), k + j = 8 → PmC F h d mb r wb bb l c { s with buf := fbuf s.buf at0 k } →
  h.cell t0 0 = some (.pointer (some ⟨d, 0, none⟩)) → h.cell t1 0 = some (.int .i64 (at0 : Int)) →
  (∀ h' l' c', PmC F h' d mb r wb bb l' c' { s with buf := fbuf s.buf at0 8 } → Step F h F h' → Q (.tuple #[]) h') → K180.L1 t0 t1 (k : Int) h Q := by
 intro j
 induction j with
 | zero =>
  intro k h l c hk w h0 h1 hq
  apply K180.L1.ok
  have e : k = 8 := by omega
  subst e
  exact xsIf_f (by simp) (hq h l c w (Step.refl _ _))
 | succ j ih =>
  intro k h l c hk w h0 h1 hq
  apply K180.L1.ok
  have hi := w.hi
  have hi : s.nl ≤ 8192 := hi
  have e1 : IntKind.i64.wrap (IntKind.i64.wrap ((at0 : Int) * 8) + (k : Int)) = ((8 * at0 + k : Nat) : Int) := by
   rw [i64_in ((at0 : Int) * 8) (by omega), i64_in _ (by omega)]; omega
  have e2 : IntKind.i64.wrap ((k : Int) + 1) = ((k + 1 : Nat) : Int) := by rw [i64_in _ (by omega)]; omega
  have hn : 8 * at0 + k < 8 * s.nl := by omega
  refine xsIf_t (decide_eq_true (by omega)) ⟨_, h1, _, h0, d, 0, rfl, _, w.hd.cell _, ?_⟩
  rw [e1, e2]
  have key : ∀ (j : Nat) (v : Value) (b : Nat) (x : Int) (f : Bool), mnth l j = some (((8 * at0 + k : Nat) : Int), v, b) → v = cellV (x, f) → K180.L1 t0 t1 ((k + 1 : Nat) : Int) (upd h r (mapO (Value.int .i64) (mset l j (((8 * at0 + k : Nat) : Int), cellV (x, true), b)) c)) Q := by
   intro j v b x f hj hv
   obtain ⟨y, hy, hv'⟩ := w.bm.found hj
   have exy : y.1 = x := by rw [hv] at hv'; simp [cellV] at hv'; exact hv'.1.symm
   have w2 := w.setBuf (w.bm.set hn hj (x, true))
   have eb : fset (fbuf s.buf at0 k) (8 * at0 + k) (some (x, true)) = fbuf s.buf at0 (k + 1) := by rw [← exy]; exact fbuf_some hy
   refine ih (k + 1) _ (mset l j (((8 * at0 + k : Nat) : Int), cellV (x, true), b)) c (by omega) ?_ ?_ ?_ fun h' l' c' w' st => hq h' l' c' w' ((Step.set w.fr _).trans st)
   ·rw [← eb]; exact w2
   ·rw [cell_same (upd_ne n0)]; exact h0
   ·rw [cell_same (upd_ne n1)]; exact h1
  have none' : (∀ (j : Nat) (v : Value) (b : Nat), ¬ mnth l j = some (((8 * at0 + k : Nat) : Int), v, b)) → K180.L1 t0 t1 ((k + 1 : Nat) : Int) h Q := by
   intro hn'
   have hb := w.bm.lacks hn'
   refine ih (k + 1) h l c (by omega) ?_ h0 h1 hq
   rw [← fbuf_none hb]; exact w
  constructor <;>
  ·refine ⟨r, rfl, l, c, w.hr, fun j v b hj => ?_, none'⟩
   obtain ⟨y, hy, hv⟩ := w.bm.found hj
   refine ⟨y.1, y.2, hv, _, h1, _, h0, d, 0, rfl, _, w.hd.cell _, r, rfl, l, c, w.hr, ?_⟩
   rw [e1]
   refine ⟨fun j' v' b' hj' => ?_, fun hn' => absurd hj (hn' j v b)⟩
   have ejj := w.bm.im.key hj hj'
   subst ejj
   have hvv : v' = v := by rw [hj] at hj'; cases hj'; rfl
   exact key j v' b' y.1 y.2 hj' (by rw [hvv]; exact hv)
def pflush (s : PmS) (at0 : Int) : Int × PmS :=
 if (pbegin s at0 s.nl).1 = 0 then (0, { (pbegin s at0 s.nl).2 with buf := fbuf s.buf at0.toNat 8 }) else pbegin s at0 s.nl
variable {h : Heap}
theorem K152.c {k : Int} (w : PmD F h d s) (hq : ∀ h', PmD F h' d (pflush s k).2 → Step F h F h' → Q (.int .i64 (pflush s k).1) h') :
  CT 152 #[.pointer (some ⟨d, 0, none⟩), .int .i64 k] h Q := by
 apply K152.ok
 intro b hb b1 hb1
 have n1 : b1 ≠ b := fun e => by subst e; rw [upd_same] at hb1; cases hb1
 obtain ⟨h3, e3⟩ : ∃ h3, upd (upd h b (Obj.cells #[Value.pointer (some ⟨d, 0, none⟩)] 23 (0, 0))) b1 (Obj.cells #[Value.int IntKind.i64 k] 3 (0, 0)) = h3 := ⟨_, rfl⟩
 have s3 : Step F h F h3 := by
  rw [← e3]
  exact (Step.lost hb _).trans (Step.lost hb1 _)
 have c0 : h3.cell b 0 = some (.pointer (some ⟨d, 0, none⟩)) := by
  rw [← e3, cell_same (upd_ne n1.symm)]; exact upd_cell
 have c1 : h3.cell b1 0 = some (.int .i64 k) := by rw [← e3]; exact upd_cell
 have hk3 : ∀ j, h j ≠ none → h3 j = h j := by
  intro j hj
  rw [← e3, upd_ne, upd_ne]
  ·intro e; subst e; exact hj hb
  ·intro e; subst e; rw [upd_ne n1] at hb1; exact hj hb1
 have w3 : PmD F h3 d s := w.keep fun j _ hj => hk3 j hj
 rw [e3]
 have hdo : CT 149 #[.pointer (some ⟨d, 0, none⟩), .int .i64 k, .int .i64 s.nl, .func (.func 180) #[] #[.pointer (some ⟨b, 0, none⟩), .pointer (some ⟨b1, 0, none⟩)]] h3 fun r h' => ∃ x : Int, r = .int .i64 x ∧ Q (.int .i64 x) h' := by
  obtain ⟨mb, r, wb, bb, l, c, w⟩ := w
  have hdn : h d ≠ none := w.hd.ne
  have hrn : h r ≠ none := by rw [w.hr]; simp
  have w3' := w.keep (h' := h3) fun j _ hj => hk3 j hj
  have nb : b ≠ d := fun e => hdn (by rw [← e]; exact hb)
  have nb1 : b1 ≠ d := fun e => hdn (by rw [← e]; rw [upd_ne n1] at hb1; exact hb1)
  have nr : b ≠ r := fun e => hrn (by rw [← e]; exact hb)
  have nr1 : b1 ≠ r := fun e => hrn (by rw [← e]; rw [upd_ne n1] at hb1; exact hb1)
  refine K149.c (by kernel_rfl) w3' (fun hne h' w' st _ => ⟨_, rfl, ?_⟩) (fun h0 h' w' st hk => ?_)
  ·have e : pflush s k = pbegin s k s.nl := by unfold pflush; rw [if_neg hne]
   have := hq h' (by rw [e]; exact ⟨mb, r, wb, bb, l, c, w'⟩) (s3.trans st)
   rw [e] at this; exact this
  ·have e : pflush s k = (0, { (pbegin s k s.nl).2 with buf := fbuf s.buf k.toNat 8 }) := by unfold pflush; rw [if_pos h0]
   obtain ⟨_, hk0, hk1⟩ := pbegin_ok h0
   have ek : ((k.toNat : Nat) : Int) = k := by omega
   show CT 180 #[.pointer (some ⟨b, 0, none⟩), .pointer (some ⟨b1, 0, none⟩)] h' _
   apply K180.ok
   refine K180.L1.c (F := F) (s := (pbegin s k s.nl).2) (at0 := k.toNat) (mb := mb) (r := r) (wb := wb) (bb := bb) (by rw [pbegin_nl]; omega) nr nr1 8 0 h' l c rfl ?_ (by rw [cell_same (hk b nb)]; exact c0) (by rw [cell_same (hk b1 nb1), ek]; exact c1) fun h'' l' c' w'' st2 => ⟨_, rfl, ?_⟩
   ·rw [fbuf_zero]; exact w'
   ·have := hq h'' (by rw [e]; rw [pbegin_buf] at w''; exact ⟨mb, r, wb, bb, l', c', w''⟩) ((s3.trans st).trans st2)
    rw [e] at this; exact this
 exact ⟨_, c0, ⟨_, c0, ⟨_, c1, K76.c w3 ⟨_, rfl, hdo⟩⟩, K76.c w3 ⟨_, rfl, _, c1, hdo⟩⟩, ⟨_, c1, ⟨_, c0, K76.c w3 ⟨_, rfl, hdo⟩⟩, K76.c w3 ⟨_, rfl, _, c0, hdo⟩⟩, K76.c w3 ⟨_, rfl, _, c0, _, c1, hdo⟩⟩
end
end Go.Gb
namespace Go.Gb
open Go.Proofs IntWalk
structure LinesM (n : Nat) (l : List (Int × Value × Nat)) (c : Nat) : Prop where
 im : IMap l c
 ent : ∀ e ∈ l, ∃ i, i < n ∧ e.1 = ((i : Nat) : Int) ∧ e.2.1 = .bool true
open Classical in
noncomputable def wearN (wear : Nat → Int) (l : List (Int × Value × Nat)) (seen : List Nat) : Nat → Int := fun i => if ∃ e ∈ l, e.1 = (i : Int) ∧ e.2.2 ∈ seen then IntKind.wrap .i64 (wear i + 1) else wear i
open Classical in
noncomputable def wearA (wear : Nat → Int) (l : List (Int × Value × Nat)) : Nat → Int := fun i => if ∃ e ∈ l, e.1 = (i : Int) then IntKind.wrap .i64 (wear i + 1) else wear i
theorem born_inj {l : List (Int × Value × Nat)} {c : Nat} (m : IMap l c) {e e' : Int × Value × Nat} (he : e ∈ l) (he' : e' ∈ l) (hb : e.2.2 = e'.2.2) : e = e' := by
 obtain ⟨i, hi⟩ := List.getElem?_of_mem he
 obtain ⟨j, hj⟩ := List.getElem?_of_mem he'
 have hn := List.pairwise_iff_getElem.1 (List.nodup_iff_pairwise_ne.1 m.bn)
 have hil : i < l.length := (List.getElem?_eq_some_iff.1 hi).1
 have hjl : j < l.length := (List.getElem?_eq_some_iff.1 hj).1
 have h1 := (List.getElem?_eq_some_iff.1 hi).2
 have h2 := (List.getElem?_eq_some_iff.1 hj).2
 rcases Nat.lt_trichotomy i j with h | h | h
 ·have q : (l.map (·.2.2))[i]'(by simpa using hil) = (l.map (·.2.2))[j]'(by simpa using hjl) := by rw [List.getElem_map, List.getElem_map, h1, h2]; exact hb
  exact absurd q (hn i j (by simpa using hil) (by simpa using hjl) h)
 ·subst h; rw [← h1, ← h2]
 ·have q : (l.map (·.2.2))[j]'(by simpa using hjl) = (l.map (·.2.2))[i]'(by simpa using hil) := by rw [List.getElem_map, List.getElem_map, h1, h2]; exact hb.symm
  exact absurd q (hn j i (by simpa using hjl) (by simpa using hil) h)
theorem key_inj {l : List (Int × Value × Nat)} {c : Nat} (m : IMap l c) {e e' : Int × Value × Nat} (he : e ∈ l) (he' : e' ∈ l) (hb : e.1 = e'.1) : e = e' := by
 obtain ⟨i, hi⟩ := List.getElem?_of_mem he
 obtain ⟨j, hj⟩ := List.getElem?_of_mem he'
 have : i = j := m.key (k := e.1) (v := e.2.1) (b := e.2.2) (v' := e'.2.1) (b' := e'.2.2) hi (by rw [hb]; exact hj)
 subst this
 rw [hi] at hj; exact Option.some.inj hj
theorem wearN_step {wear : Nat → Int} {l : List (Int × Value × Nat)} {c : Nat} {seen : List Nat} (m : IMap l c) {i : Nat} {v : Value} {b : Nat} (he : (((i : Nat) : Int), v, b) ∈ l) (hs : b ∉ seen) :
  fset (wearN wear l seen) i (IntKind.wrap .i64 (wearN wear l seen i + 1)) = wearN wear l (snoc seen b) := by
 have h0 : wearN wear l seen i = wear i := by
  unfold wearN
  rw [if_neg]
  rintro ⟨e, he', h1, h2⟩
  have := key_inj m he he' h1.symm
  subst this
  exact hs h2
 funext j
 unfold fset
 by_cases e : j = i
 ·subst e
  rw [if_pos rfl, h0]
  unfold wearN
  rw [if_pos ⟨_, he, rfl, by show b ∈ seen ++ [b]; simp⟩]
 ·rw [if_neg e]
  unfold wearN
  have hiff : (∃ e ∈ l, e.1 = (j : Int) ∧ e.2.2 ∈ snoc seen b) ↔ (∃ e ∈ l, e.1 = (j : Int) ∧ e.2.2 ∈ seen) := by
   constructor
   ·rintro ⟨x, hx, h1, h2⟩
    rcases List.mem_append.1 (show x.2.2 ∈ seen ++ [b] from h2) with h3 | h3
    ·exact ⟨x, hx, h1, h3⟩
    ·simp at h3
     have := born_inj m hx he h3
     subst this
     have : ((i : Nat) : Int) = (j : Int) := h1
     omega
   ·rintro ⟨x, hx, h1, h2⟩
    exact ⟨x, hx, h1, List.mem_append.2 (.inl h2)⟩
  simp only [hiff]
theorem wearN_all {wear : Nat → Int} {l : List (Int × Value × Nat)} {seen : List Nat} (h : ∀ e ∈ l, e.2.2 ∈ seen) : wearN wear l seen = wearA wear l := by
 funext i
 unfold wearN wearA
 have hiff : (∃ e ∈ l, e.1 = (i : Int) ∧ e.2.2 ∈ seen) ↔ (∃ e ∈ l, e.1 = (i : Int)) := ⟨fun ⟨e, a, b, _⟩ => ⟨e, a, b⟩, fun ⟨e, a, b⟩ => ⟨e, a, b, h e a⟩⟩
 simp only [hiff]
theorem wearN_nil (wear : Nat → Int) (l : List (Int × Value × Nat)) : wearN wear l [] = wear := by
 funext i; unfold wearN; rw [if_neg]; rintro ⟨e, _, _, h⟩; cases h
def leftN (l : List (Int × Value × Nat)) (seen : List Nat) : Nat := (l.filter fun e => !seen.elem e.2.2).length
theorem leftN_step {l : List (Int × Value × Nat)} {seen : List Nat} {e : Int × Value × Nat} (he : e ∈ l) (hs : seen.elem e.2.2 = false) : leftN l (snoc seen e.2.2) < leftN l seen := by
 unfold leftN
 have hsub : (l.filter fun x => !(snoc seen e.2.2).elem x.2.2) = (l.filter fun x => !seen.elem x.2.2).filter fun x => !(x.2.2 == e.2.2) := by
  rw [List.filter_filter]
  refine List.filter_congr fun x _ => ?_
  show (!(seen ++ [e.2.2]).elem x.2.2) = _
  rw [Bool.eq_iff_iff]
  simp [and_comm, not_or]
 rw [hsub]
 refine List.length_filter_lt_length_iff_exists.2 ⟨e, ?_, by simp⟩
 rw [List.mem_filter]
 exact ⟨he, by rw [hs]; rfl⟩
section
variable {F : Nat → Prop} {d : Nat} {s : PmS} {Q : Value → Heap → Prop}
theorem PmC.setWear {h : Heap} {mb r wb bb c i : Nat} {l : List (Int × Value × Nat)} {v : Int} (w : PmC F h d mb r wb bb l c s) : PmC F (h.put wb i [.int .i64 v]) d mb r wb bb l c { s with wear := fset s.wear i v } := by
 have ne := w.ne
 have hk : ∀ k, k ≠ wb → h.put wb i [.int .i64 v] k = h k := fun k hk => put_other _ _ _ hk
 refine ⟨w.lo, w.hi, w.fd, w.fm, w.fr, w.fw, w.fb, w.ne, w.hd.keep (hk _ ne.2.2.1), w.hm.keep (hk _ ne.2.2.2.2.2.1), by rw [hk _ ne.2.2.2.2.2.2.2.1, w.hr], ?_, w.hb.keep (hk _ (Ne.symm ne.2.2.2.2.2.2.2.2.2)), w.bm, w.f0, w.f1⟩
 have := w.hw.put i [.int .i64 v]
 rw [setL_one, row_set (Value.int .i64)] at this
 exact this
theorem K37.L11.c {G : Nat → Prop} {t48 r1 c1 mb r wb bb c : Nat} {l l1 : List (Int × Value × Nat)} (hG : G t48) (hFG : ∀ k, F k → G k) (m : LinesM s.nl l1 c1)
  (n1 : t48 ≠ d ∧ t48 ≠ mb ∧ t48 ≠ r ∧ t48 ≠ wb ∧ t48 ≠ bb) (n2 : r1 ≠ wb) (n3 : t48 ≠ r1) : ∀ (n : Nat) (seen : List Nat) (h : Heap), leftN l1 seen ≤ n →
  h t48 = some (iterO r1 c1 seen c1) → h r1 = some (mapO (Value.int .i64) l1 c1) → PmC F h d mb r wb bb l c { s with wear := wearN s.wear l1 seen } →
  (∀ h', PmC F h' d mb r wb bb l c { s with wear := wearA s.wear l1 } → Step G h G h' → Q (.tuple #[]) h') → K37.L11 (some ⟨d, 0, none⟩) t48 h Q := by
 intro n
 induction n with
 | zero =>
  intro seen h hn hit hm w hq
  apply K37.L11.ok
  refine ⟨t48, 0, rfl, rfl, r1, c1, c1, seen, hit, l1, c1, hm, fun j n v b hj => m.im.born _ (List.mem_of_getElem? hj), Nat.le_refl _, fun j n v b hj hs => ?_, fun hall => ?_⟩
  ·have := leftN_step (e := (n, v, b)) (List.mem_of_getElem? hj) hs
   omega
  ·have e : wearN s.wear l1 seen = wearA s.wear l1 := wearN_all fun e he => by
    obtain ⟨j, hj⟩ := List.getElem?_of_mem he
    exact List.elem_iff.1 (hall j e.1 e.2.1 e.2.2 hj)
   rw [e] at w
   exact hq h w (Step.refl _ _)
 | succ n ih =>
  intro seen h hn hit hm w hq
  apply K37.L11.ok
  refine ⟨t48, 0, rfl, rfl, r1, c1, c1, seen, hit, l1, c1, hm, fun j n v b hj => m.im.born _ (List.mem_of_getElem? hj), Nat.le_refl _, fun j k v b hj hs => ?_, fun hall => ?_⟩
  ·have hmem : (k, v, b) ∈ l1 := List.mem_of_getElem? hj
   obtain ⟨i, hi, hk, hv⟩ := m.ent _ hmem
   have hk : k = ((i : Nat) : Int) := hk
   have hv : v = .bool true := hv
   subst hk hv
   have hm1 : upd h t48 (iterO r1 c1 (snoc seen b) c1) r1 = some (mapO (Value.int .i64) l1 c1) := by rw [upd_ne n3.symm]; exact hm
   have w1 : PmC F (upd h t48 (iterO r1 c1 (snoc seen b) c1)) d mb r wb bb l c { s with wear := wearN s.wear l1 seen } := by
    have hkk : ∀ k, k ≠ t48 → upd h t48 (iterO r1 c1 (snoc seen b) c1) k = h k := fun k hk => upd_ne hk
    exact ⟨w.lo, w.hi, w.fd, w.fm, w.fr, w.fw, w.fb, w.ne, w.hd.keep (hkk _ n1.1.symm), w.hm.keep (hkk _ n1.2.1.symm), by rw [hkk _ n1.2.2.1.symm, w.hr], w.hw.keep (hkk _ n1.2.2.2.1.symm), w.hb.keep (hkk _ n1.2.2.2.2.symm), w.bm, w.f0, w.f1⟩
   have hi' : i < s.nl := hi
   have hget : (rowI s.nl (wearN s.wear l1 seen))[i]? = some (.int .i64 (wearN s.wear l1 seen i)) := row_get _ hi'
   refine ⟨true, rfl, t48, 0, rfl, rfl, r1, c1, c1, seen, l1, j, (i : Int), .bool true, b, by rw [upd_same], hm1, hj, fun i2 n2 v2 hj2 => ?_, true, rfl, d, 0, rfl, _, _, _, w1.hd.cell _, ⟨by omega, by show ((i : Nat) : Int) < (s.nl : Int); omega⟩, wb, 0, rfl, _, by rw [w1.hw.cell, Nat.zero_add, Nat.mul_one]; exact hget, ⟨by omega, by show ((i : Nat) : Int) < (s.nl : Int); omega⟩, wb, 0, rfl, w1.hw.can (by simp; omega), ?_⟩
   ·have := born_inj m.im (List.mem_of_getElem? hj2) hmem rfl
    cases this
    exact m.im.key hj2 hj
   ·have hlt := leftN_step (e := (((i : Nat) : Int), .bool true, b)) hmem hs
    have hns : b ∉ seen := fun hc => by rw [List.elem_iff.2 hc] at hs; cases hs
    refine ih (snoc seen b) _ (by have : leftN l1 (snoc seen b) < leftN l1 seen := hlt; omega) ?_ ?_ ?_ fun h' w' st => hq h' w' (((Step.set hG _).trans (Step.put (hFG _ w.fw) _ _)).trans st)
    ·rw [put_other _ _ _ n1.2.2.2.1, upd_same]
    ·rw [put_other _ _ _ n2]; exact hm1
    ·have w2 := w1.setWear (i := 0 + (i : Int).toNat * 1) (v := IntKind.wrap .i64 (wearN s.wear l1 seen i + 1))
     have ei : 0 + (i : Int).toNat * 1 = i := by omega
     rw [ei] at w2 ⊢
     rw [← wearN_step m.im hmem hns]
     exact w2
  ·have e : wearN s.wear l1 seen = wearA s.wear l1 := wearN_all fun e he => by
    obtain ⟨j, hj⟩ := List.getElem?_of_mem he
    exact List.elem_iff.1 (hall j e.1 e.2.1 e.2.2 hj)
   rw [e] at w
   exact hq h w (Step.refl _ _)
end
end Go.Gb
namespace Go.Gb
open Go.Proofs IntWalk
theorem IMap.del {l : List (Int × Value × Nat)} {c j : Nat} (m : IMap l c) : IMap (mdel l j) c := by
 have hs : (l.eraseIdx j).Sublist l := List.eraseIdx_sublist l j
 exact ⟨fun e he => m.born e (hs.subset he), (hs.map _).nodup m.bn, (hs.map _).nodup m.kn, fun e he => m.wf e (hs.subset he)⟩
theorem IMap.del_mem {l : List (Int × Value × Nat)} {c j : Nat} {k : Int} {v : Value} {b : Nat} (m : IMap l c) (hj : mnth l j = some (k, v, b)) {e : Int × Value × Nat} : e ∈ mdel l j ↔ e ∈ l ∧ e.1 ≠ k := by
 have hlt : j < l.length := (List.getElem?_eq_some_iff.1 hj).1
 constructor
 ·intro he
  obtain ⟨i, hi, hie⟩ := List.mem_eraseIdx_iff_getElem?.1 he
  refine ⟨List.mem_of_getElem? hie, fun hk => hi ?_⟩
  exact (m.key (v := e.2.1) (b := e.2.2) (by rw [← hk]; exact hie) hj)
 ·rintro ⟨he, hk⟩
  obtain ⟨i, hi⟩ := List.getElem?_of_mem he
  refine List.mem_eraseIdx_iff_getElem?.2 ⟨i, fun e1 => ?_, hi⟩
  subst e1
  have e2 := (show l[i]? = some (k, v, b) from hj).symm.trans hi
  cases e2
  exact hk rfl
theorem BufM.del {n : Nat} {buf : Nat → Option (Int × Bool)} {l : List (Int × Value × Nat)} {c : Nat} (m : BufM n buf l c) {k j : Nat} {v : Value} {b : Nat} (hj : mnth l j = some ((k : Int), v, b)) : BufM n (fset buf k none) (mdel l j) c := by
 refine ⟨m.im.del, fun e he => ?_, fun w y hw => ?_⟩
 ·obtain ⟨he, hk⟩ := (m.im.del_mem hj).1 he
  obtain ⟨w, y, h1, h2, h3, h4⟩ := m.ent e he
  refine ⟨w, y, h1, h2, ?_, h4⟩
  unfold fset
  rw [if_neg (by rintro rfl; exact hk h2)]
  exact h3
 ·unfold fset at hw
  by_cases e : w = k
  ·rw [if_pos e] at hw; cases hw
  ·rw [if_neg e] at hw
   obtain ⟨b', hb'⟩ := m.has w y hw
   exact ⟨b', (m.im.del_mem hj).2 ⟨hb', by show (w : Int) ≠ (k : Int); omega⟩⟩
def KeysOf' (l : List (Int × Value × Nat)) (p : Nat → Prop) : Prop := ∀ i : Nat, (∃ e ∈ l, e.1 = (i : Int)) ↔ p i
theorem LinesM.set {n : Nat} {l : List (Int × Value × Nat)} {c j i : Nat} {v : Value} {b : Nat} {p : Nat → Prop} (m : LinesM n l c) (hi : i < n) (hk : KeysOf' l p) (hj : mnth l j = some ((i : Int), v, b)) :
  LinesM n (mset l j ((i : Int), .bool true, b)) c ∧ KeysOf' (mset l j ((i : Int), .bool true, b)) fun x => p x ∨ x = i := by
 have hlt : j < l.length := (List.getElem?_eq_some_iff.1 hj).1
 have e1 : (mset l j ((i : Int), (.bool true : Value), b)).map (·.1) = l.map (·.1) := by
  show (l.set j _).map (·.1) = _
  rw [List.map_set]
  apply List.ext_getElem?
  intro q
  rw [List.getElem?_set]
  split
  ·rename_i h; subst h
   rw [if_pos (by simpa using hlt), List.getElem?_map, show l[j]? = _ from hj]
   rfl
  ·rfl
 refine ⟨⟨m.im.set hj, fun e he => ?_⟩, fun x => ?_⟩
 ·rcases List.mem_or_eq_of_mem_set he with h | h
  ·exact m.ent e h
  ·subst h; exact ⟨i, hi, rfl, rfl⟩
 ·have hm : ∀ l' : List (Int × Value × Nat), (∃ e ∈ l', e.1 = (x : Int)) ↔ (x : Int) ∈ l'.map (·.1) := fun l' => by simp
  rw [hm, e1, ← hm, hk x]
  constructor
  ·exact .inl
  ·rintro (h | rfl)
   ·exact h
   ·exact (hk x).1 ⟨_, List.mem_of_getElem? hj, rfl⟩
theorem LinesM.add {n : Nat} {l : List (Int × Value × Nat)} {c i : Nat} {p : Nat → Prop} (m : LinesM n l c) (hi : i < n) (hn : n ≤ 65536) (hk : KeysOf' l p) (h0 : ∀ (j : Nat) (v : Value) (b : Nat), ¬ mnth l j = some ((i : Int), v, b)) :
  LinesM n (madd l ((i : Int), .bool true, c)) (c + 1) ∧ KeysOf' (madd l ((i : Int), .bool true, c)) fun x => p x ∨ x = i := by
 refine ⟨⟨m.im.add (by omega) h0, fun e he => ?_⟩, fun x => ?_⟩
 ·rcases List.mem_append.1 he with h | h
  ·exact m.ent e h
  ·simp at h; subst h; exact ⟨i, hi, rfl, rfl⟩
 ·constructor
  ·rintro ⟨e, he, hx⟩
   rcases List.mem_append.1 he with h | h
   ·exact .inl ((hk x).1 ⟨e, h, hx⟩)
   ·simp at h; subst h
    right
    have : ((i : Nat) : Int) = (x : Int) := hx
    omega
  ·rintro (h | rfl)
   ·obtain ⟨e, he, hx⟩ := (hk x).2 h
    exact ⟨e, List.mem_append.2 (.inl he), hx⟩
   ·exact ⟨_, List.mem_append.2 (.inr (by simp; rfl)), rfl⟩
section
variable {F : Nat → Prop} {d : Nat} {s : PmS} {Q : Value → Heap → Prop}
theorem PmC.setMedia {h : Heap} {mb r wb bb c i : Nat} {l : List (Int × Value × Nat)} {v : Int} (w : PmC F h d mb r wb bb l c s) : PmC F (h.put mb i [.int .u64 v]) d mb r wb bb l c { s with media := fset s.media i v } := by
 have ne := w.ne
 have hk : ∀ k, k ≠ mb → h.put mb i [.int .u64 v] k = h k := fun k hk => put_other _ _ _ hk
 refine ⟨w.lo, w.hi, w.fd, w.fm, w.fr, w.fw, w.fb, w.ne, w.hd.keep (hk _ ne.1), ?_, by rw [hk _ (Ne.symm ne.2.2.2.2.1), w.hr], w.hw.keep (hk _ (Ne.symm ne.2.2.2.2.2.1)), w.hb.keep (hk _ (Ne.symm ne.2.2.2.2.2.2.1)), w.bm, w.f0, w.f1⟩
 have := w.hm.put i [.int .u64 v]
 rw [setL_one, row_set (Value.int .u64)] at this
 exact this
theorem PmC.other {h : Heap} {mb r wb bb c b : Nat} {l : List (Int × Value × Nat)} {o : Obj} (w : PmC F h d mb r wb bb l c s) (hb : b ≠ d ∧ b ≠ mb ∧ b ≠ r ∧ b ≠ wb ∧ b ≠ bb) : PmC F (upd h b o) d mb r wb bb l c s := by
 have hkk : ∀ k, k ≠ b → upd h b o k = h k := fun k hk => upd_ne hk
 exact ⟨w.lo, w.hi, w.fd, w.fm, w.fr, w.fw, w.fb, w.ne, w.hd.keep (hkk _ hb.1.symm), w.hm.keep (hkk _ hb.2.1.symm), by rw [hkk _ hb.2.2.1.symm, w.hr], w.hw.keep (hkk _ hb.2.2.2.1.symm), w.hb.keep (hkk _ hb.2.2.2.2.symm), w.bm, w.f0, w.f1⟩
theorem K37.J7.c {G : Nat → Prop} {h : Heap} {mb r wb bb c r1 c1 k : Nat} {l l1 : List (Int × Value × Nat)} {p : Nat → Prop} {wa : Option Addr} {wn wc : Nat} {t11 t12 : Int} (w : PmC F h d mb r wb bb l c s) (hFG : ∀ k, F k → G k) (hG : G r1)
  (n1 : r1 ≠ d ∧ r1 ≠ mb ∧ r1 ≠ r ∧ r1 ≠ wb ∧ r1 ≠ bb) (h1 : h r1 = some (mapO (Value.int .i64) l1 c1)) (m : LinesM s.nl l1 c1) (hp : KeysOf' l1 p) (hk : k < 8 * s.nl) {x : Int × Bool} (hx : s.buf k = some x)
  (hq : ∀ h' l' l1' c1', PmC F h' d mb r wb bb l' c { s with buf := fset s.buf k none } → h' r1 = some (mapO (Value.int .i64) l1' c1') → LinesM s.nl l1' c1' → KeysOf' l1' (fun y => p y ∨ y = k / 8) → Step G h G h' → (∀ b, b ≠ r → b ≠ r1 → h' b = h b) →
   K37.L2 (some ⟨d, 0, none⟩) (some r1) wa wn wc t11 (IntKind.i64.wrap (t12 + 1)) h' Q) :
  K37.J7 (some ⟨d, 0, none⟩) (some r1) (k : Int) ((k / 8 : Nat) : Int) wa wn wc t11 t12 h Q := by
 have hi := w.hi
 apply K37.J7.ok
 refine ⟨d, 0, rfl, _, w.hd.cell _, r, rfl, l, c, w.hr, fun j v b hj => ?_, fun hn => ?_⟩
 ·have w1 := w.setBuf (w.bm.del hj)
  have hm1 : upd h r (mapO (Value.int .i64) (mdel l j) c) r1 = some (mapO (Value.int .i64) l1 c1) := by rw [upd_ne n1.2.2.1]; exact h1
  refine ⟨r1, rfl, l1, c1, hm1, fun j1 v1 b1 hj1 => ?_, fun hn1 => ?_⟩
  ·obtain ⟨m2, hp2⟩ := m.set (by omega) hp hj1
   refine hq _ _ _ _ (w1.other n1) (by rw [upd_same]) m2 hp2 ((Step.set (hFG _ w.fr) _).trans (Step.set hG _)) fun b hb hb1 => by rw [upd_ne hb1, upd_ne hb]
  ·obtain ⟨m2, hp2⟩ := m.add (by omega) (by omega) hp hn1
   refine hq _ _ _ _ (w1.other n1) (by rw [upd_same]) m2 hp2 ((Step.set (hFG _ w.fr) _).trans (Step.set hG _)) fun b hb hb1 => by rw [upd_ne hb1, upd_ne hb]
 ·have := w.bm.lacks hn
  rw [hx] at this; cases this
end
end Go.Gb
namespace Go.Gb
open Go.Proofs IntWalk
def lmedia (s : PmS) (ws : List Nat) : Nat → Int := fun w => if w ∈ ws ∧ s.bad (w / 8) = false then (match s.buf w with | some x => x.1 | none => 0) else s.media w
def lbuf (s : PmS) (ws : List Nat) : Nat → Option (Int × Bool) := fun w => if w ∈ ws then none else s.buf w
def lwear (s : PmS) (ws : List Nat) : Nat → Int := fun i => if ∃ w ∈ ws, w / 8 = i then IntKind.wrap .i64 (s.wear i + 1) else s.wear i
def plast (s : PmS) (ws : List Nat) : PmS := { s with media := lmedia s ws, buf := lbuf s ws, wear := lwear s ws }
def WordsAt (h : Heap) (wa : Option Addr) (ws : List Nat) (N : Nat → Prop) : Prop := ∀ k, k < ws.length → ∃ b o, wa = some ⟨b, o, none⟩ ∧ N b ∧ h.cell b (o + k * 1) = some (.int .i64 ((ws.getD k 0 : Nat) : Int))
section
variable {F : Nat → Prop} {d : Nat} {s : PmS} {Q : QT}
theorem lmedia_step {ws : List Nat} {k : Nat} {x : Int × Bool} (hk : k < ws.length) (hb : s.bad (ws.getD k 0 / 8) = false) (hx : s.buf (ws.getD k 0) = some x) :
  fset (lmedia s (ws.take k)) (ws.getD k 0) x.1 = lmedia s (ws.take (k + 1)) := by
 have ht : ws.take (k + 1) = ws.take k ++ [ws.getD k 0] := by rw [List.take_succ, List.getD_eq_getElem?_getD]; simp [hk]
 funext w
 unfold fset lmedia
 rw [ht]
 by_cases e : w = ws.getD k 0
 ·rw [if_pos e, if_pos ⟨by rw [e]; simp, by rw [e]; exact hb⟩, e, hx]
 ·rw [if_neg e]
  have : (w ∈ ws.take k ++ [ws.getD k 0]) ↔ w ∈ ws.take k := by simp only [List.mem_append, List.mem_singleton]; exact ⟨fun h => h.resolve_right e, .inl⟩
  simp only [this]
theorem lmedia_bad {ws : List Nat} {k : Nat} (hk : k < ws.length) (hb : s.bad (ws.getD k 0 / 8) = true) : lmedia s (ws.take k) = lmedia s (ws.take (k + 1)) := by
 have ht : ws.take (k + 1) = ws.take k ++ [ws.getD k 0] := by rw [List.take_succ, List.getD_eq_getElem?_getD]; simp [hk]
 funext w
 unfold lmedia
 rw [ht]
 by_cases e : w = ws.getD k 0
 ·rw [if_neg (by rintro ⟨_, h⟩; rw [e, hb] at h; cases h), if_neg (by rintro ⟨_, h⟩; rw [e, hb] at h; cases h)]
 ·have : (w ∈ ws.take k ++ [ws.getD k 0]) ↔ w ∈ ws.take k := by simp only [List.mem_append, List.mem_singleton]; exact ⟨fun h => h.resolve_right e, .inl⟩
  simp only [this]
theorem lbuf_step {ws : List Nat} {k : Nat} (hk : k < ws.length) : fset (lbuf s (ws.take k)) (ws.getD k 0) none = lbuf s (ws.take (k + 1)) := by
 have ht : ws.take (k + 1) = ws.take k ++ [ws.getD k 0] := by rw [List.take_succ, List.getD_eq_getElem?_getD]; simp [hk]
 funext w
 unfold fset lbuf
 rw [ht]
 by_cases e : w = ws.getD k 0
 ·rw [if_pos e, if_pos (by rw [e]; simp)]
 ·rw [if_neg e]
  have : (w ∈ ws.take k ++ [ws.getD k 0]) ↔ w ∈ ws.take k := by simp only [List.mem_append, List.mem_singleton]; exact ⟨fun h => h.resolve_right e, .inl⟩
  simp only [this]
theorem K37.L2.c {G : Nat → Prop} {mb r wb bb c r1 wc : Nat} {ws : List Nat} {wa : Option Addr} (hw : ∀ w ∈ ws, w < 8 * s.nl ∧ s.buf w ≠ none) (hnd : ws.Nodup) (hn : ws.length < 1000000) (hFG : ∀ k, F k → G k) (hG : G r1)
  (n1 : r1 ≠ d ∧ r1 ≠ mb ∧ r1 ≠ r ∧ r1 ≠ wb ∧ r1 ≠ bb) : ∀ (j k : Nat) (h : Heap) (l l1 : List (Int × Value × Nat)) (c1 : Nat), k + j = ws.length →
  PmC F h d mb r wb bb l c { s with media := lmedia s (ws.take k), buf := lbuf s (ws.take k) } → h r1 = some (mapO (Value.int .i64) l1 c1) → LinesM s.nl l1 c1 → KeysOf' l1 (fun i => ∃ w ∈ ws.take k, w / 8 = i) →
  WordsAt h wa ws (fun b => b ≠ mb ∧ b ≠ r ∧ b ≠ r1) →
  (∀ h' l' l1' c1', PmC F h' d mb r wb bb l' c { s with media := lmedia s ws, buf := lbuf s ws } → h' r1 = some (mapO (Value.int .i64) l1' c1') → LinesM s.nl l1' c1' → KeysOf' l1' (fun i => ∃ w ∈ ws, w / 8 = i) → Step G h G h' →
   ∀ b, h' b = none → K37.L11 (some ⟨d, 0, none⟩) b (upd h' b (iterO r1 c1' [] c1')) Q) →
  K37.L2 (some ⟨d, 0, none⟩) (some r1) wa ws.length wc (ws.length : Int) (k : Int) h Q := by
 intro j
 induction j with
 | zero =>
  intro k h l l1 c1 hk w h1 m hp hwa hq
  have e : k = ws.length := by omega
  subst e
  rw [List.take_length] at w hp
  apply K37.L2.ok
  refine xsIf_f (by simp) ⟨r1, rfl, l1, c1, h1, fun b hb => hq h l l1 c1 w h1 m hp (Step.refl _ _) b hb⟩
 | succ j ih =>
  intro k h l l1 c1 hk w h1 m hp hwa hq
  apply K37.L2.ok
  have hk' : k < ws.length := by omega
  have hmem : ws.getD k 0 ∈ ws := by rw [List.getD_eq_getElem?_getD]; simp [hk']
  have hntake : ws.getD k 0 ∉ ws.take k := by
   intro hc
   obtain ⟨i, hi, hie⟩ := List.mem_iff_getElem.1 hc
   have hi' : i < k := by simp at hi; omega
   have hn' := List.pairwise_iff_getElem.1 (List.nodup_iff_pairwise_ne.1 hnd)
   refine hn' i k (by omega) hk' hi' ?_
   rw [List.getElem_take] at hie
   rw [hie, List.getD_eq_getElem?_getD]; simp [hk']
  obtain ⟨hlt, hbuf⟩ := hw _ hmem
  obtain ⟨x, hx⟩ := Option.ne_none_iff_exists'.1 hbuf
  have hx' : lbuf s (ws.take k) (ws.getD k 0) = some x := by unfold lbuf; rw [if_neg hntake]; exact hx
  obtain ⟨b, o, rfl, hnb, hcell⟩ := hwa k hk'
  have hi : s.nl ≤ 8192 := w.hi
  have eq8 : iquo .i64 ((ws.getD k 0 : Nat) : Int) 8 = ((ws.getD k 0 / 8 : Nat) : Int) := by rw [iquo_i64 (by omega) (by omega) (by omega)]; omega
  have ht : ws.take (k + 1) = ws.take k ++ [ws.getD k 0] := by rw [List.take_succ, List.getD_eq_getElem?_getD]; simp [hk']
  have e2 : IntKind.i64.wrap ((k : Int) + 1) = ((k + 1 : Nat) : Int) := by rw [i64_in _ (by omega)]; omega
  have hb8 : ws.getD k 0 / 8 < s.nl := by omega
  refine xsIf_t (decide_eq_true (by omega)) ⟨⟨by omega, by omega⟩, b, o, rfl, _, by rw [show (k : Int).toNat = k by omega]; exact hcell, d, 0, rfl, _, _, _, w.hd.cell _, ?_⟩
  rw [eq8]
  have go : ∀ (h2 : Heap), PmC F h2 d mb r wb bb l c { s with media := lmedia s (ws.take (k + 1)), buf := lbuf s (ws.take k) } → h2 r1 = some (mapO (Value.int .i64) l1 c1) → Step G h G h2 → (∀ q, q ≠ mb → h2 q = h q) →
    K37.J7 (some ⟨d, 0, none⟩) (some r1) ((ws.getD k 0 : Nat) : Int) ((ws.getD k 0 / 8 : Nat) : Int) (some ⟨b, o, none⟩) ws.length wc (ws.length : Int) (k : Int) h2 Q := by
   intro h2 w2 h21 st hsame
   refine K37.J7.c w2 hFG hG n1 h21 m hp hlt hx' fun h' l' l1' c1' w' h1' m' hp' st' hsame' => ?_
   rw [e2]
   refine ih (k + 1) h' l' l1' c1' (by omega) ?_ h1' m' ?_ ?_ fun h'' l'' l1'' c1'' w'' h1'' m'' hp'' st'' => hq h'' l'' l1'' c1'' w'' h1'' m'' hp'' ((st.trans st').trans st'')
   ·rw [← lbuf_step hk']; exact w'
   ·intro i
    rw [hp' i, ht]
    simp only [List.mem_append, List.mem_singleton]
    constructor
    ·rintro (⟨q, hq1, hq2⟩ | h)
     ·exact ⟨q, .inl hq1, hq2⟩
     ·exact ⟨_, .inr rfl, h.symm⟩
    ·rintro ⟨q, hq1 | hq1, hq2⟩
     ·exact .inl ⟨q, hq1, hq2⟩
     ·right; rw [← hq2, hq1]
   ·intro i hi
    obtain ⟨b', o', e', hb', hc'⟩ := hwa i hi
    cases e'
    exact ⟨b, o, rfl, hnb, by rw [cell_same (hsame' b hnb.2.1 hnb.2.2), cell_same (hsame b hnb.1)]; exact hc'⟩
  refine ⟨⟨by omega, by show ((ws.getD k 0 / 8 : Nat) : Int) < (s.nl : Int); omega⟩, bb, 0, rfl, _, by rw [w.hb.cell, Nat.zero_add, Nat.mul_one]; exact row_get _ (by show _ < s.nl; omega), xsIf_intro (fun hb => ?_) (fun hb => ?_)⟩
  ·have et : ((ws.getD k 0 / 8 : Nat) : Int).toNat = ws.getD k 0 / 8 := Int.toNat_natCast _
   rw [et, Bool.not_eq_true'] at hb
   have hb : s.bad (ws.getD k 0 / 8) = false := hb
   have store : ∀ v : Int, v = x.1 → (0 ≤ ((ws.getD k 0 : Nat) : Int) ∧ ((ws.getD k 0 : Nat) : Int) < ((8 * s.nl : Nat) : Int)) ∧ atBase (some (⟨mb, 0, none⟩ : Addr)) fun (b2 o2 : Nat) =>
     h.can b2 (o2 + ((ws.getD k 0 : Nat) : Int).toNat * 1) 1 ∧ K37.J7 (some ⟨d, 0, none⟩) (some r1) ((ws.getD k 0 : Nat) : Int) ((ws.getD k 0 / 8 : Nat) : Int) (some ⟨b, o, none⟩) ws.length wc (ws.length : Int) (k : Int) (h.put b2 (o2 + ((ws.getD k 0 : Nat) : Int).toNat * 1) [.int .u64 v]) Q := by
    rintro v rfl
    refine ⟨⟨by omega, by omega⟩, mb, 0, rfl, w.hm.can (by rw [List.length_map, List.length_range]; show _ ≤ 8 * s.nl; omega), ?_⟩
    have ei : 0 + ((ws.getD k 0 : Nat) : Int).toNat * 1 = ws.getD k 0 := by omega
    rw [ei]
    have w2 := w.setMedia (i := ws.getD k 0) (v := x.1)
    refine go _ ?_ (by rw [put_other _ _ _ n1.2.1]; exact h1) (Step.put (hFG _ w.fm) _ _) fun q hq => put_other _ _ _ hq
    rw [← lmedia_step hk' hb hx]; exact w2
   refine ⟨d, 0, rfl, d, 0, rfl, _, w.hd.cell _, ⟨_, _, _, w.hd.cell _, r, rfl, l, c, w.hr, fun j v b' hj => ?_, fun hn' => ?_⟩, r, rfl, l, c, w.hr, fun j v b' hj => ?_, fun hn' => ?_⟩
   ·obtain ⟨y, hy, hv⟩ := w.bm.found hj
    have hy : lbuf s (ws.take k) (ws.getD k 0) = some y := hy
    rw [hx'] at hy; cases hy
    exact ⟨_, _, hv, store _ rfl⟩
   ·have := w.bm.lacks hn'
    have this : lbuf s (ws.take k) (ws.getD k 0) = none := this
    rw [hx'] at this; cases this
   ·obtain ⟨y, hy, hv⟩ := w.bm.found hj
    have hy : lbuf s (ws.take k) (ws.getD k 0) = some y := hy
    rw [hx'] at hy; cases hy
    exact ⟨_, _, hv, _, _, _, w.hd.cell _, store _ rfl⟩
   ·have := w.bm.lacks hn'
    have this : lbuf s (ws.take k) (ws.getD k 0) = none := this
    rw [hx'] at this; cases this
  ·have et : ((ws.getD k 0 / 8 : Nat) : Int).toNat = ws.getD k 0 / 8 := Int.toNat_natCast _
   rw [et, Bool.not_eq_false'] at hb
   have hb : s.bad (ws.getD k 0 / 8) = true := hb
   refine go h ?_ h1 (Step.refl _ _) fun _ _ => rfl
   rw [← lmedia_bad hk' hb]; exact w
theorem wearA_lwear {l : List (Int × Value × Nat)} {ws : List Nat} (h : KeysOf' l (fun i => ∃ w ∈ ws, w / 8 = i)) : wearA s.wear l = lwear s ws := by
 funext i
 unfold wearA lwear
 simp only [h i]
theorem K37.c {h : Heap} {wc : Nat} {ws : List Nat} {wa : Option Addr} (w : PmD F h d s) (hw : ∀ w ∈ ws, w < 8 * s.nl ∧ s.buf w ≠ none) (hnd : ws.Nodup) (hn : ws.length < 1000000) (hwa : WordsAt h wa ws (fun b => ¬ F b ∧ h b ≠ none))
  (hq : ∀ h', PmD F h' d (plast s ws) → Step F h F h' → Q (.tuple #[]) h') : CT 37 #[.pointer (some ⟨d, 0, none⟩), .slice wa ws.length wc] h Q := by
 obtain ⟨mb, r, wb, bb, l, c, w⟩ := w
 apply K37.ok
 intro b hb
 have live : ∀ {k : Nat}, h k ≠ none → b ≠ k := fun hk e => hk (by rw [← e]; exact hb)
 have hr : h r ≠ none := by rw [w.hr]; simp
 have n1 : b ≠ d ∧ b ≠ mb ∧ b ≠ r ∧ b ≠ wb ∧ b ≠ bb := ⟨live w.hd.ne, live w.hm.ne, live hr, live w.hw.ne, live w.hb.ne⟩
 have w1 : PmC F (upd h b (Obj.map #[] 0)) d mb r wb bb l c s := w.other n1
 have e0 : lmedia s (ws.take 0) = s.media := by funext q; unfold lmedia; rw [if_neg (by rintro ⟨h, _⟩; simp at h)]
 have e1 : lbuf s (ws.take 0) = s.buf := by funext q; unfold lbuf; rw [if_neg (by simp)]
 refine K37.L2.c (G := fun k => F k ∨ k = b) hw hnd hn (fun k hk => .inl hk) (.inr rfl) n1 ws.length 0 _ l [] 0 (by omega) (by rw [e0, e1]; exact w1) (by rw [upd_same]; rfl) ⟨⟨by simp, by simp, by simp, by simp⟩, by simp⟩ (fun i => by simp) (fun k hk => ?_) ?_
 ·obtain ⟨b', o, e, hnb, hc⟩ := hwa k hk
  have hbb : b' ≠ b := (live hnb.2).symm
  exact ⟨b', o, e, ⟨fun e => hnb.1 (e ▸ w.fm), fun e => hnb.1 (e ▸ w.fr), hbb⟩, by rw [cell_same (upd_ne hbb)]; exact hc⟩
 ·intro h2 l2 l1 c1 w2 hr1 m hp st b2 hb2
  have live2 : ∀ {k : Nat}, h2 k ≠ none → b2 ≠ k := fun hk e => hk (by rw [← e]; exact hb2)
  have hr2 : h2 r ≠ none := by rw [w2.hr]; simp
  have n2 : b2 ≠ d ∧ b2 ≠ mb ∧ b2 ≠ r ∧ b2 ≠ wb ∧ b2 ≠ bb := ⟨live2 w2.hd.ne, live2 w2.hm.ne, live2 hr2, live2 w2.hw.ne, live2 w2.hb.ne⟩
  have n3 : b2 ≠ b := live2 (by rw [hr1]; simp)
  refine K37.L11.c (G := fun k => (F k ∨ k = b) ∨ k = b2) (l := l2) (c := c) (s := { s with media := lmedia s ws, buf := lbuf s ws }) (.inr rfl) (fun k hk => .inl (.inl hk)) m n2 n1.2.2.2.1 n3 _ [] _ (Nat.le_refl _) (by rw [upd_same]) (by rw [upd_ne n3.symm]; exact hr1) ?_ fun h3 w3 st3 => ?_
  ·rw [wearN_nil]; exact w2.other n2
  ·refine hq h3 ⟨mb, r, wb, bb, l2, c, ?_⟩ ?_
   ·have e : wearA s.wear l1 = lwear s ws := wearA_lwear hp
    have w3 : PmC F h3 d mb r wb bb l2 c { s with media := lmedia s ws, buf := lbuf s ws, wear := wearA s.wear l1 } := w3
    rw [e] at w3
    exact w3
   ·exact ((((Step.new hb _).trans st).trans (Step.new hb2 _)).trans st3).shrink fun k hk => .inl (.inl hk)
end
end Go.Gb
namespace Go.Gb
open Go.Proofs
theorem sortsI (m : Nat) : AnyZI.SortsIn Tryz.prog Tryz.sortedI_ren Fence.wide m :=
  ⟨fun blk off cap ss W hH hblk hsz => callsIn_wide.2 (AnyM.slices_Sort_int Tryz.sortI blk off cap ss W hH hblk hsz),
   fun p cap W => callsIn_wide.2 (AnyM.slices_Sort_int_none Tryz.sortI p cap W)⟩
theorem sortedI.c {h : Heap} {r Bm c : Nat} {T : TypeId} {l : List (Int × Value × Nat)} (hB : h Bm = some (.cells #[.map (some r)] T (0, 0))) (hm : h r = some (mapO (Value.int .i64) l c)) (m : IMap l c) (hn : l.length ≤ 10000000000000) :
  C Tryz.prog 63 #[.func (.func 102) #[] #[.pointer (some ⟨Bm, 0, none⟩)]] h fun v h' => ∃ a n cp, v = .slice a n cp ∧ n = l.length ∧ Sl (fun k => h k = none) h' 3 1 a n cp ((sortZ (keysOf l)).map (Value.int .i64)) ∧ Part h h' :=
 C_sorted_keys (ρ := Tryz.sortedI_ren) (ρk := Tryz.keysP_ren) Tryz.sortedI Tryz.keysP sortsI (enters_of Tryz.func101 (by kernel_rfl) rfl) (enters_of Tryz.func102 (by kernel_rfl) rfl) Tryz.keysP.t26 hB hm m hn
end Go.Gb
namespace Go.Gb
open Go.Proofs IntWalk
def pend (s : PmS) : List Nat := (List.range (8 * s.nl)).filter fun w => (s.buf w).isSome
abbrev rowN (l : List Nat) : List Value := l.map fun (w : Nat) => .int .i64 (w : Int)
theorem pend_mem {s : PmS} {w : Nat} : w ∈ pend s ↔ w < 8 * s.nl ∧ s.buf w ≠ none := by
 unfold pend
 rw [List.mem_filter, List.mem_range, Option.isSome_iff_ne_none]
theorem pend_nodup (s : PmS) : (pend s).Nodup := by unfold pend; exact List.Nodup.sublist List.filter_sublist List.nodup_range
theorem pend_length (s : PmS) : (pend s).length ≤ 8 * s.nl := by
 unfold pend
 exact Nat.le_trans (List.length_filter_le _ _) (by simp)
theorem pend_sorted (s : PmS) : (pend s).Pairwise (· < ·) := List.Pairwise.sublist List.filter_sublist List.pairwise_lt_range
theorem keys_perm {s : PmS} {l : List (Int × Value × Nat)} {c : Nat} (m : BufM (8 * s.nl) s.buf l c) : (keysOf l).Perm ((pend s).map fun (w : Nat) => (w : Int)) := by
 refine (List.perm_ext_iff_of_nodup m.im.kn ?_).2 fun x => ?_
 ·rw [List.nodup_iff_pairwise_ne, List.pairwise_map]
  exact (List.nodup_iff_pairwise_ne.1 (pend_nodup s)).imp fun h e => h (by omega)
 ·constructor
  ·intro hx
   obtain ⟨e, he, rfl⟩ := List.mem_map.1 hx
   obtain ⟨w, y, h1, h2, h3, _⟩ := m.ent e he
   exact List.mem_map.2 ⟨w, pend_mem.2 ⟨h1, by rw [h3]; simp⟩, h2.symm⟩
  ·intro hx
   obtain ⟨w, hw, rfl⟩ := List.mem_map.1 hx
   obtain ⟨_, h2⟩ := pend_mem.1 hw
   obtain ⟨y, hy⟩ := Option.ne_none_iff_exists'.1 h2
   obtain ⟨b, hb⟩ := m.has w y hy
   exact List.mem_map.2 ⟨_, hb, rfl⟩
theorem keys_sorted {s : PmS} {l : List (Int × Value × Nat)} {c : Nat} (m : BufM (8 * s.nl) s.buf l c) : sortZ (keysOf l) = (pend s).map fun (w : Nat) => (w : Int) := by
 have hp := keys_perm m
 have tr : ∀ a b c : Int, decide (a ≤ b) = true → decide (b ≤ c) = true → decide (a ≤ c) = true := fun a b c h1 h2 => by simp only [decide_eq_true_eq] at *; omega
 have to : ∀ a b : Int, (decide (a ≤ b) || decide (b ≤ a)) = true := fun a b => by simp only [Bool.or_eq_true, decide_eq_true_eq]; omega
 refine List.Perm.eq_of_pairwise (le := fun a b => decide (a ≤ b) = true) (fun a b _ _ h1 h2 => ?_) (List.pairwise_mergeSort tr to _) ?_ ((List.mergeSort_perm _ _).trans hp)
 ·simp only [decide_eq_true_eq] at h1 h2; omega
 ·rw [List.pairwise_map]
  exact (pend_sorted s).imp fun h => by simp only [decide_eq_true_eq]; omega
section
variable {F : Nat → Prop} {h : Heap} {d : Nat} {s : PmS} {Q : QT}
theorem K36.c (w : PmD F h d s) (hq : ∀ a cp h', Part h h' → Sl (fun k => h k = none) h' 3 1 a (pend s).length cp (rowN (pend s)) → Q (.slice a (pend s).length cp) h') :
  CT 36 #[.pointer (some ⟨d, 0, none⟩)] h Q := by
 obtain ⟨mb, r, wb, bb, l, c, w⟩ := w
 have hi := w.hi
 have hlen : l.length = (pend s).length := by have := (keys_perm w.bm).length_eq; simpa using this
 have hle := pend_length s
 apply K36.ok
 refine xsIf_f rfl ⟨d, 0, rfl, _, w.hd.cell _, ?_⟩
 apply K64.ok
 intro b hb
 have hrn : r ≠ b := fun e => by have := w.hr; rw [e, hb] at this; cases this
 refine ⟨_, rfl, (sortedI.c (Bm := b) (r := r) (l := l) (c := c) (by rw [upd_same]) (by rw [upd_ne hrn]; exact w.hr) w.bm.im (by omega)).mono ?_⟩
 rintro v h' ⟨a, n, cp, rfl, rfl, hsl, hp⟩
 rw [keys_sorted w.bm, List.map_map] at hsl
 have hpart : Part h h' := fun k o hk => hp k o (by rw [upd_ne (fun e => by rw [e, hb] at hk; cases hk)]; exact hk)
 refine ⟨a, l.length, cp, rfl, ?_⟩
 rw [hlen] at hsl ⊢
 refine hq a cp h' hpart (hsl.keep (fun k hk => ?_) fun _ _ _ => rfl)
 by_cases e : k = b
 ·rw [e]; exact hb
 ·rw [upd_ne e] at hk; exact hk
end
end Go.Gb
namespace Go.Gb
open Go.Proofs IntWalk
section
variable {h : Heap} {Q : QT} {cp : Nat} {ws : List Nat} {p : Nat → Bool} {del : Nat} {da dc : Array Value} {a : Option Addr}
theorem K182.c (hg : goOk Tryz.prog del = true) (hn : ws.length < 1000000) (hcp : ws.length ≤ cp)
  (ha : ws = [] ∨ ∃ b cs, a = some ⟨b, 0, none⟩ ∧ Blk h b cs ∧ cs.length = cp ∧ Lasts cs 0 ws ∧ DelOk h b ws p del da dc)
  (hq : ∀ h' b cs', a = some ⟨b, 0, none⟩ → Blk h' b cs' → Firsts cs' (ws.filter fun w => !p w).length (ws.filter fun w => !p w) → (∀ k, k ≠ b → h' k = h k) → Q (.slice a (ws.filter fun w => !p w).length cp) h')
  (hq0 : ws = [] → Q (.slice a 0 cp) h) : CT 182 #[.slice a ws.length cp, .func (.func del) da dc] h Q := by
 apply K182.ok
 apply K195.ok
 rcases ha with rfl | ⟨b, cs, rfl, hb, hlen, hl, hd⟩
 ·apply K195.L2.ok
  exact xsIf_f (by simp) ⟨_, rfl, xsIf_t (by simp) (hq0 rfl)⟩
 ·refine K195.L2.c (p := p) hg hd hb hl hn ws.length 0 (by omega) (by simp) (fun i hi hpi hbef => ⟨_, rfl, xsIf_f (decide_eq_false (by omega)) ?_⟩) (fun hall => ⟨_, rfl, xsIf_t (by simp) ?_⟩)
  ·have e2 : IntKind.i64.wrap ((i : Int) + 1) = ((i + 1 : Nat) : Int) := by rw [i64_in _ (by omega)]; omega
   rw [e2]
   have hf0 : (ws.take i).filter (fun w => !p w) = ws.take i := List.filter_eq_self.2 fun w hw => by rw [hbef w hw]; rfl
   have hfi : (ws.take (i + 1)).filter (fun w => !p w) = ws.take i := by
    rw [take_getD hi, List.filter_append, hf0]
    have : List.filter (fun w => !p w) [ws.getD i 0] = [] := by rw [List.filter_cons, hpi]; rfl
    rw [this, List.append_nil]
   refine K182.L5.c (h := h) (b0 := b) hg hd hn hcp (fun h' cs' h1 h2 h3 => hq h' b cs' rfl h1 h2 h3) (ws.length - (i + 1)) (i + 1) i h cs (by omega) (by omega) hb hlen ?_ (fun k h1 h2 => hl k (by omega) h2) (fun _ _ => rfl)
   rw [hfi]
   refine ⟨by rw [List.length_take]; omega, fun k hk => ?_⟩
   rw [List.length_take] at hk
   rw [hl k (by omega) (by omega), List.getD_eq_getElem?_getD (l := ws.take i), List.getElem?_take, if_pos (by omega), ← List.getD_eq_getElem?_getD]
  ·have hf : ws.filter (fun w => !p w) = ws := List.filter_eq_self.2 fun w hw => by rw [hall w hw]; rfl
   have := hq h b cs rfl hb (by rw [hf]; exact ⟨rfl, fun k hk => hl k (by omega) hk⟩) (fun _ _ => rfl)
   rw [hf] at this
   exact this
end
section
variable {F : Nat → Prop} {h : Heap} {d : Nat} {s : PmS} {Q : QT}
def unflushed (s : PmS) (w : Nat) : Bool := match s.buf w with | some x => !x.2 | none => true
theorem K183.c {k t1 : Nat} (w : PmD F h d s) (h1 : h.cell t1 0 = some (.pointer (some ⟨d, 0, none⟩))) (hq : Q (.bool (unflushed s k)) h) :
  CT 183 #[.int .i64 (k : Int), .pointer (some ⟨t1, 0, none⟩)] h Q := by
 obtain ⟨mb, r, wb, bb, l, c, w⟩ := w
 apply K183.ok
 unfold unflushed at hq
 refine ⟨_, h1, d, 0, rfl, _, w.hd.cell _, r, rfl, l, c, w.hr, fun j v b hj => ?_, fun hn => ?_⟩
 ·obtain ⟨x, hx, rfl⟩ := w.bm.found hj
  rw [hx] at hq
  exact ⟨_, _, rfl, hq⟩
 ·rw [w.bm.lacks hn] at hq
  exact hq
def flushed (s : PmS) : List Nat := (pend s).filter fun w => !unflushed s w
def pfence (s : PmS) : Int × PmS := if (pbegin s 0 1).1 = 0 then (0, plast (pbegin s 0 1).2 (flushed (pbegin s 0 1).2)) else pbegin s 0 1
theorem K181.c {t0 : Nat} (w : PmD F h d s) (hlv : Live F h) (h0 : h.cell t0 0 = some (.pointer (some ⟨d, 0, none⟩))) (ht : h t0 ≠ none)
  (hq : ∀ h', PmD F h' d (plast s (flushed s)) → Step F h F h' → Q (.tuple #[]) h') : CT 181 #[.pointer (some ⟨t0, 0, none⟩)] h Q := by
 apply K181.ok
 have hnl : s.nl ≤ 8192 := by obtain ⟨mb, r, wb, bb, l, c, w⟩ := w; exact w.hi
 have hpl := pend_length s
 have key : ∀ (a : Option Addr) (cp : Nat) (h' : Heap), Part h h' → Sl (fun k => h k = none) h' 3 1 a (pend s).length cp (rowN (pend s)) →
   CT 182 #[.slice a (pend s).length cp, .func (.func 183) #[] #[.pointer (some ⟨t0, 0, none⟩)]] h' fun r h'' => ∃ (x : Option Addr) (n m : Nat), r = .slice x n m ∧ h''.cell t0 0 = some (.pointer (some ⟨d, 0, none⟩)) ∧ CT 37 #[.pointer (some ⟨d, 0, none⟩), .slice x n m] h'' fun _ h3 => Q (.tuple #[]) h3 := by
  intro a cp h' hp hsl
  have st : Step F h F h' := Step.of_part hp
  have w' : PmD F h' d s := w.keep fun k hk hn => part_live hp hn
  have hcell' : h'.cell t0 0 = some (.pointer (some ⟨d, 0, none⟩)) := by rw [cell_same (part_live hp ht)]; exact h0
  have hmemf : ∀ w ∈ flushed s, w < 8 * s.nl ∧ s.buf w ≠ none := fun w hw => pend_mem.1 (List.mem_filter.1 hw).1
  have hndf : (flushed s).Nodup := (pend_nodup s).sublist List.filter_sublist
  have hlenf : (flushed s).length < 1000000 := by have : (flushed s).length ≤ (pend s).length := List.length_filter_le _ _; omega
  have empty : pend s = [] → CT 37 #[.pointer (some ⟨d, 0, none⟩), .slice a 0 cp] h' fun _ h3 => Q (.tuple #[]) h3 := fun e => by
   have ef : flushed s = [] := by unfold flushed; rw [e]; rfl
   have := K37.c (wc := cp) (wa := a) (Q := fun _ h3 => Q (.tuple #[]) h3) w' hmemf hndf hlenf (fun k hk => by rw [ef] at hk; simp at hk) fun h3 w3 st3 => hq h3 w3 (st.trans st3)
   rw [ef] at this
   exact this
  rcases hsl.place with ⟨rfl, hn0, rfl⟩ | ⟨b, cs, rfl, hbn, hbc, hsz, hle, htk⟩
  ·have e : pend s = [] := List.eq_nil_of_length_eq_zero hn0
   exact K182.c (p := unflushed s) (by kernel_rfl) (by omega) (by omega) (.inl e) (fun h2 b cs' h1 _ _ _ => by cases h1) fun _ => ⟨_, _, _, rfl, hcell', empty e⟩
  ·have hbF : ¬ F b := fun hf => hlv b hf hbn
   have hbt : t0 ≠ b := fun e => ht (by rw [e]; exact hbn)
   have hl : Lasts cs.toList 0 (pend s) := fun k _ hk => by
    have h2 : (cs.toList.take ((pend s).length * 1))[k]? = (rowN (pend s))[k]? := by rw [htk]
    rw [List.getElem?_take, if_pos (by omega)] at h2
    rw [h2, List.getElem?_map, List.getD_eq_getElem?_getD]
    simp [hk]
   have same : ∀ h2 : Heap, (∀ k, k ≠ b → h2 k = h' k) → PmD F h2 d s ∧ h2.cell t0 0 = some (.pointer (some ⟨d, 0, none⟩)) := fun h2 hs =>
    ⟨w'.keep fun k hk _ => hs k (fun e => hbF (e ▸ hk)), by rw [cell_same (hs t0 hbt)]; exact hcell'⟩
   refine K182.c (p := unflushed s) (by kernel_rfl) (by omega) hle (.inr ⟨b, cs.toList, rfl, ⟨_, by rw [hbc]⟩, by rw [Array.length_toList, hsz]; omega, hl, fun h2 Q' w1 hw1 hs hq' => ?_⟩) (fun h2 b' cs' hb' hblk hfirst hs => ?_) fun e => ⟨_, _, _, rfl, hcell', empty e⟩
   ·obtain ⟨w2, hc2⟩ := same h2 hs
    exact K183.c w2 hc2 hq'
   ·cases hb'
    obtain ⟨w2, hc2⟩ := same h2 hs
    refine ⟨_, _, _, rfl, hc2, K37.c w2 hmemf hndf hlenf (fun k hk => ⟨b, 0, rfl, ⟨hbF, hblk.ne⟩, ?_⟩) fun h3 w3 st3 => hq h3 w3 ?_⟩
    ·rw [hblk.cell, show 0 + k * 1 = k by omega]
     exact hfirst.2 k hk
    ·have hs2 : ∀ k, h k ≠ none → h2 k = h k := fun k hk => (hs k (fun e => hk (by rw [e]; exact hbn))).trans (part_live hp hk)
     have hst2 : Step F h F h2 := ⟨fun k _ hk => hs2 k hk, fun _ hk => .inl hk, fun k hk => by rw [hs2 k hk]; exact hk, fun hl k hk => by rw [hs2 k (hl k hk)]; exact hl k hk⟩
     exact hst2.trans st3
 refine ⟨_, h0, ⟨_, h0, K36.c w fun a cp h' hp hsl => ⟨_, _, _, rfl, (key a cp h' hp hsl).mono ?_⟩⟩, K36.c w fun a cp h' hp hsl => ⟨_, _, _, rfl, ⟨_, by rw [cell_same (part_live hp ht)]; exact h0, (key a cp h' hp hsl).mono ?_⟩, (key a cp h' hp hsl).mono ?_⟩⟩
 ·rintro v h2 ⟨x, n, m, rfl, _, hc⟩; exact ⟨_, _, _, rfl, hc⟩
 ·rintro v h2 ⟨x, n, m, rfl, _, hc⟩; exact ⟨_, _, _, rfl, hc⟩
 ·rintro v h2 ⟨x, n, m, rfl, hc0, hc⟩; exact ⟨_, _, _, rfl, _, hc0, hc⟩
end
end Go.Gb
namespace Go.Gb
open Go.Proofs IntWalk
section
variable {F : Nat → Prop} {h : Heap} {d : Nat} {s : PmS} {Q : QT}
theorem K153.c (w : PmD F h d s) (hlv : Live F h) (hq : ∀ h', PmD F h' d (pfence s).2 → Step F h F h' → Q (.int .i64 (pfence s).1) h') : CT 153 #[.pointer (some ⟨d, 0, none⟩)] h Q := by
 apply K153.ok
 intro b hb
 obtain ⟨h3, e3⟩ : ∃ h3, upd h b (Obj.cells #[Value.pointer (some ⟨d, 0, none⟩)] 23 (0, 0)) = h3 := ⟨_, rfl⟩
 have s3 : Step F h F h3 := by rw [← e3]; exact Step.lost hb _
 have c0 : h3.cell b 0 = some (.pointer (some ⟨d, 0, none⟩)) := by rw [← e3]; exact upd_cell
 have hk3 : ∀ j, h j ≠ none → h3 j = h j := by intro j hj; rw [← e3, upd_ne]; intro e; subst e; exact hj hb
 have hbn : h3 b ≠ none := by rw [← e3, upd_same]; simp
 rw [e3]
 refine ⟨_, c0, ?_⟩
 obtain ⟨mb, r, wb, bb, l, c, w⟩ := w
 have w3 := w.keep (h' := h3) fun j _ hj => hk3 j hj
 have nb : b ≠ d := fun e => w.hd.ne (by rw [← e]; exact hb)
 refine K149.c (by kernel_rfl) w3 (fun hne h' w' st _ => ⟨_, rfl, ?_⟩) (fun h0 h' w' st hk => ?_)
 ·have e : pfence s = pbegin s 0 1 := by unfold pfence; rw [if_neg hne]
  have := hq h' (by rw [e]; exact ⟨mb, r, wb, bb, l, c, w'⟩) (s3.trans st)
  rw [e] at this; exact this
 ·have e : pfence s = (0, plast (pbegin s 0 1).2 (flushed (pbegin s 0 1).2)) := by unfold pfence; rw [if_pos h0]
  refine K181.c (F := F) (d := d) (s := (pbegin s 0 1).2) (t0 := b) ⟨mb, r, wb, bb, l, c, w'⟩ (st.dom (s3.dom hlv)) (by rw [cell_same (hk b nb)]; exact c0) (by rw [hk b nb]; exact hbn) fun h'' w'' st2 => ⟨_, rfl, ?_⟩
  have := hq h'' (by rw [e]; exact w'') ((s3.trans st).trans st2)
  rw [e] at this; exact this
theorem K125.c (w : PmD F h d s) (hq : Q (.bool s.off) h) : CT 125 #[.pointer (some ⟨d, 0, none⟩)] h Q := by
 obtain ⟨mb, r, wb, bb, l, c, w⟩ := w
 apply K125.ok
 exact xsIf_t rfl ⟨d, 0, rfl, _, w.hd.cell _, hq⟩
theorem K24.c {k : Int} (w : PmD F h d s) (hq : ∀ h', PmD F h' d (if 0 ≤ k ∧ k < s.nl then { s with bad := fset s.bad k.toNat true } else s) → Step F h F h' → Q (.tuple #[]) h') : CT 24 #[.pointer (some ⟨d, 0, none⟩), .int .i64 k] h Q := by
 apply K24.ok
 refine K48.c w ⟨_, rfl, xsIf_intro (fun h1 => ?_) (fun h1 => ?_)⟩
 ·have h1 := of_decide_eq_true h1
  rw [if_pos h1] at hq
  obtain ⟨mb, r, wb, bb, l, c, w⟩ := w
  refine ⟨d, 0, rfl, _, _, _, w.hd.cell _, h1, bb, 0, rfl, w.hb.can (by rw [List.length_map, List.length_range]; omega), ?_⟩
  rw [show 0 + k.toNat * 1 = k.toNat by omega]
  have ne := w.ne
  have hk : ∀ q, q ≠ bb → h.put bb k.toNat [.bool true] q = h q := fun q hq => put_other _ _ _ hq
  refine hq _ ⟨mb, r, wb, bb, l, c, w.lo, w.hi, w.fd, w.fm, w.fr, w.fw, w.fb, w.ne, w.hd.keep (hk _ ne.2.2.2.1), w.hm.keep (hk _ ne.2.2.2.2.2.2.1), by rw [hk _ ne.2.2.2.2.2.2.2.2.1, w.hr], w.hw.keep (hk _ ne.2.2.2.2.2.2.2.2.2), ?_, w.bm, w.f0, w.f1⟩ (Step.put w.fb _ _)
  have := w.hb.put k.toNat [.bool true]
  rw [setL_one, row_set Value.bool] at this
  exact this
 ·have h1 := of_decide_eq_false h1
  rw [if_neg h1] at hq
  exact hq h w (Step.refl _ _)
end
end Go.Gb
namespace Go.Gb
open Go.Proofs IntWalk
def keptN (ps : List Nat) (ks : List Bool) : Nat → List Nat
 | 0 => []
 | k + 1 => keptN ps ks k ++ (if ks.getD k false = true then [ps.getD k 0] else [])
def pboot (s : PmS) (ks : List Bool) : PmS := { plast s (keptN (pend s) ks (pend s).length) with buf := fun _ => none, off := false, fuse := 0 }
theorem keptN_mem {ps : List Nat} {ks : List Bool} : ∀ (k w : Nat), k ≤ ps.length → w ∈ keptN ps ks k → ∃ i, i < k ∧ w = ps.getD i 0
 | 0, w, _, h => by simp [keptN] at h
 | k + 1, w, hk, h => by
  unfold keptN at h
  rcases List.mem_append.1 h with h | h
  ·obtain ⟨i, hi, e⟩ := keptN_mem k w (by omega) h
   exact ⟨i, by omega, e⟩
  ·split at h
   ·simp only [List.mem_singleton] at h; exact ⟨k, by omega, h⟩
   ·cases h
end Go.Gb
namespace Go.Gb
open Go.Proofs IntWalk
theorem fresh_ne {h : Heap} {b k : Nat} {o : Obj} (e : upd h b o k = none) : k ≠ b ∧ h k = none := by
 have hk : k ≠ b := fun e1 => by rw [e1, upd_same] at e; cases e
 exact ⟨hk, by rw [upd_ne hk] at e; exact e⟩
theorem xsMk_i {P : Program} {T : TypeId} {h : Heap} {n : Int} {K : Option Addr → Nat → Nat → Heap → Prop} (h0 : 0 ≤ n) (h1 : n ≤ 65536) (h2 : (cellBytes P T : Int) ≤ 8)
  (hk : ∀ b, h b = none → K (some ⟨b, 0, none⟩) n.toNat n.toNat (upd h b (.cells (zeros P T n.toNat).toArray T (0, 0)))) : xsMk P T h n n K := by
 refine ⟨h0, Int.le_refl _, by omega, ?_, hk⟩
 have : (cellBytes P T : Int) * n ≤ 8 * n := Int.mul_le_mul_of_nonneg_right h2 h0
 omega
theorem zeros_row {P : Program} {T : TypeId} {z : Value} (hz : cellZero P T = [z]) (m : Nat) : zeros P T m = (List.range m).map fun _ => z := by
 unfold zeros
 rw [hz, List.map_const', List.length_range]
 induction m with
 | zero => rfl
 | succ m ih => rw [List.replicate_succ, List.flatten_cons, ih]; rfl
def pnew (n : Nat) : PmS := ⟨n, fun _ => 0, fun _ => none, fun _ => 0, fun _ => false, 0, false, 0⟩
section
variable {h : Heap} {Q : QT}
theorem K26.c {n : Nat} (h1 : 1 ≤ n) (h2 : n ≤ 8192) (hq : ∀ d F h', PmD F h' d (pnew n) → (∀ k, F k → h k = none) → Live F h' → Part h h' → Q (.tuple #[.pointer (some ⟨d, 0, none⟩), .int .i64 0]) h') :
  CT 26 #[.int .i64 (n : Int)] h Q := by
 apply K26.ok
 have e8 : IntKind.i64.wrap ((n : Int) * 8) = ((8 * n : Nat) : Int) := by rw [i64_in _ (by omega)]; omega
 have zU : zeros Tryz.prog 28 (8 * n) = rowU (8 * n) fun _ => 0 := zeros_row (by kernel_rfl) _
 have zI : zeros Tryz.prog 3 n = rowI n fun _ => 0 := zeros_row (by kernel_rfl) _
 have zB : zeros Tryz.prog 4 n = rowB n fun _ => false := zeros_row (by kernel_rfl) _
 have cU : (cellBytes Tryz.prog 28 : Int) ≤ 8 := by rw [show cellBytes Tryz.prog 28 = 8 by kernel_rfl]; omega
 have cI : (cellBytes Tryz.prog 3 : Int) ≤ 8 := by rw [show cellBytes Tryz.prog 3 = 8 by kernel_rfl]; omega
 have cB : (cellBytes Tryz.prog 4 : Int) ≤ 8 := by rw [show cellBytes Tryz.prog 4 = 1 by kernel_rfl]; omega
 have fin : ∀ (h5 : Heap) (d m r w b : Nat), h5 d = some (.cells (devV m r w b n 0 false 0).toArray 82 (0, 0)) → h5 m = some (.cells (zeros Tryz.prog 28 (8 * n)).toArray 28 (0, 0)) → h5 r = some (Obj.map #[] 0) →
   h5 w = some (.cells (zeros Tryz.prog 3 n).toArray 3 (0, 0)) → h5 b = some (.cells (zeros Tryz.prog 4 n).toArray 4 (0, 0)) →
   (d ≠ m ∧ d ≠ r ∧ d ≠ w ∧ d ≠ b ∧ m ≠ r ∧ m ≠ w ∧ m ≠ b ∧ r ≠ w ∧ r ≠ b ∧ w ≠ b) → (h d = none ∧ h m = none ∧ h r = none ∧ h w = none ∧ h b = none) → (∀ k, h k ≠ none → h5 k = h k) → Q (.tuple #[.pointer (some ⟨d, 0, none⟩), .int .i64 0]) h5 := by
  intro h5 d m r w b hd hm hr hw hb ne hn hk
  rw [zU] at hm
  rw [zI] at hw
  rw [zB] at hb
  refine hq d (fun k => k = d ∨ k = m ∨ k = r ∨ k = w ∨ k = b) h5 ⟨m, r, w, b, [], 0, h1, h2, .inl rfl, .inr (.inl rfl), .inr (.inr (.inl rfl)), .inr (.inr (.inr (.inl rfl))), .inr (.inr (.inr (.inr rfl))), ne, ⟨_, hd⟩, ⟨_, hm⟩, hr, ⟨_, hw⟩, ⟨_, hb⟩, ⟨⟨by simp, by simp, by simp, by simp⟩, by simp, by simp [pnew]⟩, by simp [pnew], by simp [pnew]⟩ ?_ ?_ fun k o hko => ?_
  ·rintro k (rfl | rfl | rfl | rfl | rfl)
   ·exact hn.1
   ·exact hn.2.1
   ·exact hn.2.2.1
   ·exact hn.2.2.2.1
   ·exact hn.2.2.2.2
  ·rintro k (rfl | rfl | rfl | rfl | rfl)
   ·rw [hd]; simp
   ·rw [hm]; simp
   ·rw [hr]; simp
   ·rw [hw]; simp
   ·rw [hb]; simp
  ·rw [hk k (by rw [hko]; simp)]; exact hko
 refine xsIf_f (decide_eq_false (by omega)) (xsIf_f (decide_eq_false (by omega)) ?_)
 rw [e8]
 repeat' (first | (refine xsMk_i (by omega) (by omega) (by first | with_reducible exact cU | with_reducible exact cI | with_reducible exact cB) ?_) | (intro _ _) | (refine And.intro ?_ ?_))
 all_goals
  rename_i b1 hb1 b2 hb2 b3 hb3 b4 hb4 b5 hb5
  simp only [Int.toNat_natCast] at *
  obtain ⟨n21, hb2⟩ := fresh_ne hb2
  obtain ⟨n32, hb3⟩ := fresh_ne hb3
  obtain ⟨n31, hb3⟩ := fresh_ne hb3
  obtain ⟨n43, hb4⟩ := fresh_ne hb4
  obtain ⟨n42, hb4⟩ := fresh_ne hb4
  obtain ⟨n41, hb4⟩ := fresh_ne hb4
  obtain ⟨n54, hb5⟩ := fresh_ne hb5
  obtain ⟨n53, hb5⟩ := fresh_ne hb5
  obtain ⟨n52, hb5⟩ := fresh_ne hb5
  obtain ⟨n51, hb5⟩ := fresh_ne hb5
  refine fin _ b5 _ _ _ _ (upd_same _ _ _) ?_ ?_ ?_ ?_ ?_ ?_ ?_
  all_goals first
   | (simp [upd, n21, n31, n32, n41, n42, n43, n51, n52, n53, n54, n21.symm, n31.symm, n32.symm, n41.symm, n42.symm, n43.symm, n51.symm, n52.symm, n53.symm, n54.symm]; done)
   | (simp [hb1, hb2, hb3, hb4, hb5, n21, n31, n32, n41, n42, n43, n51, n52, n53, n54, n21.symm, n31.symm, n32.symm, n41.symm, n42.symm, n43.symm, n51.symm, n52.symm, n53.symm, n54.symm]; done)
   | (intro k hk; rw [upd_ne, upd_ne, upd_ne, upd_ne, upd_ne] <;> (rintro rfl; exact hk (by assumption)))
end
end Go.Gb
namespace Go.Gb
open Go.Proofs IntWalk
def w1 : PmS := (pflush (pstore (pnew 2) 0 7).2 0).2
def w2 : PmS := pboot w1 []
def w3 : PmS := (pflush (pstore w2 0 7).2 0).2
def w4 : PmS := pboot (pfence w3).2 []
end Go.Gb
namespace Go.Gb
open Go.Proofs IntWalk
def ptick (s : PmS) : PmS := { s with fuse := if 0 < s.fuse then s.fuse - 1 else s.fuse, count := IntKind.wrap .i64 (s.count + 1) }
theorem pbegin_run {s : PmS} {a o : Int} (h0 : s.off = false) (h1 : s.fuse ≠ 1) (h2 : 0 ≤ a) (h3 : a < o) : pbegin s a o = (0, ptick s) := by
 have hr : pready s a o = 0 := by unfold pready; rw [h0, if_neg (by simp), if_pos ⟨h2, h3⟩]
 unfold pbegin
 rw [if_pos hr]
 unfold pburn ptick
 rw [if_neg h1]
 split
 ·rfl
 ·rfl
theorem pbegin_fails {s : PmS} {a o : Int} (h0 : s.off = false) (h1 : s.fuse = 1) (h2 : 0 ≤ a) (h3 : a < o) : pbegin s a o = (6, { s with fuse := 0, off := true }) := by
 have hr : pready s a o = 0 := by unfold pready; rw [h0, if_neg (by simp), if_pos ⟨h2, h3⟩]
 unfold pbegin
 rw [if_pos hr]
 unfold pburn
 rw [if_pos h1]
theorem pstore_run {s : PmS} {k v : Int} (h0 : s.off = false) (h1 : s.fuse ≠ 1) (h2 : 0 ≤ k) (h3 : k < ((8 * s.nl : Nat) : Int)) : pstore s k v = (0, { ptick s with buf := fset s.buf k.toNat (some (v, false)) }) := by
 unfold pstore
 rw [pbegin_run h0 h1 h2 h3]
 rfl
theorem pflush_run {s : PmS} {k : Int} (h0 : s.off = false) (h1 : s.fuse ≠ 1) (h2 : 0 ≤ k) (h3 : k < (s.nl : Int)) : pflush s k = (0, { ptick s with buf := fbuf s.buf k.toNat 8 }) := by
 unfold pflush
 rw [pbegin_run h0 h1 h2 h3]
 rfl
theorem flushed_mem {s : PmS} {w : Nat} : w ∈ flushed s ↔ w < 8 * s.nl ∧ ∃ v, s.buf w = some (v, true) := by
 unfold flushed
 rw [List.mem_filter, pend_mem]
 unfold unflushed
 constructor
 ·rintro ⟨⟨h1, h2⟩, h3⟩
  obtain ⟨x, hx⟩ := Option.ne_none_iff_exists'.1 h2
  rw [hx] at h3
  refine ⟨h1, x.1, ?_⟩
  rw [hx]
  have : x.2 = true := by simpa using h3
  rw [← this]
 ·rintro ⟨h1, v, hv⟩
  exact ⟨⟨h1, by rw [hv]; simp⟩, by rw [hv]; rfl⟩
theorem pfence_run {s : PmS} (h0 : s.off = false) (h1 : s.fuse ≠ 1) : pfence s = (0, plast (ptick s) (flushed s)) := by
 unfold pfence
 rw [pbegin_run h0 h1 (by omega) (by omega)]
 rfl
theorem plast_nil (s : PmS) : plast s [] = s := by
 unfold plast lmedia lbuf lwear
 simp
end Go.Gb
namespace Go.Gb
open Go.Proofs IntWalk
theorem pend_none {s : PmS} (h : ∀ w, w < 8 * s.nl → s.buf w = none) : pend s = [] := by
 unfold pend
 rw [List.filter_eq_nil_iff]
 intro w hw
 rw [h w (by simpa using hw)]; simp
end Go.Gb
namespace Go.Gb
open Go.Proofs IntWalk
def R64 (x : Int) : Prop := 0 ≤ x ∧ x < 18446744073709551616
structure PmOk (s : PmS) : Prop where
 media : ∀ w, R64 (s.media w)
 buf : ∀ w x, s.buf w = some x → R64 x.1
theorem pburn_media (s : PmS) : (pburn s).2.media = s.media := by unfold pburn; split <;> (try split) <;> rfl
theorem pbegin_media (s : PmS) (a o : Int) : (pbegin s a o).2.media = s.media := by unfold pbegin; split; exact pburn_media s; rfl
theorem R64.zero : R64 0 := ⟨by omega, by omega⟩
theorem PmOk.new (n : Nat) : PmOk (pnew n) := ⟨fun _ => R64.zero, fun _ _ h => by cases h⟩
theorem PmOk.of {s s' : PmS} (o : PmOk s) (hm : s'.media = s.media) (hb : s'.buf = s.buf) : PmOk s' := ⟨by rw [hm]; exact o.media, by rw [hb]; exact o.buf⟩
theorem PmOk.begin {s : PmS} (o : PmOk s) (a b : Int) : PmOk (pbegin s a b).2 := o.of (pbegin_media s a b) (pbegin_buf s a b)
theorem PmOk.store {s : PmS} (o : PmOk s) (k : Int) {v : Int} (hv : R64 v) : PmOk (pstore s k v).2 := by
 unfold pstore
 split
 ·refine ⟨by show ∀ w, R64 ((pbegin s k _).2.media w); rw [pbegin_media]; exact o.media, fun w x h => ?_⟩
  have h : fset s.buf k.toNat (some (v, false)) w = some x := h
  unfold fset at h
  split at h
  ·cases h; exact hv
  ·exact o.buf w x h
 ·exact o.begin _ _
theorem PmOk.flush {s : PmS} (o : PmOk s) (k : Int) : PmOk (pflush s k).2 := by
 unfold pflush
 split
 ·refine ⟨by show ∀ w, R64 ((pbegin s k _).2.media w); rw [pbegin_media]; exact o.media, fun w x h => ?_⟩
  have h : fbuf s.buf k.toNat 8 w = some x := h
  unfold fbuf at h
  split at h
  ·cases e : s.buf w with
   | none => rw [e] at h; cases h
   | some y => rw [e] at h; cases h; exact o.buf w y e
  ·exact o.buf w x h
 ·exact o.begin _ _
theorem PmOk.last {s : PmS} (o : PmOk s) (ws : List Nat) : PmOk (plast s ws) := by
 refine ⟨fun w => ?_, fun w x h => ?_⟩
 ·show R64 (lmedia s ws w)
  unfold lmedia
  split
  ·cases e : s.buf w with
   | none => exact R64.zero
   | some x => exact o.buf w x e
  ·exact o.media w
 ·have h : lbuf s ws w = some x := h
  unfold lbuf at h
  split at h
  ·cases h
  ·exact o.buf w x h
theorem PmOk.fence {s : PmS} (o : PmOk s) : PmOk (pfence s).2 := by
 unfold pfence
 split
 ·exact (o.begin _ _).last _
 ·exact o.begin _ _
theorem PmOk.boot {s : PmS} (o : PmOk s) (ks : List Bool) : PmOk (pboot s ks) := ⟨(o.last _).media, fun _ _ h => by cases h⟩
def llast (s : PmS) (a : Int) : Int × PmS := if (pflush s a).1 = 0 then pfence (pflush s a).2 else pflush s a
def lstores (a : Nat) (f : Nat → Nat) : Nat → Nat → PmS → Int × PmS
 | 0, _, s => llast s a
 | j + 1, k, s => if (pstore s ((8 * a + k : Nat) : Int) (f k : Nat)).1 = 0 then lstores a f j (k + 1) (pstore s ((8 * a + k : Nat) : Int) (f k : Nat)).2 else pstore s ((8 * a + k : Nat) : Int) (f k : Nat)
def lthere (s : PmS) (a : Int) : Int := if 0 ≤ a ∧ a < (s.nl : Int) then 0 else 3
def lnput (s : PmS) (a : Int) (b : ByteArray) : Int × PmS := if b.size = 64 then (if lthere s a = 0 then lstores a.toNat (wordAt b) 8 0 s else (3, s)) else (2, s)
def lnputw (s : PmS) (a k v : Int) : Int × PmS := if 0 ≤ k ∧ k < 8 then (if lthere s a = 0 then (if (pstore s (8 * a + k) v).1 = 0 then llast (pstore s (8 * a + k) v).2 a else pstore s (8 * a + k) v) else (3, s)) else (2, s)
def pval (s : PmS) (w : Nat) : Int := match s.buf w with | some x => x.1 | none => s.media w
theorem PmOk.val {s : PmS} (o : PmOk s) (w : Nat) : R64 (pval s w) := by
 unfold pval
 cases e : s.buf w with
 | none => exact o.media w
 | some x => exact o.buf w x e
def textN (f : Nat → Nat) : Nat → List UInt8
 | 0 => []
 | k + 1 => textN f k ++ putL (f k) 8
theorem textN_len (f : Nat → Nat) : ∀ k, (textN f k).length = 8 * k
 | 0 => rfl
 | k + 1 => by unfold textN; rw [List.length_append, textN_len f k, putL_length]; omega
theorem textN_eight (f : Nat → Nat) : textN f 8 = textL (f 0) (f 1) (f 2) (f 3) (f 4) (f 5) (f 6) (f 7) := by
 simp [textN, textL]
theorem textN_congr {f g : Nat → Nat} : ∀ k, (∀ i, i < k → f i = g i) → textN f k = textN g k
 | 0, _ => rfl
 | k + 1, h => by unfold textN; rw [textN_congr k fun i hi => h i (by omega), h k (by omega)]
def lnbytes (f : Nat → Nat) : ByteArray := ⟨(textN f 8).toArray⟩
theorem lnbytes_size (f : Nat → Nat) : (lnbytes f).size = 64 := by unfold lnbytes; rw [bytes_size, textN_len]
theorem lnbytes_words (b : ByteArray) (h : b.size = 64) : lnbytes (wordAt b) = b := by
 unfold lnbytes
 rw [textN_eight]; exact text_words b h
theorem drop_textN (f : Nat → Nat) {k : Nat} : ∀ n, k < n → chunk (textN f n) k = putL (f k) 8 := by
 intro n
 induction n with
 | zero => intro h; omega
 | succ n ih =>
  intro h
  unfold chunk textN
  by_cases e : k = n
  ·subst e
   rw [List.drop_append_of_le_length (by rw [textN_len]; omega), List.drop_of_length_le (by rw [textN_len]; omega), List.nil_append, List.take_of_length_le (by rw [putL_length]; omega)]
  ·rw [List.drop_append_of_le_length (by rw [textN_len]; omega), List.take_append_of_le_length (by rw [List.length_drop, textN_len]; omega)]
   exact ih (by omega)
theorem wordAt_text {f : Nat → Nat} {k : Nat} (hk : k < 8) (hf : f k < 18446744073709551616) : wordAt (lnbytes f) k = f k := by
 unfold wordAt lnbytes
 show getL (chunk (textN f 8) k) = _
 rw [drop_textN f 8 hk, getL_put]
 exact Nat.mod_eq_of_lt hf
def lnget (s : PmS) (a : Int) : ByteArray × Int := if s.off then (⟨#[]⟩, 6) else if lthere s a = 0 then (lnbytes fun k => (pval s (8 * a.toNat + k)).toNat, 0) else (⟨#[]⟩, 3)
def lntook (s : PmS) (a : Int) (b : ByteArray) : Prop := b.size = 64 ∧ lthere s a = 0 ∧ ∀ k, k < 8 → s.media (8 * a.toNat + k) = ((wordAt b k : Nat) : Int)
theorem pstore_nl (s : PmS) (k v : Int) : (pstore s k v).2.nl = s.nl := by
 unfold pstore; split
 ·exact pbegin_nl _ _ _
 ·exact pbegin_nl _ _ _
theorem pflush_nl (s : PmS) (k : Int) : (pflush s k).2.nl = s.nl := by
 unfold pflush; split
 ·exact pbegin_nl _ _ _
 ·exact pbegin_nl _ _ _
theorem pfence_nl (s : PmS) : (pfence s).2.nl = s.nl := by
 unfold pfence; split
 ·exact pbegin_nl _ _ _
 ·exact pbegin_nl _ _ _
theorem llast_nl (s : PmS) (a : Int) : (llast s a).2.nl = s.nl := by
 unfold llast; split
 ·rw [pfence_nl, pflush_nl]
 ·exact pflush_nl _ _
theorem PmOk.llast {s : PmS} (o : PmOk s) (a : Int) : PmOk (llast s a).2 := by
 unfold Gb.llast; split
 ·exact (o.flush a).fence
 ·exact o.flush a
theorem lstores_nl {a : Nat} {f : Nat → Nat} : ∀ (j k : Nat) (s : PmS), (lstores a f j k s).2.nl = s.nl
 | 0, _, s => llast_nl s a
 | j + 1, k, s => by
  unfold lstores; split
  ·rw [lstores_nl, pstore_nl]
  ·exact pstore_nl _ _ _
theorem PmOk.stores {a : Nat} {f : Nat → Nat} (hf : ∀ k, f k < 18446744073709551616) : ∀ (j k : Nat) (s : PmS), PmOk s → PmOk (lstores a f j k s).2
 | 0, _, s, o => o.llast a
 | j + 1, k, s, o => by
  have hv : R64 ((f k : Nat) : Int) := ⟨by omega, by have := hf k; omega⟩
  unfold lstores; split
  ·exact PmOk.stores hf j (k + 1) _ (o.store _ hv)
  ·exact o.store _ hv
theorem lnput_nl (s : PmS) (a : Int) (b : ByteArray) : (lnput s a b).2.nl = s.nl := by
 unfold lnput; split
 ·split
  ·exact lstores_nl _ _ _
  ·rfl
 ·rfl
theorem PmOk.put {s : PmS} (o : PmOk s) (a : Int) (b : ByteArray) : PmOk (lnput s a b).2 := by
 unfold lnput; split
 ·split
  ·exact PmOk.stores (fun k => wordAt_lt b k) _ _ _ o
  ·exact o
 ·exact o
theorem lnputw_nl (s : PmS) (a k v : Int) : (lnputw s a k v).2.nl = s.nl := by
 unfold lnputw; split
 ·split
  ·split
   ·rw [llast_nl, pstore_nl]
   ·exact pstore_nl _ _ _
  ·rfl
 ·rfl
theorem PmOk.putw {s : PmS} (o : PmOk s) (a k : Int) {v : Int} (hv : R64 v) : PmOk (lnputw s a k v).2 := by
 unfold lnputw; split
 ·split
  ·split
   ·exact (o.store _ hv).llast a
   ·exact o.store _ hv
  ·exact o
 ·exact o
end Go.Gb
namespace Go.Gb
open Go.Proofs IntWalk
structure Tg (n : Nat) (bad : Nat → Bool) (A B : Nat → Int) (s : PmS) : Prop where
 nl : s.nl = n
 bd : s.bad = bad
 f0 : 0 ≤ s.fuse
 med : ∀ w, w < 8 * n → s.media w = A w ∨ (bad (w / 8) = false ∧ s.media w = B w)
 buf : ∀ w, w < 8 * n → ∀ x, s.buf w = some x → x.1 = B w
structure On (s : PmS) : Prop where
 off : s.off = false
 f0 : 0 ≤ s.fuse
 buf : ∀ w, w < 8 * s.nl → s.buf w = none
section
variable {n : Nat} {bad : Nat → Bool} {A B : Nat → Int} {s : PmS}
theorem Tg.begin (t : Tg n bad A B s) (ho : s.off = false) {a o : Int} (h0 : 0 ≤ a) (h1 : a < o) :
  Tg n bad A B (pbegin s a o).2 ∧ (((pbegin s a o).1 = 0 ∧ (pbegin s a o).2.off = false) ∨ ((pbegin s a o).1 = 6 ∧ (pbegin s a o).2.off = true)) := by
 have f0 := t.f0
 by_cases hf : s.fuse = 1
 ·rw [pbegin_fails ho hf h0 h1]
  exact ⟨⟨t.nl, t.bd, Int.le_refl _, t.med, t.buf⟩, .inr ⟨rfl, rfl⟩⟩
 ·rw [pbegin_run ho hf h0 h1]
  refine ⟨⟨t.nl, t.bd, ?_, t.med, t.buf⟩, .inl ⟨rfl, ho⟩⟩
  show 0 ≤ if 0 < s.fuse then s.fuse - 1 else s.fuse
  split <;> omega
theorem Tg.store (t : Tg n bad A B s) (ho : s.off = false) {k : Nat} {v : Int} (hk : k < 8 * n) (hv : v = B k) :
  Tg n bad A B (pstore s (k : Int) v).2 ∧ (((pstore s (k : Int) v).1 = 0 ∧ (pstore s (k : Int) v).2.off = false ∧ (pstore s (k : Int) v).2.buf = fset s.buf k (some (v, false)) ∧ (pstore s (k : Int) v).2.media = s.media) ∨
   ((pstore s (k : Int) v).1 = 6 ∧ (pstore s (k : Int) v).2.off = true)) := by
 have nl := t.nl
 obtain ⟨t2, r⟩ := t.begin (a := (k : Int)) (o := ((8 * s.nl : Nat) : Int)) ho (by omega) (by omega)
 unfold pstore
 by_cases e : (pbegin s (k : Int) ((8 * s.nl : Nat) : Int)).1 = 0
 ·rw [if_pos e, Int.toNat_natCast]
  refine ⟨⟨t2.nl, t2.bd, t2.f0, t2.med, fun w hw x hx => ?_⟩, .inl ⟨rfl, ?_, rfl, pbegin_media _ _ _⟩⟩
  ·have hx : fset s.buf k (some (v, false)) w = some x := hx
   unfold fset at hx
   split at hx
   ·rename_i e2; cases hx; rw [e2]; exact hv
   ·exact t.buf w hw x hx
  ·rcases r with r | r
   ·exact r.2
   ·rw [e] at r; cases r.1
 ·rw [if_neg e]
  refine ⟨t2, .inr ?_⟩
  rcases r with r | r
  ·exact absurd r.1 e
  ·exact r
theorem Tg.flush (t : Tg n bad A B s) (ho : s.off = false) {a : Nat} (ha : a < n) :
  Tg n bad A B (pflush s (a : Int)).2 ∧ (((pflush s (a : Int)).1 = 0 ∧ (pflush s (a : Int)).2.off = false ∧ (pflush s (a : Int)).2.buf = fbuf s.buf a 8 ∧ (pflush s (a : Int)).2.media = s.media) ∨ ((pflush s (a : Int)).1 = 6 ∧ (pflush s (a : Int)).2.off = true)) := by
 have nl := t.nl
 obtain ⟨t2, r⟩ := t.begin (a := (a : Int)) (o := (s.nl : Int)) ho (by omega) (by omega)
 unfold pflush
 by_cases e : (pbegin s (a : Int) (s.nl : Int)).1 = 0
 ·rw [if_pos e, Int.toNat_natCast]
  refine ⟨⟨t2.nl, t2.bd, t2.f0, t2.med, fun w hw x hx => ?_⟩, .inl ⟨rfl, ?_, rfl, pbegin_media _ _ _⟩⟩
  ·have hx : fbuf s.buf a 8 w = some x := hx
   unfold fbuf at hx
   split at hx
   ·cases e2 : s.buf w with
    | none => rw [e2] at hx; cases hx
    | some y => rw [e2] at hx; cases hx; exact t.buf w hw y e2
   ·exact t.buf w hw x hx
  ·rcases r with r | r
   ·exact r.2
   ·rw [e] at r; cases r.1
 ·rw [if_neg e]
  refine ⟨t2, .inr ?_⟩
  rcases r with r | r
  ·exact absurd r.1 e
  ·exact r
theorem Tg.plast (t : Tg n bad A B s) {ws : List Nat} (hws : ∀ w ∈ ws, s.buf w ≠ none) : Tg n bad A B (plast s ws) := by
 refine ⟨t.nl, t.bd, t.f0, fun w hw => ?_, fun w hw x hx => ?_⟩
 ·show lmedia s ws w = A w ∨ (bad (w / 8) = false ∧ lmedia s ws w = B w)
  unfold lmedia
  split
  ·rename_i h
   cases e : s.buf w with
   | none => exact absurd e (hws w h.1)
   | some x => exact .inr ⟨by rw [← t.bd]; exact h.2, t.buf w hw x e⟩
  ·exact t.med w hw
 ·have hx : lbuf s ws w = some x := hx
  unfold lbuf at hx
  split at hx
  ·cases hx
  ·exact t.buf w hw x hx
theorem Tg.fence (t : Tg n bad A B s) (ho : s.off = false) {p : Nat → Bool} (hb : ∀ w, w < 8 * n → s.buf w = if p w = true then some (B w, true) else none) :
  Tg n bad A B (pfence s).2 ∧ (((pfence s).1 = 0 ∧ (pfence s).2.off = false ∧ ∀ w, w < 8 * n → (pfence s).2.buf w = none ∧ (pfence s).2.media w = if p w = true ∧ bad (w / 8) = false then B w else s.media w) ∨ ((pfence s).1 = 6 ∧ (pfence s).2.off = true)) := by
 obtain ⟨t2, r⟩ := t.begin (a := 0) (o := 1) ho (by omega) (by omega)
 have bf := pbegin_buf s 0 1
 have md := pbegin_media s 0 1
 unfold pfence
 by_cases e : (pbegin s 0 1).1 = 0
 ·rw [if_pos e]
  generalize (pbegin s 0 1).2 = s2 at t2 r bf md
  have nl2 := t2.nl
  have hfl : ∀ w ∈ flushed s2, s2.buf w ≠ none := fun w hw => by
   rw [flushed_mem] at hw
   obtain ⟨_, v, hv⟩ := hw
   rw [hv]; simp
  have hf : ∀ w, w < 8 * n → (w ∈ flushed s2 ↔ p w = true) := fun w hw => by
   rw [flushed_mem, bf, hb w hw]
   by_cases ep : p w = true
   ·rw [if_pos ep]; exact ⟨fun _ => ep, fun _ => ⟨by omega, _, rfl⟩⟩
   ·rw [if_neg ep]; exact ⟨fun h => (by obtain ⟨_, v, h⟩ := h; cases h), fun h => absurd h ep⟩
  refine ⟨t2.plast hfl, .inl ⟨rfl, ?_, fun w hw => ⟨?_, ?_⟩⟩⟩
  ·show s2.off = false
   rcases r with r | r
   ·exact r.2
   ·rw [e] at r; cases r.1
  ·show lbuf s2 (flushed s2) w = none
   unfold lbuf
   by_cases ep : p w = true
   ·rw [if_pos ((hf w hw).2 ep)]
   ·rw [if_neg (fun h => ep ((hf w hw).1 h)), bf, hb w hw, if_neg ep]
  ·show lmedia s2 (flushed s2) w = _
   unfold lmedia
   rw [t2.bd, bf, md, hb w hw]
   by_cases ep : p w = true
   ·by_cases eb : bad (w / 8) = false
    ·rw [if_pos (show w ∈ flushed s2 ∧ bad (w / 8) = false from ⟨(hf w hw).2 ep, eb⟩), if_pos (show p w = true ∧ bad (w / 8) = false from ⟨ep, eb⟩), if_pos ep]
    ·rw [if_neg (show ¬ (w ∈ flushed s2 ∧ bad (w / 8) = false) from fun h => eb h.2), if_neg (show ¬ (p w = true ∧ bad (w / 8) = false) from fun h => eb h.2)]
   ·rw [if_neg (show ¬ (w ∈ flushed s2 ∧ bad (w / 8) = false) from fun h => ep ((hf w hw).1 h.1)), if_neg (show ¬ (p w = true ∧ bad (w / 8) = false) from fun h => ep h.1)]
 ·rw [if_neg e]
  refine ⟨t2, .inr ?_⟩
  rcases r with r | r
  ·exact absurd r.1 e
  ·exact r
def Done (n : Nat) (bad : Nat → Bool) (B : Nat → Int) (p : Nat → Bool) (md : Nat → Int) (r : Int × PmS) : Prop :=
 (r.1 = 0 ∧ r.2.off = false ∧ ∀ w, w < 8 * n → r.2.buf w = none ∧ r.2.media w = if p w = true ∧ bad (w / 8) = false then B w else md w) ∨ (r.1 = 6 ∧ r.2.off = true)
theorem Tg.llast (t : Tg n bad A B s) (ho : s.off = false) {a : Nat} (ha : a < n) {p : Nat → Bool} (hp : ∀ w, p w = true → w / 8 = a) (hb : ∀ w, w < 8 * n → s.buf w = if p w = true then some (B w, false) else none) :
  Tg n bad A B (llast s (a : Int)).2 ∧ Done n bad B p s.media (llast s (a : Int)) := by
 obtain ⟨t2, r⟩ := t.flush ho ha
 unfold Gb.llast
 by_cases e : (pflush s (a : Int)).1 = 0
 ·rw [if_pos e]
  rcases r with ⟨-, r1, r2, r3⟩ | r
  ·have := t2.fence (p := p) r1 (fun w hw => by
    rw [r2]
    unfold fbuf
    rw [hb w hw]
    by_cases ep : p w = true
    ·have := hp w ep
     rw [if_pos ep, if_pos ep, if_pos (by omega)]; rfl
    ·rw [if_neg ep, if_neg ep]; split <;> rfl)
   rw [r3] at this
   exact this
  ·rw [e] at r; cases r.1
 ·rw [if_neg e]
  rcases r with r | r
  ·exact absurd r.1 e
  ·exact ⟨t2, .inr r⟩
theorem Tg.lstores {a : Nat} (ha : a < n) {f : Nat → Nat} {md : Nat → Int} (hB : ∀ k, k < 8 → B (8 * a + k) = ((f k : Nat) : Int)) : ∀ (j k : Nat) (s : PmS), k + j = 8 → Tg n bad A B s → s.off = false → s.media = md →
  (∀ w, w < 8 * n → s.buf w = if w / 8 = a ∧ w % 8 < k then some (B w, false) else none) →
  Tg n bad A B (lstores a f j k s).2 ∧ Done n bad B (fun w => decide (w / 8 = a)) md (lstores a f j k s) := by
 intro j
 induction j with
 | zero =>
  intro k s hk t ho hm hb
  rw [← hm]
  refine t.llast ho ha (fun w h => of_decide_eq_true h) fun w hw => ?_
  rw [hb w hw]
  by_cases e : w / 8 = a
  ·rw [if_pos ⟨e, by omega⟩, if_pos (decide_eq_true e)]
  ·rw [if_neg (fun h => e h.1), if_neg (fun h => e (of_decide_eq_true h))]
 | succ j ih =>
  intro k s hk t ho hm hb
  obtain ⟨t2, r⟩ := t.store ho (show 8 * a + k < 8 * n by omega) (hB k (by omega)).symm
  unfold Gb.lstores
  by_cases e : (pstore s ((8 * a + k : Nat) : Int) (f k : Nat)).1 = 0
  ·rw [if_pos e]
   rcases r with ⟨-, r1, r2, r3⟩ | r
   ·refine ih (k + 1) _ (by omega) t2 r1 (r3.trans hm) fun w hw => ?_
    rw [r2]
    unfold fset
    by_cases e2 : w = 8 * a + k
    ·rw [if_pos e2, if_pos (by omega), e2, hB k (by omega)]
    ·rw [if_neg e2, hb w hw]
     by_cases e3 : w / 8 = a ∧ w % 8 < k
     ·rw [if_pos e3, if_pos (by omega)]
     ·rw [if_neg e3, if_neg (by omega)]
   ·rw [e] at r; cases r.1
  ·rw [if_neg e]
   rcases r with r | r
   ·exact absurd r.1 e
   ·exact ⟨t2, .inr r⟩
end
def putM (md : Nat → Int) (a : Nat) (b : ByteArray) : Nat → Int := fun w => if w / 8 = a then ((wordAt b (w % 8) : Nat) : Int) else md w
theorem On.tg {s : PmS} (o : On s) (B : Nat → Int) : Tg s.nl s.bad s.media B s := ⟨rfl, rfl, o.f0, fun _ _ => .inl rfl, fun w hw x hx => by rw [o.buf w hw] at hx; cases hx⟩
theorem On.put {s : PmS} {a : Nat} {b : ByteArray} (o : On s) (ha : a < s.nl) (hb : b.size = 64) :
  Tg s.nl s.bad s.media (putM s.media a b) (lnput s (a : Int) b).2 ∧ Done s.nl s.bad (putM s.media a b) (fun w => decide (w / 8 = a)) s.media (lnput s (a : Int) b) := by
 unfold lnput
 rw [if_pos hb, if_pos (by unfold lthere; exact if_pos (by omega)), Int.toNat_natCast]
 refine Tg.lstores ha (fun k hk => ?_) 8 0 s (by omega) (o.tg _) o.off rfl fun w hw => ?_
 ·unfold putM; rw [if_pos (by omega), show (8 * a + k) % 8 = k by omega]
 ·rw [o.buf w hw, if_neg (by omega)]
theorem On.putw {s : PmS} {a k : Nat} {v : Int} (o : On s) (ha : a < s.nl) (hk : k < 8) :
  Tg s.nl s.bad s.media (fset s.media (8 * a + k) v) (lnputw s (a : Int) (k : Int) v).2 ∧ Done s.nl s.bad (fset s.media (8 * a + k) v) (fun w => decide (w = 8 * a + k)) s.media (lnputw s (a : Int) (k : Int) v) := by
 have e0 : (8 * (a : Int) + (k : Int)) = ((8 * a + k : Nat) : Int) := by omega
 have hB : v = fset s.media (8 * a + k) v (8 * a + k) := (if_pos rfl).symm
 obtain ⟨t2, r⟩ := (o.tg (fset s.media (8 * a + k) v)).store o.off (show 8 * a + k < 8 * s.nl by omega) hB
 unfold lnputw
 rw [if_pos (by omega), if_pos (by unfold lthere; exact if_pos (by omega)), e0]
 by_cases e : (pstore s ((8 * a + k : Nat) : Int) v).1 = 0
 ·rw [if_pos e]
  rcases r with ⟨-, r1, r2, r3⟩ | r
  ·have := t2.llast r1 ha (p := fun w => decide (w = 8 * a + k)) (fun w h => by have := of_decide_eq_true h; omega) (fun w hw => by
    rw [r2]
    unfold fset
    by_cases e2 : w = 8 * a + k
    ·rw [if_pos e2, if_pos (decide_eq_true e2), if_pos e2]
    ·rw [if_neg e2, o.buf w hw, if_neg (fun h => e2 (of_decide_eq_true h))])
   rw [r3] at this
   exact this
  ·rw [e] at r; cases r.1
 ·rw [if_neg e]
  rcases r with r | r
  ·exact absurd r.1 e
  ·exact ⟨t2, .inr r⟩
theorem Tg.boot {n : Nat} {bad : Nat → Bool} {A B : Nat → Int} {s : PmS} (t : Tg n bad A B s) (ks : List Bool) : Tg n bad A B (pboot s ks) ∧ On (pboot s ks) := by
 have h : Tg n bad A B (Gb.plast s (keptN (pend s) ks (pend s).length)) := t.plast fun w hw => by
  obtain ⟨i, h1, h2⟩ := keptN_mem _ _ (Nat.le_refl _) hw
  have : w ∈ pend s := by
   rw [h2, List.getD_eq_getElem?_getD, List.getElem?_eq_getElem h1]
   exact List.getElem_mem h1
  exact (pend_mem.1 this).2
 exact ⟨⟨h.nl, h.bd, Int.le_refl _, h.med, fun _ _ _ h => by cases h⟩, ⟨rfl, Int.le_refl _, fun _ _ => rfl⟩⟩
end Go.Gb
namespace Go.Gb
open Go.Proofs IntWalk
structure Pl where
 pa : Nat
 pl : Nat
 ps : Nat
def tblN (p : Pl) : Nat := (p.ps + 7) / 8
def ownN (p : Pl) (i : Nat) : Nat := p.pa + tblN p + i
def sparN (p : Pl) (k : Nat) : Nat := p.pa + tblN p + p.pl + k
def sizeN (p : Pl) : Nat := tblN p + p.pl + p.ps
structure PlOk (p : Pl) (n : Nat) : Prop where
 l1 : 1 ≤ p.pl
 l2 : p.pl ≤ 1026
 s2 : p.ps ≤ 64
 a2 : p.pa ≤ 8192
 fit : p.pa + sizeN p ≤ n
def validW (lines w : Nat) : Bool := decide (guardN w = w ∧ (w % 281474976710656 = 65535 ∨ (1 ≤ w % 281474976710656 ∧ w % 281474976710656 ≤ lines)))
def entsTo (lines : Nat) (f : Nat → Nat) : Nat → Option (List Nat)
 | 0 => some []
 | k + 1 => match entsTo lines f k with
  | none => none
  | some l => if f k = 0 then some l else if validW lines (f k) = true ∧ l.length = k then some (l ++ [f k % 281474976710656]) else none
def twd (s : PmS) (p : Pl) (k : Nat) : Nat := (pval s (8 * p.pa + k)).toNat
def sents (s : PmS) (p : Pl) : Option (List Nat) := entsTo p.pl (twd s p) p.ps
theorem entsTo_congr {lines : Nat} {f g : Nat → Nat} : ∀ m, (∀ j, j < m → f j = g j) → entsTo lines f m = entsTo lines g m
 | 0, _ => rfl
 | m + 1, h => by
  unfold entsTo
  rw [entsTo_congr m fun j hj => h j (by omega), h m (by omega)]
theorem entsTo_some {lines : Nat} {f : Nat → Nat} : ∀ (m : Nat) (l : List Nat), entsTo lines f m = some l → l.length ≤ m ∧ entsTo lines f l.length = some l ∧ (∀ j, l.length ≤ j → j < m → f j = 0) ∧ ∀ j, j < l.length → l.getD j 0 = f j % 281474976710656 ∧ validW lines (f j) = true ∧ f j ≠ 0
 | 0, l, h => by
  cases h
  exact ⟨Nat.le_refl _, rfl, fun j _ h => absurd h (by omega), fun j h => absurd h (by simp)⟩
 | m + 1, l, h => by
  unfold entsTo at h
  cases e : entsTo lines f m with
  | none => rw [e] at h; cases h
  | some l0 =>
   rw [e] at h
   obtain ⟨h1, h2, h3, h4⟩ := entsTo_some m l0 e
   dsimp only at h
   split at h
   ·rename_i e0
    cases h
    refine ⟨by omega, h2, fun j g1 g2 => ?_, h4⟩
    by_cases ej : j = m
    ·rw [ej]; exact e0
    ·exact h3 j g1 (by omega)
   ·rename_i e0
    split at h
    ·rename_i e1
     cases h
     refine ⟨by simp [e1.2], ?_, fun j g1 g2 => ?_, fun j hj => ?_⟩
     ·rw [List.length_append, e1.2]
      show entsTo lines f (m + 1) = _
      unfold entsTo
      rw [e]; dsimp only; rw [if_neg e0, if_pos e1]
     ·rw [List.length_append, e1.2] at g1; simp at g1; omega
     ·rw [List.length_append, e1.2] at hj
      simp at hj
      by_cases ej : j = m
      ·subst ej
       rw [List.getD_eq_getElem?_getD, List.getElem?_append_right (by omega), e1.2, Nat.sub_self]
       exact ⟨rfl, e1.1, e0⟩
      ·have := h4 j (by omega)
       rw [List.getD_eq_getElem?_getD, List.getElem?_append_left (by omega), ← List.getD_eq_getElem?_getD]
       exact this
    ·cases h
theorem entsTo_zeros {lines : Nat} {f : Nat → Nat} {l : List Nat} {c : Nat} (h : entsTo lines f c = some l) : ∀ m, c ≤ m → (∀ j, c ≤ j → j < m → f j = 0) → entsTo lines f m = some l := by
  intro m
  induction m with
  | zero => intro h1 _; obtain rfl : c = 0 := by omega
            exact h
  | succ m ih =>
    intro h1 h2
    by_cases e : c = m + 1
    · rw [← e]; exact h
    · unfold entsTo
      rw [ih (by omega) fun j g1 g2 => h2 j g1 (by omega)]
      dsimp only
      rw [if_pos (h2 m (by omega) (by omega))]
theorem entsTo_say {lines : Nat} {f g : Nat → Nat} {m : Nat} {l : List Nat} (h : entsTo lines f m = some l) (hl : l.length < m) (hv : validW lines (g l.length) = true) (h0 : g l.length ≠ 0) (ho : ∀ j, j < m → j ≠ l.length → g j = f j) :
  entsTo lines g m = some (l ++ [g l.length % 281474976710656]) := by
 obtain ⟨h1, h2, h3, _⟩ := entsTo_some m l h
 have e1 : entsTo lines g l.length = some l := by rw [← h2]; exact entsTo_congr _ fun j hj => ho j (by omega) (by omega)
 have e2 : entsTo lines g (l.length + 1) = some (l ++ [g l.length % 281474976710656]) := by
  unfold entsTo
  rw [e1]; dsimp only; rw [if_neg h0, if_pos ⟨hv, rfl⟩]
 exact entsTo_zeros e2 m (by omega) fun j g1 g2 => by rw [ho j g2 (by omega)]; exact h3 j (by omega) g2
def stN (l : List Nat) : Nat → Nat → Option Nat
 | 0, _ => none
 | k + 1, i => if l.getD k 0 = i + 1 then some k else stN l k i
theorem stN_congr {l l' : List Nat} : ∀ k, (∀ j, j < k → l.getD j 0 = l'.getD j 0) → stN l k = stN l' k
 | 0, _ => rfl
 | k + 1, h => by
  funext i
  unfold stN
  rw [h k (by omega), stN_congr k fun j hj => h j (by omega)]
theorem stN_lt {l : List Nat} {i v : Nat} : ∀ k, stN l k i = some v → v < k ∧ l.getD v 0 = i + 1
 | 0, h => by cases h
 | k + 1, h => by
  unfold stN at h
  split at h
  ·rename_i e; cases h; exact ⟨by omega, e⟩
  ·have := stN_lt k h; exact ⟨by omega, this.2⟩
abbrev stands (l : List Nat) (i : Nat) : Option Nat := stN l l.length i
theorem stands_snoc (l : List Nat) (n : Nat) : stands (l ++ [n]) = fun i => if n = i + 1 then some l.length else stands l i := by
 funext i
 unfold stands
 rw [List.length_append]
 show (if (l ++ [n]).getD l.length 0 = i + 1 then some l.length else stN (l ++ [n]) l.length i) = _
 rw [List.getD_eq_getElem?_getD, List.getElem?_append_right (Nat.le_refl _), Nat.sub_self]
 show (if n = i + 1 then some l.length else stN (l ++ [n]) l.length i) = _
 rw [stN_congr (l := l ++ [n]) (l' := l) l.length fun j hj => by rw [List.getD_eq_getElem?_getD, List.getElem?_append_left hj, ← List.getD_eq_getElem?_getD]]
def whN (p : Pl) (l : List Nat) (i : Nat) : Nat := match stands l i with
 | some k => sparN p k
 | none => ownN p i
open Classical in
noncomputable def took (s : PmS) (a : Nat) (b : ByteArray) : Bool := decide (lntook s (a : Int) b)
noncomputable def sretire (p : Pl) (i : Nat) (b : ByteArray) : Nat → PmS → List Nat → Int × PmS × List Nat
 | 0, s, l => (10, s, l)
 | m + 1, s, l =>
  if (lnput s (sparN p l.length : Nat) b).1 = 0 then
   (if took (lnput s (sparN p l.length : Nat) b).2 (sparN p l.length) b = true then
    ((lnputw (lnput s (sparN p l.length : Nat) b).2 (p.pa + l.length / 8 : Nat) (l.length % 8 : Nat) (guardN (i + 1) : Nat)).1, (lnputw (lnput s (sparN p l.length : Nat) b).2 (p.pa + l.length / 8 : Nat) (l.length % 8 : Nat) (guardN (i + 1) : Nat)).2,
     if (lnputw (lnput s (sparN p l.length : Nat) b).2 (p.pa + l.length / 8 : Nat) (l.length % 8 : Nat) (guardN (i + 1) : Nat)).1 = 0 then l ++ [i + 1] else l)
   else if (lnputw (lnput s (sparN p l.length : Nat) b).2 (p.pa + l.length / 8 : Nat) (l.length % 8 : Nat) (guardN 65535 : Nat)).1 = 0 then
    sretire p i b m (lnputw (lnput s (sparN p l.length : Nat) b).2 (p.pa + l.length / 8 : Nat) (l.length % 8 : Nat) (guardN 65535 : Nat)).2 (l ++ [65535])
   else ((lnputw (lnput s (sparN p l.length : Nat) b).2 (p.pa + l.length / 8 : Nat) (l.length % 8 : Nat) (guardN 65535 : Nat)).1, (lnputw (lnput s (sparN p l.length : Nat) b).2 (p.pa + l.length / 8 : Nat) (l.length % 8 : Nat) (guardN 65535 : Nat)).2, l))
  else ((lnput s (sparN p l.length : Nat) b).1, (lnput s (sparN p l.length : Nat) b).2, l)
noncomputable def swrite (p : Pl) (l : List Nat) (s : PmS) (i : Nat) (b : ByteArray) : Int × PmS × List Nat :=
 if (lnput s (whN p l i : Nat) b).1 = 0 then
  (if took (lnput s (whN p l i : Nat) b).2 (whN p l i) b = true then (0, (lnput s (whN p l i : Nat) b).2, l) else sretire p i b (p.ps - l.length) (lnput s (whN p l i : Nat) b).2 l)
 else ((lnput s (whN p l i : Nat) b).1, (lnput s (whN p l i : Nat) b).2, l)
def withW (was : ByteArray) (k : Nat) (v : Nat) : ByteArray := lnbytes fun j => if j = k then v else wordAt was j
noncomputable def swritew (p : Pl) (l : List Nat) (s : PmS) (i k v : Nat) : Int × PmS × List Nat :=
 if (lnget s (whN p l i : Nat)).2 = 0 then
  (if (lnputw s (whN p l i : Nat) (k : Nat) (v : Nat)).1 = 0 then
   (if took (lnputw s (whN p l i : Nat) (k : Nat) (v : Nat)).2 (whN p l i) (withW (lnget s (whN p l i : Nat)).1 k v) = true then (0, (lnputw s (whN p l i : Nat) (k : Nat) (v : Nat)).2, l)
    else sretire p i (withW (lnget s (whN p l i : Nat)).1 k v) (p.ps - l.length) (lnputw s (whN p l i : Nat) (k : Nat) (v : Nat)).2 l)
  else ((lnputw s (whN p l i : Nat) (k : Nat) (v : Nat)).1, (lnputw s (whN p l i : Nat) (k : Nat) (v : Nat)).2, l))
 else ((lnget s (whN p l i : Nat)).2, s, l)
theorem whN_lt {p : Pl} {n : Nat} {l : List Nat} {i : Nat} (ok : PlOk p n) (hl : l.length ≤ p.ps) (hi : i < p.pl) : whN p l i < n ∧ p.pa + tblN p ≤ whN p l i := by
 have fit := ok.fit
 unfold sizeN at fit
 unfold whN
 cases e : stands l i with
 | none => unfold ownN; dsimp only; omega
 | some k => have := (stN_lt _ e).1; unfold sparN; dsimp only; omega
end Go.Gb
namespace Go.Gb
open Go.Proofs IntWalk
structure SpI (p : Pl) (s : PmS) (l : List Nat) : Prop where
 ok : PlOk p s.nl
 on : On s
 en : sents s p = some l
 tb : ∀ t, p.pa ≤ t → t < p.pa + tblN p → s.bad t = false
 w : PmOk s
theorem SpI.len {p : Pl} {s : PmS} {l : List Nat} (i : SpI p s l) : l.length ≤ p.ps := (entsTo_some _ _ i.en).1
theorem On.val {s : PmS} (o : On s) {w : Nat} (hw : w < 8 * s.nl) : pval s w = s.media w := by unfold pval; rw [o.buf w hw]
theorem tbl_fit {p : Pl} {n : Nat} (ok : PlOk p n) {k : Nat} (hk : k < p.ps) : 8 * p.pa + k < 8 * n ∧ (8 * p.pa + k) / 8 < p.pa + tblN p ∧ p.pa ≤ (8 * p.pa + k) / 8 := by
 have fit := ok.fit
 unfold sizeN tblN at fit
 unfold tblN
 omega
theorem sents_eq {p : Pl} {s s' : PmS} (ok : PlOk p s.nl) (o : On s) (o' : On s') (nl : s'.nl = s.nl) (h : ∀ k, k < p.ps → s'.media (8 * p.pa + k) = s.media (8 * p.pa + k)) : sents s' p = sents s p := by
 unfold sents
 refine entsTo_congr _ fun k hk => ?_
 have := (tbl_fit ok hk).1
 unfold twd
 rw [o'.val (by rw [nl]; exact this), o.val this, h k hk]
theorem PlOk.of {p : Pl} {n m : Nat} (ok : PlOk p n) (e : m = n) : PlOk p m := by rw [e]; exact ok
theorem lnput_bad {s : PmS} {a : Nat} {b : ByteArray} (o : On s) (ha : a < s.nl) (hb : b.size = 64) : (lnput s (a : Int) b).2.bad = s.bad := (o.put ha hb).1.bd
theorem lnputw_bad {s : PmS} {a k : Nat} {v : Int} (o : On s) (ha : a < s.nl) (hk : k < 8) : (lnputw s (a : Int) (k : Int) v).2.bad = s.bad := (o.putw ha hk).1.bd
theorem On.put0 {s : PmS} {a : Nat} {b : ByteArray} (o : On s) (ha : a < s.nl) (hb : b.size = 64) (h0 : (lnput s (a : Int) b).1 = 0) :
  On (lnput s (a : Int) b).2 ∧ ∀ w, w < 8 * s.nl → (lnput s (a : Int) b).2.media w = if w / 8 = a ∧ s.bad a = false then ((wordAt b (w % 8) : Nat) : Int) else s.media w := by
 obtain ⟨t, r⟩ := o.put ha hb
 rcases r with ⟨_, r1, r2⟩ | r
 ·refine ⟨⟨r1, t.f0, fun w hw => (r2 w (by rw [lnput_nl] at hw; exact hw)).1⟩, fun w hw => ?_⟩
  rw [(r2 w hw).2]
  by_cases e : w / 8 = a
  ·by_cases eb : s.bad a = false
   ·rw [if_pos ⟨decide_eq_true e, by rw [e]; exact eb⟩, if_pos ⟨e, eb⟩]; unfold putM; rw [if_pos e]
   ·rw [if_neg (fun h => eb (by rw [← e]; exact h.2)), if_neg (fun h => eb h.2)]
  ·rw [if_neg (fun h => e (of_decide_eq_true h.1)), if_neg (fun h => e h.1)]
 ·rw [h0] at r; cases r.1
theorem On.putw0 {s : PmS} {a k : Nat} {v : Int} (o : On s) (ha : a < s.nl) (hk : k < 8) (h0 : (lnputw s (a : Int) (k : Int) v).1 = 0) :
  On (lnputw s (a : Int) (k : Int) v).2 ∧ ∀ w, w < 8 * s.nl → (lnputw s (a : Int) (k : Int) v).2.media w = if w = 8 * a + k ∧ s.bad a = false then v else s.media w := by
 obtain ⟨t, r⟩ := o.putw (v := v) ha hk
 rcases r with ⟨_, r1, r2⟩ | r
 ·refine ⟨⟨r1, t.f0, fun w hw => (r2 w (by rw [lnputw_nl] at hw; exact hw)).1⟩, fun w hw => ?_⟩
  rw [(r2 w hw).2]
  by_cases e : w = 8 * a + k
  ·have ew : w / 8 = a := by omega
   by_cases eb : s.bad a = false
   ·rw [if_pos ⟨decide_eq_true e, by rw [ew]; exact eb⟩, if_pos ⟨e, eb⟩]; unfold fset; rw [if_pos e]
   ·rw [if_neg (fun h => eb (by rw [← ew]; exact h.2)), if_neg (fun h => eb h.2)]
  ·rw [if_neg (fun h => e (of_decide_eq_true h.1)), if_neg (fun h => e h.1)]
 ·rw [h0] at r; cases r.1
theorem On.put6 {s : PmS} {a : Nat} {b : ByteArray} (o : On s) (ha : a < s.nl) (hb : b.size = 64) (h0 : (lnput s (a : Int) b).1 ≠ 0) : (lnput s (a : Int) b).1 = 6 ∧ (lnput s (a : Int) b).2.off = true ∧
  ∀ ks, On (pboot (lnput s (a : Int) b).2 ks) ∧ ∀ w, w < 8 * s.nl → (pboot (lnput s (a : Int) b).2 ks).media w = s.media w ∨ (w / 8 = a ∧ s.bad a = false ∧ (pboot (lnput s (a : Int) b).2 ks).media w = ((wordAt b (w % 8) : Nat) : Int)) := by
 obtain ⟨t, r⟩ := o.put ha hb
 rcases r with r | r
 ·exact absurd r.1 h0
 ·refine ⟨r.1, r.2, fun ks => ⟨(t.boot ks).2, fun w hw => ?_⟩⟩
  rcases (t.boot ks).1.med w hw with h | ⟨h1, h2⟩
  ·exact .inl h
  ·unfold putM at h2
   by_cases e : w / 8 = a
   ·rw [if_pos e] at h2; exact .inr ⟨e, by rw [← e]; exact h1, h2⟩
   ·rw [if_neg e] at h2; exact .inl h2
theorem On.putw6 {s : PmS} {a k : Nat} {v : Int} (o : On s) (ha : a < s.nl) (hk : k < 8) (h0 : (lnputw s (a : Int) (k : Int) v).1 ≠ 0) : (lnputw s (a : Int) (k : Int) v).1 = 6 ∧ (lnputw s (a : Int) (k : Int) v).2.off = true ∧
  ∀ ks, On (pboot (lnputw s (a : Int) (k : Int) v).2 ks) ∧ ∀ w, w < 8 * s.nl → (pboot (lnputw s (a : Int) (k : Int) v).2 ks).media w = s.media w ∨ (w = 8 * a + k ∧ s.bad a = false ∧ (pboot (lnputw s (a : Int) (k : Int) v).2 ks).media w = v) := by
 obtain ⟨t, r⟩ := o.putw (v := v) ha hk
 rcases r with r | r
 ·exact absurd r.1 h0
 ·refine ⟨r.1, r.2, fun ks => ⟨(t.boot ks).2, fun w hw => ?_⟩⟩
  rcases (t.boot ks).1.med w hw with h | ⟨h1, h2⟩
  ·exact .inl h
  ·unfold fset at h2
   by_cases e : w = 8 * a + k
   ·rw [if_pos e] at h2; exact .inr ⟨e, by rw [show a = w / 8 by omega]; exact h1, h2⟩
   ·rw [if_neg e] at h2; exact .inl h2
section
variable {p : Pl} {s : PmS} {l : List Nat}
theorem SpI.put (i : SpI p s l) {a : Nat} {b : ByteArray} (h1 : p.pa + tblN p ≤ a) (ha : a < s.nl) (hb : b.size = 64) (h0 : (lnput s (a : Int) b).1 = 0) : SpI p (lnput s (a : Int) b).2 l := by
 obtain ⟨o, m⟩ := i.on.put0 ha hb h0
 refine ⟨i.ok.of (lnput_nl _ _ _), o, ?_, by rw [lnput_bad i.on ha hb]; exact i.tb, i.w.put _ _⟩
 rw [sents_eq i.ok i.on o (lnput_nl _ _ _) fun k hk => ?_]
 ·exact i.en
 ·obtain ⟨f1, f2, f3⟩ := tbl_fit i.ok hk
  rw [m _ f1, if_neg (fun h => by omega)]
theorem guardN_valid {lines x : Nat} (hx : x = 65535 ∨ (1 ≤ x ∧ x ≤ lines)) (hl : lines ≤ 1026) : validW lines (guardN x) = true ∧ guardN x ≠ 0 ∧ guardN x % 281474976710656 = x := by
 have e : guardN x % 281474976710656 = x := by rw [guardN_mod]; omega
 refine ⟨?_, fun h => by rw [h] at e; omega, e⟩
 unfold validW
 refine decide_eq_true ⟨?_, by rw [e]; exact hx⟩
 rw [← guardN_low (guardN x), guardN_mod, guardN_low]
theorem say_at (ok : PlOk p s.nl) {k : Nat} (hk : k < p.ps) : p.pa + k / 8 < s.nl ∧ 8 * (p.pa + k / 8) + k % 8 = 8 * p.pa + k ∧ p.pa ≤ p.pa + k / 8 ∧ p.pa + k / 8 < p.pa + tblN p := by
 have fit := ok.fit
 unfold sizeN tblN at fit
 unfold tblN
 omega
theorem SpI.say (i : SpI p s l) {x : Nat} (hx : x = 65535 ∨ (1 ≤ x ∧ x ≤ p.pl)) (hl : l.length < p.ps) (h0 : (lnputw s (p.pa + l.length / 8 : Nat) (l.length % 8 : Nat) (guardN x : Nat)).1 = 0) :
  SpI p (lnputw s (p.pa + l.length / 8 : Nat) (l.length % 8 : Nat) (guardN x : Nat)).2 (l ++ [x]) := by
 obtain ⟨g1, g2, g3, g4⟩ := say_at i.ok hl
 have h8 : l.length % 8 < 8 := Nat.mod_lt _ (by omega)
 obtain ⟨o, m⟩ := i.on.putw0 g1 h8 h0
 obtain ⟨v1, v2, v3⟩ := guardN_valid hx i.ok.l2
 have hlt := guardN_lt x
 refine ⟨i.ok.of (lnputw_nl _ _ _ _), o, ?_, by rw [lnputw_bad i.on g1 h8]; exact i.tb, i.w.putw _ _ ⟨by omega, by omega⟩⟩
 have hw : ∀ k, k < p.ps → twd (lnputw s (p.pa + l.length / 8 : Nat) (l.length % 8 : Nat) (guardN x : Nat)).2 p k = if k = l.length then guardN x else twd s p k := fun k hk => by
  obtain ⟨f1, f2, f3⟩ := tbl_fit i.ok hk
  unfold twd
  rw [o.val (by rw [lnputw_nl]; exact f1), m _ f1, g2, i.on.val f1]
  by_cases e : k = l.length
  ·rw [if_pos ⟨by omega, i.tb _ g3 g4⟩, if_pos e, Int.toNat_natCast]
  ·rw [if_neg (fun h => e (by omega)), if_neg e]
 have := entsTo_say (g := twd (lnputw s (p.pa + l.length / 8 : Nat) (l.length % 8 : Nat) (guardN x : Nat)).2 p) i.en hl (by rw [hw _ hl, if_pos rfl]; exact v1) (by rw [hw _ hl, if_pos rfl]; exact v2) fun j hj hne => by rw [hw j hj, if_neg hne]
 rw [hw _ hl, if_pos rfl, v3] at this
 exact this
theorem SpI.boot_put (i : SpI p s l) {a : Nat} {b : ByteArray} (h1 : p.pa + tblN p ≤ a) (ha : a < s.nl) (hb : b.size = 64) (h0 : (lnput s (a : Int) b).1 ≠ 0) (ks : List Bool) : SpI p (pboot (lnput s (a : Int) b).2 ks) l := by
 obtain ⟨-, -, h⟩ := i.on.put6 ha hb h0
 obtain ⟨o, m⟩ := h ks
 have nl : (pboot (lnput s (a : Int) b).2 ks).nl = s.nl := lnput_nl _ _ _
 refine ⟨i.ok.of nl, o, ?_, ?_, (i.w.put _ _).boot ks⟩
 ·rw [sents_eq i.ok i.on o nl fun k hk => ?_]
  ·exact i.en
  ·obtain ⟨f1, f2, f3⟩ := tbl_fit i.ok hk
   rcases m _ f1 with h | ⟨h, _⟩
   ·exact h
   ·omega
 ·show ∀ t, p.pa ≤ t → t < p.pa + tblN p → (lnput s (a : Int) b).2.bad t = false
  rw [lnput_bad i.on ha hb]; exact i.tb
theorem SpI.boot_say (i : SpI p s l) {x : Nat} (hx : x = 65535 ∨ (1 ≤ x ∧ x ≤ p.pl)) (hl : l.length < p.ps) (h0 : (lnputw s (p.pa + l.length / 8 : Nat) (l.length % 8 : Nat) (guardN x : Nat)).1 ≠ 0) (ks : List Bool) :
  SpI p (pboot (lnputw s (p.pa + l.length / 8 : Nat) (l.length % 8 : Nat) (guardN x : Nat)).2 ks) l ∨ SpI p (pboot (lnputw s (p.pa + l.length / 8 : Nat) (l.length % 8 : Nat) (guardN x : Nat)).2 ks) (l ++ [x]) := by
 obtain ⟨g1, g2, g3, g4⟩ := say_at i.ok hl
 have h8 : l.length % 8 < 8 := Nat.mod_lt _ (by omega)
 obtain ⟨-, -, h⟩ := i.on.putw6 g1 h8 h0
 obtain ⟨o, m⟩ := h ks
 obtain ⟨v1, v2, v3⟩ := guardN_valid hx i.ok.l2
 have hlt := guardN_lt x
 have nl : (pboot (lnputw s (p.pa + l.length / 8 : Nat) (l.length % 8 : Nat) (guardN x : Nat)).2 ks).nl = s.nl := lnputw_nl _ _ _ _
 have wk : PmOk (pboot (lnputw s (p.pa + l.length / 8 : Nat) (l.length % 8 : Nat) (guardN x : Nat)).2 ks) := (i.w.putw _ _ ⟨by omega, by omega⟩).boot ks
 have tb : ∀ t, p.pa ≤ t → t < p.pa + tblN p → (pboot (lnputw s (p.pa + l.length / 8 : Nat) (l.length % 8 : Nat) (guardN x : Nat)).2 ks).bad t = false := by
  show ∀ t, p.pa ≤ t → t < p.pa + tblN p → (lnputw s (p.pa + l.length / 8 : Nat) (l.length % 8 : Nat) (guardN x : Nat)).2.bad t = false
  rw [lnputw_bad i.on g1 h8]; exact i.tb
 generalize pboot (lnputw s (p.pa + l.length / 8 : Nat) (l.length % 8 : Nat) (guardN x : Nat)).2 ks = s' at o m nl wk tb
 have same : ∀ k, k < p.ps → k ≠ l.length → s'.media (8 * p.pa + k) = s.media (8 * p.pa + k) := fun k hk hne => by
  obtain ⟨f1, f2, f3⟩ := tbl_fit i.ok hk
  rcases m _ f1 with h | ⟨h, _⟩
  ·exact h
  ·omega
 have f1 := (tbl_fit i.ok hl).1
 rcases m _ f1 with h | ⟨_, _, h⟩
 ·left
  refine ⟨i.ok.of nl, o, ?_, tb, wk⟩
  rw [sents_eq i.ok i.on o nl fun k hk => ?_]
  ·exact i.en
  ·by_cases e : k = l.length
   ·rw [e]; exact h
   ·exact same k hk e
 ·right
  refine ⟨i.ok.of nl, o, ?_, tb, wk⟩
  have hw : ∀ k, k < p.ps → twd s' p k = if k = l.length then guardN x else twd s p k := fun k hk => by
   have f1 := (tbl_fit i.ok hk).1
   unfold twd
   rw [o.val (by rw [nl]; exact f1), i.on.val f1]
   by_cases e : k = l.length
   ·rw [if_pos e, e, h, Int.toNat_natCast]
   ·rw [if_neg e, same k hk e]
  have := entsTo_say (g := twd s' p) i.en hl (by rw [hw _ hl, if_pos rfl]; exact v1) (by rw [hw _ hl, if_pos rfl]; exact v2) fun j hj hne => by rw [hw j hj, if_neg hne]
  rw [hw _ hl, if_pos rfl, v3] at this
  exact this
def Res (p : Pl) (n : Nat) (r : Int × PmS × List Nat) : Prop :=
 r.2.1.nl = n ∧ ((((r.1 = 0 ∨ r.1 = 10) ∧ SpI p r.2.1 r.2.2)) ∨ (r.1 = 6 ∧ r.2.1.off = true ∧ PmOk r.2.1 ∧ ∀ ks, ∃ l', SpI p (pboot r.2.1 ks) l'))
theorem spar_fit (ok : PlOk p s.nl) {k : Nat} (hk : k < p.ps) : sparN p k < s.nl ∧ p.pa + tblN p ≤ sparN p k := by
 have fit := ok.fit
 unfold sizeN at fit
 unfold sparN
 omega
theorem sretire_res {i : Nat} {b : ByteArray} (hi : i < p.pl) (hb : b.size = 64) : ∀ (m : Nat) (s : PmS) (l : List Nat), l.length + m = p.ps → SpI p s l → Res p s.nl (sretire p i b m s l)
 | 0, s, l, _, w => ⟨rfl, .inl ⟨.inr rfl, w⟩⟩
 | m + 1, s, l, hm, w => by
  obtain ⟨f1, f2⟩ := spar_fit w.ok (show l.length < p.ps by omega)
  unfold sretire
  by_cases h0 : (lnput s (sparN p l.length : Nat) b).1 = 0
  ·rw [if_pos h0]
   have w1 := w.put f2 f1 hb h0
   have nl1 := lnput_nl s (sparN p l.length : Nat) b
   generalize (lnput s (sparN p l.length : Nat) b).2 = s1 at w1 nl1
   by_cases ht : took s1 (sparN p l.length) b = true
   ·rw [if_pos ht]
    have hx : i + 1 = 65535 ∨ (1 ≤ i + 1 ∧ i + 1 ≤ p.pl) := .inr ⟨by omega, by omega⟩
    refine ⟨(lnputw_nl _ _ _ _).trans nl1, ?_⟩
    by_cases h2 : (lnputw s1 (p.pa + l.length / 8 : Nat) (l.length % 8 : Nat) (guardN (i + 1) : Nat)).1 = 0
    ·left
     rw [if_pos h2]
     exact ⟨.inl h2, w1.say hx (by omega) h2⟩
    ·right
     obtain ⟨g1, g2, g3, g4⟩ := say_at w1.ok (show l.length < p.ps by omega)
     have h6 := w1.on.putw6 g1 (Nat.mod_lt _ (by omega)) h2
     have hlt := guardN_lt (i + 1)
     have hlt2 := guardN_lt 65535
     exact ⟨h6.1, h6.2.1, w1.w.putw _ _ ⟨by omega, by omega⟩, fun ks => by
      rcases w1.boot_say hx (by omega) h2 ks with h | h
      ·exact ⟨_, h⟩
      ·exact ⟨_, h⟩⟩
   ·rw [if_neg ht]
    have hx : (65535 : Nat) = 65535 ∨ (1 ≤ (65535 : Nat) ∧ (65535 : Nat) ≤ p.pl) := .inl rfl
    by_cases h2 : (lnputw s1 (p.pa + l.length / 8 : Nat) (l.length % 8 : Nat) (guardN 65535 : Nat)).1 = 0
    ·rw [if_pos h2]
     have w2 := w1.say hx (by omega) h2
     have := sretire_res hi hb m _ (l ++ [65535]) (by simp; omega) w2
     rw [lnputw_nl, nl1] at this
     exact this
    ·rw [if_neg h2]
     refine ⟨(lnputw_nl _ _ _ _).trans nl1, .inr ?_⟩
     obtain ⟨g1, g2, g3, g4⟩ := say_at w1.ok (show l.length < p.ps by omega)
     have h6 := w1.on.putw6 g1 (Nat.mod_lt _ (by omega)) h2
     have hlt := guardN_lt (i + 1)
     have hlt2 := guardN_lt 65535
     exact ⟨h6.1, h6.2.1, w1.w.putw _ _ ⟨by omega, by omega⟩, fun ks => by
      rcases w1.boot_say hx (by omega) h2 ks with h | h
      ·exact ⟨_, h⟩
      ·exact ⟨_, h⟩⟩
  ·rw [if_neg h0]
   have h6 := w.on.put6 f1 hb h0
   exact ⟨lnput_nl _ _ _, .inr ⟨h6.1, h6.2.1, w.w.put _ _, fun ks => ⟨l, w.boot_put f2 f1 hb h0 ks⟩⟩⟩
theorem withW_size (b : ByteArray) (k v : Nat) : (withW b k v).size = 64 := lnbytes_size _
theorem SpI.putw (i : SpI p s l) {a k : Nat} {v : Int} (h1 : p.pa + tblN p ≤ a) (ha : a < s.nl) (hk : k < 8) (hv : R64 v) (h0 : (lnputw s (a : Int) (k : Int) v).1 = 0) : SpI p (lnputw s (a : Int) (k : Int) v).2 l := by
 obtain ⟨o, m⟩ := i.on.putw0 ha hk h0
 refine ⟨i.ok.of (lnputw_nl _ _ _ _), o, ?_, by rw [lnputw_bad i.on ha hk]; exact i.tb, i.w.putw _ _ hv⟩
 rw [sents_eq i.ok i.on o (lnputw_nl _ _ _ _) fun j hj => ?_]
 ·exact i.en
 ·obtain ⟨f1, f2, f3⟩ := tbl_fit i.ok hj
  rw [m _ f1, if_neg (fun h => by omega)]
theorem SpI.boot_putw (i : SpI p s l) {a k : Nat} {v : Int} (h1 : p.pa + tblN p ≤ a) (ha : a < s.nl) (hk : k < 8) (hv : R64 v) (h0 : (lnputw s (a : Int) (k : Int) v).1 ≠ 0) (ks : List Bool) : SpI p (pboot (lnputw s (a : Int) (k : Int) v).2 ks) l := by
 obtain ⟨-, -, h⟩ := i.on.putw6 ha hk h0
 obtain ⟨o, m⟩ := h ks
 have nl : (pboot (lnputw s (a : Int) (k : Int) v).2 ks).nl = s.nl := lnputw_nl _ _ _ _
 refine ⟨i.ok.of nl, o, ?_, ?_, (i.w.putw _ _ hv).boot ks⟩
 ·rw [sents_eq i.ok i.on o nl fun j hj => ?_]
  ·exact i.en
  ·obtain ⟨f1, f2, f3⟩ := tbl_fit i.ok hj
   rcases m _ f1 with h | ⟨h, _⟩
   ·exact h
   ·omega
 ·show ∀ t, p.pa ≤ t → t < p.pa + tblN p → (lnputw s (a : Int) (k : Int) v).2.bad t = false
  rw [lnputw_bad i.on ha hk]; exact i.tb
theorem lnget_on (o : On s) {a : Nat} (ha : a < s.nl) : lnget s (a : Int) = (lnbytes fun k => (s.media (8 * a + k)).toNat, 0) := by
 unfold lnget
 rw [o.off, if_neg (by simp), if_pos (by unfold lthere; exact if_pos (by omega)), Int.toNat_natCast]
 congr 1
 unfold lnbytes
 rw [textN_congr 8]
 intro k hk
 show (pval s (8 * a + k)).toNat = _
 rw [o.val (by omega)]
theorem swritew_res (w : SpI p s l) {i k v : Nat} (hi : i < p.pl) (hk : k < 8) (hv : v < 18446744073709551616) : Res p s.nl (swritew p l s i k v) := by
 obtain ⟨f1, f2⟩ := whN_lt w.ok w.len hi
 have hlen := w.len
 have hr : R64 ((v : Nat) : Int) := ⟨by omega, by omega⟩
 unfold swritew
 rw [lnget_on w.on f1, if_pos rfl]
 by_cases h0 : (lnputw s (whN p l i : Nat) (k : Nat) (v : Nat)).1 = 0
 ·rw [if_pos h0]
  have w1 := w.putw f2 f1 hk hr h0
  have hb := withW_size (lnbytes fun k => (s.media (8 * whN p l i + k)).toNat) k v
  dsimp only
  generalize withW (lnbytes fun k => (s.media (8 * whN p l i + k)).toNat) k v = b at hb ⊢
  by_cases ht : took (lnputw s (whN p l i : Nat) (k : Nat) (v : Nat)).2 (whN p l i) b = true
  ·rw [if_pos ht]; exact ⟨lnputw_nl _ _ _ _, .inl ⟨.inl rfl, w1⟩⟩
  ·rw [if_neg ht]
   have := sretire_res hi hb (p.ps - l.length) _ l (by omega) w1
   rw [lnputw_nl] at this
   exact this
 ·rw [if_neg h0]
  have h6 := w.on.putw6 f1 hk h0
  exact ⟨lnputw_nl _ _ _ _, .inr ⟨h6.1, h6.2.1, w.w.putw _ _ hr, fun ks => ⟨l, w.boot_putw f2 f1 hk hr h0 ks⟩⟩⟩
end
end Go.Gb
namespace Go.Gb
open Go.Proofs IntWalk
structure MapG {α : Type} (g : α → Value) (n : Nat) (f : Nat → Option α) (l : List (Int × Value × Nat)) (c : Nat) : Prop where
 im : IMap l c
 ent : ∀ e ∈ l, ∃ w x, w < n ∧ e.1 = (w : Int) ∧ f w = some x ∧ e.2.1 = g x
 has : ∀ w x, f w = some x → ∃ b, ((w : Int), g x, b) ∈ l
section
variable {α : Type} {g : α → Value} {n : Nat} {f : Nat → Option α} {l : List (Int × Value × Nat)} {c : Nat}
theorem MapG.found (m : MapG g n f l c) {k : Nat} {j : Nat} {v : Value} {b : Nat} (h : mnth l j = some ((k : Int), v, b)) : ∃ x, f k = some x ∧ v = g x := by
 obtain ⟨w, x, h1, h2, h3, h4⟩ := m.ent _ (List.mem_of_getElem? h)
 have : w = k := by have : (k : Int) = (w : Int) := h2; omega
 subst this
 exact ⟨x, h3, h4⟩
theorem MapG.lacks (m : MapG g n f l c) {k : Nat} (h : ∀ (j : Nat) (v : Value) (b : Nat), ¬ mnth l j = some ((k : Int), v, b)) : f k = none := by
 cases e : f k with
 | none => rfl
 | some x =>
  obtain ⟨b, hb⟩ := m.has k x e
  obtain ⟨j, hj⟩ := List.getElem?_of_mem hb
  exact absurd hj (h j _ _)
theorem MapG.set (m : MapG g n f l c) {k j : Nat} {v : Value} {b : Nat} (hk : k < n) (hj : mnth l j = some ((k : Int), v, b)) (x : α) : MapG g n (fset f k (some x)) (mset l j ((k : Int), g x, b)) c := by
 have hlt : j < l.length := (List.getElem?_eq_some_iff.1 hj).1
 refine ⟨m.im.set hj, fun e he => ?_, fun w y hw => ?_⟩
 ·obtain ⟨i, hi⟩ := List.getElem?_of_mem he
  have hi' : (l.set j ((k : Int), g x, b))[i]? = some e := hi
  rw [List.getElem?_set] at hi'
  by_cases e1 : j = i
  ·rw [if_pos e1, if_pos hlt] at hi'
   cases hi'
   exact ⟨k, x, hk, rfl, by simp [fset], rfl⟩
  ·rw [if_neg e1] at hi'
   obtain ⟨w, y, h1, h2, h3, h4⟩ := m.ent e (List.mem_of_getElem? hi')
   refine ⟨w, y, h1, h2, ?_, h4⟩
   unfold fset
   rw [if_neg]
   ·exact h3
   ·intro e2
    subst e2
    have h5 : mnth l i = some ((w : Int), e.2.1, e.2.2) := by show l[i]? = _; rw [hi', ← h2]
    exact e1 (m.im.key hj h5)
 ·unfold fset at hw
  by_cases e1 : w = k
  ·rw [if_pos e1] at hw
   cases hw
   subst e1
   exact ⟨b, List.mem_of_getElem? (i := j) (by show (l.set j _)[j]? = _; rw [List.getElem?_set_self hlt])⟩
  ·rw [if_neg e1] at hw
   obtain ⟨b', hb'⟩ := m.has w y hw
   obtain ⟨i, hi⟩ := List.getElem?_of_mem hb'
   refine ⟨b', List.mem_of_getElem? (i := i) ?_⟩
   show (l.set j _)[i]? = _
   rw [List.getElem?_set_ne, hi]
   intro e2
   subst e2
   have : ((w : Int)) = (k : Int) := by
    have := hi.symm.trans hj
    cases this; rfl
   omega
theorem MapG.add (m : MapG g n f l c) {k : Nat} (hk : k < n) (hn8 : n ≤ 4294967296) (hn : ∀ (j : Nat) (v : Value) (b : Nat), ¬ mnth l j = some ((k : Int), v, b)) (x : α) : MapG g n (fset f k (some x)) (madd l ((k : Int), g x, c)) (c + 1) := by
 refine ⟨m.im.add (by omega) hn, fun e he => ?_, fun w y hw => ?_⟩
 ·rcases List.mem_append.1 he with h | h
  ·obtain ⟨w, y, h1, h2, h3, h4⟩ := m.ent e h
   refine ⟨w, y, h1, h2, ?_, h4⟩
   unfold fset
   rw [if_neg]
   ·exact h3
   ·intro e2
    subst e2
    obtain ⟨j, hj⟩ := List.getElem?_of_mem h
    exact hn j e.2.1 e.2.2 (by rw [← h2]; exact hj)
  ·simp at h; subst h
   exact ⟨k, x, hk, rfl, by simp [fset], rfl⟩
 ·unfold fset at hw
  by_cases e1 : w = k
  ·rw [if_pos e1] at hw
   cases hw
   subst e1
   exact ⟨c, by show _ ∈ l ++ _; simp⟩
  ·rw [if_neg e1] at hw
   obtain ⟨b', hb'⟩ := m.has w y hw
   exact ⟨b', List.mem_append.2 (.inl hb')⟩
theorem MapG.empty : MapG g n (fun _ => none) [] 0 := ⟨⟨by simp, by simp, by simp, by simp⟩, by simp, fun _ _ h => by cases h⟩
end
end Go.Gb
namespace Go.Gb
open Go.Proofs IntWalk
theorem row8_get {f : Nat → Int} {k : Nat} (hk : k < 8) : lget [.int .u64 (f 0), .int .u64 (f 1), .int .u64 (f 2), .int .u64 (f 3), .int .u64 (f 4), .int .u64 (f 5), .int .u64 (f 6), .int .u64 (f 7)] ((k : Int).toNat * 1) = some (.int .u64 (f k)) := by
 rw [show (k : Int).toNat * 1 = k by omega]
 match k, hk with
 | 0, _ => rfl
 | 1, _ => rfl
 | 2, _ => rfl
 | 3, _ => rfl
 | 4, _ => rfl
 | 5, _ => rfl
 | 6, _ => rfl
 | 7, _ => rfl
theorem K113.c2 {s : ByteArray} {h : Heap} {Q : QT} (hq : ∀ f : Nat → Int, (s.size = 64 → f = fun k => ((wordAt s k : Nat) : Int)) →
  Q (.tuple #[.agg #[.int .u64 (f 0), .int .u64 (f 1), .int .u64 (f 2), .int .u64 (f 3), .int .u64 (f 4), .int .u64 (f 5), .int .u64 (f 6), .int .u64 (f 7)], .int .i64 (if s.size = 64 then 0 else 2)]) h) : CT 113 #[.string s] h Q := by
 refine K113.c (fun h1 => ?_) (fun h1 => ?_)
 ·have := hq (fun k => ((wordAt s k : Nat) : Int)) (fun _ => rfl)
  rw [if_pos h1] at this; exact this
 ·have := hq (fun _ => 0) (fun h => absurd h h1)
  rw [if_neg h1] at this; exact this
section
variable {F : Nat → Prop} {h : Heap} {d : Nat} {s : PmS} {Q : QT}
theorem K114.c {a : Int} (w : PmD F h d s) (hq : Q (.int .i64 (lthere s a)) h) : CT 114 #[.pointer (some ⟨d, 0, none⟩), .int .i64 a] h Q := by
 apply K114.ok
 unfold lthere at hq
 refine xsIf_f rfl (xsIf_intro (fun h1 => ?_) fun h1 => K76.c w ⟨_, rfl, xsIf_intro (fun h2 => ?_) fun h2 => ?_⟩)
 ·have h1 := of_decide_eq_true h1
  rw [if_neg (by omega)] at hq; exact hq
 ·have h2 := of_decide_eq_true h2
  rw [if_neg (by omega)] at hq; exact hq
 ·have h1 := of_decide_eq_false h1
  have h2 := of_decide_eq_false h2
  rw [if_pos (by omega)] at hq; exact hq
theorem K116.c {a : Int} (w : PmD F h d s) (lv : Live F h) (hq : ∀ h', PmD F h' d (llast s a).2 → Step F h F h' → Q (.int .i64 (llast s a).1) h') : CT 116 #[.pointer (some ⟨d, 0, none⟩), .int .i64 a] h Q := by
 apply K116.ok
 unfold llast at hq
 refine K152.c w fun h1 w1 st1 => ⟨_, rfl, xsIf_intro (fun e => ?_) fun e => ?_⟩
 ·have e := of_decide_eq_true e
  rw [if_neg e] at hq
  exact hq h1 w1 st1
 ·have e : (pflush s a).1 = 0 := by simpa using e
  rw [if_pos e] at hq
  exact K153.c w1 (st1.dom lv) fun h2 w2 st2 => ⟨_, rfl, hq h2 w2 (st1.trans st2)⟩
theorem PmD.bnd (w : PmD F h d s) : s.nl ≤ 8192 := by obtain ⟨_, _, _, _, _, _, w⟩ := w; exact w.hi
theorem K84.L10.c {a : Nat} {f : Nat → Nat} : ∀ (j k : Nat) (h : Heap) (s : PmS), k + j = 8 → a < s.nl → PmD F h d s → Live F h →
  (∀ h', PmD F h' d (lstores a f j k s).2 → Step F h F h' → Q (.int .i64 (lstores a f j k s).1) h') →
  K84.L10 (some ⟨d, 0, none⟩) (a : Int) (f 0 : Nat) (f 1 : Nat) (f 2 : Nat) (f 3 : Nat) (f 4 : Nat) (f 5 : Nat) (f 6 : Nat) (f 7 : Nat) (k : Int) h Q := by
 intro j
 induction j with
 | zero =>
  intro k h s hk ha w lv hq
  apply K84.L10.ok
  refine xsIf_f (decide_eq_false (by omega)) (K116.c w lv fun h' w' st => ⟨_, rfl, hq h' w' st⟩)
 | succ j ih =>
  intro k h s hk ha w lv hq
  apply K84.L10.ok
  unfold K84.L10.wp
  have hi := w.bnd
  have e1 : IntKind.i64.wrap (IntKind.i64.wrap ((a : Int) * 8) + k) = ((8 * a + k : Nat) : Int) := by rw [i64_in ((a : Int) * 8) (by omega), i64_in _ (by omega)]; omega
  have e2 : IntKind.i64.wrap ((k : Int) + 1) = ((k + 1 : Nat) : Int) := by rw [i64_in _ (by omega)]; omega
  rw [e1, e2]
  refine xsIf_t (decide_eq_true (by omega)) ⟨by omega, ((f k : Nat) : Int), row8_get (f := fun k => ((f k : Nat) : Int)) (by omega), K115.c w fun h1 w1 st1 => ⟨_, rfl, ?_⟩⟩
  unfold lstores at hq
  refine xsIf_intro (fun e => ?_) fun e => ?_
  ·have e := of_decide_eq_true e
   rw [if_neg e] at hq
   exact hq h1 w1 st1
  ·have e : (pstore s ((8 * a + k : Nat) : Int) (f k : Nat)).1 = 0 := by simpa using e
   rw [if_pos e] at hq
   exact ih (k + 1) h1 _ (by omega) (by rw [pstore_nl]; exact ha) w1 (st1.dom lv) fun h' w' st => hq h' w' (st1.trans st)
theorem lthere_ok {a : Int} (h : lthere s a = 0) : ∃ n : Nat, a = n ∧ n < s.nl := by
 unfold lthere at h
 split at h
 ·rename_i h1; exact ⟨a.toNat, by omega, by omega⟩
 ·cases h
theorem lthere_no {a : Int} (h : lthere s a ≠ 0) : lthere s a = 3 := by
 unfold lthere at h ⊢
 split at h
 ·exact absurd rfl h
 ·rename_i h1; rw [if_neg h1]
theorem K84.c {a : Int} {b : ByteArray} (w : PmD F h d s) (lv : Live F h) (hq : ∀ h', PmD F h' d (lnput s a b).2 → Step F h F h' → Q (.int .i64 (lnput s a b).1) h') :
  CT 84 #[.pointer (some ⟨d, 0, none⟩), .int .i64 a, .string b] h Q := by
 apply K84.ok
 refine K113.c2 fun f hf => ⟨_, _, _, _, _, _, _, _, _, rfl, K114.c w ⟨_, rfl, ?_⟩⟩
 unfold lnput at hq
 by_cases hb : b.size = 64
 ·rw [if_pos hb] at hq ⊢
  obtain rfl := hf hb
  by_cases ht : lthere s a = 0
  ·rw [if_pos ht] at hq
   rw [ht]
   obtain ⟨n, rfl, hn⟩ := lthere_ok ht
   exact xsIf_f (by decide) (xsIf_f (by decide) (xsIf_f (by decide) (K84.L10.c (f := wordAt b) 8 0 h s (by omega) hn w lv hq)))
  ·rw [if_neg ht] at hq
   rw [lthere_no ht]
   exact xsIf_f (by decide) (xsIf_f (by decide) (xsIf_t (by decide) (hq h w (Step.refl _ _))))
 ·rw [if_neg hb] at hq ⊢
  by_cases ht : lthere s a = 0
  ·rw [ht]
   exact xsIf_f (by decide) (xsIf_t (by decide) (hq h w (Step.refl _ _)))
  ·rw [lthere_no ht]
   exact xsIf_f (by decide) (xsIf_t (by decide) (hq h w (Step.refl _ _)))
theorem K156.c {a k v : Int} (w : PmD F h d s) (lv : Live F h) (hq : ∀ h', PmD F h' d (lnputw s a k v).2 → Step F h F h' → Q (.int .i64 (lnputw s a k v).1) h') :
  CT 156 #[.pointer (some ⟨d, 0, none⟩), .int .i64 a, .int .i64 k, .int .u64 v] h Q := by
 apply K156.ok
 have hi := w.bnd
 refine K114.c w ⟨_, rfl, ?_⟩
 unfold lnputw at hq
 have n1 : decide (lthere s a = 1) = false := by
  by_cases ht : lthere s a = 0
  ·rw [ht]; rfl
  ·rw [lthere_no ht]; rfl
 refine xsIf_f n1 (xsIf_intro (fun h1 => ?_) fun h1 => xsIf_intro (fun h2 => ?_) fun h2 => xsIf_intro (fun h3 => ?_) fun h3 => ?_)
 ·have h1 := of_decide_eq_true h1
  rw [if_neg (by omega)] at hq; exact hq h w (Step.refl _ _)
 ·have h2 := of_decide_eq_true h2
  rw [if_neg (by omega)] at hq; exact hq h w (Step.refl _ _)
 ·have h1 := of_decide_eq_false h1
  have h2 := of_decide_eq_false h2
  have h3 : ¬ lthere s a = 0 := by simpa using h3
  rw [if_pos (by omega), if_neg h3] at hq
  rw [lthere_no h3]; exact hq h w (Step.refl _ _)
 ·have h1 := of_decide_eq_false h1
  have h2 := of_decide_eq_false h2
  have h3 : lthere s a = 0 := by simpa using h3
  rw [if_pos (by omega), if_pos h3] at hq
  obtain ⟨n, rfl, hn⟩ := lthere_ok h3
  have e1 : IntKind.i64.wrap (IntKind.i64.wrap ((n : Int) * 8) + k) = 8 * (n : Int) + k := by rw [i64_in ((n : Int) * 8) (by omega), i64_in _ (by omega)]; omega
  rw [e1]
  refine K115.c w fun h1 w1 st1 => ⟨_, rfl, xsIf_intro (fun e => ?_) fun e => ?_⟩
  ·have e := of_decide_eq_true e
   rw [if_neg e] at hq
   exact hq h1 w1 st1
  ·have e : (pstore s (8 * (n : Int) + k) v).1 = 0 := by simpa using e
   rw [if_pos e] at hq
   exact K116.c w1 (st1.dom lv) fun h' w' st => ⟨_, rfl, hq h' w' (st1.trans st)⟩
theorem pload_off {k : Int} (h : s.off = true) : pload s k = (0, 6) := by
 unfold pload pready; rw [h]; rfl
theorem pload_on {k : Nat} (h : s.off = false) (hk : k < 8 * s.nl) : pload s (k : Int) = (pval s k, 0) := by
 have e : pready s (k : Int) ((8 * s.nl : Nat) : Int) = 0 := by unfold pready; rw [h, if_neg (by simp)]; exact if_pos (by omega)
 unfold pload pval; rw [if_pos e, Int.toNat_natCast]; first | done | (cases s.buf k <;> rfl)
theorem K88.L6.c {a : Nat} (w : PmD F h d s) (ok : PmOk s) (ho : s.off = false) (ha : a < s.nl) (hq : Q (.tuple #[.string (lnbytes fun k => (pval s (8 * a + k)).toNat), .int .i64 0]) h) : ∀ (j k : Nat), k + j = 8 →
  K88.L6 (some ⟨d, 0, none⟩) (a : Int) (k : Int) (rowU 8 fun i => if i < k then pval s (8 * a + i) else 0) h Q := by
 have hi := w.bnd
 intro j
 induction j with
 | zero =>
  intro k hk
  apply K88.L6.ok
  have : k = 8 := by omega
  subst this
  have g : ∀ i, i < 8 → lget (rowU 8 fun i => if i < 8 then pval s (8 * a + i) else 0) i = some (.int .u64 ((pval s (8 * a + i)).toNat : Nat)) := fun i hi => by
   have hv := (ok.val (8 * a + i)).1
   have e : (((pval s (8 * a + i)).toNat : Nat) : Int) = pval s (8 * a + i) := by omega
   rw [e]
   have := row_get (n := 8) (fun i => Value.int .u64 (if i < 8 then pval s (8 * a + i) else 0)) hi
   rw [if_pos hi] at this; exact this
  have lt : ∀ i, (pval s (8 * a + i)).toNat < 18446744073709551616 := fun i => by have := ok.val (8 * a + i); unfold R64 at this; omega
  refine xsIf_f (decide_eq_false (by omega)) ⟨by simp, _, g 0 (by omega), _, g 1 (by omega), _, g 2 (by omega), _, g 3 (by omega), _, g 4 (by omega), _, g 5 (by omega), _, g 6 (by omega), _, g 7 (by omega), ?_⟩
  refine K127.c (lt 0) (lt 1) (lt 2) (lt 3) (lt 4) (lt 5) (lt 6) (lt 7) ⟨_, rfl, ?_⟩
  unfold lnbytes at hq
  rw [textN_eight] at hq
  exact hq
 | succ j ih =>
  intro k hk
  apply K88.L6.ok
  unfold K88.L6.wp
  have e1 : IntKind.i64.wrap (IntKind.i64.wrap ((a : Int) * 8) + k) = ((8 * a + k : Nat) : Int) := by rw [i64_in ((a : Int) * 8) (by omega), i64_in _ (by omega)]; omega
  have e2 : IntKind.i64.wrap ((k : Int) + 1) = ((k + 1 : Nat) : Int) := by rw [i64_in _ (by omega)]; omega
  rw [e1, e2]
  refine xsIf_t (decide_eq_true (by omega)) (K126.c w ⟨_, _, rfl, ?_⟩)
  rw [pload_on ho (by omega)]
  refine xsIf_f rfl ⟨by omega, by simp; omega, ?_⟩
  have et : 0 + (k : Int).toNat * 1 = k := by omega
  have : lput (rowU 8 fun i => if i < k then pval s (8 * a + i) else 0) k [.int .u64 (pval s (8 * a + k))] = rowU 8 fun i => if i < k + 1 then pval s (8 * a + i) else 0 := by
   show (rowU 8 _).set k _ = _
   rw [row_set (fun x : Int => Value.int .u64 x)]
   apply List.map_congr_left
   intro i _
   congr 1
   unfold fset
   dsimp only
   by_cases e : i = k
   ·rw [if_pos e, if_pos (by omega), e]
   ·rw [if_neg e]
    by_cases e2 : i < k
    ·rw [if_pos e2, if_pos (by omega)]
    ·rw [if_neg e2, if_neg (by omega)]
  rw [et, this]
  exact ih (k + 1) (by omega)
theorem K88.c {a : Int} (w : PmD F h d s) (ok : PmOk s) (hq : Q (.tuple #[.string (lnget s a).1, .int .i64 (lnget s a).2]) h) : CT 88 #[.pointer (some ⟨d, 0, none⟩), .int .i64 a] h Q := by
 apply K88.ok
 unfold lnget at hq
 refine K114.c w ⟨_, rfl, ?_⟩
 by_cases ho : s.off = true
 ·rw [if_pos ho] at hq
  have go : K88.J4 (some ⟨d, 0, none⟩) a h Q := by
   apply K88.J4.ok
   apply K88.L6.ok
   refine xsIf_t rfl (K126.c w ⟨_, _, rfl, ?_⟩)
   rw [pload_off ho]
   exact xsIf_t rfl hq
  refine xsIf_intro (fun _ => K125.c w ⟨_, rfl, xsIf_f (by rw [ho]; rfl) go⟩) fun _ => go
 ·have ho : s.off = false := by simpa using ho
  rw [ho, if_neg (by simp)] at hq
  by_cases ht : lthere s a = 0
  ·rw [if_pos ht] at hq
   rw [ht]
   obtain ⟨n, rfl, hn⟩ := lthere_ok ht
   refine xsIf_f (by decide) ?_
   apply K88.J4.ok
   exact K88.L6.c w ok ho hn hq 8 0 (by omega)
  ·rw [if_neg ht] at hq
   rw [lthere_no ht]
   exact xsIf_t (by decide) (K125.c w ⟨_, rfl, xsIf_t (by rw [ho]; rfl) hq⟩)
theorem K123.c {a : Int} {b : ByteArray} (w : PmD F h d s) (hy : lntook s a b → Q (.bool true) h) (hn : ¬ lntook s a b → Q (.bool false) h) : CT 123 #[.pointer (some ⟨d, 0, none⟩), .int .i64 a, .string b] h Q := by
 apply K123.ok
 have hi := w.bnd
 refine K113.c2 fun f hf => ⟨_, _, _, _, _, _, _, _, _, rfl, ?_⟩
 by_cases hb : b.size = 64
 ·rw [if_pos hb]
  obtain rfl := hf hb
  refine xsIf_f (by decide) (K114.c w ⟨_, rfl, ?_⟩)
  by_cases ht : lthere s a = 0
  ·rw [ht]
   obtain ⟨n, rfl, hnl⟩ := lthere_ok ht
   refine xsIf_f (by decide) ?_
   apply K123.J4.ok
   have loop : ∀ (j k : Nat), k + j = 8 → (∀ i, i < k → s.media (8 * n + i) = ((wordAt b i : Nat) : Int)) → K123.L5 (some ⟨d, 0, none⟩) (n : Int) (wordAt b 0 : Nat) (wordAt b 1 : Nat) (wordAt b 2 : Nat) (wordAt b 3 : Nat) (wordAt b 4 : Nat) (wordAt b 5 : Nat) (wordAt b 6 : Nat) (wordAt b 7 : Nat) (k : Int) h Q := by
    intro j
    induction j with
    | zero =>
     intro k hk hm
     apply K123.L5.ok
     exact xsIf_f (decide_eq_false (by omega)) (hy ⟨hb, ht, fun k hk => hm k (by omega)⟩)
    | succ j ih =>
     intro k hk hm
     apply K123.L5.ok
     unfold K123.L5.wp
     have e1 : IntKind.i64.wrap (IntKind.i64.wrap ((n : Int) * 8) + k) = ((8 * n + k : Nat) : Int) := by rw [i64_in ((n : Int) * 8) (by omega), i64_in _ (by omega)]; omega
     have e2 : IntKind.i64.wrap ((k : Int) + 1) = ((k + 1 : Nat) : Int) := by rw [i64_in _ (by omega)]; omega
     rw [e1, e2]
     refine xsIf_t (decide_eq_true (by omega)) ⟨by omega, ((wordAt b k : Nat) : Int), row8_get (f := fun k => ((wordAt b k : Nat) : Int)) (by omega), K159.c w ⟨_, rfl, ?_⟩⟩
     rw [if_pos (by omega), Int.toNat_natCast]
     refine xsIf_intro (fun e => hn fun t => ?_) fun e => ih (k + 1) (by omega) fun i hi => ?_
     ·have := t.2.2 k (by omega)
      rw [Int.toNat_natCast] at this
      exact of_decide_eq_true e this
     ·have e : s.media (8 * n + k) = ((wordAt b k : Nat) : Int) := by simpa using e
      by_cases e3 : i = k
      ·rw [e3]; exact e
      ·exact hm i (by omega)
   exact loop 8 0 (by omega) (fun i hi => by omega)
  ·rw [lthere_no ht]
   exact xsIf_t (by decide) (hn fun t => ht t.2.1)
 ·rw [if_neg hb]
  exact xsIf_t (by decide) (hn fun t => hb t.1)
end
end Go.Gb
namespace Go.Gb
open Go.Proofs IntWalk
structure Wd where
 media : Int
 there : Bool
 v : Int
 fl : Bool
def Wd.cell (q : Wd) : Nat → Value
 | 0 => .int .u64 q.media
 | 1 => .bool q.there
 | 2 => .int .u64 q.v
 | _ => .bool q.fl
end Go.Gb
namespace Go.Gb
open Go.Proofs IntWalk
def lastN (c : Nat → Bool) (k : Nat) : List Nat := (List.range k).filter c
section
variable {F : Nat → Prop} {m wb rb bb : Nat} {s : PmS} {Q : Value → Heap → Prop} {ch : Nat → Bool} {cb : Nat}
def pl (s : PmS) (ch : Nat → Bool) (i k : Nat) : PmS := { s with media := lmedia s (lastN ch k), buf := lbuf s (lastN ch k), wear := lwear s (lastN ch (8 * i)) }
end
end Go.Gb
namespace Go.Gb
open Go.Proofs IntWalk
section
variable {F : Nat → Prop} {h : Heap} {m wb rb bb : Nat} {q : Nat → Wd} {s : PmS} {Q : Value → Heap → Prop} {cb : Nat}
theorem Blk.bset {n : Nat} {f : Nat → Bool} {i : Nat} {b : Bool} (w : Blk h cb (rowB n f)) : Blk (h.put cb (0 + i * 1) [.bool b]) cb (rowB n (fset f i b)) := by
 have := w.put (0 + i * 1) [.bool b]
 rw [setL_one, show 0 + i * 1 = i by omega, row_set (fun x : Bool => Value.bool x)] at this
 rw [show 0 + i * 1 = i by omega]; exact this
end
end Go.Gb
namespace Go.Gb
open Go.Proofs IntWalk
end Go.Gb
namespace Go.Gb
open Go.Proofs IntWalk
end Go.Gb
namespace Go.Gb
open Go.Proofs IntWalk
theorem get8_mid {s : ByteArray} {k : Nat} : get8 (sext s ((8 * k : Nat) : Int) ((8 * k + 8 : Nat) : Int)) = wordAt s k := by
 unfold get8 wordAt chunk sext
 congr 1
 rw [Int.toNat_natCast, Int.toNat_natCast, ByteArray.data_extract]
 have e : (s.data.extract (8 * k) (8 * k + 8)).toList = (s.data.toList.drop (8 * k)).take 8 := by
  rw [Array.toList_extract, List.extract_eq_take_drop]
  rw [show 8 * k + 8 - 8 * k = 8 by omega]
 rw [e, List.take_take]; rfl
section
variable {F : Nat → Prop} {h : Heap} {m : Nat} {s : PmS} {Q : Value → Heap → Prop}
theorem cnt8 : cnt 8 = 8 := by decide
end
end Go.Gb
namespace Go.Gb
open Go.Proofs IntWalk
end Go.Gb
namespace Go.Gb
open Go.Proofs IntWalk
end Go.Gb
