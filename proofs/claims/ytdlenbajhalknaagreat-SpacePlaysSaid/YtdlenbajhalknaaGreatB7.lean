/- Own texts for the seat: Hh1 Fk1 Ft2 Fp2 Hh2 Hh3 Hh4 Hh5 Hh6 Hh7 Hh8 Hh9 Hh10 Hh12 Hh15 Se0 Se1 Se2 Se3 Se4 Hh13 Se5 Se6 Fk2 Hh17 Se7 Se8. -/
import Derived.Test.YtdlenbajhalknaaGreatB6
import Derived.Test.YtdlenbajhalknaaGreatB5
set_option linter.unusedVariables false
set_option linter.unusedSimpArgs false
set_option linter.unnecessarySimpa false
set_option linter.deprecated false
namespace Go.Gb
open Go.Proofs IntWalk
theorem withW_word {b : ByteArray} {k v j : Nat} (hj : j < 8) (hv : v < 18446744073709551616) : wordAt (withW b k v) j = if j = k then v else wordAt b j :=
 wordAt_text (f := fun j => if j = k then v else wordAt b j) hj (by split; exact hv; exact wordAt_lt _ _)
theorem entW_lt (f m : Nat) : entW f m < 18446744073709551616 := guardN_lt _
section
variable {q : HPl} {x x' : FS} {fm mv : Nat → Nat}
theorem HT.same (w : HT q x fm mv) (fi : FI q.p x') (nl : x'.s.nl = x.s.nl) (ho : ∀ l, l < q.p.R * q.p.pl → fr q.p x' l = fr q.p x l) :
  HT q x' fm mv ∧ ∀ i k, i < q.g → k < 8 → hr q x' fm i k = hr q x fm i k :=
 ⟨⟨by rw [nl]; exact w.ok, fi, fun i hi => by rw [ho _ (w.tline hi).2]; exact w.en i hi, w.lo, w.inj, w.mb⟩, fun i k hi hk => ho _ (w.pline hi hk).1⟩
theorem HT.page (w : HT q x fm mv) (fi : FI q.p x') (nl : x'.s.nl = x.s.nl) {i k : Nat} (hi : i < q.g) (hk : k < 8) (ho : ∀ l, l < q.p.R * q.p.pl → l ≠ 8 * fm i + k → fr q.p x' l = fr q.p x l) :
  HT q x' fm mv ∧ ∀ j m, j < q.g → m < 8 → ¬ (j = i ∧ m = k) → hr q x' fm j m = hr q x fm j m := by
 refine ⟨⟨by rw [nl]; exact w.ok, fi, fun j hj => ?_, w.lo, w.inj, w.mb⟩, fun j m hj hm hne => ?_⟩
 ·have h1 := w.tline hj
  have h2 := w.pline hi hk
  rw [ho _ h1.2 (by omega)]; exact w.en j hj
 ·refine ho _ (w.pline hj hm).1 fun e => hne ?_
  have : fm j = fm i := by omega
  exact ⟨w.inj j i hj hi this, by omega⟩
theorem HT.table (w : HT q x fm mv) (fi : FI q.p x') (nl : x'.s.nl = x.s.nl) {i d m : Nat} (hi : i < q.g) (hd : isFree q fm d) (hm : m < 4294967296) (ho : ∀ l, l < q.p.R * q.p.pl → l ≠ i / 8 → fr q.p x' l = fr q.p x l)
  (ht : fr q.p x' (i / 8) = withW (fr q.p x (i / 8)) (i % 8) (entW d m)) :
  HT q x' (fset fm i d) (fset mv i m) ∧ ∀ j k, j < q.g → k < 8 → hr q x' (fset fm i d) j k = if j = i then fr q.p x (8 * d + k) else hr q x fm j k := by
 obtain ⟨d1, d2, d3⟩ := hd
 have hl := w.ok.lines
 have ti := w.tline hi
 refine ⟨⟨by rw [nl]; exact w.ok, fi, fun j hj => ?_, fun j hj => ?_, fun j j' hj hj' e => ?_, fun j hj => ?_⟩, fun j k hj hk => ?_⟩
 ·have h1 := w.tline hj
  by_cases e : j / 8 = i / 8
  ·rw [e, ht, withW_word (Nat.mod_lt _ (by omega)) (entW_lt _ _)]
   by_cases e2 : j = i
   ·subst e2
    rw [if_pos rfl]
    unfold fset
    rw [if_pos rfl, if_pos rfl]
   ·rw [if_neg (by omega), ← e, w.en j hj]
    unfold fset
    rw [if_neg e2, if_neg e2]
  ·rw [ho _ h1.2 e, w.en j hj]
   have e2 : j ≠ i := fun h => e (by rw [h])
   unfold fset
   rw [if_neg e2, if_neg e2]
 ·unfold fset
  by_cases e : j = i
  ·rw [if_pos e]; exact ⟨d1, d2⟩
  ·rw [if_neg e]; exact w.lo j hj
 ·unfold fset at e
  by_cases e1 : j = i
  ·by_cases e2 : j' = i
   ·rw [e1, e2]
   ·rw [if_pos e1, if_neg e2] at e
    exact absurd e.symm (d3 j' hj')
  ·by_cases e2 : j' = i
   ·rw [if_neg e1, if_pos e2] at e
    exact absurd e (d3 j hj)
   ·rw [if_neg e1, if_neg e2] at e
    exact w.inj j j' hj hj' e
 ·unfold fset
  by_cases e : j = i
  ·rw [if_pos e]; exact hm
  ·rw [if_neg e]; exact w.mb j hj
 ·unfold hr fset
  by_cases e : j = i
  ·rw [if_pos e, if_pos e]
   exact ho _ (by omega) (by omega)
  ·rw [if_neg e, if_neg e]
   have := w.pline hj hk
   exact ho _ this.1 (by omega)
theorem hlook_out {y : HS} (w : HY q y) {i : Nat} (hi : i < q.g) : LkOut q y (hlook q y i) := by
 unfold hlook
 by_cases hw : wearF q y.x (y.fm i) ≤ wearF q y.x (q.tgt y)
 ·rw [if_pos hw]
  exact ⟨rfl, .inl ⟨rfl, w, fun _ _ _ _ => rfl⟩⟩
 ·rw [if_neg hw]
  have hd := HPl.tgt_free w
  generalize q.tgt y = d at hd
  have hl := w.ok.lines
  have li := w.lo i hi
  have hH := w.ok.H_le
  have c := hcopy_out (q := q) (src := y.fm i) (dst := d) (by omega) (by have := hd.2.1; omega) (hd.2.2 i hi) 8 0 y.x (by omega) w.fi y.x rfl (fun _ _ _ => rfl) fun i hi => by omega
  generalize hcopy q (y.fm i) d 8 0 y.x = r at c
  obtain ⟨n1, c⟩ := c
  unfold hcopied
  rcases c with ⟨e, fi1, o1, c1⟩ | ⟨e, fi1, o1⟩ | ⟨e, off, pm, m⟩
  ·rw [if_pos e]
   obtain ⟨w1, h1⟩ := HT.keep w fi1 n1 hd o1
   have ti := w1.tline hi
   have hm : (y.mv i + 1) % 4294967296 < 4294967296 := Nat.mod_lt _ (by omega)
   have o2 := fWriteWord_out fi1 (l := i / 8) (k := i % 8) (v := entW d ((y.mv i + 1) % 4294967296)) ti.2 (Nat.mod_lt _ (by omega)) (entW_lt _ _)
   have n2 := (fWriteWord_st fi1 ((i / 8 : Nat) : Int) ((i % 8 : Nat) : Int) (v := entW d ((y.mv i + 1) % 4294967296)) (entW_lt _ _)).2
   unfold hmove
   generalize (y.mv i + 1) % 4294967296 = mm at hm o2 n2 ⊢
   generalize fWriteWord q.p r.2 ((i / 8 : Nat) : Int) ((i % 8 : Nat) : Int) (entW d mm) = r2 at o2 n2 ⊢
   have done : ∀ x', FI q.p x' → x'.s.nl = r.2.s.nl → (∀ l, l < q.p.R * q.p.pl → l ≠ i / 8 → fr q.p x' l = fr q.p r.2 l) → fr q.p x' (i / 8) = withW (fr q.p r.2 (i / 8)) (i % 8) (entW d mm) →
     HT q x' (fset y.fm i d) (fset y.mv i mm) ∧ ∀ j k, j < q.g → k < 8 → hr q x' (fset y.fm i d) j k = hr q y.x y.fm j k := fun x' fi' nl' ho ht => by
    obtain ⟨a, b⟩ := HT.table w1 fi' nl' hi hd hm ho ht
    refine ⟨a, fun j k hj hk => ?_⟩
    rw [b j k hj hk]
    by_cases ej : j = i
    ·subst ej
     rw [if_pos rfl, c1 k hk]; rfl
    ·rw [if_neg ej]; exact h1 j k hj hk
   rcases o2 with ⟨e2, fi2, m2⟩ | ⟨e2, fi2, m2⟩ | ⟨e2, off2, pm2, m2⟩
   ·rw [if_pos e2]
    obtain ⟨a, b⟩ := done r2.2 fi2 n2 (fun l hl hne => by rw [m2 l hl, if_neg hne]) (by rw [m2 _ ti.2, if_pos rfl])
    exact ⟨n2.trans n1, .inl ⟨rfl, a, b⟩⟩
   ·rw [if_neg (by omega)]
    obtain ⟨a, b⟩ := HT.same w1 fi2 n2 m2
    exact ⟨n2.trans n1, .inr (.inl ⟨e2, a, fun j k hj hk => (b j k hj hk).trans (h1 j k hj hk)⟩)⟩
   ·rw [if_neg (by omega)]
    refine ⟨n2.trans n1, .inr (.inr ⟨e2, off2, pm2, fun ks => ?_⟩)⟩
    obtain ⟨x', e3, z3, fi3, m3, y3⟩ := m2 ks
    have n3 : x'.s.nl = r.2.s.nl := by rw [e3]; exact n2
    rcases y3 with y3 | y3
    ·obtain ⟨a, b⟩ := HT.same w1 fi3 n3 fun l hl => by
      by_cases el : l = i / 8
      ·rw [el]; exact y3
      ·exact m3 l hl el
     exact ⟨x', _, _, e3, z3, a, fun j k hj hk => (b j k hj hk).trans (h1 j k hj hk)⟩
    ·obtain ⟨a, b⟩ := done x' fi3 n3 m3 y3
     exact ⟨x', _, _, e3, z3, a, b⟩
  ·rw [if_neg (by omega)]
   obtain ⟨a, b⟩ := HT.keep w fi1 n1 hd o1
   exact ⟨n1, .inr (.inl ⟨e, a, b⟩)⟩
  ·rw [if_neg (by omega)]
   refine ⟨n1, .inr (.inr ⟨e, off, pm, fun ks => ?_⟩)⟩
   obtain ⟨x', e3, z3, fi3, m3⟩ := m ks
   obtain ⟨a, b⟩ := HT.keep w fi3 (by rw [e3]; exact n1) hd m3
   exact ⟨x', _, _, e3, z3, a, b⟩
def HOut (q : HPl) (y : HS) (i k : Nat) (B : ByteArray) (M : ByteArray → Prop) (r : Int × HS) : Prop :=
 r.2.x.s.nl = y.x.s.nl ∧ ((r.1 = 0 ∧ HY q r.2 ∧ ∀ j m, j < q.g → m < 8 → hr q r.2.x r.2.fm j m = if j = i ∧ m = k then B else hr q y.x y.fm j m) ∨
 (r.1 = 10 ∧ HY q r.2 ∧ ∀ j m, j < q.g → m < 8 → hr q r.2.x r.2.fm j m = hr q y.x y.fm j m) ∨
 (r.1 = 6 ∧ r.2.x.s.off = true ∧ PmOk r.2.x.s ∧ ∀ ks, ∃ x' fm' mv', x'.s = pboot r.2.x.s ks ∧ (∀ k, x'.n k = 0) ∧ HT q x' fm' mv' ∧ (∀ j m, j < q.g → m < 8 → ¬ (j = i ∧ m = k) → hr q x' fm' j m = hr q y.x y.fm j m) ∧ M (hr q x' fm' i k)))
def FlF (q : HPl) (F : FS → Nat → Int × FS) (T : ByteArray → ByteArray) (M : ByteArray → ByteArray → Prop) : Prop :=
 ∀ x l, FI q.p x → l < q.p.R * q.p.pl → FlOut q.p x l (T (fr q.p x l)) (M (fr q.p x l)) (F x l) ∧ (F x l).2.s.nl = x.s.nl
theorem FlF.line (q : HPl) {B : ByteArray} (hB : B.size = 64) : FlF q (fun x l => fWrite q.p x (l : Int) B) (fun _ => B) (fun b y => mixP b B y) :=
 fun x l w hl => ⟨fWrite_out w hl hB, (fWrite_st w (l : Int) B).2⟩
theorem FlF.word (q : HPl) {k v : Nat} (hk : k < 8) (hv : v < 18446744073709551616) : FlF q (fun x l => fWriteWord q.p x (l : Int) (k : Int) v) (fun b => withW b k v) (fun b y => y = b ∨ y = withW b k v) :=
 fun x l w hl => ⟨fWriteWord_out w hl hk hv, (fWriteWord_st w (l : Int) (k : Int) hv).2⟩
theorem hput_out {F : FS → Nat → Int × FS} {T : ByteArray → ByteArray} {M : ByteArray → ByteArray → Prop} {y : HS} (hF : FlF q F T M) (w : HY q y) {i k : Nat} (hi : i < q.g) (hk : k < 8) :
  HOut q y i k (T (hr q y.x y.fm i k)) (M (hr q y.x y.fm i k)) (hput F y i k) := by
 have pl := w.pline hi hk
 obtain ⟨o, n1⟩ := hF y.x (8 * y.fm i + k) w.fi pl.1
 unfold hput
 generalize F y.x (8 * y.fm i + k) = r at o n1
 unfold hput2
 rcases o with ⟨e, fi1, m1⟩ | ⟨e, fi1, m1⟩ | ⟨e, off, pm, m1⟩
 ·obtain ⟨a, b⟩ := HT.page w fi1 n1 hi hk fun l hl hne => by rw [m1 l hl, if_neg hne]
  refine ⟨n1, .inl ⟨e, a, fun j m hj hm => ?_⟩⟩
  by_cases ej : j = i ∧ m = k
  ·rw [if_pos ej, ej.1, ej.2]
   exact (m1 _ pl.1).trans (if_pos rfl)
  ·rw [if_neg ej]; exact b j m hj hm ej
 ·obtain ⟨a, b⟩ := HT.same w fi1 n1 m1
  exact ⟨n1, .inr (.inl ⟨e, a, b⟩)⟩
 ·refine ⟨n1, .inr (.inr ⟨e, off, pm, fun ks => ?_⟩)⟩
  obtain ⟨x', e3, z3, fi3, m3, y3⟩ := m1 ks
  obtain ⟨a, b⟩ := HT.page w fi3 (by rw [e3]; exact n1) hi hk m3
  exact ⟨x', _, _, e3, z3, a, b, y3⟩
theorem hwrite_out {F : FS → Nat → Int × FS} {T : ByteArray → ByteArray} {M : ByteArray → ByteArray → Prop} {y : HS} (hF : FlF q F T M) (w : HY q y) {i k : Nat} (hi : i < q.g) (hk : k < 8) (hM : M (hr q y.x y.fm i k) (hr q y.x y.fm i k)) :
  HOut q y i k (T (hr q y.x y.fm i k)) (M (hr q y.x y.fm i k)) (hwrite q F y i k) := by
 unfold hwrite
 by_cases hh : q.heat ≤ y.ht i
 ·rw [if_pos hh]
  obtain ⟨n1, o⟩ := hlook_out w hi
  rcases o with ⟨e, w1, m1⟩ | ⟨e, w1, m1⟩ | ⟨e, off, pm, m1⟩
  ·rw [if_pos e]
   obtain ⟨n2, o⟩ := hput_out hF w1 hi hk
   rw [m1 i k hi hk] at o
   refine ⟨n2.trans n1, ?_⟩
   rcases o with ⟨e2, w2, m2⟩ | ⟨e2, w2, m2⟩ | ⟨e2, off2, pm2, m2⟩
   ·refine .inl ⟨e2, w2, fun j m hj hm => ?_⟩
    rw [m2 j m hj hm]
    split
    ·rfl
    ·exact m1 j m hj hm
   ·exact .inr (.inl ⟨e2, w2, fun j m hj hm => (m2 j m hj hm).trans (m1 j m hj hm)⟩)
   ·refine .inr (.inr ⟨e2, off2, pm2, fun ks => ?_⟩)
    obtain ⟨x', fm', mv', e3, z3, w3, m3, y3⟩ := m2 ks
    exact ⟨x', fm', mv', e3, z3, w3, fun j m hj hm hne => (m3 j m hj hm hne).trans (m1 j m hj hm), y3⟩
  ·rw [if_neg (by omega)]
   exact ⟨n1, .inr (.inl ⟨e, w1, m1⟩)⟩
  ·rw [if_neg (by omega)]
   refine ⟨n1, .inr (.inr ⟨e, off, pm, fun ks => ?_⟩)⟩
   obtain ⟨x', fm', mv', e3, z3, w3, m3⟩ := m1 ks
   exact ⟨x', fm', mv', e3, z3, w3, fun j m hj hm _ => m3 j m hj hm, by rw [m3 i k hi hk]; exact hM⟩
 ·rw [if_neg hh]
  exact hput_out hF w hi hk
structure Cls (p : FPl) (I : PmS → Prop) (A : Int → Prop) : Prop where
 z : A 0
 line : ∀ x l B, FI p x → I x.s → l < p.R * p.pl → B.size = 64 → I (fWrite p x ((l : Nat) : Int) B).2.s ∧ A (fWrite p x ((l : Nat) : Int) B).1
 word : ∀ x l k v, FI p x → I x.s → l < p.R * p.pl → k < 8 → v < 18446744073709551616 → I (fWriteWord p x ((l : Nat) : Int) ((k : Nat) : Int) v).2.s ∧ A (fWriteWord p x ((l : Nat) : Int) ((k : Nat) : Int) v).1
theorem hcopy_cls {I : PmS → Prop} {A : Int → Prop} (c : Cls q.p I A) {src dst : Nat} (hd : 8 * dst + 8 ≤ q.p.R * q.p.pl) : ∀ (j k : Nat) (x : FS), k + j = 8 → FI q.p x → I x.s → I (hcopy q src dst j k x).2.s ∧ A (hcopy q src dst j k x).1
 | 0, k, x, _, w, i => ⟨i, c.z⟩
 | j + 1, k, x, hk, w, i => by
  have hB : (fr q.p x (8 * src + k)).size = 64 := fr_size _ _ _
  have o := fWrite_out w (l := 8 * dst + k) (by omega) hB
  obtain ⟨i1, a1⟩ := c.line x (8 * dst + k) _ w i (by omega) hB
  unfold hcopy
  generalize fWrite q.p x ((8 * dst + k : Nat) : Int) (fr q.p x (8 * src + k)) = r at o i1 a1
  by_cases e : r.1 = 0
  ·rw [if_pos e]
   have w1 : FI q.p r.2 := by
    rcases o with o | o | o
    ·exact o.2.1
    ·exact o.2.1
    ·rw [e] at o; cases o.1
   exact hcopy_cls c hd j (k + 1) r.2 (by omega) w1 i1
  ·rw [if_neg e]; exact ⟨i1, a1⟩
theorem hlook_cls {I : PmS → Prop} {A : Int → Prop} (c : Cls q.p I A) {y : HS} (w : HY q y) (hI : I y.x.s) {i : Nat} (hi : i < q.g) : I (hlook q y i).2.x.s ∧ A (hlook q y i).1 := by
 unfold hlook
 by_cases hw : wearF q y.x (y.fm i) ≤ wearF q y.x (q.tgt y)
 ·rw [if_pos hw]; exact ⟨hI, c.z⟩
 ·rw [if_neg hw]
  have hd := HPl.tgt_free w
  generalize q.tgt y = d at hd
  have hl := w.ok.lines
  have li := w.lo i hi
  have h1 := hcopy_out (q := q) (src := y.fm i) (dst := d) (by omega) (by have := hd.2.1; omega) (hd.2.2 i hi) 8 0 y.x (by omega) w.fi y.x rfl (fun _ _ _ => rfl) fun i hi => by omega
  have h2 := hcopy_cls (q := q) c (src := y.fm i) (dst := d) (by have := hd.2.1; omega) 8 0 y.x (by omega) w.fi hI
  generalize hcopy q (y.fm i) d 8 0 y.x = r at h1 h2
  unfold hcopied
  by_cases e : r.1 = 0
  ·rw [if_pos e]
   have fi1 : FI q.p r.2 := by
    rcases h1.2 with o | o | o
    ·exact o.2.1
    ·exact o.2.1
    ·rw [e] at o; cases o.1
   have h3 := c.word r.2 (i / 8) (i % 8) (entW d ((y.mv i + 1) % 4294967296)) fi1 h2.1 (w.tline hi).2 (Nat.mod_lt _ (by omega)) (entW_lt _ _)
   generalize fWriteWord q.p r.2 ((i / 8 : Nat) : Int) ((i % 8 : Nat) : Int) (entW d ((y.mv i + 1) % 4294967296)) = r2 at h3
   unfold hmove
   by_cases e2 : r2.1 = 0
   ·rw [if_pos e2]; exact ⟨h3.1, c.z⟩
   ·rw [if_neg e2]; exact h3
  ·rw [if_neg e]; exact h2
theorem hwrite_cls {I : PmS → Prop} {A : Int → Prop} (c : Cls q.p I A) {F : FS → Nat → Int × FS} (cF : ∀ x l, FI q.p x → I x.s → l < q.p.R * q.p.pl → I (F x l).2.s ∧ A (F x l).1) {y : HS} (w : HY q y) (hI : I y.x.s) {i k : Nat} (hi : i < q.g) (hk : k < 8) :
  I (hwrite q F y i k).2.x.s ∧ A (hwrite q F y i k).1 := by
 have put : ∀ y, HY q y → I y.x.s → I (hput F y i k).2.x.s ∧ A (hput F y i k).1 := fun y w hI => by
  exact cF y.x _ w.fi hI (w.pline hi hk).1
 unfold hwrite
 by_cases hh : q.heat ≤ y.ht i
 ·rw [if_pos hh]
  have h1 := hlook_cls c w hI hi
  by_cases e : (hlook q y i).1 = 0
  ·rw [if_pos e]
   have w1 : HY q (hlook q y i).2 := by
    rcases (hlook_out w hi).2 with o | o | o
    ·exact o.2.1
    ·exact o.2.1
    ·rw [e] at o; cases o.1
   exact put _ w1 h1.1
  ·rw [if_neg e]; exact h1
 ·rw [if_neg hh]; exact put y w hI
end
theorem Cls.sd (p : FPl) : Cls p Sd (fun e => e = 0) := by
 refine ⟨rfl, fun x l B w sd hl hB => ?_, fun x l k v w sd hl hk hv => ?_⟩
 ·obtain ⟨x', e, _, s, _⟩ := fWrite_sound w sd hl hB
  rw [e]; exact ⟨s, rfl⟩
 ·obtain ⟨x', e, _, s, _⟩ := fWriteWord_sound w sd hl hk hv
  rw [e]; exact ⟨s, rfl⟩
theorem fput_fx {p : FPl} {x : FS} {f : RPl → PmS → List Nat → Nat → Int × PmS × List Nat} (w : FI p x) {l : Nat} (hl : l < p.R * p.pl) (hx : FFx (p.plan (p.reg l)) (f (p.plan (p.reg l)))) :
  Fx (p.plan (p.reg l)).pa ((p.plan (p.reg l)).pa + sizeN (p.plan (p.reg l)).bk) x.s (fput p f x l).2.s := by
 obtain ⟨hr, hp⟩ := FPl.at_line w.ok hl
 exact rwrite_fx (w.rg _ hr) (i := p.pos l) hp hx
theorem Cls.nb (p : FPl) : Cls p Nb (fun e => e = 0 ∨ e = 6) := by
 refine ⟨.inl rfl, fun x l B w nb hl hB => ⟨?_, fWrite_nb w nb hl hB⟩, fun x l k v w nb hl hk hv => ⟨?_, fWriteWord_nb w nb hl hk hv⟩⟩
 ·rw [fWrite_eq hl hB]; exact (fput_fx w hl (FFx.write _ hB)).nb nb
 ·rw [fWriteWord_eq hl hk]; exact (fput_fx w hl (FFx.word _ hk hv)).nb nb
theorem FF0.word (p : RPl) {j v : Nat} (hj : j < 8) (hv : v < 18446744073709551616) : FF0 p (fun s l k => swritew p.bk l s k j v) := fun _ _ _ hk sp f => swritew_ff0 sp f hk hj hv
theorem Cls.f0 (p : FPl) : Cls p F0 (fun e => e = 0 ∨ e = 10) := by
 refine ⟨.inl rfl, fun x l B w f0 hl hB => ?_, fun x l k v w f0 hl hk hv => ?_⟩
 ·obtain ⟨a, _, _, o⟩ := fWrite_f0 w f0 hl hB
  refine ⟨a, ?_⟩
  rcases o with o | o
  ·exact .inl o.1
  ·exact .inr o.1
 ·obtain ⟨hr, hp⟩ := FPl.at_line w.ok hl
  rw [fWriteWord_eq hl hk]
  obtain ⟨z1, z2⟩ := rwrite_f0 (w.rg _ hr) (show F0 (x.at (p.reg l)).s from f0) hp (FF0.word _ hk hv)
  refine ⟨z1, ?_⟩
  rcases z2 with z | z
  ·exact .inl z
  ·exact .inr z.1
end Go.Gb
namespace Go.Gb
open Go.Proofs IntWalk
theorem SpI.brk2 {p : Pl} {s : PmS} {l : List Nat} {k : Nat} (sp : SpI p s l) (hk : k < p.pa ∨ p.pa + tblN p ≤ k) : SpI p { s with bad := fset s.bad k true } l :=
 ⟨sp.ok, ⟨sp.on.off, sp.on.f0, sp.on.buf⟩, sp.en, fun t g1 g2 => by show fset s.bad k true t = false; unfold fset; rw [if_neg (by omega)]; exact sp.tb t g1 g2, sp.w.of rfl rfl⟩
theorem FI.brk {p : FPl} {x : FS} {k : Nat} (w : FI p x) (hk : ∀ r, r < p.R → k < (p.plan r).pa ∨ (p.plan r).pa + tblN (p.plan r).bk ≤ k) : FI p ⟨{ x.s with bad := fset x.s.bad k true }, x.l, x.g, x.n⟩ ∧ ∀ l, fr p ⟨{ x.s with bad := fset x.s.bad k true }, x.l, x.g, x.n⟩ l = fr p x l :=
 ⟨⟨w.ok, fun r hr => ((w.rg r hr).dev ((w.rg r hr).sp.brk2 (hk r hr)) rfl).1, w.hd⟩, fun _ => rfl⟩
theorem whF_brk {p : FPl} {x : FS} (w : FI p x) {l : Nat} (hl : l < p.R * p.pl) : ∀ r, r < p.R → whF p x l < (p.plan r).pa ∨ (p.plan r).pa + tblN (p.plan r).bk ≤ whF p x l := fun r hr => by
 obtain ⟨_, a2, a3⟩ := whF_at w hl
 by_cases e : r = p.reg l
 ·rw [e]; exact .inr a2
 ·have h := plan_apart (p := p) e
  rw [plan_size, plan_size] at h
  have ht : tblN (p.plan r).bk ≤ p.z := by
   show (p.ps + 7) / 8 ≤ (p.ps + 7) / 8 + (p.pl + 2) + p.ps
   omega
  omega
end Go.Gb
namespace Go.Gb
open Go.Proofs IntWalk
section
variable {F : Nat → Prop} {Gs : Nat → Nat → Prop} {bs rs : Nat → Nat} {hc h0 h h1 : Heap} {d f : Nat} {p : FPl} {x : FS} {Q : Value → Heap → Prop} {s0 s1 A : ByteArray} {c0 c1 c2 : Int} {ka : Option Addr} {ks : List Bool} {kc : Nat}
theorem FI.fuse {n : Int} (w : FI p x) (hn : 0 ≤ n) : FI p ⟨{ x.s with fuse := n }, x.l, x.g, x.n⟩ ∧ ∀ l, fr p ⟨{ x.s with fuse := n }, x.l, x.g, x.n⟩ l = fr p x l :=
 ⟨⟨w.ok, fun r hr => by
  have sp := (w.rg r hr).sp
  exact ((w.rg r hr).dev (s' := { x.s with fuse := n }) ⟨sp.ok, ⟨sp.on.off, hn, sp.on.buf⟩, sp.en, sp.tb, sp.w.of rfl rfl⟩ rfl).1, w.hd⟩, fun _ => rfl⟩
end
end Go.Gb
namespace Go.Gb
open Go.Proofs IntWalk
section
variable {h0 h h1 h2 : Heap} {F : Nat → Prop} {Gs : Nat → Nat → Prop} {bs rs : Nat → Nat} {hc : Heap} {d f : Nat} {M : Nat → Prop} {qs : Nat → Nat} {hq0 : Heap} {m q : Nat} {p : FPl} {x x' : FS} {Q : QT}
 {a : Option Addr} {n cp : Nat} {N t : Int} {x0 x1 x2 x3 : Int} {xs : ByteArray} {ka : Option Addr} {kc : Nat} {ks : List Bool}
theorem K166.c {k : Nat} (w : FD F Gs bs rs hc h d f p x) (hk : k < p.R) (hq : Q (.int .u32 (x.g k).s2) h) : CT 166 #[.pointer (some ⟨f, 0, none⟩), .int .i64 (k : Int)] h Q := by
 obtain ⟨a1, c1, a2, c2, e0, e1, e2, e3, e4, e5, e6, r1, r2⟩ := w.cell
 have g := w.region hk
 apply K166.ok
 apply K187.ok
 refine xsIf_f rfl (xsIf_f (decide_eq_false (by omega)) ⟨f, 0, rfl, _, _, _, e5, xsIf_f (decide_eq_false (by omega)) ⟨f, 0, rfl, _, _, _, e5, by omega, ?_⟩⟩)
 refine reads_base r1 (by simp; omega) fun b1 o1 hc1 => ⟨some ⟨rs k, 0, none⟩, ?_, _, rfl, ?_⟩
 ·have := hc1 k (by simp; omega)
  rw [range_ptr hk] at this
  rw [show (k : Int).toNat * 1 = k * 1 by omega]; exact this
 ·exact K188.c g ⟨_, _, _, rfl, hq⟩
end
end Go.Gb
namespace Go.Gb
open Go.Proofs IntWalk
theorem entW_with {f : Nat} (hf : f < 65536) (m : Nat) : withV f 16 32 m = f + 65536 * (m % 4294967296) := by
 unfold withV
 rw [if_pos (by unfold mayP; omega)]
 show withN f 16 32 m = _
 apply Nat.eq_of_testBit_eq
 intro i
 rw [withN_test (by omega) (by omega), show f + 65536 * (m % 4294967296) = 2 ^ 16 * (m % 2 ^ 32) + f from Nat.add_comm _ _, Nat.testBit_two_pow_mul_add _ (show f < 2 ^ 16 from hf)]
 by_cases h1 : i < 16
 ·rw [if_neg (by omega), if_pos h1]
 ·rw [if_neg h1, Nat.testBit_mod_two_pow]
  by_cases h2 : i < 48
  ·rw [if_pos ⟨by omega, by omega⟩, decide_eq_true (by omega), Bool.true_and]
  ·rw [if_neg (by omega), decide_eq_false (by omega), Bool.false_and]
   exact Nat.testBit_lt_two_pow (Nat.lt_of_lt_of_le hf (Nat.pow_le_pow_right (n := 2) (by omega) (by omega : 16 ≤ i)))
section
variable {h : Heap} {Q : QT}
theorem K58.c {f m : Nat} (hf : f < 65536) (hm : m < 18446744073709551616) (hq : Q (.int .u64 (entW f (m % 4294967296) : Nat)) h) : CT 58 #[.agg #[.int .i64 (f : Int), .int .u64 (m : Int)]] h Q := by
 apply K58.ok
 unfold K58.wp
 rw [u64_nat' (by omega)]
 refine K94.c (by omega) hm ⟨_, rfl, ?_⟩
 rw [entW_with hf]
 exact K93.c (by have := Nat.mod_lt m (show 0 < 4294967296 by omega); omega) ⟨_, rfl, hq⟩
theorem K104.any {w : Nat} (hw : w < 18446744073709551616) (hq : Q (.tuple #[.agg #[.int .i64 ((if guardN w = w then w % 281474976710656 else 0) % 65536 : Nat), .int .u64 ((if guardN w = w then w % 281474976710656 else 0) / 65536 % 4294967296 : Nat)], .bool (decide (guardN w = w))]) h) : CT 104 #[.int .u64 (w : Int)] h Q := by
 apply K104.ok
 refine K146.c hw ⟨_, _, rfl, ?_⟩
 have hx : (if guardN w = w then w % 281474976710656 else 0) < 18446744073709551616 := by split <;> omega
 generalize (if guardN w = w then w % 281474976710656 else 0) = x at hx hq
 refine K131.c hx ⟨_, rfl, K131.c hx ⟨_, rfl, ?_⟩⟩
 have e1 : fieldV x 0 16 = x % 65536 := by
  unfold fieldV
  rw [if_pos (by unfold mayP; omega)]
  unfold fieldN
  simp
 have e2 : fieldV x 16 32 = x / 65536 % 4294967296 := by
  unfold fieldV
  rw [if_pos (by unfold mayP; omega)]
  rfl
 rw [e1, e2, i64_in _ (by omega)]
 exact hq
theorem K104.c {f m : Nat} (hf : f < 65536) (hm : m < 4294967296) (hq : Q (.tuple #[.agg #[.int .i64 (f : Int), .int .u64 (m : Int)], .bool true]) h) : CT 104 #[.int .u64 (entW f m : Nat)] h Q := by
 refine K104.any (entW_lt _ _) ?_
 have e0 : guardN (entW f m) = entW f m := by
  have := guardN_low (entW f m)
  rw [← this]
  unfold entW
  rw [guardN_mod, guardN_low]
 have e1 : entW f m % 281474976710656 = f + 65536 * m := by unfold entW; rw [guardN_mod]; exact Nat.mod_eq_of_lt (by omega)
 rw [if_pos e0, decide_eq_true e0, e1, show (f + 65536 * m) % 65536 = f by omega, show (f + 65536 * m) / 65536 % 4294967296 = m by omega]
 exact hq
theorem K56.c {i : Nat} (hi : i < 65536) (hq : Q (.tuple #[.int .i64 (i / 8 : Nat), .int .i64 (i % 8 : Nat)]) h) : CT 56 #[.int .i64 (i : Int)] h Q := by
 apply K56.ok
 unfold K56.wp
 rw [iquo_i64 (by omega) (by omega) (by omega), show irem (i : Int) 8 = ((i % 8 : Nat) : Int) from irem_nat i 8]
 exact hq
end
def entL (g : Nat) (fm mv : Nat → Nat) : List Value := (List.range g).flatMap fun i => [.int .i64 (fm i : Nat), .int .u64 (mv i : Nat)]
def htL (g : Nat) (ht : Nat → Nat) : List Value := (List.range g).map fun i => .int .i64 (ht i : Nat)
def frL (l : List Nat) : List Value := ints .i64 (l.map fun (f : Nat) => (f : Int))
def P4 (pb tb hb fb : Nat) : Nat → Prop := fun k => k = pb ∨ k = tb ∨ k = hb ∨ k = fb
abbrev HF (F : Nat → Prop) (Gs : Nat → Nat → Prop) (rs : Nat → Nat) (R : Nat) (pb tb hb fb : Nat) : Nat → Prop := fun k => FF F Gs rs R k ∨ P4 pb tb hb fb k
structure HD (F : Nat → Prop) (Gs : Nat → Nat → Prop) (bs rs : Nat → Nat) (hc h : Heap) (d f pb tb hb fb : Nat) (q : HPl) (y : HS) (fr : List Nat) : Prop where
 fd : FD F Gs bs rs hc h d f q.p y.x
 pc : ∃ ct ch cf, Blk h pb [.pointer (some ⟨f, 0, none⟩), .int .i64 (q.heat : Nat), .slice (some ⟨tb, 0, none⟩) q.g ct, .slice (some ⟨hb, 0, none⟩) q.g ch, .slice (some ⟨fb, 0, none⟩) fr.length cf]
 tc : Blk h tb (entL q.g y.fm y.mv)
 hh : Blk h hb (htL q.g y.ht)
 fc : ∃ cs, Blk h fb cs ∧ cs.take fr.length = frL fr
 ne : pb ≠ tb ∧ pb ≠ hb ∧ pb ≠ fb ∧ tb ≠ hb ∧ tb ≠ fb ∧ hb ≠ fb
 nf : ∀ k, P4 pb tb hb fb k → ¬ FF F Gs rs q.p.R k ∧ hc k = none
 fo : fr.Nodup ∧ ∀ x, x ∈ fr ↔ isFree q y.fm x
section
variable {F : Nat → Prop} {Gs : Nat → Nat → Prop} {bs rs : Nat → Nat} {hc h h1 : Heap} {d f pb tb hb fb : Nat} {q : HPl} {y y' : HS} {fr : List Nat} {Q : QT}
theorem HD.part (w : HD F Gs bs rs hc h d f pb tb hb fb q y fr) (pt : Part h h1) : HD F Gs bs rs hc h1 d f pb tb hb fb q y fr := by
 obtain ⟨ct, ch, cf, b⟩ := w.pc
 obtain ⟨cs, b2, e⟩ := w.fc
 exact ⟨w.fd.part pt, ⟨ct, ch, cf, b.keep (part_live pt b.ne)⟩, w.tc.keep (part_live pt w.tc.ne), w.hh.keep (part_live pt w.hh.ne), ⟨cs, b2.keep (part_live pt b2.ne), e⟩, w.ne, w.nf, w.fo⟩
theorem HD.live (w : HD F Gs bs rs hc h d f pb tb hb fb q y fr) : Live (HF F Gs rs q.p.R pb tb hb fb) h := fun k hk => by
 obtain ⟨ct, ch, cf, b⟩ := w.pc
 obtain ⟨cs, b2, e⟩ := w.fc
 rcases hk with hk | rfl | rfl | rfl | rfl
 ·exact w.fd.live k hk
 ·exact b.ne
 ·exact w.tc.ne
 ·exact w.hh.ne
 ·exact b2.ne
theorem HD.keep (w : HD F Gs bs rs hc h d f pb tb hb fb q y fr) (e : ∀ i, HF F Gs rs q.p.R pb tb hb fb i → h i ≠ none → h1 i = h i) (cp : Part hc h1) : HD F Gs bs rs hc h1 d f pb tb hb fb q y fr := by
 obtain ⟨ct, ch, cf, b⟩ := w.pc
 obtain ⟨cs, b2, e2⟩ := w.fc
 exact ⟨w.fd.keep (fun i hi hn => e i (.inl hi) hn) cp, ⟨ct, ch, cf, b.keep (e _ (.inr (.inl rfl)) b.ne)⟩, w.tc.keep (e _ (.inr (.inr (.inl rfl))) w.tc.ne), w.hh.keep (e _ (.inr (.inr (.inr (.inl rfl)))) w.hh.ne), ⟨cs, b2.keep (e _ (.inr (.inr (.inr (.inr rfl)))) b2.ne), e2⟩, w.ne, w.nf, w.fo⟩
theorem HD.flat {x' : FS} (w : HD F Gs bs rs hc h d f pb tb hb fb q y fr) (w1 : FD F Gs bs rs hc h1 d f q.p x') (st : Step (FF F Gs rs q.p.R) h (FF F Gs rs q.p.R) h1) :
  HD F Gs bs rs hc h1 d f pb tb hb fb q ⟨x', y.fm, y.mv, y.ht⟩ fr ∧ Step (HF F Gs rs q.p.R pb tb hb fb) h (HF F Gs rs q.p.R pb tb hb fb) h1 := by
 obtain ⟨ct, ch, cf, b⟩ := w.pc
 obtain ⟨cs, b2, e2⟩ := w.fc
 have k : ∀ i, P4 pb tb hb fb i → h i ≠ none → h1 i = h i := fun i hi hn => st.keep i (w.nf i hi).1 hn
 exact ⟨⟨w1, ⟨ct, ch, cf, b.keep (k _ (.inl rfl) b.ne)⟩, w.tc.keep (k _ (.inr (.inl rfl)) w.tc.ne), w.hh.keep (k _ (.inr (.inr (.inl rfl))) w.hh.ne), ⟨cs, b2.keep (k _ (.inr (.inr (.inr rfl))) b2.ne), e2⟩, w.ne, w.nf, w.fo⟩, st.wide fun k hk => .inl hk⟩
theorem HD.p0 (w : HD F Gs bs rs hc h d f pb tb hb fb q y fr) : h.cell pb (0 + 0) = some (.pointer (some ⟨f, 0, none⟩)) := by obtain ⟨_, _, _, b⟩ := w.pc; exact b.cell 0
theorem HD.p1 (w : HD F Gs bs rs hc h d f pb tb hb fb q y fr) : h.cell pb (0 + 1) = some (.int .i64 (q.heat : Nat)) := by obtain ⟨_, _, _, b⟩ := w.pc; exact b.cell 1
theorem HD.p2 (w : HD F Gs bs rs hc h d f pb tb hb fb q y fr) : ∃ c, h.cell pb (0 + 2) = some (.slice (some ⟨tb, 0, none⟩) q.g c) := by obtain ⟨_, _, _, b⟩ := w.pc; exact ⟨_, b.cell 2⟩
theorem HD.p3 (w : HD F Gs bs rs hc h d f pb tb hb fb q y fr) : ∃ c, h.cell pb (0 + 3) = some (.slice (some ⟨hb, 0, none⟩) q.g c) := by obtain ⟨_, _, _, b⟩ := w.pc; exact ⟨_, b.cell 3⟩
theorem HD.p4 (w : HD F Gs bs rs hc h d f pb tb hb fb q y fr) : ∃ c, h.cell pb (0 + 4) = some (.slice (some ⟨fb, 0, none⟩) fr.length c) := by obtain ⟨_, _, _, b⟩ := w.pc; exact ⟨_, b.cell 4⟩
theorem entL_get {g i : Nat} {fm mv : Nat → Nat} (hi : i < g) : (entL g fm mv)[2 * i]? = some (.int .i64 (fm i : Nat)) ∧ (entL g fm mv)[2 * i + 1]? = some (.int .u64 (mv i : Nat)) := by
 have h0 := flat_get (f := fun i => [Value.int .i64 (fm i : Nat), .int .u64 (mv i : Nat)]) (sz := 2) (fun _ => rfl) (List.range g) i 0 i (List.getElem?_range hi) (by omega)
 have h1 := flat_get (f := fun i => [Value.int .i64 (fm i : Nat), .int .u64 (mv i : Nat)]) (sz := 2) (fun _ => rfl) (List.range g) i 1 i (List.getElem?_range hi) (by omega)
 rw [Nat.mul_comm, Nat.add_zero] at h0
 rw [Nat.mul_comm] at h1
 exact ⟨h0, h1⟩
theorem HD.t0 (w : HD F Gs bs rs hc h d f pb tb hb fb q y fr) {i : Nat} (hi : i < q.g) : h.cell tb (0 + i * 2 + 0) = some (.int .i64 (y.fm i : Nat)) := by
 rw [show 0 + i * 2 + 0 = 2 * i by omega, w.tc.cell]; exact (entL_get hi).1
theorem HD.t1 (w : HD F Gs bs rs hc h d f pb tb hb fb q y fr) {i : Nat} (hi : i < q.g) : h.cell tb (0 + i * 2 + 1) = some (.int .u64 (y.mv i : Nat)) := by
 rw [show 0 + i * 2 + 1 = 2 * i + 1 by omega, w.tc.cell]; exact (entL_get hi).2
theorem HD.h0 (w : HD F Gs bs rs hc h d f pb tb hb fb q y fr) {i : Nat} (hi : i < q.g) : h.cell hb (0 + i * 1) = some (.int .i64 (y.ht i : Nat)) := by
 rw [show 0 + i * 1 = i by omega, w.hh.cell]; exact row_get (fun i => Value.int .i64 (y.ht i : Nat)) hi
theorem K32.c (w : HD F Gs bs rs hc h d f pb tb hb fb q y fr) (hq : Q (.int .i64 (q.g : Nat)) h) : CT 32 #[.pointer (some ⟨pb, 0, none⟩)] h Q := by
 obtain ⟨c, e⟩ := w.p2
 apply K32.ok
 exact xsIf_f rfl ⟨pb, 0, rfl, _, _, _, e, hq⟩
theorem K45.c {i : Int} (w : HD F Gs bs rs hc h d f pb tb hb fb q y fr) (hq : Q (.bool (decide (0 ≤ i ∧ i < (q.g : Int)))) h) : CT 45 #[.pointer (some ⟨pb, 0, none⟩), .int .i64 i] h Q := by
 apply K45.ok
 refine xsIf_intro (fun e => K32.c w ⟨_, rfl, ?_⟩) fun e => ?_
 ·have e := of_decide_eq_true e
  rw [show decide (0 ≤ i ∧ i < (q.g : Int)) = decide (i < (q.g : Int)) by simp [e]] at hq
  exact hq
 ·have e := of_decide_eq_false e
  rw [decide_eq_false (by omega)] at hq
  exact hq
def inH (q : HPl) (i k : Int) : Prop := (0 ≤ i ∧ i < (q.g : Int)) ∧ 0 ≤ k ∧ k < 8
theorem K97.c {i k : Int} (w : HD F Gs bs rs hc h d f pb tb hb fb q y fr) (hf : ∀ j, j < q.g → y.fm j < 65536) (hy : inH q i k → Q (.tuple #[.int .i64 ((8 * y.fm i.toNat + k.toNat : Nat) : Int), .int .i64 0]) h) (hn : ¬ inH q i k → Q (.tuple #[.int .i64 0, .int .i64 3]) h) :
  CT 97 #[.pointer (some ⟨pb, 0, none⟩), .int .i64 i, .int .i64 k] h Q := by
 unfold inH at hy hn
 obtain ⟨c, e⟩ := w.p2
 apply K97.ok
 refine xsIf_f rfl (K45.c w ⟨_, rfl, ?_⟩)
 by_cases hi : 0 ≤ i ∧ i < (q.g : Int)
 ·rw [decide_eq_true hi]
  refine xsIf_f rfl (xsIf_intro (fun e1 => hn fun h => by have := of_decide_eq_true e1; omega) fun e1 => xsIf_intro (fun e2 => hn fun h => by have := of_decide_eq_true e2; omega) fun e2 => ?_)
  have e1 := of_decide_eq_false e1
  have e2 := of_decide_eq_false e2
  have hy := hy ⟨hi, by omega, by omega⟩
  obtain ⟨i, rfl⟩ : ∃ j : Nat, i = j := ⟨i.toNat, by omega⟩
  obtain ⟨k, rfl⟩ : ∃ j : Nat, k = j := ⟨k.toNat, by omega⟩
  have hi2 : i < q.g := by omega
  have := hf i hi2
  refine ⟨pb, 0, rfl, _, _, _, e, by omega, tb, 0, rfl, _, w.t0 (i := i) hi2, ?_⟩
  rw [Int.toNat_natCast, Int.toNat_natCast] at hy
  rw [show IntKind.i64.wrap (IntKind.i64.wrap ((y.fm i : Nat) * 8) + (k : Int)) = ((8 * y.fm i + k : Nat) : Int) by rw [i64_in (((y.fm i : Nat) : Int) * 8) (by omega), i64_in _ (by omega)]; omega]
  exact hy
 ·rw [decide_eq_false hi]
  exact xsIf_t rfl (hn fun h => hi h.1)
theorem HT.frames {x : FS} {fm mv : Nat → Nat} (w : HT q x fm mv) : ∀ j, j < q.g → fm j < 65536 := fun j hj => by
 have := (w.lo j hj).2
 have := w.ok.H_le
 omega
theorem K60.c {i k : Int} (w : HD F Gs bs rs hc h d f pb tb hb fb q y fr) (iv : HY q y) (hy : inH q i k → Q (.tuple #[.string (hr q y.x y.fm i.toNat k.toNat), .int .i64 0]) h) (hn : ¬ inH q i k → Q (.tuple #[.string ⟨#[]⟩, .int .i64 3]) h) :
  CT 60 #[.pointer (some ⟨pb, 0, none⟩), .int .i64 i, .int .i64 k] h Q := by
 apply K60.ok
 refine K97.c w iv.frames (fun hi => ⟨_, _, rfl, xsIf_f rfl ⟨pb, 0, rfl, _, w.p0, ?_⟩⟩) fun hi => ⟨_, _, rfl, xsIf_t rfl (hn hi)⟩
 have hy := hy hi
 unfold inH at hi
 have pl := iv.pline (i := i.toNat) (k := k.toNat) (by omega) (by omega)
 refine K98.c w.fd iv.fi (fun _ _ => ⟨_, _, rfl, ?_⟩) fun hno => absurd ⟨by omega, by omega⟩ hno
 rw [Int.toNat_natCast]
 exact hy
theorem K21.c {i : Nat} (w : HD F Gs bs rs hc h d f pb tb hb fb q y fr) (hi : i < q.g) (hq : Q (.tuple #[.int .i64 (y.fm i : Nat), .int .i64 0]) h) : CT 21 #[.pointer (some ⟨pb, 0, none⟩), .int .i64 (i : Int)] h Q := by
 obtain ⟨c, e⟩ := w.p2
 apply K21.ok
 refine xsIf_f rfl (K45.c w ⟨_, rfl, ?_⟩)
 rw [decide_eq_true (by omega)]
 exact xsIf_f rfl ⟨pb, 0, rfl, _, _, _, e, by omega, tb, 0, rfl, _, w.t0 hi, hq⟩
theorem K22.c (w : HD F Gs bs rs hc h d f pb tb hb fb q y fr) (hq : Q (.pointer (some ⟨f, 0, none⟩)) h) : CT 22 #[.pointer (some ⟨pb, 0, none⟩)] h Q := by
 apply K22.ok
 exact xsIf_f rfl ⟨pb, 0, rfl, _, w.p0, hq⟩
theorem K140.c {x : FS} {j n : Nat} (p0 : h.cell pb (0 + 0) = some (.pointer (some ⟨f, 0, none⟩))) (fd : FD F Gs bs rs hc h d f q.p x) (ok : q.ok n) (hj : j < q.H) (hq : Q (.int .u32 (wearF q x j)) h) :
  CT 140 #[.pointer (some ⟨pb, 0, none⟩), .int .i64 (j : Int)] h Q := by
 have hl := ok.lines
 have hH := ok.H_le
 have e8 : IntKind.i64.wrap ((j : Int) * 8) = ((8 * j : Nat) : Int) := by rw [i64_in _ (by omega)]; omega
 obtain ⟨hr, _⟩ := FPl.at_line ok.ok (l := 8 * j) (by omega)
 apply K140.ok
 refine ⟨pb, 0, rfl, pb, 0, rfl, _, p0, ?_⟩
 rw [e8]
 have R : ∀ {Q : QT}, Q (.int .i64 (q.p.reg (8 * j) : Nat)) h → CT 72 #[.pointer (some ⟨f, 0, none⟩), .int .i64 ((8 * j : Nat) : Int)] h Q := fun hq => by
  refine K72.c fd ok.ok (fun _ _ => ?_) fun hn => absurd ⟨by omega, by omega⟩ hn
  rw [Int.toNat_natCast]; exact hq
 exact ⟨⟨_, p0, R ⟨_, rfl, K166.c fd hr ⟨_, rfl, hq⟩⟩⟩, R ⟨_, rfl, _, p0, K166.c fd hr ⟨_, rfl, hq⟩⟩⟩
end
end Go.Gb
namespace Go.Gb
open Go.Proofs IntWalk
def gt (l : List Nat) (i : Nat) : Nat := l.getD i 0
def swp (l : List Nat) (i j : Nat) : List Nat := (l.set i (gt l j)).set j (gt l i)
def dnJ (w : Nat → Int) (n : Nat) (l : List Nat) : Nat := if 2 < n ∧ less w (gt l 2) (gt l 1) = true then 2 else 1
def dn (w : Nat → Int) (n : Nat) (l : List Nat) : List Nat := if n ≤ 1 then l else if less w (gt l (dnJ w n l)) (gt l 0) = true then swp l 0 (dnJ w n l) else l
def upw (w : Nat → Int) (j : Nat) (l : List Nat) : List Nat := if less w (gt l j) (gt l 0) = true then swp l 0 j else l
theorem gt_get {l : List Nat} {i : Nat} (h : i < l.length) : l[i]? = some (gt l i) := by
 unfold gt
 rw [List.getD_eq_getElem?_getD, List.getElem?_eq_getElem h]; rfl
theorem swp_len (l : List Nat) (i j : Nat) : (swp l i j).length = l.length := by unfold swp; simp
theorem dn_len (w : Nat → Int) (n : Nat) (l : List Nat) : (dn w n l).length = l.length := by
 unfold dn; split
 ·rfl
 ·split
  ·exact swp_len _ _ _
  ·rfl
theorem heap_pops (w : Nat → Int) {l : List Nat} (h2 : 2 ≤ l.length) (h3 : l.length ≤ 3) :
  ∃ r, dn w (l.length - 1) (swp (dn w l.length l) 0 (l.length - 1)) = r ++ [bestN w l] ∧ (r ++ [bestN w l]).Perm l := by
 match l, h2, h3 with
 | [a, b], _, _ =>
  show ∃ r, dn w 1 (swp (dn w 2 [a, b]) 0 1) = r ++ [bestN w [a, b]] ∧ _
  unfold dn dnJ
  rw [if_neg (show ¬ 2 ≤ 1 by omega), if_neg (show ¬ (2 < 2 ∧ _) from fun h => by omega), if_pos (show 1 ≤ 1 by omega)]
  show ∃ r, swp (if less w b a = true then [b, a] else [a, b]) 0 1 = _ ∧ _
  by_cases e : less w b a = true
  ·rw [if_pos e]
   have hb : bestN w [a, b] = b := best_uniq (by simp) fun f hf => by
    have : f = a ∨ f = b := by simpa using hf
    rcases this with rfl | rfl
    ·unfold less at *; simp only [decide_eq_true_eq, decide_eq_false_iff_not] at *; omega
    ·exact less_irr _ _
   rw [hb]
   exact ⟨[a], rfl, List.Perm.refl _⟩
  ·rw [if_neg e]
   have hb : bestN w [a, b] = a := best_uniq (by simp) fun f hf => by
    have : f = a ∨ f = b := by simpa using hf
    rcases this with rfl | rfl
    ·exact less_irr _ _
    ·simpa using e
   rw [hb]
   exact ⟨[b], rfl, List.Perm.swap _ _ _⟩
 | [a, b, c], _, _ =>
  show ∃ r, dn w 2 (swp (dn w 3 [a, b, c]) 0 2) = r ++ [bestN w [a, b, c]] ∧ _
  have key : ∃ m s t, dn w 3 [a, b, c] = [m, s, t] ∧ bestN w [a, b, c] = m ∧ [m, s, t].Perm [a, b, c] := by
   unfold dn dnJ
   rw [if_neg (show ¬ 3 ≤ 1 by omega)]
   by_cases e : less w c b = true
   ·rw [if_pos (show 2 < 3 ∧ less w (gt [a, b, c] 2) (gt [a, b, c] 1) = true from ⟨by omega, e⟩)]
    by_cases e2 : less w c a = true
    ·refine ⟨c, b, a, if_pos e2, best_uniq (by simp) fun f hf => ?_, ?_⟩
     ·have : f = a ∨ f = b ∨ f = c := by simpa using hf
      unfold less at *; simp only [decide_eq_true_eq, decide_eq_false_iff_not] at *
      rcases this with rfl | rfl | rfl <;> omega
     ·exact ((List.Perm.swap b c [a]).trans ((List.Perm.cons b (List.Perm.swap a c [])).trans (List.Perm.swap a b [c])))
    ·refine ⟨a, b, c, if_neg e2, best_uniq (by simp) fun f hf => ?_, List.Perm.refl _⟩
     have : f = a ∨ f = b ∨ f = c := by simpa using hf
     unfold less at *; simp only [decide_eq_true_eq, decide_eq_false_iff_not] at *
     rcases this with rfl | rfl | rfl <;> omega
   ·rw [if_neg (show ¬ (2 < 3 ∧ less w (gt [a, b, c] 2) (gt [a, b, c] 1) = true) from fun h => e h.2)]
    by_cases e2 : less w b a = true
    ·refine ⟨b, a, c, if_pos e2, best_uniq (by simp) fun f hf => ?_, List.Perm.swap _ _ _⟩
     have : f = a ∨ f = b ∨ f = c := by simpa using hf
     unfold less at *; simp only [decide_eq_true_eq, decide_eq_false_iff_not] at *
     rcases this with rfl | rfl | rfl <;> omega
    ·refine ⟨a, b, c, if_neg e2, best_uniq (by simp) fun f hf => ?_, List.Perm.refl _⟩
     have : f = a ∨ f = b ∨ f = c := by simpa using hf
     unfold less at *; simp only [decide_eq_true_eq, decide_eq_false_iff_not] at *
     rcases this with rfl | rfl | rfl <;> omega
  obtain ⟨m, s, t, e1, e2, pm⟩ := key
  rw [e1, e2]
  unfold dn dnJ
  rw [if_neg (show ¬ 2 ≤ 1 by omega), if_neg (show ¬ (2 < 2 ∧ _) from fun h => by omega)]
  show ∃ r, (if less w s t = true then [s, t, m] else [t, s, m]) = _ ∧ _
  by_cases e : less w s t = true
  ·rw [if_pos e]
   exact ⟨[s, t], rfl, ((List.Perm.cons s (List.Perm.swap m t [])).trans (List.Perm.swap m s [t])).trans pm⟩
  ·rw [if_neg e]
   exact ⟨[t, s], rfl, (((List.Perm.cons t (List.Perm.swap m s [])).trans (List.Perm.swap m t [s])).trans (List.Perm.cons m (List.Perm.swap s t []))).trans pm⟩
theorem heap_pushes (w : Nat → Int) {l : List Nat} (v : Nat) (h1 : 1 ≤ l.length) (h2 : l.length ≤ 2) : (upw w l.length (l ++ [v])).Perm (v :: l) := by
 match l, h1, h2 with
 | [a], _, _ =>
  show (upw w 1 [a, v]).Perm [v, a]
  unfold upw
  split
  ·exact List.Perm.refl _
  ·exact List.Perm.swap _ _ _
 | [a, b], _, _ =>
  show (upw w 2 [a, b, v]).Perm [v, a, b]
  unfold upw
  split
  ·exact List.Perm.cons v (List.Perm.swap _ _ _)
  ·exact (List.Perm.cons a (List.Perm.swap v b [])).trans (List.Perm.swap v a [b])
structure Ch (G : Nat → Prop) (h : Heap) (cb pb : Nat) (l : List Nat) : Prop where
 gc : G cb
 lv : Live G h
 sl : ∃ a c, Blk h cb [.pointer (some ⟨pb, 0, none⟩), .slice a l.length c] ∧ Sl (fun k => G k ∧ k ≠ cb) h 3 1 a l.length c (frL l)
theorem frL_get {l : List Nat} {i : Nat} (h : i < l.length) : (frL l)[i]? = some (.int .i64 (gt l i : Nat)) := by
 unfold frL
 rw [ints_get, List.getElem?_map, gt_get h]; rfl
theorem frL_set (l : List Nat) (i v : Nat) : (frL l).set i (.int .i64 (v : Nat)) = frL (l.set i v) := by
 unfold frL
 rw [ints_set, List.map_set]
theorem frL_len (l : List Nat) : (frL l).length = l.length := by unfold frL; rw [ints_length, List.length_map]
structure LkB (F : Nat → Prop) (Gs : Nat → Nat → Prop) (bs rs : Nat → Nat) (hc h : Heap) (d f pb tb hb fb : Nat) (q : HPl) (y : HS) (fr : List Nat) (G : Nat → Prop) (cb : Nat) (l : List Nat) : Prop where
 hd : HD F Gs bs rs hc h d f pb tb hb fb q y fr
 ch : Ch G h cb pb l
 ap : ∀ k, G k → ¬ HF F Gs rs q.p.R pb tb hb fb k ∧ hc k = none
 lt : ∀ x ∈ l, x < q.H
section
variable {F : Nat → Prop} {Gs : Nat → Nat → Prop} {bs rs : Nat → Nat} {hc h h1 : Heap} {d f pb tb hb fb n : Nat} {q : HPl} {y y' : HS} {fr : List Nat} {G G' : Nat → Prop} {cb : Nat} {l l' : List Nat} {Q : QT}
theorem LkB.next (i : LkB F Gs bs rs hc h d f pb tb hb fb q y fr G cb l) (c : Ch G' h1 cb pb l') (st : Step G h G' h1) (lt : ∀ x ∈ l', x < q.H) : LkB F Gs bs rs hc h1 d f pb tb hb fb q y fr G' cb l' := by
 refine ⟨i.hd.keep (fun k hk hn => st.keep k (fun hg => (i.ap k hg).1 hk) hn) (st.part i.hd.fd.cp fun k hk hg => hk (i.ap k hg).2), c, fun k hk => ?_, lt⟩
 rcases st.sub k hk with hg | hg
 ·exact i.ap k hg
 ·exact ⟨fun hf => i.hd.live k hf hg, Part.none i.hd.fd.cp hg⟩
theorem K217.c (w : Ch G h cb pb l) (hq : Q (.int .i64 (l.length : Nat)) h) : CT 217 #[.pointer (some ⟨cb, 0, none⟩)] h Q := by
 obtain ⟨a, c, b, s⟩ := w.sl
 apply K217.ok
 exact ⟨cb, 0, rfl, _, _, _, b.cell 1, hq⟩
theorem K218.c {i k : Nat} (w : LkB F Gs bs rs hc h d f pb tb hb fb q y fr G cb l) (ok : q.ok n) (hi : i < l.length) (hk : k < l.length) (hq : Q (.bool (less (wearF q y.x) (gt l i) (gt l k))) h) :
  CT 218 #[.pointer (some ⟨cb, 0, none⟩), .int .i64 (i : Int), .int .i64 (k : Int)] h Q := by
 obtain ⟨a, c, b, s⟩ := w.ch.sl
 have p0 := w.hd.p0
 have fd := w.hd.fd
 have m1 : gt l i < q.H := w.lt _ (List.mem_of_getElem? (gt_get hi))
 have m2 : gt l k < q.H := w.lt _ (List.mem_of_getElem? (gt_get hk))
 apply K218.ok
 refine ⟨cb, 0, rfl, cb, 0, rfl, _, _, _, b.cell 1, by omega, s.base (by omega) fun b1 _ c1 _ _ => ⟨((gt l i : Nat) : Int), ?_, _, _, _, b.cell 1, by omega, s.base (by omega) fun b2 _ c2 _ _ => ⟨((gt l k : Nat) : Int), ?_, cb, 0, rfl, cb, 0, rfl, _, b.cell 0, ?_⟩⟩⟩
 ·rw [show 0 + (i : Int).toNat * 1 = 0 + i by omega, c1 i (by omega)]; exact frL_get hi
 ·rw [show 0 + (k : Int).toNat * 1 = 0 + k by omega, c2 k (by omega)]; exact frL_get hk
 ·have fin : xsIf (decide (wearF q y.x (gt l i) < wearF q y.x (gt l k))) (Q (.bool true) h) (xsIf (decide (wearF q y.x (gt l i) = wearF q y.x (gt l k))) (Q (.bool (decide (((gt l i : Nat) : Int) < ((gt l k : Nat) : Int)))) h) (Q (.bool false) h)) := by
   unfold less at hq
   refine xsIf_intro (fun e => ?_) fun e => xsIf_intro (fun e2 => ?_) fun e2 => ?_
   ·have e := of_decide_eq_true e
    rw [decide_eq_true (.inl e)] at hq; exact hq
   ·have e := of_decide_eq_false e
    have e2 := of_decide_eq_true e2
    by_cases e3 : gt l i < gt l k
    ·rw [decide_eq_true (by omega)] at hq
     rw [decide_eq_true (by omega)]; exact hq
    ·rw [decide_eq_false (by omega)] at hq
     rw [decide_eq_false (by omega)]; exact hq
   ·have e := of_decide_eq_false e
    have e2 := of_decide_eq_false e2
    rw [decide_eq_false (by omega)] at hq; exact hq
  exact ⟨K140.c p0 fd ok m1 ⟨_, rfl, _, b.cell 0, K140.c p0 fd ok m2 ⟨_, rfl, fin⟩⟩, _, b.cell 0, K140.c p0 fd ok m1 ⟨_, rfl, K140.c p0 fd ok m2 ⟨_, rfl, fin⟩⟩⟩
theorem K221.c {i k : Nat} (w : Ch G h cb pb l) (hi : i < l.length) (hk : k < l.length) (hq : ∀ h', Ch G h' cb pb (swp l i k) → Step G h G h' → Q (.tuple #[]) h') :
  CT 221 #[.pointer (some ⟨cb, 0, none⟩), .int .i64 (i : Int), .int .i64 (k : Int)] h Q := by
 obtain ⟨a, c, b, s⟩ := w.sl
 apply K221.ok
 refine ⟨cb, 0, rfl, cb, 0, rfl, cb, 0, rfl, cb, 0, rfl, _, _, _, b.cell 1, _, _, _, b.cell 1, _, _, _, b.cell 1, by omega, ?_⟩
 rcases s.place with ⟨_, hz, _⟩ | ⟨sb, cs, rfl, ⟨hg, hne⟩, hs, hsz, hle, htk⟩
 ·omega
 have get : ∀ j, j < l.length → h.cell sb (0 + (j : Int).toNat * 1) = some (.int .i64 (gt l j : Nat)) := fun j hj => by
  rw [show 0 + (j : Int).toNat * 1 = j by omega]
  unfold Heap.cell
  rw [hs]
  show cs[j]? = _
  have := frL_get hj
  rw [← htk, List.getElem?_take, if_pos (by omega)] at this
  rw [← this]; simp
 have st1 : Step G h G (h.put sb (0 + (i : Int).toNat * 1) [.int .i64 (gt l k : Nat)]) := Step.put hg _ _
 refine ⟨sb, 0, rfl, _, get k hk, _, _, _, b.cell 1, by omega, sb, 0, rfl, _, get i hi, by omega, sb, 0, rfl, ⟨cs, _, 0, 0, hs, by omega, .inr (Nat.zero_le _)⟩, by omega, sb, 0, rfl, ?_, ?_⟩
 ·exact ⟨(cs.toList.set i (.int .i64 (gt l k : Nat))).toArray, 3, 0, 0, by simp [Heap.put, hs, putObj, setL], by simp; omega, .inr (Nat.zero_le _)⟩
 ·have st2 : Step G (h.put sb (0 + (i : Int).toNat * 1) [.int .i64 (gt l k : Nat)]) G ((h.put sb (0 + (i : Int).toNat * 1) [.int .i64 (gt l k : Nat)]).put sb (0 + (k : Int).toNat * 1) [.int .i64 (gt l i : Nat)]) := Step.put hg _ _
  have st := st1.trans st2
  refine hq _ ⟨w.gc, st.dom w.lv, ?_⟩ st
  have el : (swp l i k).length = l.length := swp_len _ _ _
  rw [el]
  refine ⟨_, c, b.keep (by rw [put_other _ _ _ (Ne.symm hne), put_other _ _ _ (Ne.symm hne)]), by rw [frL_len, el]; omega, .inr ⟨sb, ((cs.toList.set i (.int .i64 (gt l k : Nat))).set k (.int .i64 (gt l i : Nat))).toArray, rfl, ⟨hg, hne⟩, by simp [Heap.put, hs, putObj, setL], by simp [hsz], hle, ?_⟩⟩
  show ((cs.toList.set i _).set k _).take _ = _
  rw [List.take_set, List.take_set, htk, frL_set, frL_set]
  rfl
theorem K219.c {x : Nat} (w : Ch G h cb pb (l ++ [x])) (hlen : l.length ≤ 1000) (hq : ∀ h', Ch G h' cb pb l → Step G h G h' → Q (.iface 3 (.int .i64 (x : Nat))) h') : CT 219 #[.pointer (some ⟨cb, 0, none⟩)] h Q := by
 obtain ⟨a, c, b, s⟩ := w.sl
 rcases s.place with ⟨_, hz, _⟩ | ⟨sb, cs, rfl, ⟨hg, hne⟩, hs, hsz, hle, htk⟩
 ·simp at hz
 have el : (l ++ [x]).length = l.length + 1 := by simp
 have ew : IntKind.i64.wrap ((((l ++ [x]).length : Nat) : Int) - 1) = ((l.length : Nat) : Int) := by rw [el, i64_in _ (by omega)]; omega
 have eg : gt (l ++ [x]) l.length = x := by
  have := gt_get (l := l ++ [x]) (i := l.length) (by rw [el]; omega)
  rw [List.getElem?_append_right (Nat.le_refl _), Nat.sub_self] at this
  simpa using this.symm
 apply K219.ok
 unfold K219.wp
 refine ⟨cb, 0, rfl, _, _, _, b.cell 1, cb, 0, rfl, _, _, _, b.cell 1, ?_⟩
 rw [ew]
 refine ⟨by rw [el]; omega, sb, 0, rfl, (x : Nat), ?_, cb, 0, rfl, _, _, _, b.cell 1, by rw [el] at hle; omega, cb, 0, rfl, b.can (by show 0 + 1 + 1 ≤ 2; omega), ?_⟩
 ·rw [show 0 + ((l.length : Nat) : Int).toNat * 1 = l.length by omega]
  unfold Heap.cell
  rw [hs]
  show cs[l.length]? = _
  have := frL_get (l := l ++ [x]) (i := l.length) (by rw [el]; omega)
  rw [← htk, List.getElem?_take, if_pos (by rw [el]; omega), eg] at this
  rw [← this]; simp
 ·have st : Step G h G (h.put cb (0 + 1) [.slice (slBase (some ⟨sb, 0, none⟩) (c : Int) 0 1) (((l.length : Nat) : Int) - 0).toNat ((c : Int) - 0).toNat]) := Step.put w.gc _ _
  refine hq _ ⟨w.gc, st.dom w.lv, ?_⟩ st
  rw [slBase0, show (((l.length : Nat) : Int) - 0).toNat = l.length by omega, show ((c : Int) - 0).toNat = c by omega]
  refine ⟨_, c, b.put 1 [.slice (some ⟨sb, 0, none⟩) l.length c], by rw [frL_len]; omega, .inr ⟨sb, cs, rfl, ⟨hg, hne⟩, by rw [put_other _ _ _ hne]; exact hs, hsz, by rw [el] at hle; omega, ?_⟩⟩
  have := congrArg (List.take l.length) htk
  rw [List.take_take, el] at this
  rw [show min l.length ((l.length + 1) * 1) = l.length by omega] at this
  rw [Nat.mul_one, this]
  unfold frL
  rw [List.map_append]
  unfold ints
  rw [List.map_append, List.take_left']
  simp
theorem K220.c {v : Nat} (w : Ch G h cb pb l) (hlen : l.length ≤ 1000) (hq : ∀ G' h', Ch G' h' cb pb (l ++ [v]) → Step G h G' h' → Q (.tuple #[]) h') :
  CT 220 #[.pointer (some ⟨cb, 0, none⟩), .iface 3 (.int .i64 (v : Nat))] h Q := by
 obtain ⟨a, c, b, s⟩ := w.sl
 have leaf : ∀ t, h t = none → xsApp Tryz.prog 3 (upd h t (Obj.cells #[.int .i64 (v : Nat)] 3 (0, 0))) a l.length c (some ⟨t, 0, none⟩) 1 fun (a' : Option Addr) (n' c' : Nat) (h' : Heap) =>
   atBase (some ⟨cb, 0, none⟩) fun (b o : Nat) => h'.can b (o + 1) 1 ∧ Q (.tuple #[]) (h'.put b (o + 1) [.slice a' n' c']) := fun t ht => by
  refine s.snoc (new := [.int .i64 (v : Nat)]) ht (by kernel_rfl) (by omega) rfl rfl (by kernel_rfl) (by rw [show cellBytes Tryz.prog 3 = 8 by kernel_rfl]; omega) fun a' c' F' h' s' st hs => ?_
  have bk := b.keep (st.keep cb (fun hh => hh.2 rfl) b.ne)
  have ncb : ¬ F' cb := fun hf => by
   rcases st.sub cb hf with hh | hh
   ·exact hh.2 rfl
   ·exact b.ne hh
  have st1 : Step G h (fun k => F' k ∨ k = cb) h' := ⟨fun k hk hn => st.keep k (fun hh => hk hh.1) hn, fun k hk => by
   rcases hk with hk | hk
   ·exact (st.sub k hk).imp (fun hh => hh.1) id
   ·rw [hk]; exact .inl w.gc, st.live, fun hl k hk => by
   rcases hk with hk | hk
   ·exact st.dom (fun k hk => hl k hk.1) k hk
   ·rw [hk]; exact bk.ne⟩
  have st2 : Step (fun k => F' k ∨ k = cb) h' (fun k => F' k ∨ k = cb) (h'.put cb (0 + 1) [.slice a' (l.length + 1) c']) := Step.put (F := fun k => F' k ∨ k = cb) (.inr rfl) _ _
  refine ⟨cb, 0, rfl, bk.can (by show 0 + 1 + 1 ≤ 2; omega), hq (fun k => F' k ∨ k = cb) _ ⟨.inr rfl, (st1.trans st2).dom w.lv, ?_⟩ (st1.trans st2)⟩
  have el : (l ++ [v]).length = l.length + 1 := by simp
  rw [el]
  refine ⟨a', c', bk.put 1 [.slice a' (l.length + 1) c'], ?_⟩
  have e : frL (l ++ [v]) = frL l ++ [.int .i64 (v : Nat)] := by unfold frL ints; simp
  rw [e]
  exact s'.keep (fun k hk => ⟨.inl hk, fun e => ncb (by rw [← e]; exact hk)⟩) fun k hk _ => put_other _ _ _ fun e => ncb (by rw [← e]; exact hk)
 apply K220.ok
 refine ⟨cb, 0, rfl, ⟨_, _, _, b.cell 1, _, rfl, leaf⟩, _, rfl, ⟨_, _, _, b.cell 1, leaf⟩, fun t ht => ⟨_, _, _, (b.keep (part_live (Part.upd ht _) b.ne)).cell 1, leaf t ht⟩⟩
theorem swp_mem {l : List Nat} {i k : Nat} (hi : i < l.length) (hk : k < l.length) {x : Nat} (hx : x ∈ swp l i k) : x ∈ l := by
 unfold swp at hx
 have h1 := List.mem_of_getElem? (gt_get hi)
 have h2 := List.mem_of_getElem? (gt_get hk)
 rcases List.mem_or_eq_of_mem_set hx with hx | hx
 ·rcases List.mem_or_eq_of_mem_set hx with hx | hx
  ·exact hx
  ·rw [hx]; exact h2
 ·rw [hx]; exact h1
theorem K165.c {n' : Nat} (w : LkB F Gs bs rs hc h d f pb tb hb fb q y fr G cb l) (ok : q.ok n) (h1 : 1 ≤ n') (h3 : n' ≤ 3) (hl : n' ≤ l.length) (hq : ∀ v h', LkB F Gs bs rs hc h' d f pb tb hb fb q y fr G cb (dn (wearF q y.x) n' l) → Step G h G h' → Q (.bool v) h') :
  CT 165 #[.iface 191 (.pointer (some ⟨cb, 0, none⟩)), .int .i64 0, .int .i64 (n' : Int)] h Q := by
 have mLess : mlook Tryz.prog 191 "Less" = some 218 := by kernel_rfl
 have mSwap : mlook Tryz.prog 191 "Swap" = some 221 := by kernel_rfl
 apply K165.ok
 apply K165.L2.ok
 unfold K165.L2.wp
 rw [show IntKind.i64.wrap (IntKind.i64.wrap (2 * 0) + 1) = 1 by decide]
 by_cases hn : n' ≤ 1
 ·unfold dn at hq
  rw [if_pos hn] at hq
  exact xsIf_t (decide_eq_true (by omega)) (hq _ h w (Step.refl _ _))
 ·refine xsIf_f (decide_eq_false (by omega)) (xsIf_f rfl ?_)
  unfold dn at hq
  rw [if_neg hn] at hq
  have J8 : ∀ j : Nat, (j = 1 ∨ j = 2) → j < n' → (∀ v h', LkB F Gs bs rs hc h' d f pb tb hb fb q y fr G cb (if less (wearF q y.x) (gt l j) (gt l 0) = true then swp l 0 j else l) → Step G h G h' → Q (.bool v) h') →
    K165.J8 191 (.pointer (some ⟨cb, 0, none⟩)) 0 (n' : Int) 0 (j : Int) h Q := fun j hj hjn hq => by
   apply K165.J8.ok
   refine ⟨_, mLess, K218.c (k := 0) w ok (by omega) (by omega) ⟨_, rfl, ?_⟩⟩
   cases e : less (wearF q y.x) (gt l j) (gt l 0) with
   | false =>
    rw [e] at hq
    exact xsIf_t rfl (hq _ h w (Step.refl _ _))
   | true =>
    rw [e, if_pos rfl] at hq
    refine xsIf_f rfl ⟨_, mSwap, K221.c (i := 0) w.ch (by omega) (by omega) fun h1 c1 st1 => ?_⟩
    have w1 := w.next c1 st1 fun x hx => w.lt x (swp_mem (by omega) (by omega) hx)
    apply K165.L2.ok
    have e2 : IntKind.i64.wrap (IntKind.i64.wrap (2 * (j : Int)) + 1) = ((2 * j + 1 : Nat) : Int) := by rw [i64_in (2 * (j : Int)) (by omega), i64_in _ (by omega)]; omega
    unfold K165.L2.wp
    rw [e2]
    exact xsIf_t (decide_eq_true (by omega)) (hq _ h1 w1 st1)
  apply K165.J4.ok
  unfold K165.J4.wp
  rw [show IntKind.i64.wrap (1 + 1) = 2 by decide]
  refine xsIf_intro (fun e => ?_) fun e => ?_
  ·have e := of_decide_eq_true e
   refine ⟨_, mLess, K218.c (i := 2) (k := 1) w ok (by omega) (by omega) ⟨_, rfl, ?_⟩⟩
   cases e3 : less (wearF q y.x) (gt l 2) (gt l 1) with
   | true =>
    have ej : dnJ (wearF q y.x) n' l = 2 := if_pos ⟨by omega, e3⟩
    rw [ej] at hq
    exact xsIf_t rfl (J8 2 (.inr rfl) (by omega) hq)
   | false =>
    have ej : dnJ (wearF q y.x) n' l = 1 := if_neg fun h => by rw [h.2] at e3; cases e3
    rw [ej] at hq
    exact xsIf_f rfl (J8 1 (.inl rfl) (by omega) hq)
  ·have e := of_decide_eq_false e
   have ej : dnJ (wearF q y.x) n' l = 1 := if_neg fun h => by have := h.1; omega
   rw [ej] at hq
   exact J8 1 (.inl rfl) (by omega) hq
theorem K138.c (w : LkB F Gs bs rs hc h d f pb tb hb fb q y fr G cb l) (ok : q.ok n) (h2 : 2 ≤ l.length) (h3 : l.length ≤ 3) (hq : ∀ h', LkB F Gs bs rs hc h' d f pb tb hb fb q y fr G cb (dn (wearF q y.x) l.length l) → Step G h G h' → Q (.tuple #[]) h') :
  CT 138 #[.iface 191 (.pointer (some ⟨cb, 0, none⟩))] h Q := by
 apply K138.ok
 refine ⟨_, (by kernel_rfl : mlook Tryz.prog 191 "Len" = some 217), K217.c w.ch ⟨_, rfl, ?_⟩⟩
 have e : IntKind.i64.wrap (iquo .i64 ((l.length : Nat) : Int) 2 - 1) = 0 := by
  rw [iquo_i64 (by omega) (by omega) (by omega), i64_in _ (by omega)]; omega
 rw [e]
 apply K138.L2.ok
 refine xsIf_t rfl (K165.c w ok (by omega) h3 (Nat.le_refl _) fun v h1 w1 st1 => ⟨_, rfl, ?_⟩)
 apply K138.L2.ok
 exact xsIf_f rfl (hq h1 w1 st1)
theorem K139.c (w : LkB F Gs bs rs hc h d f pb tb hb fb q y fr G cb (dn (wearF q y.x) l.length l)) (ok : q.ok n) (h2 : 2 ≤ l.length) (h3 : l.length ≤ 3)
  (hq : ∀ r h', (r ++ [bestN (wearF q y.x) l]).Perm l → LkB F Gs bs rs hc h' d f pb tb hb fb q y fr G cb r → Step G h G h' → Q (.iface 3 (.int .i64 (bestN (wearF q y.x) l : Nat))) h') :
  CT 139 #[.iface 191 (.pointer (some ⟨cb, 0, none⟩))] h Q := by
 obtain ⟨r, er, pr⟩ := heap_pops (wearF q y.x) h2 h3
 have dl := dn_len (wearF q y.x) l.length l
 apply K139.ok
 refine ⟨_, (by kernel_rfl : mlook Tryz.prog 191 "Len" = some 217), K217.c w.ch ⟨_, rfl, ?_⟩⟩
 rw [dl]
 have e : IntKind.i64.wrap (((l.length : Nat) : Int) - 1) = ((l.length - 1 : Nat) : Int) := by rw [i64_in _ (by omega)]; omega
 rw [e]
 refine ⟨_, (by kernel_rfl : mlook Tryz.prog 191 "Swap" = some 221), K221.c (i := 0) w.ch (by omega) (by omega) fun h1 c1 st1 => ?_⟩
 have w1 := w.next c1 st1 fun x hx => w.lt x (swp_mem (by omega) (by omega) hx)
 refine K165.c w1 ok (by omega) (by omega) (by rw [swp_len]; omega) fun v h2' w2 st2 => ⟨_, rfl, ?_⟩
 rw [er] at w2
 refine ⟨_, (by kernel_rfl : mlook Tryz.prog 191 "Pop" = some 219), K219.c w2.ch (by have := pr.length_eq; simp at this; omega) fun h3' c3 st3 => ⟨_, rfl, ?_⟩⟩
 exact hq r h3' pr (w2.next c3 st3 fun x hx => w2.lt x (by simp [hx])) ((st1.trans st2).trans st3)
theorem K142.c {v : Nat} (w : LkB F Gs bs rs hc h d f pb tb hb fb q y fr G cb l) (ok : q.ok n) (hv : v < q.H) (h1 : 1 ≤ l.length) (h2 : l.length ≤ 2)
  (hq : ∀ G' r h', r.Perm (v :: l) → LkB F Gs bs rs hc h' d f pb tb hb fb q y fr G' cb r → Step G h G' h' → Q (.tuple #[]) h') :
  CT 142 #[.iface 191 (.pointer (some ⟨cb, 0, none⟩)), .iface 3 (.int .i64 (v : Nat))] h Q := by
 have pp := heap_pushes (wearF q y.x) v h1 h2
 apply K142.ok
 refine ⟨_, (by kernel_rfl : mlook Tryz.prog 191 "Push" = some 220), K220.c w.ch (by omega) fun G1 h1' c1 st1 => ?_⟩
 have hlt : ∀ x ∈ l ++ [v], x < q.H := fun x hx => by
  rcases List.mem_append.1 hx with hx | hx
  ·exact w.lt x hx
  ·rw [List.mem_singleton.1 hx]; exact hv
 have w1 := w.next c1 st1 hlt
 have el : (l ++ [v]).length = l.length + 1 := by simp
 refine ⟨_, (by kernel_rfl : mlook Tryz.prog 191 "Len" = some 217), K217.c w1.ch ⟨_, rfl, ?_⟩⟩
 rw [el, show IntKind.i64.wrap (((l.length + 1 : Nat) : Int) - 1) = ((l.length : Nat) : Int) by rw [i64_in _ (by omega)]; omega]
 apply K167.ok
 apply K167.L0.ok
 have ej : iquo .i64 (IntKind.i64.wrap (((l.length : Nat) : Int) - 1)) 2 = 0 := by
  rw [i64_in _ (by omega), iquo_i64 (by omega) (by omega) (by omega)]; omega
 unfold K167.L0.wp
 rw [ej]
 refine xsIf_f (decide_eq_false (by omega)) ⟨_, (by kernel_rfl : mlook Tryz.prog 191 "Less" = some 218), K218.c (k := 0) w1 ok (by omega) (by omega) ⟨_, rfl, ?_⟩⟩
 unfold upw at pp
 cases e : less (wearF q y.x) (gt (l ++ [v]) l.length) (gt (l ++ [v]) 0) with
 | false =>
  rw [e] at pp
  exact xsIf_t rfl (hq G1 _ h1' pp w1 st1)
 | true =>
  rw [e, if_pos rfl] at pp
  refine xsIf_f rfl ⟨_, (by kernel_rfl : mlook Tryz.prog 191 "Swap" = some 221), K221.c (i := 0) w1.ch (by omega) (by omega) fun h3 c3 st3 => ?_⟩
  have w3 := w1.next c3 st3 fun x hx => w1.lt x (swp_mem (by omega) (by omega) hx)
  apply K167.L0.ok
  exact xsIf_t rfl (hq G1 _ h3 pp w3 (st1.trans st3))
end
end Go.Gb
namespace Go.Gb
open Go.Proofs IntWalk
theorem Step.fresh {X G : Nat → Prop} {h h2 : Heap} (pt : Part h h2) (fG : ∀ k, G k → h k = none) (lG : Live G h2) : Step X h (fun k => G k ∨ X k) h2 :=
 ⟨fun k _ hk => part_live pt hk, fun k hk => by
  rcases hk with hk | hk
  ·exact .inr (fG k hk)
  ·exact .inl hk, fun k hk => by rw [part_live pt hk]; exact hk, fun hl k hk => by
  rcases hk with hk | hk
  ·exact lG k hk
  ·rw [part_live pt (hl k hk)]; exact hl k hk⟩
theorem entL_len (g : Nat) (fm mv : Nat → Nat) : (entL g fm mv).length = 2 * g := by
 have := flat_length (f := fun i => [Value.int .i64 (fm i : Nat), .int .u64 (mv i : Nat)]) (sz := 2) (fun _ => rfl) (List.range g)
 unfold entL
 rw [this, List.length_range, Nat.mul_comm]
theorem entL_set {g i : Nat} (fm mv : Nat → Nat) (a m : Nat) (hi : i < g) : setL (entL g fm mv) (2 * i) [.int .i64 (a : Nat), .int .u64 (m : Nat)] = entL g (fset fm i a) (fset mv i m) := by
 apply List.ext_getElem?
 intro j
 rw [setL_get _ _ _ _ (by rw [entL_len]; show 2 * i + 2 ≤ _; omega)]
 by_cases hj : j < 2 * g
 ·have hk : j / 2 < g := by omega
  obtain ⟨n0, n1⟩ := entL_get (fm := fset fm i a) (mv := fset mv i m) hk
  obtain ⟨o0, o1⟩ := entL_get (fm := fm) (mv := mv) hk
  show (if 2 * i ≤ j ∧ j < 2 * i + 2 then _ else _) = _
  rcases Nat.mod_two_eq_zero_or_one j with hm | hm
  ·have ej : j = 2 * (j / 2) := by omega
   rw [ej, n0, o0]
   by_cases e : j / 2 = i
   ·rw [if_pos (by omega), e, Nat.sub_self]
    unfold fset; rw [if_pos rfl]; rfl
   ·rw [if_neg (by omega)]
    unfold fset; rw [if_neg e]
  ·have ej : j = 2 * (j / 2) + 1 := by omega
   rw [ej, n1, o1]
   by_cases e : j / 2 = i
   ·rw [if_pos (by omega), e, show 2 * i + 1 - 2 * i = 1 by omega]
    unfold fset; rw [if_pos rfl]; rfl
   ·rw [if_neg (by omega)]
    unfold fset; rw [if_neg e]
 ·have en : (entL g (fset fm i a) (fset mv i m))[j]? = none := List.getElem?_eq_none (by rw [entL_len]; omega)
  have eo : (entL g fm mv)[j]? = none := List.getElem?_eq_none (by rw [entL_len]; omega)
  rw [en, eo]
  show (if 2 * i ≤ j ∧ j < 2 * i + 2 then _ else _) = _
  rw [if_neg (by omega)]
theorem htL_set {g i : Nat} (ht : Nat → Nat) (v : Nat) : (htL g ht).set i (.int .i64 (v : Nat)) = htL g (fset ht i v) := by
 unfold htL
 exact row_set (n := g) (k := i) (fun n : Nat => Value.int .i64 (n : Nat)) ht v
section
variable {F : Nat → Prop} {Gs : Nat → Nat → Prop} {bs rs : Nat → Nat} {hc h h1 : Heap} {d f pb tb hb fb n : Nat} {q : HPl} {y y' : HS} {fr : List Nat} {G G' : Nat → Prop} {cb : Nat} {l l' : List Nat} {Q : QT}
theorem HD.free_len (w : HD F Gs bs rs hc h d f pb tb hb fb q y fr) (iv : HY q y) : 2 ≤ fr.length ∧ fr.length ≤ 3 := by
 have f1 := iv.ok.f1
 have f2 := iv.ok.f2
 have pg : ((List.range q.g).map y.fm).Nodup := by
  refine List.pairwise_map.2 ?_
  refine List.Pairwise.imp_of_mem (fun {a b} ha hb hne e => hne (iv.inj a b (List.mem_range.1 ha) (List.mem_range.1 hb) e)) List.nodup_range
 have all : (fr ++ (List.range q.g).map y.fm).Nodup := by
  refine List.nodup_append.2 ⟨w.fo.1, pg, fun a ha b hb e => ?_⟩
  obtain ⟨i, hi, rfl⟩ := List.mem_map.1 hb
  exact ((w.fo.2 a).1 ha).2.2 i (List.mem_range.1 hi) e.symm
 have rg : ((List.range (q.H - q.t)).map fun j => q.t + j).Nodup := List.pairwise_map.2 (List.Pairwise.imp (fun h e => h (by omega)) List.nodup_range)
 have s1 : fr ++ (List.range q.g).map y.fm ⊆ (List.range (q.H - q.t)).map fun j => q.t + j := by
  intro a ha
  have : q.t ≤ a ∧ a < q.H := by
   rcases List.mem_append.1 ha with ha | ha
   ·have := (w.fo.2 a).1 ha
    exact ⟨this.1, this.2.1⟩
   ·obtain ⟨i, hi, rfl⟩ := List.mem_map.1 ha
    exact iv.lo i (List.mem_range.1 hi)
  exact List.mem_map.2 ⟨a - q.t, List.mem_range.2 (by omega), by omega⟩
 have s2 : ((List.range (q.H - q.t)).map fun j => q.t + j) ⊆ fr ++ (List.range q.g).map y.fm := by
  intro a ha
  obtain ⟨j, hj, rfl⟩ := List.mem_map.1 ha
  rw [List.mem_range] at hj
  refine List.mem_append.2 ?_
  by_cases e : ∃ i, i < q.g ∧ y.fm i = q.t + j
  ·obtain ⟨i, hi, e⟩ := e
   exact .inr (List.mem_map.2 ⟨i, List.mem_range.2 hi, e⟩)
  ·exact .inl ((w.fo.2 _).2 ⟨by omega, by omega, fun i hi h => e ⟨i, hi, h⟩⟩)
 have l1 := all.length_le_of_subset s1
 have l2 := rg.length_le_of_subset s2
 simp at l1 l2
 omega
theorem HD.tgt (w : HD F Gs bs rs hc h d f pb tb hb fb q y fr) (iv : HY q y) : bestN (wearF q y.x) fr = q.tgt y := by
 have hl := (w.free_len iv).1
 obtain ⟨h1, h2⟩ := best_spec (w := wearF q y.x) (l := fr) (fun e => by rw [e] at hl; exact absurd hl (by decide))
 refine (best_uniq (freeL_mem.2 ((w.fo.2 _).1 h1)) fun x hx => h2 x ((w.fo.2 x).2 (freeL_mem.1 hx))).symm
theorem K141.L2.c {i dst : Nat} (hi : i < q.g) (hd : isFree q y.fm dst) : ∀ (j k : Nat) (h : Heap) (x : FS), k + j = 8 → HD F Gs bs rs hc h d f pb tb hb fb q ⟨x, y.fm, y.mv, y.ht⟩ fr → HT q x y.fm y.mv →
  (∀ h', HD F Gs bs rs hc h' d f pb tb hb fb q ⟨(hcopy q (y.fm i) dst j k x).2, y.fm, y.mv, y.ht⟩ fr → Step (HF F Gs rs q.p.R pb tb hb fb) h (HF F Gs rs q.p.R pb tb hb fb) h' → Q (.int .i64 (hcopy q (y.fm i) dst j k x).1) h') →
  K141.L2 (some ⟨pb, 0, none⟩) (i : Int) (dst : Int) (k : Int) h Q := by
 intro j
 induction j with
 | zero =>
  intro k h x hk w iv hq
  apply K141.L2.ok
  exact xsIf_f (decide_eq_false (by omega)) (hq h w (Step.refl _ _))
 | succ j ih =>
  intro k h x hk w iv hq
  have hl := iv.ok.lines
  have hH := iv.ok.H_le
  have hdl := hd.2.1
  apply K141.L2.ok
  refine xsIf_t (decide_eq_true (by omega)) (K60.c w iv (fun _ => ⟨_, _, rfl, xsIf_t rfl ⟨pb, 0, rfl, _, w.p0, ?_⟩⟩) fun hn => absurd ⟨⟨by omega, by omega⟩, by omega, by omega⟩ hn)
  rw [Int.toNat_natCast, Int.toNat_natCast]
  have el : IntKind.i64.wrap (IntKind.i64.wrap ((dst : Int) * 8) + (k : Int)) = ((8 * dst + k : Nat) : Int) := by rw [i64_in ((dst : Int) * 8) (by omega), i64_in _ (by omega)]; omega
  rw [el]
  refine K96.c w.fd iv.fi fun h1 w1 st1 => ⟨_, rfl, ?_⟩
  have hB : (Gb.fr q.p x (8 * y.fm i + k)).size = 64 := fr_size _ _ _
  have o := fWrite_out iv.fi (l := 8 * dst + k) (by omega) hB
  have n1 := (fWrite_st iv.fi ((8 * dst + k : Nat) : Int) (Gb.fr q.p x (8 * y.fm i + k))).2
  obtain ⟨w2, st2⟩ := w.flat w1 st1
  have e0 : hr q x y.fm i k = Gb.fr q.p x (8 * y.fm i + k) := rfl
  unfold hcopy at hq
  have w2 : HD F Gs bs rs hc h1 d f pb tb hb fb q ⟨(fWrite q.p x ((8 * dst + k : Nat) : Int) (Gb.fr q.p x (8 * y.fm i + k))).2, y.fm, y.mv, y.ht⟩ fr := w2
  show xsIf (decide ((fWrite q.p x ((8 * dst + k : Nat) : Int) (Gb.fr q.p x (8 * y.fm i + k))).1 ≠ 0)) _ _
  show xsIf (decide ((fWrite q.p x ((8 * dst + k : Nat) : Int) (Gb.fr q.p x (8 * y.fm i + k))).1 ≠ 0)) (Q (.int .i64 (fWrite q.p x ((8 * dst + k : Nat) : Int) (Gb.fr q.p x (8 * y.fm i + k))).1) h1) (K141.L2 (some ⟨pb, 0, none⟩) (i : Int) (dst : Int) (IntKind.i64.wrap ((k : Int) + 1)) h1 Q)
  generalize fWrite q.p x ((8 * dst + k : Nat) : Int) (Gb.fr q.p x (8 * y.fm i + k)) = r at w2 o n1 hq ⊢
  by_cases e : r.1 = 0
  ·rw [if_pos e] at hq
   have keep : HT q r.2 y.fm y.mv := by
    rcases o with ⟨_, fi, m⟩ | ⟨e1, _⟩ | ⟨e1, _⟩
    ·exact (HT.keep iv fi n1 hd fun l hl hlo => by rw [m l hl, if_neg (by omega)]).1
    ·rw [e] at e1; cases e1
    ·rw [e] at e1; cases e1
   refine xsIf_f (decide_eq_false (fun h => h e)) ?_
   rw [show IntKind.i64.wrap ((k : Int) + 1) = ((k + 1 : Nat) : Int) by rw [i64_in _ (by omega)]; omega]
   exact ih (k + 1) h1 r.2 (by omega) w2 keep fun h3 w3 st3 => hq h3 w3 (st2.trans st3)
  ·rw [if_neg e] at hq
   exact xsIf_t (decide_eq_true e) (hq h1 w2 st2)
theorem K141.c {i dst : Nat} (w : HD F Gs bs rs hc h d f pb tb hb fb q y fr) (iv : HY q y) (hi : i < q.g) (hd : isFree q y.fm dst)
  (hq : ∀ h', HD F Gs bs rs hc h' d f pb tb hb fb q ⟨(hcopy q (y.fm i) dst 8 0 y.x).2, y.fm, y.mv, y.ht⟩ fr → Step (HF F Gs rs q.p.R pb tb hb fb) h (HF F Gs rs q.p.R pb tb hb fb) h' → Q (.int .i64 (hcopy q (y.fm i) dst 8 0 y.x).1) h') :
  CT 141 #[.pointer (some ⟨pb, 0, none⟩), .int .i64 (i : Int), .int .i64 (dst : Int)] h Q := by
 apply K141.ok
 exact K141.L2.c hi hd 8 0 h y.x (by omega) w iv hq
theorem LkB.over (i : LkB F Gs bs rs hc h d f pb tb hb fb q y fr G cb l) (w : HD F Gs bs rs hc h1 d f pb tb hb fb q y' fr) (st : Step (HF F Gs rs q.p.R pb tb hb fb) h (HF F Gs rs q.p.R pb tb hb fb) h1) : LkB F Gs bs rs hc h1 d f pb tb hb fb q y' fr G cb l := by
 obtain ⟨a, c, b, s⟩ := i.ch.sl
 have k : ∀ k, G k → h k ≠ none → h1 k = h k := fun k hk hn => st.keep k (i.ap k hk).1 hn
 exact ⟨w, ⟨i.ch.gc, fun x hx => by rw [k x hx (i.ch.lv x hx)]; exact i.ch.lv x hx, a, c, b.keep (k _ i.ch.gc b.ne), s.keep (fun _ h => h) fun x hx hn => k x hx.1 hn⟩, i.ap, i.lt⟩
theorem HD.heat {i v : Nat} (w : HD F Gs bs rs hc h d f pb tb hb fb q y fr) (hi : i < q.g) : HD F Gs bs rs hc (h.put hb (0 + i * 1) [.int .i64 (v : Nat)]) d f pb tb hb fb q ⟨y.x, y.fm, y.mv, fset y.ht i v⟩ fr ∧
  Step (HF F Gs rs q.p.R pb tb hb fb) h (HF F Gs rs q.p.R pb tb hb fb) (h.put hb (0 + i * 1) [.int .i64 (v : Nat)]) ∧ h.can hb (0 + i * 1) 1 := by
 have st : Step (HF F Gs rs q.p.R pb tb hb fb) h (HF F Gs rs q.p.R pb tb hb fb) (h.put hb (0 + i * 1) [.int .i64 (v : Nat)]) := Step.put (.inr (.inr (.inr (.inl rfl)))) _ _
 obtain ⟨ct, ch, cf, b⟩ := w.pc
 obtain ⟨cs, b2, e2⟩ := w.fc
 obtain ⟨n1, n2, n3, n4, n5, n6⟩ := w.ne
 have o : ∀ k, k ≠ hb → (h.put hb (0 + i * 1) [.int .i64 (v : Nat)]) k = h k := fun k hk => put_other _ _ _ hk
 have e0 : 0 + i * 1 = i := by omega
 refine ⟨⟨w.fd.keep (fun k hk _ => o k fun e => (w.nf hb (.inr (.inr (.inl rfl)))).1 (by rw [← e]; exact hk)) (fun k ob hk => by
  rw [o k fun e => by rw [e, (w.nf hb (.inr (.inr (.inl rfl)))).2] at hk; cases hk]; exact w.fd.cp k ob hk), ⟨ct, ch, cf, b.keep (o _ n2)⟩, w.tc.keep (o _ n4), ?_, ⟨cs, b2.keep (o _ (Ne.symm n6)), e2⟩, w.ne, w.nf, w.fo⟩, st, w.hh.can (by unfold htL; simp; omega)⟩
 have := w.hh.put i [.int .i64 (v : Nat)]
 rw [setL_one, htL_set] at this
 rw [e0]; exact this
set_option maxHeartbeats 1000000 in
theorem K99.c {i : Nat} (w : HD F Gs bs rs hc h d f pb tb hb fb q y fr) (iv : HY q y) (hi : i < q.g)
  (hq : ∀ fb' fr' h', HD F Gs bs rs hc h' d f pb tb hb fb' q (hlook q y i).2 fr' → Step (HF F Gs rs q.p.R pb tb hb fb) h (HF F Gs rs q.p.R pb tb hb fb') h' → Q (.int .i64 (hlook q y i).1) h') :
  CT 99 #[.pointer (some ⟨pb, 0, none⟩), .int .i64 (i : Int)] h Q := by
 obtain ⟨fl2, fl3⟩ := w.free_len iv
 have etgt := w.tgt iv
 have hH := iv.ok.H_le
 have g64 := iv.ok.f1
 obtain ⟨cf, e4⟩ := w.p4
 obtain ⟨cs, fbB, ftk⟩ := w.fc
 apply K99.ok
 refine ⟨pb, 0, rfl, _, _, _, e4, ?_⟩
 have rd : readsAt h (some ⟨fb, 0, none⟩) (frL fr) := .inr ⟨fb, 0, rfl, fun j hj => by
  rw [fbB.cell, ← ftk, List.getElem?_take, if_pos (by rw [frL_len] at hj; exact hj), Nat.zero_add]⟩
 refine (Sl.nil (fun _ => False) h 3 1).append (m := fr.length) (new := frL fr) (by kernel_rfl) (by omega) (by rw [frL_len]; omega) (ints_one _ _) rd (by kernel_rfl) (by rw [show cellBytes Tryz.prog 3 = 8 by kernel_rfl]; omega) fun a' c' F' h1 s1 st1 _ => ?_
 rw [Nat.zero_add, List.nil_append] at s1
 rw [Nat.zero_add]
 intro cb hcb
 have pt1 : Part h h1 := fun k o hk => by
  rw [st1.keep k (fun h => h) (by rw [hk]; simp)]; exact hk
 have fF1 : ∀ k, F' k → h k = none := fun k hk => (st1.sub k hk).resolve_left fun h => h
 have lF1 : Live F' h1 := st1.dom fun k hk => hk.elim
 have pt2 : Part h1 (upd h1 cb (Obj.cells #[.pointer (some ⟨pb, 0, none⟩), .slice a' fr.length c'] 193 (0, 0))) := Part.upd hcb _
 have bk := Blk.new h1 cb #[.pointer (some ⟨pb, 0, none⟩), .slice a' fr.length c'] 193
 generalize upd h1 cb (Obj.cells #[.pointer (some ⟨pb, 0, none⟩), .slice a' fr.length c'] 193 (0, 0)) = h2 at pt2 bk
 have pt12 := pt1.trans pt2
 have ncb : ¬ F' cb := fun hf => lF1 cb hf hcb
 let G0 : Nat → Prop := fun k => F' k ∨ k = cb
 have fG : ∀ k, G0 k → h k = none := fun k hk => by
  rcases hk with hk | hk
  ·exact fF1 k hk
  ·rw [hk]; exact Part.none pt1 hcb
 have lG : Live G0 h2 := fun k hk => by
  rcases hk with hk | hk
  ·rw [part_live pt2 (lF1 k hk)]; exact lF1 k hk
  ·rw [hk]; exact bk.ne
 have sF : Step (HF F Gs rs q.p.R pb tb hb fb) h (fun k => G0 k ∨ HF F Gs rs q.p.R pb tb hb fb k) h2 := Step.fresh pt12 fG lG
 have L2 : LkB F Gs bs rs hc h2 d f pb tb hb fb q y fr G0 cb fr := by
  refine ⟨w.part pt12, ⟨.inr rfl, lG, a', c', bk, s1.keep (fun k hk => ⟨.inl hk, fun e => ncb (by rw [← e]; exact hk)⟩) fun k _ hn => part_live pt2 hn⟩, fun k hk => ⟨fun hf => w.live k hf (fG k hk), Part.none w.fd.cp (fG k hk)⟩, fun x hx => ((w.fo.2 x).1 hx).2.1⟩
 refine K138.c L2 iv.ok fl2 fl3 fun h3 L3 st3 => ?_
 have sG : Step (HF F Gs rs q.p.R pb tb hb fb) h (fun k => G0 k ∨ HF F Gs rs q.p.R pb tb hb fb k) h3 := sF.trans (st3.wide fun k hk => .inl hk)
 obtain ⟨ct, e2⟩ := L3.hd.p2
 refine ⟨pb, 0, rfl, _, _, _, e2, by omega, tb, 0, rfl, _, L3.hd.t0 (i := i) hi, _, L3.hd.t1 (i := i) hi, ?_⟩
 refine K139.c L3 iv.ok fl2 fl3 fun r h4 pr L4 st4 => ⟨_, rfl, _, rfl, ?_⟩
 have sH : Step (HF F Gs rs q.p.R pb tb hb fb) h (fun k => G0 k ∨ HF F Gs rs q.p.R pb tb hb fb k) h4 := sG.trans (st4.wide fun k hk => .inl hk)
 rw [etgt] at pr ⊢
 have hfree := HPl.tgt_free iv
 have li := iv.lo i hi
 refine K140.c (j := q.tgt y) L4.hd.p0 L4.hd.fd iv.ok hfree.2.1 ⟨_, rfl, ?_⟩
 refine K140.c (j := y.fm i) L4.hd.p0 L4.hd.fd iv.ok li.2 ⟨_, rfl, ?_⟩
 unfold hlook at hq
 have shr : ∀ {h' : Heap}, Step (HF F Gs rs q.p.R pb tb hb fb) h (fun k => G0 k ∨ HF F Gs rs q.p.R pb tb hb fb k) h' → Step (HF F Gs rs q.p.R pb tb hb fb) h (HF F Gs rs q.p.R pb tb hb fb) h' := fun s => s.shrink fun k hk => .inr hk
 refine xsIf_intro (fun e => ?_) fun e => ?_
 ·rw [if_pos (of_decide_eq_true e)] at hq
  obtain ⟨c3, e3⟩ := L4.hd.p3
  obtain ⟨w5, st5, can5⟩ := L4.hd.heat (i := i) (v := 0) hi
  exact ⟨pb, 0, rfl, _, _, _, e3, by omega, hb, 0, rfl, can5, hq fb fr _ w5 (shr (sH.trans (st5.wide fun k hk => .inr hk)))⟩
 ·rw [if_neg (of_decide_eq_false e)] at hq
  generalize q.tgt y = t at hq pr hfree
  have ht := hfree.2.1
  refine K141.c L4.hd iv hi hfree fun h5 w5 st5 => ⟨_, rfl, ?_⟩
  have hcp := hcopy_out (q := q) (src := y.fm i) (dst := t) (by have := iv.ok.lines; omega) (by have := iv.ok.lines; omega) (hfree.2.2 i hi) 8 0 y.x (by omega) iv.fi y.x rfl (fun _ _ _ => rfl) fun i hi => by omega
  have L5 := L4.over w5 st5
  have s5 := sH.trans (st5.wide (Y := fun k => G0 k ∨ HF F Gs rs q.p.R pb tb hb fb k) fun k hk => .inr hk)
  unfold hcopied at hq
  generalize hcopy q (y.fm i) t 8 0 y.x = r1 at w5 hq hcp L5 ⊢
  by_cases e1 : r1.1 = 0
  ·rw [if_pos e1] at hq
   refine xsIf_f (decide_eq_false (fun h => h e1)) (K56.c (by omega) ⟨_, _, rfl, pb, 0, rfl, ?_⟩)
   obtain ⟨n1, hcp⟩ := hcp
   have iv1 : HT q r1.2 y.fm y.mv := by
    rcases hcp with ⟨_, fi, o, _⟩ | ⟨e, _⟩ | ⟨e, _⟩
    ·exact (HT.keep iv fi n1 hfree o).1
    ·rw [e1] at e; cases e
    ·rw [e1] at e; cases e
   have mb := iv.mb i hi
   have ti := iv1.tline hi
   have ew : IntKind.u64.wrap (((y.mv i : Nat) : Int) + 1) = ((y.mv i + 1 : Nat) : Int) := by
    rw [show ((y.mv i : Nat) : Int) + 1 = ((y.mv i + 1 : Nat) : Int) by omega, u64_nat' (by omega)]
   rw [ew]
   have W : ∀ {h' : Heap} {Q : QT}, Q (.int .u64 (entW t ((y.mv i + 1) % 4294967296) : Nat)) h' → CT 58 #[.agg #[.int .i64 (t : Int), .int .u64 ((y.mv i + 1 : Nat) : Int)]] h' Q := fun hq => K58.c (by omega) (by omega) hq
   have hlt : (y.mv i + 1) % 4294967296 < 4294967296 := Nat.mod_lt _ (by omega)
   unfold hmove at hq
   generalize (y.mv i + 1) % 4294967296 = mm at hq W hlt
   have FW : ∀ {Q : QT}, (∀ h', FD F Gs bs rs hc h' d f q.p (fWriteWord q.p r1.2 ((i / 8 : Nat) : Int) ((i % 8 : Nat) : Int) (entW t mm)).2 → Step (FF F Gs rs q.p.R) h5 (FF F Gs rs q.p.R) h' → Q (.int .i64 (fWriteWord q.p r1.2 ((i / 8 : Nat) : Int) ((i % 8 : Nat) : Int) (entW t mm)).1) h') →
     CT 57 #[.pointer (some ⟨f, 0, none⟩), .int .i64 ((i / 8 : Nat) : Int), .int .i64 ((i % 8 : Nat) : Int), .int .u64 (entW t mm : Nat)] h5 Q := fun hq => K57.c (entW_lt _ _) L5.hd.fd iv1.fi hq
   have ho := fWriteWord_out iv1.fi (l := i / 8) (k := i % 8) (v := entW t mm) ti.2 (Nat.mod_lt _ (by omega)) (entW_lt _ _)
   have ho2 := (fWriteWord_st iv1.fi ((i / 8 : Nat) : Int) ((i % 8 : Nat) : Int) (v := entW t mm) (entW_lt _ _)).2
   have tail : ∀ (r2 : Int × FS), FlOut q.p r1.2 (i / 8) (withW (Gb.fr q.p r1.2 (i / 8)) (i % 8) (entW t mm)) (fun y => y = Gb.fr q.p r1.2 (i / 8) ∨ y = withW (Gb.fr q.p r1.2 (i / 8)) (i % 8) (entW t mm)) r2 → r2.2.s.nl = r1.2.s.nl →
     (∀ fb' fr' h', HD F Gs bs rs hc h' d f pb tb hb fb' q (if r2.1 = 0 then ((0 : Int), (⟨r2.2, fset y.fm i t, fset y.mv i mm, fset y.ht i 0⟩ : HS)) else (r2.1, ⟨r2.2, y.fm, y.mv, y.ht⟩)).2 fr' → Step (HF F Gs rs q.p.R pb tb hb fb) h (HF F Gs rs q.p.R pb tb hb fb') h' → Q (.int .i64 (if r2.1 = 0 then ((0 : Int), (⟨r2.2, fset y.fm i t, fset y.mv i mm, fset y.ht i 0⟩ : HS)) else (r2.1, ⟨r2.2, y.fm, y.mv, y.ht⟩)).1) h') →
     ∀ h6, FD F Gs bs rs hc h6 d f q.p r2.2 → Step (FF F Gs rs q.p.R) h5 (FF F Gs rs q.p.R) h6 →
     xsIf (decide (r2.1 ≠ 0)) (Q (.int .i64 r2.1) h6)
      (CT 58 #[.agg #[.int .i64 (t : Int), .int .u64 ((y.mv i + 1 : Nat) : Int)]] h6 fun (r : Value) (h' : Heap) => ∃ (x_12 : Int), r = .int .u64 x_12 ∧ CT 104 #[.int .u64 x_12] h' fun (r : Value) (h' : Heap) => ∃ (x_13 : Int), ∃ (x_14 : Int), ∃ (x_15 : Bool), r = .tuple #[.agg #[.int .i64 x_13, .int .u64 x_14], .bool x_15] ∧
       CT 142 #[.iface 191 (.pointer (some ⟨cb, 0, none⟩)), .iface 3 (.int .i64 ((y.fm i : Nat) : Int))] h' fun (r : Value) (h' : Heap) => atBase (some ⟨pb, 0, none⟩) fun (b_4 o : Nat) => atBase (some ⟨pb, 0, none⟩) fun (b_5 o_1 : Nat) => atBase (some ⟨cb, 0, none⟩) fun (b o_2 : Nat) =>
        ∃ (x : Option Addr), ∃ (n : Nat), ∃ (m : Nat), h'.cell b_4 (o + 2) = some (.slice x n m) ∧ ∃ (x_16 : Option Addr), ∃ (n_1 : Nat), ∃ (m : Nat), h'.cell b_5 (o_1 + 3) = some (.slice x_16 n_1 m) ∧ ∃ (x_17 : Option Addr), ∃ (n_2 : Nat), ∃ (m : Nat), h'.cell b (o_2 + 1) = some (.slice x_17 n_2 m) ∧
        (0 ≤ (i : Int) ∧ (i : Int) < (↑n : Int)) ∧ atBase x fun (b o : Nat) => h'.can b (o + (i : Int).toNat * 2) 2 ∧ (0 ≤ (i : Int) ∧ (i : Int) < (↑n_1 : Int)) ∧ atBase x_16 fun (b_6 o_3 : Nat) => (h'.put b (o + (i : Int).toNat * 2) [.int .i64 x_13, .int .u64 x_14]).can b_6 (o_3 + (i : Int).toNat * 1) 1 ∧
        atBase (some ⟨pb, 0, none⟩) fun (b_7 o_4 : Nat) => ((h'.put b (o + (i : Int).toNat * 2) [.int .i64 x_13, .int .u64 x_14]).put b_6 (o_3 + (i : Int).toNat * 1) [.int .i64 0]).can b_7 (o_4 + 4) 1 ∧
        Q (.int .i64 0) (((h'.put b (o + (i : Int).toNat * 2) [.int .i64 x_13, .int .u64 x_14]).put b_6 (o_3 + (i : Int).toNat * 1) [.int .i64 0]).put b_7 (o_4 + 4) [.slice x_17 n_2 m])) := by
    intro r2 ho ho2 hq h6 w6 st6
    obtain ⟨hd6, st6'⟩ := L5.hd.flat w6 st6
    have L6 := L5.over hd6 st6'
    have s6 := s5.trans (st6'.wide (Y := fun k => G0 k ∨ HF F Gs rs q.p.R pb tb hb fb k) fun k hk => .inr hk)
    by_cases e2 : r2.1 = 0
    ·rw [if_pos e2] at hq
     refine xsIf_f (decide_eq_false (fun h => h e2)) (W ⟨_, rfl, K104.c (by omega) hlt ⟨_, _, _, rfl, ?_⟩⟩)
     have hpl := pr.length_eq
     simp at hpl
     refine K142.c (v := y.fm i) L6 iv.ok li.2 (by omega) (by omega) fun G' r' h7 pr' L7 st7 => ?_
     have s7 : Step (HF F Gs rs q.p.R pb tb hb fb) h (fun k => G' k ∨ HF F Gs rs q.p.R pb tb hb fb k) h7 := s6.trans (st7.widen (G := HF F Gs rs q.p.R pb tb hb fb))
     obtain ⟨ct7, ch7, cf7, b7⟩ := L7.hd.pc
     obtain ⟨a7, c7, cb7, sl7⟩ := L7.ch.sl
     obtain ⟨n1, n2, n3, n4, n5, n6⟩ := L7.hd.ne
     have hlr : r'.length = fr.length := by
      rw [pr'.length_eq]; simp; omega
     rcases sl7.place with ⟨_, hz, _⟩ | ⟨sb, sc, rfl, ⟨hg, hne⟩, hs, hsz, hle, htk⟩
     ·omega
     have apg := L7.ap sb hg
     have nsb : ∀ k, P4 pb tb hb fb k → sb ≠ k := fun k hk e => apg.1 (.inr (by rw [e]; exact hk))
     refine ⟨pb, 0, rfl, pb, 0, rfl, cb, 0, rfl, _, _, _, b7.cell 2, _, _, _, b7.cell 3, _, _, _, cb7.cell 1, by omega, tb, 0, rfl, ?_, by omega, hb, 0, rfl, ?_, pb, 0, rfl, ?_, ?_⟩
     ·exact L7.hd.tc.can (by rw [entL_len]; omega)
     ·exact (L7.hd.hh.keep (put_other _ _ _ (Ne.symm n4))).can (by unfold htL; simp; omega)
     ·exact (b7.keep ((put_other _ _ _ n2).trans (put_other _ _ _ n1))).can (by show 0 + 4 + 1 ≤ 5; omega)
     rw [Int.toNat_natCast, show 0 + i * 2 = 2 * i by omega, show 0 + i * 1 = i by omega, show 0 + 4 = 4 from rfl]
     have B1 := L7.hd.tc.put (2 * i) [.int .i64 (t : Nat), .int .u64 (mm : Nat)]
     rw [entL_set _ _ _ _ hi] at B1
     have p1 : ∀ k, k ≠ tb → (h7.put tb (2 * i) [.int .i64 (t : Nat), .int .u64 (mm : Nat)]) k = h7 k := fun k hk => put_other _ _ _ hk
     generalize h7.put tb (2 * i) [.int .i64 (t : Nat), .int .u64 (mm : Nat)] = h8 at B1 p1
     have B2 := (L7.hd.hh.keep (p1 _ (Ne.symm n4))).put i [.int .i64 ((0 : Nat) : Int)]
     rw [setL_one, htL_set] at B2
     have p2 : ∀ k, k ≠ hb → (h8.put hb i [.int .i64 0]) k = h8 k := fun k hk => put_other _ _ _ hk
     have B2 : Blk (h8.put hb i [.int .i64 0]) hb (htL q.g (fset y.ht i 0)) := B2
     generalize h8.put hb i [.int .i64 0] = h9 at B2 p2
     have B3 := (b7.keep ((p2 _ n2).trans (p1 _ n1))).put 4 [.slice (some ⟨sb, 0, none⟩) r'.length c7]
     have p3 : ∀ k, k ≠ pb → (h9.put pb 4 [.slice (some ⟨sb, 0, none⟩) r'.length c7]) k = h9 k := fun k hk => put_other _ _ _ hk
     generalize h9.put pb 4 [.slice (some ⟨sb, 0, none⟩) r'.length c7] = h10 at B3 p3
     have keep : ∀ k, k ≠ tb → k ≠ hb → k ≠ pb → h10 k = h7 k := fun k k1 k2 k3 => (p3 k k3).trans ((p2 k k2).trans (p1 k k1))
     have live : ∀ k, h7 k ≠ none → h10 k ≠ none := fun k hk => by
      by_cases k3 : k = pb
      ·rw [k3]; exact B3.ne
      ·rw [p3 k k3]
       by_cases k2 : k = hb
       ·rw [k2]; exact B2.ne
       ·rw [p2 k k2]
        by_cases k1 : k = tb
        ·rw [k1]; exact B1.ne
        ·rw [p1 k k1]; exact hk
     have st10 : Step (fun k => G' k ∨ HF F Gs rs q.p.R pb tb hb fb k) h7 (fun k => G' k ∨ HF F Gs rs q.p.R pb tb hb fb k) h10 :=
      ⟨fun k hk _ => keep k (fun e => hk (.inr (.inr (.inr (.inl e))))) (fun e => hk (.inr (.inr (.inr (.inr (.inl e)))))) (fun e => hk (.inr (.inr (.inl e)))), fun k hk => .inl hk, live, fun hl k hk => live k (hl k hk)⟩
     have np : ∀ k, FF F Gs rs q.p.R k → k ≠ tb ∧ k ≠ hb ∧ k ≠ pb := fun k hk => ⟨fun e => (L7.hd.nf tb (.inr (.inl rfl))).1 (by rw [← e]; exact hk), fun e => (L7.hd.nf hb (.inr (.inr (.inl rfl)))).1 (by rw [← e]; exact hk), fun e => (L7.hd.nf pb (.inl rfl)).1 (by rw [← e]; exact hk)⟩
     have nc : ∀ k, hc k ≠ none → k ≠ tb ∧ k ≠ hb ∧ k ≠ pb := fun k hk => ⟨fun e => hk (by rw [e]; exact (L7.hd.nf tb (.inr (.inl rfl))).2), fun e => hk (by rw [e]; exact (L7.hd.nf hb (.inr (.inr (.inl rfl)))).2), fun e => hk (by rw [e]; exact (L7.hd.nf pb (.inl rfl)).2)⟩
     refine hq sb r' h10 ⟨?_, ⟨ct7, ch7, c7, B3⟩, B1.keep ((p3 _ (Ne.symm n1)).trans (p2 _ n4)), B2.keep (p3 _ (Ne.symm n2)), ⟨sc.toList, ?_, ?_⟩, ⟨n1, n2, Ne.symm (nsb pb (.inl rfl)), n4, Ne.symm (nsb tb (.inr (.inl rfl))), Ne.symm (nsb hb (.inr (.inr (.inl rfl))))⟩, fun k hk => ?_, ?_, fun x => ?_⟩ ((s7.trans st10).shrink fun k hk => ?_)
     ·exact L7.hd.fd.keep (fun k hk _ => keep k (np k hk).1 (np k hk).2.1 (np k hk).2.2) fun k o hk => by
       obtain ⟨z1, z2, z3⟩ := nc k (by rw [hk]; simp)
       rw [keep k z1 z2 z3]; exact L7.hd.fd.cp k o hk
     ·exact ⟨_, by rw [keep sb (nsb tb (.inr (.inl rfl))) (nsb hb (.inr (.inr (.inl rfl)))) (nsb pb (.inl rfl))]; exact hs⟩
     ·rw [Nat.mul_one] at htk; exact htk
     ·rcases hk with hk | hk | hk | hk
      ·exact L7.hd.nf k (.inl hk)
      ·exact L7.hd.nf k (.inr (.inl hk))
      ·exact L7.hd.nf k (.inr (.inr (.inl hk)))
      ·rw [hk]; exact ⟨fun hf => apg.1 (.inl hf), apg.2⟩
     ·have nd : (r ++ [t]).Nodup := pr.nodup_iff.2 w.fo.1
      refine pr'.nodup_iff.2 (List.nodup_cons.2 ⟨fun hm => ?_, (List.nodup_append.1 nd).1⟩)
      have : y.fm i ∈ fr := pr.mem_iff.1 (List.mem_append.2 (.inl hm))
      exact ((w.fo.2 _).1 this).2.2 i hi rfl
     ·have nd : (r ++ [t]).Nodup := pr.nodup_iff.2 w.fo.1
      have nt : t ∉ r := fun hm => (List.nodup_append.1 nd).2.2 t hm t (by simp) rfl
      show x ∈ r' ↔ isFree q (fset y.fm i t) x
      rw [pr'.mem_iff, List.mem_cons]
      constructor
      ·rintro (rfl | hx)
       ·refine ⟨li.1, li.2, fun j hj e => ?_⟩
        unfold fset at e
        by_cases ej : j = i
        ·rw [if_pos ej] at e; exact hfree.2.2 i hi e.symm
        ·rw [if_neg ej] at e; exact ej (iv.inj j i hj hi e)
       ·have hm : x ∈ fr := pr.mem_iff.1 (List.mem_append.2 (.inl hx))
        obtain ⟨z1, z2, z3⟩ := (w.fo.2 x).1 hm
        refine ⟨z1, z2, fun j hj e => ?_⟩
        unfold fset at e
        by_cases ej : j = i
        ·rw [if_pos ej] at e; exact nt (by rw [e]; exact hx)
        ·rw [if_neg ej] at e; exact z3 j hj e
      ·rintro ⟨z1, z2, z3⟩
       by_cases ex : x = y.fm i
       ·exact .inl ex
       ·right
        have hm : x ∈ fr := (w.fo.2 x).2 ⟨z1, z2, fun j hj e => by
         by_cases ej : j = i
         ·rw [ej] at e; exact ex e.symm
         ·have := z3 j hj
          unfold fset at this
          rw [if_neg ej] at this
          exact this e⟩
        rcases List.mem_append.1 (pr.mem_iff.2 hm) with hx | hx
        ·exact hx
        ·have := z3 i hi
         unfold fset at this
         rw [if_pos rfl] at this
         exact absurd (List.mem_singleton.1 hx).symm this
     ·rcases hk with hk | hk | hk | hk | hk
      ·exact .inr (.inl hk)
      ·exact .inr (.inr (.inl hk))
      ·exact .inr (.inr (.inr (.inl hk)))
      ·exact .inr (.inr (.inr (.inr (.inl hk))))
      ·rw [hk]; exact .inl hg
    ·rw [if_neg e2] at hq
     exact xsIf_t (decide_eq_true e2) (hq fb fr h6 L6.hd (shr s6))
   exact ⟨⟨_, L5.hd.p0, W ⟨_, rfl, FW fun h6 w6 st6 => ⟨_, rfl, tail _ ho ho2 hq h6 w6 st6⟩⟩⟩, W ⟨_, rfl, _, L5.hd.p0, FW fun h6 w6 st6 => ⟨_, rfl, tail _ ho ho2 hq h6 w6 st6⟩⟩⟩
  ·rw [if_neg e1] at hq
   exact xsIf_t (decide_eq_true e1) (hq fb fr h5 L5.hd (shr s5))
end
end Go.Gb
namespace Go.Gb
open Go.Proofs IntWalk
instance (q : HPl) (i k : Int) : Decidable (inH q i k) := by unfold inH; infer_instance
noncomputable def hWrite (q : HPl) (y : HS) (i k : Int) (B : ByteArray) : Int × HS :=
 if B.size = 64 then (if inH q i k then hwrite q (fun x l => fWrite q.p x (l : Int) B) y i.toNat k.toNat else (3, y)) else (2, y)
noncomputable def hWriteWord (q : HPl) (y : HS) (i k j : Int) (v : Nat) : Int × HS :=
 if 0 ≤ j ∧ j < 8 then (if inH q i k then hwrite q (fun x l => fWriteWord q.p x (l : Int) ((j.toNat : Nat) : Int) v) y i.toNat k.toNat else (3, y)) else (2, y)
structure Hq (h0 h : Heap) (F : Nat → Prop) (Gs : Nat → Nat → Prop) (bs rs : Nat → Nat) (hc : Heap) (d f pb tb hb fb : Nat) (q : HPl) (y : HS) (fr : List Nat) : Prop where
 hd : HD F Gs bs rs hc h d f pb tb hb fb q y fr
 pt : Part h0 h
 ff : ∀ k, h0 k ≠ none → ¬ HF F Gs rs q.p.R pb tb hb fb k
section
variable {F : Nat → Prop} {Gs : Nat → Nat → Prop} {bs rs : Nat → Nat} {hc h0 h h1 : Heap} {d f pb tb hb fb fb' n : Nat} {q : HPl} {y y' : HS} {fr fr' : List Nat} {Q : QT}
theorem Hq.next (i : Hq h0 h F Gs bs rs hc d f pb tb hb fb q y fr) (w : HD F Gs bs rs hc h1 d f pb tb hb fb' q y' fr') (st : Step (HF F Gs rs q.p.R pb tb hb fb) h (HF F Gs rs q.p.R pb tb hb fb') h1) : Hq h0 h1 F Gs bs rs hc d f pb tb hb fb' q y' fr' :=
 ⟨w, st.part i.pt i.ff, fun k hk hf => by
  rcases st.sub k hf with h | h
  ·exact i.ff k hk h
  ·rw [← part_live i.pt hk] at hk; exact hk h⟩
theorem Hq.part (i : Hq h0 h F Gs bs rs hc d f pb tb hb fb q y fr) (pt : Part h h1) : Hq h0 h1 F Gs bs rs hc d f pb tb hb fb q y fr := ⟨i.hd.part pt, i.pt.trans pt, i.ff⟩
theorem K61.c {fn : Nat} {fa fca : Array Value} {i k : Int} {Fw : FS → Nat → Int × FS} {T : ByteArray → ByteArray} {M : ByteArray → ByteArray → Prop} (w : Hq h0 h F Gs bs rs hc d f pb tb hb fb q y fr) (iv : HY q y) (hF : FlF q Fw T M) (go : goOk Tryz.prog fn = true)
  (call : ∀ {h' : Heap} {fb' : Nat} {fr' : List Nat} {y' : HS} (l : Nat), Hq h0 h' F Gs bs rs hc d f pb tb hb fb' q y' fr' → HY q y' → l < q.p.R * q.p.pl → ∀ {Q : QT}, (∀ h'', FD F Gs bs rs hc h'' d f q.p (Fw y'.x l).2 → Step (FF F Gs rs q.p.R) h' (FF F Gs rs q.p.R) h'' → Q (.int .i64 (Fw y'.x l).1) h'') →
   CT fn (fa.toList ++ [Value.int .i64 ((l : Nat) : Int)] ++ fca.toList).toArray h' Q)
  (hy : inH q i k → ∀ fb' fr' h', HD F Gs bs rs hc h' d f pb tb hb fb' q (hwrite q Fw y i.toNat k.toNat).2 fr' → Step (HF F Gs rs q.p.R pb tb hb fb) h (HF F Gs rs q.p.R pb tb hb fb') h' → Q (.int .i64 (hwrite q Fw y i.toNat k.toNat).1) h') (hn : ¬ inH q i k → Q (.int .i64 3) h) :
  CT 61 #[.pointer (some ⟨pb, 0, none⟩), .int .i64 i, .int .i64 k, .func (.func fn) fa fca] h Q := by
 apply K61.ok
 refine K97.c w.hd iv.frames (fun hi => ⟨_, _, rfl, xsIf_f rfl ?_⟩) fun hi => ⟨_, _, rfl, xsIf_t rfl (hn hi)⟩
 have hq := hy hi
 have hi' := hi
 unfold inH at hi'
 obtain ⟨i, rfl⟩ : ∃ j : Nat, i = j := ⟨i.toNat, by omega⟩
 obtain ⟨k, rfl⟩ : ∃ j : Nat, k = j := ⟨k.toNat, by omega⟩
 rw [Int.toNat_natCast, Int.toNat_natCast] at hq
 have hig : i < q.g := by omega
 have hk8 : k < 8 := by omega
 have hh2 := iv.ok.heat2
 have J8 : ∀ (h' : Heap) (fb' : Nat) (fr' : List Nat) (y' : HS), Hq h0 h' F Gs bs rs hc d f pb tb hb fb' q y' fr' → HY q y' → y'.ht i < q.heat →
   (∀ fb'' fr'' h'', HD F Gs bs rs hc h'' d f pb tb hb fb'' q (hput Fw y' i k).2 fr'' → Step (HF F Gs rs q.p.R pb tb hb fb') h' (HF F Gs rs q.p.R pb tb hb fb'') h'' → Q (.int .i64 (hput Fw y' i k).1) h'') →
   K61.J8 (some ⟨pb, 0, none⟩) (i : Int) (k : Int) fn fa fca h' Q := fun h' fb' fr' y' w' iv' hlt hq => by
  apply K61.J8.ok
  refine K97.c w'.hd iv'.frames (fun hi => ⟨_, _, rfl, xsIf_t go ?_⟩) fun hno => absurd hi hno
  rw [Int.toNat_natCast, Int.toNat_natCast]
  have pl := iv'.pline hig hk8
  refine call (8 * y'.fm i + k) w' iv' pl.1 fun h2 w2 st2 => ⟨_, rfl, ?_⟩
  obtain ⟨w3, st3⟩ := w'.hd.flat w2 st2
  unfold hput at hq
  generalize Fw y'.x (8 * y'.fm i + k) = r at w3 hq ⊢
  unfold hput2 at hq
  by_cases e : r.1 = 0
  ·rw [if_pos e] at hq
   obtain ⟨c, e3⟩ := w3.p3
   obtain ⟨w4, st4, can4⟩ := w3.heat (i := i) (v := y'.ht i + 1) hig
   refine xsIf_t (decide_eq_true e) ⟨pb, 0, rfl, _, _, _, e3, by omega, hb, 0, rfl, _, w3.h0 (i := i) hig, by omega, hb, 0, rfl, can4, ?_⟩
   have ew : IntKind.i64.wrap (((y'.ht i : Nat) : Int) + 1) = ((y'.ht i + 1 : Nat) : Int) := by rw [i64_in _ (by omega)]; omega
   show Q _ (h2.put hb (0 + i * 1) [.int .i64 (IntKind.i64.wrap (((y'.ht i : Nat) : Int) + 1))])
   rw [ew]
   exact hq fb' fr' _ w4 (st3.trans st4)
  ·rw [if_neg e] at hq
   exact xsIf_f (decide_eq_false e) (hq fb' fr' h2 w3 st3)
 obtain ⟨c, e3⟩ := w.hd.p3
 refine ⟨pb, 0, rfl, pb, 0, rfl, _, _, _, e3, by omega, hb, 0, rfl, _, w.hd.h0 (i := i) hig, _, w.hd.p1, ?_⟩
 unfold hwrite at hq
 refine xsIf_intro (fun e => ?_) fun e => ?_
 ·have e := of_decide_eq_true e
  have e : q.heat ≤ y.ht i := by
   have : ((q.heat : Nat) : Int) ≤ ((y.ht ((i : Int).toNat) : Nat) : Int) := e
   rw [Int.toNat_natCast] at this; omega
  rw [if_pos e] at hq
  have o := hlook_out iv hig
  have hz : (hlook q y i).1 = 0 → (hlook q y i).2.ht i = 0 := fun h0 => by
   unfold hlook at h0 ⊢
   split
   ·show fset y.ht i 0 i = 0
    unfold fset; rw [if_pos rfl]
   ·rename_i hne
    rw [if_neg hne] at h0
    unfold hcopied at h0 ⊢
    split
    ·rename_i hz
     rw [if_pos hz] at h0
     unfold hmove at h0 ⊢
     split
     ·show fset y.ht i 0 i = 0
      unfold fset; rw [if_pos rfl]
     ·rename_i hz2
      rw [if_neg hz2] at h0
      exact absurd h0 hz2
    ·rename_i hz
     rw [if_neg hz] at h0
     exact absurd h0 hz
  refine K99.c w.hd iv hig fun fb' fr' h2 w2 st2 => ⟨_, rfl, ?_⟩
  have h1' := iv.ok.heat1
  generalize hlook q y i = r at w2 o hq hz ⊢
  by_cases e2 : r.1 = 0
  ·rw [if_pos e2] at hq
   have iv2 : HY q r.2 := by
    rcases o.2 with o | o | o
    ·exact o.2.1
    ·exact o.2.1
    ·rw [e2] at o; cases o.1
   refine xsIf_f (decide_eq_false (fun h => h e2)) (J8 h2 fb' fr' r.2 (w.next w2 st2) iv2 (by rw [hz e2]; omega) fun fb'' fr'' h3 w3 st3 => hq fb'' fr'' h3 w3 (st2.trans st3))
  ·rw [if_neg e2] at hq
   exact xsIf_t (decide_eq_true e2) (hq fb' fr' h2 w2 st2)
 ·have e := of_decide_eq_false e
  have e : ¬ q.heat ≤ y.ht i := by
   have : ¬ ((q.heat : Nat) : Int) ≤ ((y.ht ((i : Int).toNat) : Nat) : Int) := e
   rw [Int.toNat_natCast] at this; omega
  rw [if_neg e] at hq
  exact J8 h fb fr y w iv (by omega) hq
theorem Step.pre {X Y : Nat → Prop} {h h1 h2 : Heap} (pt : Part h h1) (st : Step X h1 Y h2) : Step X h Y h2 := (Step.of_part pt).trans st
set_option maxRecDepth 100000 in
theorem K59.c {i k : Int} {B : ByteArray} (w : HD F Gs bs rs hc h d f pb tb hb fb q y fr) (iv : HY q y)
  (hq : ∀ fb' fr' h', HD F Gs bs rs hc h' d f pb tb hb fb' q (hWrite q y i k B).2 fr' → Step (HF F Gs rs q.p.R pb tb hb fb) h (HF F Gs rs q.p.R pb tb hb fb') h' → Q (.int .i64 (hWrite q y i k B).1) h') :
  CT 59 #[.pointer (some ⟨pb, 0, none⟩), .int .i64 i, .int .i64 k, .string B] h Q := by
 apply K59.ok
 intro b hb0 b1 hb1
 have k0 := Blk.new h b #[.pointer (some ⟨pb, 0, none⟩)] 25
 have p1 : Part h (upd h b (Obj.cells #[.pointer (some ⟨pb, 0, none⟩)] 25 (0, 0))) := Part.upd hb0 _
 generalize upd h b (Obj.cells #[.pointer (some ⟨pb, 0, none⟩)] 25 (0, 0)) = h1 at k0 p1 hb1
 have k1 := Blk.new h1 b1 #[.string B] 9
 have p2 : Part h1 (upd h1 b1 (Obj.cells #[.string B] 9 (0, 0))) := Part.upd hb1 _
 generalize upd h1 b1 (Obj.cells #[.string B] 9 (0, 0)) = h2 at k1 p2
 have k0 := k0.keep (part_live p2 k0.ne)
 have p12 := p1.trans p2
 unfold hWrite at hq
 refine ⟨_, k0.cell 0, xsIf_t rfl ⟨_, k1.cell 0, xsIf_intro (fun e => ?_) fun e => ⟨_, k0.cell 0, ?_⟩⟩⟩
 ·have e := of_decide_eq_true e
  rw [if_neg (by omega)] at hq
  exact hq fb fr h2 (w.part p12) (Step.of_part p12)
 ·have e := of_decide_eq_false e
  have hB : B.size = 64 := by omega
  rw [if_pos hB] at hq
  let hx : Heap := fun k => if k = b ∨ k = b1 then h2 k else none
  have cp : Part hx h2 := fun k o hk => by
   have hk : (if k = b ∨ k = b1 then h2 k else none) = some o := hk
   split at hk
   ·exact hk
   ·cases hk
  have nb : h b = none := hb0
  have nb1 : h b1 = none := Part.none p1 hb1
  have w0 : Hq hx h2 F Gs bs rs hc d f pb tb hb fb q y fr := ⟨w.part p12, cp, fun k hk hf => by
   have hk : (if k = b ∨ k = b1 then h2 k else none) ≠ none := hk
   split at hk
   ·rename_i e
    refine w.live k hf ?_
    rcases e with rfl | rfl
    ·exact nb
    ·exact nb1
   ·exact hk rfl⟩
  have x0 : Blk hx b [.pointer (some ⟨pb, 0, none⟩)] := k0.keep (if_pos (.inl rfl))
  have x1 : Blk hx b1 [.string B] := k1.keep (if_pos (.inr rfl))
  refine K61.c (Fw := fun x l => fWrite q.p x (l : Int) B) w0 iv (FlF.line q hB) (by kernel_rfl) (fun l w' iv' hl Q hq' => ?_) (fun hi fb' fr' h3 w3 st3 => ⟨_, rfl, ?_⟩) fun hi => ⟨_, rfl, ?_⟩
  ·show CT 95 #[.int .i64 ((l : Nat) : Int), .pointer (some ⟨b, 0, none⟩), .pointer (some ⟨b1, 0, none⟩)] _ Q
   apply K95.ok
   exact ⟨_, (x0.keep (part_live w'.pt x0.ne)).cell 0, pb, 0, rfl, _, w'.hd.p0, _, (x1.keep (part_live w'.pt x1.ne)).cell 0, K96.c w'.hd.fd iv'.fi fun h'' w'' st'' => ⟨_, rfl, hq' h'' w'' st''⟩⟩
  ·rw [if_pos hi] at hq
   exact hq fb' fr' h3 w3 (Step.pre p12 st3)
  ·rw [if_neg hi] at hq
   exact hq fb fr h2 (w.part p12) (Step.of_part p12)
set_option maxRecDepth 100000 in
theorem K35.c {i k j : Int} {v : Nat} (hv : v < 18446744073709551616) (w : HD F Gs bs rs hc h d f pb tb hb fb q y fr) (iv : HY q y)
  (hq : ∀ fb' fr' h', HD F Gs bs rs hc h' d f pb tb hb fb' q (hWriteWord q y i k j v).2 fr' → Step (HF F Gs rs q.p.R pb tb hb fb) h (HF F Gs rs q.p.R pb tb hb fb') h' → Q (.int .i64 (hWriteWord q y i k j v).1) h') :
  CT 35 #[.pointer (some ⟨pb, 0, none⟩), .int .i64 i, .int .i64 k, .int .i64 j, .int .u64 (v : Nat)] h Q := by
 apply K35.ok
 intro b hb0 b1 hb1 b2 hb2
 have k0 := Blk.new h b #[.pointer (some ⟨pb, 0, none⟩)] 25
 have p1 : Part h (upd h b (Obj.cells #[.pointer (some ⟨pb, 0, none⟩)] 25 (0, 0))) := Part.upd hb0 _
 generalize upd h b (Obj.cells #[.pointer (some ⟨pb, 0, none⟩)] 25 (0, 0)) = h1 at k0 p1 hb1 hb2
 have k1 := Blk.new h1 b1 #[.int .i64 j] 3
 have p2 : Part h1 (upd h1 b1 (Obj.cells #[.int .i64 j] 3 (0, 0))) := Part.upd hb1 _
 generalize upd h1 b1 (Obj.cells #[.int .i64 j] 3 (0, 0)) = h2 at k1 p2 hb2
 have k2 := Blk.new h2 b2 #[.int .u64 (v : Nat)] 28
 have p3 : Part h2 (upd h2 b2 (Obj.cells #[.int .u64 (v : Nat)] 28 (0, 0))) := Part.upd hb2 _
 generalize upd h2 b2 (Obj.cells #[.int .u64 (v : Nat)] 28 (0, 0)) = h3 at k2 p3
 have k1 := k1.keep (part_live p3 k1.ne)
 have k0 := k0.keep (part_live (p2.trans p3) k0.ne)
 have p12 := p1.trans p2
 have p13 := p12.trans p3
 unfold hWriteWord at hq
 refine ⟨_, k0.cell 0, xsIf_t rfl ⟨_, k1.cell 0, xsIf_intro (fun e => ?_) fun e => ⟨_, k1.cell 0, xsIf_intro (fun e' => ?_) fun e' => ⟨_, k0.cell 0, ?_⟩⟩⟩⟩
 ·have e := of_decide_eq_true e
  rw [if_neg (by omega)] at hq
  exact hq fb fr h3 (w.part p13) (Step.of_part p13)
 ·have e' := of_decide_eq_true e'
  rw [if_neg (by omega)] at hq
  exact hq fb fr h3 (w.part p13) (Step.of_part p13)
 ·have e := of_decide_eq_false e
  have e' := of_decide_eq_false e'
  rw [if_pos (by omega)] at hq
  obtain ⟨j, rfl⟩ : ∃ z : Nat, j = z := ⟨j.toNat, by omega⟩
  rw [Int.toNat_natCast] at hq
  let hx : Heap := fun k => if k = b ∨ k = b1 ∨ k = b2 then h3 k else none
  have cp : Part hx h3 := fun k o hk => by
   have hk : (if k = b ∨ k = b1 ∨ k = b2 then h3 k else none) = some o := hk
   split at hk
   ·exact hk
   ·cases hk
  have nb1 : h b1 = none := Part.none p1 hb1
  have nb2 : h b2 = none := Part.none p12 hb2
  have w0 : Hq hx h3 F Gs bs rs hc d f pb tb hb fb q y fr := ⟨w.part p13, cp, fun k hk hf => by
   have hk : (if k = b ∨ k = b1 ∨ k = b2 then h3 k else none) ≠ none := hk
   split at hk
   ·rename_i e
    refine w.live k hf ?_
    rcases e with rfl | rfl | rfl
    ·exact hb0
    ·exact nb1
    ·exact nb2
   ·exact hk rfl⟩
  have x0 : Blk hx b [.pointer (some ⟨pb, 0, none⟩)] := k0.keep (if_pos (.inl rfl))
  have x1 : Blk hx b1 [.int .i64 ((j : Nat) : Int)] := k1.keep (if_pos (.inr (.inl rfl)))
  have x2 : Blk hx b2 [.int .u64 (v : Nat)] := k2.keep (if_pos (.inr (.inr rfl)))
  refine K61.c (Fw := fun x l => fWriteWord q.p x (l : Int) ((j : Nat) : Int) v) w0 iv (FlF.word q (by omega) hv) (by kernel_rfl) (fun l w' iv' hl Q hq' => ?_) (fun hi fb' fr' h4 w4 st4 => ⟨_, rfl, ?_⟩) fun hi => ⟨_, rfl, ?_⟩
  ·show CT 62 #[.int .i64 ((l : Nat) : Int), .pointer (some ⟨b, 0, none⟩), .pointer (some ⟨b1, 0, none⟩), .pointer (some ⟨b2, 0, none⟩)] _ Q
   apply K62.ok
   exact ⟨_, (x0.keep (part_live w'.pt x0.ne)).cell 0, pb, 0, rfl, _, w'.hd.p0, _, (x1.keep (part_live w'.pt x1.ne)).cell 0, _, (x2.keep (part_live w'.pt x2.ne)).cell 0, K57.c hv w'.hd.fd iv'.fi fun h'' w'' st'' => ⟨_, rfl, hq' h'' w'' st''⟩⟩
  ·rw [if_pos hi] at hq
   exact hq fb' fr' h4 w4 (Step.pre p13 st4)
  ·rw [if_neg hi] at hq
   exact hq fb fr h3 (w.part p13) (Step.of_part p13)
end
end Go.Gb
namespace Go.Gb
open Go.Proofs IntWalk
def hcount (R l s q : Int) : Nat := if rightF R l s q ∧ l % 8 = 0 then cntG ((R * l / 8 - R).toNat) ((R * l / 8 - R).toNat) else 0
section
variable {F : Nat → Prop} {h h1 : Heap} {d : Nat} {Q : QT}
theorem K82.c {g : Nat} (hg : g ≤ 100000) (hq : Q (.int .i64 ((g + 63) / 64 : Nat)) h) : CT 82 #[.int .i64 (g : Int)] h Q := by
 apply K82.ok
 unfold K82.wp
 rw [i64_in ((g : Int) + 64) (by omega), i64_in _ (by omega), iquo_i64 (by omega) (by omega) (by omega), show ((g : Int) + 64 - 1) / 64 = (((g + 63) / 64 : Nat) : Int) by omega]
 exact hq
theorem K53.L5.c {R l s q k : Int} {h0 : Nat} (hh : h0 ≤ 2048) : ∀ (g : Nat), g ≤ h0 → Q (.tuple #[.int .i64 (cntG h0 g : Nat), .int .i64 (if cntG h0 g = 0 then 0 else ((cntG h0 g + 63) / 64 : Nat) : Int), .int .i64 (if cntG h0 g = 0 then 0 else R)]) h →
  K53.L5 (g : Int) (h0 : Int) R l s q k h Q := by
 intro g
 induction g with
 | zero =>
  intro _ hq
  apply K53.L5.ok
  exact xsIf_f rfl (xsIf_t rfl hq)
 | succ g ih =>
  intro hg hq
  apply K53.L5.ok
  refine xsIf_t (decide_eq_true (by omega)) (K82.c (by omega) ⟨_, rfl, ?_⟩)
  rw [show IntKind.i64.wrap (((g + 1 : Nat) : Int) + (((g + 1 + 63) / 64 : Nat) : Int)) = ((g + 1 + (g + 1 + 63) / 64 : Nat) : Int) by rw [i64_in _ (by omega)]; omega]
  unfold cntG at hq
  refine xsIf_intro (fun e => ?_) fun e => ?_
  ·rw [if_pos (by have := of_decide_eq_true e; omega)] at hq
   apply K53.J6.ok
   unfold K53.J6.wp
   rw [show IntKind.i64.wrap (((g + 1 : Nat) : Int) - 1) = (g : Int) by rw [i64_in _ (by omega)]; omega]
   exact ih (by omega) hq
  ·rw [if_neg (by have := of_decide_eq_false e; omega), if_neg (by omega), if_neg (by omega)] at hq
   exact xsIf_f (decide_eq_false (by omega)) (K82.c (by omega) ⟨_, rfl, hq⟩)
theorem K53.any {R l s q : Int} {k : Nat} (hk : k < 18446744073709551616) (hq : Q (.tuple #[.int .i64 (hcount R l s q : Nat), .int .i64 (if hcount R l s q = 0 then 0 else ((hcount R l s q + 63) / 64 : Nat) : Int), .int .i64 (if hcount R l s q = 0 then 0 else R)]) h) :
  CT 53 #[.agg #[.int .i64 R, .int .i64 l, .int .i64 s, .int .i64 q, .int .u64 (k : Nat)]] h Q := by
 apply K53.ok
 apply K81.ok
 unfold hcount at hq
 by_cases hr : rightF R l s q
 ·obtain ⟨p, rt, rfl, rfl, rfl, rfl, ek⟩ := rightF_pl hr hk
  subst ek
  have l2 := rt.l2
  have r2 := rt.r2
  have r1 := rt.r1
  have hm : p.R * p.pl ≤ 16 * 1024 := Nat.mul_le_mul r2 l2
  have e1 : irem ((p.pl : Nat) : Int) 8 = ((p.pl % 8 : Nat) : Int) := irem_nat _ 8
  refine K27.c rt ⟨_, rfl, xsIf_t (decide_eq_true (by omega)) ⟨_, rfl, ?_⟩⟩
  rw [e1]
  by_cases e8 : p.pl % 8 = 0
  ·rw [if_pos ⟨hr, by omega⟩] at hq
   have el : 8 ≤ p.pl := by have := rt.l1; omega
   have hz : p.R ≤ p.R * p.pl / 8 := by
    have : p.R * 8 ≤ p.R * p.pl := Nat.mul_le_mul_left _ el
    omega
   have eh : ((p.R : Int) * (p.pl : Int) / 8 - (p.R : Int)).toNat = p.R * p.pl / 8 - p.R := by
    rw [show (p.R : Int) * (p.pl : Int) = ((p.R * p.pl : Nat) : Int) by rw [Int.natCast_mul]]; omega
   rw [eh] at hq
   have ew : IntKind.i64.wrap (iquo .i64 (IntKind.i64.wrap ((p.R : Int) * (p.pl : Int))) 8 - (p.R : Int)) = ((p.R * p.pl / 8 - p.R : Nat) : Int) := by
    rw [show (p.R : Int) * (p.pl : Int) = ((p.R * p.pl : Nat) : Int) by rw [Int.natCast_mul], i64_in ((p.R * p.pl : Nat) : Int) (by omega), iquo_i64 (by omega) (by omega) (by omega), i64_in _ (by omega)]; omega
   rw [ew]
   exact xsIf_f (by rw [e8]; rfl) (K53.L5.c (by omega) _ (Nat.le_refl _) hq)
  ·rw [if_neg (fun h => e8 (by omega)), if_pos rfl, if_pos rfl] at hq
   exact xsIf_t (by rw [decide_eq_false (by omega)]; rfl) hq
 ·rw [if_neg (fun h => hr h.1), if_pos rfl, if_pos rfl] at hq
  exact K27.no hr ⟨_, rfl, xsIf_f rfl ⟨_, rfl, xsIf_t rfl hq⟩⟩
variable {q : HPl}
theorem HPl.ok.count {n : Nat} (o : q.ok n) : hcount q.p.R q.p.pl q.p.ps q.p.psi = q.g := by
 have l2 := o.ok.l2
 have r2 := o.ok.r2
 have hm : q.p.R * q.p.pl ≤ 16 * 1024 := Nat.mul_le_mul r2 l2
 have d8 := o.d8
 unfold hcount
 rw [if_pos ⟨o.ok.rt.right, by omega⟩, o.cg]
 have eh : ((q.p.R : Int) * (q.p.pl : Int) / 8 - (q.p.R : Int)).toNat = q.H - q.p.R := by
  rw [show (q.p.R : Int) * (q.p.pl : Int) = ((q.p.R * q.p.pl : Nat) : Int) by rw [Int.natCast_mul]]
  unfold HPl.H; omega
 rw [eh]
theorem K53.c {n : Nat} (o : q.ok n) (hq : Q (.tuple #[.int .i64 (q.g : Nat), .int .i64 (q.t : Nat), .int .i64 (q.p.R : Nat)]) h) : CT 53 #[fcfgV q.p] h Q := by
 refine K53.any o.ok.k ?_
 have g1 := o.g1
 rw [o.count, if_neg (by omega), if_neg (by omega), ← o.ct]
 exact hq
noncomputable def hinit (q : HPl) : Nat → Nat → FS → FS
 | 0, _, x => x
 | j + 1, i, x => hinit q j (i + 1) (fWriteWord q.p x ((i / 8 : Nat) : Int) ((i % 8 : Nat) : Int) (entW (q.t + i) 0)).2
structure HI0 (q : HPl) (i : Nat) (x : FS) : Prop where
 fi : FI q.p x
 sd : Sd x.s
 en : ∀ j, j < i → wordAt (fr q.p x (j / 8)) (j % 8) = entW (q.t + j) 0
 z : ∀ l, l < q.p.R * q.p.pl → 8 * q.t ≤ l → fr q.p x l = zero64
theorem hinit_step {n i : Nat} (o : q.ok n) (hi : i < q.g) {x : FS} (w : HI0 q i x) :
  (fWriteWord q.p x ((i / 8 : Nat) : Int) ((i % 8 : Nat) : Int) (entW (q.t + i) 0)).1 = 0 ∧ HI0 q (i + 1) (fWriteWord q.p x ((i / 8 : Nat) : Int) ((i % 8 : Nat) : Int) (entW (q.t + i) 0)).2 ∧
   (fWriteWord q.p x ((i / 8 : Nat) : Int) ((i % 8 : Nat) : Int) (entW (q.t + i) 0)).2.s.nl = x.s.nl := by
 have h1 := o.t1
 have h2 := o.f1
 have h3 := o.lines
 obtain ⟨x', e, fi, sd, nl, m⟩ := fWriteWord_sound w.fi w.sd (l := i / 8) (k := i % 8) (v := entW (q.t + i) 0) (by omega) (Nat.mod_lt _ (by omega)) (entW_lt _ _)
 rw [e]
 refine ⟨rfl, ⟨fi, sd, fun j hj => ?_, fun l hl hlt => ?_⟩, nl⟩
 ·show wordAt (fr q.p x' (j / 8)) (j % 8) = _
  rw [m _ (by omega)]
  by_cases ej : j / 8 = i / 8
  ·rw [if_pos ej, withW_word (Nat.mod_lt _ (by omega)) (entW_lt _ _)]
   by_cases ei : j = i
   ·rw [ei, if_pos rfl]
   ·rw [if_neg (by omega), ← ej]; exact w.en j (by omega)
  ·rw [if_neg ej]; exact w.en j (by omega)
 ·show fr q.p x' l = _
  rw [m l hl, if_neg (by omega)]; exact w.z l hl hlt
theorem hinit_done {n : Nat} (o : q.ok n) : ∀ (j i : Nat) (x : FS), i + j = q.g → HI0 q i x → HI0 q q.g (hinit q j i x) ∧ (hinit q j i x).s.nl = x.s.nl
 | 0, i, x, hi, w => by
  have : i = q.g := by omega
  subst this
  exact ⟨w, rfl⟩
 | j + 1, i, x, hi, w => by
  obtain ⟨_, w1, n1⟩ := hinit_step o (by omega) w
  obtain ⟨w2, n2⟩ := hinit_done o j (i + 1) _ (by omega) w1
  exact ⟨w2, n2.trans n1⟩
theorem HI0.ht {n : Nat} {x : FS} (w : HI0 q q.g x) (o : q.ok n) (nl : x.s.nl = n) : HT q x (fun i => q.t + i) (fun _ => 0) ∧ ∀ i k, i < q.g → k < 8 → hr q x (fun i => q.t + i) i k = zero64 := by
 have h2 := o.f1
 have h3 := o.lines
 refine ⟨⟨by rw [nl]; exact o, w.fi, fun i hi => w.en i hi, fun i hi => ⟨by omega, by omega⟩, fun i j hi hj e => by omega, fun i hi => by omega⟩, fun i k hi hk => w.z _ (by show 8 * (q.t + i) + k < _; omega) (by show _ ≤ 8 * (q.t + i) + k; omega)⟩
noncomputable def HPl.x0 (q : HPl) (s : PmS) : FS := hinit q q.g 0 ⟨s, fun _ => [], fun _ => Gp.first q.p.pl, fun _ => 0⟩
theorem hmake_new {n : Nat} (o : q.ok n) {s : PmS} (iv : FI q.p (FS.zero q.p s)) (sd : Sd s) (nl : s.nl = n) (z : ∀ l, l < q.p.R * q.p.pl → fr q.p (FS.zero q.p s) l = zero64) :
  HI0 q 0 ⟨s, fun _ => [], fun _ => Gp.first q.p.pl, fun _ => 0⟩ ∧ HI0 q q.g (q.x0 s) ∧ (q.x0 s).s.nl = n := by
 obtain ⟨iv1, z1⟩ := iv.new
 have w : HI0 q 0 ⟨s, fun _ => [], fun _ => Gp.first q.p.pl, fun _ => 0⟩ := ⟨iv1, sd, fun j hj => by omega, fun l hl _ => (z1 l).trans (z l hl)⟩
 obtain ⟨a, b⟩ := hinit_done o q.g 0 _ (by omega) w
 exact ⟨w, a, b.trans nl⟩
theorem K28.L13.c {n f : Nat} {Gs : Nat → Nat → Prop} {bs rs : Nat → Nat} {hc : Heap} (o : q.ok n) : ∀ (j i : Nat) (h : Heap) (x : FS), i + j = q.g → FD F Gs bs rs hc h d f q.p x → HI0 q i x →
  (∀ h', FD F Gs bs rs hc h' d f q.p (hinit q j i x) → Step (FF F Gs rs q.p.R) h (FF F Gs rs q.p.R) h' → Q (.int .i64 0) h') →
  K28.L13 (q.t : Int) (some ⟨f, 0, none⟩) (q.g : Int) (i : Int) h Q := by
 have h2 := o.f1
 have hH := o.H_le
 intro j
 induction j with
 | zero =>
  intro i h x hi w iv hq
  apply K28.L13.ok
  exact xsIf_f (decide_eq_false (by omega)) (hq h w (Step.refl _ _))
 | succ j ih =>
  intro i h x hi w iv hq
  apply K28.L13.ok
  refine xsIf_t (decide_eq_true (by omega)) (K56.c (by omega) ⟨_, _, rfl, ?_⟩)
  rw [show IntKind.i64.wrap ((q.t : Int) + (i : Int)) = ((q.t + i : Nat) : Int) by rw [i64_in _ (by omega)]; omega]
  refine K58.c (m := 0) (by omega) (by omega) ⟨_, rfl, K57.c (entW_lt _ _) w iv.fi fun h1 w1 st1 => ⟨_, rfl, ?_⟩⟩
  obtain ⟨e, iv1, _⟩ := hinit_step o (show i < q.g by omega) iv
  have e : (fWriteWord q.p x ((i / 8 : Nat) : Int) ((i % 8 : Nat) : Int) (entW (q.t + i) (0 % 4294967296))).1 = 0 := e
  rw [e]
  refine xsIf_f rfl ?_
  rw [show IntKind.i64.wrap ((i : Int) + 1) = ((i + 1 : Nat) : Int) by rw [i64_in _ (by omega)]; omega]
  exact ih (i + 1) h1 _ (by omega) w1 iv1 fun h3 w3 st3 => hq h3 w3 (st1.trans st3)
theorem Step.inner {X Y : Nat → Prop} {h h1 h2 : Heap} (pt : Part h h1) (st : Step Y h1 Y h2) (hn : ∀ k, Y k → ¬ X k → h k = none) (hx : ∀ k, X k → Y k) : Step X h X h2 :=
 ⟨fun k hk hkn => by
  rw [st.keep k (fun hy => hkn (hn k hy hk)) (by rw [part_live pt hkn]; exact hkn), part_live pt hkn], fun k hk => .inl hk, fun k hk => st.live k (by rw [part_live pt hk]; exact hk), fun hl k hk => st.live k (by rw [part_live pt (hl k hk)]; exact hl k hk)⟩
theorem K28.new {n : Nat} (o : q.ok n) (w : PmD F h d (pnew n)) (lv : Live F h) (hq : ∀ h' s, fmake q.p (pnew n) = (0, s) → FI q.p (FS.zero q.p s) → Sd s → s.nl = n → (∀ l, l < q.p.R * q.p.pl → fr q.p (FS.zero q.p s) l = zero64) → PmD F h' d (q.x0 s).s → Step F h F h' → Q (.int .i64 0) h') :
  CT 28 #[.pointer (some ⟨d, 0, none⟩), fcfgV q.p] h Q := by
 have g1 := o.g1
 obtain ⟨s, em, iv, sd, nl, z⟩ := fmake_new o.ok
 obtain ⟨w0, -, -⟩ := hmake_new o iv sd nl z
 apply K28.ok
 refine K53.c o ⟨_, _, _, rfl, xsIf_f rfl (xsIf_f (decide_eq_false (by omega)) ?_)⟩
 have hMake := fun {Q : QT} hq => K54.c (Q := Q) (p := q.p) w lv o.ok (On.new _) (PmOk.new _) (fun _ => rfl) hq
 refine hMake fun h1 w1 st1 => ⟨_, rfl, ?_⟩
 rw [em] at w1 ⊢
 have lv1 := st1.dom lv
 refine xsIf_f rfl (K55.c (p := q.p) (x := FS.zero q.p s) w1 lv1 iv fun f Gs bs rs hc h2 w2 fG fc p2 => ⟨_, _, rfl, xsIf_f rfl ?_⟩)
 refine K28.L13.c o q.g 0 h2 ⟨s, fun _ => [], fun _ => Gp.first q.p.pl, fun _ => 0⟩ (by omega) w2 w0 fun h3 w3 st3 => ?_
 refine hq h3 s em iv sd nl z w3.dv (st1.trans (Step.inner p2 st3 (fun k hk hn => ?_) fun k hk => .inl hk))
 rcases hk with hk | ⟨j, hj, hk⟩
 ·exact absurd hk hn
 ·exact fG j hj k hk
end
end Go.Gb
namespace Go.Gb
open Go.Proofs IntWalk
def uptoN (f : Nat → Nat) (i : Nat) : Nat → Nat := fun j => if j < i then f j else 0
theorem uptoN_set (f : Nat → Nat) (i : Nat) : fset (uptoN f i) i (f i) = uptoN f (i + 1) := by
 funext w
 unfold fset uptoN
 by_cases e : w = i
 ·rw [if_pos e, if_pos (by omega), e]
 ·rw [if_neg e]
  by_cases e2 : w < i
  ·rw [if_pos e2, if_pos (by omega)]
  ·rw [if_neg e2, if_neg (by omega)]
def tkn (fm : Nat → Nat) (i f : Nat) : Bool := (List.range i).any fun j => decide (fm j = f)
theorem tkn_iff {fm : Nat → Nat} {i f : Nat} : tkn fm i f = true ↔ ∃ j, j < i ∧ fm j = f := by
 unfold tkn
 rw [List.any_eq_true]
 constructor
 ·rintro ⟨j, h1, h2⟩; exact ⟨j, List.mem_range.1 h1, of_decide_eq_true h2⟩
 ·rintro ⟨j, h1, h2⟩; exact ⟨j, List.mem_range.2 h1, decide_eq_true h2⟩
theorem tkn_set (fm : Nat → Nat) (i : Nat) : fset (tkn fm i) (fm i) true = tkn fm (i + 1) := by
 funext w
 unfold fset
 by_cases e : w = fm i
 ·rw [if_pos e]; exact (tkn_iff.2 ⟨i, by omega, e.symm⟩).symm
 ·rw [if_neg e, Bool.eq_iff_iff, tkn_iff, tkn_iff]
  constructor
  ·rintro ⟨j, h1, h2⟩; exact ⟨j, by omega, h2⟩
  ·rintro ⟨j, h1, h2⟩
   by_cases ej : j = i
   ·rw [ej] at h2; exact absurd h2.symm e
   ·exact ⟨j, by omega, h2⟩
def freeP (q : HPl) (fm : Nat → Nat) (f : Nat) : Bool := decide (q.t ≤ f) && (List.range q.g).all fun i => decide (fm i ≠ f)
theorem freeP_tk {q : HPl} {fm : Nat → Nat} {f : Nat} (hf : q.t ≤ f) : freeP q fm f = !tkn fm q.g f := by
 unfold freeP
 rw [decide_eq_true hf, Bool.true_and]
 cases e : tkn fm q.g f with
 | true =>
  obtain ⟨j, h1, h2⟩ := tkn_iff.1 e
  rw [Bool.not_true, List.all_eq_false]
  exact ⟨j, List.mem_range.2 h1, by rw [decide_eq_true_eq]; exact fun h => h h2⟩
 | false =>
  rw [Bool.not_false, List.all_eq_true]
  intro j hj
  refine decide_eq_true fun h => ?_
  have := tkn_iff.2 ⟨j, List.mem_range.1 hj, h⟩
  rw [e] at this; cases this
def freeTo (q : HPl) (fm : Nat → Nat) (j : Nat) : List Nat := (List.range j).filter (freeP q fm)
theorem freeTo_t (q : HPl) (fm : Nat → Nat) : freeTo q fm q.t = [] := by
 unfold freeTo
 rw [List.filter_eq_nil_iff]
 intro a ha
 rw [List.mem_range] at ha
 unfold freeP
 rw [decide_eq_false (by omega)]
 simp
theorem freeTo_step (q : HPl) (fm : Nat → Nat) (j : Nat) : freeTo q fm (j + 1) = freeTo q fm j ++ (if freeP q fm j then [j] else []) := by
 unfold freeTo
 rw [List.range_succ, List.filter_append]
 congr 1
 simp [List.filter_cons]
theorem freeTo_H (q : HPl) (fm : Nat → Nat) : freeTo q fm q.H = freeL q fm := rfl
theorem freeTo_len (q : HPl) (fm : Nat → Nat) (j : Nat) : (freeTo q fm j).length ≤ j := by
 have := List.length_filter_le (freeP q fm) (List.range j)
 rw [List.length_range] at this
 exact this
structure LD (hs h : Heap) (f pb tb hb kb : Nat) (q : HPl) (fm mv : Nat → Nat) (tk : Nat → Bool) (G : Nat → Prop) (fr : List Nat) : Prop where
 pt : Part hs h
 pc : ∃ a c, Blk h pb [.pointer (some ⟨f, 0, none⟩), .int .i64 (q.heat : Nat), .slice (some ⟨tb, 0, none⟩) q.g q.g, .slice (some ⟨hb, 0, none⟩) q.g q.g, .slice a fr.length c] ∧ Sl G h 3 1 a fr.length c (frL fr)
 tc : Blk h tb (entL q.g fm mv)
 hh : Blk h hb (htL q.g fun _ => 0)
 kc : Blk h kb (rowB q.H tk)
 ne : pb ≠ tb ∧ pb ≠ hb ∧ pb ≠ kb ∧ tb ≠ hb ∧ tb ≠ kb ∧ hb ≠ kb
 nn : hs pb = none ∧ hs tb = none ∧ hs hb = none ∧ hs kb = none
 gn : ∀ k, G k → hs k = none ∧ k ≠ pb ∧ k ≠ tb ∧ k ≠ hb ∧ k ≠ kb
section
variable {F : Nat → Prop} {Gs : Nat → Nat → Prop} {bs rs : Nat → Nat} {hc hs h h1 : Heap} {d f pb tb hb kb fb n : Nat} {q : HPl} {x : FS} {fm mv : Nat → Nat} {tk : Nat → Bool} {G : Nat → Prop} {fr : List Nat} {Q : QT}
theorem K65.c (w : FD F Gs bs rs hc h d f q.p x) (hq : Q (fcfgV q.p) h) : CT 65 #[.pointer (some ⟨f, 0, none⟩)] h Q := by
 obtain ⟨a1, c1, a2, c2, g0, g1, g2, g3, g4, _⟩ := w.cell
 apply K65.ok
 exact xsIf_f rfl ⟨f, 0, rfl, _, g0, _, g1, _, g2, _, g3, _, g4, hq⟩
theorem LD.part (w : LD hs h f pb tb hb kb q fm mv tk G fr) (pt : Part h h1) : LD hs h1 f pb tb hb kb q fm mv tk G fr := by
 obtain ⟨a, c, b, s⟩ := w.pc
 exact ⟨w.pt.trans pt, ⟨a, c, b.keep (part_live pt b.ne), s.keep (fun _ h => h) fun k _ hk => part_live pt hk⟩, w.tc.keep (part_live pt w.tc.ne), w.hh.keep (part_live pt w.hh.ne), w.kc.keep (part_live pt w.kc.ne), w.ne, w.nn, w.gn⟩
theorem LD.ent (w : LD hs h f pb tb hb kb q fm mv tk G fr) {i a m : Nat} (hi : i < q.g) :
  LD hs (h.put tb (0 + i * 2) [.int .i64 (a : Nat), .int .u64 (m : Nat)]) f pb tb hb kb q (fset fm i a) (fset mv i m) tk G fr := by
 obtain ⟨sa, sc, b, s⟩ := w.pc
 obtain ⟨n1, n2, n3, n4, n5, n6⟩ := w.ne
 have hk : ∀ k, k ≠ tb → (h.put tb (0 + i * 2) [Value.int .i64 (a : Nat), .int .u64 (m : Nat)]) k = h k := fun k hk => put_other _ _ _ hk
 have := w.tc.put (0 + i * 2) [.int .i64 (a : Nat), .int .u64 (m : Nat)]
 rw [show 0 + i * 2 = 2 * i by omega, entL_set _ _ _ _ hi] at this
 refine ⟨w.pt.put w.nn.2.1 _ _, ⟨sa, sc, b.keep (hk _ n1), s.keep (fun _ h => h) fun k hg _ => hk _ (w.gn k hg).2.2.1⟩, ?_, w.hh.keep (hk _ (Ne.symm n4)), w.kc.keep (hk _ (Ne.symm n5)), w.ne, w.nn, w.gn⟩
 rw [show 0 + i * 2 = 2 * i by omega]; exact this
theorem LD.take (w : LD hs h f pb tb hb kb q fm mv tk G fr) {j : Nat} {v : Bool} :
  LD hs (h.put kb (0 + j * 1) [.bool v]) f pb tb hb kb q fm mv (fset tk j v) G fr := by
 obtain ⟨sa, sc, b, s⟩ := w.pc
 obtain ⟨n1, n2, n3, n4, n5, n6⟩ := w.ne
 have hk : ∀ k, k ≠ kb → (h.put kb (0 + j * 1) [Value.bool v]) k = h k := fun k hk => put_other _ _ _ hk
 exact ⟨w.pt.put w.nn.2.2.2 _ _, ⟨sa, sc, b.keep (hk _ n3), s.keep (fun _ h => h) fun k hg _ => hk _ (w.gn k hg).2.2.2.2⟩, w.tc.keep (hk _ n5), w.hh.keep (hk _ n6), w.kc.bset, w.ne, w.nn, w.gn⟩
theorem LD.t2 (w : LD hs h f pb tb hb kb q fm mv tk G fr) : h.cell pb (0 + 2) = some (.slice (some ⟨tb, 0, none⟩) q.g q.g) := by obtain ⟨_, _, b, _⟩ := w.pc; exact b.cell 2
theorem LD.k0 (w : LD hs h f pb tb hb kb q fm mv tk G fr) {j : Nat} (hj : j < q.H) : h.cell kb (0 + j * 1) = some (.bool (tk j)) := by
 rw [show 0 + j * 1 = j by omega, w.kc.cell]; exact row_get (fun i => Value.bool (tk i)) hj
theorem K66.L16.c (ok : q.ok n) {pm : Nat → Nat} : ∀ (j i : Nat) (h : Heap) (G : Nat → Prop), i + j = q.H → q.t ≤ i → LD hs h f pb tb hb kb q fm mv (tkn pm q.g) G (freeTo q pm i) →
  (∀ h' G', LD hs h' f pb tb hb kb q fm mv (tkn pm q.g) G' (freeL q pm) → Q (.int .i64 0) h') →
  K66.L16 (some ⟨pb, 0, none⟩) (some ⟨kb, 0, none⟩) q.H q.H (i : Int) h Q := by
 have hH := ok.H_le
 intro j
 induction j with
 | zero =>
  intro i h G hi ht w hq
  apply K66.L16.ok
  have : i = q.H := by omega
  subst this
  rw [freeTo_H] at w
  exact xsIf_f (decide_eq_false (by omega)) (hq _ _ w)
 | succ j ih =>
  intro i h G hi ht w hq
  apply K66.L16.ok
  have e1 : IntKind.i64.wrap ((i : Int) + 1) = ((i + 1 : Nat) : Int) := by rw [i64_in _ (by omega)]; omega
  unfold K66.L16.wp
  rw [e1]
  refine xsIf_t (decide_eq_true (by omega)) ⟨by omega, kb, 0, rfl, _, w.k0 (j := i) (by omega), ?_⟩
  have hp := freeP_tk (q := q) (fm := pm) ht
  have es := freeTo_step q pm i
  cases e : tkn pm q.g i with
  | true =>
   rw [hp, e] at es
   rw [show freeTo q pm (i + 1) = freeTo q pm i by rw [es]; simp] at es
   refine xsIf_f rfl (ih (i + 1) h G (by omega) (by omega) ?_ hq)
   rw [show freeTo q pm (i + 1) = freeTo q pm i by rw [freeTo_step, hp, e]; simp]
   exact w
  | false =>
   rw [hp, e] at es
   have es : freeTo q pm (i + 1) = freeTo q pm i ++ [i] := es
   obtain ⟨a, c, b, s⟩ := w.pc
   obtain ⟨n1, n2, n3, n4, n5, n6⟩ := w.ne
   have hl := freeTo_len q pm i
   refine xsIf_t rfl ⟨pb, 0, rfl, _, _, _, b.cell 4, fun t ht2 => ?_⟩
   refine s.snoc (new := [.int .i64 (i : Nat)]) ht2 (by kernel_rfl) (by omega) rfl rfl (by kernel_rfl) (by rw [show cellBytes Tryz.prog 3 = 8 by kernel_rfl]; omega) fun a' c' F' h' s' st hsub => ?_
   have kp : ∀ k, ¬ G k → h k ≠ none → h' k = h k := fun k hk hn => st.keep k hk hn
   have gp : ∀ k, k = pb ∨ k = tb ∨ k = hb ∨ k = kb → ¬ G k := fun k hk hg => by
    have := w.gn k hg
    rcases hk with h | h | h | h
    ·exact this.2.1 h
    ·exact this.2.2.1 h
    ·exact this.2.2.2.1 h
    ·exact this.2.2.2.2 h
   have bP := b.keep (kp pb (gp _ (.inl rfl)) b.ne)
   have gn' : ∀ k, F' k → hs k = none ∧ k ≠ pb ∧ k ≠ tb ∧ k ≠ hb ∧ k ≠ kb := fun k hk => by
    rcases st.sub k hk with hh | hh
    ·exact w.gn k hh
    ·exact ⟨Part.none w.pt hh, fun e => by rw [e] at hh; exact b.ne hh, fun e => by rw [e] at hh; exact w.tc.ne hh, fun e => by rw [e] at hh; exact w.hh.ne hh, fun e => by rw [e] at hh; exact w.kc.ne hh⟩
   have pt' : Part hs h' := fun k o hk => by
    have hl : h k = some o := w.pt k o hk
    rw [kp k (fun hg => by rw [(w.gn k hg).1] at hk; cases hk) (by rw [hl]; simp)]; exact hl
   refine ⟨pb, 0, rfl, bP.can (by show 0 + 4 + 1 ≤ 5; omega), ih (i + 1) _ F' (by omega) (by omega) ?_ hq⟩
   have ho : ∀ k, k ≠ pb → (h'.put pb (0 + 4) [Value.slice a' ((freeTo q pm i).length + 1) c']) k = h' k := fun k hk => put_other _ _ _ hk
   have el : (freeTo q pm (i + 1)).length = (freeTo q pm i).length + 1 := by rw [es]; simp
   refine ⟨pt'.put w.nn.1 _ _, ?_, (w.tc.keep (kp tb (gp _ (.inr (.inl rfl))) w.tc.ne)).keep (ho _ (Ne.symm n1)), (w.hh.keep (kp hb (gp _ (.inr (.inr (.inl rfl)))) w.hh.ne)).keep (ho _ (Ne.symm n2)), (w.kc.keep (kp kb (gp _ (.inr (.inr (.inr rfl)))) w.kc.ne)).keep (ho _ (Ne.symm n3)), w.ne, w.nn, gn'⟩
   rw [el]
   refine ⟨a', c', bP.put 4 [.slice a' ((freeTo q pm i).length + 1) c'], ?_⟩
   rw [show frL (freeTo q pm (i + 1)) = frL (freeTo q pm i) ++ [.int .i64 (i : Nat)] by rw [es]; unfold frL ints; simp]
   exact s'.keep (fun _ h => h) fun k hk _ => ho _ (gn' k hk).2.1
theorem K66.L4.c (fd : FD F Gs bs rs hc hs d f q.p x) (w0 : HT q x fm mv) : ∀ (j i : Nat) (h : Heap), i + j = q.g → LD hs h f pb tb hb kb q (uptoN fm i) (uptoN mv i) (tkn fm i) G [] →
  (∀ h' G', LD hs h' f pb tb hb kb q (uptoN fm q.g) (uptoN mv q.g) (tkn fm q.g) G' (freeL q fm) → Q (.int .i64 0) h') →
  K66.L4 (some ⟨pb, 0, none⟩) (q.t : Int) (some ⟨kb, 0, none⟩) q.H q.H (q.g : Int) (i : Int) h Q := by
 have ok := w0.ok
 have hH := ok.H_le
 have f1 := ok.f1
 intro j
 induction j with
 | zero =>
  intro i h hi w hq
  apply K66.L4.ok
  have : i = q.g := by omega
  subst this
  refine xsIf_f (decide_eq_false (by omega)) (K66.L16.c ok (q.H - q.t) q.t h G (by omega) (Nat.le_refl _) ?_ hq)
  rw [freeTo_t]; exact w
 | succ j ih =>
  intro i h hi w hq
  have hi2 : i < q.g := by omega
  obtain ⟨sa, sc, b, s⟩ := w.pc
  apply K66.L4.ok
  have e1 : IntKind.i64.wrap ((i : Int) + 1) = ((i + 1 : Nat) : Int) := by rw [i64_in _ (by omega)]; omega
  have tl := w0.tline hi2
  refine xsIf_t (decide_eq_true (by omega)) (K56.c (by omega) ⟨_, _, rfl, pb, 0, rfl, _, b.cell 0, ?_⟩)
  refine K98.c (fd.part w.pt) w0.fi (fun _ _ => ⟨_, _, rfl, xsIf_f rfl ?_⟩) fun hno => absurd ⟨by omega, by omega⟩ hno
  rw [Int.toNat_natCast]
  have hsz : (Gb.fr q.p x (i / 8)).size = 64 := fr_size _ _ _
  have e8 : IntKind.i64.wrap (8 * ((i % 8 : Nat) : Int)) = ((8 * (i % 8) : Nat) : Int) := by rw [i64_in _ (by omega)]; omega
  rw [e8]
  have lo := w0.lo i hi2
  have hmb := w0.mb i hi2
  refine ⟨⟨by omega, by rw [hsz]; omega⟩, K18.c (Nat.le_trans sext_size (by omega)) ⟨_, rfl, ?_⟩⟩
  rw [get8_sext hsz, w0.en i hi2]
  refine K104.c (w0.frames i hi2) hmb ⟨_, _, _, rfl, xsIf_f rfl (xsIf_f (decide_eq_false (by omega)) (xsIf_f (decide_eq_false (by omega)) ⟨⟨by omega, by omega⟩, kb, 0, rfl, tkn fm i (fm i), ?_⟩))⟩
  rw [Int.toNat_natCast]
  refine ⟨w.k0 lo.2, xsIf_f ?_ ?_⟩
  ·cases e : tkn fm i (fm i) with
   | false => rfl
   | true =>
    obtain ⟨j', h1, h2⟩ := tkn_iff.1 e
    have := w0.inj j' i (by omega) hi2 h2
    omega
  ·apply K66.J13.ok
   have w1 := w.ent (i := i) (a := fm i) (m := mv i) hi2
   have w2 := w1.take (j := fm i) (v := true)
   rw [uptoN_set, uptoN_set, tkn_set] at w2
   unfold K66.J13.wp
   rw [e1, Int.toNat_natCast, Int.toNat_natCast]
   exact ⟨pb, 0, rfl, _, _, _, w.t2, ⟨by omega, by omega⟩, tb, 0, rfl, w.tc.can (by rw [entL_len]; omega), ⟨by omega, by omega⟩, kb, 0, rfl, w1.kc.can (by rw [List.length_map, List.length_range]; omega), ih (i + 1) _ (by omega) w2 hq⟩
end
end Go.Gb
namespace Go.Gb
open Go.Proofs IntWalk
theorem zeros_ent {P : Program} {T : TypeId} (hz : cellZero P T = [.int .i64 0, .int .u64 0]) (m : Nat) : zeros P T m = entL m (uptoN (fun _ => 0) 0) (uptoN (fun _ => 0) 0) := by
 have e : uptoN (fun _ => 0) 0 = fun _ => 0 := by funext w; unfold uptoN; split <;> rfl
 unfold zeros entL
 rw [hz, e]
 induction m with
 | zero => rfl
 | succ m ih => rw [List.replicate_succ', List.flatten_concat, ih, List.range_succ, List.flatMap_append]; rfl
theorem uptoN_zero (f : Nat → Nat) : uptoN f 0 = fun _ => 0 := by funext w; unfold uptoN; rw [if_neg (by omega)]
theorem entL_congr {g : Nat} {fm mv fm' mv' : Nat → Nat} (h : ∀ i, i < g → fm i = fm' i ∧ mv i = mv' i) : entL g fm mv = entL g fm' mv' := by
 unfold entL
 rw [List.flatMap_def, List.flatMap_def]
 congr 1
 apply List.map_congr_left
 intro i hi
 obtain ⟨a, b⟩ := h i (List.mem_range.1 hi)
 rw [a, b]
section
variable {F : Nat → Prop} {Gs : Nat → Nat → Prop} {bs rs : Nat → Nat} {hc hs h h1 : Heap} {d f pb tb hb kb fb n : Nat} {q : HPl} {x : FS} {fm mv : Nat → Nat} {Q : QT}
theorem Blk.off {h : Heap} {b k : Nat} {cs : List Value} (w : Blk h b cs) (e : h k = none) : k ≠ b := fun ek => w.ne (by rw [← ek]; exact e)
def FS.fresh (x : FS) : FS := ⟨x.s, x.l, x.g, fun _ => 0⟩
theorem HT.new (w : HT q x fm mv) : HT q x.fresh fm mv ∧ ∀ l, fr q.p x.fresh l = fr q.p x l := by
 obtain ⟨iv1, z1⟩ := w.fi.new
 exact ⟨⟨w.ok, iv1, fun i hi => by show wordAt (fr q.p x.fresh (i / 8)) (i % 8) = _; rw [show fr q.p x.fresh (i / 8) = _ from z1 _]; exact w.en i hi, w.lo, w.inj, w.mb⟩, z1⟩
theorem HT.free_len (w : HT q x fm mv) : 1 ≤ (freeL q fm).length := by
 obtain ⟨k, hk⟩ := free_some (q := q) (y := ⟨x, fm, mv, fun _ => 0⟩) w
 exact List.length_pos_of_mem (freeL_mem.2 hk)
theorem freeL_nodup (q : HPl) (fm : Nat → Nat) : (freeL q fm).Nodup := List.Pairwise.filter _ List.nodup_range
theorem LD.done {G : Nat → Prop} (w : LD hs h f pb tb hb kb q (uptoN fm q.g) (uptoN mv q.g) (tkn fm q.g) G (freeL q fm)) (fd : FD F Gs bs rs hc hs d f q.p x) (w0 : HT q x fm mv) :
  ∃ fb, HD F Gs bs rs hc h d f pb tb hb fb q ⟨x, fm, mv, fun _ => 0⟩ (freeL q fm) ∧ ∀ k, P4 pb tb hb fb k → hs k = none := by
 obtain ⟨a, c, b, s⟩ := w.pc
 have hl := w0.free_len
 obtain ⟨n1, n2, n3, n4, n5, n6⟩ := w.ne
 rcases s.place with ⟨_, e, _⟩ | ⟨fb, cs, rfl, hg, hk, _, _, ht⟩
 ·omega
 ·have gk := w.gn fb hg
  have hn : ∀ k, P4 pb tb hb fb k → hs k = none := fun k hk => by
   rcases hk with rfl | rfl | rfl | rfl
   ·exact w.nn.1
   ·exact w.nn.2.1
   ·exact w.nn.2.2.1
   ·exact gk.1
  refine ⟨fb, ⟨fd.part w.pt, ⟨_, _, c, b⟩, ?_, w.hh, ⟨cs.toList, ⟨_, hk⟩, ?_⟩, ⟨n1, n2, Ne.symm gk.2.1, n4, Ne.symm gk.2.2.1, Ne.symm gk.2.2.2.1⟩, fun k hk => ⟨fun hf => fd.live k hf (hn k hk), Part.none fd.cp (hn k hk)⟩, freeL_nodup _ _, fun _ => freeL_mem⟩, hn⟩
  ·have := w.tc
   rw [entL_congr (fm' := fm) (mv' := mv) fun i hi => ⟨by unfold uptoN; rw [if_pos hi], by unfold uptoN; rw [if_pos hi]⟩] at this
   exact this
  ·rw [Nat.mul_one] at ht; exact ht
theorem K66.c {G : Nat → Prop} {sn : Nat} (fd : FD F Gs bs rs hc hs d f q.p x) (w0 : HT q x fm mv) (pt : Part hs h) (pc : Blk h pb [.pointer (some ⟨f, 0, none⟩), .int .i64 (q.heat : Nat), .slice (some ⟨tb, 0, none⟩) q.g q.g, .slice (some ⟨hb, 0, none⟩) q.g q.g, .slice none 0 0])
  (tc : Blk h tb (entL q.g (fun _ => 0) fun _ => 0)) (hh : Blk h hb (htL q.g fun _ => 0)) (ne : pb ≠ tb ∧ pb ≠ hb ∧ tb ≠ hb) (nn : hs pb = none ∧ hs tb = none ∧ hs hb = none)
  (hq : ∀ fb h', HD F Gs bs rs hc h' d f pb tb hb fb q ⟨x, fm, mv, fun _ => 0⟩ (freeL q fm) → (∀ k, P4 pb tb hb fb k → hs k = none) → Part hs h' → Q (.int .i64 0) h') :
  CT 66 #[.pointer (some ⟨pb, 0, none⟩)] h Q := by
 have ok := w0.ok
 have hH := ok.H_le
 have hl := ok.lines
 have f1 := ok.f1
 apply K66.ok
 refine ⟨pb, 0, rfl, _, pc.cell 0, K65.c (fd.part pt) ⟨_, _, _, _, _, rfl, K53.c ok ⟨_, _, _, rfl, pb, 0, rfl, _, pc.cell 0, K103.c (fd.part pt) ok.ok ⟨_, rfl, ?_⟩⟩⟩⟩
 have e8 : iquo .i64 (((q.p.R * q.p.pl : Nat) : Int)) 8 = (q.H : Int) := by rw [iquo_i64 (by omega) (by omega) (by omega)]; unfold HPl.H; omega
 rw [e8]
 refine xsMk_i (by omega) (by omega) (by rw [show cellBytes Tryz.prog 4 = 1 by kernel_rfl]; decide) fun kb hkb => ?_
 have zB : zeros Tryz.prog 4 q.H = rowB q.H (tkn fm 0) := zeros_row (z := .bool false) (by kernel_rfl) _
 rw [Int.toNat_natCast, zB]
 have p1 := Part.upd hkb (.cells (rowB q.H (tkn fm 0)).toArray 4 (0, 0))
 have bP := pc.keep (part_live p1 pc.ne)
 have hne : ∀ {b : Nat} {cs : List Value}, Blk h b cs → b ≠ kb := fun w e => w.ne (by rw [e]; exact hkb)
 have w : LD hs (upd h kb (.cells (rowB q.H (tkn fm 0)).toArray 4 (0, 0))) f pb tb hb kb q (uptoN fm 0) (uptoN mv 0) (tkn fm 0) (fun _ => False) [] := by
  refine ⟨pt.trans p1, ⟨none, 0, bP, Sl.nil _ _ _ _⟩, ?_, hh.keep (part_live p1 hh.ne), Blk.new _ _ _ _, ⟨ne.1, ne.2.1, hne pc, ne.2.2, hne tc, hne hh⟩, ⟨nn.1, nn.2.1, nn.2.2, Part.none pt hkb⟩, fun k h => h.elim⟩
  rw [uptoN_zero, uptoN_zero]; exact tc.keep (part_live p1 tc.ne)
 refine ⟨pb, 0, rfl, _, _, _, bP.cell 2, ?_⟩
 refine K66.L4.c fd w0 q.g 0 _ (by omega) w fun h' G' w' => ?_
 obtain ⟨fb, hd, hn⟩ := w'.done fd w0
 exact hq fb h' hd hn w'.pt
theorem K38.c (w : PmD F h d x.s) (lv : Live F h) (w0 : HT q x fm mv)
  (hq : ∀ f Gs bs rs hc pb tb hb fb h', HD F Gs bs rs hc h' d f pb tb hb fb q ⟨x.fresh, fm, mv, fun _ => 0⟩ (freeL q fm) → (∀ k, HF F Gs rs q.p.R pb tb hb fb k → F k ∨ h k = none) → (∀ j, hc j ≠ none → h j = none) → Part h h' → Q (.tuple #[.pointer (some ⟨pb, 0, none⟩), .int .i64 0]) h') :
  CT 38 #[.pointer (some ⟨d, 0, none⟩), .int .i64 (q.heat : Nat)] h Q := by
 have ok := w0.ok
 have g1 := ok.g1
 have h1' := ok.heat1
 have hH := ok.H_le
 have f1 := ok.f1
 obtain ⟨wf, _⟩ := w0.new
 apply K38.ok
 refine xsIf_f rfl (xsIf_f (decide_eq_false (by omega)) (K55.c w lv w0.fi fun f Gs bs rs hc hs fd fG fc p2 => ⟨_, _, rfl, xsIf_f rfl (K65.c fd ⟨_, _, _, _, _, rfl, K53.c ok ⟨_, _, _, rfl, xsIf_f (decide_eq_false (by omega)) ?_⟩⟩)⟩))
 have zE : zeros Tryz.prog 101 q.g = entL q.g (fun _ => 0) fun _ => 0 := by
  rw [zeros_ent (by kernel_rfl), uptoN_zero, ]
 have zI : zeros Tryz.prog 3 q.g = htL q.g fun _ => 0 := zeros_row (z := .int .i64 0) (by kernel_rfl) _
 have fin : ∀ {pb tb hb : Nat} {h3 : Heap}, Part hs h3 → Blk h3 pb [.pointer (some ⟨f, 0, none⟩), .int .i64 (q.heat : Nat), .slice (some ⟨tb, 0, none⟩) q.g q.g, .slice (some ⟨hb, 0, none⟩) q.g q.g, .slice none 0 0] →
   Blk h3 tb (entL q.g (fun _ => 0) fun _ => 0) → Blk h3 hb (htL q.g fun _ => 0) → (pb ≠ tb ∧ pb ≠ hb ∧ tb ≠ hb) → (hs pb = none ∧ hs tb = none ∧ hs hb = none) →
   CT 66 #[.pointer (some ⟨pb, 0, none⟩)] h3 fun (r : Value) (h' : Heap) => ∃ (x : Int), r = .int .i64 x ∧ xsIf (decide (x ≠ 0)) (Q (.tuple #[.pointer none, .int .i64 x]) h') (Q (.tuple #[.pointer (some ⟨pb, 0, none⟩), .int .i64 0]) h') := fun {pb tb hb h3} pt pc tc hh ne nn => by
  refine K66.c (G := fun _ => False) (sn := 0) fd wf pt pc tc hh ne nn fun fb h' hd hn p' => ⟨_, rfl, xsIf_f rfl (hq f Gs bs rs hc pb tb hb fb h' hd (fun k hk => ?_) fc (p2.trans p'))⟩
  rcases hk with (hk | ⟨j, hj, hk⟩) | hk
  ·exact .inl hk
  ·exact .inr (fG j hj k hk)
  ·exact .inr (Part.none p2 (hn k hk))
 have cE : cellBytes Tryz.prog 101 = 16 := by kernel_rfl
 have cI : cellBytes Tryz.prog 3 = 8 := by kernel_rfl
 have mE : ∀ {h : Heap} {K : Option Addr → Nat → Nat → Heap → Prop}, (∀ b, h b = none → K (some ⟨b, 0, none⟩) q.g q.g (upd h b (.cells (entL q.g (fun _ => 0) fun _ => 0).toArray 101 (0, 0)))) → xsMk Tryz.prog 101 h (q.g : Int) (q.g : Int) K := fun hk => by
  refine ⟨by omega, Int.le_refl _, by omega, by rw [cE]; omega, fun b hb => ?_⟩
  rw [Int.toNat_natCast, zE]; exact hk b hb
 have mI : ∀ {h : Heap} {K : Option Addr → Nat → Nat → Heap → Prop}, (∀ b, h b = none → K (some ⟨b, 0, none⟩) q.g q.g (upd h b (.cells (htL q.g fun _ => 0).toArray 3 (0, 0)))) → xsMk Tryz.prog 3 h (q.g : Int) (q.g : Int) K := fun hk => by
  refine ⟨by omega, Int.le_refl _, by omega, by rw [cI]; omega, fun b hb => ?_⟩
  rw [Int.toNat_natCast, zI]; exact hk b hb
 constructor
 ·refine mE fun tb h1 => mI fun hb h2 pb h3 => ?_
  have P1 := Part.upd h1 (.cells (entL q.g (fun _ => 0) fun _ => 0).toArray 101 (0, 0))
  have P2 := Part.upd h2 (.cells (htL q.g fun _ => 0).toArray 3 (0, 0))
  have P3 := Part.upd h3 (Obj.cells #[.pointer (some ⟨f, 0, none⟩), .int .i64 (q.heat : Nat), .slice (some ⟨tb, 0, none⟩) q.g q.g, .slice (some ⟨hb, 0, none⟩) q.g q.g, .slice none 0 0] 104 (0, 0))
  have B1 := (Blk.new hs tb (entL q.g (fun _ => 0) fun _ => 0).toArray 101)
  have B2 := (Blk.new (upd hs tb (.cells (entL q.g (fun _ => 0) fun _ => 0).toArray 101 (0, 0))) hb (htL q.g fun _ => 0).toArray 3)
  have B1' := B1.keep (part_live P2 B1.ne)
  exact fin (P1.trans (P2.trans P3)) (Blk.new _ _ _ _) (B1'.keep (part_live P3 B1'.ne)) (B2.keep (part_live P3 B2.ne)) ⟨B1'.off h3, B2.off h3, Ne.symm (B1.off h2)⟩ ⟨Part.none (P1.trans P2) h3, h1, Part.none P1 h2⟩
 ·refine mI fun hb h1 => mE fun tb h2 pb h3 => ?_
  have P1 := Part.upd h1 (.cells (htL q.g fun _ => 0).toArray 3 (0, 0))
  have P2 := Part.upd h2 (.cells (entL q.g (fun _ => 0) fun _ => 0).toArray 101 (0, 0))
  have P3 := Part.upd h3 (Obj.cells #[.pointer (some ⟨f, 0, none⟩), .int .i64 (q.heat : Nat), .slice (some ⟨tb, 0, none⟩) q.g q.g, .slice (some ⟨hb, 0, none⟩) q.g q.g, .slice none 0 0] 104 (0, 0))
  have B1 := (Blk.new hs hb (htL q.g fun _ => 0).toArray 3)
  have B2 := (Blk.new (upd hs hb (.cells (htL q.g fun _ => 0).toArray 3 (0, 0))) tb (entL q.g (fun _ => 0) fun _ => 0).toArray 101)
  have B1' := B1.keep (part_live P2 B1.ne)
  exact fin (P1.trans (P2.trans P3)) (Blk.new _ _ _ _) (B2.keep (part_live P3 B2.ne)) (B1'.keep (part_live P3 B1'.ne)) ⟨B2.off h3, B1'.off h3, B1.off h2⟩ ⟨Part.none (P1.trans P2) h3, Part.none P1 h2, h1⟩
end
end Go.Gb
namespace Go.Gb
open Go.Proofs IntWalk
end Go.Gb
namespace Go.Gb
open Go.Proofs IntWalk
section
variable {F : Nat → Prop} {Gs : Nat → Nat → Prop} {bs rs : Nat → Nat} {hc h0 h h1 h2 : Heap} {d f pb tb hb fb n : Nat} {q : HPl} {x : FS} {y : HS} {fm mv : Nat → Nat} {fr : List Nat} {Q : QT}
def iniF (q : HPl) : Nat → Nat := fun i => q.t + i
structure HNew (q : HPl) (n : Nat) (s : PmS) : Prop where
 ht : HT q (q.x0 s) (iniF q) fun _ => 0
 sd : Sd (q.x0 s).s
 nl : (q.x0 s).s.nl = n
 z : ∀ i k, i < q.g → k < 8 → hr q (q.x0 s) (iniF q) i k = zero64
 w0 : HI0 q 0 ⟨s, fun _ => [], fun _ => Gp.first q.p.pl, fun _ => 0⟩
theorem HNew.of (o : q.ok n) {s : PmS} (iv : FI q.p (FS.zero q.p s)) (sd : Sd s) (nl : s.nl = n) (z : ∀ l, l < q.p.R * q.p.pl → Gb.fr q.p (FS.zero q.p s) l = zero64) : HNew q n s := by
 obtain ⟨w0, w1, nl1⟩ := hmake_new o iv sd nl z
 obtain ⟨a, b⟩ := w1.ht o nl1
 exact ⟨a, w1.sd, nl1, b, w0⟩
theorem hot_start (o : q.ok n) (w : PmD F h d (pnew n)) (lv : Live F h) (pt : Part h0 h) (hF : ∀ k, h0 k ≠ none → ¬ F k)
  (hq : ∀ h1 s, HNew q n s → fmake q.p (pnew n) = (0, s) → PmD F h1 d (q.x0 s).s → Live F h1 → Part h0 h1 → Step F h F h1 → Q (.int .i64 0) h1) :
  CT 28 #[.pointer (some ⟨d, 0, none⟩), fcfgV q.p] h Q :=
 K28.new o w lv fun h1 s e iv sd nl z w1 st => hq h1 s (HNew.of o iv sd nl z) e w1 (st.dom lv) (st.part pt hF) st
theorem hWrite_eq {B : ByteArray} (hB : B.size = 64) {i k : Nat} (hi : i < q.g) (hk : k < 8) : hWrite q y (i : Int) (k : Int) B = hwrite q (fun x l => fWrite q.p x (l : Int) B) y i k := by
 have hin : inH q (i : Int) (k : Int) := ⟨⟨by omega, by omega⟩, by omega, by omega⟩
 unfold hWrite
 rw [if_pos hB, if_pos hin, Int.toNat_natCast, Int.toNat_natCast]
end
end Go.Gb
namespace Go.Gb
open Go.Proofs IntWalk
structure HPl.tiny (q : HPl) : Prop where
 ok : q.ok (1 + q.p.R * q.p.z)
 r1 : 2 ≤ q.p.R
 r2 : q.p.R ≤ 3
 pl : q.p.pl = 16
 ps : q.p.ps ≤ 3
 psi : q.p.psi ≤ 4
 heat : q.heat ≤ 30
 g : q.g = q.p.R - 1
 t : q.t = 1
 sz : 1 + q.p.R * q.p.z ≤ 8192
theorem HPl.tiny.of {R s a key heat : Nat} (r1 : 2 ≤ R) (r2 : R ≤ 3) (hs : s ≤ 3) (a1 : 1 ≤ a) (a2 : a ≤ 4) (hk : key < 18446744073709551616) (t1 : 1 ≤ heat) (t2 : heat ≤ 30) : HPl.tiny ⟨⟨R, 16, s, a, key⟩, R - 1, 1, heat⟩ := by
 have hz : FPl.z ⟨R, 16, s, a, key⟩ ≤ 40 := by unfold FPl.z; dsimp only; omega
 have sz : 1 + R * FPl.z ⟨R, 16, s, a, key⟩ ≤ 8192 := by
  have := Nat.mul_le_mul r2 hz
  omega
 have rt : FPl.rt ⟨R, 16, s, a, key⟩ := ⟨by show 1 ≤ R; omega, by show R ≤ 16; omega, by show 1 ≤ 16; omega, by show 16 ≤ 1024; omega, by show s ≤ 64; omega, a1, by show a ≤ 65535; omega, hk⟩
 have eH : ∀ t, HPl.H ⟨⟨R, 16, s, a, key⟩, R - 1, 1, t⟩ = R * 16 / 8 := fun t => rfl
 refine ⟨⟨?_, ?_, rt.ok sz, by show 16 % 8 = 0; omega, by show 1 ≤ R - 1; omega, by show R - 1 ≤ 64 * 1; omega, by show 1 ≤ R - 1; omega, ?_, ?_, t1, by show heat < _; omega⟩, r1, r2, rfl, hs, a2, t2, rfl, rfl, sz⟩
 ·show R - 1 = cntG (R * 16 / 8 - R) (R * 16 / 8 - R)
  have : R = 2 ∨ R = 3 := by omega
  rcases this with rfl | rfl <;> decide
 ·show 1 = (R - 1 + 63) / 64; omega
 ·rw [eH]; show R - 1 + 1 + 2 ≤ R * 16 / 8; omega
 ·rw [eH]; show R * 16 / 8 ≤ R - 1 + 1 + 3; omega
end Go.Gb
namespace Go.Gb
open Go.Proofs IntWalk
section
variable {F : Nat → Prop} {Gs : Nat → Nat → Prop} {bs rs : Nat → Nat} {hc h0 h h1 : Heap} {d f pb tb hb fb mb n : Nat} {q : HPl} {y : HS} {fr : List Nat} {Q : Value → Heap → Prop} {fm mv : Nat → Nat} {x : FS}
theorem Hq.fresh (b : Hq h0 h F Gs bs rs hc d f pb tb hb fb q y fr) (hm : h mb = none) : ¬ HF F Gs rs q.p.R pb tb hb fb mb ∧ hc mb = none ∧ h0 mb = none :=
 ⟨fun hf => b.hd.live mb hf hm, Part.none b.hd.fd.cp hm, Part.none b.pt hm⟩
theorem Hq.dev {s' : PmS} (i : Hq h0 h F Gs bs rs hc d f pb tb hb fb q y fr) (w : PmD F h1 d s') (st : Step F h F h1) : Hq h0 h1 F Gs bs rs hc d f pb tb hb fb q ⟨⟨s', y.x.l, y.x.g, y.x.n⟩, y.fm, y.mv, y.ht⟩ fr := by
 obtain ⟨w1, st1⟩ := i.hd.fd.dev w st
 obtain ⟨w2, st2⟩ := i.hd.flat w1 st1
 exact i.next w2 st2
theorem HT.fuse {m : Int} (w : HT q x fm mv) (hm : 0 ≤ m) : HT q ⟨{ x.s with fuse := m }, x.l, x.g, x.n⟩ fm mv ∧ ∀ i k, i < q.g → k < 8 → hr q ⟨{ x.s with fuse := m }, x.l, x.g, x.n⟩ fm i k = hr q x fm i k := by
 obtain ⟨a, b⟩ := w.fi.fuse hm
 exact w.same a rfl fun l _ => b l
theorem HT.boot (w : HT q x fm mv) (ks : List Bool) : HT q ⟨pboot x.s ks, x.l, x.g, fun _ => 0⟩ fm mv ∧ ∀ i k, i < q.g → k < 8 → hr q ⟨pboot x.s ks, x.l, x.g, fun _ => 0⟩ fm i k = hr q x fm i k := by
 obtain ⟨a, b⟩ := w.fi.boot ks
 exact w.same a rfl b
end
end Go.Gb
namespace Go.Gb
open Go.Proofs IntWalk
theorem ba_ext {x y : ByteArray} (h : x.data.toList = y.data.toList) : x = y := ByteArray.ext (Array.ext' h)
theorem ba_size (s : ByteArray) : s.data.toList.length = s.size := by simp
theorem ba_app (x y : ByteArray) : (x ++ y).data.toList = x.data.toList ++ y.data.toList := by rw [ByteArray.data_append, Array.toList_append]
theorem sext_cut (s : ByteArray) (a b : Nat) : (sext s (a : Int) (b : Int)).data.toList = (s.data.toList.drop a).take (b - a) := by
 unfold sext
 rw [Int.toNat_natCast, Int.toNat_natCast, ByteArray.data_extract, Array.toList_extract, List.extract_eq_take_drop]
def tl (A : Nat → UInt8) (a n : Nat) : List UInt8 := (List.range n).map fun i => A (a + i)
def tx (A : Nat → UInt8) (a n : Nat) : ByteArray := ⟨(tl A a n).toArray⟩
section
variable {A B C : Nat → UInt8} {a n m i : Nat} {b : ByteArray}
theorem tl_len : (tl A a n).length = n := by unfold tl; simp
theorem tl_get (hi : i < n) : (tl A a n)[i]? = some (A (a + i)) := by unfold tl; simp [hi]
theorem tl_none (hi : n ≤ i) : (tl A a n)[i]? = none := List.getElem?_eq_none (by rw [tl_len]; exact hi)
theorem tl_ext {l : List UInt8} (hl : l.length = n) (h : ∀ i, i < n → l[i]? = some (A (a + i))) : l = tl A a n := by
 apply List.ext_getElem?
 intro i
 by_cases hi : i < n
 ·rw [h i hi, tl_get hi]
 ·rw [tl_none (by omega), List.getElem?_eq_none (by omega)]
theorem tl_add : tl A a (n + m) = tl A a n ++ tl A (a + n) m := by
 symm
 refine tl_ext (by rw [List.length_append, tl_len, tl_len]) fun i hi => ?_
 by_cases h : i < n
 ·rw [List.getElem?_append_left (by rw [tl_len]; exact h), tl_get h]
 ·rw [List.getElem?_append_right (by rw [tl_len]; omega), tl_len, tl_get (by omega), show a + n + (i - n) = a + i by omega]
theorem tl_take (hm : m ≤ n) : (tl A a n).take m = tl A a m := by
 refine tl_ext (by rw [List.length_take, tl_len]; omega) fun i hi => ?_
 rw [List.getElem?_take, if_pos hi, tl_get (by omega)]
theorem tl_drop (hm : m ≤ n) : (tl A a n).drop m = tl A (a + m) (n - m) := by
 refine tl_ext (by rw [List.length_drop, tl_len]) fun i hi => ?_
 rw [List.getElem?_drop, tl_get (by omega), show a + (m + i) = a + m + i by omega]
theorem tl_congr (h : ∀ p, a ≤ p → p < a + n → A p = B p) : tl A a n = tl B a n :=
 tl_ext tl_len fun i hi => by rw [tl_get hi, h _ (by omega) (by omega)]
theorem tx_list : (tx A a n).data.toList = tl A a n := by unfold tx; simp
theorem tx_size : (tx A a n).size = n := by rw [← ba_size, tx_list, tl_len]
theorem tx_app : tx A a (n + m) = tx A a n ++ tx A (a + n) m := ba_ext (by rw [ba_app, tx_list, tx_list, tx_list, tl_add])
theorem tx_cut {k : Nat} (hm : m ≤ k) (hk : k ≤ n) : sext (tx A a n) (m : Int) (k : Int) = tx A (a + m) (k - m) := ba_ext (by rw [sext_cut, tx_list, tx_list, tl_drop (by omega), tl_take (by omega)])
theorem tx_congr (h : ∀ p, a ≤ p → p < a + n → A p = B p) : tx A a n = tx B a n := by unfold tx; rw [tl_congr h]
theorem tx_inj (h : tx A a n = tx B a n) {p : Nat} (h1 : a ≤ p) (h2 : p < a + n) : A p = B p := by
 have h : tl A a n = tl B a n := by rw [← tx_list, ← tx_list, h]
 have e := congrArg (fun l => l[p - a]?) h
 simp only [tl_get (A := A) (a := a) (show p - a < n by omega), tl_get (A := B) (a := a) (show p - a < n by omega), show a + (p - a) = p by omega] at e
 exact Option.some.inj e
def ov (A : Nat → UInt8) (a : Nat) (b : ByteArray) : Nat → UInt8 := fun p => if a ≤ p ∧ p < a + b.size then b.data.toList.getD (p - a) 0 else A p
theorem ov_in {p : Nat} (h1 : a ≤ p) (h2 : p < a + b.size) : b.data.toList[p - a]? = some (ov A a b p) := by
 unfold ov
 rw [if_pos ⟨h1, h2⟩]
 have : p - a < b.data.toList.length := by rw [ba_size]; omega
 rw [List.getD_eq_getElem?_getD, List.getElem?_eq_getElem this]
 rfl
theorem ov_out {p : Nat} (h : p < a ∨ a + b.size ≤ p) : ov A a b p = A p := by unfold ov; rw [if_neg (by omega)]
theorem tx_ov : tx (ov A a b) a b.size = b := by
 apply ba_ext
 rw [tx_list]
 symm
 refine tl_ext (ba_size b) fun i hi => ?_
 have := ov_in (A := A) (a := a) (b := b) (p := a + i) (by omega) (by omega)
 rw [show a + i - a = i by omega] at this
 exact this
theorem ov_same (h : tx B a b.size = b) (ho : ∀ p, (p < a ∨ a + b.size ≤ p) → B p = A p) : ov A a b = B := by
 funext p
 by_cases hp : a ≤ p ∧ p < a + b.size
 ·exact (tx_inj (h.trans tx_ov.symm) hp.1 hp.2).symm
 ·rw [ov_out (by omega), ho p (by omega)]
theorem ov_ov {x y : ByteArray} : ov (ov A a x) (a + x.size) y = ov A a (x ++ y) := by
 have hs : (x ++ y).size = x.size + y.size := ByteArray.size_append ..
 symm
 apply ov_same
 ·rw [hs, tx_app, tx_ov]
  congr 1
  rw [tx_congr (B := ov A a x) fun p h1 h2 => ov_out (by omega)]
  exact tx_ov
 ·intro p hp
  rw [ov_out (by omega), ov_out (by omega)]
theorem ov_line (h : a % 64 + b.size ≤ 64) : sext (tx A (64 * (a / 64)) 64) 0 ((a % 64 : Nat) : Int) ++ b ++ sext (tx A (64 * (a / 64)) 64) ((a % 64 + b.size : Nat) : Int) ((64 : Nat) : Int) = tx (ov A a b) (64 * (a / 64)) 64 := by
 have e0 := tx_cut (A := A) (a := 64 * (a / 64)) (n := 64) (m := 0) (k := a % 64) (by omega) (by omega)
 rw [show ((0 : Nat) : Int) = 0 from rfl, Nat.sub_zero, Nat.add_zero] at e0
 rw [e0, tx_cut (by omega) (by omega)]
 have e64 : 64 = a % 64 + b.size + (64 - (a % 64 + b.size)) := by omega
 have key : tx (ov A a b) (64 * (a / 64)) (a % 64 + b.size + (64 - (a % 64 + b.size))) = tx A (64 * (a / 64)) (a % 64) ++ b ++ tx A (64 * (a / 64) + (a % 64 + b.size)) (64 - (a % 64 + b.size)) := by
  rw [tx_app, tx_app, show 64 * (a / 64) + a % 64 = a by omega, tx_ov, tx_congr (B := A) (a := 64 * (a / 64)) fun p h1 h2 => ov_out (by omega), tx_congr (B := A) (a := 64 * (a / 64) + (a % 64 + b.size)) fun p h1 h2 => ov_out (by omega)]
 rw [← e64] at key
 exact key.symm
theorem ov_whole (h : a % 64 + b.size ≤ 64) : ov A (64 * (a / 64)) (tx (ov A a b) (64 * (a / 64)) 64) = ov A a b := by
 apply ov_same
 ·rw [tx_size]
 ·intro p hp
  rw [tx_size] at hp
  exact ov_out (by omega)
def W8 (A B C : Nat → UInt8) : Prop := ∀ w, (∀ i, i < 8 → C (8 * w + i) = A (8 * w + i)) ∨ ∀ i, i < 8 → C (8 * w + i) = B (8 * w + i)
theorem W8.left (A B : Nat → UInt8) : W8 A B A := fun w => .inl fun _ _ => rfl
theorem W8.right (A B : Nat → UInt8) : W8 A B B := fun w => .inr fun _ _ => rfl
theorem W8.part {x y : ByteArray} (h8 : (a + x.size) % 8 = 0) (w : W8 (ov A a x) (ov (ov A a x) (a + x.size) y) C) : W8 A (ov A a (x ++ y)) C := fun k => by
 rw [ov_ov] at w
 rcases w k with h | h
 ·by_cases hk : 8 * k < a + x.size
  ·right
   intro i hi
   rw [h i hi, ← ov_ov, ov_out (a := a + x.size) (by omega)]
  ·left
   intro i hi
   rw [h i hi, ov_out (by omega)]
 ·exact .inr h
theorem mix_chunk {x y : ByteArray} {k : Nat} (hx : x.size = 64) (hy : y.size = 64) (hk : k < 8) (h : wordAt x k = wordAt y k) : ∀ i, i < 8 → x.data.toList[8 * k + i]? = y.data.toList[8 * k + i]? := by
 have e : chunk x.data.toList k = chunk y.data.toList k := by rw [← put_word x hx k hk, ← put_word y hy k hk, h]
 intro i hi
 have := congrArg (fun l => l[i]?) e
 unfold chunk at this
 simp only [List.getElem?_take, if_pos hi, List.getElem?_drop] at this
 exact this
theorem W8.mix {L : Nat} {got : ByteArray} (ho : ∀ p, (p < 64 * L ∨ 64 * L + 64 ≤ p) → B p = A p) (m : mixP (tx A (64 * L) 64) (tx B (64 * L) 64) got) : W8 A B (ov A (64 * L) got) := by
 obtain ⟨h1, h2, h3, hw⟩ := m
 intro w
 by_cases hin : 64 * L ≤ 8 * w ∧ 8 * w < 64 * L + 64
 ·have at0 : ∀ (D : Nat → UInt8) i, i < 8 → (tx D (64 * L) 64).data.toList[8 * (w - 8 * L) + i]? = some (D (8 * w + i)) := fun D i hi => by
   rw [tx_list, tl_get (by omega), show 64 * L + (8 * (w - 8 * L) + i) = 8 * w + i by omega]
  have got0 : ∀ i, i < 8 → got.data.toList[8 * (w - 8 * L) + i]? = some (ov A (64 * L) got (8 * w + i)) := fun i hi => by
   have := ov_in (A := A) (a := 64 * L) (b := got) (p := 8 * w + i) (by omega) (by omega)
   rw [show 8 * w + i - 64 * L = 8 * (w - 8 * L) + i by omega] at this
   exact this
  rcases hw (w - 8 * L) (by omega) with h | h
  ·left
   intro i hi
   have e := mix_chunk h3 h1 (by omega) h i hi
   rw [at0 A i hi, got0 i hi] at e
   exact Option.some.inj e
  ·right
   intro i hi
   have e := mix_chunk h3 h2 (by omega) h i hi
   rw [at0 B i hi, got0 i hi] at e
   exact Option.some.inj e
 ·left
  intro i hi
  exact ov_out (by omega)
end
def Sp (q : HPl) (x : FS) (fm : Nat → Nat) (A : Nat → UInt8) : Prop := ∀ i k, i < q.g → k < 8 → hr q x fm i k = tx A (64 * (8 * i + k)) 64
section
variable {q : HPl} {x x' : FS} {fm fm' : Nat → Nat} {A : Nat → UInt8} {i k : Nat}
theorem Sp.line (w : Sp q x fm A) {B : ByteArray} (hB : B.size = 64) (hk : k < 8) (h : ∀ j m, j < q.g → m < 8 → hr q x' fm' j m = if j = i ∧ m = k then B else hr q x fm j m) : Sp q x' fm' (ov A (64 * (8 * i + k)) B) := fun j m hj hm => by
 rw [h j m hj hm]
 by_cases e : j = i ∧ m = k
 ·rw [if_pos e, e.1, e.2]
  have := tx_ov (A := A) (a := 64 * (8 * i + k)) (b := B)
  rw [hB] at this
  exact this.symm
 ·rw [if_neg e, w j m hj hm]
  exact tx_congr fun p h1 h2 => (ov_out (by rw [hB]; omega)).symm
theorem Sp.same (w : Sp q x fm A) (h : ∀ j m, j < q.g → m < 8 → hr q x' fm' j m = hr q x fm j m) : Sp q x' fm' A := fun j m hj hm => (h j m hj hm).trans (w j m hj hm)
end
end Go.Gb
namespace Go.Gb
open Go.Proofs IntWalk
structure Sq1 (h0 h : Heap) (F : Nat → Prop) (Gs : Nat → Nat → Prop) (bs rs : Nat → Nat) (hc : Heap) (d f pb tb hb fb sb : Nat) (q : HPl) (y : HS) (fr : List Nat) (A : Nat → UInt8) : Prop where
 w : Hq h0 h F Gs bs rs hc d f pb tb hb fb q y fr
 s : Blk h sb [.pointer (some ⟨pb, 0, none⟩)]
 nf : ¬ HF F Gs rs q.p.R pb tb hb fb sb
 iv : HY q y
 sp : Sp q y.x y.fm A
section
variable {F : Nat → Prop} {Gs : Nat → Nat → Prop} {bs rs : Nat → Nat} {hc h0 h h1 : Heap} {d f pb tb hb fb sb n : Nat} {q : HPl} {y : HS} {fr : List Nat} {A : Nat → UInt8} {Q : QT}
theorem Sq1.part (w : Sq1 h0 h F Gs bs rs hc d f pb tb hb fb sb q y fr A) (pt : Part h h1) : Sq1 h0 h1 F Gs bs rs hc d f pb tb hb fb sb q y fr A := ⟨w.w.part pt, w.s.keep (part_live pt w.s.ne), w.nf, w.iv, w.sp⟩
theorem Sq1.next {y' : HS} {fb' : Nat} {fr' : List Nat} {A' : Nat → UInt8} (w : Sq1 h0 h F Gs bs rs hc d f pb tb hb fb sb q y fr A) (w1 : HD F Gs bs rs hc h1 d f pb tb hb fb' q y' fr') (st : Step (HF F Gs rs q.p.R pb tb hb fb) h (HF F Gs rs q.p.R pb tb hb fb') h1) (iv : HY q y') (sp : Sp q y'.x y'.fm A') :
  Sq1 h0 h1 F Gs bs rs hc d f pb tb hb fb' sb q y' fr' A' :=
 ⟨w.w.next w1 st, w.s.keep (st.keep sb w.nf w.s.ne), fun hf => by
  rcases st.sub sb hf with h | h
  ·exact w.nf h
  ·exact w.s.ne h, iv, sp⟩
theorem K34.c {p : Nat} (hp : p < 1048576) (hq : Q (.tuple #[.int .i64 (p / 512 : Nat), .int .i64 (p % 512 / 64 : Nat)]) h) : CT 34 #[.int .i64 (p : Int)] h Q := by
 apply K34.ok
 unfold K34.wp
 rw [show irem (p : Int) 512 = ((p % 512 : Nat) : Int) from irem_nat p 512, iquo_i64 (by omega) (by omega) (by omega), iquo_i64 (by omega) (by omega) (by omega), show (p : Int) / 512 = ((p / 512 : Nat) : Int) by omega, show ((p % 512 : Nat) : Int) / 64 = ((p % 512 / 64 : Nat) : Int) by omega]
 exact hq
theorem K11.c (w : Sq1 h0 h F Gs bs rs hc d f pb tb hb fb sb q y fr A) (hq : Q (.int .i64 (512 * q.g : Nat)) h) : CT 11 #[.pointer (some ⟨sb, 0, none⟩)] h Q := by
 have g2 := w.iv.ok.H_le
 have f1 := w.iv.ok.f1
 apply K11.ok
 refine xsIf_f rfl ⟨sb, 0, rfl, _, w.s.cell 0, K32.c w.w.hd ⟨_, rfl, ?_⟩⟩
 rw [show IntKind.i64.wrap (((q.g : Nat) : Int) * 512) = ((512 * q.g : Nat) : Int) by rw [i64_in _ (by omega)]; omega]
 exact hq
def inS (q : HPl) (a n : Int) : Prop := 0 ≤ a ∧ 0 ≤ n ∧ a + n ≤ (512 * q.g : Nat)
instance (q : HPl) (a n : Int) : Decidable (inS q a n) := by unfold inS; infer_instance
theorem K29.c {a n : Int} (w : Sq1 h0 h F Gs bs rs hc d f pb tb hb fb sb q y fr A) (hn : n ≤ 9223372036854775807) (hq : Q (.int .i64 (if inS q a n then 0 else 3)) h) : CT 29 #[.pointer (some ⟨sb, 0, none⟩), .int .i64 a, .int .i64 n] h Q := by
 have g2 := w.iv.ok.H_le
 have f1 := w.iv.ok.f1
 apply K29.ok
 have no : ¬ inS q a n → Q (.int .i64 3) h := fun e => by rw [if_neg e] at hq; exact hq
 have S : ∀ {Q : QT}, Q (.int .i64 (512 * q.g : Nat)) h → CT 11 #[.pointer (some ⟨sb, 0, none⟩)] h Q := fun hq => K11.c w hq
 unfold inS at no
 refine xsIf_f rfl (xsIf_intro (fun e => no fun e2 => ?_) fun e => xsIf_intro (fun e2 => no fun e3 => ?_) fun e2 => S ⟨_, rfl, xsIf_intro (fun e3 => no fun e4 => ?_) fun e3 => S ⟨_, rfl, ?_⟩⟩)
 ·have := of_decide_eq_true e; omega
 ·have := of_decide_eq_true e2; omega
 ·have := of_decide_eq_true e3; omega
 ·have e := of_decide_eq_false e
  have e2 := of_decide_eq_false e2
  have e3 := of_decide_eq_false e3
  rw [i64_in _ (by omega)]
  refine xsIf_intro (fun e4 => no fun e5 => ?_) fun e4 => ?_
  ·have := of_decide_eq_true e4; omega
  ·have e4 := of_decide_eq_false e4
   rw [if_pos (show inS q a n by unfold inS; omega)] at hq
   exact hq
theorem K33.c {a : Int} (w : Sq1 h0 h F Gs bs rs hc d f pb tb hb fb sb q y fr A) (hq : Q (.int .i64 (if irem a 8 ≠ 0 then 2 else if inS q a 8 then 0 else 3)) h) : CT 33 #[.pointer (some ⟨sb, 0, none⟩), .int .i64 a] h Q := by
 apply K33.ok
 refine xsIf_t rfl (xsIf_intro (fun e => ?_) fun e => K29.c w (by omega) ⟨_, rfl, ?_⟩)
 ·rw [if_pos (of_decide_eq_true e)] at hq; exact hq
 ·rw [if_neg (of_decide_eq_false e)] at hq; exact hq
theorem K31.c {p : Nat} (w : Sq1 h0 h F Gs bs rs hc d f pb tb hb fb sb q y fr A) (hp : p < 512 * q.g) (hq : Q (.tuple #[.string (tx A (64 * (p / 64)) 64), .int .i64 0]) h) : CT 31 #[.pointer (some ⟨sb, 0, none⟩), .int .i64 (p : Int)] h Q := by
 have g2 := w.iv.ok.H_le
 have f1 := w.iv.ok.f1
 apply K31.ok
 refine K34.c (by omega) ⟨_, _, rfl, sb, 0, rfl, _, w.s.cell 0, ?_⟩
 have in1 : inH q ((p / 512 : Nat) : Int) ((p % 512 / 64 : Nat) : Int) := ⟨⟨by omega, by omega⟩, by omega, by omega⟩
 refine K60.c w.w.hd w.iv (fun _ => ⟨_, _, rfl, ?_⟩) fun hn => absurd in1 hn
 rw [Int.toNat_natCast, Int.toNat_natCast, w.sp _ _ (by omega) (by omega), show 64 * (8 * (p / 512) + p % 512 / 64) = 64 * (p / 64) by omega]
 exact hq
theorem K13.c (hq : ∀ b, h b = none → Q (.tuple #[.pointer (some ⟨b, 0, none⟩), .int .i64 0]) (upd h b (Obj.cells #[.pointer (some ⟨pb, 0, none⟩)] 73 (0, 0)))) : CT 13 #[.pointer (some ⟨pb, 0, none⟩)] h Q := by
 apply K13.ok
 exact xsIf_f rfl hq
structure SwOut (q : HPl) (A : Nat → UInt8) (a : Nat) (b : ByteArray) (I : PmS → Prop) (Ae : Int → Prop) (e : Int) (y : HS) : Prop where
 i : I y.x.s
 ae : Ae e
 o : (e = 0 ∧ HY q y ∧ Sp q y.x y.fm (ov A a b)) ∨ (e = 10 ∧ HY q y ∧ ∃ A', Sp q y.x y.fm A' ∧ ∀ p, (p < a ∨ a + b.size ≤ p) → A' p = A p) ∨
  (e = 6 ∧ ∀ ks, ∃ x' fm' mv' A', x'.s = pboot y.x.s ks ∧ HT q x' fm' mv' ∧ Sp q x' fm' A' ∧ W8 A (ov A a b) A')
theorem hline_out {I : PmS → Prop} {Ae : Int → Prop} (c : Cls q.p I Ae) (iv : HY q y) (sp : Sp q y.x y.fm A) (hI : I y.x.s) {p : Nat} (hp : p < 512 * q.g) {b : ByteArray} (hb : p % 64 + b.size ≤ 64) :
  SwOut q A p b I Ae (hWrite q y ((p / 512 : Nat) : Int) ((p % 512 / 64 : Nat) : Int) (tx (ov A p b) (64 * (p / 64)) 64)).1 (hWrite q y ((p / 512 : Nat) : Int) ((p % 512 / 64 : Nat) : Int) (tx (ov A p b) (64 * (p / 64)) 64)).2 := by
 have hB : (tx (ov A p b) (64 * (p / 64)) 64).size = 64 := tx_size
 have hi : p / 512 < q.g := by omega
 have hk : p % 512 / 64 < 8 := by omega
 rw [hWrite_eq hB hi hk]
 have cl := hwrite_cls (q := q) c (F := fun x l => fWrite q.p x (l : Int) (tx (ov A p b) (64 * (p / 64)) 64)) (fun x l fi nb hl => c.line x l _ fi nb hl hB) iv hI hi hk
 have o := hwrite_out (q := q) (FlF.line q hB) iv hi hk (mixP_self (by show (Gb.fr _ _ _).size = 64; exact fr_size _ _ _) hB)
 have eL : 64 * (8 * (p / 512) + p % 512 / 64) = 64 * (p / 64) := by omega
 have eov := ov_whole (A := A) hb
 rw [sp _ _ hi hk, eL] at o
 refine ⟨cl.1, cl.2, ?_⟩
 rcases o.2 with ⟨e, w1, m⟩ | ⟨e, w1, m⟩ | ⟨e, _, _, m⟩
 ·have := sp.line hB hk m
  rw [eL, eov] at this
  exact .inl ⟨e, w1, this⟩
 ·exact .inr (.inl ⟨e, w1, A, sp.same m, fun _ _ => rfl⟩)
 ·refine .inr (.inr ⟨e, fun ks => ?_⟩)
  obtain ⟨x', fm', mv', e3, _, w3, m3, y3⟩ := m ks
  have hG : (hr q x' fm' (p / 512) (p % 512 / 64)).size = 64 := fr_size _ _ _
  refine ⟨x', fm', mv', ov A (64 * (p / 64)) (hr q x' fm' (p / 512) (p % 512 / 64)), e3, w3, ?_, W8.mix (fun r hr => ov_out (by omega)) y3⟩
  rw [← eL]
  refine sp.line hG hk fun j r hj hr => ?_
  by_cases ej : j = p / 512 ∧ r = p % 512 / 64
  ·rw [if_pos ej, ej.1, ej.2]
  ·rw [if_neg ej]; exact m3 j r hj hr ej
theorem K30.c {I : PmS → Prop} {Ae : Int → Prop} (c : Cls q.p I Ae) (w : Sq1 h0 h F Gs bs rs hc d f pb tb hb fb sb q y fr A) (hI : I y.x.s) {p : Nat} (hp : p < 512 * q.g) {b : ByteArray} (hbs : p % 64 + b.size ≤ 64)
  (hq : ∀ fb' fr' h' e y', HD F Gs bs rs hc h' d f pb tb hb fb' q y' fr' → Step (HF F Gs rs q.p.R pb tb hb fb) h (HF F Gs rs q.p.R pb tb hb fb') h' → SwOut q A p b I Ae e y' → Q (.int .i64 e) h') :
  CT 30 #[.pointer (some ⟨sb, 0, none⟩), .int .i64 (p : Int), .string b] h Q := by
 have g2 := w.iv.ok.H_le
 have f1 := w.iv.ok.f1
 apply K30.ok
 have J : K30.J7 (some ⟨sb, 0, none⟩) (p : Int) (tx (ov A p b) (64 * (p / 64)) 64) h Q := by
  apply K30.J7.ok
  refine K34.c (by omega) ⟨_, _, rfl, sb, 0, rfl, _, w.s.cell 0, K59.c w.w.hd w.iv fun fb' fr' h' w' st => ⟨_, rfl, ?_⟩⟩
  exact hq fb' fr' h' _ _ w' st (hline_out c w.iv w.sp hI hp hbs)
 refine xsIf_intro (fun e => K31.c w hp ⟨_, _, rfl, xsIf_f rfl ?_⟩) fun e => ?_
 ·have e1 : irem (p : Int) 64 = ((p % 64 : Nat) : Int) := irem_nat p 64
  have e2 : IntKind.i64.wrap (((p % 64 : Nat) : Int) + (b.size : Int)) = ((p % 64 + b.size : Nat) : Int) := by rw [i64_in _ (by omega)]; omega
  have ht : (tx A (64 * (p / 64)) 64).size = 64 := tx_size
  rw [e1, e2, ht]
  have key := ov_line (A := A) hbs
  have hs : ∀ x y : Int, (sext (tx A (64 * (p / 64)) 64) x y).size ≤ 64 := fun x y => by unfold sext; rw [ByteArray.size_extract, ht]; omega
  have h1 := hs 0 ((p % 64 : Nat) : Int)
  have h2 := hs ((p % 64 + b.size : Nat) : Int) ((64 : Nat) : Int)
  refine ⟨by omega, by omega, by omega, ?_, ?_⟩
  ·rw [ByteArray.size_append]; omega
  ·rw [key]; exact J
 ·have e := of_decide_eq_false e
  have hs : b.size = 64 := by omega
  have hp0 : p % 64 = 0 := by omega
  have : tx (ov A p b) (64 * (p / 64)) 64 = b := by
   have := tx_ov (A := A) (a := p) (b := b)
   rw [hs] at this
   rw [show 64 * (p / 64) = p by omega]; exact this
  rw [this] at J
  exact J
theorem SwOut.zero {I : PmS → Prop} {Ae : Int → Prop} (c : Cls q.p I Ae) {a : Nat} {b : ByteArray} (hb : b.size = 0) (iv : HY q y) (sp : Sp q y.x y.fm A) (hI : I y.x.s) : SwOut q A a b I Ae 0 y := by
 refine ⟨hI, c.z, .inl ⟨rfl, iv, ?_⟩⟩
 have : ov A a b = A := by funext p; exact ov_out (by omega)
 rw [this]; exact sp
theorem K9.L4.c {I : PmS → Prop} {Ae : Int → Prop} (c : Cls q.p I Ae) : ∀ (j : Nat) (h : Heap) (fb : Nat) (fr : List Nat) (y : HS) (A : Nat → UInt8) (p : Nat) (b : ByteArray), b.size ≤ j → p + b.size ≤ 512 * q.g → Sq1 h0 h F Gs bs rs hc d f pb tb hb fb sb q y fr A → I y.x.s →
  (∀ fb' fr' h' e y', HD F Gs bs rs hc h' d f pb tb hb fb' q y' fr' → Step (HF F Gs rs q.p.R pb tb hb fb) h (HF F Gs rs q.p.R pb tb hb fb') h' → SwOut q A p b I Ae e y' → Q (.int .i64 e) h') →
  K9.L4 (some ⟨sb, 0, none⟩) (p : Int) b h Q := by
 intro j
 induction j with
 | zero =>
  intro h fb fr y A p b hj hp w hI hq
  apply K9.L4.ok
  exact xsIf_f (decide_eq_false (by omega)) (hq fb fr h 0 y w.w.hd (Step.refl _ _) (SwOut.zero c (by omega) w.iv w.sp hI))
 | succ j ih =>
  intro h fb fr y A p b hj hp w hI hq
  have g2 := w.iv.ok.H_le
  have f1 := w.iv.ok.f1
  apply K9.L4.ok
  by_cases hb : b.size = 0
  ·exact xsIf_f (decide_eq_false (by omega)) (hq fb fr h 0 y w.w.hd (Step.refl _ _) (SwOut.zero c hb w.iv w.sp hI))
  ·have e1 : irem (p : Int) 64 = ((p % 64 : Nat) : Int) := irem_nat p 64
   have ek : imin (b.size : Int) (IntKind.i64.wrap (64 - ((p % 64 : Nat) : Int))) = ((min b.size (64 - p % 64) : Nat) : Int) := by rw [i64_in _ (by omega), imin_eq]; omega
   unfold K9.L4.wp
   rw [e1, ek]
   generalize hk : min b.size (64 - p % 64) = k
   have k1 : 1 ≤ k := by omega
   have k2 : k ≤ b.size := by omega
   have k3 : p % 64 + k ≤ 64 := by omega
   have el1 : (sext b 0 (k : Int)).data.toList = b.data.toList.take k := by
    have := sext_cut b 0 k
    rw [List.drop_zero, Nat.sub_zero] at this
    exact this
   have s1 : (sext b 0 (k : Int)).size = k := by rw [← ba_size, el1, List.length_take, ba_size]; omega
   have el2 : (sext b (k : Int) (b.size : Int)).data.toList = b.data.toList.drop k := by rw [sext_cut, List.take_of_length_le]; rw [List.length_drop, ba_size]; omega
   have s2 : (sext b (k : Int) (b.size : Int)).size = b.size - k := by rw [← ba_size, el2, List.length_drop, ba_size]
   have eb : sext b 0 (k : Int) ++ sext b (k : Int) (b.size : Int) = b := ba_ext (by rw [ba_app, el1, el2, List.take_append_drop])
   have ep : IntKind.i64.wrap ((p : Int) + (k : Int)) = ((p + k : Nat) : Int) := by rw [i64_in _ (by omega)]; omega
   rw [ep]
   generalize sext b 0 (k : Int) = b1 at s1 eb ⊢
   generalize sext b (k : Int) (b.size : Int) = b2 at s2 eb ⊢
   refine xsIf_t (decide_eq_true (by omega)) ⟨by omega, K30.c c w hI (by omega) (b := b1) (by omega) fun fb' fr' h' e y' w' st o => ⟨_, rfl, xsIf_intro (fun e0 => ?_) fun e0 => ⟨by omega, ?_⟩⟩⟩
   ·have e0 := of_decide_eq_true e0
    refine hq fb' fr' h' e y' w' st ⟨o.i, o.ae, ?_⟩
    rcases o.o with o' | ⟨e10, iv', A', sp', m⟩ | ⟨e6, m⟩
    ·exact absurd o'.1 e0
    ·exact .inr (.inl ⟨e10, iv', A', sp', fun r hr => m r (by omega)⟩)
    ·refine .inr (.inr ⟨e6, fun ks => ?_⟩)
     obtain ⟨x', fm', mv', A', e3, w3, sp3, w8⟩ := m ks
     refine ⟨x', fm', mv', A', e3, w3, sp3, ?_⟩
     by_cases h2 : b2.size = 0
     ·have : b1 = b := by rw [← eb]; exact (ba_ext (by rw [ba_app, List.eq_nil_of_length_eq_zero (l := b2.data.toList) (by rw [ba_size]; exact h2), List.append_nil])).symm
      rw [← this]; exact w8
     ·have h8 : (p + b1.size) % 8 = 0 := by omega
      intro r
      rcases w8 r with hh | hh
      ·exact .inl hh
      ·by_cases hr : 8 * r < p + b1.size
       ·right
        intro i hi
        rw [hh i hi, ← eb, ← ov_ov, ov_out (a := p + b1.size) (by omega)]
       ·left
        intro i hi
        rw [hh i hi, ov_out (by omega)]
   ·have e0 : e = 0 := Classical.byContradiction fun h => of_decide_eq_false e0 h
    rcases o.o with ⟨_, iv', sp'⟩ | o' | o'
    ·refine ih h' fb' fr' y' _ (p + k) b2 (by omega) (by omega) (w.next w' st iv' sp') o.i fun fb2 fr2 h2 e2 y2 w2 st2 o2 => hq fb2 fr2 h2 e2 y2 w2 (st.trans st2) ⟨o2.i, o2.ae, ?_⟩
     rw [← s1] at o2
     have eo : ov (ov A p b1) (p + b1.size) b2 = ov A p b := by rw [ov_ov, eb]
     rcases o2.o with ⟨e10, iv2, sp2⟩ | ⟨e10, iv2, A2, sp2, m⟩ | ⟨e6, m⟩
     ·rw [eo] at sp2
      exact .inl ⟨e10, iv2, sp2⟩
     ·refine .inr (.inl ⟨e10, iv2, A2, sp2, fun r hr => ?_⟩)
      rw [m r (by omega), ov_out (by omega)]
     ·refine .inr (.inr ⟨e6, fun ks => ?_⟩)
      obtain ⟨x', fm', mv', A', e3, w3, sp3, w8⟩ := m ks
      refine ⟨x', fm', mv', A', e3, w3, sp3, ?_⟩
      by_cases h2 : b2.size = 0
      ·have e2' : ov (ov A p b1) (p + b1.size) b2 = ov A p b1 := by funext r; exact ov_out (by omega)
       rw [e2'] at w8
       rw [← eo, e2']
       exact fun r => .inr (by rcases w8 r with h | h <;> exact h)
      ·have := W8.part (A := A) (a := p) (x := b1) (y := b2) (by omega) w8
       rw [eb] at this
       exact this
    ·rw [e0] at o'; exact absurd o'.1 (by decide)
    ·rw [e0] at o'; exact absurd o'.1 (by decide)
theorem K9.c {I : PmS → Prop} {Ae : Int → Prop} (c : Cls q.p I Ae) {a : Int} {b : ByteArray} (hbs : b.size ≤ 140737488351232) (w : Sq1 h0 h F Gs bs rs hc d f pb tb hb fb sb q y fr A) (hI : I y.x.s) (hno : ¬ inS q a b.size → Q (.int .i64 3) h)
  (hq : inS q a b.size → ∀ fb' fr' h' e y', HD F Gs bs rs hc h' d f pb tb hb fb' q y' fr' → Step (HF F Gs rs q.p.R pb tb hb fb) h (HF F Gs rs q.p.R pb tb hb fb') h' → SwOut q A a.toNat b I Ae e y' → Q (.int .i64 e) h') :
  CT 9 #[.pointer (some ⟨sb, 0, none⟩), .int .i64 a, .string b] h Q := by
 apply K9.ok
 refine K29.c w (by omega) ⟨_, rfl, ?_⟩
 by_cases h : inS q a b.size
 ·rw [if_pos h]
  have h' := h
  unfold inS at h'
  refine xsIf_f rfl ?_
  have := K9.L4.c c b.size _ fb fr y A a.toNat b (Nat.le_refl _) (by omega) w hI (hq h)
  rw [Int.toNat_of_nonneg h'.1] at this
  exact this
 ·rw [if_neg h]
  exact xsIf_t rfl (hno h)
end
end Go.Gb
namespace Go.Gb
open Go.Proofs IntWalk
theorem one_bytes (l : List UInt8) : oneCells (byteVals l) = true := by
 induction l with
 | nil => rfl
 | cons b r ih => exact ih
theorem Own.appendS {P : Program} {h0 h : Heap} {T : TypeId} {n c : Nat} {a : Option Addr} {bs : List UInt8} {s : ByteArray} {K : Option Addr → Nat → Nat → Heap → Prop}
  (w : Own h0 h T 1 a n c (byteVals bs)) (hsz : cellSize P T = 1) (hz : (cellZero P T).length = 1) (hcap : (2 * (n + s.size) + 192) * cellBytes P T ≤ 2 ^ 48)
  (hk : ∀ a' c' h', Own h0 h' T 1 a' (n + s.size) c' (byteVals (bs ++ s.data.toList)) → K a' (n + s.size) c' h') : xsAppS P T h a n c s K := by
 have hlen : (byteVals s.data.toList).length = s.size := by unfold byteVals; rw [List.length_map, ba_size]
 have hone : oneCells (byteVals s.data.toList) = true := one_bytes _
 have happ : byteVals (bs ++ s.data.toList) = byteVals bs ++ byteVals s.data.toList := by unfold byteVals; rw [List.map_append]
 have wl := w.len
 rw [Nat.mul_one] at wl
 rw [happ] at hk
 refine ⟨byteVals s.data.toList, rfl, by rw [hsz, hlen, Nat.mul_one], hone, ?_, ?_⟩
 ·intro hc
  rw [hsz]
  rcases w.place with ⟨rfl, rfl, rfl⟩ | ⟨b, cs, rfl, h1, h2, h3, h4, h5⟩
  ·left
   have hm : s.size = 0 := by omega
   have hn : byteVals s.data.toList = [] := List.eq_nil_of_length_eq_zero (by omega)
   refine ⟨rfl, hm, hk _ _ _ ?_⟩
   rw [hn, List.append_nil, hm]
   exact w
  ·right
   refine ⟨b, 0, rfl, ⟨cs, T, 0, 0, h2, by omega, .inr (Nat.zero_le _)⟩, hk _ _ _ ⟨w.part.put h1 _ _, by rw [List.length_append, wl, hlen, Nat.mul_one], .inr ⟨b, _, rfl, h1, by simp [Heap.put, h2, putObj]; rfl, ?_, hc, ?_⟩⟩⟩
   ·simp [setL_length, h3]
   ·rw [← h5]
    simp only [Nat.mul_one]
    have := setL_append (byteVals s.data.toList) cs.toList (0 + n) (by simp; omega)
    rw [Nat.zero_add, hlen] at this
    simpa using this
 ·intro hc
  rw [hsz]
  refine ⟨?_, byteVals bs, w.len, w.reads, ?_⟩
  ·exact Nat.le_trans (Nat.mul_le_mul_right _ (nextcap_le hc)) hcap
  ·intro b c' hb hc'
   refine hk _ _ _ ⟨w.part.upd' (w.part.none hb) _, by rw [List.length_append, wl, hlen, Nat.mul_one], .inr ⟨b, _, rfl, w.part.none hb, upd_same _ _ _, ?_, hc', ?_⟩⟩
   ·have hzl : (zeros P T (c' - (n + s.size))).length = c' - (n + s.size) := by
     unfold zeros; simp [hz]
    simp only [List.size_toArray, List.length_append, wl, hlen, hzl]
    omega
   ·have hl2 : (byteVals bs ++ byteVals s.data.toList).length = (n + s.size) * 1 := by rw [List.length_append, wl, hlen, Nat.mul_one]
    rw [← hl2]
    simp only [List.take_append_of_le_length (Nat.le_refl _), List.take_length]
section
variable {F : Nat → Prop} {Gs : Nat → Nat → Prop} {bs rs : Nat → Nat} {hc h0 h h1 : Heap} {d f pb tb hb fb sb n : Nat} {q : HPl} {y : HS} {fr : List Nat} {A : Nat → UInt8} {Q : QT}
theorem K10.L5.c (w : Sq1 h0 h F Gs bs rs hc d f pb tb hb fb sb q y fr A) : ∀ (j : Nat) (h1 : Heap) (out : Option Addr) (oc : Nat) (l : List UInt8) (p n : Nat), n ≤ j → p + n ≤ 512 * q.g → l.length ≤ p → Own h h1 5 1 out l.length oc (byteVals l) →
  (∀ h', Part h h' → Q (.tuple #[.string ⟨(l ++ tl A p n).toArray⟩, .int .i64 0]) h') → K10.L5 (some ⟨sb, 0, none⟩) (p : Int) (n : Int) out l.length oc h1 Q := by
 intro j
 induction j with
 | zero =>
  intro h1 out oc l p n hn hp hl o hq
  have : n = 0 := by omega
  subst this
  apply K10.L5.ok
  refine xsIf_f (decide_eq_false (by omega)) (o.str ?_)
  have := hq h1 o.part
  rw [show tl A p 0 = [] from rfl, List.append_nil] at this
  exact this
 | succ j ih =>
  intro h1 out oc l p n hn hp hl o hq
  have g2 := w.iv.ok.H_le
  have f1 := w.iv.ok.f1
  apply K10.L5.ok
  by_cases h0 : n = 0
  ·subst h0
   refine xsIf_f (decide_eq_false (by omega)) (o.str ?_)
   have := hq h1 o.part
   rw [show tl A p 0 = [] from rfl, List.append_nil] at this
   exact this
  ·unfold K10.L5.wp
   rw [show irem (p : Int) 64 = ((p % 64 : Nat) : Int) from irem_nat p 64]
   have ek : imin (n : Int) (IntKind.i64.wrap (64 - ((p % 64 : Nat) : Int))) = ((min n (64 - p % 64) : Nat) : Int) := by rw [i64_in _ (by omega), imin_eq]; omega
   rw [ek]
   generalize hk : min n (64 - p % 64) = k
   have k1 : 1 ≤ k := by omega
   have k2 : k ≤ n := by omega
   have k3 : p % 64 + k ≤ 64 := by omega
   rw [show IntKind.i64.wrap (((p % 64 : Nat) : Int) + (k : Int)) = ((p % 64 + k : Nat) : Int) by rw [i64_in _ (by omega)]; omega]
   have ht : (tx A (64 * (p / 64)) 64).size = 64 := tx_size
   have w1 := w.part o.part
   refine xsIf_t (decide_eq_true (by omega)) (K31.c w1 (by omega) ⟨_, _, rfl, xsIf_f rfl ⟨by rw [ht]; omega, by omega, ?_⟩⟩)
   rw [tx_cut (by omega) (by omega), show 64 * (p / 64) + p % 64 = p by omega, show p % 64 + k - p % 64 = k by omega]
   have hs : (tx A p k).size = k := tx_size
   refine o.appendS (by kernel_rfl) (by kernel_rfl) (by rw [hs, show cellBytes Tryz.prog 5 = 1 by kernel_rfl]; omega) fun a' c' h' o' => ?_
   rw [tx_list, hs] at o'
   rw [hs, show IntKind.i64.wrap ((p : Int) + (k : Int)) = ((p + k : Nat) : Int) by rw [i64_in _ (by omega)]; omega, show IntKind.i64.wrap ((n : Int) - (k : Int)) = ((n - k : Nat) : Int) by rw [i64_in _ (by omega)]; omega]
   have el : (l ++ tl A p k).length = l.length + k := by rw [List.length_append, tl_len]
   have := ih h' a' c' (l ++ tl A p k) (p + k) (n - k) (by omega) (by omega) (by omega) (by rw [el]; exact o') (fun h2 p2 => by
    have := hq h2 p2
    rw [List.append_assoc, ← tl_add, show k + (n - k) = n by omega]
    exact this)
   rw [el] at this
   exact this
theorem K10.c {a n : Int} (w : Sq1 h0 h F Gs bs rs hc d f pb tb hb fb sb q y fr A) (hn : n ≤ 9223372036854775807) (hy : inS q a n → ∀ h', Part h h' → Q (.tuple #[.string (tx A a.toNat n.toNat), .int .i64 0]) h') (hno : ¬ inS q a n → Q (.tuple #[.string ⟨#[]⟩, .int .i64 3]) h) :
  CT 10 #[.pointer (some ⟨sb, 0, none⟩), .int .i64 a, .int .i64 n] h Q := by
 apply K10.ok
 refine K29.c w hn ⟨_, rfl, ?_⟩
 by_cases hin : inS q a n
 ·rw [if_pos hin]
  have hin' := hin
  unfold inS at hin'
  refine xsIf_f rfl ?_
  have := K10.L5.c (Q := Q) w n.toNat h none 0 [] a.toNat n.toNat (Nat.le_refl _) (by omega) (Nat.zero_le _) (Own.nil (Part.refl h)) (fun h' p => by
   rw [List.nil_append]; exact hy hin h' p)
  rw [Int.toNat_of_nonneg hin'.1, Int.toNat_of_nonneg hin'.2.1] at this
  exact this
 ·rw [if_neg hin]
  exact xsIf_t rfl (hno hin)
end
end Go.Gb
namespace Go.Gb
open Go.Proofs IntWalk
def wA (A : Nat → UInt8) (a : Nat) : Nat := getL (tl A a 8)
theorem wA_line {A : Nat → UInt8} {L i : Nat} (hi : i < 8) : wordAt (tx A (64 * L) 64) i = wA A (64 * L + 8 * i) := by
 unfold wordAt wA chunk
 rw [tx_list, tl_drop (by omega), tl_take (by omega)]
def wB (v : Nat) : ByteArray := ⟨(putL v 8).toArray⟩
theorem wB_size (v : Nat) : (wB v).size = 8 := by rw [← ba_size]; unfold wB; simp [putL_length]
set_option maxRecDepth 100000 in
theorem zero64_tx (a : Nat) : zero64 = tx (fun _ => 0) a 64 := by
 apply ba_ext
 rw [tx_list]
 unfold tl
 rw [List.map_const', List.length_range]
 rfl
section
variable {F : Nat → Prop} {Gs : Nat → Nat → Prop} {bs rs : Nat → Nat} {hc h0 h h1 : Heap} {d f pb tb hb fb sb n : Nat} {q : HPl} {y : HS} {fr : List Nat} {A : Nat → UInt8} {Q : QT}
def inW (q : HPl) (a : Int) : Prop := irem a 8 = 0 ∧ inS q a 8
theorem K12.c {a : Int} (w : Sq1 h0 h F Gs bs rs hc d f pb tb hb fb sb q y fr A) (hy : inW q a → Q (.tuple #[.int .u64 (wA A a.toNat : Nat), .int .i64 0]) h) (hn : ¬ inW q a → Q (.tuple #[.int .u64 0, .int .i64 (if irem a 8 ≠ 0 then 2 else 3)]) h) :
  CT 12 #[.pointer (some ⟨sb, 0, none⟩), .int .i64 a] h Q := by
 have g2 := w.iv.ok.H_le
 have f1 := w.iv.ok.f1
 apply K12.ok
 refine K33.c w ⟨_, rfl, ?_⟩
 unfold inW at hy hn
 by_cases e8 : irem a 8 = 0
 ·rw [if_neg (fun h => h e8)] at hn ⊢
  by_cases hin : inS q a 8
  ·rw [if_pos hin]
   have hin' := hin
   unfold inS at hin'
   obtain ⟨p, rfl⟩ : ∃ p : Nat, a = p := ⟨a.toNat, by omega⟩
   have e8' : p % 8 = 0 := by
    have := irem_nat p 8
    rw [show irem (p : Int) 8 = ((p % 8 : Nat) : Int) from this] at e8
    omega
   have ht : (tx A (64 * (p / 64)) 64).size = 64 := tx_size
   refine xsIf_f rfl (K31.c w (by omega) ⟨_, _, rfl, xsIf_f rfl ?_⟩)
   rw [show irem (p : Int) 64 = ((p % 64 : Nat) : Int) from irem_nat p 64]
   refine ⟨by rw [ht]; omega, K18.c (Nat.le_trans sext_size (by rw [ht]; omega)) ⟨_, rfl, ?_⟩⟩
   have hy := hy ⟨e8, hin⟩
   rw [show p % 64 = 8 * (p % 64 / 8) by omega, get8_sext ht, wA_line (by omega), show 64 * (p / 64) + 8 * (p % 64 / 8) = p by omega]
   rw [Int.toNat_natCast] at hy
   exact hy
  ·rw [if_neg hin]
   exact xsIf_t rfl (hn fun h => hin h.2)
 ·rw [if_pos e8] at hn ⊢
  exact xsIf_t rfl (hn fun h => e8 h.1)
structure WwOut (q : HPl) (A : Nat → UInt8) (a : Nat) (b : ByteArray) (I : PmS → Prop) (Ae : Int → Prop) (e : Int) (y : HS) : Prop where
 i : I y.x.s
 ae : Ae e
 o : (e = 0 ∧ HY q y ∧ Sp q y.x y.fm (ov A a b)) ∨ (e = 10 ∧ HY q y ∧ Sp q y.x y.fm A) ∨
  (e = 6 ∧ ∀ ks, ∃ x' fm' mv' A', x'.s = pboot y.x.s ks ∧ HT q x' fm' mv' ∧ Sp q x' fm' A' ∧ (A' = A ∨ A' = ov A a b))
theorem hword_out {I : PmS → Prop} {Ae : Int → Prop} (c : Cls q.p I Ae) (iv : HY q y) (sp : Sp q y.x y.fm A) (hI : I y.x.s) {p v : Nat} (hp : p < 512 * q.g) (h8 : p % 8 = 0) (hv : v < 18446744073709551616) :
  WwOut q A p (wB v) I Ae (hWriteWord q y ((p / 512 : Nat) : Int) ((p % 512 / 64 : Nat) : Int) ((p % 64 / 8 : Nat) : Int) v).1 (hWriteWord q y ((p / 512 : Nat) : Int) ((p % 512 / 64 : Nat) : Int) ((p % 64 / 8 : Nat) : Int) v).2 := by
 have hi : p / 512 < q.g := by omega
 have hk : p % 512 / 64 < 8 := by omega
 have hj : p % 64 / 8 < 8 := by omega
 have e0 : hWriteWord q y ((p / 512 : Nat) : Int) ((p % 512 / 64 : Nat) : Int) ((p % 64 / 8 : Nat) : Int) v = hwrite q (fun x l => fWriteWord q.p x (l : Int) ((p % 64 / 8 : Nat) : Int) v) y (p / 512) (p % 512 / 64) := by
  have hin : inH q ((p / 512 : Nat) : Int) ((p % 512 / 64 : Nat) : Int) := ⟨⟨by omega, by omega⟩, by omega, by omega⟩
  unfold hWriteWord
  rw [if_pos (by omega), if_pos hin, Int.toNat_natCast, Int.toNat_natCast, Int.toNat_natCast]
 rw [e0]
 have cl := hwrite_cls (q := q) c (F := fun x l => fWriteWord q.p x (l : Int) ((p % 64 / 8 : Nat) : Int) v) (fun x l fi nb hl => c.word x l _ _ fi nb hl hj hv) iv hI hi hk
 have o := hwrite_out (q := q) (FlF.word q hj hv) iv hi hk (.inl rfl)
 have eL : 64 * (8 * (p / 512) + p % 512 / 64) = 64 * (p / 64) := by omega
 have hbs : p % 64 + (wB v).size ≤ 64 := by rw [wB_size]; omega
 have eov := ov_whole (A := A) hbs
 have ew : withW (tx A (64 * (p / 64)) 64) (p % 64 / 8) v = tx (ov A p (wB v)) (64 * (p / 64)) 64 := by
  have ht : (tx A (64 * (p / 64)) 64).size = 64 := tx_size
  have h1 := with_text ht hj hv
  have h2 := ov_line (A := A) hbs
  rw [wB_size] at h2
  rw [ht, show 8 * (p % 64 / 8) = p % 64 by omega, show 8 * (p % 64 / 8 + 1) = p % 64 + 8 by omega] at h1
  exact h1.symm.trans h2
 have hB : (tx (ov A p (wB v)) (64 * (p / 64)) 64).size = 64 := tx_size
 rw [sp _ _ hi hk, eL, ew] at o
 refine ⟨cl.1, cl.2, ?_⟩
 rcases o.2 with ⟨e, w1, m⟩ | ⟨e, w1, m⟩ | ⟨e, _, _, m⟩
 ·have := sp.line hB hk m
  rw [eL, eov] at this
  exact .inl ⟨e, w1, this⟩
 ·exact .inr (.inl ⟨e, w1, sp.same m⟩)
 ·refine .inr (.inr ⟨e, fun ks => ?_⟩)
  obtain ⟨x', fm', mv', e3, _, w3, m3, y3⟩ := m ks
  rcases y3 with y3 | y3
  ·refine ⟨x', fm', mv', A, e3, w3, sp.same fun j r hj hr => ?_, .inl rfl⟩
   by_cases ej : j = p / 512 ∧ r = p % 512 / 64
   ·rw [ej.1, ej.2, y3, sp _ _ hi hk, eL]
   ·exact m3 j r hj hr ej
  ·refine ⟨x', fm', mv', ov A p (wB v), e3, w3, ?_, .inr rfl⟩
   have := sp.line (x' := x') (fm' := fm') hB hk (k := p % 512 / 64) (i := p / 512) fun j r hj hr => by
    by_cases ej : j = p / 512 ∧ r = p % 512 / 64
    ·rw [if_pos ej, ej.1, ej.2]; exact y3
    ·rw [if_neg ej]; exact m3 j r hj hr ej
   rw [eL, eov] at this
   exact this
theorem K14.c {I : PmS → Prop} {Ae : Int → Prop} (c : Cls q.p I Ae) {a : Int} {v : Nat} (hv : v < 18446744073709551616) (w : Sq1 h0 h F Gs bs rs hc d f pb tb hb fb sb q y fr A) (hI : I y.x.s) (hn : ¬ inW q a → Q (.int .i64 (if irem a 8 ≠ 0 then 2 else 3)) h)
  (hq : inW q a → ∀ fb' fr' h' e y', HD F Gs bs rs hc h' d f pb tb hb fb' q y' fr' → Step (HF F Gs rs q.p.R pb tb hb fb) h (HF F Gs rs q.p.R pb tb hb fb') h' → WwOut q A a.toNat (wB v) I Ae e y' → Q (.int .i64 e) h') :
  CT 14 #[.pointer (some ⟨sb, 0, none⟩), .int .i64 a, .int .u64 (v : Nat)] h Q := by
 have g2 := w.iv.ok.H_le
 have f1 := w.iv.ok.f1
 apply K14.ok
 refine K33.c w ⟨_, rfl, ?_⟩
 by_cases e8 : irem a 8 = 0
 ·rw [if_neg (fun h => h e8)] at hn ⊢
  by_cases hin : inS q a 8
  ·rw [if_pos hin]
   have hq := hq ⟨e8, hin⟩
   have hin' := hin
   unfold inS at hin'
   obtain ⟨p, rfl⟩ : ∃ p : Nat, a = p := ⟨a.toNat, by omega⟩
   have e8' : p % 8 = 0 := by
    have := irem_nat p 8
    rw [show irem (p : Int) 8 = ((p % 8 : Nat) : Int) from this] at e8
    omega
   refine xsIf_f rfl (K34.c (by omega) ⟨_, _, rfl, sb, 0, rfl, _, w.s.cell 0, ?_⟩)
   rw [show irem (p : Int) 64 = ((p % 64 : Nat) : Int) from irem_nat p 64, iquo_i64 (by omega) (by omega) (by omega), show ((p % 64 : Nat) : Int) / 8 = ((p % 64 / 8 : Nat) : Int) by omega]
   refine K35.c hv w.w.hd w.iv fun fb' fr' h' w' st => ⟨_, rfl, ?_⟩
   rw [Int.toNat_natCast] at hq
   exact hq fb' fr' h' _ _ w' st (hword_out c w.iv w.sp hI (by omega) e8' hv)
  ·rw [if_neg hin]
   exact xsIf_t rfl (hn fun h => hin h.2)
 ·rw [if_pos e8] at hn ⊢
  exact xsIf_t rfl (hn fun h => e8 h.1)
def sq (key : Nat) : HPl := ⟨⟨2, 24, 3, 2, key⟩, 3, 1, 3⟩
theorem sqOk {key : Nat} (hk : key < 18446744073709551616) : (sq key).ok 61 :=
 ⟨by show 3 = cntG (2 * 24 / 8 - 2) (2 * 24 / 8 - 2); decide, by show 1 = (3 + 63) / 64; decide, ⟨by show 1 ≤ 2; omega, by show 2 ≤ 16; omega, by show 1 ≤ 24; omega, by show 24 ≤ 1024; omega, by show 3 ≤ 64; omega, by show 1 ≤ 2; omega, by show 2 ≤ 65535; omega, hk, by show 1 + 2 * ((3 + 7) / 8 + (24 + 2) + 3) ≤ 61; decide, by decide⟩, by show 24 % 8 = 0; decide, by show 1 ≤ 3; omega, by show 3 ≤ 64 * 1; omega, by show 1 ≤ 3; omega, by show 3 + 1 + 2 ≤ 2 * 24 / 8; decide, by show 2 * 24 / 8 ≤ 3 + 1 + 3; decide, by show 1 ≤ 3; omega, by show 3 < 9223372036854775808; omega⟩
theorem K17.c {x : FS} {fm mv : Nat → Nat} (h3 : q.heat = 3) (w : PmD F h d x.s) (lv : Live F h) (w0 : HT q x fm mv) (sp : Sp q x fm A) (pt : Part h0 h) (hF : ∀ k, h0 k ≠ none → ¬ F k)
  (hq : ∀ f Gs bs rs hc pb tb hb fb sb h', Sq1 h0 h' F Gs bs rs hc d f pb tb hb fb sb q ⟨x.fresh, fm, mv, fun _ => 0⟩ (freeL q fm) A → (∀ j, hc j ≠ none → h j = none) → (∀ k, HF F Gs rs q.p.R pb tb hb fb k → F k ∨ h k = none) → h sb = none → Part h h' → Q (.tuple #[.pointer (some ⟨sb, 0, none⟩), .pointer (some ⟨pb, 0, none⟩), .bool true]) h') :
  CT 17 #[.pointer (some ⟨d, 0, none⟩)] h Q := by
 apply K17.ok
 have O := fun {Q : QT} hq => K38.c (Q := Q) w lv w0 hq
 rw [h3] at O
 refine O fun f Gs bs rs hc pb tb hb fb h' hd fn fc p => ⟨_, _, rfl, K13.c fun sb hsb => ⟨_, _, rfl, xsIf_t rfl (xsIf_t rfl ?_)⟩⟩
 have pq : Part h' (upd h' sb (Obj.cells #[.pointer (some ⟨pb, 0, none⟩)] 73 (0, 0))) := Part.upd hsb _
 refine hq f Gs bs rs hc pb tb hb fb sb _ ⟨⟨hd.part pq, pt.trans (p.trans pq), fun k hk hf => ?_⟩, Blk.new _ _ _ _, fun hf => hd.live sb hf hsb, w0.new.1, fun i k hi hk => (w0.new.2 _).trans (sp i k hi hk)⟩ fc fn (Part.none p hsb) (p.trans pq)
 rcases fn k hf with h | h
 ·exact hF k hk h
 ·rw [part_live pt hk] at h; exact hk h
set_option maxRecDepth 100000 in
theorem K7.c {key : Nat} (hk : key < 18446744073709551616) (hq : ∀ d F f Gs bs rs hc pb tb hb fb sb fr y h', Sq1 h h' F Gs bs rs hc d f pb tb hb fb sb (sq key) y fr (fun _ => 0) → Sd y.x.s → (∀ j, hc j ≠ none → h j = none) → h sb = none → Q (.tuple #[.pointer (some ⟨d, 0, none⟩), .pointer (some ⟨sb, 0, none⟩), .pointer (some ⟨pb, 0, none⟩), .bool true]) h') :
  CT 7 #[.int .u64 (key : Nat)] h Q := by
 have ok := sqOk hk
 apply K7.ok
 have hC : ∀ {Q : QT}, Q (fcfgV (sq key).p) h → CT 25 #[.int .u64 (key : Nat)] h Q := fun hq => by
  apply K25.ok
  exact hq
 have hz : 1 + (sq key).p.R * (sq key).p.z = 61 := by show 1 + 2 * ((3 + 7) / 8 + (24 + 2) + 3) = 61; decide
 refine hC ⟨_, _, _, _, _, rfl, K27.c (p := (sq key).p) ok.ok.rt ⟨_, rfl, ?_⟩⟩
 rw [hz]
 refine K26.c (n := 61) (by omega) (by omega) fun d F h1 w1 fr lv1 p1 => ⟨_, _, rfl, xsIf_f rfl ?_⟩
 have hff : ∀ k, h k ≠ none → ¬ F k := fun k hk' hf => hk' (fr k hf)
 refine hot_start (q := sq key) ok w1 lv1 p1 hff fun h2 s hn _ w2 lv2 P2 st2 => ⟨_, rfl, xsIf_f rfl ?_⟩
 apply K7.J5.ok
 refine K17.c (q := sq key) (A := fun _ => 0) rfl w2 lv2 hn.ht (fun i k hi hk => ?_) P2 hff fun f Gs bs rs hc pb tb hb fb sb h' w' fc fn sn pt => ⟨_, _, _, rfl, ?_⟩
 ·rw [hn.z i k hi hk]; exact zero64_tx _
 ·exact hq d F f Gs bs rs hc pb tb hb fb sb _ _ h' w' hn.sd (fun j hj => Part.none P2 (fc j hj)) (Part.none P2 sn)
end
end Go.Gb
namespace Go.Gb
open Go.Proofs IntWalk
section
variable {F : Nat → Prop} {Gs : Nat → Nat → Prop} {bs rs : Nat → Nat} {hc h0 h h1 : Heap} {d f pb tb hb fb sb : Nat} {q : HPl} {y : HS} {fr : List Nat} {A : Nat → UInt8} {Q : QT}
def abcB : ByteArray := ⟨#[UInt8.ofNat 97, UInt8.ofNat 98, UInt8.ofNat 99, UInt8.ofNat 100, UInt8.ofNat 101, UInt8.ofNat 102, UInt8.ofNat 103, UInt8.ofNat 104]⟩
set_option maxRecDepth 100000 in
theorem K8.c (hq : ∀ h', Part h h' → Q (.bool true) h') : CT 8 #[] h Q := by
 apply K8.ok
 refine K7.c (key := 7) (by omega) fun d F f Gs bs rs hc pb tb hb fb sb fr y h1 w sd _ _ => ⟨_, _, _, _, rfl, xsIf_f rfl (K11.c w ⟨_, rfl, xsIf_f rfl ?_⟩)⟩
 refine K9.c (Cls.sd _) (a := ((60 : Nat) : Int)) (b := abcB) (by decide) w sd (fun hn => absurd (show inS (sq 7) ((60 : Nat) : Int) (abcB.size : Int) by decide) hn) fun _ fb' fr' h2 e y' w2 st o => ⟨_, rfl, ?_⟩
 rw [o.ae]
 rcases o.o with ⟨_, iv, sp⟩ | o' | o'
 ·have w3 := w.next w2 st iv sp
  refine xsIf_f rfl (K10.c (a := ((59 : Nat) : Int)) (n := ((10 : Nat) : Int)) w3 (by omega) (fun _ h3 p3 => ⟨_, _, rfl, xsIf_t rfl ?_⟩) fun hn => absurd (show inS (sq 7) ((59 : Nat) : Int) ((10 : Nat) : Int) by decide) hn)
  rw [show decide (tx (ov (fun _ => 0) ((60 : Nat) : Int).toNat abcB) ((59 : Nat) : Int).toNat ((10 : Nat) : Int).toNat = ⟨#[0, 97, 98, 99, 100, 101, 102, 103, 104, 0]⟩) = true by decide]
  exact hq h3 (w3.part p3).w.pt
 ·rw [o.ae] at o'; exact absurd o'.1 (by decide)
 ·rw [o.ae] at o'; exact absurd o'.1 (by decide)
end
end Go.Gb
namespace Go.Gb
open Go.Proofs IntWalk
section
variable {F F' : Nat → Prop} {Gs Gs' : Nat → Nat → Prop} {bs rs bs' rs' : Nat → Nat} {hc hc' h0 h h1 : Heap} {d f pb tb hb fb d' f' pb' tb' hb' fb' fb2 : Nat} {q r : HPl} {y z y' z' : HS} {fr fr' fr2 : List Nat} {Q : Value → Heap → Prop}
theorem Hq.beside {X X' : Nat → Prop} (b : Hq h0 h F Gs bs rs hc d f pb tb hb fb q y fr) (st : Step X h X' h1) (ap : ∀ k, HF F Gs rs q.p.R pb tb hb fb k → ¬ X k) (cb : ∀ i, hc i ≠ none → ¬ X i) (ff : ∀ k, h0 k ≠ none → ¬ X k) : Hq h0 h1 F Gs bs rs hc d f pb tb hb fb q y fr ∧
  (∀ k, HF F Gs rs q.p.R pb tb hb fb k → ¬ X' k) ∧ ∀ i, hc i ≠ none → ¬ X' i := by
 have lv := b.hd.live
 refine ⟨⟨b.hd.keep (fun k hk hn => st.keep k (ap k hk) hn) (st.part b.hd.fd.cp cb), st.part b.pt ff, b.ff⟩, fun k hk hx => ?_, fun k hk hx => ?_⟩
 ·rcases st.sub k hx with h | h
  ·exact ap k hk h
  ·exact lv k hk h
 ·rcases st.sub k hx with h | h
  ·exact cb k hk h
  ·rw [part_live b.hd.fd.cp hk] at h; exact hk h
end
end Go.Gb
namespace Go.Gb
open Go.Proofs IntWalk
section
variable {F F' : Nat → Prop} {Gs Gs' : Nat → Nat → Prop} {bs rs bs' rs' : Nat → Nat} {hc hc' h0 h h1 : Heap} {d f pb tb hb fb sb d' f' pb' tb' hb' fb' sb' fb2 : Nat} {q r : HPl} {y z y' z' : HS} {fr fr' fr2 : List Nat} {A B A' B' : Nat → UInt8} {Q : Value → Heap → Prop}
structure S2 (h0 h : Heap) (F : Nat → Prop) (Gs : Nat → Nat → Prop) (bs rs : Nat → Nat) (hc : Heap) (d f pb tb hb fb sb : Nat) (q : HPl) (y : HS) (fr : List Nat) (A : Nat → UInt8) (F' : Nat → Prop) (Gs' : Nat → Nat → Prop) (bs' rs' : Nat → Nat) (hc' : Heap) (d' f' pb' tb' hb' fb' sb' : Nat) (r : HPl) (z : HS) (fr' : List Nat) (B : Nat → UInt8) : Prop where
 a : Sq1 h0 h F Gs bs rs hc d f pb tb hb fb sb q y fr A
 b : Sq1 h0 h F' Gs' bs' rs' hc' d' f' pb' tb' hb' fb' sb' r z fr' B
 ap : Apart (HF F Gs rs q.p.R pb tb hb fb) (HF F' Gs' rs' r.p.R pb' tb' hb' fb')
 ca : ∀ i, hc i ≠ none → ¬ HF F' Gs' rs' r.p.R pb' tb' hb' fb' i
 cb : ∀ i, hc' i ≠ none → ¬ HF F Gs rs q.p.R pb tb hb fb i
 sa : ¬ HF F' Gs' rs' r.p.R pb' tb' hb' fb' sb
 sb : ¬ HF F Gs rs q.p.R pb tb hb fb sb'
theorem S2.part (i : S2 h0 h F Gs bs rs hc d f pb tb hb fb sb q y fr A F' Gs' bs' rs' hc' d' f' pb' tb' hb' fb' sb' r z fr' B) (pt : Part h h1) : S2 h0 h1 F Gs bs rs hc d f pb tb hb fb sb q y fr A F' Gs' bs' rs' hc' d' f' pb' tb' hb' fb' sb' r z fr' B :=
 ⟨i.a.part pt, i.b.part pt, i.ap, i.ca, i.cb, i.sa, i.sb⟩
theorem S2.left (i : S2 h0 h F Gs bs rs hc d f pb tb hb fb sb q y fr A F' Gs' bs' rs' hc' d' f' pb' tb' hb' fb' sb' r z fr' B) (w : HD F Gs bs rs hc h1 d f pb tb hb fb2 q y' fr2) (st : Step (HF F Gs rs q.p.R pb tb hb fb) h (HF F Gs rs q.p.R pb tb hb fb2) h1) (iv : HY q y') (sp : Sp q y'.x y'.fm A') :
  S2 h0 h1 F Gs bs rs hc d f pb tb hb fb2 sb q y' fr2 A' F' Gs' bs' rs' hc' d' f' pb' tb' hb' fb' sb' r z fr' B := by
 obtain ⟨b1, b2, b3⟩ := i.b.w.beside st i.ap i.cb i.a.w.ff
 exact ⟨i.a.next w st iv sp, ⟨b1, i.b.s.keep (st.keep sb' i.sb i.b.s.ne), i.b.nf, i.b.iv, i.b.sp⟩, b2, i.ca, b3, i.sa, fun hf => by
  rcases st.sub sb' hf with h | h
  ·exact i.sb h
  ·exact i.b.s.ne h⟩
theorem S2.right (i : S2 h0 h F Gs bs rs hc d f pb tb hb fb sb q y fr A F' Gs' bs' rs' hc' d' f' pb' tb' hb' fb' sb' r z fr' B) (w : HD F' Gs' bs' rs' hc' h1 d' f' pb' tb' hb' fb2 r z' fr2) (st : Step (HF F' Gs' rs' r.p.R pb' tb' hb' fb') h (HF F' Gs' rs' r.p.R pb' tb' hb' fb2) h1) (iv : HY r z') (sp : Sp r z'.x z'.fm B') :
  S2 h0 h1 F Gs bs rs hc d f pb tb hb fb sb q y fr A F' Gs' bs' rs' hc' d' f' pb' tb' hb' fb2 sb' r z' fr2 B' := by
 obtain ⟨b1, b2, b3⟩ := i.a.w.beside st (fun k hk hx => i.ap k hx hk) i.ca i.b.w.ff
 exact ⟨⟨b1, i.a.s.keep (st.keep sb i.sa i.a.s.ne), i.a.nf, i.a.iv, i.a.sp⟩, i.b.next w st iv sp, fun k hk hx => b2 k hx hk, b3, i.cb, fun hf => by
  rcases st.sub sb hf with h | h
  ·exact i.sa h
  ·exact i.a.s.ne h, i.sb⟩
theorem SwOut.ok {a : Nat} {b : ByteArray} {I : PmS → Prop} {e : Int} (o : SwOut q A a b I (fun e => e = 0) e y) : e = 0 ∧ HY q y ∧ Sp q y.x y.fm (ov A a b) := by
 have ae : e = 0 := o.ae
 rcases o.o with o' | o' | o'
 ·exact o'
 ·exact absurd (ae.symm.trans o'.1) (by decide)
 ·exact absurd (ae.symm.trans o'.1) (by decide)
end
theorem sext_at (s : ByteArray) {a b : Nat} (h1 : a ≤ b) (h2 : b ≤ s.size) : (sext s (a : Int) (b : Int)).size = b - a := by
 rw [← ba_size, sext_cut, List.length_take, List.length_drop, ba_size]; omega
end Go.Gb
namespace Go.Gb
open Go.Proofs IntWalk
theorem ov_text {A : Nat → UInt8} {a n : Nat} {b : ByteArray} (h : a + b.size ≤ n) : sext (tx A 0 n) 0 (a : Int) ++ b ++ sext (tx A 0 n) ((a + b.size : Nat) : Int) (n : Int) = tx (ov A a b) 0 n := by
 have e0 := tx_cut (A := A) (a := 0) (n := n) (m := 0) (k := a) (by omega) (by omega)
 rw [show ((0 : Nat) : Int) = 0 from rfl, Nat.sub_zero, Nat.add_zero] at e0
 rw [e0, tx_cut (by omega) (by omega)]
 have key : tx (ov A a b) 0 (a + b.size + (n - (a + b.size))) = tx A 0 a ++ b ++ tx A (0 + (a + b.size)) (n - (a + b.size)) := by
  rw [tx_app, tx_app, Nat.zero_add, tx_ov, tx_congr (B := A) (a := 0) fun p h1 h2 => ov_out (by omega), tx_congr (B := A) (a := 0 + (a + b.size)) fun p h1 h2 => ov_out (by omega)]
 rw [show a + b.size + (n - (a + b.size)) = n by omega] at key
 exact key.symm
theorem wA_ov {A : Nat → UInt8} {p v : Nat} (hv : v < 18446744073709551616) : wA (ov A p (wB v)) p = v := by
 have h := tx_ov (A := A) (a := p) (b := wB v)
 rw [wB_size] at h
 have : tl (ov A p (wB v)) p 8 = putL v 8 := by rw [← tx_list, h]; unfold wB; simp
 unfold wA
 rw [this, getL_put]
 exact Nat.mod_eq_of_lt hv
section
variable {F : Nat → Prop} {Gs : Nat → Nat → Prop} {bs rs : Nat → Nat} {hc h0 h h1 : Heap} {d f pb tb hb fb sb : Nat} {q : HPl} {y : HS} {fr : List Nat} {A A1 : Nat → UInt8} {Q : Value → Heap → Prop} {ka : Option Addr} {ks : List Bool} {kc : Nat} {c0 c1 c2 key : Int}
theorem Sq1.fuse {n : Int} (w : Sq1 h0 h F Gs bs rs hc d f pb tb hb fb sb q y fr A) (hn : 0 ≤ n) (w1 : PmD F h1 d { y.x.s with fuse := n }) (st : Step F h F h1) : Sq1 h0 h1 F Gs bs rs hc d f pb tb hb fb sb q ⟨⟨{ y.x.s with fuse := n }, y.x.l, y.x.g, y.x.n⟩, y.fm, y.mv, y.ht⟩ fr A := by
 obtain ⟨iv, r⟩ := HT.fuse (q := q) (x := y.x) w.iv hn
 exact ⟨w.w.dev w1 st, w.s.keep (st.keep sb (fun hF => w.nf (.inl (.inl hF))) w.s.ne), w.nf, iv, fun i k hi hk => (r i k hi hk).trans (w.sp i k hi hk)⟩
theorem inn3 (hg : q.g = 3) {a n : Nat} (hn : a + n ≤ 1536) : inS q (a : Int) (n : Int) := by unfold inS; rw [hg]; omega
end
end Go.Gb
namespace Go.Gb
open Go.Proofs IntWalk
end Go.Gb
namespace Go.Gb
open Go.Proofs IntWalk
theorem HT.brk {q : HPl} {x : FS} {fm mv : Nat → Nat} (w : HT q x fm mv) {l : Nat} (hl : l < q.p.R * q.p.pl) :
  HT q ⟨{ x.s with bad := fset x.s.bad (whF q.p x l) true }, x.l, x.g, x.n⟩ fm mv ∧ ∀ i k, i < q.g → k < 8 → hr q ⟨{ x.s with bad := fset x.s.bad (whF q.p x l) true }, x.l, x.g, x.n⟩ fm i k = hr q x fm i k := by
 obtain ⟨a, b⟩ := w.fi.brk (whF_brk w.fi hl)
 exact w.same a rfl fun l _ => b l
end Go.Gb
namespace Go.Gb
open Go.Proofs IntWalk
structure Act4 where
 a0 : Int
 a1 : Int
 s : ByteArray
 v : Int
def Act4.row (x : Act4) : List Value := [.int .i64 x.a0, .int .i64 x.a1, .string x.s, .int .u64 x.v]
theorem Act4.row_length (x : Act4) : x.row.length = 4 := rfl
theorem ov_read {A A' : Nat → UInt8} {a n : Nat} (h : ∀ p, (p < a ∨ a + n ≤ p) → A' p = A p) : ov A a (tx A' a n) = A' := by
 apply ov_same
 ·rw [tx_size]
 ·intro p hp
  rw [tx_size] at hp
  exact h p hp
section
variable {F : Nat → Prop} {Gs : Nat → Nat → Prop} {bs rs : Nat → Nat} {hc h0 h h1 : Heap} {d f pb tb hb fb sb : Nat} {q : HPl} {y : HS} {fr : List Nat} {A : Nat → UInt8} {Q : QT} {ta : Option Addr} {tn tc : Nat} {N t : Int}
abbrev GoP (h0 : Heap) (F : Nat → Prop) (d : Nat) (q : HPl) (ta : Option Addr) (tn tc : Nat) (N t : Int) (Q : QT) : Prop :=
 ∀ h' Gs bs rs hc f pb tb hb fb sb fr y A, Sq1 h0 h' F Gs bs rs hc d f pb tb hb fb sb q y fr A → F0 y.x.s → K6.L6 (some ⟨d, 0, none⟩) (some ⟨sb, 0, none⟩) (some ⟨pb, 0, none⟩) (tx A 0 1536) ta tn tc N (IntKind.i64.wrap (t + 1)) h' Q
theorem K6.J48.c (hg : q.g = 3) (w : Sq1 h0 h F Gs bs rs hc d f pb tb hb fb sb q y fr A) (f0 : F0 y.x.s) (hq : GoP h0 F d q ta tn tc N t Q) :
  K6.J48 (some ⟨d, 0, none⟩) (some ⟨sb, 0, none⟩) (some ⟨pb, 0, none⟩) (tx A 0 1536) ((1536 : Nat) : Int) ta tn tc N t h Q := by
 have nes : ∀ {x : ByteArray}, decide (x ≠ x) = false := decide_eq_false (fun h => h rfl)
 apply K6.J48.ok
 refine K10.c (a := ((0 : Nat) : Int)) (n := ((1536 : Nat) : Int)) w (by omega) (fun _ h6 p6 => ⟨_, _, rfl, xsIf_f rfl ?_⟩) fun hn => absurd (inn3 (a := 0) (n := 1536) hg (by omega)) hn
 rw [Int.toNat_natCast, Int.toNat_natCast]
 exact xsIf_f nes (hq _ _ _ _ _ _ _ _ _ _ _ _ _ _ (w.part p6) f0)
theorem K6.J13.c {b : ByteArray} {a0 a1 a3 : Int} {a2 : ByteArray} (hg : q.g = 3) (hb200 : b.size ≤ 200) (hi : IntKind.i64.min ≤ a1 ∧ a1 ≤ IntKind.i64.max) (w : Sq1 h0 h F Gs bs rs hc d f pb tb hb fb sb q y fr A) (f0 : F0 y.x.s) (hq : GoP h0 F d q ta tn tc N t Q) :
  K6.J13 (some ⟨d, 0, none⟩) (some ⟨sb, 0, none⟩) (some ⟨pb, 0, none⟩) (tx A 0 1536) b ((1536 : Nat) : Int) ta tn tc N t a0 a1 a2 a3 h Q := by
 have hi : -9223372036854775808 ≤ a1 ∧ a1 ≤ 9223372036854775807 := hi
 have sz : ∀ D : Nat → UInt8, (tx D 0 1536).size = 1536 := fun D => tx_size
 apply K6.J13.ok
 refine K9.c (Cls.f0 q.p) (by omega) w f0 (fun hn => ⟨_, rfl, ?_⟩) fun hin fb2 fr2 h2 e y2 w2 st2 o => ⟨_, rfl, ?_⟩
 ·have J := K6.J48.c hg w f0 hq
  unfold inS at hn
  rw [hg] at hn
  rw [i64_in (((1536 : Nat) : Int) - (b.size : Int)) (by omega)]
  refine xsIf_intro (fun _ => xsIf_f rfl J) fun e1 => ?_
  have e1 := of_decide_eq_false e1
  exact xsIf_t (decide_eq_true (by omega)) (xsIf_f rfl J)
 ·unfold inS at hin
  rw [hg] at hin
  obtain ⟨p, rfl⟩ : ∃ p : Nat, a1 = p := ⟨a1.toNat, by omega⟩
  rw [Int.toNat_natCast] at o
  have s1 := sext_at (tx A 0 1536) (a := 0) (b := p) (by omega) (by rw [sz]; omega)
  have s2 := sext_at (tx A 0 1536) (a := p + b.size) (b := 1536) (by omega) (by rw [sz]; omega)
  rw [show ((0 : Nat) : Int) = 0 from rfl] at s1
  have ae : e = 0 ∨ e = 10 := o.ae
  rw [i64_in (((1536 : Nat) : Int) - (b.size : Int)) (by omega), show IntKind.i64.wrap ((p : Int) + (b.size : Int)) = ((p + b.size : Nat) : Int) by rw [i64_in _ (by omega)]; omega, sz]
  refine xsIf_f (decide_eq_false (by omega)) (xsIf_f (decide_eq_false (by omega)) ?_)
  rcases o.o with ⟨e0, iv, sp⟩ | ⟨e10, iv, A', sp, m⟩ | ⟨e6, _⟩
  ·refine xsIf_t (decide_eq_true e0) ⟨by omega, by rw [s1]; omega, by omega, by rw [ByteArray.size_append, s1, s2]; omega, ?_⟩
   rw [ov_text (n := 1536) (by omega)]
   exact K6.J48.c hg (w.next w2 st2 iv sp) o.i hq
  ·have w3 := w.next w2 st2 iv sp
   refine xsIf_f (decide_eq_false (by omega)) (xsIf_f (decide_eq_false (by omega)) ?_)
   refine K10.c (a := (p : Int)) (n := (b.size : Int)) w3 (by omega) (fun _ h6 p6 => ⟨_, _, rfl, ?_⟩) fun hn => absurd (inn3 hg (by omega)) hn
   rw [Int.toNat_natCast, Int.toNat_natCast]
   have hts : (tx A' p b.size).size = b.size := tx_size
   have key := ov_text (A := A) (a := p) (n := 1536) (b := tx A' p b.size) (by rw [hts]; omega)
   rw [hts, ov_read m] at key
   refine ⟨by omega, by rw [s1, hts]; omega, by omega, by rw [ByteArray.size_append, s1, s2, hts]; omega, ?_⟩
   rw [key]
   exact K6.J48.c hg (w3.part p6) o.i hq
  ·omega
theorem splays_word {a1 : Int} {v : Nat} (hg : q.g = 3) (hi : IntKind.i64.min ≤ a1 ∧ a1 ≤ IntKind.i64.max) (hv : v < 18446744073709551616) (w : Sq1 h0 h F Gs bs rs hc d f pb tb hb fb sb q y fr A) (f0 : F0 y.x.s) (hq : GoP h0 F d q ta tn tc N t Q) :
  CT 14 #[.pointer (some ⟨sb, 0, none⟩), .int .i64 a1, .int .u64 (v : Nat)] h fun (r : Value) (h' : Heap) =>
   ∃ (x : Int), r = .int .i64 x ∧ CT 12 #[.pointer (some ⟨sb, 0, none⟩), .int .i64 a1] h' fun (r : Value) (h' : Heap) =>
    ∃ (x_4 : Int), ∃ (x_5 : Int), r = .tuple #[.int .u64 x_4, .int .i64 x_5] ∧
     xsIf (decide (irem a1 8 ≠ 0))
      (xsIf (decide (x ≠ 2)) (Q (.bool false) h') (xsIf (decide (x_5 ≠ 2)) (Q (.bool false) h') (K6.J48 (some ⟨d, 0, none⟩) (some ⟨sb, 0, none⟩) (some ⟨pb, 0, none⟩) (tx A 0 1536) (((tx A 0 1536).size : Nat) : Int) ta tn tc N t h' Q)))
      (xsIf (decide (a1 < 0))
       (xsIf (decide (x ≠ 3)) (Q (.bool false) h') (xsIf (decide (x_5 ≠ 3)) (Q (.bool false) h') (K6.J48 (some ⟨d, 0, none⟩) (some ⟨sb, 0, none⟩) (some ⟨pb, 0, none⟩) (tx A 0 1536) (((tx A 0 1536).size : Nat) : Int) ta tn tc N t h' Q)))
       (xsIf (decide (IntKind.i64.wrap ((((tx A 0 1536).size : Nat) : Int) - 8) < a1))
        (xsIf (decide (x ≠ 3)) (Q (.bool false) h') (xsIf (decide (x_5 ≠ 3)) (Q (.bool false) h') (K6.J48 (some ⟨d, 0, none⟩) (some ⟨sb, 0, none⟩) (some ⟨pb, 0, none⟩) (tx A 0 1536) (((tx A 0 1536).size : Nat) : Int) ta tn tc N t h' Q)))
        (xsIf (decide (x = 0))
         ((0 ≤ a1 ∧ a1 ≤ (((tx A 0 1536).size : Nat) : Int)) ∧ (0 ≤ IntKind.i64.wrap (a1 + 8) ∧ IntKind.i64.wrap (a1 + 8) ≤ (((tx A 0 1536).size : Nat) : Int)) ∧
          CT 20 #[.int .u64 (v : Nat), .int .i64 8] h' fun (r : Value) (h' : Heap) =>
           ∃ (x : ByteArray), r = .string x ∧ (((sext (tx A 0 1536) 0 a1).size + x.size : Nat) : Int) ≤ 9223372036854775807 ∧
            (((sext (tx A 0 1536) 0 a1 ++ x).size + (sext (tx A 0 1536) (IntKind.i64.wrap (a1 + 8)) (((tx A 0 1536).size : Nat) : Int)).size : Nat) : Int) ≤ 9223372036854775807 ∧
             xsIf (decide (x_5 ≠ 0)) (Q (.bool false) h') (xsIf (decide (x_4 ≠ (v : Int))) (Q (.bool false) h')
              (K6.J48 (some ⟨d, 0, none⟩) (some ⟨sb, 0, none⟩) (some ⟨pb, 0, none⟩) (sext (tx A 0 1536) 0 a1 ++ x ++ sext (tx A 0 1536) (IntKind.i64.wrap (a1 + 8)) (((tx A 0 1536).size : Nat) : Int)) (((tx A 0 1536).size : Nat) : Int) ta tn tc N t h' Q)))
         (xsIf (decide (x ≠ 10)) (Q (.bool false) h') (xsIf (decide (x_5 ≠ 0)) (Q (.bool false) h')
          ((0 ≤ IntKind.i64.wrap (a1 + 8) ∧ IntKind.i64.wrap (a1 + 8) ≤ (((tx A 0 1536).size : Nat) : Int)) ∧ (0 ≤ a1 ∧ a1 ≤ IntKind.i64.wrap (a1 + 8)) ∧
           CT 18 #[.string (sext (tx A 0 1536) a1 (IntKind.i64.wrap (a1 + 8)))] h' fun (r : Value) (h' : Heap) =>
            ∃ (x : Int), r = .int .u64 x ∧ xsIf (decide (x_4 ≠ x)) (Q (.bool false) h') (K6.J48 (some ⟨d, 0, none⟩) (some ⟨sb, 0, none⟩) (some ⟨pb, 0, none⟩) (tx A 0 1536) (((tx A 0 1536).size : Nat) : Int) ta tn tc N t h' Q))))))) := by
 have hi : -9223372036854775808 ≤ a1 ∧ a1 ≤ 9223372036854775807 := hi
 have sz : ∀ D : Nat → UInt8, (tx D 0 1536).size = 1536 := fun D => tx_size
 have nei : ∀ {x : Int}, decide (x ≠ x) = false := decide_eq_false (fun h => h rfl)
 rw [sz]
 refine K14.c (Cls.f0 q.p) hv w f0 (fun hn => ⟨_, rfl, K12.c w (fun hy => absurd hy hn) fun _ => ⟨_, _, rfl, ?_⟩⟩) fun hin fb2 fr2 h2 e y2 w2 st2 o => ⟨_, rfl, ?_⟩
 ·have J := K6.J48.c hg w f0 hq
  unfold inW inS at hn
  rw [hg] at hn
  by_cases e8 : irem a1 8 = 0
  ·rw [if_neg (fun h => h e8)]
   refine xsIf_f (decide_eq_false fun h => h e8) (xsIf_intro (fun _ => xsIf_f rfl (xsIf_f rfl J)) fun e1 => ?_)
   have e1 := of_decide_eq_false e1
   rw [i64_in (((1536 : Nat) : Int) - 8) (by omega)]
   exact xsIf_t (decide_eq_true (by omega)) (xsIf_f rfl (xsIf_f rfl J))
  ·rw [if_pos e8]
   exact xsIf_t (decide_eq_true e8) (xsIf_f rfl (xsIf_f rfl J))
 ·have hin' := hin
  unfold inW inS at hin'
  rw [hg] at hin'
  obtain ⟨p, rfl⟩ : ∃ p : Nat, a1 = p := ⟨a1.toNat, by omega⟩
  rw [Int.toNat_natCast] at o
  have s1 := sext_at (tx A 0 1536) (a := 0) (b := p) (by omega) (by rw [sz]; omega)
  have s2 := sext_at (tx A 0 1536) (a := p + 8) (b := 1536) (by omega) (by rw [sz]; omega)
  rw [show ((0 : Nat) : Int) = 0 from rfl] at s1
  have ae : e = 0 ∨ e = 10 := o.ae
  rw [i64_in (((1536 : Nat) : Int) - 8) (by omega), show IntKind.i64.wrap ((p : Int) + 8) = ((p + 8 : Nat) : Int) by rw [i64_in _ (by omega)]; omega]
  rcases o.o with ⟨e0, iv, sp⟩ | ⟨e10, iv, sp⟩ | ⟨e6, _⟩
  ·have w3 := w.next w2 st2 iv sp
   refine K12.c w3 (fun _ => ⟨_, _, rfl, ?_⟩) fun hn => absurd hin hn
   rw [Int.toNat_natCast, wA_ov hv]
   refine xsIf_f (decide_eq_false fun h => h hin'.1) (xsIf_f (decide_eq_false (by omega)) (xsIf_f (decide_eq_false (by omega)) (xsIf_t (decide_eq_true e0) ⟨by omega, by omega, K20.c hv ⟨_, rfl, ?_⟩⟩)))
   rw [show cnt 8 = 8 by decide]
   have hw8 := wB_size v
   have key := ov_text (A := A) (a := p) (n := 1536) (b := wB v) (by rw [hw8]; omega)
   rw [hw8] at key
   show (((sext (tx A 0 1536) 0 (p : Int)).size + (wB v).size : Nat) : Int) ≤ _ ∧ (((sext (tx A 0 1536) 0 (p : Int) ++ wB v).size + (sext (tx A 0 1536) ((p + 8 : Nat) : Int) ((1536 : Nat) : Int)).size : Nat) : Int) ≤ _ ∧ xsIf _ _ (xsIf _ _ (K6.J48 _ _ _ (sext (tx A 0 1536) 0 (p : Int) ++ wB v ++ sext (tx A 0 1536) ((p + 8 : Nat) : Int) ((1536 : Nat) : Int)) _ _ _ _ _ _ _ _))
   rw [key]
   exact ⟨by rw [s1, hw8]; omega, by rw [ByteArray.size_append, s1, s2, hw8]; omega, xsIf_f rfl (xsIf_f nei (K6.J48.c hg w3 o.i hq))⟩
  ·have w3 := w.next w2 st2 iv sp
   refine K12.c w3 (fun _ => ⟨_, _, rfl, ?_⟩) fun hn => absurd hin hn
   rw [Int.toNat_natCast]
   have gs : (sext (tx A 0 1536) ((p : Nat) : Int) ((p + 8 : Nat) : Int)).size ≤ 9223372036854775807 := by rw [sext_at _ (by omega) (by rw [sz]; omega)]; omega
   refine xsIf_f (decide_eq_false fun h => h hin'.1) (xsIf_f (decide_eq_false (by omega)) (xsIf_f (decide_eq_false (by omega)) (xsIf_f (decide_eq_false (by omega)) (xsIf_f (decide_eq_false (by omega)) (xsIf_f rfl ⟨by omega, by omega, K18.c gs ⟨_, rfl, ?_⟩⟩)))))
   rw [get8_part (by omega), tx_list, tl_drop (by omega), tl_take (by omega), Nat.zero_add]
   exact xsIf_f nei (K6.J48.c hg w3 o.i hq)
  ·omega
end
end Go.Gb
namespace Go.Gb
open Go.Proofs IntWalk
section
variable {F : Nat → Prop} {Gs : Nat → Nat → Prop} {bs rs : Nat → Nat} {hc h0 h h1 : Heap} {d f pb tb hb fb sb : Nat} {q : HPl} {y : HS} {fr : List Nat} {A : Nat → UInt8} {Q : QT}
theorem splays_act {a : Option Addr} {n cp : Nat} {N : Int} {z : Act4} {t : Int} (h3 : q.heat = 3) (hg : q.g = 3) (w : Sq1 h0 h F Gs bs rs hc d f pb tb hb fb sb q y fr A) (f0 : F0 y.x.s) (ht : 0 ≤ t ∧ t < N) (hn : t < n) (hi : IntKind.i64.min ≤ z.a1 ∧ z.a1 ≤ IntKind.i64.max) (hv : R64 z.v)
  (hcl : ∀ K, (∀ b o, h.cell b (o + t.toNat * 4) = some (.int .i64 z.a0) → h.cell b (o + t.toNat * 4 + 1) = some (.int .i64 z.a1) → h.cell b (o + t.toNat * 4 + 1 + 1) = some (.string z.s) → h.cell b (o + t.toNat * 4 + 1 + 1 + 1) = some (.int .u64 z.v) → K b o) → atBase a K)
  (hq : GoP h0 F d q a n cp N t Q) :
  K6.L6 (some ⟨d, 0, none⟩) (some ⟨sb, 0, none⟩) (some ⟨pb, 0, none⟩) (tx A 0 1536) a n cp N t h Q := by
 have sz : ∀ D : Nat → UInt8, (tx D 0 1536).size = 1536 := fun D => tx_size
 have g2 := w.iv.ok.H_le
 have f1 := w.iv.ok.f1
 obtain ⟨v0, v1⟩ := hv
 obtain ⟨vv, hvv⟩ : ∃ v : Nat, z.v = v := ⟨z.v.toNat, by omega⟩
 apply K6.L6.ok
 refine xsIf_t (decide_eq_true ht.2) ⟨⟨ht.1, hn⟩, hcl _ fun b0 o k0 k1 k2 k3 => ⟨_, k0, _, k1, _, k2, _, k3, ⟨by rw [imin_eq]; omega, by rw [imin_eq]; omega⟩, ?_⟩⟩
 have hm : imin (z.s.size : Int) 200 = ((min z.s.size 200 : Nat) : Int) := by rw [imin_eq]; omega
 have t0 := sext_at z.s (a := 0) (b := min z.s.size 200) (by omega) (by omega)
 rw [show ((0 : Nat) : Int) = 0 from rfl] at t0
 have J13 := K6.J13.c (b := sext z.s 0 (imin (z.s.size : Int) 200)) (a0 := z.a0) (a1 := z.a1) (a2 := z.s) (a3 := z.v) hg (by rw [hm, t0]; omega) hi w f0 hq
 have W := splays_word (a1 := z.a1) (v := vv) hg hi (by omega) w f0 hq
 rw [← hvv] at W
 have J48 := K6.J48.c hg w f0 hq
 have ff : ∀ k, h0 k ≠ none → ¬ F k := fun k hk' hf => w.w.ff k hk' (.inl (.inl hf))
 have e5 : (((tx A 0 1536).size : Nat) : Int) = ((1536 : Nat) : Int) := by rw [sz]
 refine xsIf_intro (fun e0 => xsIf_t e0 ?_) fun _ => xsIf_intro (fun _ => ?_) fun _ => xsIf_intro (fun _ => W) fun _ => xsIf_intro (fun _ => ?_) fun _ => xsIf_intro (fun _ => ?_) fun _ => ?_
 ·rw [e5]; exact J13
 ·rw [e5]; exact J13
 ·refine K17.c h3 w.w.hd.fd.dv w.w.hd.fd.lf w.iv w.sp w.w.pt ff fun f' Gs' bs' rs' hc' pb' tb' hb' fb' sb' h5 w5 _ _ _ _ => ⟨_, _, _, rfl, xsIf_f rfl ?_⟩
  rw [e5]
  exact K6.J48.c hg w5 f0 hq
 ·obtain ⟨p1, hp1⟩ := imax0 z.a1
  rw [e5, hp1, show irem ((p1 : Nat) : Int) ((1536 : Nat) : Int) = ((p1 % 1536 : Nat) : Int) from irem_nat p1 1536]
  have hp : p1 % 1536 < 1536 := Nat.mod_lt _ (by omega)
  generalize p1 % 1536 = p at hp
  rw [show irem ((p : Nat) : Int) 512 = ((p % 512 : Nat) : Int) from irem_nat p 512, iquo_i64 (by omega) (by omega) (by omega), iquo_i64 (by omega) (by omega) (by omega), show ((p : Nat) : Int) / 512 = ((p / 512 : Nat) : Int) by omega, show ((p % 512 : Nat) : Int) / 64 = ((p % 512 / 64 : Nat) : Int) by omega]
  have hi2 : p / 512 < q.g := by omega
  have hk2 : p % 512 / 64 < 8 := by omega
  have pl := w.iv.pline hi2 hk2
  have hf := w.iv.frames _ hi2
  refine ⟨by omega, K21.c w.w.hd hi2 ⟨_, _, rfl, K22.c w.w.hd ⟨_, rfl, ?_⟩⟩⟩
  rw [show IntKind.i64.wrap (IntKind.i64.wrap ((y.fm (p / 512) : Nat) * 8) + ((p % 512 / 64 : Nat) : Int)) = ((8 * y.fm (p / 512) + p % 512 / 64 : Nat) : Int) by rw [i64_in (((y.fm (p / 512) : Nat) : Int) * 8) (by omega), i64_in _ (by omega)]; omega]
  generalize 8 * y.fm (p / 512) + p % 512 / 64 = l at pl
  refine K23.c w.w.hd.fd w.iv.fi pl.1 ⟨_, _, rfl, xsIf_t rfl ?_⟩
  have wa := whF_at w.iv.fi pl.1
  refine K24.c w.w.hd.fd.dv fun h1 w1 st1 => ?_
  have w1 : PmD F h1 d { y.x.s with bad := fset y.x.s.bad (whF q.p y.x l) true } := by
   have hw : (0 : Int) ≤ ((whF q.p y.x l : Nat) : Int) ∧ ((whF q.p y.x l : Nat) : Int) < (y.x.s.nl : Int) := by omega
   have w1 := w1
   rw [show ((whN (q.p.plan (q.p.reg l)).bk (y.x.l (q.p.reg l)) ((y.x.g (q.p.reg l)).slot q.p.pl (q.p.pos l)) : Nat) : Int) = ((whF q.p y.x l : Nat) : Int) from rfl, if_pos hw, Int.toNat_natCast] at w1
   exact w1
  obtain ⟨iv2, r2⟩ := HT.brk w.iv pl.1
  refine K6.J48.c hg ⟨w.w.dev w1 st1, w.s.keep (st1.keep sb (fun hF => w.nf (.inl (.inl hF))) w.s.ne), w.nf, iv2, fun i k hi hk => (r2 i k hi hk).trans (w.sp i k hi hk)⟩ ⟨f0.off, f0.fuse⟩ hq
 ·rw [e5]; exact J48
end
theorem rep_zero (n : Nat) : Lib.repeatL (⟨#[UInt8.ofNat 0]⟩ : ByteArray).data.toList n = List.replicate n (0 : UInt8) := by
 induction n with
 | zero => rfl
 | succ n ih => rw [List.replicate_succ, ← ih]; rfl
set_option maxRecDepth 100000 in
theorem K6.law (key : Int) (hk : IntKind.u64.min ≤ key ∧ key ≤ IntKind.u64.max) (v : Value) (h : Heap) (hv : Okc Tryz.prog h 8 53 [v]) :
  CT 6 #[.int .u64 key, v] h fun v h' => v = .bool true ∧ Part h h' := by
 have hk0 : 0 ≤ key ∧ key ≤ 18446744073709551615 := hk
 obtain ⟨kk, rfl⟩ : ∃ k : Nat, key = k := ⟨key.toNat, by omega⟩
 obtain ⟨a, n, c, dss, rfl, hnc, hcm, hl, hb, hr⟩ := okc_slice (e := 56) (sz := 4) (by kernel_rfl) (by kernel_rfl) (by omega) hv
 obtain ⟨acts, rfl, hacts⟩ := typed (f := Act4.row) (p := fun x => (IntKind.i64.min ≤ x.a1 ∧ x.a1 ≤ IntKind.i64.max) ∧ R64 x.v) dss (fun ds hds => by
  obtain ⟨h1, h2⟩ := hb ds hds
  obtain ⟨e1, e2⟩ := okc_each (d := 2) 5 56 [3, 3, 9, 28] ds (by kernel_rfl) h2 (by rw [h1]; rfl)
  match ds, h1 with
  | [p, q, r, s], _ =>
   obtain ⟨x0, rfl, -⟩ := okc_int (k := .i64) (by kernel_rfl) (e2 0 _ _ rfl rfl)
   obtain ⟨x1, rfl, i1⟩ := okc_int (k := .i64) (by kernel_rfl) (e2 1 _ _ rfl rfl)
   obtain ⟨x2, rfl, -⟩ := okc_str (by kernel_rfl) (e2 2 _ _ rfl rfl)
   obtain ⟨x3, rfl, h7⟩ := okc_int (k := .u64) (by kernel_rfl) (e2 3 _ _ rfl rfl)
   have h70 : 0 ≤ x3 := h7.1
   have h71 : x3 ≤ 18446744073709551615 := h7.2
   exact ⟨⟨x0, x1, x2, x3⟩, rfl, i1, ⟨h70, by show x3 < _; omega⟩⟩)
 rw [List.length_map] at hl
 rw [← List.flatMap_def] at hr
 apply K6.ok
 refine K7.c (by omega) fun d F f Gs bs rs hc pb tb hb fb sb fr y h1 w sd _ _ => ⟨_, _, _, _, rfl, K8.c fun h2 p2 => ⟨_, rfl, xsIf_f rfl (xsIf_f rfl ?_)⟩⟩
 have hg : (sq kk).g = 3 := rfl
 have w2 := w.part p2
 apply K6.J4.ok
 refine K11.c w2 ⟨_, rfl, ?_⟩
 rw [hg]
 refine strings_Repeat.c (c := 1536) (by omega) (by show 1 ≤ 1000000; omega) ⟨_, rfl, ?_⟩
 have e0 : (⟨(Lib.repeatL (⟨#[UInt8.ofNat 0]⟩ : ByteArray).data.toList 1536).toArray⟩ : ByteArray) = tx (fun _ => 0) 0 1536 := by
  apply ba_ext
  rw [tx_list]
  unfold tl
  rw [List.map_const', List.length_range]
  exact rep_zero 1536
 rw [e0]
 have hmn : imin (n : Int) 25 = ((min n 25 : Nat) : Int) := by rw [imin_eq]; omega
 rw [hmn, slBase0]
 refine ⟨by omega, ?_⟩
 have g1 : (((min n 25 : Nat) : Int) - 0).toNat = min n 25 := by omega
 rw [g1]
 have loop : ∀ (jj j : Nat) (h' : Heap) (Gs : Nat → Nat → Prop) (bs rs : Nat → Nat) (hc : Heap) (f pb tb hb fb sb : Nat) (fr : List Nat) (y : HS) (A : Nat → UInt8), j + jj = min n 25 → Sq1 h h' F Gs bs rs hc d f pb tb hb fb sb (sq kk) y fr A → F0 y.x.s →
   K6.L6 (some ⟨d, 0, none⟩) (some ⟨sb, 0, none⟩) (some ⟨pb, 0, none⟩) (tx A 0 1536) a (min n 25) ((c : Int) - 0).toNat ((min n 25 : Nat) : Int) j h' fun v h' => v = .bool true ∧ Part h h' := by
  intro jj
  induction jj with
  | zero =>
   intro j h' Gs bs rs hc f pb tb hb fb sb fr y A hj i f0
   apply K6.L6.ok
   exact xsIf_f (decide_eq_false (by omega)) ⟨rfl, i.w.pt⟩
  | succ jj ih =>
   intro j h' Gs bs rs hc f pb tb hb fb sb fr y A hj i f0
   have hjl : j < acts.length := by omega
   have hgj : acts[j]? = some acts[j] := List.getElem?_eq_getElem hjl
   obtain ⟨ia, va⟩ := hacts _ (List.getElem_mem hjl)
   refine splays_act (z := acts[j]) rfl rfl i f0 ⟨by omega, by omega⟩ (by omega) ia va (fun K hK => ?_) fun h2 Gs' bs' rs' hc' f' pb' tb' hb' fb' sb' fr' y' A' i2 f2 => ?_
   ·refine reads_base (readsAt_part hr i.w.pt) (by rw [flat_length Act4.row_length]; omega) fun b o hcell => ?_
    have key : ∀ q, q < 4 → h'.cell b (o + (j * 4 + q)) = (acts[j].row)[q]? := fun q hq => by
     have := hcell (j * 4 + q) (by rw [flat_length Act4.row_length]; omega)
     rw [Nat.mul_one, flat_get Act4.row_length acts j q _ hgj hq] at this
     exact this
    exact hK b o (key 0 (by omega)) (key 1 (by omega)) (key 2 (by omega)) (key 3 (by omega))
   ·rw [show IntKind.i64.wrap ((j : Int) + 1) = ((j + 1 : Nat) : Int) by rw [i64_in _ (by omega)]; omega]
    exact ih (j + 1) h2 Gs' bs' rs' hc' f' pb' tb' hb' fb' sb' fr' y' A' (by omega) i2 f2
 exact loop (min n 25) 0 _ Gs bs rs hc f pb tb hb fb sb _ _ _ (by omega) w2 sd.f
end Go.Gb
