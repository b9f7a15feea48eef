/- Own texts for the seat: Ln3 Sp2 Sp3 Sp4 Ln4 Sp5 Rs1 Rs2 Ln5 Sc1 Rg0 Sq1 Sq3 Ln6 Sg1 Ln7 Ln8 Sc2 Sc3 Rg1 Rg2 Rg3 Sq4 Sq5 Fx0 Sc4 Rt1 Rt2 Fl0 Ra1 Fl1 Fl2 Fl3 Fl4 Fl5 Fm0 Fl6 Rr1 Rr2 Ra2 Rp1 Rp2 Ft0 Sn1 Sn2 Fn1 Fn2 Sq2 Fk0 Fr1 Fr3 Fr4 Fr5 Ft1 Fp1 Hh0. -/
import Derived.Test.YtdlenbajhalknaaGreatB5
import Derived.Test.YtdlenbajhalknaaGreatB4
import Derived.Test.YtdlenbajhalknaaGreatB3
import Derived.Test.YtdlenbajhalknaaGreatB2
import Derived.Test.YtdlenbajhalknaaGreatB1
set_option linter.unusedVariables false
set_option linter.unusedSimpArgs false
set_option linter.unnecessarySimpa false
set_option linter.deprecated false
namespace Go.Gb
open Go.Proofs IntWalk
def zero64 : ByteArray := ⟨(Lib.repeatL [UInt8.ofNat 0] 64).toArray⟩
theorem zero64_size : zero64.size = 64 := by
 show (Lib.repeatL [UInt8.ofNat 0] 64).toArray.size = 64
 rw [List.size_toArray, Lib.repeatL_length]; rfl
structure Cl (s : PmS) : Prop where
 off : s.off = false
 fuse : s.fuse = 0
 buf : ∀ w, w < 8 * s.nl → s.buf w = none
 c0 : 0 ≤ s.count
 c1 : s.count < 1000000000
theorem pflush_nf {s : PmS} {a : Nat} (h0 : s.off = false) (h1 : s.fuse = 0) (ha : a < s.nl) : pflush s (a : Int) = (0, { ptick s with buf := fbuf s.buf a 8 }) := by
 have := pflush_run (s := s) (k := (a : Int)) h0 (by rw [h1]; decide) (by omega) (by omega)
 rw [Int.toNat_natCast] at this; exact this
theorem pstore_nf {s : PmS} {k : Nat} {v : Int} (h0 : s.off = false) (h1 : s.fuse = 0) (hk : k < 8 * s.nl) : pstore s (k : Int) v = (0, { ptick s with buf := fset s.buf k (some (v, false)) }) := by
 have := pstore_run (s := s) (k := (k : Int)) (v := v) h0 (by rw [h1]; decide) (by omega) (by omega)
 rw [Int.toNat_natCast] at this; exact this
theorem ptick_fuse {s : PmS} (h : s.fuse = 0) : (ptick s).fuse = 0 := by show (if 0 < s.fuse then s.fuse - 1 else s.fuse) = 0; rw [h]; rfl
end Go.Gb
namespace Go.Gb
open Go.Proofs IntWalk
def rightI (a l s : Int) : Prop := 0 ≤ a ∧ a ≤ 8192 ∧ 1 ≤ l ∧ l ≤ 1026 ∧ 0 ≤ s ∧ s ≤ 64
instance (a l s : Int) : Decidable (rightI a l s) := by unfold rightI; infer_instance
def plI (a l s : Int) : Pl := ⟨a.toNat, l.toNat, s.toNat⟩
def checkI (a l s n : Int) : Int := if rightI a l s then (if n < a + (sizeN (plI a l s) : Nat) then 3 else 0) else 2
structure PlB (p : Pl) : Prop where
 l1 : 1 ≤ p.pl
 l2 : p.pl ≤ 1026
 s2 : p.ps ≤ 64
 a2 : p.pa ≤ 8192
theorem PlOk.b {p : Pl} {n : Nat} (o : PlOk p n) : PlB p := ⟨o.l1, o.l2, o.s2, o.a2⟩
abbrev plV (p : Pl) : Value := .agg #[.int .i64 p.pa, .int .i64 p.pl, .int .i64 p.ps]
theorem PlB.right {p : Pl} (o : PlB p) : rightI p.pa p.pl p.ps := by
 have := o.l1; have := o.l2; have := o.s2; have := o.a2
 unfold rightI; omega
theorem plI_nat (p : Pl) : plI p.pa p.pl p.ps = p := by unfold plI; simp
theorem PlOk.check {p : Pl} {n : Nat} (o : PlOk p n) : checkI p.pa p.pl p.ps n = 0 := by
 unfold checkI
 have := o.fit
 rw [if_pos o.b.right, plI_nat, if_neg (by omega)]
section
variable {h : Heap} {Q : QT} {a l s n : Int} {p : Pl}
theorem K79.c (hq : Q (.bool (decide (rightI a l s))) h) : CT 79 #[.agg #[.int .i64 a, .int .i64 l, .int .i64 s]] h Q := by
 apply K79.ok
 refine xsIf_intro (fun h1 => xsIf_intro (fun h2 => xsIf_intro (fun h3 => xsIf_intro (fun h4 => xsIf_intro (fun h5 => ?_) fun h5 => ?_) fun h4 => ?_) fun h3 => ?_) fun h2 => ?_) fun h1 => ?_
 all_goals simp only [decide_eq_true_eq, decide_eq_false_iff_not] at *
 ·have e : decide (rightI a l s) = decide (s ≤ 64) := by
   by_cases h6 : s ≤ 64
   ·rw [decide_eq_true h6, decide_eq_true (by unfold rightI; omega)]
   ·rw [decide_eq_false h6, decide_eq_false (by unfold rightI; omega)]
  rw [e] at hq; exact hq
 all_goals (rw [decide_eq_false (show ¬ rightI a l s by unfold rightI; omega)] at hq; exact hq)
theorem K80.c (hb : PlB p) (hq : Q (.int .i64 (tblN p : Nat)) h) : CT 80 #[plV p] h Q := by
 apply K80.ok
 unfold K80.wp
 have := hb.s2
 rw [i64_in ((p.ps : Int) + 8) (by omega), i64_in _ (by omega), iquo_i64 (by omega) (by omega) (by omega)]
 rw [show ((p.ps : Int) + 8 - 1) / 8 = ((tblN p : Nat) : Int) by unfold tblN; omega]
 exact hq
theorem rightI_pl (hr : rightI a l s) : ∃ p : Pl, PlB p ∧ a = p.pa ∧ l = p.pl ∧ s = p.ps := by
 unfold rightI at hr
 exact ⟨⟨a.toNat, l.toNat, s.toNat⟩, ⟨by show 1 ≤ l.toNat; omega, by show l.toNat ≤ _; omega, by show s.toNat ≤ _; omega, by show a.toNat ≤ _; omega⟩, by show a = (a.toNat : Int); omega, by show l = (l.toNat : Int); omega, by show s = (s.toNat : Int); omega⟩
theorem tblN_le (hb : PlB p) : tblN p ≤ 8 := by have := hb.s2; unfold tblN; omega
theorem K52.c (hq : Q (.int .i64 (if rightI a l s then (sizeN (plI a l s) : Nat) else 0 : Int)) h) : CT 52 #[.agg #[.int .i64 a, .int .i64 l, .int .i64 s]] h Q := by
 apply K52.ok
 refine K79.c ⟨_, rfl, ?_⟩
 by_cases hr : rightI a l s
 ·rw [if_pos hr] at hq
  obtain ⟨p, hb, rfl, rfl, rfl⟩ := rightI_pl hr
  rw [plI_nat] at hq
  have := tblN_le hb
  have := hb.l2
  have := hb.s2
  refine xsIf_f (by rw [decide_eq_true hr]; rfl) (K80.c hb ⟨_, rfl, ?_⟩)
  rw [i64_in ((tblN p : Nat) + (p.pl : Int)) (by omega), i64_in _ (by omega), show ((tblN p : Nat) : Int) + (p.pl : Int) + (p.ps : Int) = ((sizeN p : Nat) : Int) by unfold sizeN; omega]
  exact hq
 ·rw [if_neg hr] at hq
  exact xsIf_t (by rw [decide_eq_false hr]; rfl) hq
theorem K112.c (hq : Q (.int .i64 (checkI a l s n)) h) : CT 112 #[.agg #[.int .i64 a, .int .i64 l, .int .i64 s], .int .i64 n] h Q := by
 apply K112.ok
 refine K79.c ⟨_, rfl, ?_⟩
 unfold checkI at hq
 by_cases hr : rightI a l s
 ·rw [if_pos hr] at hq
  refine xsIf_f (by rw [decide_eq_true hr]; rfl) (K52.c ⟨_, rfl, ?_⟩)
  rw [if_pos hr]
  obtain ⟨p, hb, rfl, rfl, rfl⟩ := rightI_pl hr
  rw [plI_nat] at hq ⊢
  have := tblN_le hb
  have := hb.l2
  have := hb.s2
  have := hb.a2
  have hs : sizeN p ≤ 2000 := by unfold sizeN; omega
  rw [i64_in _ (by omega)]
  refine xsIf_intro (fun h1 => ?_) fun h1 => ?_
  ·rw [if_pos (of_decide_eq_true h1)] at hq; exact hq
  ·rw [if_neg (of_decide_eq_false h1)] at hq; exact hq
 ·rw [if_neg hr] at hq
  exact xsIf_t (by rw [decide_eq_false hr]; rfl) hq
theorem K111.c {i : Nat} (hb : PlB p) (hi : i ≤ 100000) (hq : Q (.int .i64 (ownN p i : Nat)) h) : CT 111 #[plV p, .int .i64 (i : Int)] h Q := by
 apply K111.ok
 refine K80.c hb ⟨_, rfl, ?_⟩
 have := tblN_le hb
 have := hb.a2
 rw [i64_in ((p.pa : Int) + (tblN p : Nat)) (by omega), i64_in _ (by omega), show (p.pa : Int) + ((tblN p : Nat) : Int) + (i : Int) = ((ownN p i : Nat) : Int) by unfold ownN; omega]
 exact hq
theorem K110.c {k : Nat} (hb : PlB p) (hk : k ≤ 1000) (hq : Q (.int .i64 (sparN p k : Nat)) h) : CT 110 #[plV p, .int .i64 (k : Int)] h Q := by
 apply K110.ok
 have := tblN_le hb
 have := hb.a2
 have := hb.l2
 refine K111.c hb (by omega) ⟨_, rfl, ?_⟩
 have e : ownN p p.pl ≤ 20000 := by unfold ownN; omega
 rw [i64_in _ (by omega), show ((ownN p p.pl : Nat) : Int) + (k : Int) = ((sparN p k : Nat) : Int) by unfold ownN sparN; omega]
 exact hq
end
def standsP (p : Pl) (l : List Nat) : Nat → Option Nat := fun i => if i < p.pl then stands l i else none
structure BankC (G : Nat → Prop) (h : Heap) (b d r : Nat) (p : Pl) (l : List Nat) (ml : List (Int × Value × Nat)) (c : Nat) : Prop where
 pb : PlB p
 len : l.length ≤ p.ps
 gb : G b
 gr : G r
 ne : b ≠ r
 hb : Blk h b [.pointer (some ⟨d, 0, none⟩), .int .i64 p.pa, .int .i64 p.pl, .int .i64 p.ps, .int .i64 (l.length : Nat), .map (some r)]
 hr : h r = some (mapO (Value.int .i64) ml c)
 mm : MapG (fun k : Nat => Value.int .i64 (k : Int)) p.pl (standsP p l) ml c
def BankD (G : Nat → Prop) (h : Heap) (b d : Nat) (p : Pl) (l : List Nat) : Prop := ∃ r ml c, BankC G h b d r p l ml c
theorem BankC.keep {G : Nat → Prop} {h h' : Heap} {b d r : Nat} {p : Pl} {l : List Nat} {ml : List (Int × Value × Nat)} {c : Nat} (w : BankC G h b d r p l ml c) (e : ∀ k, G k → h k ≠ none → h' k = h k) : BankC G h' b d r p l ml c :=
 ⟨w.pb, w.len, w.gb, w.gr, w.ne, w.hb.keep (e _ w.gb w.hb.ne), by rw [e _ w.gr (by rw [w.hr]; simp), w.hr], w.mm⟩
theorem BankD.keep {G : Nat → Prop} {h h' : Heap} {b d : Nat} {p : Pl} {l : List Nat} (w : BankD G h b d p l) (e : ∀ k, G k → h k ≠ none → h' k = h k) : BankD G h' b d p l := by
 obtain ⟨r, ml, c, w⟩ := w; exact ⟨r, ml, c, w.keep e⟩
section
variable {G : Nat → Prop} {h : Heap} {b d r : Nat} {p : Pl} {l : List Nat} {ml : List (Int × Value × Nat)} {cc : Nat} {Q : QT}
theorem BankC.c0 (w : BankC G h b d r p l ml cc) : h.cell b (0 + 0) = some (.pointer (some ⟨d, 0, none⟩)) := w.hb.cell 0
theorem BankC.c1 (w : BankC G h b d r p l ml cc) : h.cell b (0 + 1) = some (.int .i64 p.pa) := w.hb.cell 1
theorem BankC.c2 (w : BankC G h b d r p l ml cc) : h.cell b (0 + 1 + 1) = some (.int .i64 p.pl) := w.hb.cell 2
theorem BankC.c3 (w : BankC G h b d r p l ml cc) : h.cell b (0 + 1 + 1 + 1) = some (.int .i64 p.ps) := w.hb.cell 3
theorem BankC.c4 (w : BankC G h b d r p l ml cc) : h.cell b (0 + 4) = some (.int .i64 (l.length : Nat)) := w.hb.cell 4
theorem BankC.c5 (w : BankC G h b d r p l ml cc) : h.cell b (0 + 5) = some (.map (some r)) := w.hb.cell 5
theorem K184.c (w : BankD G h b d p l) (hq : Q (.int .i64 ((p.ps : Int) - (l.length : Nat))) h) : CT 184 #[.pointer (some ⟨b, 0, none⟩)] h Q := by
 obtain ⟨r, ml, cc, w⟩ := w
 have := w.pb.s2
 have := w.len
 apply K184.ok
 refine xsIf_f rfl ⟨b, 0, rfl, b, 0, rfl, _, w.hb.cell 3, _, w.c4, ?_⟩
 rw [i64_in _ (by omega)]; exact hq
theorem K75.c {i : Int} (w : BankD G h b d p l) (hy : 0 ≤ i → i < p.pl → Q (.tuple #[.int .i64 (whN p l i.toNat : Nat), .int .i64 0]) h) (hn : ¬ (0 ≤ i ∧ i < p.pl) → Q (.tuple #[.int .i64 0, .int .i64 3]) h) :
  CT 75 #[.pointer (some ⟨b, 0, none⟩), .int .i64 i] h Q := by
 obtain ⟨r, ml, cc, w⟩ := w
 have hs := w.pb.s2
 have hl := w.len
 have hl2 := w.pb.l2
 apply K75.ok
 refine xsIf_f rfl (xsIf_intro (fun h1 => hn (by have := of_decide_eq_true h1; omega)) fun h1 => ⟨b, 0, rfl, _, w.c2, xsIf_intro (fun h2 => hn (by have := of_decide_eq_true h2; omega)) fun h2 => ?_⟩)
 have h1 := of_decide_eq_false h1
 have h2 := of_decide_eq_false h2
 have hy := hy (by omega) (by omega)
 obtain ⟨i, rfl⟩ : ∃ k : Nat, i = k := ⟨i.toNat, by omega⟩
 rw [Int.toNat_natCast] at hy
 refine ⟨b, 0, rfl, _, w.c5, r, rfl, ml, cc, w.hr, fun j v b3 hj => ?_, fun hno => ?_⟩
 ·obtain ⟨k, hk, rfl⟩ := w.mm.found hj
  unfold standsP at hk
  rw [if_pos (by omega)] at hk
  have e : whN p l i = sparN p k := by unfold whN; rw [hk]
  rw [e] at hy
  have := (stN_lt _ hk).1
  exact ⟨_, rfl, b, 0, rfl, _, w.c1, _, w.c2, _, w.c3, K110.c w.pb (by omega) ⟨_, rfl, hy⟩⟩
 ·have hk := w.mm.lacks hno
  unfold standsP at hk
  rw [if_pos (by omega)] at hk
  have e : whN p l i = ownN p i := by unfold whN; rw [hk]
  rw [e] at hy
  exact ⟨b, 0, rfl, _, w.c1, _, w.c2, _, w.c3, K111.c w.pb (by omega) ⟨_, rfl, hy⟩⟩
theorem BankC.grow {n : Nat} (w : BankC G h b d r p l ml cc) (hl : l.length < p.ps) (hd : n = 65535 ∨ (1 ≤ n ∧ n ≤ p.pl)) (hq : ∀ h', BankD G h' b d p (l ++ [n]) → Step G h G h' → Q (.int .i64 0) h') :
  K155.J6 (some ⟨b, 0, none⟩) (l.length : Nat) (n : Nat) h Q := by
 have hs := w.pb.s2
 have hl2 := w.pb.l2
 apply K155.J6.ok
 have e1 : IntKind.i64.wrap (((l.length : Nat) : Int) + 1) = (((l ++ [n]).length : Nat) : Int) := by rw [i64_in _ (by omega)]; simp
 unfold K155.J6.wp
 rw [e1]
 have b1 := w.hb.put (0 + 4) [.int .i64 (((l ++ [n]).length : Nat) : Int)]
 have hk1 : ∀ k, k ≠ b → h.put b (0 + 4) [.int .i64 (((l ++ [n]).length : Nat) : Int)] k = h k := fun k hk => put_other h _ _ hk
 have hr1 : h.put b (0 + 4) [.int .i64 (((l ++ [n]).length : Nat) : Int)] r = some (mapO (Value.int .i64) ml cc) := by rw [hk1 _ (Ne.symm w.ne)]; exact w.hr
 have len' : (l ++ [n]).length ≤ p.ps := by simp; omega
 refine ⟨b, 0, rfl, w.hb.can (by simp), ?_⟩
 rcases hd with rfl | hd
 ·refine xsIf_f rfl (hq _ ⟨r, ml, cc, w.pb, len', w.gb, w.gr, w.ne, b1, hr1, ?_⟩ (Step.put w.gb _ _))
  have := w.mm
  have e : standsP p (l ++ [65535]) = standsP p l := by
   unfold standsP
   rw [stands_snoc]
   funext i
   dsimp only
   by_cases ei : i < p.pl
   ·rw [if_pos ei, if_pos ei, if_neg (by omega)]
   ·rw [if_neg ei, if_neg ei]
  rw [e]; exact this
 ·have e2 : IntKind.i64.wrap (IntKind.i64.wrap ((n : Nat) : Int) - 1) = ((n - 1 : Nat) : Int) := by rw [i64_in ((n : Nat) : Int) (by omega), i64_in _ (by omega)]; omega
  rw [e2]
  have es : standsP p (l ++ [n]) = fset (standsP p l) (n - 1) (some l.length) := by
   unfold standsP
   rw [stands_snoc]
   funext i
   unfold fset
   dsimp only
   by_cases ei : i = n - 1
   ·rw [if_pos ei, if_pos (by omega), if_pos (by omega)]
   ·rw [if_neg ei]
    by_cases e3 : i < p.pl
    ·rw [if_pos e3, if_pos e3, if_neg (by omega)]
    ·rw [if_neg e3, if_neg e3]
  refine xsIf_t (decide_eq_true (by omega)) ⟨b, 0, rfl, _, b1.cell 5, r, rfl, ml, cc, hr1, fun j v b3 hj => ?_, fun hno => ?_⟩
  ·refine hq _ ⟨r, _, _, w.pb, len', w.gb, w.gr, w.ne, b1.keep (upd_ne w.ne), by rw [upd_same], ?_⟩ ((Step.put w.gb _ _).trans (Step.set w.gr _))
   rw [es]; exact w.mm.set (by omega) hj l.length
  ·refine hq _ ⟨r, _, _, w.pb, len', w.gb, w.gr, w.ne, b1.keep (upd_ne w.ne), by rw [upd_same], ?_⟩ ((Step.put w.gb _ _).trans (Step.set w.gr _))
   rw [es]; exact w.mm.add (by omega) (by omega) hno l.length
end
end Go.Gb
namespace Go.Gb
open Go.Proofs IntWalk
theorem Step.left {F G : Nat → Prop} {h h' : Heap} (s : Step F h F h') : Step (fun k => F k ∨ G k) h (fun k => F k ∨ G k) h' := s.widen
theorem Step.right {F G : Nat → Prop} {h h' : Heap} (s : Step G h G h') : Step (fun k => F k ∨ G k) h (fun k => F k ∨ G k) h' :=
 ⟨fun k hf hk => s.keep k (fun h => hf (.inr h)) hk, fun k hk => .inl hk, s.live, fun hl k hk => s.live k (hl k hk)⟩
section
variable {G : Nat → Prop} {h : Heap} {b d : Nat} {p : Pl} {l : List Nat} {Q : QT}
theorem K155.zero {k : Int} (hq : Q (.int .i64 0) h) : CT 155 #[.pointer (some ⟨b, 0, none⟩), .int .i64 k, .int .u64 0] h Q := by
 apply K155.ok
 exact xsIf_t rfl hq
theorem K155.c {v : Nat} (w : BankD G h b d p l) (hl : l.length < p.ps) (hv : validW p.pl v = true) (h64 : v < 18446744073709551616) (h0 : v ≠ 0) (hq : ∀ h', BankD G h' b d p (l ++ [v % 281474976710656]) → Step G h G h' → Q (.int .i64 0) h') :
  CT 155 #[.pointer (some ⟨b, 0, none⟩), .int .i64 (l.length : Nat), .int .u64 (v : Nat)] h Q := by
 obtain ⟨r, ml, cc, w⟩ := w
 have hl2 := w.pb.l2
 obtain ⟨g1, g2⟩ := of_decide_eq_true hv
 apply K155.ok
 refine xsIf_f (decide_eq_false (by omega)) (K146.c h64 ⟨_, _, rfl, ?_⟩)
 rw [if_pos g1, decide_eq_true g1]
 have j6 : K155.J6 (some ⟨b, 0, none⟩) (l.length : Nat) ((v % 281474976710656 : Nat) : Int) h Q := w.grow hl g2 hq
 generalize v % 281474976710656 = n at g2 j6
 have used : ∀ {x : Int}, decide (x ≠ x) = false := decide_eq_false (fun h => h rfl)
 refine xsIf_f rfl (xsIf_intro (fun e1 => xsIf_f (decide_eq_false ?_) ⟨b, 0, rfl, _, w.c2, xsIf_f (decide_eq_false ?_) ⟨b, 0, rfl, _, w.c4, xsIf_f used j6⟩⟩) fun _ => ⟨b, 0, rfl, _, w.c4, xsIf_f used j6⟩)
 ·have e1 : ((n : Nat) : Int) ≠ 65535 := of_decide_eq_true e1
  omega
 ·have e1 : ((n : Nat) : Int) ≠ 65535 := of_decide_eq_true e1
  rw [u64_nat' (by omega)]; omega
end
section
variable {F : Nat → Prop} {h : Heap} {d : Nat} {s : PmS} {Q : QT} {a l n : Int} {p : Pl}
theorem K154.c (w : PmD F h d s) (hq : Q (.int .i64 (checkI a l n s.nl)) h) : CT 154 #[.pointer (some ⟨d, 0, none⟩), .agg #[.int .i64 a, .int .i64 l, .int .i64 n]] h Q := by
 apply K154.ok
 exact xsIf_f rfl (K76.c w ⟨_, rfl, K112.c ⟨_, rfl, hq⟩⟩)
def sfmt (p : Pl) (z : ByteArray) : Nat → Nat → PmS → Int × PmS
 | 0, _, s => (0, s)
 | j + 1, k, s => if (lnput s (p.pa + k : Nat) z).1 = 0 then sfmt p z j (k + 1) (lnput s (p.pa + k : Nat) z).2 else lnput s (p.pa + k : Nat) z
theorem K118.L5.c (hb : PlB p) {m : Nat} (hm : m ≤ 100000) : ∀ (j k : Nat) (h : Heap) (s : PmS), k + j = m → PmD F h d s → Live F h → (∀ h', PmD F h' d (sfmt p zero64 j k s).2 → Step F h F h' → Q (.int .i64 (sfmt p zero64 j k s).1) h') →
  K118.L5 (some ⟨d, 0, none⟩) (m : Int) (k : Int) p.pa p.pl p.ps h Q := by
 intro j
 induction j with
 | zero =>
  intro k h s hk w lv hq
  apply K118.L5.ok
  exact xsIf_f (decide_eq_false (by omega)) (hq h w (Step.refl _ _))
 | succ j ih =>
  intro k h s hk w lv hq
  apply K118.L5.ok
  unfold K118.L5.wp
  have := hb.a2
  rw [show IntKind.i64.wrap ((k : Int) + 1) = ((k + 1 : Nat) : Int) by rw [i64_in _ (by omega)]; omega, show IntKind.i64.wrap ((p.pa : Int) + (k : Int)) = ((p.pa + k : Nat) : Int) by rw [i64_in _ (by omega)]; omega]
  refine xsIf_t (decide_eq_true (by omega)) (strings_Repeat.c (c := 64) (by omega) (by show 1 ≤ 1000000; omega) ⟨_, rfl, ?_⟩)
  show CT 84 #[.pointer (some ⟨d, 0, none⟩), .int .i64 ((p.pa + k : Nat) : Int), .string zero64] h _
  refine K84.c w lv fun h1 w1 st1 => ⟨_, rfl, ?_⟩
  unfold sfmt at hq
  refine xsIf_intro (fun e => ?_) fun e => ?_
  ·have e := of_decide_eq_true e
   rw [if_neg e] at hq
   exact hq h1 w1 st1
  ·have e : (lnput s (p.pa + k : Nat) zero64).1 = 0 := by simpa using e
   rw [if_pos e] at hq
   exact ih (k + 1) h1 _ (by omega) w1 (st1.dom lv) fun h' w' st => hq h' w' (st1.trans st)
def sformat (p : Pl) (s : PmS) : Int × PmS := sfmt p zero64 (tblN p + p.pl) 0 s
theorem K118.c (w : PmD F h d s) (lv : Live F h) (ok : PlOk p s.nl) (hq : ∀ h', PmD F h' d (sformat p s).2 → Step F h F h' → Q (.int .i64 (sformat p s).1) h') : CT 118 #[.pointer (some ⟨d, 0, none⟩), plV p] h Q := by
 apply K118.ok
 refine K154.c w ⟨_, rfl, ?_⟩
 rw [ok.check]
 have hb := ok.b
 have := tblN_le hb
 have := hb.l2
 refine xsIf_f rfl (K80.c hb ⟨_, rfl, ?_⟩)
 rw [i64_in _ (by omega), show ((tblN p : Nat) : Int) + (p.pl : Int) = ((tblN p + p.pl : Nat) : Int) by omega]
 exact K118.L5.c hb (by omega) (tblN p + p.pl) 0 h s (by omega) w lv hq
theorem entsTo_step {lines : Nat} {f : Nat → Nat} {m k : Nat} {l : List Nat} (h : entsTo lines f m = some l) (hk : k ≤ m) : ∃ l', entsTo lines f k = some l' := by
  induction m generalizing l with
  | zero => obtain rfl : k = 0 := by omega
            exact ⟨_, rfl⟩
  | succ m ih =>
    by_cases e : k = m + 1
    · rw [e]; exact ⟨l, h⟩
    · unfold entsTo at h
      cases e2 : entsTo lines f m with
      | none => rw [e2] at h; cases h
      | some l2 => exact ih e2 (by omega)
theorem K119.L6.c {G : Nat → Prop} {b : Nat} {l0 : List Nat} (hb : PlB p) (w : PmD F h d s) (ho : s.off = false) (hf : 8 * p.pa + p.ps ≤ 8 * s.nl) (wok : PmOk s) (he : sents s p = some l0) (ap : Apart F G) : ∀ (j k : Nat) (h' : Heap) (l : List Nat), k + j = p.ps → entsTo p.pl (twd s p) k = some l → BankD G h' b d p l → PmD F h' d s →
  (∀ h'', BankD G h'' b d p l0 → Step G h' G h'' → Q (.tuple #[.pointer (some ⟨b, 0, none⟩), .int .i64 0]) h'') →
  K119.L6 (some ⟨d, 0, none⟩) (some ⟨b, 0, none⟩) (p.ps : Int) (k : Int) p.pa p.pl p.ps h' Q := by
 have hs := hb.s2
 have ha := hb.a2
 intro j
 induction j with
 | zero =>
  intro k h' l hk hl wb wd hq
  apply K119.L6.ok
  have : k = p.ps := by omega
  subst this
  have : l = l0 := by unfold sents at he; rw [hl] at he; cases he; rfl
  subst this
  exact xsIf_f (decide_eq_false (by omega)) (hq h' wb (Step.refl _ _))
 | succ j ih =>
  intro k h' l hk hl wb wd hq
  apply K119.L6.ok
  unfold K119.L6.wp
  rw [show IntKind.i64.wrap ((k : Int) + 1) = ((k + 1 : Nat) : Int) by rw [i64_in _ (by omega)]; omega, show IntKind.i64.wrap (IntKind.i64.wrap ((p.pa : Int) * 8) + (k : Int)) = ((8 * p.pa + k : Nat) : Int) by rw [i64_in ((p.pa : Int) * 8) (by omega), i64_in _ (by omega)]; omega]
  refine xsIf_t (decide_eq_true (by omega)) (K126.c wd ⟨_, _, rfl, ?_⟩)
  have hld : pload s ((8 * p.pa + k : Nat) : Int) = (pval s (8 * p.pa + k), 0) := by
   have e : pready s ((8 * p.pa + k : Nat) : Int) ((8 * s.nl : Nat) : Int) = 0 := by unfold pready; rw [ho, if_neg (by simp)]; exact if_pos (by omega)
   unfold pload pval; rw [if_pos e, Int.toNat_natCast]; first | done | (cases s.buf (8 * p.pa + k) <;> rfl)
  rw [hld]
  refine xsIf_f rfl ?_
  have hv := wok.val (8 * p.pa + k)
  unfold R64 at hv
  have ev : pval s (8 * p.pa + k) = ((twd s p k : Nat) : Int) := by unfold twd; omega
  show CT 155 #[.pointer (some ⟨b, 0, none⟩), .int .i64 (k : Int), .int .u64 (pval s (8 * p.pa + k))] h' _
  rw [ev]
  obtain ⟨l2, h2⟩ := entsTo_step (k := k + 1) he (by omega)
  have h3 := h2
  unfold entsTo at h3
  rw [hl] at h3
  dsimp only at h3
  by_cases e0 : twd s p k = 0
  ·rw [if_pos e0] at h3
   cases h3
   rw [e0]
   exact K155.zero ⟨_, rfl, xsIf_f rfl (ih (k + 1) h' l (by omega) h2 wb wd hq)⟩
  ·rw [if_neg e0] at h3
   by_cases e1 : validW p.pl (twd s p k) = true ∧ l.length = k
   ·rw [if_pos e1] at h3
    cases h3
    obtain ⟨e1, rfl⟩ := e1
    refine K155.c wb (by omega) e1 (by omega) e0 fun h'' wb' st => ⟨_, rfl, xsIf_f rfl ?_⟩
    exact ih (l.length + 1) h'' _ (by omega) h2 wb' (wd.keep (st.same ap.symm)) fun h3 wb3 st3 => hq h3 wb3 (st.trans st3)
   ·rw [if_neg e1] at h3; cases h3
theorem K119.c {l0 : List Nat} (w : PmD F h d s) (lv : Live F h) (i : SpI p s l0)
  (hq : ∀ b G h', BankD G h' b d p l0 → PmD F h' d s → (∀ k, G k → h k = none) → Live F h' → Live G h' → Part h h' → Q (.tuple #[.pointer (some ⟨b, 0, none⟩), .int .i64 0]) h') :
  CT 119 #[.pointer (some ⟨d, 0, none⟩), plV p] h Q := by
 apply K119.ok
 refine K154.c w ⟨_, rfl, ?_⟩
 rw [i.ok.check]
 refine xsIf_f rfl fun r hr b hb => ?_
 obtain ⟨nbr, hb0⟩ := fresh_ne hb
 generalize hh2 : upd (upd h r (Obj.map #[] 0)) b (Obj.cells #[.pointer (some ⟨d, 0, none⟩), .int .i64 p.pa, .int .i64 p.pl, .int .i64 p.ps, .int .i64 0, .map (some r)] 173 (0, 0)) = h2
 have hk2 : ∀ k, h k ≠ none → h2 k = h k := fun k hk => by
  rw [← hh2, upd_ne (fun e => hk (by rw [e]; exact hb0)), upd_ne (fun e => hk (by rw [e]; exact hr))]
 have w2 : PmD F h2 d s := w.keep fun k _ hk => hk2 k hk
 have wb : BankD (fun k => k = b ∨ k = r) h2 b d p [] := by
  refine ⟨r, [], 0, i.ok.b, Nat.zero_le _, .inl rfl, .inr rfl, nbr, ?_, ?_, ?_⟩
  ·rw [← hh2]; exact Blk.new _ _ _ _
  ·rw [← hh2, upd_ne (Ne.symm nbr), upd_same]; rfl
  ·have : standsP p [] = fun _ => none := by
    funext i; unfold standsP; split <;> rfl
   rw [this]; exact MapG.empty
 have fit := i.ok.fit
 have hfit : 8 * p.pa + p.ps ≤ 8 * s.nl := by unfold sizeN tblN at fit; omega
 have ap : Apart F (fun k => k = b ∨ k = r) := fun k hk hf => by
  rcases hk with rfl | rfl
  ·exact lv _ hf hb0
  ·exact lv _ hf hr
 have lf2 : Live F h2 := fun k hk => by rw [hk2 k (lv k hk)]; exact lv k hk
 have lg2 : Live (fun k => k = b ∨ k = r) h2 := fun k hk => by
  rcases hk with rfl | rfl
  ·rw [← hh2, upd_same]; simp
  ·rw [← hh2, upd_ne (Ne.symm nbr), upd_same]; simp
 refine K119.L6.c (h := h2) (l0 := l0) i.ok.b w2 i.on.off hfit i.w i.en ap p.ps 0 h2 [] (by omega) rfl wb w2 fun h3 wb3 st3 => ?_
 refine hq b _ h3 wb3 (w2.keep (st3.same ap.symm)) (fun k hk => ?_) (st3.alive lf2) (st3.dom lg2) fun k o hko => ?_
 ·rcases hk with rfl | rfl
  ·exact hb0
  ·exact hr
 ·have hkn : h k ≠ none := by rw [hko]; simp
  have : ¬ (k = b ∨ k = r) := fun e => by
   rcases e with rfl | rfl
   ·exact hkn hb0
   ·exact hkn hr
  rw [st3.keep k this (by rw [hk2 k hkn]; exact hkn), hk2 k hkn]; exact hko
end
end Go.Gb
namespace Go.Gb
open Go.Proofs IntWalk
structure DB (F G : Nat → Prop) (h : Heap) (d b : Nat) (p : Pl) (s : PmS) (l : List Nat) : Prop where
 dv : PmD F h d s
 bk : BankD G h b d p l
 lf : Live F h
 lg : Live G h
 ap : Apart F G
abbrev FG (F G : Nat → Prop) : Nat → Prop := fun k => F k ∨ G k
section
variable {F G : Nat → Prop} {h : Heap} {d b : Nat} {p : Pl} {s : PmS} {l : List Nat} {Q : QT}
theorem DB.dev {s' : PmS} {h' : Heap} (w : DB F G h d b p s l) (w' : PmD F h' d s') (st : Step F h F h') : DB F G h' d b p s' l :=
 ⟨w', w.bk.keep (st.same w.ap), st.dom w.lf, st.alive w.lg, w.ap⟩
theorem DB.bank {l' : List Nat} {h' : Heap} (w : DB F G h d b p s l) (w' : BankD G h' b d p l') (st : Step G h G h') : DB F G h' d b p s l' :=
 ⟨w.dv.keep (st.same w.ap.symm), w', st.alive w.lf, st.dom w.lg, w.ap⟩
theorem DB.part {h' : Heap} (w : DB F G h d b p s l) (pt : Part h h') : DB F G h' d b p s l :=
 ⟨w.dv.keep fun _ _ hk => part_live pt hk, w.bk.keep fun _ _ hk => part_live pt hk, (Step.of_part pt).dom w.lf, (Step.of_part pt).dom w.lg, w.ap⟩
theorem K128.c {i : Int} (w : DB F G h d b p s l) (ok : PmOk s) (hy : 0 ≤ i → i < p.pl → Q (.tuple #[.string (lnget s (whN p l i.toNat : Nat)).1, .int .i64 (lnget s (whN p l i.toNat : Nat)).2]) h) (hn : ¬ (0 ≤ i ∧ i < p.pl) → Q (.tuple #[.string ⟨#[]⟩, .int .i64 3]) h) :
  CT 128 #[.pointer (some ⟨b, 0, none⟩), .int .i64 i] h Q := by
 apply K128.ok
 refine K75.c w.bk (fun h0 h1 => ⟨_, _, rfl, xsIf_f rfl ?_⟩) fun h0 => ⟨_, _, rfl, xsIf_t rfl (hn h0)⟩
 obtain ⟨r, ml, cc, wb⟩ := w.bk
 exact ⟨b, 0, rfl, _, wb.c0, K88.c w.dv ok ⟨_, _, rfl, hy h0 h1⟩⟩
set_option maxRecDepth 100000 in
theorem K185.c {x : Nat} (w : DB F G h d b p s l) (hl : l.length < p.ps) (hx : x = 65535 ∨ (1 ≤ x ∧ x ≤ p.pl))
  (hq : ∀ h', DB F G h' d b p (lnputw s (p.pa + l.length / 8 : Nat) (l.length % 8 : Nat) (guardN x : Nat)).2 (if (lnputw s (p.pa + l.length / 8 : Nat) (l.length % 8 : Nat) (guardN x : Nat)).1 = 0 then l ++ [x] else l) → Step (FG F G) h (FG F G) h' →
   Q (.int .i64 (lnputw s (p.pa + l.length / 8 : Nat) (l.length % 8 : Nat) (guardN x : Nat)).1) h') :
  CT 185 #[.pointer (some ⟨b, 0, none⟩), .int .u64 (x : Nat)] h Q := by
 obtain ⟨r, ml, cc, wb⟩ := w.bk
 have hs := wb.pb.s2
 have ha := wb.pb.a2
 have hl2 := wb.pb.l2
 obtain ⟨v1, v2, v3⟩ := guardN_valid hx hl2
 apply K185.ok
 have e1 : IntKind.i64.wrap ((p.pa : Int) + iquo .i64 ((l.length : Nat) : Int) 8) = ((p.pa + l.length / 8 : Nat) : Int) := by
  rw [iquo_i64 (by omega) (by omega) (by omega), i64_in _ (by omega)]; omega
 have e2 : irem ((l.length : Nat) : Int) 8 = ((l.length % 8 : Nat) : Int) := irem_nat _ 8
 have main : CT 156 #[.pointer (some ⟨d, 0, none⟩), .int .i64 (IntKind.i64.wrap ((p.pa : Int) + iquo .i64 ((l.length : Nat) : Int) 8)), .int .i64 (irem ((l.length : Nat) : Int) 8), .int .u64 (guardN x : Nat)] h fun (r : Value) (h' : Heap) =>
   ∃ (e : Int), r = .int .i64 e ∧ K185.J2 (some ⟨b, 0, none⟩) (x : Nat) e h' Q := by
  rw [e1, e2]
  refine K156.c w.dv w.lf fun h1 w1 st1 => ⟨_, rfl, ?_⟩
  apply K185.J2.ok
  have db1 := w.dev w1 st1
  have wb1 := wb.keep (st1.same w.ap)
  refine xsIf_intro (fun e => ?_) fun e => ?_
  ·have e := of_decide_eq_true e
   rw [e, if_pos rfl] at hq
   have en : CT 155 #[.pointer (some ⟨b, 0, none⟩), .int .i64 (l.length : Nat), .int .u64 (guardN x : Nat)] h1 fun (r : Value) (h' : Heap) => ∃ (x : Int), r = .int .i64 x ∧ Q (.int .i64 x) h' := by
    refine K155.c ⟨r, ml, cc, wb1⟩ hl v1 (guardN_lt x) v2 fun h2 wb2 st2 => ⟨_, rfl, hq h2 ?_ (st1.left.trans st2.right)⟩
    rw [v3] at wb2
    exact db1.bank wb2 st2
   exact ⟨b, 0, rfl, ⟨_, wb1.c4, K93.c (by omega) ⟨_, rfl, en⟩⟩, K93.c (by omega) ⟨_, rfl, _, wb1.c4, en⟩⟩
  ·have e := of_decide_eq_false e
   rw [if_neg e] at hq
   exact hq h1 db1 st1.left
 have gd : ∀ {K : Int → Prop}, K (guardN x : Nat) → CT 93 #[.int .u64 (x : Nat)] h fun (r : Value) (h' : Heap) => ∃ (y : Int), r = .int .u64 y ∧ (h' = h ∧ K y) := fun hk => K93.c (by omega) ⟨_, rfl, rfl, hk⟩
 refine ⟨b, 0, rfl, b, 0, rfl, b, 0, rfl, b, 0, rfl, ?_⟩
 have c1 : h.cell b (0 + 1 + 0) = some (.int .i64 p.pa) := wb.c1
 repeat' (first | exact main | (refine And.intro ?_ ?_) | (refine ⟨_, wb.c0, ?_⟩) | (refine ⟨_, c1, ?_⟩) | (refine ⟨_, wb.c4, ?_⟩) | (refine K93.c (by omega) ⟨_, rfl, ?_⟩))
end
end Go.Gb
namespace Go.Gb
open Go.Proofs IntWalk
theorem Cl.of {s : PmS} (c : Cl { s with count := 0 }) (h0 : 0 ≤ s.count) (h1 : s.count < 1000000000) : Cl s := ⟨c.off, c.fuse, c.buf, h0, h1⟩
theorem Cl.new (n : Nat) : Cl (pnew n) := ⟨rfl, rfl, fun _ _ => rfl, Int.le_refl _, by show (0 : Int) < _; omega⟩
theorem bytes_word_eq {b c : ByteArray} (hb : b.size = 64) (hc : c.size = 64) (h : ∀ k, k < 8 → wordAt b k = wordAt c k) : b = c := by
 rw [← lnbytes_words b hb, ← lnbytes_words c hc]
 unfold lnbytes
 rw [textN_congr 8 h]
end Go.Gb
namespace Go.Gb
open Go.Proofs IntWalk
theorem chunk_left {a b : List UInt8} {j : Nat} (h : 8 * j + 8 ≤ a.length) : chunk (a ++ b) j = chunk a j := by
 unfold chunk
 rw [List.drop_append_of_le_length (by omega), List.take_append_of_le_length (by rw [List.length_drop]; omega)]
theorem chunk_right {a b : List UInt8} {j n : Nat} (h : a.length = 8 * n) (hj : n ≤ j) : chunk (a ++ b) j = chunk b (j - n) := by
 unfold chunk
 have e : 8 * j = a.length + 8 * (j - n) := by omega
 rw [e, List.drop_append, List.drop_of_length_le (show a.length ≤ a.length + 8 * (j - n) by omega), Nat.add_sub_cancel_left, List.nil_append]
theorem chunk_take {a : List UInt8} {j n : Nat} (hj : j < n) : chunk (a.take (8 * n)) j = chunk a j := by
 unfold chunk
 rw [List.drop_take, List.take_take, show min 8 (8 * n - 8 * j) = 8 by omega]
theorem chunk_drop {a : List UInt8} {j n : Nat} : chunk (a.drop (8 * n)) j = chunk a (n + j) := by
 unfold chunk
 rw [List.drop_drop, show 8 * n + 8 * j = 8 * (n + j) by omega]
theorem with_text {w : ByteArray} {k v : Nat} (hw : w.size = 64) (hk : k < 8) (hv : v < 18446744073709551616) :
  sext w 0 ((8 * k : Nat) : Int) ++ ⟨(putL v 8).toArray⟩ ++ sext w ((8 * (k + 1) : Nat) : Int) (w.size : Int) = withW w k v := by
 have hl : w.data.toList.length = 64 := by
  have : w.data.toList.length = w.size := by simp
  omega
 have e1 : sext w 0 ((8 * k : Nat) : Int) = ⟨(w.data.toList.take (8 * k)).toArray⟩ := by
  unfold sext
  apply ByteArray.ext
  rw [Int.toNat_natCast, ByteArray.data_extract]
  apply Array.ext'
  rw [Array.toList_extract, List.extract_eq_take_drop]
  show (w.data.toList.drop 0).take (8 * k - 0) = _
  simp
 have e2 : sext w ((8 * (k + 1) : Nat) : Int) (w.size : Int) = ⟨(w.data.toList.drop (8 * (k + 1))).toArray⟩ := by
  unfold sext
  apply ByteArray.ext
  rw [Int.toNat_natCast, Int.toNat_natCast, ByteArray.data_extract]
  apply Array.ext'
  rw [Array.toList_extract, List.extract_eq_take_drop, List.take_of_length_le]
  rw [List.length_drop, hl]; omega
 have hb : ∀ j, (if j = k then v else wordAt w j) < 18446744073709551616 := fun j => by split; exact hv; exact wordAt_lt _ _
 rw [e1, e2, bytes_append, bytes_append]
 have ta : (w.data.toList.take (8 * k)).length = 8 * k := by rw [List.length_take, hl]; omega
 refine bytes_word_eq ?_ (withW_size _ _ _) fun j hj => ?_
 ·rw [bytes_size, List.length_append, List.length_append, ta, putL_length, List.length_drop, hl]; omega
 ·unfold withW
  rw [wordAt_text hj (hb j)]
  show getL (chunk (w.data.toList.take (8 * k) ++ putL v 8 ++ w.data.toList.drop (8 * (k + 1))) j) = _
  rw [List.append_assoc]
  by_cases h1 : j < k
  ·rw [chunk_left (by rw [ta]; omega), chunk_take h1, if_neg (by omega)]; rfl
  ·rw [chunk_right ta (by omega)]
   by_cases h2 : j = k
   ·subst h2
    rw [Nat.sub_self, chunk_left (by rw [putL_length]; omega), if_pos rfl]
    unfold chunk
    rw [List.drop_zero, List.take_of_length_le (by rw [putL_length]; omega), getL_put]
    exact Nat.mod_eq_of_lt hv
   ·rw [chunk_right (n := 1) (by rw [putL_length]) (by omega), chunk_drop, if_neg h2, show k + 1 + (j - k - 1) = j by omega]; rfl
section
variable {F G : Nat → Prop} {h : Heap} {d b : Nat} {p : Pl} {s : PmS} {l : List Nat} {Q : QT}
open Classical in
theorem took_yes {s : PmS} {a : Nat} {x : ByteArray} (t : lntook s (a : Int) x) : took s a x = true := by unfold took; exact decide_eq_true t
open Classical in
theorem took_no {s : PmS} {a : Nat} {x : ByteArray} (t : ¬ lntook s (a : Int) x) : ¬ took s a x = true := by unfold took; rw [decide_eq_false t]; simp
theorem K157.L1.c {i : Nat} {B : ByteArray} (hi : i < p.pl) : ∀ (m : Nat) (h : Heap) (s : PmS) (l : List Nat), l.length + m = p.ps → DB F G h d b p s l →
  (∀ h', DB F G h' d b p (sretire p i B m s l).2.1 (sretire p i B m s l).2.2 → Step (FG F G) h (FG F G) h' → Q (.int .i64 (sretire p i B m s l).1) h') → K157.L1 (some ⟨b, 0, none⟩) (i : Int) B h Q := by
 intro m
 induction m with
 | zero =>
  intro h s l hm w hq
  apply K157.L1.ok
  refine K184.c w.bk ⟨_, rfl, xsIf_f (decide_eq_false (by omega)) (hq h w (Step.refl _ _))⟩
 | succ m ih =>
  intro h s l hm w hq
  obtain ⟨r, ml, cc, wb⟩ := w.bk
  have hs := wb.pb.s2
  have hl2 := wb.pb.l2
  apply K157.L1.ok
  refine K184.c w.bk ⟨_, rfl, xsIf_t (decide_eq_true (by omega)) ⟨b, 0, rfl, b, 0, rfl, _, wb.c1, _, wb.c2, _, wb.c3, _, wb.c4, K110.c wb.pb (by omega) ⟨_, rfl, b, 0, rfl, _, wb.c0, K84.c w.dv w.lf fun h1 w1 st1 => ⟨_, rfl, ?_⟩⟩⟩⟩
  unfold sretire at hq
  have db1 := w.dev w1 st1
  have wb1 := wb.keep (st1.same w.ap)
  refine xsIf_intro (fun e => ?_) fun e => ?_
  ·have e := of_decide_eq_true e
   rw [if_neg e] at hq
   exact hq h1 db1 st1.left
  ·have e : (lnput s (sparN p l.length : Nat) B).1 = 0 := by simpa using e
   rw [if_pos e] at hq
   generalize (lnput s (sparN p l.length : Nat) B).2 = s1 at hq w1 db1
   refine ⟨b, 0, rfl, _, wb1.c0, K123.c w1 (fun t => ⟨_, rfl, xsIf_t rfl ?_⟩) fun t => ⟨_, rfl, xsIf_f rfl ?_⟩⟩
   ·rw [if_pos (took_yes t)] at hq
    rw [show IntKind.u64.wrap (IntKind.u64.wrap (i : Int) + 1) = ((i + 1 : Nat) : Int) by rw [u64_nat' (by omega), show ((i : Int) + 1) = ((i + 1 : Nat) : Int) by omega, u64_nat' (by omega)]]
    exact K185.c db1 (by omega) (.inr ⟨by omega, by omega⟩) fun h2 db2 st2 => ⟨_, rfl, hq h2 db2 (st1.left.trans st2)⟩
   ·rw [if_neg (took_no t)] at hq
    refine K185.c (x := 65535) db1 (by omega) (.inl rfl) fun h2 db2 st2 => ⟨_, rfl, ?_⟩
    refine xsIf_intro (fun e2 => ?_) fun e2 => ?_
    ·have e2 := of_decide_eq_true e2
     rw [if_neg e2] at hq db2
     exact hq h2 db2 (st1.left.trans st2)
    ·have e2 : (lnputw s1 (p.pa + l.length / 8 : Nat) (l.length % 8 : Nat) (guardN 65535 : Nat)).1 = 0 := by simpa using e2
     rw [if_pos e2] at hq db2
     exact ih h2 _ _ (by simp; omega) db2 fun h3 db3 st3 => hq h3 db3 ((st1.left.trans st2).trans st3)
theorem K157.c {i : Nat} {B : ByteArray} (hi : i < p.pl) (w : DB F G h d b p s l)
  (hq : ∀ h', DB F G h' d b p (sretire p i B (p.ps - l.length) s l).2.1 (sretire p i B (p.ps - l.length) s l).2.2 → Step (FG F G) h (FG F G) h' → Q (.int .i64 (sretire p i B (p.ps - l.length) s l).1) h') :
  CT 157 #[.pointer (some ⟨b, 0, none⟩), .int .i64 (i : Int), .string B] h Q := by
 obtain ⟨r, ml, cc, wb⟩ := w.bk
 have := wb.len
 apply K157.ok
 exact K157.L1.c hi (p.ps - l.length) h s l (by omega) w hq
noncomputable def sWrite (p : Pl) (l : List Nat) (s : PmS) (i : Int) (b : ByteArray) : Int × PmS × List Nat :=
 if b.size = 64 then (if 0 ≤ i ∧ i < p.pl then swrite p l s i.toNat b else (3, s, l)) else (2, s, l)
noncomputable def sWriteWord (p : Pl) (l : List Nat) (s : PmS) (i k : Int) (v : Nat) : Int × PmS × List Nat :=
 if 0 ≤ k ∧ k < 8 then (if 0 ≤ i ∧ i < p.pl then swritew p l s i.toNat k.toNat v else (3, s, l)) else (2, s, l)
theorem K164.c {i : Int} {B : ByteArray} (w : DB F G h d b p s l)
  (hq : ∀ h', DB F G h' d b p (sWrite p l s i B).2.1 (sWrite p l s i B).2.2 → Step (FG F G) h (FG F G) h' → Q (.int .i64 (sWrite p l s i B).1) h') :
  CT 164 #[.pointer (some ⟨b, 0, none⟩), .int .i64 i, .string B] h Q := by
 obtain ⟨r, ml, cc, wb⟩ := w.bk
 apply K164.ok
 unfold sWrite at hq
 refine K75.c w.bk (fun h0 h1 => ⟨_, _, rfl, xsIf_f rfl ?_⟩) fun h0 => ⟨_, _, rfl, xsIf_f rfl ?_⟩
 ·by_cases hb : B.size = 64
  ·rw [if_pos hb, if_pos ⟨h0, h1⟩] at hq
   obtain ⟨i, rfl⟩ : ∃ k : Nat, i = k := ⟨i.toNat, by omega⟩
   rw [Int.toNat_natCast] at hq ⊢
   unfold swrite at hq
   refine xsIf_f (decide_eq_false (by omega)) (xsIf_f rfl ⟨b, 0, rfl, _, wb.c0, K84.c w.dv w.lf fun h1 w1 st1 => ⟨_, rfl, ?_⟩⟩)
   have db1 := w.dev w1 st1
   have wb1 := wb.keep (st1.same w.ap)
   refine xsIf_intro (fun e => ?_) fun e => ?_
   ·have e := of_decide_eq_true e
    rw [if_neg e] at hq
    exact hq _ db1 st1.left
   ·have e : (lnput s (whN p l i : Nat) B).1 = 0 := by simpa using e
    rw [if_pos e] at hq
    generalize (lnput s (whN p l i : Nat) B).2 = s1 at hq w1 db1
    refine ⟨b, 0, rfl, _, wb1.c0, K123.c w1 (fun t => ⟨_, rfl, xsIf_t rfl ?_⟩) fun t => ⟨_, rfl, xsIf_f rfl ?_⟩⟩
    ·rw [if_pos (took_yes t)] at hq
     exact hq _ db1 st1.left
    ·rw [if_neg (took_no t)] at hq
     exact K157.c (by omega) db1 fun h2 db2 st2 => ⟨_, rfl, hq h2 db2 (st1.left.trans st2)⟩
  ·rw [if_neg hb] at hq
   exact xsIf_t (decide_eq_true (by omega)) (hq h w (Step.refl _ _))
 ·by_cases hb : B.size = 64
  ·rw [if_pos hb, if_neg h0] at hq
   exact xsIf_f (decide_eq_false (by omega)) (xsIf_t rfl (hq h w (Step.refl _ _)))
  ·rw [if_neg hb] at hq
   exact xsIf_t (decide_eq_true (by omega)) (hq h w (Step.refl _ _))
theorem lnget_size {a : Nat} (h0 : (lnget s (a : Int)).2 = 0) : (lnget s (a : Int)).1.size = 64 := by
 unfold lnget at h0 ⊢
 split
 ·rename_i h; rw [if_pos h] at h0; cases h0
 ·rename_i h
  rw [if_neg h] at h0
  split
  ·exact lnbytes_size _
  ·rename_i h2; rw [if_neg h2] at h0; cases h0
theorem K120.c {i k : Int} {v : Nat} (w : DB F G h d b p s l) (ok : PmOk s) (hv : v < 18446744073709551616)
  (hq : ∀ h', DB F G h' d b p (sWriteWord p l s i k v).2.1 (sWriteWord p l s i k v).2.2 → Step (FG F G) h (FG F G) h' → Q (.int .i64 (sWriteWord p l s i k v).1) h') :
  CT 120 #[.pointer (some ⟨b, 0, none⟩), .int .i64 i, .int .i64 k, .int .u64 (v : Nat)] h Q := by
 obtain ⟨r, ml, cc, wb⟩ := w.bk
 apply K120.ok
 unfold sWriteWord at hq
 have kk : ∀ {X : Prop} {e : Int}, (¬ (0 ≤ k ∧ k < 8) → X) → (0 ≤ k → k < 8 → X) → X := fun a c => by
  by_cases h : 0 ≤ k ∧ k < 8
  ·exact c h.1 h.2
  ·exact a h
 refine K75.c w.bk (fun h0 h1 => ⟨_, _, rfl, xsIf_f rfl ?_⟩) fun h0 => ⟨_, _, rfl, xsIf_f rfl ?_⟩
 ·refine xsIf_intro (fun e1 => ?_) fun e1 => xsIf_intro (fun e2 => ?_) fun e2 => ?_
  ·have e1 := of_decide_eq_true e1
   rw [if_neg (by omega)] at hq
   exact hq h w (Step.refl _ _)
  ·have e2 := of_decide_eq_true e2
   rw [if_neg (by omega)] at hq
   exact hq h w (Step.refl _ _)
  ·have e1 := of_decide_eq_false e1
   have e2 := of_decide_eq_false e2
   rw [if_pos (by omega), if_pos ⟨h0, h1⟩] at hq
   obtain ⟨i, rfl⟩ : ∃ j : Nat, i = j := ⟨i.toNat, by omega⟩
   obtain ⟨k, rfl⟩ : ∃ j : Nat, k = j := ⟨k.toNat, by omega⟩
   rw [Int.toNat_natCast, Int.toNat_natCast] at hq
   rw [Int.toNat_natCast]
   unfold swritew at hq
   refine xsIf_f rfl ⟨b, 0, rfl, _, wb.c0, K88.c w.dv ok ⟨_, _, rfl, ?_⟩⟩
   refine xsIf_intro (fun e => ?_) fun e => ?_
   ·have e := of_decide_eq_true e
    rw [if_neg e] at hq
    exact hq h w (Step.refl _ _)
   ·have e : (lnget s (whN p l i : Nat)).2 = 0 := by simpa using e
    rw [if_pos e] at hq
    have hz := lnget_size e
    generalize (lnget s (whN p l i : Nat)).1 = was at hq hz
    have w1 : IntKind.i64.wrap (8 * (k : Int)) = ((8 * k : Nat) : Int) := by rw [i64_in _ (by omega)]; omega
    have w2 : IntKind.i64.wrap (8 * IntKind.i64.wrap ((k : Int) + 1)) = ((8 * (k + 1) : Nat) : Int) := by rw [i64_in ((k : Int) + 1) (by omega), i64_in _ (by omega)]; omega
    rw [w1, w2]
    refine ⟨by omega, by omega, K20.c hv ⟨_, rfl, ?_⟩⟩
    rw [show cnt 8 = 8 by decide, with_text hz (by omega) hv]
    have s1 : (sext was 0 ((8 * k : Nat) : Int)).size ≤ 64 := by unfold sext; rw [ByteArray.size_extract]; omega
    have s2 : (⟨(putL v 8).toArray⟩ : ByteArray).size = 8 := by rw [bytes_size, putL_length]
    have s3 : (sext was ((8 * (k + 1) : Nat) : Int) (was.size : Int)).size ≤ 64 := by unfold sext; rw [ByteArray.size_extract]; omega
    refine ⟨by rw [s2]; omega, by rw [ByteArray.size_append, s2]; omega, b, 0, rfl, _, wb.c0, K156.c w.dv w.lf fun h1 w1 st1 => ⟨_, rfl, ?_⟩⟩
    have db1 := w.dev w1 st1
    have wb1 := wb.keep (st1.same w.ap)
    refine xsIf_intro (fun e => ?_) fun e => ?_
    ·have e := of_decide_eq_true e
     rw [if_neg e] at hq
     exact hq _ db1 st1.left
    ·have e : (lnputw s (whN p l i : Nat) (k : Nat) (v : Nat)).1 = 0 := by simpa using e
     rw [if_pos e] at hq
     generalize (lnputw s (whN p l i : Nat) (k : Nat) (v : Nat)).2 = s1 at hq w1 db1
     refine ⟨b, 0, rfl, _, wb1.c0, K123.c w1 (fun t => ⟨_, rfl, xsIf_t rfl ?_⟩) fun t => ⟨_, rfl, xsIf_f rfl ?_⟩⟩
     ·rw [if_pos (took_yes t)] at hq
      exact hq _ db1 st1.left
     ·rw [if_neg (took_no t)] at hq
      exact K157.c (by omega) db1 fun h2 db2 st2 => ⟨_, rfl, hq h2 db2 (st1.left.trans st2)⟩
 ·refine xsIf_intro (fun e1 => ?_) fun e1 => xsIf_intro (fun e2 => ?_) fun e2 => ?_
  ·have e1 := of_decide_eq_true e1
   rw [if_neg (by omega)] at hq
   exact hq h w (Step.refl _ _)
  ·have e2 := of_decide_eq_true e2
   rw [if_neg (by omega)] at hq
   exact hq h w (Step.refl _ _)
  ·have e1 := of_decide_eq_false e1
   have e2 := of_decide_eq_false e2
   rw [if_pos (by omega), if_neg h0] at hq
   exact xsIf_t rfl (hq h w (Step.refl _ _))
end
end Go.Gb
namespace Go.Gb
open Go.Proofs IntWalk
end Go.Gb
namespace Go.Gb
open Go.Proofs IntWalk
section
variable {F : Nat → Prop} {m : Nat} {p : Pl} {Q : Value → Heap → Prop}
theorem media_took {s : PmS} {a : Nat} {B : ByteArray} (ok : PmOk s) (ha : a < s.nl) (hb : B.size = 64) : (lnbytes (fun k => (s.media (8 * a + k)).toNat) = B) ↔ took s a B = true := by
 have hv : ∀ k, (s.media (8 * a + k)).toNat < 18446744073709551616 ∧ s.media (8 * a + k) = (((s.media (8 * a + k)).toNat : Nat) : Int) := fun k => by
  have := ok.media (8 * a + k); unfold R64 at this; omega
 have wx : ∀ k, k < 8 → wordAt (lnbytes fun k => (s.media (8 * a + k)).toNat) k = (s.media (8 * a + k)).toNat := fun k hk => wordAt_text hk (hv k).1
 have lt : lthere s (a : Int) = 0 := by unfold lthere; exact if_pos (by omega)
 constructor
 ·intro e
  refine took_yes ⟨hb, lt, fun k hk => ?_⟩
  rw [Int.toNat_natCast, ← e, wx k hk]; exact (hv k).2
 ·intro t
  have t : lntook s (a : Int) B := Classical.byContradiction fun n => took_no n t
  refine bytes_word_eq (lnbytes_size _) hb fun k hk => ?_
  rw [wx k hk]
  have h1 := t.2.2 k hk
  rw [Int.toNat_natCast] at h1
  have h2 := (hv k).2
  omega
variable {h : Heap} {s : PmS} {l : List Nat}
end
end Go.Gb
namespace Go.Gb
open Go.Proofs IntWalk
def mixP (was is0 got : ByteArray) : Prop := was.size = 64 ∧ is0.size = 64 ∧ got.size = 64 ∧ ∀ k, k < 8 → wordAt got k = wordAt was k ∨ wordAt got k = wordAt is0 k
end Go.Gb
namespace Go.Gb
open Go.Proofs IntWalk
def rdN (md : Nat → Int) (a : Nat) : ByteArray := lnbytes fun k => (md (8 * a + k)).toNat
def rd (p : Pl) (s : PmS) (l : List Nat) (j : Nat) : ByteArray := rdN s.media (whN p l j)
theorem rdN_congr {f g : Nat → Int} {a : Nat} (h : ∀ k, k < 8 → f (8 * a + k) = g (8 * a + k)) : rdN f a = rdN g a := by
 unfold rdN lnbytes
 rw [textN_congr 8]
 intro k hk
 rw [h k hk]
theorem rdN_size (f : Nat → Int) (a : Nat) : (rdN f a).size = 64 := lnbytes_size _
theorem rdN_eq {f : Nat → Int} {a : Nat} {B : ByteArray} (hB : B.size = 64) (h : ∀ k, k < 8 → f (8 * a + k) = ((wordAt B k : Nat) : Int)) : rdN f a = B := by
 refine Eq.trans ?_ (lnbytes_words B hB)
 unfold rdN lnbytes
 rw [textN_congr 8]
 intro k hk
 rw [h k hk]; omega
theorem wh_ne {p : Pl} {l : List Nat} {i j : Nat} (hi : i < p.pl) (hj : j < p.pl) (h : i ≠ j) : whN p l i ≠ whN p l j := by
 unfold whN
 cases ei : stands l i with
 | none =>
  cases ej : stands l j with
  | none => unfold ownN; dsimp only; omega
  | some k => unfold ownN sparN; dsimp only; omega
 | some k =>
  cases ej : stands l j with
  | none => unfold ownN sparN; dsimp only; omega
  | some k2 =>
   have h1 := (stN_lt _ ei).2
   have h2 := (stN_lt _ ej).2
   unfold sparN
   dsimp only
   intro e
   have : k = k2 := by omega
   subst this
   omega
theorem wh_spar {p : Pl} {l : List Nat} {j : Nat} (hj : j < p.pl) : whN p l j ≠ sparN p l.length := by
 unfold whN
 cases ej : stands l j with
 | none => unfold ownN sparN; dsimp only; omega
 | some k => have := (stN_lt _ ej).1; unfold sparN; dsimp only; omega
theorem wh_snoc {p : Pl} {l : List Nat} {x j : Nat} : whN p (l ++ [x]) j = if x = j + 1 then sparN p l.length else whN p l j := by
 unfold whN
 rw [stands_snoc]
 by_cases e : x = j + 1
 ·simp only [if_pos e]
 ·simp only [if_neg e]
def Out (p : Pl) (i : Nat) (B : ByteArray) (rd0 : Nat → ByteArray) (M : ByteArray → Prop) (r : Int × PmS × List Nat) : Prop :=
 (r.1 = 0 ∧ SpI p r.2.1 r.2.2 ∧ ∀ j, j < p.pl → rd p r.2.1 r.2.2 j = if j = i then B else rd0 j) ∨
 (r.1 = 10 ∧ SpI p r.2.1 r.2.2 ∧ ∀ j, j < p.pl → rd p r.2.1 r.2.2 j = rd0 j) ∨
 (r.1 = 6 ∧ r.2.1.off = true ∧ PmOk r.2.1 ∧ ∀ ks, ∃ l', SpI p (pboot r.2.1 ks) l' ∧ (∀ j, j < p.pl → j ≠ i → rd p (pboot r.2.1 ks) l' j = rd0 j) ∧ M (rd p (pboot r.2.1 ks) l' i))
section
variable {p : Pl} {s : PmS} {l : List Nat}
theorem put_rd (o : On s) {a c : Nat} {B : ByteArray} (ha : a < s.nl) (hc : c < s.nl) (hB : B.size = 64) (h0 : (lnput s (a : Int) B).1 = 0) : rdN (lnput s (a : Int) B).2.media c = if c = a ∧ s.bad a = false then B else rdN s.media c := by
 obtain ⟨_, m⟩ := o.put0 ha hB h0
 by_cases e : c = a ∧ s.bad a = false
 ·rw [if_pos e]
  refine rdN_eq hB fun k hk => ?_
  rw [m _ (by omega), if_pos ⟨by omega, e.2⟩, show (8 * c + k) % 8 = k by omega]
 ·rw [if_neg e]
  refine rdN_congr fun k hk => ?_
  rw [m _ (by omega), if_neg (fun h => e ⟨by omega, h.2⟩)]
theorem put_boot_rd (o : On s) {a c : Nat} {B : ByteArray} (ha : a < s.nl) (hc : c < s.nl) (hne : c ≠ a) (hB : B.size = 64) (h0 : (lnput s (a : Int) B).1 ≠ 0) (ks : List Bool) : rdN (pboot (lnput s (a : Int) B).2 ks).media c = rdN s.media c := by
 obtain ⟨_, _, h⟩ := o.put6 ha hB h0
 obtain ⟨_, m⟩ := h ks
 refine rdN_congr fun k hk => ?_
 rcases m (8 * c + k) (by omega) with h | h
 ·exact h
 ·omega
theorem putw_rd (o : On s) {a k0 c : Nat} {v : Int} (ha : a < s.nl) (hk0 : k0 < 8) (hc : c < s.nl) (hne : c ≠ a) (h0 : (lnputw s (a : Int) (k0 : Int) v).1 = 0) : rdN (lnputw s (a : Int) (k0 : Int) v).2.media c = rdN s.media c := by
 obtain ⟨_, m⟩ := o.putw0 ha hk0 h0
 refine rdN_congr fun k hk => ?_
 rw [m _ (by omega), if_neg (fun h => by omega)]
theorem putw_boot_rd (o : On s) {a k0 c : Nat} {v : Int} (ha : a < s.nl) (hk0 : k0 < 8) (hc : c < s.nl) (hne : c ≠ a) (h0 : (lnputw s (a : Int) (k0 : Int) v).1 ≠ 0) (ks : List Bool) : rdN (pboot (lnputw s (a : Int) (k0 : Int) v).2 ks).media c = rdN s.media c := by
 obtain ⟨_, _, h⟩ := o.putw6 ha hk0 h0
 obtain ⟨_, m⟩ := h ks
 refine rdN_congr fun k hk => ?_
 rcases m (8 * c + k) (by omega) with h | h
 ·exact h
 ·omega
theorem not_took (o : On s) (ok : PmOk s) {a : Nat} {B : ByteArray} (ha : a < s.nl) (hB : B.size = 64) (h0 : (lnput s (a : Int) B).1 = 0) (ht : ¬ took (lnput s (a : Int) B).2 a B = true) : s.bad a = true := by
 cases e : s.bad a with
 | true => rfl
 | false =>
  have h := put_rd o ha ha hB h0
  rw [if_pos ⟨rfl, e⟩] at h
  exact absurd ((media_took (ok.put _ _) (by rw [lnput_nl]; exact ha) hB).1 h) ht
theorem retire_out {i : Nat} {B : ByteArray} {rd0 : Nat → ByteArray} (hi : i < p.pl) (hB : B.size = 64) : ∀ (m : Nat) (s : PmS) (l : List Nat), l.length + m = p.ps → SpI p s l → (∀ j, j < p.pl → rd p s l j = rd0 j) →
  Out p i B rd0 (fun x => x = rd0 i ∨ x = B) (sretire p i B m s l)
 | 0, s, l, _, w, h => .inr (.inl ⟨rfl, w, h⟩)
 | m + 1, s, l, hm, w, hr => by
  have hll : l.length < p.ps := by omega
  obtain ⟨f1, f2⟩ := spar_fit w.ok hll
  have wl : ∀ {j}, j < p.pl → whN p l j < s.nl ∧ p.pa + tblN p ≤ whN p l j := fun hj => whN_lt w.ok w.len hj
  unfold sretire
  by_cases h0 : (lnput s (sparN p l.length : Nat) B).1 = 0
  ·rw [if_pos h0]
   have w1 := w.put f2 f1 hB h0
   have r1 : ∀ j, j < p.pl → rd p (lnput s (sparN p l.length : Nat) B).2 l j = rd0 j := fun j hj => by
    unfold rd
    rw [put_rd w.on f1 (wl hj).1 hB h0, if_neg (fun h => wh_spar hj h.1)]
    exact hr j hj
   have nl1 := lnput_nl s (sparN p l.length : Nat) B
   generalize (lnput s (sparN p l.length : Nat) B).2 = s1 at w1 nl1 r1
   obtain ⟨g1, g2, g3, g4⟩ := say_at w1.ok hll
   have h8 : l.length % 8 < 8 := Nat.mod_lt _ (by omega)
   have far : ∀ {c}, p.pa + tblN p ≤ c → c ≠ p.pa + l.length / 8 := fun h e => by omega
   by_cases ht : took s1 (sparN p l.length) B = true
   ·rw [if_pos ht]
    have hx : i + 1 = 65535 ∨ (1 ≤ i + 1 ∧ i + 1 ≤ p.pl) := .inr ⟨by omega, by omega⟩
    have hsp : rdN s1.media (sparN p l.length) = B := (media_took w1.w (by omega) hB).2 ht
    by_cases h2 : (lnputw s1 (p.pa + l.length / 8 : Nat) (l.length % 8 : Nat) (guardN (i + 1) : Nat)).1 = 0
    ·rw [if_pos h2]
     refine .inl ⟨h2, w1.say hx hll h2, fun j hj => ?_⟩
     unfold rd
     rw [wh_snoc]
     by_cases e : j = i
     ·rw [if_pos (by omega), if_pos e, putw_rd w1.on g1 h8 (by omega) (far f2) h2]; exact hsp
     ·rw [if_neg (by omega), if_neg e, putw_rd w1.on g1 h8 (by rw [nl1]; exact (wl hj).1) (far (wl hj).2) h2]; exact r1 j hj
    ·have h6 := w1.on.putw6 g1 h8 h2
     have hlt := guardN_lt (i + 1)
     refine .inr (.inr ⟨h6.1, h6.2.1, w1.w.putw _ _ ⟨by omega, by omega⟩, fun ks => ?_⟩)
     rcases w1.boot_say hx hll h2 ks with hs | hs
     ·refine ⟨l, hs, fun j hj _ => ?_, .inl ?_⟩
      ·unfold rd
       rw [putw_boot_rd w1.on g1 h8 (by rw [nl1]; exact (wl hj).1) (far (wl hj).2) h2]; exact r1 j hj
      ·unfold rd
       rw [putw_boot_rd w1.on g1 h8 (by rw [nl1]; exact (wl hi).1) (far (wl hi).2) h2]; exact r1 i hi
     ·refine ⟨_, hs, fun j hj hne => ?_, .inr ?_⟩
      ·show rdN (pboot (lnputw s1 (p.pa + l.length / 8 : Nat) (l.length % 8 : Nat) (guardN (i + 1) : Nat)).2 ks).media (whN p (l ++ [i + 1]) j) = _
       rw [wh_snoc, if_neg (by omega), putw_boot_rd w1.on g1 h8 (by rw [nl1]; exact (wl hj).1) (far (wl hj).2) h2]; exact r1 j hj
      ·show rdN (pboot (lnputw s1 (p.pa + l.length / 8 : Nat) (l.length % 8 : Nat) (guardN (i + 1) : Nat)).2 ks).media (whN p (l ++ [i + 1]) i) = _
       rw [wh_snoc, if_pos rfl, putw_boot_rd w1.on g1 h8 (by omega) (far f2) h2]; exact hsp
   ·rw [if_neg ht]
    have hx : (65535 : Nat) = 65535 ∨ (1 ≤ (65535 : Nat) ∧ (65535 : Nat) ≤ p.pl) := .inl rfl
    have pl2 := w.ok.l2
    by_cases h2 : (lnputw s1 (p.pa + l.length / 8 : Nat) (l.length % 8 : Nat) (guardN 65535 : Nat)).1 = 0
    ·rw [if_pos h2]
     refine retire_out hi hB m _ (l ++ [65535]) (by simp; omega) (w1.say hx hll h2) fun j hj => ?_
     unfold rd
     rw [wh_snoc, if_neg (by omega), putw_rd w1.on g1 h8 (by rw [nl1]; exact (wl hj).1) (far (wl hj).2) h2]; exact r1 j hj
    ·rw [if_neg h2]
     have h6 := w1.on.putw6 g1 h8 h2
     have hlt := guardN_lt 65535
     refine .inr (.inr ⟨h6.1, h6.2.1, w1.w.putw _ _ ⟨by omega, by omega⟩, fun ks => ?_⟩)
     have both : ∀ j, j < p.pl → rdN (pboot (lnputw s1 (p.pa + l.length / 8 : Nat) (l.length % 8 : Nat) (guardN 65535 : Nat)).2 ks).media (whN p l j) = rd0 j := fun j hj => by
      rw [putw_boot_rd w1.on g1 h8 (by rw [nl1]; exact (wl hj).1) (far (wl hj).2) h2]; exact r1 j hj
     rcases w1.boot_say hx hll h2 ks with hs | hs
     ·exact ⟨l, hs, fun j hj _ => both j hj, .inl (both i hi)⟩
     ·refine ⟨_, hs, fun j hj _ => ?_, .inl ?_⟩
      ·show rdN _ (whN p (l ++ [65535]) j) = _
       rw [wh_snoc, if_neg (by omega)]; exact both j hj
      ·show rdN _ (whN p (l ++ [65535]) i) = _
       rw [wh_snoc, if_neg (by omega)]; exact both i hi
  ·rw [if_neg h0]
   have h6 := w.on.put6 f1 hB h0
   refine .inr (.inr ⟨h6.1, h6.2.1, w.w.put _ _, fun ks => ⟨l, w.boot_put f2 f1 hB h0 ks, fun j hj _ => ?_, .inl ?_⟩⟩)
   ·unfold rd
    rw [put_boot_rd w.on f1 (wl hj).1 (wh_spar hj) hB h0]; exact hr j hj
   ·unfold rd
    rw [put_boot_rd w.on f1 (wl hi).1 (wh_spar hi) hB h0]; exact hr i hi
theorem Out.weaken {i : Nat} {B : ByteArray} {rd0 : Nat → ByteArray} {M M' : ByteArray → Prop} {r : Int × PmS × List Nat} (o : Out p i B rd0 M r) (h : ∀ x, M x → M' x) : Out p i B rd0 M' r := by
 rcases o with o | o | ⟨a, b, c, d⟩
 ·exact .inl o
 ·exact .inr (.inl o)
 ·refine .inr (.inr ⟨a, b, c, fun ks => ?_⟩)
  obtain ⟨l', x, y, z⟩ := d ks
  exact ⟨l', x, y, h _ z⟩
theorem swrite_out (w : SpI p s l) {i : Nat} {B : ByteArray} (hi : i < p.pl) (hB : B.size = 64) : Out p i B (rd p s l) (fun x => mixP (rd p s l i) B x) (swrite p l s i B) := by
 have wl : ∀ {j}, j < p.pl → whN p l j < s.nl ∧ p.pa + tblN p ≤ whN p l j := fun hj => whN_lt w.ok w.len hj
 obtain ⟨f1, f2⟩ := wl hi
 have hlen := w.len
 have mixr : ∀ x, x = rd p s l i ∨ x = B → mixP (rd p s l i) B x := fun x hx => by
  rcases hx with rfl | rfl
  ·exact ⟨rdN_size _ _, hB, rdN_size _ _, fun k _ => .inl rfl⟩
  ·exact ⟨rdN_size _ _, hB, hB, fun k _ => .inr rfl⟩
 unfold swrite
 by_cases h0 : (lnput s (whN p l i : Nat) B).1 = 0
 ·rw [if_pos h0]
  have w1 := w.put f2 f1 hB h0
  by_cases ht : took (lnput s (whN p l i : Nat) B).2 (whN p l i) B = true
  ·rw [if_pos ht]
   refine .inl ⟨rfl, w1, fun j hj => ?_⟩
   by_cases e : j = i
   ·rw [if_pos e, e]
    exact (media_took w1.w (by rw [lnput_nl]; exact f1) hB).2 ht
   ·rw [if_neg e]
    unfold rd
    rw [put_rd w.on f1 (wl hj).1 hB h0, if_neg (fun h => wh_ne hj hi e h.1)]
  ·rw [if_neg ht]
   have hbad := not_took w.on w.w f1 hB h0 ht
   refine (retire_out hi hB (p.ps - l.length) _ l (by omega) w1 fun j hj => ?_).weaken mixr
   unfold rd
   rw [put_rd w.on f1 (wl hj).1 hB h0, if_neg (fun h => by rw [hbad] at h; cases h.2)]
 ·rw [if_neg h0]
  have h6 := w.on.put6 f1 hB h0
  refine .inr (.inr ⟨h6.1, h6.2.1, w.w.put _ _, fun ks => ⟨l, w.boot_put f2 f1 hB h0 ks, fun j hj hne => ?_, ?_⟩⟩)
  ·unfold rd
   rw [put_boot_rd w.on f1 (wl hj).1 (wh_ne hj hi hne) hB h0]
  ·obtain ⟨o, m⟩ := h6.2.2 ks
   have ok6 := (w.w.put (whN p l i : Nat) B).boot ks
   have hv : ∀ w', ((pboot (lnput s (whN p l i : Nat) B).2 ks).media w').toNat < 18446744073709551616 ∧ 0 ≤ (pboot (lnput s (whN p l i : Nat) B).2 ks).media w' := fun w' => by
    have := ok6.media w'; unfold R64 at this; omega
   have hv0 : ∀ w', (s.media w').toNat < 18446744073709551616 := fun w' => by have := w.w.media w'; unfold R64 at this; omega
   refine ⟨rdN_size _ _, hB, rdN_size _ _, fun k hk => ?_⟩
   unfold rd rdN
   rw [wordAt_text hk (hv _).1, wordAt_text hk (hv0 _)]
   rcases m (8 * whN p l i + k) (by omega) with h | ⟨_, _, h⟩
   ·left; rw [h]
   ·right; rw [h, show (8 * whN p l i + k) % 8 = k by omega]; omega
theorem swritew_out (w : SpI p s l) {i k v : Nat} (hi : i < p.pl) (hk : k < 8) (hv : v < 18446744073709551616) : Out p i (withW (rd p s l i) k v) (rd p s l) (fun x => x = rd p s l i ∨ x = withW (rd p s l i) k v) (swritew p l s i k v) := by
 have wl : ∀ {j}, j < p.pl → whN p l j < s.nl ∧ p.pa + tblN p ≤ whN p l j := fun hj => whN_lt w.ok w.len hj
 obtain ⟨f1, f2⟩ := wl hi
 have hlen := w.len
 have hr : R64 ((v : Nat) : Int) := ⟨by omega, by omega⟩
 have hB := withW_size (rd p s l i) k v
 unfold swritew
 rw [lnget_on w.on f1, if_pos rfl]
 show Out p i (withW (rd p s l i) k v) (rd p s l) _ (if (lnputw s (whN p l i : Nat) (k : Nat) (v : Nat)).1 = 0 then
   (if took (lnputw s (whN p l i : Nat) (k : Nat) (v : Nat)).2 (whN p l i) (withW (rd p s l i) k v) = true then (0, (lnputw s (whN p l i : Nat) (k : Nat) (v : Nat)).2, l)
    else sretire p i (withW (rd p s l i) k v) (p.ps - l.length) (lnputw s (whN p l i : Nat) (k : Nat) (v : Nat)).2 l)
  else ((lnputw s (whN p l i : Nat) (k : Nat) (v : Nat)).1, (lnputw s (whN p l i : Nat) (k : Nat) (v : Nat)).2, l))
 have hv0 : ∀ w', (s.media w').toNat < 18446744073709551616 ∧ s.media w' = (((s.media w').toNat : Nat) : Int) := fun w' => by have := w.w.media w'; unfold R64 at this; omega
 have wd : ∀ j, j < 8 → wordAt (rd p s l i) j = (s.media (8 * whN p l i + j)).toNat := fun j hj => wordAt_text hj (hv0 _).1
 have wb : ∀ j, j < 8 → wordAt (withW (rd p s l i) k v) j = if j = k then v else wordAt (rd p s l i) j := fun j hj => wordAt_text hj (by split; exact hv; exact wordAt_lt _ _)
 by_cases h0 : (lnputw s (whN p l i : Nat) (k : Nat) (v : Nat)).1 = 0
 ·rw [if_pos h0]
  have w1 := w.putw f2 f1 hk hr h0
  obtain ⟨o, m⟩ := w.on.putw0 f1 hk h0
  by_cases ht : took (lnputw s (whN p l i : Nat) (k : Nat) (v : Nat)).2 (whN p l i) (withW (rd p s l i) k v) = true
  ·rw [if_pos ht]
   refine .inl ⟨rfl, w1, fun j hj => ?_⟩
   by_cases e : j = i
   ·rw [if_pos e, e]
    exact (media_took w1.w (by rw [lnputw_nl]; exact f1) hB).2 ht
   ·rw [if_neg e]
    unfold rd
    rw [putw_rd w.on f1 hk (wl hj).1 (wh_ne hj hi e) h0]
  ·rw [if_neg ht]
   have hbad : s.bad (whN p l i) = true := by
    cases e : s.bad (whN p l i) with
    | true => rfl
    | false =>
     refine absurd ((media_took w1.w (by rw [lnputw_nl]; exact f1) hB).1 ?_) ht
     refine rdN_eq hB fun j hj => ?_
     rw [m _ (by omega), wb j hj]
     by_cases ej : j = k
     ·rw [if_pos ⟨by omega, e⟩, if_pos ej]
     ·rw [if_neg (fun h => by omega), if_neg ej, wd j hj]; exact (hv0 _).2
   refine retire_out hi hB (p.ps - l.length) _ l (by omega) w1 fun j hj => ?_
   unfold rd
   refine rdN_congr fun q hq => ?_
   have := (wl hj).1
   rw [m _ (by omega), if_neg (fun h => by rw [hbad] at h; cases h.2)]
 ·rw [if_neg h0]
  have h6 := w.on.putw6 f1 hk h0
  refine .inr (.inr ⟨h6.1, h6.2.1, w.w.putw _ _ hr, fun ks => ⟨l, w.boot_putw f2 f1 hk hr h0 ks, fun j hj hne => ?_, ?_⟩⟩)
  ·unfold rd
   rw [putw_boot_rd w.on f1 hk (wl hj).1 (wh_ne hj hi hne) h0]
  ·obtain ⟨o, m⟩ := h6.2.2 ks
   have hk8 := m (8 * whN p l i + k) (by omega)
   have oth : ∀ j, j < 8 → j ≠ k → (pboot (lnputw s (whN p l i : Nat) (k : Nat) (v : Nat)).2 ks).media (8 * whN p l i + j) = s.media (8 * whN p l i + j) := fun j hj hne => by
    rcases m (8 * whN p l i + j) (by omega) with h | ⟨h, _⟩
    ·exact h
    ·omega
   rcases hk8 with h | ⟨_, _, h⟩
   ·left
    unfold rd
    refine rdN_congr fun j hj => ?_
    by_cases ej : j = k
    ·rw [ej]; exact h
    ·exact oth j hj ej
   ·right
    refine rdN_eq hB fun j hj => ?_
    rw [wb j hj]
    by_cases ej : j = k
    ·rw [if_pos ej, ej]; exact h
    ·rw [if_neg ej, wd j hj, oth j hj ej]; exact (hv0 _).2
end
end Go.Gb
namespace Go.Gb
open Go.Proofs IntWalk
structure RPl where
 pa : Nat
 pl : Nat
 ps : Nat
 psi : Nat
def RPl.bk (p : RPl) : Pl := ⟨p.pa, p.pl + 2, p.ps⟩
structure Gp where
 s0 : Int
 s1 : Int
 s2 : Int
structure RS where
 s : PmS
 l : List Nat
 g : Gp
 n : Nat
structure Gp.ok (g : Gp) (pl : Nat) : Prop where
 r : rightP g.s0 g.s1 pl
 l : 0 ≤ g.s2
 h : g.s2 < 4294967296
def Gp.pk (g : Gp) : Nat := (Gb.pk g.s0 g.s1 g.s2).toNat
def Gp.slot (g : Gp) (pl i : Nat) : Nat := (slotE g.s0 g.s1 pl i).toNat
def Gp.next (g : Gp) (pl : Nat) : Gp := ⟨(nextS g.s0 g.s1 g.s2 pl).1, (nextS g.s0 g.s1 g.s2 pl).2.1, (nextS g.s0 g.s1 g.s2 pl).2.2.1⟩
def Gp.src (g : Gp) (pl : Nat) : Nat := (nextS g.s0 g.s1 g.s2 pl).2.2.2.1.toNat
def Gp.dst (g : Gp) (pl : Nat) : Nat := (nextS g.s0 g.s1 g.s2 pl).2.2.2.2.toNat
theorem pk_lt {s0 s1 s2 : Int} (h0 : 0 ≤ s2) (h1 : s2 < 4294967296) : 0 ≤ pk s0 s1 s2 ∧ pk s0 s1 s2 < 18446744073709551616 := by unfold pk; omega
theorem Gp.pk_int (g : Gp) (h0 : 0 ≤ g.s2) (h1 : g.s2 < 4294967296) : ((g.pk : Nat) : Int) = Gb.pk g.s0 g.s1 g.s2 := by
 have := pk_lt (s0 := g.s0) (s1 := g.s1) h0 h1
 unfold Gp.pk; omega
theorem Gp.pk_lt {g : Gp} {pl : Nat} (o : g.ok pl) : g.pk < 18446744073709551616 := by
 have := Gb.pk_lt (s0 := g.s0) (s1 := g.s1) o.l o.h
 unfold Gp.pk; omega
theorem Gp.slot_at {g : Gp} {pl i : Nat} (o : g.ok pl) (hi : i < pl) : ((g.slot pl i : Nat) : Int) = slotE g.s0 g.s1 pl i ∧ g.slot pl i ≤ pl ∧ ((g.slot pl i : Nat) : Int) ≠ g.s1 ∧ lineE g.s0 g.s1 pl (g.slot pl i : Nat) = i := by
 have h := lineE_slotE o.r (i := (i : Int)) (by omega) (by omega)
 have e : ((g.slot pl i : Nat) : Int) = slotE g.s0 g.s1 pl i := by unfold Gp.slot; omega
 rw [e]
 exact ⟨rfl, by unfold Gp.slot; omega, h.2.2.2, h.1⟩
theorem Gp.slot_inj {g : Gp} {pl i j : Nat} (o : g.ok pl) (hi : i < pl) (hj : j < pl) (e : g.slot pl i = g.slot pl j) : i = j := by
 have h1 := (Gp.slot_at o hi).2.2.2
 have h2 := (Gp.slot_at o hj).2.2.2
 rw [e, h2] at h1
 omega
theorem Gp.move {g : Gp} {pl : Nat} (o : g.ok pl) : (g.next pl).ok pl ∧ ((g.dst pl : Nat) : Int) = g.s1 ∧ g.dst pl ≤ pl ∧ g.src pl ≤ pl ∧ g.src pl ≠ g.dst pl ∧ ((g.src pl : Nat) : Int) = (g.next pl).s1 ∧ (g.next pl).s2 = IntKind.u32.wrap (g.s2 + 1) ∧
  ∀ i, i < pl → (g.next pl).slot pl i = if g.slot pl i = g.src pl then g.dst pl else g.slot pl i := by
 obtain ⟨t0, t1, e, hr, hne, hm, _, _⟩ := nextS_move (s2 := g.s2) o.r
 have hr' := hr
 have ho := o.r
 unfold rightP at hr' ho
 have e1 : g.next pl = ⟨t0, t1, IntKind.u32.wrap (g.s2 + 1)⟩ := by unfold Gp.next; rw [e]
 have e2 : g.src pl = t1.toNat := by unfold Gp.src; rw [e]
 have e3 : g.dst pl = g.s1.toNat := by unfold Gp.dst; rw [e]
 have hw : 0 ≤ IntKind.u32.wrap (g.s2 + 1) ∧ IntKind.u32.wrap (g.s2 + 1) < 4294967296 := by rw [u32_w]; omega
 have ok : (g.next pl).ok pl := by rw [e1]; exact ⟨hr, hw.1, hw.2⟩
 refine ⟨ok, by omega, by omega, by omega, by omega, by rw [e1]; show ((g.src pl : Nat) : Int) = t1; omega, by rw [e1], fun i hi => ?_⟩
 obtain ⟨a1, a2, a3, a4⟩ := Gp.slot_at o hi
 have b1 := Gp.slot_at ok hi
 generalize hq : g.slot pl i = q at a1 a2 a3 a4
 rw [e2, e3]
 have hs : ∀ q' : Nat, q' ≤ pl → (q' : Int) ≠ t1 → lineE t0 t1 pl q' = i → (g.next pl).slot pl i = q' := fun q' h1 h2 h3 => by
  have := (slotE_lineE hr (p := (q' : Int)) (by omega) (by omega) h2).1
  rw [h3] at this
  unfold Gp.slot
  rw [e1]
  show (slotE t0 t1 pl i).toNat = q'
  omega
 by_cases h : q = t1.toNat
 ·rw [if_pos h]
  refine hs _ (by omega) (by omega) ?_
  have := hm g.s1 (by omega) (by omega)
  rw [if_neg (fun h => hne h.symm), if_pos rfl] at this
  rw [show ((g.s1.toNat : Nat) : Int) = g.s1 by omega, this, ← a4, show (q : Int) = t1 by omega]
 ·rw [if_neg h]
  refine hs _ a2 (by omega) ?_
  have := hm (q : Int) (by omega) (by omega)
  rw [if_neg (by omega), if_neg a3] at this
  rw [this, a4]
noncomputable def rmove2 (x : RS) (g' : Gp) (b : Int × PmS × List Nat) : Int × RS := if b.1 = 0 then (0, ⟨b.2.1, b.2.2, g', 0⟩) else (b.1, ⟨b.2.1, b.2.2, x.g, x.n⟩)
noncomputable def rmove1 (p : RPl) (x : RS) (a : Int × PmS × List Nat) : Int × RS :=
 if a.1 = 0 then rmove2 x (x.g.next p.pl) (swritew p.bk a.2.2 a.2.1 (p.pl + 1) 0 (x.g.next p.pl).pk) else (a.1, ⟨a.2.1, a.2.2, x.g, x.n⟩)
noncomputable def rmove (p : RPl) (x : RS) : Int × RS := rmove1 p x (swrite p.bk x.l x.s (x.g.dst p.pl) (rd p.bk x.s x.l (x.g.src p.pl)))
noncomputable def rput2 (x : RS) (r : Int × PmS × List Nat) : Int × RS := (r.1, ⟨r.2.1, r.2.2, x.g, if r.1 = 0 then x.n + 1 else x.n⟩)
noncomputable def rput (p : RPl) (f : PmS → List Nat → Nat → Int × PmS × List Nat) (x : RS) (i : Nat) : Int × RS := rput2 x (f x.s x.l (x.g.slot p.pl i))
noncomputable def rwrite (p : RPl) (f : PmS → List Nat → Nat → Int × PmS × List Nat) (x : RS) (i : Nat) : Int × RS :=
 if p.psi ≤ x.n then (if (rmove p x).1 = 0 then rput p f (rmove p x).2 i else rmove p x) else rput p f x i
def rr (p : RPl) (x : RS) (j : Nat) : ByteArray := rd p.bk x.s x.l (x.g.slot p.pl j)
structure RgI (p : RPl) (x : RS) : Prop where
 sp : SpI p.bk x.s x.l
 g : x.g.ok p.pl
 reg : wordAt (rd p.bk x.s x.l (p.pl + 1)) 0 = x.g.pk
 l1 : 1 ≤ p.pl
 l2 : p.pl ≤ 1024
 q1 : 1 ≤ p.psi
 q2 : p.psi ≤ 65535
 n : x.n ≤ p.psi
theorem bk_pl (p : RPl) : p.bk.pl = p.pl + 2 := rfl
theorem RgI.keep {p : RPl} {x x' : RS} (w : RgI p x) (sp : SpI p.bk x'.s x'.l) (hg : x'.g = x.g) (hn : x'.n ≤ p.psi) (hreg : rd p.bk x'.s x'.l (p.pl + 1) = rd p.bk x.s x.l (p.pl + 1)) : RgI p x' :=
 ⟨sp, by rw [hg]; exact w.g, by rw [hreg, hg]; exact w.reg, w.l1, w.l2, w.q1, w.q2, hn⟩
def MOut (p : RPl) (x : RS) (r : Int × RS) : Prop :=
 (r.1 = 0 ∧ RgI p r.2 ∧ (∀ j, j < p.pl → rr p r.2 j = rr p x j) ∧ r.2.n = 0 ∧ r.2.g = x.g.next p.pl) ∨
 (r.1 = 10 ∧ RgI p r.2 ∧ (∀ j, j < p.pl → rr p r.2 j = rr p x j) ∧ r.2.n = x.n ∧ r.2.g = x.g) ∨
 (r.1 = 6 ∧ r.2.s.off = true ∧ PmOk r.2.s ∧ ∀ ks, ∃ l' g', RgI p ⟨pboot r.2.s ks, l', g', 0⟩ ∧ ∀ j, j < p.pl → rr p ⟨pboot r.2.s ks, l', g', 0⟩ j = rr p x j)
theorem wordAt_withW {b : ByteArray} {v : Nat} (hv : v < 18446744073709551616) : wordAt (withW b 0 v) 0 = v := by
 have := wordAt_text (f := fun j => if j = 0 then v else wordAt b j) (k := 0) (by omega) (by rw [if_pos rfl]; exact hv)
 rw [if_pos rfl] at this
 exact this
theorem rmove_out {p : RPl} {x : RS} (w : RgI p x) : MOut p x (rmove p x) := by
 obtain ⟨ok, d1, d2, d3, d4, d5, _, mv⟩ := Gp.move w.g
 have hB := rdN_size x.s.media (whN p.bk x.l (x.g.src p.pl))
 have o := swrite_out w.sp (i := x.g.dst p.pl) (B := rd p.bk x.s x.l (x.g.src p.pl)) (by rw [bk_pl]; omega) hB
 have hn0 : (0 : Nat) ≤ p.psi := Nat.zero_le _
 unfold rmove
 generalize swrite p.bk x.l x.s (x.g.dst p.pl) (rd p.bk x.s x.l (x.g.src p.pl)) = a at o
 unfold rmove1
 have sl : ∀ j, j < p.pl → x.g.slot p.pl j < p.bk.pl ∧ x.g.slot p.pl j ≠ x.g.dst p.pl ∧ x.g.slot p.pl j ≠ p.pl + 1 := fun j hj => by
  have := Gp.slot_at w.g hj
  rw [bk_pl]; exact ⟨by omega, by omega, by omega⟩
 have rg : p.pl + 1 < p.bk.pl ∧ p.pl + 1 ≠ x.g.dst p.pl := by rw [bk_pl]; omega
 rcases o with ⟨e, sp, m⟩ | ⟨e, sp, m⟩ | ⟨e, off, pok, m⟩
 ·rw [if_pos e]
  have hreg : rd p.bk a.2.1 a.2.2 (p.pl + 1) = rd p.bk x.s x.l (p.pl + 1) := by rw [m _ rg.1, if_neg rg.2]
  have hl : ∀ j, j < p.pl → rd p.bk a.2.1 a.2.2 (x.g.slot p.pl j) = rr p x j := fun j hj => by rw [m _ (sl j hj).1, if_neg (sl j hj).2.1]; rfl
  have hdst : rd p.bk a.2.1 a.2.2 (x.g.dst p.pl) = rd p.bk x.s x.l (x.g.src p.pl) := by rw [m _ (by rw [bk_pl]; omega), if_pos rfl]
  have o2 := swritew_out sp (i := p.pl + 1) (k := 0) (v := (x.g.next p.pl).pk) rg.1 (by omega) (Gp.pk_lt ok)
  have w0 : RgI p ⟨a.2.1, a.2.2, x.g, x.n⟩ := w.keep sp rfl w.n hreg
  generalize a.2.1 = s1 at sp hreg hl hdst o2 w0
  generalize a.2.2 = l1 at sp hreg hl hdst o2 w0
  generalize swritew p.bk l1 s1 (p.pl + 1) 0 (x.g.next p.pl).pk = b at o2
  unfold rmove2
  have after : ∀ (s' : PmS) (l' : List Nat), (∀ j, j < p.bk.pl → j ≠ p.pl + 1 → rd p.bk s' l' j = rd p.bk s1 l1 j) → ∀ j, j < p.pl → rd p.bk s' l' ((x.g.next p.pl).slot p.pl j) = rr p x j := fun s' l' hh j hj => by
   rw [mv j hj]
   by_cases e : x.g.slot p.pl j = x.g.src p.pl
   ·rw [if_pos e, hh _ (by rw [bk_pl]; omega) (by omega), hdst, ← e]; rfl
   ·rw [if_neg e, hh _ (sl j hj).1 (sl j hj).2.2]; exact hl j hj
  have newreg : ∀ (s' : PmS) (l' : List Nat) (n : Nat), n ≤ p.psi → SpI p.bk s' l' → rd p.bk s' l' (p.pl + 1) = withW (rd p.bk s1 l1 (p.pl + 1)) 0 (x.g.next p.pl).pk → RgI p ⟨s', l', x.g.next p.pl, n⟩ := fun s' l' n hn sp' e' =>
   ⟨sp', ok, by show wordAt (rd p.bk s' l' (p.pl + 1)) 0 = _; rw [e', wordAt_withW (Gp.pk_lt ok)], w.l1, w.l2, w.q1, w.q2, hn⟩
  rcases o2 with ⟨e2, sp2, m2⟩ | ⟨e2, sp2, m2⟩ | ⟨e2, off2, pok2, m2⟩
  ·rw [if_pos e2]
   refine .inl ⟨rfl, newreg _ _ _ hn0 sp2 (by rw [m2 _ rg.1, if_pos rfl]), after _ _ fun j hj hne => by rw [m2 j hj, if_neg hne], rfl, rfl⟩
  ·rw [if_neg (by omega)]
   exact .inr (.inl ⟨e2, w0.keep sp2 rfl w.n (m2 _ rg.1), fun j hj => (m2 _ (sl j hj).1).trans (hl j hj), rfl, rfl⟩)
  ·rw [if_neg (by omega)]
   refine .inr (.inr ⟨e2, off2, pok2, fun ks => ?_⟩)
   obtain ⟨l', sp', m', y⟩ := m2 ks
   rcases y with y | y
   ·exact ⟨l', x.g, w0.keep sp' rfl hn0 y, fun j hj => (m' _ (sl j hj).1 (sl j hj).2.2).trans (hl j hj)⟩
   ·exact ⟨l', x.g.next p.pl, newreg _ _ _ hn0 sp' y, after _ _ m'⟩
 ·rw [if_neg (by omega)]
  exact .inr (.inl ⟨e, w.keep sp rfl w.n (m _ rg.1), fun j hj => m _ (sl j hj).1, rfl, rfl⟩)
 ·rw [if_neg (by omega)]
  refine .inr (.inr ⟨e, off, pok, fun ks => ?_⟩)
  obtain ⟨l', sp', m', -⟩ := m ks
  exact ⟨l', x.g, w.keep sp' rfl hn0 (m' _ rg.1 rg.2), fun j hj => m' _ (sl j hj).1 (sl j hj).2.1⟩
def ROut (p : RPl) (i : Nat) (B : ByteArray) (rd0 : Nat → ByteArray) (M : ByteArray → Prop) (r : Int × RS) : Prop :=
 (r.1 = 0 ∧ RgI p r.2 ∧ ∀ j, j < p.pl → rr p r.2 j = if j = i then B else rd0 j) ∨
 (r.1 = 10 ∧ RgI p r.2 ∧ ∀ j, j < p.pl → rr p r.2 j = rd0 j) ∨
 (r.1 = 6 ∧ r.2.s.off = true ∧ PmOk r.2.s ∧ ∀ ks, ∃ l' g', RgI p ⟨pboot r.2.s ks, l', g', 0⟩ ∧ (∀ j, j < p.pl → j ≠ i → rr p ⟨pboot r.2.s ks, l', g', 0⟩ j = rd0 j) ∧ M (rr p ⟨pboot r.2.s ks, l', g', 0⟩ i))
def FOut (p : RPl) (x : RS) (f : PmS → List Nat → Nat → Int × PmS × List Nat) (T : ByteArray → ByteArray) (M : ByteArray → ByteArray → Prop) : Prop :=
 ∀ (s : PmS) (l : List Nat) (k : Nat), k < p.bk.pl → SpI p.bk s l → Out p.bk k (T (rd p.bk s l k)) (rd p.bk s l) (M (rd p.bk s l k)) (f s l k)
theorem rput_out {p : RPl} {x : RS} {f : PmS → List Nat → Nat → Int × PmS × List Nat} {T : ByteArray → ByteArray} {M : ByteArray → ByteArray → Prop} (w : RgI p x) (hn : x.n < p.psi) {i : Nat} (hi : i < p.pl) (hf : FOut p x f T M) :
  ROut p i (T (rr p x i)) (rr p x) (M (rr p x i)) (rput p f x i) := by
 obtain ⟨-, a2, a3, -⟩ := Gp.slot_at w.g hi
 have o := hf x.s x.l (x.g.slot p.pl i) (by rw [bk_pl]; omega) w.sp
 unfold rput
 generalize f x.s x.l (x.g.slot p.pl i) = r at o
 unfold rput2
 have sl : ∀ j, j < p.pl → x.g.slot p.pl j < p.bk.pl := fun j hj => by
  have := Gp.slot_at w.g hj
  rw [bk_pl]; omega
 have rg : p.pl + 1 < p.bk.pl ∧ p.pl + 1 ≠ x.g.slot p.pl i := by rw [bk_pl]; omega
 rcases o with ⟨e, sp, m⟩ | ⟨e, sp, m⟩ | ⟨e, off, pok, m⟩
 ·refine .inl ⟨e, w.keep sp rfl ?_ (by show rd p.bk r.2.1 r.2.2 (p.pl + 1) = _; rw [m _ rg.1, if_neg rg.2]), fun j hj => ?_⟩
  ·show (if r.1 = 0 then x.n + 1 else x.n) ≤ _
   split <;> omega
  ·show rd p.bk r.2.1 r.2.2 (x.g.slot p.pl j) = _
   rw [m _ (sl j hj)]
   by_cases e : j = i
   ·rw [if_pos (by rw [e]), if_pos e]; rfl
   ·rw [if_neg (fun h => e (Gp.slot_inj w.g hj hi h)), if_neg e]; rfl
 ·exact .inr (.inl ⟨e, w.keep sp rfl (by show (if r.1 = 0 then x.n + 1 else x.n) ≤ _; split <;> omega) (m _ rg.1), fun j hj => m _ (sl j hj)⟩)
 ·refine .inr (.inr ⟨e, off, pok, fun ks => ?_⟩)
  obtain ⟨l', sp', m', y⟩ := m ks
  exact ⟨l', x.g, w.keep sp' rfl (Nat.zero_le _) (m' _ rg.1 rg.2), fun j hj hne => m' _ (sl j hj) fun h => hne (Gp.slot_inj w.g hj hi h), y⟩
theorem rwrite_out {p : RPl} {x : RS} {f : PmS → List Nat → Nat → Int × PmS × List Nat} {T : ByteArray → ByteArray} {M : ByteArray → ByteArray → Prop} (w : RgI p x) {i : Nat} (hi : i < p.pl) (hf : FOut p x f T M) (hM : M (rr p x i) (rr p x i)) :
  ROut p i (T (rr p x i)) (rr p x) (M (rr p x i)) (rwrite p f x i) := by
 unfold rwrite
 by_cases h : p.psi ≤ x.n
 ·rw [if_pos h]
  rcases rmove_out w with ⟨e, w1, m, n0, _⟩ | ⟨e, w1, m, _⟩ | ⟨e, off, pok, m⟩
  ·rw [if_pos e]
   have o := rput_out w1 (by have := w.q1; omega) hi (f := f) (T := T) (M := M) hf
   rw [m i hi] at o
   rcases o with ⟨e2, w2, m2⟩ | ⟨e2, w2, m2⟩ | ⟨e2, off, pok, m2⟩
   ·exact .inl ⟨e2, w2, fun j hj => by
     rw [m2 j hj]
     by_cases e : j = i
     ·rw [if_pos e, if_pos e]
     ·rw [if_neg e, if_neg e]; exact m j hj⟩
   ·exact .inr (.inl ⟨e2, w2, fun j hj => (m2 j hj).trans (m j hj)⟩)
   ·refine .inr (.inr ⟨e2, off, pok, fun ks => ?_⟩)
    obtain ⟨l', g', w', m', y⟩ := m2 ks
    exact ⟨l', g', w', fun j hj hne => (m' j hj hne).trans (m j hj), y⟩
  ·rw [if_neg (by omega)]
   exact .inr (.inl ⟨e, w1, m⟩)
  ·rw [if_neg (by omega)]
   refine .inr (.inr ⟨e, off, pok, fun ks => ?_⟩)
   obtain ⟨l', g', w', m'⟩ := m ks
   exact ⟨l', g', w', fun j hj _ => m' j hj, by rw [m' i hi]; exact hM⟩
 ·rw [if_neg h]
  exact rput_out w (by omega) hi hf
end Go.Gb
namespace Go.Gb
open Go.Proofs IntWalk
theorem getL_zero : ∀ n, getL (List.replicate n (0 : UInt8)) = 0
 | 0 => rfl
 | n + 1 => by rw [List.replicate_succ]; show (0 : UInt8).toNat + 256 * getL (List.replicate n 0) = 0; rw [getL_zero n]; rfl
theorem zero64_list : zero64.data.toList = List.replicate 64 (0 : UInt8) := by
 unfold zero64
 have : ∀ n, List.replicate n (0 : UInt8) = Lib.repeatL [UInt8.ofNat 0] n := by
  intro n
  induction n with
  | zero => rfl
  | succ n ih => rw [List.replicate_succ, ih]; rfl
 rw [this 64]
theorem zero64_word (k : Nat) : wordAt zero64 k = 0 := by
 unfold wordAt chunk
 rw [zero64_list, List.drop_replicate, List.take_replicate]
 exact getL_zero _
theorem Cl.on {s : PmS} (c : Cl s) : On s := ⟨c.off, by rw [c.fuse]; exact Int.le_refl _, c.buf⟩
end Go.Gb
namespace Go.Gb
open Go.Proofs IntWalk
def StB (p : Pl) (s : PmS) (l : List Nat) : Prop := SpI p s l ∨ (s.off = true ∧ PmOk s ∧ ∀ ks, ∃ l', SpI p (pboot s ks) l')
theorem StB.ok {p : Pl} {s : PmS} {l : List Nat} (t : StB p s l) : PmOk s := by
 rcases t with t | t
 ·exact t.w
 ·exact t.2.1
theorem Res.st {p : Pl} {n : Nat} {r : Int × PmS × List Nat} (t : Res p n r) : StB p r.2.1 r.2.2 := by
 rcases t.2 with h | h
 ·exact .inl h.2
 ·exact .inr h.2
end Go.Gb
namespace Go.Gb
open Go.Proofs IntWalk
theorem PmOk.brk {s : PmS} (o : PmOk s) (f : Nat → Bool) : PmOk { s with bad := f } := o.of rfl rfl
end Go.Gb
namespace Go.Gb
open Go.Proofs IntWalk
structure F0 (s : PmS) : Prop where
 off : s.off = false
 fuse : s.fuse = 0
theorem F0.store {s : PmS} (f : F0 s) {k : Nat} {v : Int} (hk : k < 8 * s.nl) : (pstore s (k : Int) v).1 = 0 ∧ F0 (pstore s (k : Int) v).2 := by
 rw [pstore_nf f.off f.fuse hk]; exact ⟨rfl, f.off, ptick_fuse f.fuse⟩
theorem F0.llast {s : PmS} (f : F0 s) {a : Nat} (ha : a < s.nl) : (llast s (a : Int)).1 = 0 ∧ F0 (llast s (a : Int)).2 := by
 unfold Gb.llast
 rw [pflush_nf f.off f.fuse ha, if_pos rfl]
 have f2 : F0 { ptick s with buf := fbuf s.buf a 8 } := ⟨f.off, ptick_fuse f.fuse⟩
 rw [pfence_run f2.off (by rw [f2.fuse]; decide)]
 exact ⟨rfl, f2.off, ptick_fuse f2.fuse⟩
theorem F0.stores {a : Nat} {g : Nat → Nat} : ∀ (j k : Nat) (s : PmS), k + j = 8 → F0 s → a < s.nl → (lstores a g j k s).1 = 0 ∧ F0 (lstores a g j k s).2
 | 0, k, s, _, f, ha => f.llast ha
 | j + 1, k, s, hk, f, ha => by
  have h := f.store (v := ((g k : Nat) : Int)) (show 8 * a + k < 8 * s.nl by omega)
  unfold lstores
  rw [if_pos h.1]
  exact F0.stores j (k + 1) _ (by omega) h.2 (by rw [pstore_nl]; exact ha)
theorem F0.put {s : PmS} (f : F0 s) {a : Nat} {b : ByteArray} (ha : a < s.nl) (hb : b.size = 64) : (lnput s (a : Int) b).1 = 0 ∧ F0 (lnput s (a : Int) b).2 := by
 unfold lnput
 rw [if_pos hb, if_pos (by unfold lthere; exact if_pos (by omega)), Int.toNat_natCast]
 exact F0.stores 8 0 s (by omega) f ha
theorem F0.putw {s : PmS} (f : F0 s) {a k : Nat} {v : Int} (ha : a < s.nl) (hk : k < 8) : (lnputw s (a : Int) (k : Int) v).1 = 0 ∧ F0 (lnputw s (a : Int) (k : Int) v).2 := by
 have h := f.store (v := v) (show 8 * a + k < 8 * s.nl by omega)
 unfold lnputw
 rw [if_pos (by omega), if_pos (by unfold lthere; exact if_pos (by omega)), show (8 * (a : Int) + (k : Int)) = ((8 * a + k : Nat) : Int) by omega, if_pos h.1]
 exact h.2.llast (by rw [pstore_nl]; exact ha)
theorem sretire_f0 {p : Pl} {i : Nat} {b : ByteArray} (hi : i < p.pl) (hb : b.size = 64) : ∀ (m : Nat) (s : PmS) (l : List Nat), l.length + m = p.ps → SpI p s l → F0 s →
  ((sretire p i b m s l).1 = 0 ∨ (sretire p i b m s l).1 = 10) ∧ F0 (sretire p i b m s l).2.1
 | 0, s, l, _, _, f => ⟨.inr rfl, f⟩
 | m + 1, s, l, hm, w, f => by
  obtain ⟨f1, f2⟩ := spar_fit w.ok (show l.length < p.ps by omega)
  have h1 := f.put f1 hb
  have w1 := w.put f2 f1 hb h1.1
  have nl1 := lnput_nl s (sparN p l.length : Nat) b
  unfold sretire
  rw [if_pos h1.1]
  have h2 := h1.2
  generalize (lnput s (sparN p l.length : Nat) b).2 = s1 at w1 nl1 h2
  obtain ⟨g1, g2, g3, g4⟩ := say_at w1.ok (show l.length < p.ps by omega)
  by_cases ht : took s1 (sparN p l.length) b = true
  ·rw [if_pos ht]
   have h3 := h2.putw (v := ((guardN (i + 1) : Nat) : Int)) g1 (Nat.mod_lt l.length (show 0 < 8 by omega))
   exact ⟨.inl h3.1, h3.2⟩
  ·rw [if_neg ht]
   have h3 := h2.putw (v := ((guardN 65535 : Nat) : Int)) g1 (Nat.mod_lt l.length (show 0 < 8 by omega))
   rw [if_pos h3.1]
   exact sretire_f0 hi hb m _ _ (by simp; omega) (w1.say (.inl rfl) (by omega) h3.1) h3.2
theorem swrite_f0 {p : Pl} {s : PmS} {l : List Nat} (w : SpI p s l) (f : F0 s) {i : Nat} {b : ByteArray} (hi : i < p.pl) (hb : b.size = 64) : ((swrite p l s i b).1 = 0 ∨ (swrite p l s i b).1 = 10) ∧ F0 (swrite p l s i b).2.1 := by
 obtain ⟨f1, f2⟩ := whN_lt w.ok w.len hi
 have hlen := w.len
 have h1 := f.put f1 hb
 have w1 := w.put f2 f1 hb h1.1
 unfold swrite
 rw [if_pos h1.1]
 by_cases ht : took (lnput s (whN p l i : Nat) b).2 (whN p l i) b = true
 ·rw [if_pos ht]; exact ⟨.inl rfl, h1.2⟩
 ·rw [if_neg ht]; exact sretire_f0 hi hb (p.ps - l.length) _ l (by omega) w1 h1.2
section
variable {h0 h h1 : Heap} {F G : Nat → Prop} {d b : Nat} {p : Pl} {s s' : PmS} {l l' : List Nat} {Q : Value → Heap → Prop} {a : Option Addr} {n cp : Nat} {N t : Int}
theorem SpI.brk {k : Nat} (sp : SpI p s l) (hk : p.pa + tblN p ≤ k) : SpI p { s with bad := fset s.bad k true } l :=
 ⟨sp.ok, ⟨sp.on.off, sp.on.f0, sp.on.buf⟩, sp.en, fun t g1 g2 => by show fset s.bad k true t = false; unfold fset; rw [if_neg (by omega)]; exact sp.tb t g1 g2, sp.w.of rfl rfl⟩
end
end Go.Gb
namespace Go.Gb
open Go.Proofs IntWalk
end Go.Gb
namespace Go.Gb
open Go.Proofs IntWalk
end Go.Gb
namespace Go.Gb
open Go.Proofs IntWalk
section
variable {p : Pl} {s : PmS} {l : List Nat}
theorem swrite_clean (w : SpI p s l) (f : F0 s) (hb : ∀ k, s.bad k = false) {i : Nat} {B : ByteArray} (hi : i < p.pl) (hB : B.size = 64) :
  ∃ s', swrite p l s i B = (0, s', l) ∧ SpI p s' l ∧ F0 s' ∧ s'.bad = s.bad ∧ s'.nl = s.nl ∧ ∀ j, j < p.pl → rd p s' l j = if j = i then B else rd p s l j := by
 obtain ⟨f1, f2⟩ := whN_lt w.ok w.len hi
 have h1 := f.put f1 hB
 have ht : took (lnput s (whN p l i : Nat) B).2 (whN p l i) B = true := by
  cases e : took (lnput s (whN p l i : Nat) B).2 (whN p l i) B with
  | true => rfl
  | false =>
   have := not_took w.on w.w f1 hB h1.1 (by rw [e]; simp)
   rw [hb] at this; cases this
 have e : swrite p l s i B = (0, (lnput s (whN p l i : Nat) B).2, l) := by
  unfold swrite
  rw [if_pos h1.1, if_pos ht]
 have o := swrite_out w hi hB
 rw [e] at o
 refine ⟨_, e, w.put f2 f1 hB h1.1, h1.2, lnput_bad w.on f1 hB, lnput_nl _ _ _, ?_⟩
 rcases o with o | o | o
 ·exact o.2.2
 ·have := o.1; cases this
 ·have := o.1; cases this
theorem SpI.boot (w : SpI p s l) (ks : List Bool) : SpI p (pboot s ks) l ∧ (∀ j, j < p.pl → rd p (pboot s ks) l j = rd p s l j) ∧ (pboot s ks).nl = s.nl := by
 obtain ⟨t, o⟩ := (w.on.tg s.media).boot ks
 have hm : ∀ k, k < 8 * s.nl → (pboot s ks).media k = s.media k := fun k hk => by
  rcases t.med k hk with h | h
  ·exact h
  ·exact h.2
 refine ⟨⟨w.ok.of t.nl, o, ?_, fun k a b => by rw [t.bd]; exact w.tb k a b, w.w.boot ks⟩, fun j hj => ?_, t.nl⟩
 ·rw [sents_eq w.ok w.on o t.nl fun k hk => hm _ (tbl_fit w.ok hk).1]; exact w.en
 ·refine rdN_congr fun k hk => hm _ ?_
  have := (whN_lt w.ok w.len hj).1
  omega
theorem lnget_rd (w : SpI p s l) {i : Nat} (hi : i < p.pl) : lnget s (whN p l i : Nat) = (rd p s l i, 0) := by
 rw [lnget_on w.on (whN_lt w.ok w.len hi).1]; rfl
end
end Go.Gb
namespace Go.Gb
open Go.Proofs IntWalk
section
variable {p : Pl} {s : PmS} {l : List Nat} {F G : Nat → Prop} {h : Heap} {d b : Nat} {Q : QT}
theorem K128.rd {i : Nat} (w : DB F G h d b p s l) (sp : SpI p s l) (hi : i < p.pl) (hq : Q (.tuple #[.string (rd p s l i), .int .i64 0]) h) :
  CT 128 #[.pointer (some ⟨b, 0, none⟩), .int .i64 (i : Int)] h Q :=
 K128.c w sp.w (fun _ _ => by rw [Int.toNat_natCast, lnget_rd sp hi]; exact hq) fun hno => absurd ⟨by omega, by omega⟩ hno
end
end Go.Gb
namespace Go.Gb
open Go.Proofs IntWalk
def ringV (p : RPl) : Value := .agg #[.int .i64 p.pa, .int .i64 p.pl, .int .i64 p.ps, .int .i64 p.psi]
def ringCs (b : Nat) (p : RPl) (g : Gp) (n : Nat) : List Value := [.int .i64 p.pa, .int .i64 p.pl, .int .i64 p.ps, .int .i64 p.psi, .pointer (some ⟨b, 0, none⟩), .int .i64 g.s0, .int .i64 g.s1, .int .u32 g.s2, .int .i64 (n : Nat)]
structure RD (F G : Nat → Prop) (h : Heap) (d b r : Nat) (p : RPl) (x : RS) : Prop where
 db : DB F G h d b p.bk x.s x.l
 rc : Blk h r (ringCs b p x.g x.n)
 nr : ¬ FG F G r
abbrev FR (F G : Nat → Prop) (r : Nat) : Nat → Prop := fun k => FG F G k ∨ k = r
structure RpB (p : RPl) (n : Nat) : Prop where
 l1 : 1 ≤ p.pl
 l2 : p.pl ≤ 1024
 q1 : 1 ≤ p.psi
 q2 : p.psi ≤ 65535
 ok : PlOk p.bk n
theorem both {X : Prop} (h : X) : X ∧ X := ⟨h, h⟩
theorem Gp.nextS_eq {g : Gp} {pl : Nat} (o : g.ok pl) : nextS g.s0 g.s1 g.s2 pl = ((g.next pl).s0, (g.next pl).s1, (g.next pl).s2, ((g.src pl : Nat) : Int), ((g.dst pl : Nat) : Int)) := by
 obtain ⟨t0, t1, e, hr, _⟩ := nextS_move (s2 := g.s2) o.r
 have hr' := hr
 have ho := o.r
 unfold rightP at hr' ho
 unfold Gp.next Gp.src Gp.dst
 rw [e]
 dsimp only
 rw [show ((t1.toNat : Nat) : Int) = t1 by omega, show ((g.s1.toNat : Nat) : Int) = g.s1 by omega]
theorem sWrite_eq {p : Pl} {l : List Nat} {s : PmS} {i : Nat} {B : ByteArray} (hi : i < p.pl) (hB : B.size = 64) : sWrite p l s (i : Int) B = swrite p l s i B := by
 unfold sWrite; rw [if_pos hB, if_pos (by omega), Int.toNat_natCast]
theorem sWriteWord_eq {p : Pl} {l : List Nat} {s : PmS} {i k v : Nat} (hi : i < p.pl) (hk : k < 8) : sWriteWord p l s (i : Int) (k : Int) v = swritew p l s i k v := by
 unfold sWriteWord; rw [if_pos (by omega), if_pos (by omega), Int.toNat_natCast, Int.toNat_natCast]
section
variable {F G : Nat → Prop} {h h1 : Heap} {d b r n : Nat} {p : RPl} {x : RS} {Q : QT}
theorem RD.c0 (w : RD F G h d b r p x) : h.cell r (0 + 0) = some (.int .i64 p.pa) := w.rc.cell 0
theorem RD.c1 (w : RD F G h d b r p x) : h.cell r (0 + 0 + 1) = some (.int .i64 p.pl) := w.rc.cell 1
theorem RD.c2 (w : RD F G h d b r p x) : h.cell r (0 + 0 + 1 + 1) = some (.int .i64 p.ps) := w.rc.cell 2
theorem RD.c3 (w : RD F G h d b r p x) : h.cell r (0 + 0 + 1 + 1 + 1) = some (.int .i64 p.psi) := w.rc.cell 3
theorem RD.c4 (w : RD F G h d b r p x) : h.cell r (0 + 4) = some (.pointer (some ⟨b, 0, none⟩)) := w.rc.cell 4
theorem RD.c5 (w : RD F G h d b r p x) : h.cell r (0 + 5) = some (.int .i64 x.g.s0) := w.rc.cell 5
theorem RD.c6 (w : RD F G h d b r p x) : h.cell r (0 + 5 + 1) = some (.int .i64 x.g.s1) := w.rc.cell 6
theorem RD.c7 (w : RD F G h d b r p x) : h.cell r (0 + 5 + 1 + 1) = some (.int .u32 x.g.s2) := w.rc.cell 7
theorem RD.c8 (w : RD F G h d b r p x) : h.cell r (0 + 8) = some (.int .i64 (x.n : Nat)) := w.rc.cell 8
theorem RD.ap (w : RD F G h d b r p x) : Apart (FG F G) (fun k => k = r) := fun k hk hf => by
 have : k = r := hk
 subst this; exact w.nr hf
theorem RD.bank {s' : PmS} {l' : List Nat} (w : RD F G h d b r p x) (w1 : DB F G h1 d b p.bk s' l') (st : Step (FG F G) h (FG F G) h1) : RD F G h1 d b r p ⟨s', l', x.g, x.n⟩ :=
 ⟨w1, w.rc.keep (st.keep r w.nr w.rc.ne), w.nr⟩
theorem RD.part (w : RD F G h d b r p x) (pt : Part h h1) : RD F G h1 d b r p x := ⟨w.db.part pt, w.rc.keep (part_live pt w.rc.ne), w.nr⟩
theorem RD.put {x' : RS} {o : Nat} {vs : List Value} (w : RD F G h d b r p x) (hs : x'.s = x.s) (hl : x'.l = x.l) (hc : setL (ringCs b p x.g x.n) o vs = ringCs b p x'.g x'.n) : RD F G (h.put r o vs) d b r p x' ∧ Step (FR F G r) h (FR F G r) (h.put r o vs) := by
 have e : ∀ k, k ≠ r → (h.put r o vs) k = h k := fun k hk => put_other _ _ _ hk
 have hf : ∀ k, FG F G k → k ≠ r := fun k hk e => w.nr (by rw [← e]; exact hk)
 have st : Step (fun k => k = r) h (fun k => k = r) (h.put r o vs) := Step.put (F := fun k => k = r) rfl o vs
 refine ⟨⟨?_, ?_, w.nr⟩, st.right⟩
 ·rw [hs, hl]
  exact ⟨w.db.dv.keep fun k hk _ => e k (hf k (.inl hk)), w.db.bk.keep fun k hk _ => e k (hf k (.inr hk)), st.alive w.db.lf, st.alive w.db.lg, w.db.ap⟩
 ·have := w.rc.put o vs
  rw [hc] at this
  exact this
theorem K78.c (hb : RpB p n) (hq : Q (.int .i64 ((p.pl + 1 : Nat) : Int)) h) : CT 78 #[ringV p] h Q := by
 have := hb.l2
 apply K78.ok
 unfold K78.wp
 rw [show IntKind.i64.wrap ((p.pl : Int) + 1) = ((p.pl + 1 : Nat) : Int) by rw [i64_in _ (by omega)]; omega]
 exact hq
theorem K51.c (hb : RpB p n) (hq : Q (plV p.bk) h) : CT 51 #[ringV p] h Q := by
 have := hb.l2
 apply K51.ok
 refine K78.c hb ⟨_, rfl, ?_⟩
 rw [show IntKind.i64.wrap (((p.pl + 1 : Nat) : Int) + 1) = ((p.pl + 2 : Nat) : Int) by rw [i64_in _ (by omega)]; omega]
 exact hq
theorem K77.c (hb : RpB p n) (hq : Q (.int .i64 0) h) : CT 77 #[ringV p, .int .i64 (n : Int)] h Q := by
 have := hb.l1
 have := hb.l2
 have := hb.q1
 have := hb.q2
 apply K77.ok
 refine xsIf_f (decide_eq_false (by omega)) (xsIf_f (decide_eq_false (by omega)) (xsIf_f (decide_eq_false (by omega)) (xsIf_f (decide_eq_false (by omega)) (K51.c hb ⟨_, _, _, rfl, K112.c ⟨_, rfl, ?_⟩⟩))))
 rw [hb.ok.check]; exact hq
theorem K117.c {s : PmS} (w : PmD F h d s) (hb : RpB p s.nl) (hq : Q (.int .i64 0) h) : CT 117 #[.pointer (some ⟨d, 0, none⟩), ringV p] h Q := by
 apply K117.ok
 exact xsIf_f rfl (K76.c w ⟨_, rfl, K77.c hb ⟨_, rfl, hq⟩⟩)
theorem slotS_at {g : Gp} {pl i : Nat} (o : g.ok pl) (hi : i < pl) : slotS g.s0 g.s1 pl i = ((g.slot pl i : Nat) : Int) := by
 rw [slotS_eq o.r (by omega) (by omega), (Gp.slot_at o hi).1]
theorem K74.c {i : Int} (w : RD F G h d b r p x) (o : x.g.ok p.pl) (hy : 0 ≤ i → i < p.pl → Q (.tuple #[.int .i64 (x.g.slot p.pl i.toNat : Nat), .int .i64 0]) h) (hn : ¬ (0 ≤ i ∧ i < p.pl) → Q (.tuple #[.int .i64 0, .int .i64 3]) h) :
  CT 74 #[.pointer (some ⟨r, 0, none⟩), .int .i64 i] h Q := by
 apply K74.ok
 refine xsIf_f rfl (xsIf_intro (fun h1 => hn fun h2 => by have := of_decide_eq_true h1; omega) fun h1 => ⟨r, 0, rfl, _, w.c1, xsIf_intro (fun h2 => hn fun h3 => by have := of_decide_eq_true h2; omega) fun h2 => ⟨r, 0, rfl, r, 0, rfl, _, w.c5, _, w.c6, _, w.c7, _, w.c1, ?_⟩⟩)
 have h1 := of_decide_eq_false h1
 have h2 := of_decide_eq_false h2
 obtain ⟨k, rfl⟩ : ∃ k : Nat, i = k := ⟨i.toNat, by omega⟩
 have hy := hy (by omega) (by omega)
 rw [Int.toNat_natCast] at hy
 exact K109.c (slotS_at o (by omega)) ⟨_, rfl, hy⟩
theorem K47.c {i : Nat} (w : RD F G h d b r p x) (o : x.g.ok p.pl) (hi : i < p.pl) (hq : Q (.tuple #[.int .i64 (whN p.bk x.l (x.g.slot p.pl i) : Nat), .int .i64 0]) h) :
  CT 47 #[.pointer (some ⟨r, 0, none⟩), .int .i64 (i : Int)] h Q := by
 have hs := (Gp.slot_at o hi).2.1
 apply K47.ok
 refine K74.c w o (fun _ _ => ⟨_, _, rfl, xsIf_f rfl ⟨r, 0, rfl, _, w.c4, ?_⟩⟩) fun hn => absurd ⟨by omega, by omega⟩ hn
 rw [Int.toNat_natCast]
 refine K75.c w.db.bk (fun _ _ => ⟨_, _, rfl, ?_⟩) fun hn => absurd ⟨by omega, by rw [bk_pl]; omega⟩ hn
 rw [Int.toNat_natCast]; exact hq
theorem K137.c {i : Int} (w : RD F G h d b r p x) (o : x.g.ok p.pl) (sp : SpI p.bk x.s x.l) (hy : 0 ≤ i → i < p.pl → Q (.tuple #[.string (rr p x i.toNat), .int .i64 0]) h) (hn : ¬ (0 ≤ i ∧ i < p.pl) → Q (.tuple #[.string ⟨#[]⟩, .int .i64 3]) h) :
  CT 137 #[.pointer (some ⟨r, 0, none⟩), .int .i64 i] h Q := by
 apply K137.ok
 refine K74.c w o (fun h0 h1 => ⟨_, _, rfl, xsIf_f rfl ⟨r, 0, rfl, _, w.c4, ?_⟩⟩) fun h0 => ⟨_, _, rfl, xsIf_t rfl (hn h0)⟩
 have hs := (Gp.slot_at o (i := i.toNat) (by omega)).2.1
 exact K128.rd w.db sp (by rw [bk_pl]; omega) ⟨_, _, rfl, hy h0 h1⟩
theorem K188.c (w : RD F G h d b r p x) (hq : Q (.agg #[.int .i64 x.g.s0, .int .i64 x.g.s1, .int .u32 x.g.s2]) h) : CT 188 #[.pointer (some ⟨r, 0, none⟩)] h Q := by
 apply K188.ok
 exact xsIf_f rfl ⟨r, 0, rfl, _, w.c5, _, w.c6, _, w.c7, hq⟩
end
end Go.Gb
namespace Go.Gb
open Go.Proofs IntWalk
noncomputable def rWrite (p : RPl) (x : RS) (i : Int) (B : ByteArray) : Int × RS :=
 if B.size = 64 then (if 0 ≤ i ∧ i < p.pl then rwrite p (fun s l k => swrite p.bk l s k B) x i.toNat else (3, x)) else (2, x)
noncomputable def rWriteWord (p : RPl) (x : RS) (i k : Int) (v : Nat) : Int × RS :=
 if 0 ≤ k ∧ k < 8 then (if 0 ≤ i ∧ i < p.pl then rwrite p (fun s l j => swritew p.bk l s j k.toNat v) x i.toNat else (3, x)) else (2, x)
section
variable {F G : Nat → Prop} {h h1 h2 h3 : Heap} {d b r n : Nat} {p : RPl} {x : RS} {Q : QT}
theorem RgI.rb (i : RgI p x) : RpB p x.s.nl := ⟨i.l1, i.l2, i.q1, i.q2, i.sp.ok⟩
theorem Step.drop (pt : Part h1 h2) (st : Step (FG F G) h2 (FG F G) h3) (fg : ∀ k, G k → h1 k = none) : Step F h1 F h3 := by
 refine ⟨fun k hf hk => ?_, fun k hk => .inl hk, fun k hk => st.live k (by rw [part_live pt hk]; exact hk), fun hl k hk => st.live k (by rw [part_live pt (hl k hk)]; exact hl k hk)⟩
 have e := part_live pt hk
 rw [st.keep k (fun hfg => ?_) (by rw [e]; exact hk), e]
 rcases hfg with h | h
 ·exact hf h
 ·exact hk (fg k h)
theorem K161.c (w : RD F G h d b r p x) (i : RgI p x) (hq : ∀ h', RD F G h' d b r p (rmove p x).2 → Step (FR F G r) h (FR F G r) h' → Q (.int .i64 (rmove p x).1) h') :
  CT 161 #[.pointer (some ⟨r, 0, none⟩)] h Q := by
 obtain ⟨ok, d1, d2, d3, d4, d5, d6, -⟩ := Gp.move i.g
 have hb := i.rb
 apply K161.ok
 refine ⟨r, 0, rfl, r, 0, rfl, _, w.c5, _, w.c6, _, w.c7, _, w.c1, both (K186.c (Gp.nextS_eq i.g) ⟨_, _, _, _, _, rfl, r, 0, rfl, _, w.c4, K128.rd w.db i.sp (by rw [bk_pl]; omega) ⟨_, _, rfl, xsIf_f rfl ⟨r, 0, rfl, _, w.c4, K164.c w.db fun h1 w1 st1 => ⟨_, rfl, ?_⟩⟩⟩⟩)⟩
 have hB : (rd p.bk x.s x.l (x.g.src p.pl)).size = 64 := rdN_size _ _
 rw [sWrite_eq (by rw [bk_pl]; omega) hB] at w1 ⊢
 have o := swrite_out i.sp (i := x.g.dst p.pl) (B := rd p.bk x.s x.l (x.g.src p.pl)) (by rw [bk_pl]; omega) hB
 unfold rmove at hq
 generalize swrite p.bk x.l x.s (x.g.dst p.pl) (rd p.bk x.s x.l (x.g.src p.pl)) = a at o w1 hq ⊢
 have w1' := w.bank w1 st1
 unfold rmove1 at hq
 by_cases e : a.1 = 0
 ·rw [if_pos e] at hq
  have sp : SpI p.bk a.2.1 a.2.2 := by
   rcases o with o | o | o
   ·exact o.2.1
   ·exact o.2.1
   ·rw [e] at o; cases o.1
  refine xsIf_f (decide_eq_false (fun h => h e)) ⟨r, 0, rfl, r, 0, rfl, _, w1'.c0, _, w1'.c1, _, w1'.c2, _, w1'.c3, ?_⟩
  refine ⟨⟨_, w1'.c4, K78.c hb ⟨_, rfl, K122.c ok.l (by have := ok.h; omega) ⟨_, rfl, ?_⟩⟩⟩, K78.c hb ⟨_, rfl, ⟨_, w1'.c4, K122.c ok.l (by have := ok.h; omega) ⟨_, rfl, ?_⟩⟩, K122.c ok.l (by have := ok.h; omega) ⟨_, rfl, _, w1'.c4, ?_⟩⟩⟩
  all_goals
   rw [← Gp.pk_int _ ok.l ok.h]
   refine K120.c w1'.db sp.w (Gp.pk_lt ok) fun h2 w2 st2 => ⟨_, rfl, ?_⟩
   have e2 : sWriteWord p.bk a.2.2 a.2.1 ((p.pl + 1 : Nat) : Int) 0 (x.g.next p.pl).pk = swritew p.bk a.2.2 a.2.1 (p.pl + 1) 0 (x.g.next p.pl).pk := sWriteWord_eq (k := 0) (by rw [bk_pl]; omega) (by omega)
   have w2 : DB F G h2 d b p.bk (sWriteWord p.bk a.2.2 a.2.1 ((p.pl + 1 : Nat) : Int) 0 (x.g.next p.pl).pk).2.1 (sWriteWord p.bk a.2.2 a.2.1 ((p.pl + 1 : Nat) : Int) 0 (x.g.next p.pl).pk).2.2 := w2
   rw [e2] at w2 ⊢
   generalize swritew p.bk a.2.2 a.2.1 (p.pl + 1) 0 (x.g.next p.pl).pk = bb at w2 hq ⊢
   have w2' := w1'.bank w2 st2
   unfold rmove2 at hq
   by_cases e3 : bb.1 = 0
   ·rw [if_pos e3] at hq
    obtain ⟨w3, st3⟩ := w2'.put (x' := ⟨bb.2.1, bb.2.2, x.g.next p.pl, x.n⟩) (o := 0 + 5) (vs := [.int .i64 (x.g.next p.pl).s0, .int .i64 (x.g.next p.pl).s1, .int .u32 (x.g.next p.pl).s2]) rfl rfl rfl
    obtain ⟨w4, st4⟩ := w3.put (x' := ⟨bb.2.1, bb.2.2, x.g.next p.pl, 0⟩) (o := 0 + 8) (vs := [.int .i64 0]) rfl rfl rfl
    rw [e3]
    exact xsIf_f rfl ⟨r, 0, rfl, w2'.rc.can (by show 0 + 5 + 3 ≤ 9; omega), r, 0, rfl, w3.rc.can (by show 0 + 8 + 1 ≤ 9; omega), hq _ w4 ((st1.left.trans st2.left).trans (st3.trans st4))⟩
   ·rw [if_neg e3] at hq
    exact xsIf_t (decide_eq_true e3) (hq h2 w2' (st1.left.trans st2.left))
 ·rw [if_neg e] at hq
  exact xsIf_t (decide_eq_true e) (hq h1 w1' st1.left)
def Fc (F G : Nat → Prop) (h : Heap) (d b r : Nat) (p : RPl) (fn : Nat) (fa fc : Array Value) (f : PmS → List Nat → Nat → Int × PmS × List Nat) : Prop :=
 ∀ (h1 : Heap) (x1 : RS) (k : Nat) (Q1 : QT), RD F G h1 d b r p x1 → SpI p.bk x1.s x1.l → Step (FR F G r) h (FR F G r) h1 → k < p.bk.pl →
  (∀ h2, DB F G h2 d b p.bk (f x1.s x1.l k).2.1 (f x1.s x1.l k).2.2 → Step (FG F G) h1 (FG F G) h2 → Q1 (.int .i64 (f x1.s x1.l k).1) h2) →
  CT fn (List.toArray (fa.toList ++ [.int .i64 (k : Nat)] ++ fc.toList)) h1 Q1
theorem K132.J8.c {fn : Nat} {fa fc : Array Value} {f : PmS → List Nat → Nat → Int × PmS × List Nat} {i : Nat} {h0 : Heap} (hg : goOk Tryz.prog fn = true) (hf : Fc F G h0 d b r p fn fa fc f) (w : RD F G h d b r p x) (iv : RgI p x) (st : Step (FR F G r) h0 (FR F G r) h) (hi : i < p.pl)
  (hq : ∀ h', RD F G h' d b r p (rput p f x i).2 → Step (FR F G r) h (FR F G r) h' → Q (.int .i64 (rput p f x i).1) h') : K132.J8 (some ⟨r, 0, none⟩) (i : Int) fn fa fc h Q := by
 have hs := (Gp.slot_at iv.g hi).2.1
 apply K132.J8.ok
 refine K74.c w iv.g (fun _ _ => ⟨_, _, rfl, xsIf_t hg ?_⟩) fun hn => absurd ⟨by omega, by omega⟩ hn
 rw [Int.toNat_natCast]
 refine hf h x (x.g.slot p.pl i) _ w iv.sp st (by rw [bk_pl]; omega) fun h2 w2 st2 => ⟨_, rfl, ?_⟩
 unfold rput at hq
 generalize f x.s x.l (x.g.slot p.pl i) = q at w2 hq ⊢
 have w2' := w.bank w2 st2
 unfold rput2 at hq
 by_cases e : q.1 = 0
 ·rw [if_pos e] at hq
  have := iv.n
  have := iv.q2
  obtain ⟨w3, st3⟩ := w2'.put (x' := ⟨q.2.1, q.2.2, x.g, x.n + 1⟩) (o := 0 + 8) (vs := [.int .i64 ((x.n + 1 : Nat) : Int)]) rfl rfl rfl
  refine xsIf_t (decide_eq_true e) ⟨r, 0, rfl, _, w2'.c8, r, 0, rfl, w2'.rc.can (by show 0 + 8 + 1 ≤ 9; omega), ?_⟩
  rw [show IntKind.i64.wrap (((x.n : Nat) : Int) + 1) = ((x.n + 1 : Nat) : Int) by rw [i64_in _ (by omega)]; omega]
  exact hq _ w3 (st2.left.trans st3)
 ·rw [if_neg e] at hq
  exact xsIf_f (decide_eq_false e) (hq h2 w2' st2.left)
theorem K132.c {fn : Nat} {fa fc : Array Value} {f : PmS → List Nat → Nat → Int × PmS × List Nat} {i : Int} (hg : goOk Tryz.prog fn = true) (hf : Fc F G h d b r p fn fa fc f) (w : RD F G h d b r p x) (iv : RgI p x)
  (hy : 0 ≤ i → i < p.pl → ∀ h', RD F G h' d b r p (rwrite p f x i.toNat).2 → Step (FR F G r) h (FR F G r) h' → Q (.int .i64 (rwrite p f x i.toNat).1) h') (hn : ¬ (0 ≤ i ∧ i < p.pl) → Q (.int .i64 3) h) :
  CT 132 #[.pointer (some ⟨r, 0, none⟩), .int .i64 i, .func (.func fn) fa fc] h Q := by
 apply K132.ok
 refine K74.c w iv.g (fun h0 h1 => ⟨_, _, rfl, xsIf_f rfl ⟨r, 0, rfl, r, 0, rfl, _, w.c8, _, w.c3, ?_⟩⟩) fun h0 => ⟨_, _, rfl, xsIf_t rfl (hn h0)⟩
 have hq := hy h0 h1
 obtain ⟨i, rfl⟩ : ∃ k : Nat, i = k := ⟨i.toNat, by omega⟩
 rw [Int.toNat_natCast] at hq
 unfold rwrite at hq
 refine xsIf_intro (fun e => ?_) fun e => ?_
 ·have e := of_decide_eq_true e
  rw [if_pos (by omega)] at hq
  refine K161.c w iv fun h2 w2 st2 => ⟨_, rfl, ?_⟩
  have o := rmove_out iv
  generalize rmove p x = m at w2 hq o ⊢
  by_cases e2 : m.1 = 0
  ·rw [if_pos e2] at hq
   rw [e2]
   have iv2 : RgI p m.2 := by
    rcases o with o | o | o
    ·exact o.2.1
    ·exact o.2.1
    ·rw [e2] at o; cases o.1
   exact xsIf_f rfl (K132.J8.c hg hf w2 iv2 st2 (by omega) fun h3 w3 st3 => hq h3 w3 (st2.trans st3))
  ·rw [if_neg e2] at hq
   exact xsIf_t (decide_eq_true e2) (hq h2 w2 st2)
 ·have e := of_decide_eq_false e
  rw [if_neg (by omega)] at hq
  exact K132.J8.c hg hf w iv (Step.refl _ _) (by omega) hq
theorem RD.fresh (w : RD F G h d b r p x) {k : Nat} (hk : h k = none) : ¬ FR F G r k := fun hf => by
 rcases hf with (hf | hf) | hf
 ·exact w.db.lf k hf hk
 ·exact w.db.lg k hf hk
 ·have hf : k = r := hf
  exact w.rc.ne (by rw [← hf]; exact hk)
theorem K136.c {i : Int} {B : ByteArray} (w : RD F G h d b r p x) (iv : RgI p x)
  (hq : ∀ h', RD F G h' d b r p (rWrite p x i B).2 → Step (FR F G r) h (FR F G r) h' → Q (.int .i64 (rWrite p x i B).1) h') :
  CT 136 #[.pointer (some ⟨r, 0, none⟩), .int .i64 i, .string B] h Q := by
 apply K136.ok
 intro b1 hb1 b2 hb2
 obtain ⟨ne, hb2'⟩ := fresh_ne hb2
 generalize e2 : upd (upd h b1 (Obj.cells #[.pointer (some ⟨r, 0, none⟩)] 105 (0, 0))) b2 (Obj.cells #[.string B] 9 (0, 0)) = h2
 have pt : Part h h2 := by rw [← e2]; exact (Part.upd hb1 _).upd' hb2' _
 have k1 : Blk h2 b1 [.pointer (some ⟨r, 0, none⟩)] := ⟨_, by rw [← e2, upd_other _ _ ne.symm, upd_same]⟩
 have k2 : Blk h2 b2 [.string B] := ⟨_, by rw [← e2, upd_same]⟩
 have w2 := w.part pt
 have f1 := w.fresh hb1
 have f2 := w.fresh hb2'
 have st0 : Step (FR F G r) h (FR F G r) h2 := Step.of_part pt
 unfold rWrite at hq
 refine ⟨_, k1.cell 0, xsIf_t rfl ⟨_, k2.cell 0, xsIf_intro (fun e => ?_) fun e => ⟨_, k1.cell 0, ?_⟩⟩⟩
 ·have e := of_decide_eq_true e
  rw [if_neg (by omega)] at hq
  exact hq h2 w2 st0
 ·have e := of_decide_eq_false e
  rw [if_pos (by omega)] at hq
  refine K132.c (f := fun s l k => swrite p.bk l s k B) (by kernel_rfl) (fun h3 x1 k Q1 w3 sp3 st3 hk hq1 => ?_) w2 iv (fun h0 h1 h' w' st' => ⟨_, rfl, ?_⟩) fun hn => ⟨_, rfl, ?_⟩
  ·have c1 := k1.keep (st3.keep b1 f1 k1.ne)
   have c2 := k2.keep (st3.keep b2 f2 k2.ne)
   show CT 163 #[.int .i64 (k : Nat), .pointer (some ⟨b1, 0, none⟩), .pointer (some ⟨b2, 0, none⟩)] h3 Q1
   apply K163.ok
   refine ⟨_, c1.cell 0, r, 0, rfl, _, w3.c4, _, c2.cell 0, K164.c w3.db fun h4 w4 st4 => ⟨_, rfl, ?_⟩⟩
   rw [sWrite_eq hk (by omega)] at w4 ⊢
   exact hq1 h4 w4 st4
  ·rw [if_pos ⟨h0, h1⟩] at hq; exact hq h' w' (st0.trans st')
  ·rw [if_neg hn] at hq; exact hq h2 w2 st0
theorem K92.c {i k : Int} {v : Nat} (w : RD F G h d b r p x) (iv : RgI p x) (hv : v < 18446744073709551616)
  (hq : ∀ h', RD F G h' d b r p (rWriteWord p x i k v).2 → Step (FR F G r) h (FR F G r) h' → Q (.int .i64 (rWriteWord p x i k v).1) h') :
  CT 92 #[.pointer (some ⟨r, 0, none⟩), .int .i64 i, .int .i64 k, .int .u64 (v : Nat)] h Q := by
 apply K92.ok
 intro b1 hb1 b2 hb2 b3 hb3
 obtain ⟨ne, hb2'⟩ := fresh_ne hb2
 obtain ⟨ne2, hb3'⟩ := fresh_ne hb3
 obtain ⟨ne3, hb3''⟩ := fresh_ne hb3'
 generalize e2 : upd (upd (upd h b1 (Obj.cells #[.pointer (some ⟨r, 0, none⟩)] 105 (0, 0))) b2 (Obj.cells #[.int .i64 k] 3 (0, 0))) b3 (Obj.cells #[.int .u64 (v : Nat)] 28 (0, 0)) = h2
 have pt : Part h h2 := by rw [← e2]; exact ((Part.upd hb1 _).upd' hb2' _).upd' hb3'' _
 have k1 : Blk h2 b1 [.pointer (some ⟨r, 0, none⟩)] := ⟨_, by rw [← e2, upd_other _ _ ne3.symm, upd_other _ _ ne.symm, upd_same]⟩
 have k2 : Blk h2 b2 [.int .i64 k] := ⟨_, by rw [← e2, upd_other _ _ ne2.symm, upd_same]⟩
 have k3 : Blk h2 b3 [.int .u64 (v : Nat)] := ⟨_, by rw [← e2, upd_same]⟩
 have w2 := w.part pt
 have f1 := w.fresh hb1
 have f2 := w.fresh hb2'
 have f3 := w.fresh hb3''
 have st0 : Step (FR F G r) h (FR F G r) h2 := Step.of_part pt
 unfold rWriteWord at hq
 refine ⟨_, k1.cell 0, xsIf_t rfl ⟨_, k2.cell 0, xsIf_intro (fun e => ?_) fun e => ⟨_, k2.cell 0, xsIf_intro (fun e' => ?_) fun e' => ⟨_, k1.cell 0, ?_⟩⟩⟩⟩
 ·have e := of_decide_eq_true e
  rw [if_neg (by omega)] at hq
  exact hq h2 w2 st0
 ·have e' := of_decide_eq_true e'
  rw [if_neg (by omega)] at hq
  exact hq h2 w2 st0
 ·have e := of_decide_eq_false e
  have e' := of_decide_eq_false e'
  rw [if_pos (by omega)] at hq
  obtain ⟨k, rfl⟩ : ∃ q : Nat, k = q := ⟨k.toNat, by omega⟩
  rw [Int.toNat_natCast] at hq
  refine K132.c (f := fun s l j => swritew p.bk l s j k v) (by kernel_rfl) (fun h3 x1 j Q1 w3 sp3 st3 hk hq1 => ?_) w2 iv (fun h0 h1 h' w' st' => ⟨_, rfl, ?_⟩) fun hn => ⟨_, rfl, ?_⟩
  ·have c1 := k1.keep (st3.keep b1 f1 k1.ne)
   have c2 := k2.keep (st3.keep b2 f2 k2.ne)
   have c3 := k3.keep (st3.keep b3 f3 k3.ne)
   show CT 133 #[.int .i64 (j : Nat), .pointer (some ⟨b1, 0, none⟩), .pointer (some ⟨b2, 0, none⟩), .pointer (some ⟨b3, 0, none⟩)] h3 Q1
   apply K133.ok
   refine ⟨_, c1.cell 0, r, 0, rfl, _, w3.c4, _, c2.cell 0, _, c3.cell 0, K120.c w3.db sp3.w hv fun h4 w4 st4 => ⟨_, rfl, ?_⟩⟩
   rw [sWriteWord_eq hk (by omega)] at w4 ⊢
   exact hq1 h4 w4 st4
  ·rw [if_pos ⟨h0, h1⟩] at hq; exact hq h' w' (st0.trans st')
  ·rw [if_neg hn] at hq; exact hq h2 w2 st0
end
end Go.Gb
namespace Go.Gb
open Go.Proofs IntWalk
theorem pk_parts {g : Gp} {pl : Nat} (o : g.ok pl) : ((g.pk % 65536 : Nat) : Int) = g.s0 ∧ ((g.pk / 65536 % 65536 : Nat) : Int) = g.s1 ∧ ((g.pk / 4294967296 : Nat) : Int) = g.s2 := by
 have e := Gp.pk_int g o.l o.h
 have hr := o.r
 have h1 := o.l
 have h2 := o.h
 unfold rightP at hr
 unfold Gb.pk at e
 omega
section
variable {F G : Nat → Prop} {h h1 h2 h3 : Heap} {d b r n : Nat} {p : RPl} {x : RS} {Q : QT}
set_option maxRecDepth 100000 in
theorem K90.c (w : PmD F h d x.s) (lv : Live F h) (i : RgI p x)
  (hq : ∀ b r G h', RD F G h' d b r p ⟨x.s, x.l, x.g, 0⟩ → (∀ k, G k → h k = none) → h r = none → Part h h' → Q (.tuple #[.pointer (some ⟨r, 0, none⟩), .int .i64 0]) h') :
  CT 90 #[.pointer (some ⟨d, 0, none⟩), ringV p] h Q := by
 have hb := i.rb
 apply K90.ok
 refine K117.c w hb ⟨_, rfl, xsIf_f rfl (K51.c hb ⟨_, _, _, rfl, K119.c (p := p.bk) w lv i.sp fun b G h1 wb wd fg lf lg pt => ⟨_, _, rfl, xsIf_f rfl (K78.c hb ⟨_, rfl, ?_⟩)⟩⟩)⟩
 have db : DB F G h1 d b p.bk x.s x.l := ⟨wd, wb, lf, lg, fun k hg hf => lv k hf (fg k hg)⟩
 have hz : (rd p.bk x.s x.l (p.pl + 1)).size = 64 := rdN_size _ _
 have e0 : get8 (rd p.bk x.s x.l (p.pl + 1)) = x.g.pk := i.reg
 refine K128.rd db i.sp (by rw [bk_pl]; omega) ⟨_, _, rfl, xsIf_f rfl (K18.c (by omega) ⟨_, rfl, ?_⟩)⟩
 rw [e0]
 refine K129.c (Gp.pk_lt i.g) ⟨_, _, _, rfl, ?_⟩
 obtain ⟨q0, q1, q2⟩ := pk_parts i.g
 rw [q0, q1, q2]
 intro r hr
 generalize e2 : upd h1 r (Obj.cells #[.int .i64 p.pa, .int .i64 p.pl, .int .i64 p.ps, .int .i64 p.psi, .pointer (some ⟨b, 0, none⟩), .int .i64 x.g.s0, .int .i64 x.g.s1, .int .u32 x.g.s2, .int .i64 0] 149 (0, 0)) = h2
 have pt2 : Part h1 h2 := by rw [← e2]; exact Part.upd hr _
 have rd2 : RD F G h2 d b r p ⟨x.s, x.l, x.g, 0⟩ := by
  refine ⟨db.part pt2, ⟨_, by rw [← e2, upd_same]; rfl⟩, fun hf => ?_⟩
  rcases hf with hf | hf
  ·exact lf r hf hr
  ·exact lg r hf hr
 refine ⟨r, 0, rfl, _, rd2.c5, _, rd2.c6, _, rd2.c7, K130.c ⟨_, rfl, xsIf_f ?_ ?_⟩⟩
 ·rw [decide_eq_true i.g.r]; rfl
 ·exact hq b r G h2 rd2 fg (Part.none pt hr) (pt.trans pt2)
def Gp.first (pl : Nat) : Gp := ⟨0, pl, 0⟩
theorem Gp.first_ok {pl : Nat} (h1 : 1 ≤ pl) (h2 : pl ≤ 1024) : (Gp.first pl).ok pl := ⟨⟨by omega, by omega, by show (0 : Int) ≤ 0; omega, by show (0 : Int) < pl; omega, by show (0 : Int) ≤ (pl : Int); omega, by show (pl : Int) ≤ pl; omega⟩, by show (0 : Int) ≤ 0; omega, by show (0 : Int) < 4294967296; omega⟩
end
theorem swritew_clean {p : Pl} {s : PmS} {l : List Nat} (w : SpI p s l) (f : F0 s) (hb : ∀ k, s.bad k = false) {i k v : Nat} (hi : i < p.pl) (hk : k < 8) (hv : v < 18446744073709551616) :
  ∃ s', swritew p l s i k v = (0, s', l) ∧ SpI p s' l ∧ F0 s' ∧ s'.bad = s.bad ∧ s'.nl = s.nl ∧ ∀ j, j < p.pl → rd p s' l j = if j = i then withW (rd p s l i) k v else rd p s l j := by
 obtain ⟨f1, f2⟩ := whN_lt w.ok w.len hi
 have h1 := f.putw (v := ((v : Nat) : Int)) f1 hk
 have o := swritew_out w hi hk hv
 have hr : R64 ((v : Nat) : Int) := ⟨by omega, by omega⟩
 have w1 := w.putw f2 f1 hk hr h1.1
 have e : swritew p l s i k v = (0, (lnputw s (whN p l i : Nat) (k : Nat) (v : Nat)).2, l) := by
  unfold swritew
  rw [lnget_on w.on f1, if_pos rfl, if_pos h1.1]
  refine if_pos ((media_took w1.w (by rw [lnputw_nl]; exact f1) (withW_size _ _ _)).1 ?_)
  obtain ⟨_, m⟩ := w.on.putw0 f1 hk h1.1 (v := ((v : Nat) : Int))
  refine rdN_eq (withW_size _ _ _) fun j hj => ?_
  have hv0 : ∀ w', (s.media w').toNat < 18446744073709551616 ∧ s.media w' = (((s.media w').toNat : Nat) : Int) := fun w' => by have := w.w.media w'; unfold R64 at this; omega
  have wd : wordAt (lnbytes fun k => (s.media (8 * whN p l i + k)).toNat) j = (s.media (8 * whN p l i + j)).toNat := wordAt_text (f := fun k => (s.media (8 * whN p l i + k)).toNat) hj (hv0 _).1
  have wb : wordAt (withW (lnbytes fun k => (s.media (8 * whN p l i + k)).toNat) k v) j = if j = k then v else wordAt (lnbytes fun k => (s.media (8 * whN p l i + k)).toNat) j := wordAt_text (f := fun j => if j = k then v else wordAt (lnbytes fun k => (s.media (8 * whN p l i + k)).toNat) j) hj (by split; exact hv; exact wordAt_lt _ _)
  rw [wb, m _ (by omega)]
  by_cases ej : j = k
  ·rw [if_pos ⟨by omega, hb _⟩, if_pos ej]
  ·rw [if_neg (fun h => ej (by omega)), if_neg ej, wd]; exact (hv0 _).2
 rw [e] at o
 refine ⟨_, e, w1, h1.2, lnputw_bad w.on f1 hk, lnputw_nl _ _ _ _, ?_⟩
 rcases o with o | o | o
 ·exact o.2.2
 ·have := o.1; cases this
 ·have := o.1; cases this
structure Sd (s : PmS) : Prop where
 f : F0 s
 nb : ∀ k, s.bad k = false
def FClean (p : RPl) (f : PmS → List Nat → Nat → Int × PmS × List Nat) : Prop :=
 ∀ (s : PmS) (l : List Nat) (k : Nat), k < p.bk.pl → SpI p.bk s l → Sd s → ∃ s', f s l k = (0, s', l) ∧ Sd s' ∧ s'.nl = s.nl
theorem FClean.write (p : RPl) {B : ByteArray} (hB : B.size = 64) : FClean p (fun s l k => swrite p.bk l s k B) := fun s l k hk sp sd => by
 obtain ⟨s', e, _, f, b, n, _⟩ := swrite_clean sp sd.f sd.nb hk hB
 exact ⟨s', e, ⟨f, fun k => by rw [b]; exact sd.nb k⟩, n⟩
theorem FClean.word (p : RPl) {j v : Nat} (hj : j < 8) (hv : v < 18446744073709551616) : FClean p (fun s l k => swritew p.bk l s k j v) := fun s l k hk sp sd => by
 obtain ⟨s', e, _, f, b, n, _⟩ := swritew_clean sp sd.f sd.nb hk hj hv
 exact ⟨s', e, ⟨f, fun k => by rw [b]; exact sd.nb k⟩, n⟩
theorem FOut.write (p : RPl) (x : RS) {B : ByteArray} (hB : B.size = 64) : FOut p x (fun s l k => swrite p.bk l s k B) (fun _ => B) (fun b y => mixP b B y) := fun _ _ _ hk sp => swrite_out sp hk hB
theorem FOut.word (p : RPl) (x : RS) {j v : Nat} (hj : j < 8) (hv : v < 18446744073709551616) : FOut p x (fun s l k => swritew p.bk l s k j v) (fun b => withW b j v) (fun b y => y = b ∨ y = withW b j v) := fun _ _ _ hk sp => swritew_out sp hk hj hv
theorem rmove_clean {p : RPl} {x : RS} (w : RgI p x) (sd : Sd x.s) : (rmove p x).1 = 0 ∧ Sd (rmove p x).2.s ∧ (rmove p x).2.s.nl = x.s.nl := by
 obtain ⟨ok, d1, d2, d3, d4, d5, _, mv⟩ := Gp.move w.g
 obtain ⟨s', e, sp, f, b, n, _⟩ := swrite_clean w.sp sd.f sd.nb (i := x.g.dst p.pl) (B := rd p.bk x.s x.l (x.g.src p.pl)) (by rw [bk_pl]; omega) (rdN_size _ _)
 have nb : ∀ k, s'.bad k = false := fun k => by rw [b]; exact sd.nb k
 obtain ⟨s2, e2, sp2, f2, b2, n2, _⟩ := swritew_clean sp f nb (i := p.pl + 1) (k := 0) (v := (x.g.next p.pl).pk) (by rw [bk_pl]; omega) (by omega) (Gp.pk_lt ok)
 have er : rmove p x = (0, ⟨s2, x.l, x.g.next p.pl, 0⟩) := by
  unfold rmove rmove1
  rw [e, if_pos rfl]
  unfold rmove2
  rw [e2, if_pos rfl]
 rw [er]
 exact ⟨rfl, ⟨f2, fun k => by rw [b2]; exact nb k⟩, n2.trans n⟩
theorem rput_clean {p : RPl} {x : RS} {f : PmS → List Nat → Nat → Int × PmS × List Nat} (w : RgI p x) (sd : Sd x.s) {i : Nat} (hi : i < p.pl) (hf : FClean p f) :
  (rput p f x i).1 = 0 ∧ Sd (rput p f x i).2.s ∧ (rput p f x i).2.s.nl = x.s.nl ∧ (rput p f x i).2.g = x.g ∧ (rput p f x i).2.n = x.n + 1 := by
 have hs := (Gp.slot_at w.g hi).2.1
 obtain ⟨s', e, sd', n⟩ := hf x.s x.l (x.g.slot p.pl i) (by rw [bk_pl]; omega) w.sp sd
 unfold rput rput2
 rw [e]
 exact ⟨rfl, sd', n, rfl, rfl⟩
theorem rwrite_clean {p : RPl} {x : RS} {f : PmS → List Nat → Nat → Int × PmS × List Nat} (w : RgI p x) (sd : Sd x.s) {i : Nat} (hi : i < p.pl) (hf : FClean p f) :
  (rwrite p f x i).1 = 0 ∧ Sd (rwrite p f x i).2.s ∧ (rwrite p f x i).2.s.nl = x.s.nl ∧ (rwrite p f x i).2.g = (if p.psi ≤ x.n then x.g.next p.pl else x.g) ∧ (rwrite p f x i).2.n = (if p.psi ≤ x.n then 1 else x.n + 1) := by
 unfold rwrite
 by_cases h : p.psi ≤ x.n
 ·rw [if_pos h, if_pos h, if_pos h]
  obtain ⟨e, sd1, n1⟩ := rmove_clean w sd
  rw [if_pos e]
  rcases rmove_out w with ⟨_, w1, _, z, g1⟩ | ⟨e2, _⟩ | ⟨e2, _⟩
  ·have r := rput_clean w1 sd1 hi hf
   exact ⟨r.1, r.2.1, r.2.2.1.trans n1, r.2.2.2.1.trans g1, by rw [r.2.2.2.2, z]⟩
  ·rw [e] at e2; cases e2
  ·rw [e] at e2; cases e2
 ·rw [if_neg h, if_neg h, if_neg h]
  exact rput_clean w sd hi hf
end Go.Gb
namespace Go.Gb
open Go.Proofs IntWalk
end Go.Gb
namespace Go.Gb
open Go.Proofs IntWalk
end Go.Gb
namespace Go.Gb
open Go.Proofs IntWalk
structure Fx (lo hi : Nat) (s0 s : PmS) : Prop where
 nl : s.nl = s0.nl
 bd : s.bad = s0.bad
 med : ∀ w, w < 8 * s0.nl → (w / 8 < lo ∨ hi ≤ w / 8) → s.media w = s0.media w
 buf : ∀ w, w < 8 * s0.nl → (w / 8 < lo ∨ hi ≤ w / 8) → ∀ x, s.buf w = some x → x.1 = s0.media w
theorem Fx.refl {lo hi : Nat} {s : PmS} (o : On s) : Fx lo hi s s := ⟨rfl, rfl, fun _ _ _ => rfl, fun w hw _ x hx => by rw [o.buf w hw] at hx; cases hx⟩
theorem Fx.trans {lo hi : Nat} {s0 s1 s2 : PmS} (f : Fx lo hi s0 s1) (g : Fx lo hi s1 s2) : Fx lo hi s0 s2 := by
 have e := f.nl
 exact ⟨g.nl.trans f.nl, g.bd.trans f.bd, fun w hw ho => (g.med w (by rw [e]; exact hw) ho).trans (f.med w hw ho), fun w hw ho x hx => (g.buf w (by rw [e]; exact hw) ho x hx).trans (f.med w hw ho)⟩
theorem Fx.mono {lo hi lo' hi' : Nat} {s0 s : PmS} (f : Fx lo hi s0 s) (h1 : lo' ≤ lo) (h2 : hi ≤ hi') : Fx lo' hi' s0 s :=
 ⟨f.nl, f.bd, fun w hw ho => f.med w hw (by omega), fun w hw ho => f.buf w hw (by omega)⟩
theorem Fx.of_tg {lo hi : Nat} {s0 s : PmS} {B : Nat → Int} (t : Tg s0.nl s0.bad s0.media B s) (hB : ∀ w, (w / 8 < lo ∨ hi ≤ w / 8) → B w = s0.media w) : Fx lo hi s0 s := by
 refine ⟨t.nl, t.bd, fun w hw ho => ?_, fun w hw ho x hx => (t.buf w hw x hx).trans (hB w ho)⟩
 rcases t.med w hw with h | h
 ·exact h
 ·exact h.2.trans (hB w ho)
theorem Fx.boot {lo hi : Nat} {s0 s : PmS} (f : Fx lo hi s0 s) (ks : List Bool) : Fx lo hi s0 (pboot s ks) := by
 refine ⟨f.nl, f.bd, fun w hw ho => ?_, fun w hw ho x hx => by cases hx⟩
 show lmedia s (keptN (pend s) ks (pend s).length) w = _
 unfold lmedia
 split
 ·rename_i h
  obtain ⟨i, h1, h2⟩ := keptN_mem _ _ (Nat.le_refl _) h.1
  have hm : w ∈ pend s := by
   rw [h2, List.getD_eq_getElem?_getD, List.getElem?_eq_getElem h1]
   exact List.getElem_mem h1
  have hn := (pend_mem.1 hm).2
  cases e : s.buf w with
  | none => exact absurd e hn
  | some x => exact f.buf w hw ho x e
 ·exact f.med w hw ho
theorem On.put_fx {s : PmS} (o : On s) {a : Nat} {b : ByteArray} (ha : a < s.nl) (hb : b.size = 64) {lo hi : Nat} (h1 : lo ≤ a) (h2 : a < hi) : Fx lo hi s (lnput s (a : Int) b).2 :=
 Fx.of_tg (o.put ha hb).1 fun w ho => by unfold putM; rw [if_neg (by omega)]
theorem On.putw_fx {s : PmS} (o : On s) {a k : Nat} {v : Int} (ha : a < s.nl) (hk : k < 8) {lo hi : Nat} (h1 : lo ≤ a) (h2 : a < hi) : Fx lo hi s (lnputw s (a : Int) (k : Int) v).2 :=
 Fx.of_tg (o.putw ha hk).1 fun w ho => by unfold fset; rw [if_neg (by omega)]
theorem whN_hi {p : Pl} {l : List Nat} {i : Nat} (hl : l.length ≤ p.ps) (hi : i < p.pl) : whN p l i < p.pa + sizeN p := by
 unfold whN sizeN
 cases e : stands l i with
 | none => unfold ownN; dsimp only; omega
 | some k => have := (stN_lt _ e).1; unfold sparN; dsimp only; omega
theorem sretire_fx {p : Pl} {i : Nat} {b : ByteArray} (hi : i < p.pl) (hb : b.size = 64) : ∀ (m : Nat) (s : PmS) (l : List Nat), l.length + m = p.ps → SpI p s l → Fx p.pa (p.pa + sizeN p) s (sretire p i b m s l).2.1
 | 0, s, l, _, w => Fx.refl w.on
 | m + 1, s, l, hm, w => by
  obtain ⟨f1, f2⟩ := spar_fit w.ok (show l.length < p.ps by omega)
  have hh : sparN p l.length < p.pa + sizeN p := by unfold sparN sizeN; omega
  have x1 := w.on.put_fx (b := b) f1 hb (lo := p.pa) (hi := p.pa + sizeN p) (by omega) hh
  unfold sretire
  by_cases h0 : (lnput s (sparN p l.length : Nat) b).1 = 0
  ·rw [if_pos h0]
   have w1 := w.put f2 f1 hb h0
   generalize (lnput s (sparN p l.length : Nat) b).2 = s1 at w1 x1
   obtain ⟨g1, g2, g3, g4⟩ := say_at w1.ok (show l.length < p.ps by omega)
   have hz : tblN p ≤ sizeN p := by unfold sizeN; omega
   have x2 : ∀ v : Nat, Fx p.pa (p.pa + sizeN p) s (lnputw s1 (p.pa + l.length / 8 : Nat) (l.length % 8 : Nat) (v : Nat)).2 := fun v => x1.trans (w1.on.putw_fx g1 (Nat.mod_lt _ (by omega)) g3 (by omega))
   by_cases ht : took s1 (sparN p l.length) b = true
   ·rw [if_pos ht]; exact x2 _
   ·rw [if_neg ht]
    by_cases h2 : (lnputw s1 (p.pa + l.length / 8 : Nat) (l.length % 8 : Nat) (guardN 65535 : Nat)).1 = 0
    ·rw [if_pos h2]
     have w2 := w1.say (.inl rfl) (by omega) h2
     exact (x2 _).trans (sretire_fx hi hb m _ (l ++ [65535]) (by simp; omega) w2)
    ·rw [if_neg h2]; exact x2 _
  ·rw [if_neg h0]; exact x1
theorem swrite_fx {p : Pl} {s : PmS} {l : List Nat} (w : SpI p s l) {i : Nat} {b : ByteArray} (hi : i < p.pl) (hb : b.size = 64) : Fx p.pa (p.pa + sizeN p) s (swrite p l s i b).2.1 := by
 obtain ⟨f1, f2⟩ := whN_lt w.ok w.len hi
 have hlen := w.len
 have x1 := w.on.put_fx (b := b) f1 hb (lo := p.pa) (hi := p.pa + sizeN p) (by omega) (whN_hi w.len hi)
 unfold swrite
 by_cases h0 : (lnput s (whN p l i : Nat) b).1 = 0
 ·rw [if_pos h0]
  have w1 := w.put f2 f1 hb h0
  by_cases ht : took (lnput s (whN p l i : Nat) b).2 (whN p l i) b = true
  ·rw [if_pos ht]; exact x1
  ·rw [if_neg ht]; exact x1.trans (sretire_fx hi hb (p.ps - l.length) _ l (by omega) w1)
 ·rw [if_neg h0]; exact x1
theorem swritew_fx {p : Pl} {s : PmS} {l : List Nat} (w : SpI p s l) {i k v : Nat} (hi : i < p.pl) (hk : k < 8) (hv : v < 18446744073709551616) : Fx p.pa (p.pa + sizeN p) s (swritew p l s i k v).2.1 := by
 obtain ⟨f1, f2⟩ := whN_lt w.ok w.len hi
 have hlen := w.len
 have hr : R64 ((v : Nat) : Int) := ⟨by omega, by omega⟩
 have x1 := w.on.putw_fx (v := ((v : Nat) : Int)) f1 hk (lo := p.pa) (hi := p.pa + sizeN p) (by omega) (whN_hi w.len hi)
 unfold swritew
 rw [lnget_on w.on f1, if_pos rfl]
 by_cases h0 : (lnputw s (whN p l i : Nat) (k : Nat) (v : Nat)).1 = 0
 ·rw [if_pos h0]
  have w1 := w.putw f2 f1 hk hr h0
  have hb := withW_size (lnbytes fun k => (s.media (8 * whN p l i + k)).toNat) k v
  dsimp only
  generalize withW (lnbytes fun k => (s.media (8 * whN p l i + k)).toNat) k v = b at hb ⊢
  by_cases ht : took (lnputw s (whN p l i : Nat) (k : Nat) (v : Nat)).2 (whN p l i) b = true
  ·rw [if_pos ht]; exact x1
  ·rw [if_neg ht]; exact x1.trans (sretire_fx hi hb (p.ps - l.length) _ l (by omega) w1)
 ·rw [if_neg h0]; exact x1
def FFx (p : RPl) (f : PmS → List Nat → Nat → Int × PmS × List Nat) : Prop := ∀ (s : PmS) (l : List Nat) (k : Nat), k < p.bk.pl → SpI p.bk s l → Fx p.pa (p.pa + sizeN p.bk) s (f s l k).2.1
theorem FFx.write (p : RPl) {B : ByteArray} (hB : B.size = 64) : FFx p (fun s l k => swrite p.bk l s k B) := fun _ _ _ hk sp => swrite_fx sp hk hB
theorem FFx.word (p : RPl) {j v : Nat} (hj : j < 8) (hv : v < 18446744073709551616) : FFx p (fun s l k => swritew p.bk l s k j v) := fun _ _ _ hk sp => swritew_fx sp hk hj hv
theorem rmove_fx {p : RPl} {x : RS} (w : RgI p x) : Fx p.pa (p.pa + sizeN p.bk) x.s (rmove p x).2.s := by
 obtain ⟨ok, d1, d2, d3, d4, d5, _, mv⟩ := Gp.move w.g
 have hB := rdN_size x.s.media (whN p.bk x.l (x.g.src p.pl))
 have hd : x.g.dst p.pl < p.bk.pl := by rw [bk_pl]; omega
 have o := swrite_out w.sp (i := x.g.dst p.pl) (B := rd p.bk x.s x.l (x.g.src p.pl)) hd hB
 have r : Fx p.pa (p.pa + sizeN p.bk) x.s (swrite p.bk x.l x.s (x.g.dst p.pl) (rd p.bk x.s x.l (x.g.src p.pl))).2.1 := swrite_fx w.sp hd hB
 unfold rmove
 generalize swrite p.bk x.l x.s (x.g.dst p.pl) (rd p.bk x.s x.l (x.g.src p.pl)) = a at o r
 unfold rmove1
 by_cases e : a.1 = 0
 ·rw [if_pos e]
  have sp : SpI p.bk a.2.1 a.2.2 := by
   rcases o with o | o | o
   ·exact o.2.1
   ·exact o.2.1
   ·rw [e] at o; cases o.1
  have r2 : Fx p.pa (p.pa + sizeN p.bk) a.2.1 (swritew p.bk a.2.2 a.2.1 (p.pl + 1) 0 (x.g.next p.pl).pk).2.1 := swritew_fx sp (by rw [bk_pl]; omega) (by omega) (Gp.pk_lt ok)
  unfold rmove2
  split
  ·exact r.trans r2
  ·exact r.trans r2
 ·rw [if_neg e]; exact r
theorem rwrite_fx {p : RPl} {x : RS} {f : PmS → List Nat → Nat → Int × PmS × List Nat} (w : RgI p x) {i : Nat} (hi : i < p.pl) (hf : FFx p f) : Fx p.pa (p.pa + sizeN p.bk) x.s (rwrite p f x i).2.s := by
 have put : ∀ x : RS, RgI p x → Fx p.pa (p.pa + sizeN p.bk) x.s (rput p f x i).2.s := fun x w => by
  have hs := (Gp.slot_at w.g hi).2.1
  exact hf x.s x.l (x.g.slot p.pl i) (by rw [bk_pl]; omega) w.sp
 unfold rwrite
 split
 ·split
  ·rename_i e
   have w1 : RgI p (rmove p x).2 := by
    rcases rmove_out w with o | o | o
    ·exact o.2.1
    ·exact o.2.1
    ·rw [e] at o; cases o.1
   exact (rmove_fx w).trans (put _ w1)
  ·exact rmove_fx w
 ·exact put x w
theorem RgI.far {p : RPl} {x : RS} {s' : PmS} {lo hi : Nat} (w : RgI p x) (f : Fx lo hi x.s s') (o : On s') (ok : PmOk s') (hd : p.pa + sizeN p.bk ≤ lo ∨ hi ≤ p.pa) : RgI p ⟨s', x.l, x.g, x.n⟩ ∧ ∀ j, j < p.pl → rr p ⟨s', x.l, x.g, x.n⟩ j = rr p x j := by
 have sp := w.sp
 have fit := sp.ok.fit
 have fit' : p.pa + sizeN p.bk ≤ x.s.nl := fit
 have ht : tblN p.bk ≤ sizeN p.bk := by unfold sizeN; omega
 have hm : ∀ k, k < p.bk.ps → s'.media (8 * p.bk.pa + k) = x.s.media (8 * p.bk.pa + k) := fun k hk => by
  obtain ⟨g1, g2, g3⟩ := tbl_fit sp.ok hk
  have ea : p.bk.pa = p.pa := rfl
  exact f.med _ g1 (by omega)
 have hrd : ∀ j, j < p.bk.pl → rd p.bk s' x.l j = rd p.bk x.s x.l j := fun j hj => by
  obtain ⟨g1, g2⟩ := whN_lt sp.ok sp.len hj
  have g3 := whN_hi sp.len hj
  have ea : p.bk.pa = p.pa := rfl
  exact rdN_congr fun k hk => f.med _ (by omega) (by omega)
 have sp' : SpI p.bk s' x.l := ⟨sp.ok.of f.nl, o, by rw [sents_eq sp.ok sp.on o f.nl hm]; exact sp.en, by rw [f.bd]; exact sp.tb, ok⟩
 refine ⟨w.keep sp' rfl w.n (hrd _ (by rw [bk_pl]; omega)), fun j hj => hrd _ ?_⟩
 have := (Gp.slot_at w.g hj).2.1
 show x.g.slot p.pl j < p.bk.pl
 rw [bk_pl]; omega
end Go.Gb
namespace Go.Gb
open Go.Proofs IntWalk
end Go.Gb
namespace Go.Gb
open Go.Proofs IntWalk
theorem mixP_self {b : ByteArray} {B : ByteArray} (hb : b.size = 64) (hB : B.size = 64) : mixP b B b := ⟨hb, hB, hb, fun _ _ => .inl rfl⟩
theorem rr_size (p : RPl) (x : RS) (j : Nat) : (rr p x j).size = 64 := rdN_size _ _
theorem rWrite_eq {p : RPl} {x : RS} {i : Nat} {B : ByteArray} (hi : i < p.pl) (hB : B.size = 64) : rWrite p x (i : Int) B = rwrite p (fun s l k => swrite p.bk l s k B) x i := by
 unfold rWrite; rw [if_pos hB, if_pos (by omega), Int.toNat_natCast]
theorem rWriteWord_eq {p : RPl} {x : RS} {i k v : Nat} (hi : i < p.pl) (hk : k < 8) : rWriteWord p x (i : Int) (k : Int) v = rwrite p (fun s l j => swritew p.bk l s j k v) x i := by
 unfold rWriteWord; rw [if_pos (by omega), if_pos (by omega), Int.toNat_natCast, Int.toNat_natCast]
end Go.Gb
namespace Go.Gb
open Go.Proofs IntWalk
section
variable {p : RPl} {x : RS}
theorem RgI.boot (w : RgI p x) (ks : List Bool) : RgI p ⟨pboot x.s ks, x.l, x.g, 0⟩ ∧ ∀ j, j < p.pl → rr p ⟨pboot x.s ks, x.l, x.g, 0⟩ j = rr p x j := by
 obtain ⟨sp, m, _⟩ := w.sp.boot ks
 refine ⟨w.keep sp rfl (Nat.zero_le _) (m _ (by rw [bk_pl]; omega)), fun j hj => m _ ?_⟩
 have := (Gp.slot_at w.g hj).2.1
 show x.g.slot p.pl j < p.bk.pl
 rw [bk_pl]; omega
theorem RgI.dev {s' : PmS} (w : RgI p x) (sp : SpI p.bk s' x.l) (hm : s'.media = x.s.media) : RgI p ⟨s', x.l, x.g, x.n⟩ ∧ ∀ j, rr p ⟨s', x.l, x.g, x.n⟩ j = rr p x j := by
 refine ⟨w.keep sp rfl w.n ?_, fun j => ?_⟩
 ·show rdN s'.media _ = _; rw [hm]; rfl
 ·show rdN s'.media _ = _; rw [hm]; rfl
end
end Go.Gb
namespace Go.Gb
open Go.Proofs IntWalk
structure FPl where
 R : Nat
 pl : Nat
 ps : Nat
 psi : Nat
 key : Nat
def FPl.z (p : FPl) : Nat := (p.ps + 7) / 8 + (p.pl + 2) + p.ps
def FPl.plan (p : FPl) (r : Nat) : RPl := ⟨1 + r * p.z, p.pl, p.ps, p.psi⟩
def FPl.kk (p : FPl) (r : Nat) : Nat := (p.key + r) % 18446744073709551616
structure FPl.ok (p : FPl) (n : Nat) : Prop where
 r1 : 1 ≤ p.R
 r2 : p.R ≤ 16
 l1 : 1 ≤ p.pl
 l2 : p.pl ≤ 1024
 s2 : p.ps ≤ 64
 q1 : 1 ≤ p.psi
 q2 : p.psi ≤ 65535
 k : p.key < 18446744073709551616
 fit : 1 + p.R * p.z ≤ n
 n : n ≤ 8192
theorem plan_size (p : FPl) (r : Nat) : sizeN (p.plan r).bk = p.z := rfl
theorem plan_pl (p : FPl) (r : Nat) : (p.plan r).pl = p.pl := rfl
theorem plan_pa (p : FPl) (r : Nat) : (p.plan r).pa = 1 + r * p.z := rfl
theorem mul_next {r R z : Nat} (h : r < R) : r * z + z ≤ R * z := by
 have := Nat.mul_le_mul_right z (show r + 1 ≤ R by omega)
 rw [Nat.succ_mul] at this; exact this
theorem FPl.ok.plan {p : FPl} {n : Nat} (o : p.ok n) {r : Nat} (hr : r < p.R) : RpB (p.plan r) n := by
 have h := mul_next (z := p.z) hr
 have f := o.fit
 have hn := o.n
 have l1 := o.l1
 have l2 := o.l2
 have s2 := o.s2
 refine ⟨o.l1, o.l2, o.q1, o.q2, ⟨by show 1 ≤ p.pl + 2; omega, by show p.pl + 2 ≤ 1026; omega, s2, by show 1 + r * p.z ≤ 8192; omega, ?_⟩⟩
 show 1 + r * p.z + p.z ≤ n
 omega
theorem plan_apart {p : FPl} {k r : Nat} (h : k ≠ r) : (p.plan k).pa + sizeN (p.plan k).bk ≤ (p.plan r).pa ∨ (p.plan r).pa + sizeN (p.plan r).bk ≤ (p.plan k).pa := by
 rw [plan_size, plan_size, plan_pa, plan_pa]
 rcases Nat.lt_or_gt_of_ne h with h | h
 ·have := mul_next (z := p.z) h; left; omega
 ·have := mul_next (z := p.z) h; right; omega
noncomputable def feiN (m key i : Nat) : Nat := open Classical in if h : ∃ k, Goes (turnN (halfN m) (keyN key 0) (keyN key 1) (keyN key 2) (keyN key 3)) m i k then h.choose else 0
theorem feiN_goes {m : Nat} (key : Nat) (hm : m ≤ 8192) {i : Nat} (hi : i < m) : Goes (turnN (halfN m) (keyN key 0) (keyN key 1) (keyN key 2) (keyN key 3)) m i (feiN m key i) := by
 have h := new_goes key hm hi
 unfold feiN
 rw [dif_pos h]
 exact h.choose_spec
theorem feiN_lt {m : Nat} (key : Nat) (hm : m ≤ 8192) {i : Nat} (hi : i < m) : feiN m key i < m := (feiN_goes key hm hi).1
theorem feiN_inj {m key : Nat} (hm : m ≤ 8192) {i j : Nat} (hi : i < m) (hj : j < m) (e : feiN m key i = feiN m key j) : i = j := by
 have h1 := feiN_goes key hm hi
 have h2 := feiN_goes key hm hj
 rw [← e] at h2
 exact (turn_perm (halfN m) (keyN key 0) (keyN key 1) (keyN key 2) (keyN key 3)).goes_inj (halfN_le hm).2.2 hi hj h1 h2
def FPl.reg (p : FPl) (l : Nat) : Nat := l / p.pl
noncomputable def FPl.pos (p : FPl) (l : Nat) : Nat := feiN p.pl (p.kk (p.reg l)) (l % p.pl)
theorem FPl.at_line {p : FPl} {n l : Nat} (o : p.ok n) (hl : l < p.R * p.pl) : p.reg l < p.R ∧ p.pos l < p.pl := by
 have l1 := o.l1
 have l2 := o.l2
 have h1 : l / p.pl < p.R := (Nat.div_lt_iff_lt_mul (by omega)).2 hl
 exact ⟨h1, feiN_lt _ (by omega) (Nat.mod_lt _ (by omega))⟩
theorem FPl.same_line {p : FPl} {n l j : Nat} (o : p.ok n) (hr : p.reg j = p.reg l) (hp : p.pos j = p.pos l) : j = l := by
 have l1 := o.l1
 have l2 := o.l2
 unfold FPl.pos at hp
 rw [hr] at hp
 have h := feiN_inj (by omega) (Nat.mod_lt _ (by omega)) (Nat.mod_lt _ (by omega)) hp
 have e1 := Nat.div_add_mod j p.pl
 have e2 := Nat.div_add_mod l p.pl
 unfold FPl.reg at hr
 rw [hr, h] at e1
 omega
def magicL : List UInt8 := [103, 97, 98, 105, 111, 110, 48, 49]
def headL (p : FPl) : List UInt8 := magicL ++ putL p.R 2 ++ putL p.pl 2 ++ putL p.ps 2 ++ putL p.psi 2 ++ putL p.key 8 ++ List.replicate 36 0
def headB (p : FPl) : ByteArray := ⟨(headL p ++ putL (sum32 (headL p)) 4).toArray⟩
theorem headL_length (p : FPl) : (headL p).length = 60 := by
 unfold headL magicL
 simp only [List.length_append, putL_length, List.length_replicate, List.length_cons, List.length_nil]
theorem headB_size (p : FPl) : (headB p).size = 64 := by
 show (headL p ++ putL (sum32 (headL p)) 4).toArray.size = 64
 rw [List.size_toArray, List.length_append, headL_length, putL_length]
structure FS where
 s : PmS
 l : Nat → List Nat
 g : Nat → Gp
 n : Nat → Nat
def FS.at (x : FS) (k : Nat) : RS := ⟨x.s, x.l k, x.g k, x.n k⟩
def FS.set (x : FS) (k : Nat) (y : RS) : FS := ⟨y.s, fset x.l k y.l, fset x.g k y.g, fset x.n k y.n⟩
theorem FS.set_at (x : FS) (k : Nat) (y : RS) : (x.set k y).at k = y := by
 unfold FS.at FS.set fset
 simp only [if_true]
theorem FS.set_ne (x : FS) {k j : Nat} (y : RS) (h : j ≠ k) : (x.set k y).at j = ⟨y.s, x.l j, x.g j, x.n j⟩ := by
 unfold FS.at FS.set fset
 simp only [if_neg h]
structure FI (p : FPl) (x : FS) : Prop where
 ok : p.ok x.s.nl
 rg : ∀ k, k < p.R → RgI (p.plan k) (x.at k)
 hd : rdN x.s.media 0 = headB p
noncomputable def fr (p : FPl) (x : FS) (l : Nat) : ByteArray := rr (p.plan (p.reg l)) (x.at (p.reg l)) (p.pos l)
theorem fr_size (p : FPl) (x : FS) (l : Nat) : (fr p x l).size = 64 := rr_size _ _ _
theorem FI.on {p : FPl} {x : FS} (w : FI p x) : On x.s := (w.rg 0 (by have := w.ok.r1; omega)).sp.on
theorem FI.pm {p : FPl} {x : FS} (w : FI p x) : PmOk x.s := (w.rg 0 (by have := w.ok.r1; omega)).sp.w
theorem FI.upd {p : FPl} {x x' : FS} {r : Nat} {y : RS} (w : FI p x) (hr : r < p.R) (f : Fx (p.plan r).pa ((p.plan r).pa + sizeN (p.plan r).bk) x.s y.s) (iy : RgI (p.plan r) y) (e : x'.at r = y) (es : x'.s = y.s)
  (eo : ∀ k, k < p.R → k ≠ r → x'.l k = x.l k ∧ x'.g k = x.g k ∧ x'.n k ≤ p.psi) : FI p x' ∧ (∀ k, k < p.R → k ≠ r → ∀ j, j < p.pl → rr (p.plan k) (x'.at k) j = rr (p.plan k) (x.at k) j) := by
 have far : ∀ k, k < p.R → k ≠ r → RgI (p.plan k) (x'.at k) ∧ ∀ j, j < p.pl → rr (p.plan k) (x'.at k) j = rr (p.plan k) (x.at k) j := fun k hk hne => by
  obtain ⟨w1, r1⟩ := (w.rg k hk).far f iy.sp.on iy.sp.w (plan_apart hne)
  obtain ⟨e1, e2, e3⟩ := eo k hk hne
  have ek : x'.at k = ⟨y.s, (x.at k).l, (x.at k).g, x'.n k⟩ := by
   unfold FS.at
   rw [es, e1, e2]
  rw [ek]
  exact ⟨⟨w1.sp, w1.g, w1.reg, w1.l1, w1.l2, w1.q1, w1.q2, e3⟩, fun j hj => r1 j hj⟩
 refine ⟨⟨?_, fun k hk => ?_, ?_⟩, fun k hk hne => (far k hk hne).2⟩
 ·rw [es, f.nl]; exact w.ok
 ·by_cases h : k = r
  ·rw [h, e]; exact iy
  ·exact (far k hk h).1
 ·rw [← w.hd, es]
  have hf := w.ok.fit
  have h1 := mul_next (z := p.z) (show 0 < p.R by have := w.ok.r1; omega)
  have hz : 1 ≤ p.z := by unfold FPl.z; omega
  exact rdN_congr fun k hk => f.med _ (by omega) (by left; rw [plan_pa]; omega)
noncomputable def fput (p : FPl) (f : RPl → PmS → List Nat → Nat → Int × PmS × List Nat) (x : FS) (l : Nat) : Int × FS :=
 ((rwrite (p.plan (p.reg l)) (f (p.plan (p.reg l))) (x.at (p.reg l)) (p.pos l)).1, x.set (p.reg l) (rwrite (p.plan (p.reg l)) (f (p.plan (p.reg l))) (x.at (p.reg l)) (p.pos l)).2)
def FlOut (p : FPl) (x : FS) (l : Nat) (B : ByteArray) (M : ByteArray → Prop) (r : Int × FS) : Prop :=
 (r.1 = 0 ∧ FI p r.2 ∧ ∀ j, j < p.R * p.pl → fr p r.2 j = if j = l then B else fr p x j) ∨
 (r.1 = 10 ∧ FI p r.2 ∧ ∀ j, j < p.R * p.pl → fr p r.2 j = fr p x j) ∨
 (r.1 = 6 ∧ r.2.s.off = true ∧ PmOk r.2.s ∧ ∀ ks, ∃ x', x'.s = pboot r.2.s ks ∧ (∀ k, x'.n k = 0) ∧ FI p x' ∧ (∀ j, j < p.R * p.pl → j ≠ l → fr p x' j = fr p x j) ∧ M (fr p x' l))
theorem fput_out {p : FPl} {x : FS} {f : RPl → PmS → List Nat → Nat → Int × PmS × List Nat} {T : ByteArray → ByteArray} {M : ByteArray → ByteArray → Prop} (w : FI p x) {l : Nat} (hl : l < p.R * p.pl)
  (hf : FOut (p.plan (p.reg l)) (x.at (p.reg l)) (f (p.plan (p.reg l))) T M) (hM : M (fr p x l) (fr p x l)) (hx : FFx (p.plan (p.reg l)) (f (p.plan (p.reg l)))) : FlOut p x l (T (fr p x l)) (M (fr p x l)) (fput p f x l) := by
 obtain ⟨hr, hp⟩ := FPl.at_line w.ok hl
 have o := rwrite_out (w.rg _ hr) (i := p.pos l) hp hf hM
 have fx : Fx (p.plan (p.reg l)).pa ((p.plan (p.reg l)).pa + sizeN (p.plan (p.reg l)).bk) x.s _ := rwrite_fx (w.rg _ hr) (i := p.pos l) hp hx
 unfold fput
 generalize rwrite (p.plan (p.reg l)) (f (p.plan (p.reg l))) (x.at (p.reg l)) (p.pos l) = q at o fx
 have eo : ∀ k, k < p.R → k ≠ p.reg l → (x.set (p.reg l) q.2).l k = x.l k ∧ (x.set (p.reg l) q.2).g k = x.g k ∧ (x.set (p.reg l) q.2).n k ≤ p.psi := fun k hk hne => by
  have := (w.rg k hk).n
  unfold FS.set fset
  simp only [if_neg hne]
  exact ⟨trivial, trivial, this⟩
 have other : ∀ j, j < p.R * p.pl → ∀ x' : FS, (∀ k, k < p.R → k ≠ p.reg l → ∀ j, j < p.pl → rr (p.plan k) (x'.at k) j = rr (p.plan k) (x.at k) j) → p.reg j ≠ p.reg l → fr p x' j = fr p x j := fun j hj x' hh hne => by
  obtain ⟨a1, a2⟩ := FPl.at_line w.ok hj
  exact hh _ a1 hne _ a2
 have same : ∀ j, j < p.R * p.pl → ∀ (x' : FS) (y : RS), x'.at (p.reg l) = y → p.reg j = p.reg l → p.pos j < p.pl ∧ fr p x' j = rr (p.plan (p.reg l)) y (p.pos j) ∧ fr p x j = rr (p.plan (p.reg l)) (x.at (p.reg l)) (p.pos j) := fun j hj x' y e hreg => by
  obtain ⟨a1, a2⟩ := FPl.at_line w.ok hj
  refine ⟨a2, ?_, ?_⟩
  ·unfold fr; rw [hreg, e]
  ·unfold fr; rw [hreg]
 rcases o with ⟨e, iy, m⟩ | ⟨e, iy, m⟩ | ⟨e, off, pok, m⟩
 ·obtain ⟨U1, U2⟩ := w.upd (x' := x.set (p.reg l) q.2) hr fx iy (FS.set_at _ _ _) rfl eo
  refine .inl ⟨e, U1, fun j hj => ?_⟩
  by_cases hreg : p.reg j = p.reg l
  ·obtain ⟨s1, s2, s3⟩ := same j hj _ _ (FS.set_at x (p.reg l) q.2) hreg
   rw [s2, s3, m _ s1]
   by_cases ej : j = l
   ·rw [if_pos (by rw [ej]), if_pos ej]; rfl
   ·rw [if_neg (fun h => ej (FPl.same_line w.ok hreg h)), if_neg ej]
  ·rw [if_neg (fun h => hreg (by rw [h]))]
   exact other j hj _ U2 hreg
 ·obtain ⟨U1, U2⟩ := w.upd (x' := x.set (p.reg l) q.2) hr fx iy (FS.set_at _ _ _) rfl eo
  refine .inr (.inl ⟨e, U1, fun j hj => ?_⟩)
  by_cases hreg : p.reg j = p.reg l
  ·obtain ⟨s1, s2, s3⟩ := same j hj _ _ (FS.set_at x (p.reg l) q.2) hreg
   rw [s2, s3, m _ s1]
  ·exact other j hj _ U2 hreg
 ·refine .inr (.inr ⟨e, off, pok, fun ks => ?_⟩)
  obtain ⟨l', g', iy, m', y⟩ := m ks
  have ea : (⟨pboot q.2.s ks, fset x.l (p.reg l) l', fset x.g (p.reg l) g', fun _ => 0⟩ : FS).at (p.reg l) = ⟨pboot q.2.s ks, l', g', 0⟩ := by
   unfold FS.at fset
   simp only [if_true]
  obtain ⟨U1, U2⟩ := w.upd (x' := ⟨pboot q.2.s ks, fset x.l (p.reg l) l', fset x.g (p.reg l) g', fun _ => 0⟩) hr (fx.boot ks) iy ea rfl fun k hk hne => by
   unfold fset
   simp only [if_neg hne]
   exact ⟨trivial, trivial, Nat.zero_le _⟩
  refine ⟨_, rfl, fun _ => rfl, U1, fun j hj hne => ?_, ?_⟩
  ·by_cases hreg : p.reg j = p.reg l
   ·obtain ⟨s1, s2, s3⟩ := same j hj _ _ ea hreg
    rw [s2, s3]
    exact m' _ s1 fun h => hne (FPl.same_line w.ok hreg h)
   ·exact other j hj _ U2 hreg
  ·obtain ⟨s1, s2, s3⟩ := same l hl _ _ ea rfl
   rw [s2]
   exact y
theorem fput_sound {p : FPl} {x : FS} {f : RPl → PmS → List Nat → Nat → Int × PmS × List Nat} {T : ByteArray → ByteArray} {M : ByteArray → ByteArray → Prop} (w : FI p x) (sd : Sd x.s) {l : Nat} (hl : l < p.R * p.pl)
  (hc : FClean (p.plan (p.reg l)) (f (p.plan (p.reg l)))) (hf : FOut (p.plan (p.reg l)) (x.at (p.reg l)) (f (p.plan (p.reg l))) T M) (hM : M (fr p x l) (fr p x l)) (hx : FFx (p.plan (p.reg l)) (f (p.plan (p.reg l)))) :
  ∃ x', fput p f x l = (0, x') ∧ FI p x' ∧ Sd x'.s ∧ x'.s.nl = x.s.nl ∧ ∀ j, j < p.R * p.pl → fr p x' j = if j = l then T (fr p x l) else fr p x j := by
 obtain ⟨hr, hp⟩ := FPl.at_line w.ok hl
 obtain ⟨c1, c2, c3, _, _⟩ := rwrite_clean (w.rg _ hr) (show Sd (x.at (p.reg l)).s from sd) (i := p.pos l) hp hc
 have o := fput_out w hl hf hM hx
 have e1 : (fput p f x l).1 = 0 := c1
 have e2 : Sd (fput p f x l).2.s := c2
 have e3 : (fput p f x l).2.s.nl = x.s.nl := c3
 generalize fput p f x l = q at o e1 e2 e3
 obtain ⟨a, x'⟩ := q
 have e1 : a = 0 := e1
 subst e1
 rcases o with o | o | o
 ·exact ⟨x', rfl, o.2.1, e2, e3, o.2.2⟩
 ·have := o.1; cases this
 ·have := o.1; cases this
noncomputable def fW (B : ByteArray) : RPl → PmS → List Nat → Nat → Int × PmS × List Nat := fun p s l k => swrite p.bk l s k B
noncomputable def fK (j v : Nat) : RPl → PmS → List Nat → Nat → Int × PmS × List Nat := fun p s l k => swritew p.bk l s k j v
noncomputable def fWrite (p : FPl) (x : FS) (l : Int) (B : ByteArray) : Int × FS :=
 if B.size = 64 then (if 0 ≤ l ∧ l < ((p.R * p.pl : Nat) : Int) then fput p (fW B) x l.toNat else (3, x)) else (2, x)
noncomputable def fWriteWord (p : FPl) (x : FS) (l k : Int) (v : Nat) : Int × FS :=
 if 0 ≤ k ∧ k < 8 then (if 0 ≤ l ∧ l < ((p.R * p.pl : Nat) : Int) then fput p (fK k.toNat v) x l.toNat else (3, x)) else (2, x)
theorem fWrite_eq {p : FPl} {x : FS} {l : Nat} {B : ByteArray} (hl : l < p.R * p.pl) (hB : B.size = 64) : fWrite p x (l : Int) B = fput p (fW B) x l := by
 unfold fWrite; rw [if_pos hB, if_pos ⟨by omega, by omega⟩, Int.toNat_natCast]
theorem fWriteWord_eq {p : FPl} {x : FS} {l k v : Nat} (hl : l < p.R * p.pl) (hk : k < 8) : fWriteWord p x (l : Int) (k : Int) v = fput p (fK k v) x l := by
 unfold fWriteWord; rw [if_pos (by omega), if_pos ⟨by omega, by omega⟩, Int.toNat_natCast, Int.toNat_natCast]
theorem fWrite_sound {p : FPl} {x : FS} (w : FI p x) (sd : Sd x.s) {l : Nat} (hl : l < p.R * p.pl) {B : ByteArray} (hB : B.size = 64) :
  ∃ x', fWrite p x (l : Int) B = (0, x') ∧ FI p x' ∧ Sd x'.s ∧ x'.s.nl = x.s.nl ∧ ∀ j, j < p.R * p.pl → fr p x' j = if j = l then B else fr p x j := by
 rw [fWrite_eq hl hB]
 exact fput_sound (f := fW B) (T := fun _ => B) (M := fun b y => mixP b B y) w sd hl (FClean.write _ hB) (FOut.write _ _ hB) (mixP_self (fr_size _ _ _) hB) (FFx.write _ hB)
theorem fWriteWord_sound {p : FPl} {x : FS} (w : FI p x) (sd : Sd x.s) {l k v : Nat} (hl : l < p.R * p.pl) (hk : k < 8) (hv : v < 18446744073709551616) :
  ∃ x', fWriteWord p x (l : Int) (k : Int) v = (0, x') ∧ FI p x' ∧ Sd x'.s ∧ x'.s.nl = x.s.nl ∧ ∀ j, j < p.R * p.pl → fr p x' j = if j = l then withW (fr p x l) k v else fr p x j := by
 rw [fWriteWord_eq hl hk]
 exact fput_sound (f := fK k v) (T := fun b => withW b k v) (M := fun b y => y = b ∨ y = withW b k v) w sd hl (FClean.word _ hk hv) (FOut.word _ _ hk hv) (.inl rfl) (FFx.word _ hk hv)
theorem fWrite_out {p : FPl} {x : FS} (w : FI p x) {l : Nat} (hl : l < p.R * p.pl) {B : ByteArray} (hB : B.size = 64) : FlOut p x l B (fun y => mixP (fr p x l) B y) (fWrite p x (l : Int) B) := by
 rw [fWrite_eq hl hB]
 exact fput_out (f := fW B) (T := fun _ => B) (M := fun b y => mixP b B y) w hl (FOut.write _ _ hB) (mixP_self (fr_size _ _ _) hB) (FFx.write _ hB)
theorem fWriteWord_out {p : FPl} {x : FS} (w : FI p x) {l k v : Nat} (hl : l < p.R * p.pl) (hk : k < 8) (hv : v < 18446744073709551616) : FlOut p x l (withW (fr p x l) k v) (fun y => y = fr p x l ∨ y = withW (fr p x l) k v) (fWriteWord p x (l : Int) (k : Int) v) := by
 rw [fWriteWord_eq hl hk]
 exact fput_out (f := fK k v) (T := fun b => withW b k v) (M := fun b y => y = b ∨ y = withW b k v) w hl (FOut.word _ _ hk hv) (.inl rfl) (FFx.word _ hk hv)
end Go.Gb
namespace Go.Gb
open Go.Proofs IntWalk
section
variable {F G F' G' : Nat → Prop} {h0 h h1 : Heap} {d b r d' b' r' n : Nat} {p q : RPl} {x x' y y' : RS} {Q : Value → Heap → Prop}
theorem RD.keep (w : RD F G h d b r p x) (e : ∀ k, FR F G r k → h k ≠ none → h1 k = h k) (st : ∀ k, h k ≠ none → h1 k ≠ none) : RD F G h1 d b r p x :=
 ⟨⟨w.db.dv.keep fun k hk hn => e k (.inl (.inl hk)) hn, w.db.bk.keep fun k hk hn => e k (.inl (.inr hk)) hn, fun k hk => st k (w.db.lf k hk), fun k hk => st k (w.db.lg k hk), w.db.ap⟩, w.rc.keep (e r (.inr rfl) w.rc.ne), w.nr⟩
end
end Go.Gb
namespace Go.Gb
open Go.Proofs IntWalk
def permOf (p : FPl) (k : Nat) : List Value := permL p.pl (halfN p.pl) (keyN (p.kk k) 0) (keyN (p.kk k) 1) (keyN (p.kk k) 2) (keyN (p.kk k) 3)
def fcfgCs (p : FPl) : List Value := [.int .i64 p.R, .int .i64 p.pl, .int .i64 p.ps, .int .i64 p.psi, .int .u64 p.key]
def fcfgV (p : FPl) : Value := .agg #[.int .i64 p.R, .int .i64 p.pl, .int .i64 p.ps, .int .i64 p.psi, .int .u64 p.key]
structure FlR (F G : Nat → Prop) (h : Heap) (d b r : Nat) (p : RPl) (y : RS) : Prop where
 bk : BankD G h b d p.bk y.l
 lg : Live G h
 ap : ∀ k, G k → ¬ F k
 rc : Blk h r (ringCs b p y.g y.n)
 nr : ¬ FG F G r
abbrev FF (F : Nat → Prop) (Gs : Nat → Nat → Prop) (rs : Nat → Nat) (R : Nat) : Nat → Prop := fun i => F i ∨ ∃ k, k < R ∧ (Gs k i ∨ i = rs k)
structure FD (F : Nat → Prop) (Gs : Nat → Nat → Prop) (bs rs : Nat → Nat) (hc h : Heap) (d f : Nat) (p : FPl) (x : FS) : Prop where
 dv : PmD F h d x.s
 lf : Live F h
 rg : ∀ k, k < p.R → FlR F (Gs k) h d (bs k) (rs k) (p.plan k) (x.at k)
 ne : ∀ j k, j < p.R → k < p.R → j ≠ k → Apart (fun i => Gs j i ∨ i = rs j) (fun i => Gs k i ∨ i = rs k)
 cb : ∃ a1 c1 a2 c2, Blk hc f (fcfgCs p ++ [.slice a1 p.R c1, .slice a2 p.R c2]) ∧ readsAt hc a1 ((List.range p.R).map fun k => .pointer (some ⟨rs k, 0, none⟩)) ∧ readsAt hc a2 ((List.range p.R).flatMap fun k => permOf p k)
 cp : Part hc h
 cf : ∀ i, hc i ≠ none → ¬ FF F Gs rs p.R i
theorem Step.wide {X Y : Nat → Prop} {h h1 : Heap} (st : Step X h X h1) (hs : ∀ k, X k → Y k) : Step Y h Y h1 :=
 ⟨fun k hk hn => st.keep k (fun hx => hk (hs k hx)) hn, fun k hk => .inl hk, st.live, fun hl k hk => st.live k (hl k hk)⟩
section
variable {F : Nat → Prop} {Gs : Nat → Nat → Prop} {bs rs : Nat → Nat} {hc h h1 : Heap} {d f : Nat} {p : FPl} {x x' : FS} {Q : QT}
theorem FD.region (w : FD F Gs bs rs hc h d f p x) {k : Nat} (hk : k < p.R) : RD F (Gs k) h d (bs k) (rs k) (p.plan k) (x.at k) := by
 have r := w.rg k hk
 exact ⟨⟨w.dv, r.bk, w.lf, r.lg, r.ap⟩, r.rc, r.nr⟩
theorem FD.sub {k : Nat} (hk : k < p.R) : ∀ i, FR F (Gs k) (rs k) i → FF F Gs rs p.R i := fun i hi => by
 rcases hi with (hi | hi) | hi
 ·exact .inl hi
 ·exact .inr ⟨k, hk, .inl hi⟩
 ·exact .inr ⟨k, hk, .inr hi⟩
theorem FD.set (w : FD F Gs bs rs hc h d f p x) {k : Nat} (hk : k < p.R) {y : RS} (r : RD F (Gs k) h1 d (bs k) (rs k) (p.plan k) y) (st : Step (FR F (Gs k) (rs k)) h (FR F (Gs k) (rs k)) h1) :
  FD F Gs bs rs hc h1 d f p (x.set k y) ∧ Step (FF F Gs rs p.R) h (FF F Gs rs p.R) h1 := by
 refine ⟨⟨r.db.dv, r.db.lf, fun j hj => ?_, w.ne, w.cb, st.part w.cp fun i hi hf => w.cf i hi (FD.sub hk i hf), w.cf⟩, st.wide (FD.sub hk)⟩
 by_cases e : j = k
 ·subst e
  rw [FS.set_at]
  exact ⟨r.db.bk, r.db.lg, r.db.ap, r.rc, r.nr⟩
 ·rw [FS.set_ne _ _ e]
  have q := w.rg j hj
  have out : ∀ i, (Gs j i ∨ i = rs j) → ¬ FR F (Gs k) (rs k) i := fun i hi hf => by
   have nj : ¬ F i := fun hF => by
    rcases hi with hi | hi
    ·exact q.ap i hi hF
    ·rw [hi] at hF; exact q.nr (.inl hF)
   have a := w.ne k j hk hj (fun h => e h.symm)
   rcases hf with (hf | hf) | hf
   ·exact nj hf
   ·exact a i hi (.inl hf)
   ·exact a i hi (.inr hf)
  exact ⟨q.bk.keep fun i hi hn => st.keep i (out i (.inl hi)) hn, st.alive q.lg, q.ap, q.rc.keep (st.keep _ (out _ (.inr rfl)) q.rc.ne), q.nr⟩
theorem FD.part (w : FD F Gs bs rs hc h d f p x) (pt : Part h h1) : FD F Gs bs rs hc h1 d f p x :=
 ⟨w.dv.keep fun _ _ hk => part_live pt hk, (Step.of_part pt).dom w.lf, fun k hk => by
  have q := w.rg k hk
  exact ⟨q.bk.keep fun _ _ hn => part_live pt hn, (Step.of_part pt).dom q.lg, q.ap, q.rc.keep (part_live pt q.rc.ne), q.nr⟩, w.ne, w.cb, w.cp.trans pt, w.cf⟩
theorem FD.live (w : FD F Gs bs rs hc h d f p x) : Live (FF F Gs rs p.R) h := fun i hi => by
 rcases hi with hi | ⟨k, hk, hi⟩
 ·exact w.lf i hi
 ·have q := w.rg k hk
  rcases hi with hi | hi
  ·exact q.lg i hi
  ·rw [hi]; exact q.rc.ne
theorem FD.dev {s' : PmS} (w : FD F Gs bs rs hc h d f p x) (w1 : PmD F h1 d s') (st : Step F h F h1) : FD F Gs bs rs hc h1 d f p ⟨s', x.l, x.g, x.n⟩ ∧ Step (FF F Gs rs p.R) h (FF F Gs rs p.R) h1 := by
 refine ⟨⟨w1, st.dom w.lf, fun k hk => ?_, w.ne, w.cb, st.part w.cp fun i hi hf => w.cf i hi (.inl hf), w.cf⟩, st.wide fun k hk => .inl hk⟩
 have q := w.rg k hk
 exact ⟨q.bk.keep fun i hi hn => st.keep i (q.ap i hi) hn, st.alive q.lg, q.ap, q.rc.keep (st.keep _ (fun hf => q.nr (.inl hf)) q.rc.ne), q.nr⟩
theorem FD.keep (w : FD F Gs bs rs hc h d f p x) (e : ∀ i, FF F Gs rs p.R i → h i ≠ none → h1 i = h i) (cp : Part hc h1) : FD F Gs bs rs hc h1 d f p x := by
 have lv : ∀ i, FF F Gs rs p.R i → h1 i ≠ none := fun i hi => by rw [e i hi (w.live i hi)]; exact w.live i hi
 refine ⟨w.dv.keep fun i hi hn => e i (.inl hi) hn, fun i hi => lv i (.inl hi), fun k hk => ?_, w.ne, w.cb, cp, w.cf⟩
 have q := w.rg k hk
 exact ⟨q.bk.keep fun i hi hn => e i (.inr ⟨k, hk, .inl hi⟩) hn, fun i hi => lv i (.inr ⟨k, hk, .inl hi⟩), q.ap, q.rc.keep (e _ (.inr ⟨k, hk, .inr rfl⟩) q.rc.ne), q.nr⟩
theorem FD.cell (w : FD F Gs bs rs hc h d f p x) : ∃ a1 c1 a2 c2, h.cell f (0 + 0 + 0) = some (.int .i64 p.R) ∧ h.cell f (0 + 0 + 1) = some (.int .i64 p.pl) ∧ h.cell f (0 + 0 + 1 + 1) = some (.int .i64 p.ps) ∧ h.cell f (0 + 0 + 1 + 1 + 1) = some (.int .i64 p.psi) ∧ h.cell f (0 + 0 + 1 + 1 + 1 + 1) = some (.int .u64 p.key) ∧
  h.cell f (0 + 5) = some (.slice a1 p.R c1) ∧ h.cell f (0 + 6) = some (.slice a2 p.R c2) ∧ readsAt h a1 ((List.range p.R).map fun k => .pointer (some ⟨rs k, 0, none⟩)) ∧ readsAt h a2 ((List.range p.R).flatMap fun k => permOf p k) := by
 obtain ⟨a1, c1, a2, c2, b, r1, r2⟩ := w.cb
 have b' := b.keep (part_live w.cp b.ne)
 exact ⟨a1, c1, a2, c2, b'.cell 0, b'.cell 1, b'.cell 2, b'.cell 3, b'.cell 4, b'.cell 5, b'.cell 6, readsAt_part r1 w.cp, readsAt_part r2 w.cp⟩
theorem K103.c (w : FD F Gs bs rs hc h d f p x) {n : Nat} (ok : p.ok n) (hq : Q (.int .i64 ((p.R * p.pl : Nat) : Int)) h) : CT 103 #[.pointer (some ⟨f, 0, none⟩)] h Q := by
 obtain ⟨a1, c1, a2, c2, e0, e1, e2, e3, e4, e5, e6, r1, r2⟩ := w.cell
 have h1 := ok.r2
 have h2 := ok.l2
 have hm : p.R * p.pl ≤ 16 * 1024 := Nat.mul_le_mul h1 h2
 apply K103.ok
 refine xsIf_f rfl ⟨f, 0, rfl, f, 0, rfl, _, e0, _, e1, ?_⟩
 rw [show (p.R : Int) * (p.pl : Int) = ((p.R * p.pl : Nat) : Int) by rw [Int.natCast_mul], i64_in _ (by omega)]
 exact hq
theorem K72.c {l : Int} (w : FD F Gs bs rs hc h d f p x) {n : Nat} (ok : p.ok n) (hy : 0 ≤ l → l < ((p.R * p.pl : Nat) : Int) → Q (.int .i64 (p.reg l.toNat : Nat)) h) (hn : ¬ (0 ≤ l ∧ l < ((p.R * p.pl : Nat) : Int)) → Q (.int .i64 (-1)) h) :
  CT 72 #[.pointer (some ⟨f, 0, none⟩), .int .i64 l] h Q := by
 obtain ⟨a1, c1, a2, c2, e0, e1, e2, e3, e4, e5, e6, r1, r2⟩ := w.cell
 have l1 := ok.l1
 have h1 := ok.r2
 have h2 := ok.l2
 have hm : p.R * p.pl ≤ 16 * 1024 := Nat.mul_le_mul h1 h2
 apply K72.ok
 refine xsIf_intro (fun e => hn fun h3 => by have := of_decide_eq_true e; omega) fun e => K103.c w ok ⟨_, rfl, xsIf_intro (fun e' => hn fun h3 => by have := of_decide_eq_true e'; omega) fun e' => ⟨f, 0, rfl, _, e1, by omega, ?_⟩⟩
 have e := of_decide_eq_false e
 have e' := of_decide_eq_false e'
 have hy := hy (by omega) (by omega)
 obtain ⟨l, rfl⟩ : ∃ k : Nat, l = k := ⟨l.toNat, by omega⟩
 rw [Int.toNat_natCast] at hy
 rw [iquo_i64 (by omega) (by omega) (by omega), show (l : Int) / (p.pl : Int) = ((l / p.pl : Nat) : Int) from rfl]
 exact hy
theorem range_ptr {rs : Nat → Nat} {R k : Nat} (hk : k < R) : ((List.range R).map fun k => Value.pointer (some ⟨rs k, 0, none⟩))[k]? = some (.pointer (some ⟨rs k, 0, none⟩)) := by
 rw [List.getElem?_map, List.getElem?_range hk]; rfl
theorem permOf_length (p : FPl) (k : Nat) : (permOf p k).length = 6 := rfl
theorem K46.c {l : Int} (w : FD F Gs bs rs hc h d f p x) {n : Nat} (ok : p.ok n) (hy : 0 ≤ l → l < ((p.R * p.pl : Nat) : Int) → Q (.tuple #[.pointer (some ⟨rs (p.reg l.toNat), 0, none⟩), .int .i64 (p.pos l.toNat : Nat), .int .i64 0]) h)
  (hn : ¬ (0 ≤ l ∧ l < ((p.R * p.pl : Nat) : Int)) → Q (.tuple #[.pointer none, .int .i64 0, .int .i64 3]) h) : CT 46 #[.pointer (some ⟨f, 0, none⟩), .int .i64 l] h Q := by
 obtain ⟨a1, c1, a2, c2, e0, e1, e2, e3, e4, e5, e6, r1, r2⟩ := w.cell
 have l1 := ok.l1
 have l2 := ok.l2
 apply K46.ok
 refine K72.c w ok (fun g0 g1 => ⟨_, rfl, xsIf_f rfl (xsIf_f (decide_eq_false (by omega)) ?_)⟩) fun hno => ⟨_, rfl, xsIf_f rfl (xsIf_t rfl (hn hno))⟩
 have hy := hy g0 g1
 obtain ⟨l, rfl⟩ : ∃ k : Nat, l = k := ⟨l.toNat, by omega⟩
 rw [Int.toNat_natCast] at hy ⊢
 have hl : l < p.R * p.pl := by omega
 obtain ⟨hr, hp⟩ := FPl.at_line ok hl
 have go := feiN_goes (p.kk (p.reg l)) (m := p.pl) (by omega) (i := l % p.pl) (Nat.mod_lt _ (by omega))
 have pm := new_perm (m := p.pl) (p.kk (p.reg l)) (by omega)
 have ei : irem ((l : Nat) : Int) (p.pl : Int) = ((l % p.pl : Nat) : Int) := irem_nat l p.pl
 have hpos : p.pos l = feiN p.pl (p.kk (p.reg l)) (l % p.pl) := rfl
 rw [hpos] at hy
 generalize p.reg l = k at *
 have kb : (0 : Int) ≤ (k : Int) ∧ (k : Int) < (p.R : Int) := by omega
 refine ⟨f, 0, rfl, f, 0, rfl, f, 0, rfl, _, e1, by omega, _, _, _, e6, kb, ?_⟩
 refine reads_base r2 (by rw [flat_length (f := fun k => permOf p k) (sz := 6) (fun k => permOf_length p k)]; simp; omega) fun b2 o2 hc2 => ?_
 have key : ∀ q, q < 6 → h.cell b2 (o2 + (k * 6 + q)) = (permOf p k)[q]? := fun q hq => by
  have := hc2 (k * 6 + q) (by rw [flat_length (f := fun k => permOf p k) (sz := 6) (fun k => permOf_length p k)]; simp; omega)
  rw [Nat.mul_one, flat_get (f := fun k => permOf p k) (sz := 6) (fun k => permOf_length p k) _ k q _ (List.getElem?_range hr) hq] at this
  exact this
 rw [Int.toNat_natCast]
 refine ⟨_, key 0 (by omega), _, key 1 (by omega), _, key 2 (by omega), _, key 3 (by omega), _, key 4 (by omega), _, key 5 (by omega), ?_⟩
 rw [ei]
 have hPm : ∀ {Q : QT}, Q (.int .i64 (feiN p.pl (p.kk k) (l % p.pl) : Nat)) h → CT 73 #[.agg #[.int .i64 p.pl, .int .i64 (halfN p.pl : Nat), .int .u16 (keyN (p.kk k) 0 : Nat), .int .u16 (keyN (p.kk k) 1 : Nat), .int .u16 (keyN (p.kk k) 2 : Nat), .int .u16 (keyN (p.kk k) 3 : Nat)], .int .i64 ((l % p.pl : Nat) : Int)] h Q :=
  fun hq => K73.c pm (Nat.mod_lt _ (by omega)) go hq
 have base : ∀ K : Nat → Nat → Prop, (∀ b o, h.cell b (o + k * 1) = some (.pointer (some ⟨rs k, 0, none⟩)) → K b o) → atBase a1 K := fun K hK => reads_base r1 (by simp; omega) fun b1 o1 hc1 => by
  have := hc1 k (by simp; omega)
  rw [range_ptr hr] at this
  exact hK b1 o1 this
 refine ⟨⟨_, _, _, e5, kb, base _ fun b1 o1 hc1 => ⟨⟨_, hc1, hPm ⟨_, rfl, hy⟩⟩, hPm ⟨_, rfl, _, hc1, hy⟩⟩⟩, hPm ⟨_, rfl, _, _, _, e5, kb, base _ fun b1 o1 hc1 => ⟨_, hc1, hy⟩⟩⟩
theorem K23.c {l : Nat} (w : FD F Gs bs rs hc h d f p x) (iv : FI p x) (hl : l < p.R * p.pl) (hq : Q (.tuple #[.int .i64 (whN (p.plan (p.reg l)).bk (x.l (p.reg l)) ((x.g (p.reg l)).slot p.pl (p.pos l)) : Nat), .int .i64 0]) h) :
  CT 23 #[.pointer (some ⟨f, 0, none⟩), .int .i64 (l : Int)] h Q := by
 obtain ⟨hr, hp⟩ := FPl.at_line iv.ok hl
 apply K23.ok
 refine K46.c w iv.ok (fun _ _ => ⟨_, _, _, rfl, xsIf_f rfl ?_⟩) fun hn => absurd ⟨by omega, by omega⟩ hn
 rw [Int.toNat_natCast]
 exact K47.c (w.region hr) (iv.rg _ hr).g (by exact hp) ⟨_, _, rfl, hq⟩
theorem K98.c {l : Int} (w : FD F Gs bs rs hc h d f p x) (iv : FI p x) (hy : 0 ≤ l → l < ((p.R * p.pl : Nat) : Int) → Q (.tuple #[.string (fr p x l.toNat), .int .i64 0]) h) (hn : ¬ (0 ≤ l ∧ l < ((p.R * p.pl : Nat) : Int)) → Q (.tuple #[.string ⟨#[]⟩, .int .i64 3]) h) :
  CT 98 #[.pointer (some ⟨f, 0, none⟩), .int .i64 l] h Q := by
 apply K98.ok
 refine K46.c w iv.ok (fun g0 g1 => ⟨_, _, _, rfl, xsIf_f rfl ?_⟩) fun h0 => ⟨_, _, _, rfl, xsIf_t rfl (hn h0)⟩
 obtain ⟨hr, hp⟩ := FPl.at_line iv.ok (l := l.toNat) (by omega)
 have g := iv.rg _ hr
 refine K137.c (w.region hr) g.g g.sp (fun _ _ => ⟨_, _, rfl, ?_⟩) fun hno => absurd ⟨by omega, by rw [plan_pl]; omega⟩ hno
 rw [Int.toNat_natCast]
 exact hy g0 g1
theorem K96.c {l : Int} {B : ByteArray} (w : FD F Gs bs rs hc h d f p x) (iv : FI p x)
  (hq : ∀ h', FD F Gs bs rs hc h' d f p (fWrite p x l B).2 → Step (FF F Gs rs p.R) h (FF F Gs rs p.R) h' → Q (.int .i64 (fWrite p x l B).1) h') :
  CT 96 #[.pointer (some ⟨f, 0, none⟩), .int .i64 l, .string B] h Q := by
 apply K96.ok
 unfold fWrite at hq
 refine K46.c w iv.ok (fun g0 g1 => ⟨_, _, _, rfl, xsIf_f rfl ?_⟩) fun h0 => ⟨_, _, _, rfl, xsIf_f rfl ?_⟩
 ·refine xsIf_intro (fun e => ?_) fun e => xsIf_f rfl ?_
  ·have e := of_decide_eq_true e
   rw [if_neg (by omega)] at hq
   exact hq h w (Step.refl _ _)
  ·have e := of_decide_eq_false e
   have hB : B.size = 64 := by omega
   rw [if_pos hB, if_pos ⟨g0, g1⟩] at hq
   obtain ⟨hr, hp⟩ := FPl.at_line iv.ok (l := l.toNat) (by omega)
   refine K136.c (w.region hr) (iv.rg _ hr) fun h1 w1 st1 => ⟨_, rfl, ?_⟩
   rw [rWrite_eq (by exact hp) hB] at w1 ⊢
   obtain ⟨w2, st2⟩ := w.set hr w1 st1
   exact hq h1 w2 st2
 ·refine xsIf_intro (fun e => ?_) fun e => xsIf_t rfl ?_
  ·have e := of_decide_eq_true e
   rw [if_neg (by omega)] at hq
   exact hq h w (Step.refl _ _)
  ·have e := of_decide_eq_false e
   rw [if_pos (by omega), if_neg h0] at hq
   exact hq h w (Step.refl _ _)
theorem K57.c {l k : Int} {v : Nat} (hv : v < 18446744073709551616) (w : FD F Gs bs rs hc h d f p x) (iv : FI p x)
  (hq : ∀ h', FD F Gs bs rs hc h' d f p (fWriteWord p x l k v).2 → Step (FF F Gs rs p.R) h (FF F Gs rs p.R) h' → Q (.int .i64 (fWriteWord p x l k v).1) h') :
  CT 57 #[.pointer (some ⟨f, 0, none⟩), .int .i64 l, .int .i64 k, .int .u64 (v : Nat)] h Q := by
 apply K57.ok
 unfold fWriteWord at hq
 refine K46.c w iv.ok (fun g0 g1 => ⟨_, _, _, rfl, xsIf_f rfl ?_⟩) fun h0 => ⟨_, _, _, rfl, xsIf_f rfl ?_⟩
 ·refine xsIf_intro (fun e => ?_) fun e => xsIf_intro (fun e' => ?_) fun e' => xsIf_f rfl ?_
  ·have e := of_decide_eq_true e
   rw [if_neg (by omega)] at hq
   exact hq h w (Step.refl _ _)
  ·have e' := of_decide_eq_true e'
   rw [if_neg (by omega)] at hq
   exact hq h w (Step.refl _ _)
  ·have e := of_decide_eq_false e
   have e' := of_decide_eq_false e'
   rw [if_pos (by omega), if_pos ⟨g0, g1⟩] at hq
   obtain ⟨k, rfl⟩ : ∃ q : Nat, k = q := ⟨k.toNat, by omega⟩
   rw [Int.toNat_natCast] at hq
   obtain ⟨hr, hp⟩ := FPl.at_line iv.ok (l := l.toNat) (by omega)
   refine K92.c (w.region hr) (iv.rg _ hr) hv fun h1 w1 st1 => ⟨_, rfl, ?_⟩
   rw [rWriteWord_eq (by exact hp) (by omega)] at w1 ⊢
   obtain ⟨w2, st2⟩ := w.set hr w1 st1
   exact hq h1 w2 st2
 ·refine xsIf_intro (fun e => ?_) fun e => xsIf_intro (fun e' => ?_) fun e' => xsIf_t rfl ?_
  ·have e := of_decide_eq_true e
   rw [if_neg (by omega)] at hq
   exact hq h w (Step.refl _ _)
  ·have e' := of_decide_eq_true e'
   rw [if_neg (by omega)] at hq
   exact hq h w (Step.refl _ _)
  ·have e := of_decide_eq_false e
   have e' := of_decide_eq_false e'
   rw [if_pos (by omega), if_neg h0] at hq
   exact hq h w (Step.refl _ _)
end
end Go.Gb
namespace Go.Gb
open Go.Proofs IntWalk
structure FPl.rt (p : FPl) : Prop where
 r1 : 1 ≤ p.R
 r2 : p.R ≤ 16
 l1 : 1 ≤ p.pl
 l2 : p.pl ≤ 1024
 s2 : p.ps ≤ 64
 q1 : 1 ≤ p.psi
 q2 : p.psi ≤ 65535
 k : p.key < 18446744073709551616
theorem FPl.ok.rt {p : FPl} {n : Nat} (o : p.ok n) : p.rt := ⟨o.r1, o.r2, o.l1, o.l2, o.s2, o.q1, o.q2, o.k⟩
def rightF (R l s q : Int) : Prop := 1 ≤ R ∧ R ≤ 16 ∧ 1 ≤ l ∧ l ≤ 1024 ∧ 0 ≤ s ∧ s ≤ 64 ∧ 1 ≤ q ∧ q ≤ 65535
instance (R l s q : Int) : Decidable (rightF R l s q) := by unfold rightF; infer_instance
theorem FPl.rt.right {p : FPl} (o : p.rt) : rightF p.R p.pl p.ps p.psi := by
 have := o.r1; have := o.r2; have := o.l1; have := o.l2; have := o.s2; have := o.q1; have := o.q2
 unfold rightF; omega
theorem rightF_pl {R l s q : Int} (hr : rightF R l s q) {k : Nat} (hk : k < 18446744073709551616) : ∃ p : FPl, p.rt ∧ R = p.R ∧ l = p.pl ∧ s = p.ps ∧ q = p.psi ∧ p.key = k := by
 unfold rightF at hr
 refine ⟨⟨R.toNat, l.toNat, s.toNat, q.toNat, k⟩, ⟨?_, ?_, ?_, ?_, ?_, ?_, ?_, hk⟩, ?_, ?_, ?_, ?_, rfl⟩ <;> dsimp only <;> omega
theorem FPl.z_le {p : FPl} (o : p.rt) : p.z ≤ 1098 := by
 have := o.l2; have := o.s2
 unfold FPl.z; omega
section
variable {h : Heap} {Q : QT} {p : FPl}
theorem K50.c {r : Nat} (o : p.rt) (hr : r ≤ 16) (hq : Q (ringV (p.plan r)) h) : CT 50 #[fcfgV p, .int .i64 (r : Int)] h Q := by
 have hz := FPl.z_le o
 have l1 := o.l1
 have l2 := o.l2
 have s2 := o.s2
 have hb : RpB ⟨1, p.pl, p.ps, p.psi⟩ 2000 := ⟨o.l1, o.l2, o.q1, o.q2, ⟨by show 1 ≤ p.pl + 2; omega, by show p.pl + 2 ≤ 1026; omega, s2, by show 1 ≤ 8192; omega, by show 1 + p.z ≤ 2000; omega⟩⟩
 have hm : r * p.z ≤ 16 * 1098 := Nat.mul_le_mul hr hz
 have bank : ∀ {Q : QT}, Q (plV (RPl.bk ⟨1, p.pl, p.ps, p.psi⟩)) h → CT 51 #[.agg #[.int .i64 1, .int .i64 p.pl, .int .i64 p.ps, .int .i64 p.psi]] h Q := fun hq => K51.c (p := ⟨1, p.pl, p.ps, p.psi⟩) hb hq
 have size : ∀ {Q : QT}, Q (.int .i64 (p.z : Nat)) h → CT 52 #[plV (RPl.bk ⟨1, p.pl, p.ps, p.psi⟩)] h Q := fun hq => K52.c (by
  rw [if_pos hb.ok.b.right, plI_nat]; exact hq)
 have ev : IntKind.i64.wrap (1 + IntKind.i64.wrap ((r : Int) * ((p.z : Nat) : Int))) = ((1 + r * p.z : Nat) : Int) := by
  rw [show (r : Int) * ((p.z : Nat) : Int) = ((r * p.z : Nat) : Int) by rw [Int.natCast_mul], i64_in ((r * p.z : Nat) : Int) (by omega), i64_in _ (by omega)]; omega
 apply K50.ok
 refine ⟨bank ⟨_, _, _, rfl, size ⟨_, rfl, ?_⟩⟩, bank ⟨_, _, _, rfl, size ⟨_, rfl, ?_⟩, size ⟨_, rfl, ?_⟩⟩⟩
 all_goals rw [ev]; exact hq
theorem K51.any {a l s q : Int} (hq : Q (.agg #[.int .i64 a, .int .i64 (IntKind.i64.wrap (IntKind.i64.wrap (l + 1) + 1)), .int .i64 s]) h) : CT 51 #[.agg #[.int .i64 a, .int .i64 l, .int .i64 s, .int .i64 q]] h Q := by
 apply K51.ok
 apply K78.ok
 exact ⟨_, rfl, hq⟩
theorem K49.any {R l s q k : Int} (hq : Q (.bool (decide (rightF R l s q))) h) : CT 49 #[.agg #[.int .i64 R, .int .i64 l, .int .i64 s, .int .i64 q, .int .u64 k]] h Q := by
 apply K49.ok
 have no : ¬ rightF R l s q → Q (.bool false) h := fun hn => by rw [decide_eq_false hn] at hq; exact hq
 refine xsIf_intro (fun e1 => xsIf_intro (fun e2 => ?_) fun e2 => no fun hf => ?_) fun e1 => no fun hf => ?_
 ·have e1 := of_decide_eq_true e1
  have e2 := of_decide_eq_true e2
  refine K51.any ⟨_, _, _, rfl, K52.c ⟨_, rfl, ?_⟩⟩
  apply K77.ok
  unfold K77.wp
  have two : ∀ {x : Int}, x = 2 → ¬ rightF R l s q → Q (.bool (decide (x = 0))) h := fun ex hn => by rw [ex]; exact no hn
  refine xsIf_intro (fun e3 => ⟨_, rfl, two rfl fun hf => ?_⟩) fun e3 => xsIf_intro (fun e4 => ⟨_, rfl, two rfl fun hf => ?_⟩) fun e4 => xsIf_intro (fun e5 => ⟨_, rfl, two rfl fun hf => ?_⟩) fun e5 => xsIf_intro (fun e6 => ⟨_, rfl, two rfl fun hf => ?_⟩) fun e6 => K51.any ⟨_, _, _, rfl, K112.c ⟨_, rfl, _, rfl, ?_⟩⟩
  ·have := of_decide_eq_true e3; unfold rightF at hf; omega
  ·have := of_decide_eq_true e4; unfold rightF at hf; omega
  ·have := of_decide_eq_true e5; unfold rightF at hf; omega
  ·have := of_decide_eq_true e6; unfold rightF at hf; omega
  ·have e3 := of_decide_eq_false e3
   have e4 := of_decide_eq_false e4
   have e5 := of_decide_eq_false e5
   have e6 := of_decide_eq_false e6
   rw [i64_in (l + 1) (by omega), i64_in (l + 1 + 1) (by omega)]
   unfold checkI
   by_cases hs : 0 ≤ s ∧ s ≤ 64
   ·rw [if_pos (show rightI 0 (l + 1 + 1) s by unfold rightI; omega), if_pos (show rightI 0 (l + 1 + 1) s by unfold rightI; omega), if_neg (by omega)]
    rw [decide_eq_true (show rightF R l s q by unfold rightF; omega)] at hq
    exact hq
   ·rw [if_neg (show ¬ rightI 0 (l + 1 + 1) s by unfold rightI; omega)]
    exact no fun hf => by unfold rightF at hf; omega
 ·have := of_decide_eq_false e2; unfold rightF at hf; omega
 ·have := of_decide_eq_false e1; unfold rightF at hf; omega
theorem K27.c (o : p.rt) (hq : Q (.int .i64 ((1 + p.R * p.z : Nat) : Int)) h) : CT 27 #[fcfgV p] h Q := by
 have hz := FPl.z_le o
 have l2 := o.l2
 have s2 := o.s2
 have r2 := o.r2
 have hb : RpB (p.plan 0) 2000 := ⟨o.l1, o.l2, o.q1, o.q2, ⟨by show 1 ≤ p.pl + 2; omega, by show p.pl + 2 ≤ 1026; omega, s2, by show 1 + 0 * p.z ≤ 8192; omega, by show 1 + 0 * p.z + p.z ≤ 2000; omega⟩⟩
 have hm : p.R * p.z ≤ 16 * 1098 := Nat.mul_le_mul r2 hz
 apply K27.ok
 refine K49.any ⟨_, rfl, xsIf_f (by rw [decide_eq_true o.right]; rfl) (K50.c (r := 0) o (by omega) ⟨_, _, _, _, rfl, K51.c hb ⟨_, _, _, rfl, K52.c ⟨_, rfl, ?_⟩⟩⟩)⟩
 rw [if_pos hb.ok.b.right, plI_nat, plan_size]
 rw [show (p.R : Int) * ((p.z : Nat) : Int) = ((p.R * p.z : Nat) : Int) by rw [Int.natCast_mul], i64_in ((p.R * p.z : Nat) : Int) (by omega), i64_in _ (by omega), show (1 : Int) + ((p.R * p.z : Nat) : Int) = ((1 + p.R * p.z : Nat) : Int) by omega]
 exact hq
theorem K27.no {R l s q k : Int} (hn : ¬ rightF R l s q) (hq : Q (.int .i64 0) h) : CT 27 #[.agg #[.int .i64 R, .int .i64 l, .int .i64 s, .int .i64 q, .int .u64 k]] h Q := by
 apply K27.ok
 exact K49.any ⟨_, rfl, xsIf_t (by rw [decide_eq_false hn]; rfl) hq⟩
theorem K83.any {n : Int} (o : p.rt) (hq : Q (.int .i64 (if n < ((1 + p.R * p.z : Nat) : Int) then 3 else 0)) h) : CT 83 #[fcfgV p, .int .i64 n] h Q := by
 apply K83.ok
 refine K49.any ⟨_, rfl, xsIf_f (by rw [decide_eq_true o.right]; rfl) (K27.c o ⟨_, rfl, xsIf_intro (fun e => ?_) fun e => ?_⟩)⟩
 ·rw [if_pos (of_decide_eq_true e)] at hq; exact hq
 ·rw [if_neg (of_decide_eq_false e)] at hq; exact hq
theorem K83.c {n : Nat} (o : p.ok n) (hq : Q (.int .i64 0) h) : CT 83 #[fcfgV p, .int .i64 (n : Int)] h Q := by
 have := o.fit
 exact K83.any o.rt (by rw [if_neg (by omega)]; exact hq)
structure FPl.fit (p : FPl) : Prop where
 R : p.R < 65536
 pl : p.pl < 65536
 ps : p.ps < 65536
 psi : p.psi < 65536
 k : p.key < 18446744073709551616
theorem FPl.rt.fit {p : FPl} (o : p.rt) : p.fit := by
 have := o.r2; have := o.l2; have := o.s2; have := o.q2
 exact ⟨by omega, by omega, by omega, by omega, o.k⟩
theorem toL_append (x y : List UInt8) : ((⟨x.toArray⟩ : ByteArray) ++ (⟨y.toArray⟩ : ByteArray)) = ⟨(x ++ y).toArray⟩ := by
 apply ByteArray.ext
 rw [ByteArray.data_append]
 simp
theorem K87.c (o : p.fit) (hq : ∀ h', Part h h' → Q (.string (headB p)) h') : CT 87 #[fcfgV p] h Q := by
 have o1 := o.R
 have o2 := o.pl
 have o3 := o.ps
 have o4 := o.psi
 apply K87.ok
 intro b hb
 have k := Blk.new h b #[.int .i64 p.R, .int .i64 p.pl, .int .i64 p.ps, .int .i64 p.psi] 3
 have pt : Part h (upd h b (Obj.cells #[.int .i64 p.R, .int .i64 p.pl, .int .i64 p.ps, .int .i64 p.psi] 3 (0, 0))) := Part.upd hb _
 generalize upd h b (Obj.cells #[.int .i64 p.R, .int .i64 p.pl, .int .i64 p.ps, .int .i64 p.psi] 3 (0, 0)) = h1 at k pt
 have c2 : cnt 2 = 2 := by decide
 have c4 : cnt 4 = 4 := by decide
 have sz : ∀ l : List UInt8, (⟨l.toArray⟩ : ByteArray).size = l.length := fun l => List.size_toArray
 have e1 : (⟨#[UInt8.ofNat 103, UInt8.ofNat 97, UInt8.ofNat 98, UInt8.ofNat 105, UInt8.ofNat 111, UInt8.ofNat 110, UInt8.ofNat 48, UInt8.ofNat 49]⟩ : ByteArray) = ⟨magicL.toArray⟩ := rfl
 rw [e1]
 have m8 : magicL.length = 8 := rfl
 have w0 : IntKind.u64.wrap ((p.R : Nat) : Int) = ((p.R : Nat) : Int) := u64_nat' (by omega)
 have w1 : IntKind.u64.wrap ((p.pl : Nat) : Int) = ((p.pl : Nat) : Int) := u64_nat' (by omega)
 have w2 : IntKind.u64.wrap ((p.ps : Nat) : Int) = ((p.ps : Nat) : Int) := u64_nat' (by omega)
 have w3 : IntKind.u64.wrap ((p.psi : Nat) : Int) = ((p.psi : Nat) : Int) := u64_nat' (by omega)
 apply K87.L3.ok
 refine xsIf_t rfl ⟨by omega, b, 0, rfl, _, k.cell 0, ?_⟩
 rw [w0]
 refine K20.c (by omega) ⟨_, rfl, ?_⟩
 rw [c2, toL_append]
 refine ⟨by rw [sz, sz, putL_length, m8]; omega, ?_⟩
 apply K87.L3.ok
 refine xsIf_t rfl ⟨by constructor <;> decide, b, 0, rfl, _, k.cell 1, ?_⟩
 rw [w1]
 refine K20.c (by omega) ⟨_, rfl, ?_⟩
 rw [c2, toL_append]
 refine ⟨by rw [sz, sz, List.length_append, putL_length, putL_length, m8]; omega, ?_⟩
 apply K87.L3.ok
 refine xsIf_t rfl ⟨by constructor <;> decide, b, 0, rfl, _, k.cell 2, ?_⟩
 rw [w2]
 refine K20.c (by omega) ⟨_, rfl, ?_⟩
 rw [c2, toL_append]
 refine ⟨by rw [sz, sz, List.length_append, List.length_append, putL_length, putL_length, putL_length, m8]; omega, ?_⟩
 apply K87.L3.ok
 refine xsIf_t rfl ⟨by constructor <;> decide, b, 0, rfl, _, k.cell 3, ?_⟩
 rw [w3]
 refine K20.c (by omega) ⟨_, rfl, ?_⟩
 rw [c2, toL_append]
 refine ⟨by rw [sz, sz, List.length_append, List.length_append, List.length_append, putL_length, putL_length, putL_length, putL_length, m8]; omega, ?_⟩
 apply K87.L3.ok
 refine xsIf_f rfl (K20.c o.k ⟨_, rfl, ?_⟩)
 rw [cnt8, toL_append]
 generalize hX : magicL ++ putL p.R 2 ++ putL p.pl 2 ++ putL p.ps 2 ++ putL p.psi 2 = X
 have lX : X.length = 16 := by rw [← hX, List.length_append, List.length_append, List.length_append, List.length_append, putL_length, putL_length, putL_length, putL_length, m8]
 refine ⟨by rw [sz, sz, putL_length, lX]; omega, ?_⟩
 rw [show IntKind.i64.wrap (60 - ((⟨(X ++ putL p.key 8).toArray⟩ : ByteArray).size : Int)) = ((36 : Nat) : Int) by rw [sz, List.length_append, putL_length, lX]; rfl]
 refine strings_Repeat.c (c := 36) (by omega) (by show 1 ≤ 1000000; omega) ⟨_, rfl, ?_⟩
 have e2 : (⟨(Lib.repeatL (⟨#[UInt8.ofNat 0]⟩ : ByteArray).data.toList 36).toArray⟩ : ByteArray) = ⟨(List.replicate 36 (0 : UInt8)).toArray⟩ := rfl
 rw [e2, toL_append]
 refine ⟨by rw [sz, sz, List.length_append, putL_length, lX, List.length_replicate]; omega, K124.c (by rw [sz, List.length_append, List.length_append, putL_length, lX, List.length_replicate]; omega) ⟨_, rfl, ?_⟩⟩
 have e3 : X ++ putL p.key 8 ++ List.replicate 36 0 = headL p := by rw [← hX]; rfl
 rw [e3]
 show C _ _ #[.int .u64 (IntKind.u64.wrap ((sum32 (headL p) : Nat) : Int)), _] _ _
 have hs := sum32_lt (headL p)
 rw [u64_nat' (by omega)]
 refine K20.c (by omega) ⟨_, rfl, ?_⟩
 rw [c4, toL_append]
 exact ⟨by rw [sz, sz, headL_length, putL_length]; omega, hq h1 pt⟩
end
end Go.Gb
namespace Go.Gb
open Go.Proofs IntWalk
def rdCfg (s : ByteArray) : FPl := ⟨wordAt s 1 % 65536, wordAt s 1 / 65536 % 65536, wordAt s 1 / 4294967296 % 65536, wordAt s 1 / 281474976710656 % 65536, wordAt s 2⟩
theorem rdCfg_fit (s : ByteArray) : (rdCfg s).fit := ⟨Nat.mod_lt _ (by omega), Nat.mod_lt _ (by omega), Nat.mod_lt _ (by omega), Nat.mod_lt _ (by omega), wordAt_lt s 2⟩
theorem get8_part {s : ByteArray} {a n : Nat} (hn : n ≤ 8) : get8 (sext s (a : Int) ((a + n : Nat) : Int)) = getL ((s.data.toList.drop a).take n) := by
 unfold get8 sext
 rw [Int.toNat_natCast, Int.toNat_natCast, ByteArray.data_extract]
 have e : (s.data.extract a (a + n)).toList = (s.data.toList.drop a).take n := by
  rw [Array.toList_extract, List.extract_eq_take_drop]
  rw [show a + n - a = n by omega]
 rw [e, List.take_take, Nat.min_eq_right hn]
theorem getL_part (L : List UInt8) (i : Nat) (hi : i + 2 ≤ 8) (hL : 8 ≤ L.length) : getL ((L.drop i).take 2) = getL (L.take 8) / 256 ^ i % 65536 := by
 have e : L.take 8 = L.take i ++ ((L.drop i).take 2 ++ (L.drop (i + 2)).take (8 - (i + 2))) := by
  rw [show (L.drop i).take 2 ++ (L.drop (i + 2)).take (8 - (i + 2)) = (L.drop i).take (8 - i) by
   rw [show L.drop (i + 2) = (L.drop i).drop 2 by rw [List.drop_drop], ← List.take_add, show 2 + (8 - (i + 2)) = 8 - i by omega]]
  rw [← List.take_add, show i + (8 - i) = 8 by omega]
 have l1 : (L.take i).length = i := by rw [List.length_take]; omega
 have l2 : ((L.drop i).take 2).length = 2 := by rw [List.length_take, List.length_drop]; omega
 have h1 := getL_lt (L.take i)
 have h2 := getL_lt ((L.drop i).take 2)
 rw [l1] at h1
 rw [l2] at h2
 rw [e, getL_append, getL_append, l1, l2, Nat.add_mul_div_left _ _ (Nat.pow_pos (by omega)), Nat.div_eq_of_lt h1, Nat.zero_add]
 have h2 : getL ((L.drop i).take 2) < 65536 := h2
 show _ = (_ + 65536 * _) % 65536
 rw [Nat.add_mul_mod_self_left, Nat.mod_eq_of_lt h2]
theorem rd_word (s : ByteArray) (hs : s.size = 64) (i : Nat) (hi : i + 2 ≤ 8) : get8 (sext s ((8 + i : Nat) : Int) ((8 + i + 2 : Nat) : Int)) = wordAt s 1 / 256 ^ i % 65536 := by
 have hl : s.data.toList.length = 64 := by rw [Array.length_toList]; exact hs
 rw [get8_part (by omega)]
 have := getL_part (s.data.toList.drop 8) i hi (by rw [List.length_drop]; omega)
 rw [List.drop_drop] at this
 exact this
section
variable {h : Heap} {Q : QT}
theorem K89.c {s : ByteArray} (hs : s.size = 64) (hq : ∀ h', Part h h' → Q (.tuple #[fcfgV (rdCfg s), .bool (decide (headB (rdCfg s) = s))]) h') : CT 89 #[.string s] h Q := by
 have sx : ∀ a b : Int, (sext s a b).size ≤ 9223372036854775807 := fun a b => by unfold sext; rw [ByteArray.size_extract]; omega
 have g0 := rd_word s hs 0 (by omega)
 have g1 := rd_word s hs 2 (by omega)
 have g2 := rd_word s hs 4 (by omega)
 have g3 := rd_word s hs 6 (by omega)
 have g4 : get8 (sext s 16 24) = wordAt s 2 := get8_mid (k := 2)
 have fit := rdCfg_fit s
 have f0 : wordAt s 1 / 256 ^ 0 % 65536 = (rdCfg s).R := by unfold rdCfg; rw [Nat.pow_zero, Nat.div_one]
 have f1 : wordAt s 1 / 256 ^ 2 % 65536 = (rdCfg s).pl := rfl
 have f2 : wordAt s 1 / 256 ^ 4 % 65536 = (rdCfg s).ps := rfl
 have f3 : wordAt s 1 / 256 ^ 6 % 65536 = (rdCfg s).psi := rfl
 have f4 : wordAt s 2 = (rdCfg s).key := rfl
 rw [f0] at g0
 rw [f1] at g1
 rw [f2] at g2
 rw [f3] at g3
 rw [f4] at g4
 have i0 := fit.R
 have i1 := fit.pl
 have i2 := fit.ps
 have i3 := fit.psi
 generalize rdCfg s = p at *
 have wr : ∀ n : Nat, n < 65536 → IntKind.i64.wrap ((n : Nat) : Int) = ((n : Nat) : Int) := fun n hn => i64_in _ (by omega)
 apply K89.ok
 apply K89.L4.ok
 refine xsIf_t rfl ⟨by rw [hs]; decide, by decide, K18.c (sx _ _) ⟨_, rfl, by constructor <;> decide, by decide, ?_⟩⟩
 have g0 : get8 (sext s 8 (IntKind.i64.wrap (8 + 2))) = p.R := g0
 rw [g0, wr _ i0]
 apply K89.L4.ok
 refine xsIf_t rfl ⟨by rw [hs]; decide, by decide, K18.c (sx _ _) ⟨_, rfl, by constructor <;> decide, by show _ ≤ 4; decide, ?_⟩⟩
 have g1 : get8 (sext s (IntKind.i64.wrap (8 + 2)) (IntKind.i64.wrap (IntKind.i64.wrap (8 + 2) + 2))) = p.pl := g1
 rw [g1, wr _ i1]
 apply K89.L4.ok
 refine xsIf_t rfl ⟨by rw [hs]; decide, by decide, K18.c (sx _ _) ⟨_, rfl, by constructor <;> decide, by show _ ≤ 4; decide, ?_⟩⟩
 have g2 : get8 (sext s (IntKind.i64.wrap (IntKind.i64.wrap (8 + 2) + 2)) (IntKind.i64.wrap (IntKind.i64.wrap (IntKind.i64.wrap (8 + 2) + 2) + 2))) = p.ps := g2
 rw [g2, wr _ i2]
 apply K89.L4.ok
 refine xsIf_t rfl ⟨by rw [hs]; decide, by decide, K18.c (sx _ _) ⟨_, rfl, by constructor <;> decide, by show _ ≤ 4; decide, ?_⟩⟩
 have g3 : get8 (sext s (IntKind.i64.wrap (IntKind.i64.wrap (IntKind.i64.wrap (8 + 2) + 2) + 2)) (IntKind.i64.wrap (IntKind.i64.wrap (IntKind.i64.wrap (IntKind.i64.wrap (8 + 2) + 2) + 2) + 2))) = p.psi := g3
 rw [g3, wr _ i3]
 apply K89.L4.ok
 have e16 : IntKind.i64.wrap (IntKind.i64.wrap (IntKind.i64.wrap (IntKind.i64.wrap (8 + 2) + 2) + 2) + 2) = 16 := by decide
 have e24 : IntKind.i64.wrap (16 + 8) = 24 := by decide
 refine xsIf_f rfl ?_
 rw [e16, e24]
 refine ⟨_, rfl, _, rfl, _, rfl, _, rfl, by rw [hs]; decide, by decide, ?_⟩
 refine both (K18.c (sx _ _) ⟨_, rfl, ?_⟩)
 rw [g4]
 exact K87.c fit fun h1 p1 => ⟨_, rfl, hq h1 p1⟩
end
theorem head_list (p : FPl) : (headB p).data.toList = magicL ++ ((putL p.R 2 ++ putL p.pl 2 ++ putL p.ps 2 ++ putL p.psi 2) ++ (putL p.key 8 ++ (List.replicate 36 0 ++ putL (sum32 (headL p)) 4))) := by
 show (headL p ++ putL (sum32 (headL p)) 4).toArray.toList = _
 rw [List.toList_toArray]
 unfold headL
 simp only [List.append_assoc]
theorem head_word1 {p : FPl} (o : p.fit) : wordAt (headB p) 1 = p.R + 65536 * (p.pl + 65536 * (p.ps + 65536 * p.psi)) := by
 unfold wordAt chunk
 rw [head_list]
 have lN : (putL p.R 2 ++ putL p.pl 2 ++ putL p.ps 2 ++ putL p.psi 2).length = 8 := by simp only [List.length_append, putL_length]
 rw [List.drop_left' (show magicL.length = 8 * 1 from rfl), List.take_left' lN]
 rw [getL_append, getL_append, getL_append, getL_put, getL_put, getL_put, getL_put]
 simp only [List.length_append, putL_length]
 have := o.R; have := o.pl; have := o.ps; have := o.psi
 show p.R % 65536 + 65536 * (p.pl % 65536) + 4294967296 * (p.ps % 65536) + 281474976710656 * (p.psi % 65536) = _
 omega
theorem head_word2 {p : FPl} (o : p.fit) : wordAt (headB p) 2 = p.key := by
 unfold wordAt chunk
 rw [head_list]
 have lN : (putL p.R 2 ++ putL p.pl 2 ++ putL p.ps 2 ++ putL p.psi 2).length = 8 := by simp only [List.length_append, putL_length]
 rw [show 8 * 2 = 8 + 8 from rfl, ← List.drop_drop, List.drop_left' (show magicL.length = 8 from rfl), List.drop_left' lN, List.take_left' (putL_length _ _), getL_put]
 exact Nat.mod_eq_of_lt o.k
theorem rdCfg_head {p : FPl} (o : p.fit) : rdCfg (headB p) = p := by
 have := o.R; have := o.pl; have := o.ps; have := o.psi
 unfold rdCfg
 rw [head_word1 o, head_word2 o]
 obtain ⟨R, pl, ps, psi, key⟩ := p
 dsimp only at *
 congr 1 <;> omega
end Go.Gb
namespace Go.Gb
open Go.Proofs IntWalk
def Nq (a : Option Addr) (b : Nat) : Prop := ∀ c, a = some ⟨c, 0, none⟩ → c ≠ b
theorem Own.livB {h0 h : Heap} {T : TypeId} {sz n c : Nat} {a : Option Addr} {vs : List Value} (w : Own h0 h T sz a n c vs) {b : Nat} (e : a = some ⟨b, 0, none⟩) : h b ≠ none ∧ h0 b = none := by
 rcases w.place with ⟨rfl, _⟩ | ⟨b', cs, rfl, h1, h2, _⟩
 ·cases e
 ·cases e; exact ⟨by rw [h2]; simp, h1⟩
theorem Own.move {h0 h0' h h' : Heap} {T : TypeId} {sz n c : Nat} {a : Option Addr} {vs : List Value} (w : Own h0 h T sz a n c vs) (p : Part h0' h') (e : ∀ b, a = some ⟨b, 0, none⟩ → h' b = h b ∧ h0' b = none) : Own h0' h' T sz a n c vs :=
 ⟨p, w.len, w.place.imp id fun ⟨b, cs, h1, h2, h3, h4⟩ => ⟨b, cs, h1, (e b h1).2, by rw [(e b h1).1]; exact h3, h4⟩⟩
theorem Own.append3 {P : Program} {h0 h : Heap} {T : TypeId} {sz n c m : Nat} {a x : Option Addr} {vs new : List Value} {K : Option Addr → Nat → Nat → Heap → Prop}
  (w : Own h0 h T sz a n c vs) (hsz : cellSize P T = sz) (hpos : 0 < sz) (hlen : new.length = m * sz) (hone : oneCells new = true) (hr : readsAt h x new) (hz : (cellZero P T).length = sz)
  (hcap : (2 * (n + m) + 192) * cellBytes P T ≤ 2 ^ 48)
  (hk : ∀ a' c' h', Own h0 h' T sz a' (n + m) c' (vs ++ new) → (∀ k, h k ≠ none → h' k ≠ none) → (∀ k, Nq a k → h k ≠ none → h' k = h k) → (∀ b, a' = some ⟨b, 0, none⟩ → a = a' ∨ h b = none) → K a' (n + m) c' h') : xsApp P T h a n c x m K := by
 let hq : Heap := fun k => if a = some ⟨k, 0, none⟩ then none else h k
 have w' : Own hq h T sz a n c vs := w.move (fun i o hi => by
  have hi : (if a = some ⟨i, 0, none⟩ then none else h i) = some o := hi
  split at hi
  ·cases hi
  ·exact hi) fun b e => ⟨rfl, by show (if a = some ⟨b, 0, none⟩ then none else h b) = none; rw [if_pos e]⟩
 refine w'.append2 hsz hpos hlen hone hr hz hcap fun a' c' h' w2 lv => hk a' c' h' ?_ lv ?_ ?_
 ·refine ⟨fun i o hi => ?_, w2.len, w2.place.imp id fun ⟨b, cs, h1, h2, h3⟩ => ⟨b, cs, h1, ?_, h3⟩⟩
  ·refine w2.part i o ?_
   show (if a = some ⟨i, 0, none⟩ then none else h i) = some o
   rw [if_neg (fun e => by rw [(w.livB e).2] at hi; cases hi)]
   exact w.part i o hi
  ·have h2 : (if a = some ⟨b, 0, none⟩ then none else h b) = none := h2
   split at h2
   ·rename_i e; exact (w.livB e).2
   ·exact Part.none w.part h2
 ·intro k hk hn
  cases e : h k with
  | none => exact absurd e hn
  | some o =>
   refine w2.part k o ?_
   show (if a = some ⟨k, 0, none⟩ then none else h k) = some o
   rw [if_neg (fun e => hk k e rfl)]; exact e
 ·intro b e
  have h2 := (w2.livB e).2
  have h2 : (if a = some ⟨b, 0, none⟩ then none else h b) = none := h2
  split at h2
  ·rename_i e'; left; rw [e, e']
  ·exact .inr h2
structure OS (hs hb h : Heap) (T1 T2 : TypeId) (s1 s2 : Nat) (b1 b2 : Option Addr) (a1 : Option Addr) (k1 c1 : Nat) (l1 : List Value) (a2 : Option Addr) (k2 c2 : Nat) (l2 : List Value) (x1 : Option Nat) (w1 : List Value) (x2 : Option Nat) (w2 : List Value) : Prop where
 o1 : Own hs h T1 s1 a1 k1 c1 l1
 o2 : Own hs h T2 s2 a2 k2 c2 l2
 lv : ∀ i, hb i ≠ none → h i ≠ none
 rest : ∀ i, hb i ≠ none → Nq b1 i → Nq b2 i → h i = hb i
 f1 : ∀ b, a1 = some ⟨b, 0, none⟩ → b1 = a1 ∨ hb b = none
 f2 : ∀ b, a2 = some ⟨b, 0, none⟩ → b2 = a2 ∨ hb b = none
 d : ∀ b, a1 = some ⟨b, 0, none⟩ → Nq a2 b
 t1 : ∀ b, x1 = some b → Blk h b w1 ∧ Nq a1 b ∧ Nq a2 b
 t2 : ∀ b, x2 = some b → Blk h b w2 ∧ Nq a1 b ∧ Nq a2 b
section
variable {P : Program} {hs hb h : Heap} {T1 T2 : TypeId} {s1 s2 : Nat} {b1 b2 a1 a2 : Option Addr} {k1 c1 k2 c2 : Nat} {l1 l2 w1 w2 : List Value} {x1 x2 : Option Nat}
theorem OS.start (o1 : Own hs h T1 s1 a1 k1 c1 l1) (o2 : Own hs h T2 s2 a2 k2 c2 l2) (d : ∀ b, a1 = some ⟨b, 0, none⟩ → Nq a2 b) (w1 w2 : List Value) : OS hs h h T1 T2 s1 s2 a1 a2 a1 k1 c1 l1 a2 k2 c2 l2 none w1 none w2 :=
 ⟨o1, o2, fun _ h => h, fun _ _ _ _ => rfl, fun _ _ => .inl rfl, fun _ _ => .inl rfl, d, fun _ e => (by cases e), fun _ e => (by cases e)⟩
theorem Nq.fresh {h0 : Heap} {T : TypeId} {sz n c : Nat} {a : Option Addr} {vs : List Value} (w : Own h0 h T sz a n c vs) {t : Nat} (ht : h t = none) : Nq a t := fun c e hc => (w.livB e).1 (by rw [hc]; exact ht)
theorem OS.alloc (S : OS hs hb h T1 T2 s1 s2 b1 b2 a1 k1 c1 l1 a2 k2 c2 l2 x1 w1 x2 w2) {t : Nat} (ht : h t = none) (o : Obj) : OS hs hb (upd h t o) T1 T2 s1 s2 b1 b2 a1 k1 c1 l1 a2 k2 c2 l2 x1 w1 x2 w2 := by
 have p : Part h (upd h t o) := Part.upd ht _
 exact ⟨S.o1.keep p, S.o2.keep p, fun i hi => by rw [part_live p (S.lv i hi)]; exact S.lv i hi, fun i hi n1 n2 => by
  have e := S.rest i hi n1 n2
  rw [part_live p (by rw [e]; exact hi), e], S.f1, S.f2, S.d, fun b e => by
  obtain ⟨q, n⟩ := S.t1 b e
  exact ⟨q.keep (part_live p q.ne), n⟩, fun b e => by
  obtain ⟨q, n⟩ := S.t2 b e
  exact ⟨q.keep (part_live p q.ne), n⟩⟩
theorem OS.al1 (S : OS hs hb h T1 T2 s1 s2 b1 b2 a1 k1 c1 l1 a2 k2 c2 l2 none w1 x2 w2) {t : Nat} {T : TypeId} {v : Array Value} (ht : h t = none) (hv : v.toList = w1) : OS hs hb (upd h t (.cells v T (0, 0))) T1 T2 s1 s2 b1 b2 a1 k1 c1 l1 a2 k2 c2 l2 (some t) w1 x2 w2 := by
 have A := S.alloc ht (.cells v T (0, 0))
 refine ⟨A.o1, A.o2, A.lv, A.rest, A.f1, A.f2, A.d, fun b e => ?_, A.t2⟩
 cases e
 exact ⟨by rw [← hv]; exact Blk.new h t v T, Nq.fresh S.o1 ht, Nq.fresh S.o2 ht⟩
theorem OS.al2 (S : OS hs hb h T1 T2 s1 s2 b1 b2 a1 k1 c1 l1 a2 k2 c2 l2 x1 w1 none w2) {t : Nat} {T : TypeId} {v : Array Value} (ht : h t = none) (hv : v.toList = w2) : OS hs hb (upd h t (.cells v T (0, 0))) T1 T2 s1 s2 b1 b2 a1 k1 c1 l1 a2 k2 c2 l2 x1 w1 (some t) w2 := by
 have A := S.alloc ht (.cells v T (0, 0))
 refine ⟨A.o1, A.o2, A.lv, A.rest, A.f1, A.f2, A.d, A.t1, fun b e => ?_⟩
 cases e
 exact ⟨by rw [← hv]; exact Blk.new h t v T, Nq.fresh S.o1 ht, Nq.fresh S.o2 ht⟩
theorem reads_blk {b : Nat} {cs : List Value} (w : Blk h b cs) : readsAt h (some ⟨b, 0, none⟩) cs := by
 refine .inr ⟨b, 0, rfl, fun j hj => ?_⟩
 rw [w.cell, Nat.zero_add]
theorem OS.app1 {t : Nat} {K : Option Addr → Nat → Nat → Heap → Prop} (S : OS hs hb h T1 T2 s1 s2 b1 b2 a1 k1 c1 l1 a2 k2 c2 l2 (some t) w1 x2 w2) (hsz : cellSize P T1 = s1) (hpos : 0 < s1) (hlen : w1.length = 1 * s1) (hone : oneCells w1 = true) (hz : (cellZero P T1).length = s1) (hcap : (2 * (k1 + 1) + 192) * cellBytes P T1 ≤ 2 ^ 48)
  (hk : ∀ a' c' h', OS hs hb h' T1 T2 s1 s2 b1 b2 a' (k1 + 1) c' (l1 ++ w1) a2 k2 c2 l2 (some t) w1 x2 w2 → K a' (k1 + 1) c' h') : xsApp P T1 h a1 k1 c1 (some ⟨t, 0, none⟩) 1 K := by
 obtain ⟨bt, n1, n2⟩ := S.t1 t rfl
 refine S.o1.append3 hsz hpos hlen hone (reads_blk bt) hz hcap fun a' c' h' o' lv st fr => hk a' c' h' ?_
 have na : ∀ b, h b ≠ none → Nq a1 b → Nq a' b := fun b hn hq c e hc => by
  rcases fr c e with e' | e'
  ·exact hq c (e'.trans e) hc
  ·rw [hc] at e'; exact hn e'
 refine ⟨o', S.o2.move o'.part fun b e => ⟨st b (fun c e' hc => ?_) (S.o2.livB e).1, (S.o2.livB e).2⟩, fun i hi => lv i (S.lv i hi), fun i hi m1 m2 => ?_, fun b e => ?_, S.f2, fun b e => ?_, fun b e => ?_, fun b e => ?_⟩
 ·rw [hc] at e'; exact S.d b e' b e rfl
 ·have e := S.rest i hi m1 m2
  rw [st i (fun c e' hc => ?_) (by rw [e]; exact hi), e]
  rcases S.f1 c e' with e2 | e2
  ·exact m1 c (e2.trans e') hc
  ·rw [hc] at e2; exact hi e2
 ·rcases fr b e with e' | e'
  ·rw [← e']; exact S.f1 b (e'.trans e)
  ·by_cases hn : hb b = none
   ·exact .inr hn
   ·exact absurd e' (S.lv b hn)
 ·rcases fr b e with e' | e'
  ·exact S.d b (e'.trans e)
  ·exact Nq.fresh S.o2 e'
 ·cases e
  exact ⟨bt.keep (st t n1 bt.ne), na t bt.ne n1, n2⟩
 ·obtain ⟨q, m1, m2⟩ := S.t2 b e
  exact ⟨q.keep (st b m1 q.ne), na b q.ne m1, m2⟩
theorem OS.app2 {t : Nat} {K : Option Addr → Nat → Nat → Heap → Prop} (S : OS hs hb h T1 T2 s1 s2 b1 b2 a1 k1 c1 l1 a2 k2 c2 l2 x1 w1 (some t) w2) (hsz : cellSize P T2 = s2) (hpos : 0 < s2) (hlen : w2.length = 1 * s2) (hone : oneCells w2 = true) (hz : (cellZero P T2).length = s2) (hcap : (2 * (k2 + 1) + 192) * cellBytes P T2 ≤ 2 ^ 48)
  (hk : ∀ a' c' h', OS hs hb h' T1 T2 s1 s2 b1 b2 a1 k1 c1 l1 a' (k2 + 1) c' (l2 ++ w2) x1 w1 (some t) w2 → K a' (k2 + 1) c' h') : xsApp P T2 h a2 k2 c2 (some ⟨t, 0, none⟩) 1 K := by
 obtain ⟨bt, n1, n2⟩ := S.t2 t rfl
 refine S.o2.append3 hsz hpos hlen hone (reads_blk bt) hz hcap fun a' c' h' o' lv st fr => hk a' c' h' ?_
 have na : ∀ b, h b ≠ none → Nq a2 b → Nq a' b := fun b hn hq c e hc => by
  rcases fr c e with e' | e'
  ·exact hq c (e'.trans e) hc
  ·rw [hc] at e'; exact hn e'
 have d' : ∀ b, a1 = some ⟨b, 0, none⟩ → Nq a2 b := S.d
 refine ⟨S.o1.move o'.part fun b e => ⟨st b (d' b e) (S.o1.livB e).1, (S.o1.livB e).2⟩, o', fun i hi => lv i (S.lv i hi), fun i hi m1 m2 => ?_, S.f1, fun b e => ?_, fun b e => ?_, fun b e => ?_, fun b e => ?_⟩
 ·have e := S.rest i hi m1 m2
  rw [st i (fun c e' hc => ?_) (by rw [e]; exact hi), e]
  rcases S.f2 c e' with e2 | e2
  ·exact m2 c (e2.trans e') hc
  ·rw [hc] at e2; exact hi e2
 ·rcases fr b e with e' | e'
  ·rw [← e']; exact S.f2 b (e'.trans e)
  ·by_cases hn : hb b = none
   ·exact .inr hn
   ·exact absurd e' (S.lv b hn)
 ·exact na b (S.o1.livB e).1 (S.d b e)
 ·obtain ⟨q, m1, m2⟩ := S.t1 b e
  exact ⟨q.keep (st b m2 q.ne), m1, na b q.ne m2⟩
 ·cases e
  exact ⟨bt.keep (st t n2 bt.ne), n1, na t bt.ne n2⟩
end
end Go.Gb
namespace Go.Gb
open Go.Proofs IntWalk
def ptrsOf (rs : Nat → Nat) (k : Nat) : List Value := (List.range k).map fun j => .pointer (some ⟨rs j, 0, none⟩)
def permsOf (p : FPl) (k : Nat) : List Value := (List.range k).flatMap fun j => permOf p j
theorem ptrsOf_succ (rs : Nat → Nat) (k r : Nat) : ptrsOf (fset rs k r) (k + 1) = ptrsOf rs k ++ [.pointer (some ⟨r, 0, none⟩)] := by
 unfold ptrsOf
 rw [List.range_succ, List.map_append]
 congr 1
 ·refine List.map_congr_left fun j hj => ?_
  rw [List.mem_range] at hj
  unfold fset
  rw [if_neg (by omega)]
 ·simp only [List.map_cons, List.map_nil, fset, if_true]
theorem permsOf_succ (p : FPl) (k : Nat) : permsOf p (k + 1) = permsOf p k ++ permOf p k := by
 unfold permsOf
 rw [List.range_succ, List.flatMap_append]
 simp only [List.flatMap_cons, List.flatMap_nil, List.append_nil]
structure OI (F : Nat → Prop) (hs h : Heap) (d f : Nat) (p : FPl) (x : FS) (k : Nat) (Gs : Nat → Nat → Prop) (bs rs : Nat → Nat) (a1 : Option Addr) (c1 : Nat) (a2 : Option Addr) (c2 : Nat) : Prop where
 dv : PmD F h d x.s
 lf : Live F h
 ff : ∀ i, F i → hs i ≠ none
 o1 : Own hs h 105 1 a1 k c1 (ptrsOf rs k)
 o2 : Own hs h 144 6 a2 k c2 (permsOf p k)
 fb : Blk h f (fcfgCs p ++ [.slice a1 k c1, .slice a2 k c2])
 fn : hs f = none
 d12 : ∀ b, a1 = some ⟨b, 0, none⟩ → Nq a2 b
 d1f : Nq a1 f
 d2f : Nq a2 f
 rg : ∀ j, j < k → FlR F (Gs j) h d (bs j) (rs j) (p.plan j) ⟨x.s, x.l j, x.g j, 0⟩
 fr : ∀ j, j < k → ∀ i, (Gs j i ∨ i = rs j) → hs i = none ∧ i ≠ f ∧ Nq a1 i ∧ Nq a2 i
 ne : ∀ j j', j < k → j' < k → j ≠ j' → Apart (fun i => Gs j i ∨ i = rs j) (fun i => Gs j' i ∨ i = rs j')
section
variable {F : Nat → Prop} {Gs : Nat → Nat → Prop} {bs rs : Nat → Nat} {hs h h1 : Heap} {d f k c1 c2 : Nat} {p : FPl} {x : FS} {Q : Value → Heap → Prop} {a1 a2 : Option Addr}
theorem OI.done (i : OI F hs h d f p x p.R Gs bs rs a1 c1 a2 c2) : ∃ hc, FD F Gs bs rs hc h d f p ⟨x.s, x.l, x.g, fun _ => 0⟩ ∧ ∀ j, hc j ≠ none → hs j = none := by
 let hc : Heap := fun j => if j = f ∨ a1 = some ⟨j, 0, none⟩ ∨ a2 = some ⟨j, 0, none⟩ then h j else none
 have cp : Part hc h := fun j o hj => by
  have hj : (if j = f ∨ a1 = some ⟨j, 0, none⟩ ∨ a2 = some ⟨j, 0, none⟩ then h j else none) = some o := hj
  split at hj
  ·exact hj
  ·cases hj
 have hf : hc f = h f := if_pos (.inl rfl)
 have o1 : Own (fun _ => none) hc 105 1 a1 p.R c1 (ptrsOf rs p.R) := i.o1.move (fun _ _ e => by cases e) fun b e => ⟨if_pos (.inr (.inl e)), rfl⟩
 have o2 : Own (fun _ => none) hc 144 6 a2 p.R c2 (permsOf p p.R) := i.o2.move (fun _ _ e => by cases e) fun b e => ⟨if_pos (.inr (.inr e)), rfl⟩
 refine ⟨hc, ⟨i.dv, i.lf, i.rg, i.ne, ⟨a1, c1, a2, c2, i.fb.keep hf, o1.reads, o2.reads⟩, cp, fun j hj hff => ?_⟩, fun j hj => ?_⟩
 case refine_2 =>
  have hj : (if j = f ∨ a1 = some ⟨j, 0, none⟩ ∨ a2 = some ⟨j, 0, none⟩ then h j else none) ≠ none := hj
  split at hj
  ·rename_i e
   rcases e with e | e | e
   ·rw [e]; exact i.fn
   ·exact (i.o1.livB e).2
   ·exact (i.o2.livB e).2
  ·exact absurd rfl hj
 have hj : (if j = f ∨ a1 = some ⟨j, 0, none⟩ ∨ a2 = some ⟨j, 0, none⟩ then h j else none) ≠ none := hj
 split at hj
 ·rename_i e
  rcases hff with hF | ⟨q, hq, hg⟩
  ·rcases e with e | e | e
   ·exact i.ff j hF (by rw [e]; exact i.fn)
   ·exact i.ff j hF (i.o1.livB e).2
   ·exact i.ff j hF (i.o2.livB e).2
  ·obtain ⟨_, n1, n2, n3⟩ := i.fr q hq j hg
   rcases e with e | e | e
   ·exact n1 e
   ·exact n2 j e rfl
   ·exact n3 j e rfl
 ·exact hj rfl
set_option maxRecDepth 100000 in
set_option maxHeartbeats 1000000 in
theorem K55.L9.c (iv : FI p x) (hq : ∀ Gs bs rs hc h', FD F Gs bs rs hc h' d f p ⟨x.s, x.l, x.g, fun _ => 0⟩ → (∀ j, j < p.R → ∀ i, (Gs j i ∨ i = rs j) → hs i = none) → (∀ j, hc j ≠ none → hs j = none) → Part hs h' → Q (.tuple #[.pointer (some ⟨f, 0, none⟩), .int .i64 0]) h') : ∀ (j k : Nat) (h : Heap) (Gs : Nat → Nat → Prop) (bs rs : Nat → Nat) (a1 : Option Addr) (c1 : Nat) (a2 : Option Addr) (c2 : Nat), k + j = p.R →
  OI F hs h d f p x k Gs bs rs a1 c1 a2 c2 → K55.L9 (some ⟨d, 0, none⟩) (some ⟨f, 0, none⟩) (p.R : Int) (k : Int) p.R p.pl p.ps p.psi p.key h Q := by
 intro j
 induction j with
 | zero =>
  intro k h Gs bs rs a1 c1 a2 c2 hk i
  apply K55.L9.ok
  have : k = p.R := by omega
  subst this
  obtain ⟨hc, w, fc⟩ := i.done
  exact xsIf_f (decide_eq_false (by omega)) (hq Gs bs rs hc h w (fun j hj q hg => (i.fr j hj q hg).1) fc i.o1.part)
 | succ j ih =>
  intro k h Gs bs rs a1 c1 a2 c2 hk i
  have hkR : k < p.R := by omega
  have r2 := iv.ok.r2
  have l1 := iv.ok.l1
  have l2 := iv.ok.l2
  have hkey := iv.ok.k
  have ek : IntKind.u64.wrap ((p.key : Int) + IntKind.u64.wrap ((k : Nat) : Int)) = ((p.kk k : Nat) : Int) := by
   rw [u64_nat' (show k < 18446744073709551616 by omega), show ((p.key : Nat) : Int) + ((k : Nat) : Int) = ((p.key + k : Nat) : Int) by omega, u64_nat]; rfl
  have gk := iv.rg k hkR
  apply K55.L9.ok
  refine xsIf_t (decide_eq_true (by omega)) (K50.c (r := k) iv.ok.rt (by omega) ⟨_, _, _, _, rfl, ?_⟩)
  refine K90.c (p := p.plan k) (x := x.at k) i.dv i.lf gk fun b r G h2 w2 fG fr p2 => ⟨_, _, rfl, xsIf_f rfl ?_⟩
  rw [ek, show IntKind.i64.wrap ((k : Int) + 1) = ((k + 1 : Nat) : Int) by rw [i64_in _ (by omega)]; omega]
  refine K91.c (by omega) (by omega) (Nat.mod_lt _ (by omega)) ⟨_, _, _, _, _, _, _, rfl, ?_⟩
  have nq1 : ∀ i', h i' = none → Nq a1 i' := fun i' hi' => Nq.fresh i.o1 hi'
  have nq2 : ∀ i', h i' = none → Nq a2 i' := fun i' hi' => Nq.fresh i.o2 hi'
  have fb2 := i.fb.keep (part_live p2 i.fb.ne)
  have S0 := OS.start (i.o1.keep p2) (i.o2.keep p2) i.d12 [.pointer (some ⟨r, 0, none⟩)] (permOf p k)
  have fcell : ∀ {h3 : Heap} {a1' c1' l1 a2' c2' l2 x1 x2 k1 k2}, OS hs h2 h3 105 144 1 6 a1 a2 a1' k1 c1' l1 a2' k2 c2' l2 x1 [.pointer (some ⟨r, 0, none⟩)] x2 (permOf p k) → Blk h3 f (fcfgCs p ++ [.slice a1 k c1, .slice a2 k c2]) :=
   fun S => fb2.keep (S.rest f fb2.ne i.d1f i.d2f)
  have leaf : ∀ {h3 : Heap} {a1' c1' a2' c2' x1 x2}, OS hs h2 h3 105 144 1 6 a1 a2 a1' (k + 1) c1' (ptrsOf rs k ++ [.pointer (some ⟨r, 0, none⟩)]) a2' (k + 1) c2' (permsOf p k ++ permOf p k) x1 [.pointer (some ⟨r, 0, none⟩)] x2 (permOf p k) →
    atBase (some ⟨f, 0, none⟩) fun b o => h3.can b (o + 5) 1 ∧ atBase (some ⟨f, 0, none⟩) fun b2 o2 => (h3.put b (o + 5) [.slice a1' (k + 1) c1']).can b2 (o2 + 6) 1 ∧
     K55.L9 (some ⟨d, 0, none⟩) (some ⟨f, 0, none⟩) (p.R : Int) ((k + 1 : Nat) : Int) p.R p.pl p.ps p.psi p.key ((h3.put b (o + 5) [.slice a1' (k + 1) c1']).put b2 (o2 + 6) [.slice a2' (k + 1) c2']) Q := by
   intro h3 a1' c1' a2' c2' x1 x2 S
   have fb3 := fcell S
   have fb4 := fb3.put (0 + 5) [.slice a1' (k + 1) c1']
   have fb5 := fb4.put (0 + 6) [.slice a2' (k + 1) c2']
   refine ⟨f, 0, rfl, fb3.can (by show 0 + 5 + 1 ≤ 7; omega), f, 0, rfl, fb4.can (by rw [setL_length]; show 0 + 6 + 1 ≤ 7; omega), ?_⟩
   generalize eh : (h3.put f (0 + 5) [.slice a1' (k + 1) c1']).put f (0 + 6) [.slice a2' (k + 1) c2'] = h5 at fb5
   have e5 : ∀ q, q ≠ f → h5 q = h3 q := fun q hq => by rw [← eh, put_other _ _ _ hq, put_other _ _ _ hq]
   have p5 : Part hs h5 := by rw [← eh]; exact (S.o1.part.put i.fn _ _).put i.fn _ _
   have hf2 : h2 f ≠ none := fb2.ne
   have nf1 : Nq a1' f := fun c e hc => by
    rcases S.f1 c e with e' | e'
    ·exact i.d1f c (e'.trans e) hc
    ·rw [hc] at e'; exact hf2 e'
   have nf2 : Nq a2' f := fun c e hc => by
    rcases S.f2 c e with e' | e'
    ·exact i.d2f c (e'.trans e) hc
    ·rw [hc] at e'; exact hf2 e'
   have old : ∀ q, h2 q ≠ none → q ≠ f → Nq a1 q → Nq a2 q → h5 q = h2 q ∧ Nq a1' q ∧ Nq a2' q := fun q hq hne m1 m2 => by
    refine ⟨(e5 q hne).trans (S.rest q hq m1 m2), fun c e hc => ?_, fun c e hc => ?_⟩
    ·rcases S.f1 c e with e' | e'
     ·exact m1 c (e'.trans e) hc
     ·rw [hc] at e'; exact hq e'
    ·rcases S.f2 c e with e' | e'
     ·exact m2 c (e'.trans e) hc
     ·rw [hc] at e'; exact hq e'
   have oldF : ∀ q, F q → h5 q = h2 q := fun q hF => by
    have hn := i.ff q hF
    have hq2 : h2 q ≠ none := by rw [part_live (i.o1.part.trans p2) hn]; exact hn
    refine (old q hq2 (fun e => hn (by rw [e]; exact i.fn)) (fun c e hc => hn ?_) (fun c e hc => hn ?_)).1
    ·rw [← hc]; exact (i.o1.livB e).2
    ·rw [← hc]; exact (i.o2.livB e).2
   have ls1 : ∀ q, F q → h5 q ≠ none := fun q hF => by rw [oldF q hF]; exact w2.db.lf q hF
   have newq : ∀ q, (G q ∨ q = r) → h2 q ≠ none ∧ h q = none := fun q hq => by
    rcases hq with hq | hq
    ·exact ⟨w2.db.lg q hq, fG q hq⟩
    ·rw [hq]; exact ⟨w2.rc.ne, fr⟩
   have newq' : ∀ q, (G q ∨ q = r) → h5 q = h2 q ∧ Nq a1' q ∧ Nq a2' q := fun q hq => by
    obtain ⟨m1, m2⟩ := newq q hq
    exact old q m1 (fun e => i.fb.ne (by rw [← e]; exact m2)) (nq1 q m2) (nq2 q m2)
   have oldq : ∀ j', j' < k → ∀ q, (Gs j' q ∨ q = rs j') → h2 q ≠ none ∧ h5 q = h2 q ∧ Nq a1' q ∧ Nq a2' q ∧ h q ≠ none := fun j' hj' q hq => by
    have g := i.rg j' hj'
    have hl : h q ≠ none := by
     rcases hq with hq | hq
     ·exact g.lg q hq
     ·rw [hq]; exact g.rc.ne
    have hl2 : h2 q ≠ none := by rw [part_live p2 hl]; exact hl
    obtain ⟨_, m1, m2, m3⟩ := i.fr j' hj' q hq
    exact ⟨hl2, (old q hl2 m1 m2 m3).1, (old q hl2 m1 m2 m3).2.1, (old q hl2 m1 m2 m3).2.2, hl⟩
   have r1 : RD F G h5 d b r (p.plan k) ⟨x.s, x.l k, x.g k, 0⟩ := w2.keep (fun q hq hn => by
    rcases hq with (hq | hq) | hq
    ·exact oldF q hq
    ·exact (newq' q (.inl hq)).1
    ·exact (newq' q (.inr hq)).1) fun q hq => by
     by_cases e : q = f
     ·rw [e]; exact fb5.ne
     ·rw [e5 q e]; exact S.lv q hq
   refine ih (k + 1) h5 (fset Gs k G) (fset bs k b) (fset rs k r) a1' c1' a2' c2' (by omega) ⟨r1.db.dv, r1.db.lf, i.ff, ?_, ?_, fb5, i.fn, S.d, nf1, nf2, fun j' hj' => ?_, fun j' hj' q hq => ?_, fun j1 j2 hj1 hj2 hne => ?_⟩
   ·rw [ptrsOf_succ]
    exact S.o1.move p5 fun c e => ⟨e5 c (nf1 c e), (S.o1.livB e).2⟩
   ·rw [permsOf_succ]
    exact S.o2.move p5 fun c e => ⟨e5 c (nf2 c e), (S.o2.livB e).2⟩
   ·by_cases e : j' = k
    ·subst e
     simp only [fset, if_true]
     exact ⟨r1.db.bk, r1.db.lg, r1.db.ap, r1.rc, r1.nr⟩
    ·simp only [fset, if_neg e]
     have hj'' : j' < k := by omega
     have g := i.rg j' hj''
     have kp : ∀ q, (Gs j' q ∨ q = rs j') → h5 q = h q := fun q hq => by
      obtain ⟨m1, m2, _, _, m5⟩ := oldq j' hj'' q hq
      rw [m2, part_live p2 m5]
     exact ⟨g.bk.keep fun q hq _ => kp q (.inl hq), fun q hq => by rw [kp q (.inl hq)]; exact g.lg q hq, g.ap, g.rc.keep (kp _ (.inr rfl)), g.nr⟩
   ·by_cases e : j' = k
    ·subst e
     simp only [fset, if_true] at hq
     obtain ⟨m1, m2⟩ := newq q hq
     exact ⟨Part.none i.o1.part m2, fun e => i.fb.ne (by rw [← e]; exact m2), (newq' q hq).2.1, (newq' q hq).2.2⟩
    ·simp only [fset, if_neg e] at hq
     obtain ⟨m0, m1, _, _⟩ := i.fr j' (by omega) q hq
     obtain ⟨_, _, n1, n2, _⟩ := oldq j' (by omega) q hq
     exact ⟨m0, m1, n1, n2⟩
   ·intro q hq2' hq1
    by_cases e1 : j1 = k
    ·by_cases e2 : j2 = k
     ·exact hne (e1.trans e2.symm)
     ·simp only [fset, if_neg e2] at hq2'
      simp only [fset, e1, if_true] at hq1
      exact (oldq j2 (by omega) q hq2').2.2.2.2 (newq q hq1).2
    ·by_cases e2 : j2 = k
     ·simp only [fset, e2, if_true] at hq2'
      simp only [fset, if_neg e1] at hq1
      exact (oldq j1 (by omega) q hq1).2.2.2.2 (newq q hq2').2
     ·simp only [fset, if_neg e1] at hq1
      simp only [fset, if_neg e2] at hq2'
      exact i.ne j1 j2 (by omega) (by omega) hne q hq2' hq1
  have cap1 : (2 * (k + 1) + 192) * cellBytes Tryz.prog 105 ≤ 2 ^ 48 := by rw [show cellBytes Tryz.prog 105 = 8 by kernel_rfl]; omega
  have cap2 : (2 * (k + 1) + 192) * cellBytes Tryz.prog 144 ≤ 2 ^ 48 := by rw [show cellBytes Tryz.prog 144 = 24 by kernel_rfl]; omega
  have ld1 : ∀ {h3 : Heap} {a1' c1' l1 a2' c2' l2 x1 x2 k1 k2} {K : Option Addr → Nat → Nat → Prop}, OS hs h2 h3 105 144 1 6 a1 a2 a1' k1 c1' l1 a2' k2 c2' l2 x1 [.pointer (some ⟨r, 0, none⟩)] x2 (permOf p k) → K a1 k c1 → ∃ x n m, h3.cell f (0 + 5) = some (.slice x n m) ∧ K x n m :=
   fun S hK => ⟨_, _, _, (fcell S).cell 5, hK⟩
  have ld2 : ∀ {h3 : Heap} {a1' c1' l1 a2' c2' l2 x1 x2 k1 k2} {K : Option Addr → Nat → Nat → Prop}, OS hs h2 h3 105 144 1 6 a1 a2 a1' k1 c1' l1 a2' k2 c2' l2 x1 [.pointer (some ⟨r, 0, none⟩)] x2 (permOf p k) → K a2 k c2 → ∃ x n m, h3.cell f (0 + 6) = some (.slice x n m) ∧ K x n m :=
   fun S hK => ⟨_, _, _, (fcell S).cell 6, hK⟩
  have A1 : ∀ {h3 : Heap} {a2' c2' l2 t x2 k2} {K : Option Addr → Nat → Nat → Heap → Prop}, OS hs h2 h3 105 144 1 6 a1 a2 a1 k c1 (ptrsOf rs k) a2' k2 c2' l2 (some t) [.pointer (some ⟨r, 0, none⟩)] x2 (permOf p k) →
    (∀ a' c' h', OS hs h2 h' 105 144 1 6 a1 a2 a' (k + 1) c' (ptrsOf rs k ++ [.pointer (some ⟨r, 0, none⟩)]) a2' k2 c2' l2 (some t) [.pointer (some ⟨r, 0, none⟩)] x2 (permOf p k) → K a' (k + 1) c' h') → xsApp Tryz.prog 105 h3 a1 k c1 (some ⟨t, 0, none⟩) 1 K :=
   fun S hk => S.app1 (by kernel_rfl) (by omega) rfl rfl (by kernel_rfl) cap1 hk
  have A2 : ∀ {h3 : Heap} {a1' c1' l1 t x1 k1} {K : Option Addr → Nat → Nat → Heap → Prop}, OS hs h2 h3 105 144 1 6 a1 a2 a1' k1 c1' l1 a2 k c2 (permsOf p k) x1 [.pointer (some ⟨r, 0, none⟩)] (some t) (permOf p k) →
    (∀ a' c' h', OS hs h2 h' 105 144 1 6 a1 a2 a1' k1 c1' l1 a' (k + 1) c' (permsOf p k ++ permOf p k) x1 [.pointer (some ⟨r, 0, none⟩)] (some t) (permOf p k) → K a' (k + 1) c' h') → xsApp Tryz.prog 144 h3 a2 k c2 (some ⟨t, 0, none⟩) 1 K :=
   fun S hk => S.app2 (by kernel_rfl) (by omega) rfl rfl (by kernel_rfl) cap2 hk
  have L1 : ∀ {h3 : Heap} {a1' c1' l1 a2' c2' l2 x2 k1 k2} {R : Nat → Prop}, OS hs h2 h3 105 144 1 6 a1 a2 a1' k1 c1' l1 a2' k2 c2' l2 none [.pointer (some ⟨r, 0, none⟩)] x2 (permOf p k) →
    (∀ t, OS hs h2 (upd h3 t (Obj.cells #[.pointer (some ⟨r, 0, none⟩)] 105 (0, 0))) 105 144 1 6 a1 a2 a1' k1 c1' l1 a2' k2 c2' l2 (some t) [.pointer (some ⟨r, 0, none⟩)] x2 (permOf p k) → R t) → ∀ t, h3 t = none → R t :=
   fun S hR t ht => hR t (S.al1 ht rfl)
  have L2 : ∀ {h3 : Heap} {a1' c1' l1 a2' c2' l2 x1 k1 k2} {R : Nat → Prop}, OS hs h2 h3 105 144 1 6 a1 a2 a1' k1 c1' l1 a2' k2 c2' l2 x1 [.pointer (some ⟨r, 0, none⟩)] none (permOf p k) →
    (∀ t, OS hs h2 (upd h3 t (Obj.cells #[.int .i64 p.pl, .int .i64 (halfN p.pl : Nat), .int .u16 (keyN (p.kk k) 0 : Nat), .int .u16 (keyN (p.kk k) 1 : Nat), .int .u16 (keyN (p.kk k) 2 : Nat), .int .u16 (keyN (p.kk k) 3 : Nat)] 144 (0, 0))) 105 144 1 6 a1 a2 a1' k1 c1' l1 a2' k2 c2' l2 x1 [.pointer (some ⟨r, 0, none⟩)] (some t) (permOf p k) → R t) → ∀ t, h3 t = none → R t :=
   fun S hR t ht => hR t (S.al2 ht rfl)
  have L12 : ∀ {h3 : Heap} {a1' c1' l1 a2' c2' l2 k1 k2} {R : Nat → Prop}, OS hs h2 h3 105 144 1 6 a1 a2 a1' k1 c1' l1 a2' k2 c2' l2 none [.pointer (some ⟨r, 0, none⟩)] none (permOf p k) →
    (∀ t, OS hs h2 (upd h3 t (Obj.cells #[.pointer (some ⟨r, 0, none⟩)] 105 (0, 0))) 105 144 1 6 a1 a2 a1' k1 c1' l1 a2' k2 c2' l2 (some t) [.pointer (some ⟨r, 0, none⟩)] none (permOf p k) →
     OS hs h2 (upd h3 t (Obj.cells #[.int .i64 p.pl, .int .i64 (halfN p.pl : Nat), .int .u16 (keyN (p.kk k) 0 : Nat), .int .u16 (keyN (p.kk k) 1 : Nat), .int .u16 (keyN (p.kk k) 2 : Nat), .int .u16 (keyN (p.kk k) 3 : Nat)] 144 (0, 0))) 105 144 1 6 a1 a2 a1' k1 c1' l1 a2' k2 c2' l2 none [.pointer (some ⟨r, 0, none⟩)] (some t) (permOf p k) → R t) → ∀ t, h3 t = none → R t :=
   fun S hR t ht => hR t (S.al1 ht rfl) (S.al2 ht rfl)
  refine ⟨f, 0, rfl, f, 0, rfl, ?_⟩
  clear ih hq
  repeat' with_reducible first
   | refine And.intro ?_ ?_
   | refine ld1 (by assumption) ?_
   | refine ld2 (by assumption) ?_
   | refine A1 (by assumption) fun a' c' h' S' => ?_
   | refine A2 (by assumption) fun a' c' h' S' => ?_
   | refine L12 (by assumption) fun t S1 S2 => ?_
   | refine L1 (by assumption) fun t S1 => ?_
   | refine L2 (by assumption) fun t S2 => ?_
   | exact leaf (by assumption)
end
end Go.Gb
namespace Go.Gb
open Go.Proofs IntWalk
def Nb (s : PmS) : Prop := ∀ k, s.bad k = false
theorem Fx.nb {lo hi : Nat} {s0 s : PmS} (f : Fx lo hi s0 s) (h : Nb s0) : Nb s := fun k => by rw [f.bd]; exact h k
theorem swritew_nb {p : Pl} {s : PmS} {l : List Nat} (w : SpI p s l) (hb : Nb s) {i k v : Nat} (hi : i < p.pl) (hk : k < 8) (hv : v < 18446744073709551616) :
  ((swritew p l s i k v).1 = 0 ∧ (swritew p l s i k v).2.2 = l) ∨ (swritew p l s i k v).1 = 6 := by
 obtain ⟨f1, f2⟩ := whN_lt w.ok w.len hi
 have hr : R64 ((v : Nat) : Int) := ⟨by omega, by omega⟩
 unfold swritew
 rw [lnget_on w.on f1, if_pos rfl]
 by_cases h1 : (lnputw s (whN p l i : Nat) (k : Nat) (v : Nat)).1 = 0
 ·have w1 := w.putw f2 f1 hk hr h1
  rw [if_pos h1]
  left
  rw [if_pos ?_]
  ·exact ⟨rfl, rfl⟩
  ·refine (media_took w1.w (by rw [lnputw_nl]; exact f1) (withW_size _ _ _)).1 ?_
   obtain ⟨_, m⟩ := w.on.putw0 f1 hk h1 (v := ((v : Nat) : Int))
   refine rdN_eq (withW_size _ _ _) fun j hj => ?_
   have hv0 : ∀ w', (s.media w').toNat < 18446744073709551616 ∧ s.media w' = (((s.media w').toNat : Nat) : Int) := fun w' => by have := w.w.media w'; unfold R64 at this; omega
   have wd : wordAt (lnbytes fun k => (s.media (8 * whN p l i + k)).toNat) j = (s.media (8 * whN p l i + j)).toNat := wordAt_text (f := fun k => (s.media (8 * whN p l i + k)).toNat) hj (hv0 _).1
   have wb : wordAt (withW (lnbytes fun k => (s.media (8 * whN p l i + k)).toNat) k v) j = if j = k then v else wordAt (lnbytes fun k => (s.media (8 * whN p l i + k)).toNat) j := wordAt_text (f := fun j => if j = k then v else wordAt (lnbytes fun k => (s.media (8 * whN p l i + k)).toNat) j) hj (by split; exact hv; exact wordAt_lt _ _)
   rw [wb, m _ (by omega)]
   by_cases ej : j = k
   ·rw [if_pos ⟨by omega, hb _⟩, if_pos ej]
   ·rw [if_neg (fun h => ej (by omega)), if_neg ej, wd]; exact (hv0 _).2
 ·rw [if_neg h1]
  exact .inr (w.on.putw6 f1 hk h1).1
theorem sfmt_out {p : Pl} : ∀ (j k : Nat) (s : PmS), On s → PmOk s → Nb s → p.pa + k + j ≤ s.nl →
  Fx (p.pa + k) (p.pa + k + j) s (sfmt p zero64 j k s).2 ∧ PmOk (sfmt p zero64 j k s).2 ∧ (F0 s → (sfmt p zero64 j k s).1 = 0 ∧ F0 (sfmt p zero64 j k s).2) ∧
  (((sfmt p zero64 j k s).1 = 0 ∧ On (sfmt p zero64 j k s).2 ∧ ∀ w, w < 8 * s.nl → p.pa + k ≤ w / 8 → w / 8 < p.pa + k + j → (sfmt p zero64 j k s).2.media w = 0) ∨ ((sfmt p zero64 j k s).1 = 6 ∧ (sfmt p zero64 j k s).2.off = true))
 | 0, k, s, o, pm, nb, _ => ⟨Fx.refl o, pm, fun f => ⟨rfl, f⟩, .inl ⟨rfl, o, fun w _ h1 h2 => by omega⟩⟩
 | j + 1, k, s, o, pm, nb, hf => by
  have ha : p.pa + k < s.nl := by omega
  have x1 := o.put_fx (b := zero64) ha zero64_size (lo := p.pa + k) (hi := p.pa + k + 1) (by omega) (by omega)
  have f1 := fun f : F0 s => f.put (b := zero64) ha zero64_size
  have p1 : PmOk (lnput s (p.pa + k : Nat) zero64).2 := pm.put _ _
  unfold sfmt
  by_cases h0 : (lnput s (p.pa + k : Nat) zero64).1 = 0
  ·obtain ⟨o1, m1⟩ := o.put0 ha zero64_size h0
   rw [if_pos h0]
   generalize (lnput s (p.pa + k : Nat) zero64).2 = s1 at x1 f1 p1 o1 m1
   have n1 := x1.nl
   obtain ⟨x2, p2, f2, r⟩ := sfmt_out (p := p) j (k + 1) s1 o1 p1 (x1.nb nb) (by omega)
   refine ⟨(x1.mono (by omega) (by omega)).trans (x2.mono (by omega) (by omega)), p2, fun f => f2 (f1 f).2, ?_⟩
   rcases r with ⟨r1, r2, r3⟩ | r
   ·refine .inl ⟨r1, r2, fun w hw h1 h2 => ?_⟩
    by_cases e : w / 8 = p.pa + k
    ·rw [x2.med w (by omega) (by omega), m1 w hw, if_pos ⟨e, nb _⟩, zero64_word]; rfl
    ·exact r3 w (by omega) (by omega) (by omega)
   ·exact .inr r
  ·rw [if_neg h0]
   obtain ⟨e6, off, _⟩ := o.put6 ha zero64_size h0
   exact ⟨x1.mono (by omega) (by omega), p1, fun f => absurd (f1 f).1 h0, .inr ⟨e6, off⟩⟩
noncomputable def rfmt (p : RPl) (s : PmS) : Int × PmS :=
 if (sformat p.bk s).1 = 0 then ((swritew p.bk [] (sformat p.bk s).2 (p.pl + 1) 0 (Gp.first p.pl).pk).1, (swritew p.bk [] (sformat p.bk s).2 (p.pl + 1) 0 (Gp.first p.pl).pk).2.1) else sformat p.bk s
theorem sformat_sp {p : Pl} {s : PmS} (ok : PlOk p s.nl) (o : On s) (pm : PmOk s) (nb : Nb s) (h0 : (sformat p s).1 = 0) : SpI p (sformat p s).2 [] ∧ ∀ j, j < p.pl → rd p (sformat p s).2 [] j = zero64 := by
 have fit := ok.fit
 unfold sizeN at fit
 obtain ⟨x, pm', _, r⟩ := sfmt_out (p := p) (tblN p + p.pl) 0 s o pm nb (by omega)
 have e : sformat p s = sfmt p zero64 (tblN p + p.pl) 0 s := rfl
 rw [e] at h0 ⊢
 generalize sfmt p zero64 (tblN p + p.pl) 0 s = q at x pm' r h0
 have nl := x.nl
 rcases r with ⟨r1, r2, r3⟩ | r
 ·refine ⟨⟨ok.of nl, r2, ?_, fun t _ _ => x.nb nb t, pm'⟩, fun j hj => ?_⟩
  ·unfold sents
   refine entsTo_zeros (c := 0) rfl p.ps (Nat.zero_le _) fun j _ hj => ?_
   unfold twd
   obtain ⟨g1, g2, g3⟩ := tbl_fit ok hj
   rw [r2.val (by omega), r3 _ g1 (by omega) (by omega)]; rfl
  ·have e1 : whN p [] j = p.pa + tblN p + j := rfl
   show rdN q.2.media (whN p [] j) = _
   rw [e1]
   refine rdN_eq zero64_size fun k hk => ?_
   rw [zero64_word, r3 _ (by omega) (by omega) (by omega)]; rfl
 ·rw [r.1] at h0; cases h0
theorem rfmt_out {p : RPl} {s : PmS} (hb : RpB p s.nl) (o : On s) (pm : PmOk s) (nb : Nb s) :
  Fx p.pa (p.pa + sizeN p.bk) s (rfmt p s).2 ∧ PmOk (rfmt p s).2 ∧ (F0 s → (rfmt p s).1 = 0 ∧ F0 (rfmt p s).2) ∧
  (((rfmt p s).1 = 0 ∧ RgI p ⟨(rfmt p s).2, [], Gp.first p.pl, 0⟩ ∧ ∀ j, j < p.pl → rr p ⟨(rfmt p s).2, [], Gp.first p.pl, 0⟩ j = zero64) ∨ ((rfmt p s).1 = 6 ∧ (rfmt p s).2.off = true)) := by
 have fit := hb.ok.fit
 have fit2 := hb.ok.fit
 unfold sizeN at fit
 have ok := Gp.first_ok hb.l1 hb.l2
 have hz : tblN p.bk + p.bk.pl ≤ sizeN p.bk := by unfold sizeN; omega
 obtain ⟨x, pm', f0, r⟩ := sfmt_out (p := p.bk) (tblN p.bk + p.bk.pl) 0 s o pm nb (by omega)
 have x' : Fx p.pa (p.pa + sizeN p.bk) s (sformat p.bk s).2 := x.mono (Nat.le_refl _) (by show p.pa + 0 + (tblN p.bk + p.bk.pl) ≤ _; omega)
 have sp := sformat_sp hb.ok o pm nb
 have f0 : F0 s → (sformat p.bk s).1 = 0 ∧ F0 (sformat p.bk s).2 := f0
 have pm' : PmOk (sformat p.bk s).2 := pm'
 have r6 : (sformat p.bk s).1 ≠ 0 → (sformat p.bk s).1 = 6 ∧ (sformat p.bk s).2.off = true := fun h => by
  rcases r with r | r
  ·exact absurd r.1 h
  ·exact r
 unfold rfmt
 generalize sformat p.bk s = a at x' sp f0 pm' r6
 by_cases h0 : a.1 = 0
 ·rw [if_pos h0]
  obtain ⟨w, rz⟩ := sp h0
  have hi : p.pl + 1 < p.bk.pl := by rw [bk_pl]; omega
  have x2 : Fx p.pa (p.pa + sizeN p.bk) a.2 _ := swritew_fx w hi (k := 0) (v := (Gp.first p.pl).pk) (by omega) (Gp.pk_lt ok)
  have c := swritew_nb w (x'.nb nb) hi (k := 0) (v := (Gp.first p.pl).pk) (by omega) (Gp.pk_lt ok)
  have oo := swritew_out w hi (k := 0) (v := (Gp.first p.pl).pk) (by omega) (Gp.pk_lt ok)
  have rs := swritew_res w hi (k := 0) (v := (Gp.first p.pl).pk) (by omega) (Gp.pk_lt ok)
  have fc := fun f : F0 a.2 => swritew_clean w f (x'.nb nb) hi (k := 0) (v := (Gp.first p.pl).pk) (by omega) (Gp.pk_lt ok)
  generalize swritew p.bk [] a.2 (p.pl + 1) 0 (Gp.first p.pl).pk = b at x2 c oo rs fc
  have pmb : PmOk b.2.1 := by
   rcases rs.2 with h | h
   ·exact h.2.w
   ·exact h.2.2.1
  refine ⟨x'.trans x2, pmb, fun f => ?_, ?_⟩
  ·obtain ⟨s', e, _, f', _⟩ := fc (f0 f).2
   rw [e]; exact ⟨rfl, f'⟩
  ·rcases oo with ⟨e, sp2, m⟩ | ⟨e, _⟩ | ⟨e, off, _⟩
   ·left
    have el : b.2.2 = [] := by
     rcases c with c | c
     ·exact c.2
     ·rw [e] at c; cases c
    rw [el] at sp2 m
    refine ⟨e, ⟨sp2, ok, ?_, hb.l1, hb.l2, hb.q1, hb.q2, Nat.zero_le _⟩, fun j hj => ?_⟩
    ·show wordAt (rd p.bk b.2.1 [] (p.pl + 1)) 0 = _
     rw [m _ hi, if_pos rfl, wordAt_withW (Gp.pk_lt ok)]
    ·have hs := Gp.slot_at ok hj
     show rd p.bk b.2.1 [] ((Gp.first p.pl).slot p.pl j) = _
     rw [m _ (by rw [bk_pl]; omega), if_neg (by omega), rz _ (by rw [bk_pl]; omega)]
   ·rcases c with c | c
    ·rw [e] at c; cases c.1
    ·rw [e] at c; cases c
   ·exact .inr ⟨e, off⟩
 ·rw [if_neg h0]
  exact ⟨x', pm', fun f => absurd (f0 f).1 h0, .inr (r6 h0)⟩
noncomputable def fhead (p : FPl) (s : PmS) : Int × PmS :=
 if (lnput s (0 : Nat) (headB p)).1 = 0 then (if took (lnput s (0 : Nat) (headB p)).2 0 (headB p) = true then (0, (lnput s (0 : Nat) (headB p)).2) else (10, (lnput s (0 : Nat) (headB p)).2)) else lnput s (0 : Nat) (headB p)
noncomputable def fmkL (p : FPl) : Nat → Nat → PmS → Int × PmS
 | 0, _, s => fhead p s
 | j + 1, k, s => if (rfmt (p.plan k) s).1 = 0 then fmkL p j (k + 1) (rfmt (p.plan k) s).2 else rfmt (p.plan k) s
noncomputable def fmake (p : FPl) (s : PmS) : Int × PmS :=
 if (lnput s (0 : Nat) zero64).1 = 0 then fmkL p p.R 0 (lnput s (0 : Nat) zero64).2 else lnput s (0 : Nat) zero64
def FS.zero (p : FPl) (s : PmS) : FS := ⟨s, fun _ => [], fun _ => Gp.first p.pl, fun _ => 0⟩
def Rgs (p : FPl) (k : Nat) (s : PmS) : Prop := ∀ i, i < k → RgI (p.plan i) ⟨s, [], Gp.first p.pl, 0⟩ ∧ ∀ j, j < p.pl → rr (p.plan i) ⟨s, [], Gp.first p.pl, 0⟩ j = zero64
def Torn0 (p : FPl) (s : PmS) : Prop := On s ∧ PmOk s ∧ ((∀ w, w < 8 → s.media w = 0) ∨ (Rgs p p.R s ∧ ∀ w, w < 8 → s.media w = 0 ∨ s.media w = ((wordAt (headB p) w : Nat) : Int)))
def MkOut (p : FPl) (s : PmS) (r : Int × PmS) : Prop :=
 r.2.nl = s.nl ∧ Nb r.2 ∧ (F0 s → r.1 = 0 ∧ F0 r.2) ∧ ((r.1 = 0 ∧ FI p (FS.zero p r.2) ∧ ∀ l, l < p.R * p.pl → fr p (FS.zero p r.2) l = zero64) ∨ (r.1 = 6 ∧ r.2.off = true ∧ ∀ ks, Torn0 p (pboot r.2 ks)))
theorem Rgs.far {p : FPl} {k lo hi : Nat} {s s' : PmS} (w : Rgs p k s) (f : Fx lo hi s s') (o : On s') (pm : PmOk s') (hd : ∀ i, i < k → (p.plan i).pa + sizeN (p.plan i).bk ≤ lo ∨ hi ≤ (p.plan i).pa) : Rgs p k s' := fun i hi => by
 obtain ⟨w1, z⟩ := w i hi
 obtain ⟨w2, r2⟩ := w1.far f o pm (hd i hi)
 exact ⟨w2, fun j hj => (r2 j hj).trans (z j hj)⟩
theorem PmOk.bt {s : PmS} (o : PmOk s) (ks : List Bool) : PmOk (pboot s ks) := o.boot ks
theorem fhead_out {p : FPl} {s : PmS} (ok : p.ok s.nl) (o : On s) (pm : PmOk s) (nb : Nb s) (z : ∀ w, w < 8 → s.media w = 0) (rg : Rgs p p.R s) : MkOut p s (fhead p s) := by
 have hnl : 0 < s.nl := by have := ok.fit; omega
 have hB := headB_size p
 have x := o.put_fx (b := headB p) hnl hB (lo := 0) (hi := 1) (by omega) (by omega)
 have f1 := fun f : F0 s => f.put (b := headB p) hnl hB
 have p1 : PmOk (lnput s (0 : Nat) (headB p)).2 := pm.put _ _
 have n1 := x.nl
 have rf : ∀ s', Fx 0 1 s s' → On s' → PmOk s' → Rgs p p.R s' := fun s' f o' pm' => rg.far f o' pm' fun i hi => by right; rw [plan_pa]; omega
 unfold fhead
 by_cases h0 : (lnput s (0 : Nat) (headB p)).1 = 0
 ·obtain ⟨o1, m1⟩ := o.put0 hnl hB h0
  rw [if_pos h0]
  have hd : rdN (lnput s (0 : Nat) (headB p)).2.media 0 = headB p := rdN_eq hB fun k hk => by
   rw [m1 _ (by omega), if_pos ⟨by omega, nb _⟩, show (8 * 0 + k) % 8 = k by omega]
  have tk : took (lnput s (0 : Nat) (headB p)).2 0 (headB p) = true := (media_took p1 (by omega) hB).1 hd
  rw [if_pos tk]
  have rg1 := rf _ x o1 p1
  refine ⟨n1, x.nb nb, fun f => ⟨rfl, (f1 f).2⟩, .inl ⟨rfl, ⟨by show p.ok _; rw [show (FS.zero p (lnput s (0 : Nat) (headB p)).2).s.nl = s.nl from n1]; exact ok, fun k hk => (rg1 k hk).1, hd⟩, fun l hl => ?_⟩⟩
  obtain ⟨a1, a2⟩ := FPl.at_line ok hl
  exact (rg1 _ a1).2 _ a2
 ·rw [if_neg h0]
  obtain ⟨e6, off, bt⟩ := o.put6 hnl hB h0
  refine ⟨n1, x.nb nb, fun f => absurd (f1 f).1 h0, .inr ⟨e6, off, fun ks => ⟨(bt ks).1, p1.bt ks, .inr ⟨rf _ (x.boot ks) (bt ks).1 (p1.bt ks), fun w hw => ?_⟩⟩⟩⟩
  rcases (bt ks).2 w (by omega) with h | h
  ·left; rw [h]; exact z w hw
  ·right
   rw [h.2.2, show w % 8 = w by omega]
theorem MkOut.of {p : FPl} {s s1 : PmS} {r : Int × PmS} (m : MkOut p s1 r) (n : s1.nl = s.nl) (f : F0 s → F0 s1) : MkOut p s r :=
 ⟨m.1.trans n, m.2.1, fun h => m.2.2.1 (f h), m.2.2.2⟩
theorem fmkL_out {p : FPl} : ∀ (j k : Nat) (s : PmS), k + j = p.R → p.ok s.nl → On s → PmOk s → Nb s → (∀ w, w < 8 → s.media w = 0) → Rgs p k s → MkOut p s (fmkL p j k s)
 | 0, k, s, hk, ok, o, pm, nb, z, rg => by
  have : k = p.R := by omega
  subst this
  exact fhead_out ok o pm nb z rg
 | j + 1, k, s, hk, ok, o, pm, nb, z, rg => by
  have hkR : k < p.R := by omega
  obtain ⟨x, pm', f0, r⟩ := rfmt_out (ok.plan hkR) o pm nb
  have n1 := x.nl
  have hz : ∀ s', Fx (p.plan k).pa ((p.plan k).pa + sizeN (p.plan k).bk) s s' → ∀ w, w < 8 → s'.media w = 0 := fun s' f w hw => by
   have hnl := ok.fit
   rw [f.med w (by have := ok.r1; omega) (by left; rw [plan_pa]; omega)]; exact z w hw
  unfold fmkL
  rcases r with ⟨r1, r2, r3⟩ | ⟨r1, r2⟩
  ·rw [if_pos r1]
   refine (fmkL_out j (k + 1) _ (by omega) (by rw [n1]; exact ok) r2.sp.on pm' (x.nb nb) (hz _ x) fun i hi => ?_).of n1 fun f => (f0 f).2
   by_cases e : i = k
   ·rw [e]; exact ⟨r2, r3⟩
   ·exact rg.far x r2.sp.on pm' (fun i hi => plan_apart (by omega)) i (by omega)
  ·rw [if_neg (by omega)]
   have tg : ∀ ks, On (pboot (rfmt (p.plan k) s).2 ks) := fun ks => ⟨rfl, Int.le_refl _, fun _ _ => rfl⟩
   refine ⟨n1, x.nb nb, fun f => ?_, .inr ⟨r1, r2, fun ks => ⟨tg ks, pm'.bt ks, .inl (hz _ (x.boot ks))⟩⟩⟩
   have := (f0 f).1
   rw [r1] at this; cases this
theorem fmake_out {p : FPl} {s : PmS} (ok : p.ok s.nl) (o : On s) (pm : PmOk s) (nb : Nb s) (z : F0 s ∨ ∀ w, w < 8 → s.media w = 0) : MkOut p s (fmake p s) := by
 have hnl : 0 < s.nl := by have := ok.fit; omega
 have x := o.put_fx (b := zero64) hnl zero64_size (lo := 0) (hi := 1) (by omega) (by omega)
 have f1 := fun f : F0 s => f.put (b := zero64) hnl zero64_size
 have p1 : PmOk (lnput s (0 : Nat) zero64).2 := pm.put _ _
 have n1 := x.nl
 unfold fmake
 by_cases h0 : (lnput s (0 : Nat) zero64).1 = 0
 ·obtain ⟨o1, m1⟩ := o.put0 hnl zero64_size h0
  rw [if_pos h0]
  refine (fmkL_out p.R 0 _ (by omega) (by rw [n1]; exact ok) o1 p1 (x.nb nb) (fun w hw => ?_) fun i hi => by omega).of n1 fun f => (f1 f).2
  rw [m1 w (by omega), if_pos ⟨by omega, nb _⟩, zero64_word]; rfl
 ·rw [if_neg h0]
  obtain ⟨e6, off, bt⟩ := o.put6 hnl zero64_size h0
  refine ⟨n1, x.nb nb, fun f => absurd (f1 f).1 h0, .inr ⟨e6, off, fun ks => ⟨(bt ks).1, p1.bt ks, .inl fun w hw => ?_⟩⟩⟩
  rcases z with z | z
  ·exact absurd (f1 z).1 h0
  ·rcases (bt ks).2 w (by omega) with h | h
   ·rw [h]; exact z w hw
   ·rw [h.2.2, zero64_word]; rfl
end Go.Gb
namespace Go.Gb
open Go.Proofs IntWalk
section
variable {F : Nat → Prop} {h h1 : Heap} {d : Nat} {Q : QT}
theorem K85.g {p : RPl} {s : PmS} (w : PmD F h d s) (lv : Live F h) (hb : RpB p s.nl) (o : On s) (pm : PmOk s) (nb : Nb s)
  (hq : ∀ h', PmD F h' d (rfmt p s).2 → Step F h F h' → Q (.int .i64 (rfmt p s).1) h') : CT 85 #[.pointer (some ⟨d, 0, none⟩), ringV p] h Q := by
 have l1 := hb.l1
 have l2 := hb.l2
 have ok := Gp.first_ok l1 l2
 have sp0 := sformat_sp hb.ok o pm nb
 apply K85.ok
 refine K117.c w hb ⟨_, rfl, xsIf_f rfl (K51.c hb ⟨_, _, _, rfl, K118.c (p := p.bk) w lv hb.ok fun h1 w1 st1 => ⟨_, rfl, ?_⟩⟩)⟩
 unfold rfmt at hq
 generalize sformat p.bk s = a at w1 sp0 hq ⊢
 by_cases h0 : a.1 = 0
 ·rw [if_pos h0] at hq
  have sp := (sp0 h0).1
  have lv1 := st1.dom lv
  refine xsIf_f (decide_eq_false (fun h => h h0)) (K51.c hb ⟨_, _, _, rfl, K119.c (p := p.bk) w1 lv1 sp fun b G h2 wb wd fg lf lg pt => ⟨_, _, rfl, xsIf_f rfl (K78.c hb ⟨_, rfl, K121.c ⟨_, _, _, rfl, K122.c (by omega) (by omega) ⟨_, rfl, ?_⟩⟩⟩)⟩⟩)
  have db : DB F G h2 d b p.bk a.2 [] := ⟨wd, wb, lf, lg, fun k hg hf => lv1 k hf (fg k hg)⟩
  rw [if_pos ⟨by omega, by omega⟩]
  have epk : pk 0 (p.pl : Int) 0 = (((Gp.first p.pl).pk : Nat) : Int) := (Gp.pk_int _ ok.l ok.h).symm
  rw [epk]
  refine K120.c db sp.w (Gp.pk_lt ok) fun h3 w3 st3 => ⟨_, rfl, ?_⟩
  have e2 : sWriteWord p.bk [] a.2 ((p.pl + 1 : Nat) : Int) 0 (Gp.first p.pl).pk = swritew p.bk [] a.2 (p.pl + 1) 0 (Gp.first p.pl).pk := sWriteWord_eq (k := 0) (by rw [bk_pl]; omega) (by omega)
  have w3 : DB F G h3 d b p.bk (sWriteWord p.bk [] a.2 ((p.pl + 1 : Nat) : Int) 0 (Gp.first p.pl).pk).2.1 (sWriteWord p.bk [] a.2 ((p.pl + 1 : Nat) : Int) 0 (Gp.first p.pl).pk).2.2 := w3
  rw [e2] at w3 ⊢
  exact hq h3 w3.dv (st1.trans (Step.drop pt st3 fg))
 ·rw [if_neg h0] at hq
  exact xsIf_t (decide_eq_true h0) (hq h1 w1 st1)
theorem K86.c {s : PmS} {p : FPl} (w : PmD F h d s) (lv : Live F h) (pm : PmOk s) (hn : 0 < s.nl) (hq : ∀ h', PmD F h' d (fhead p s).2 → Step F h F h' → Q (.int .i64 (fhead p s).1) h') : CT 86 #[.pointer (some ⟨d, 0, none⟩), .string (headB p)] h Q := by
 apply K86.ok
 refine K84.c (a := ((0 : Nat) : Int)) w lv fun h1 w1 st1 => ⟨_, rfl, ?_⟩
 unfold fhead at hq
 generalize lnput s ((0 : Nat) : Int) (headB p) = q at w1 hq ⊢
 by_cases h0 : q.1 = 0
 ·rw [if_pos h0] at hq
  refine xsIf_f (decide_eq_false (fun h => h h0)) (K123.c (a := ((0 : Nat) : Int)) w1 (fun t => ⟨_, rfl, xsIf_f rfl ?_⟩) fun t => ⟨_, rfl, xsIf_t rfl ?_⟩)
  ·rw [if_pos (took_yes t)] at hq; exact hq h1 w1 st1
  ·rw [if_neg (fun e => t (Classical.byContradiction fun n => took_no n e))] at hq; exact hq h1 w1 st1
 ·rw [if_neg h0] at hq
  exact xsIf_t (decide_eq_true h0) (hq h1 w1 st1)
theorem K54.L10.c {p : FPl} : ∀ (j k : Nat) (h : Heap) (s : PmS), k + j = p.R → p.ok s.nl → PmD F h d s → Live F h → On s → PmOk s → Nb s → (∀ h', PmD F h' d (fmkL p j k s).2 → Step F h F h' → Q (.int .i64 (fmkL p j k s).1) h') →
  K54.L10 (some ⟨d, 0, none⟩) (p.R : Int) (k : Int) p.R p.pl p.ps p.psi p.key h Q := by
 intro j
 induction j with
 | zero =>
  intro k h s hk ok w lv o pm nb hq
  apply K54.L10.ok
  refine xsIf_f (decide_eq_false (by omega)) (K87.c ok.rt.fit fun h1 p1 => ⟨_, rfl, ?_⟩)
  have w1 : PmD F h1 d s := w.keep fun _ _ hk => part_live p1 hk
  have st1 : Step F h F h1 := Step.of_part p1
  exact K86.c w1 (st1.dom lv) pm (by have := ok.fit; omega) fun h2 w2 st2 => ⟨_, rfl, hq h2 w2 (st1.trans st2)⟩
 | succ j ih =>
  intro k h s hk ok w lv o pm nb hq
  have hkR : k < p.R := by omega
  have r2 := ok.r2
  have rp := ok.plan hkR
  apply K54.L10.ok
  refine xsIf_t (decide_eq_true (by omega)) (K50.c (r := k) ok.rt (by omega) ⟨_, _, _, _, rfl, K85.g (p := p.plan k) w lv rp o pm nb fun h1 w1 st1 => ⟨_, rfl, ?_⟩⟩)
  obtain ⟨x, pm', _, r⟩ := rfmt_out rp o pm nb
  have n1 := x.nl
  have nb1 := x.nb nb
  unfold fmkL at hq
  generalize rfmt (p.plan k) s = a at w1 hq pm' r n1 nb1 ⊢
  rw [show IntKind.i64.wrap ((k : Int) + 1) = ((k + 1 : Nat) : Int) by rw [i64_in _ (by omega)]; omega]
  by_cases e : a.1 = 0
  ·rw [if_pos e] at hq
   have on1 : On a.2 := by
    rcases r with r | r
    ·exact r.2.1.sp.on
    ·rw [e] at r; cases r.1
   exact xsIf_f (decide_eq_false (fun h => h e)) (ih (k + 1) h1 a.2 (by omega) (by rw [n1]; exact ok) w1 (st1.dom lv) on1 pm' nb1 fun h2 w2 st2 => hq h2 w2 (st1.trans st2))
  ·rw [if_neg e] at hq
   exact xsIf_t (decide_eq_true e) (hq h1 w1 st1)
theorem K54.c {s : PmS} {p : FPl} (w : PmD F h d s) (lv : Live F h) (ok : p.ok s.nl) (o : On s) (pm : PmOk s) (nb : Nb s) (hq : ∀ h', PmD F h' d (fmake p s).2 → Step F h F h' → Q (.int .i64 (fmake p s).1) h') :
  CT 54 #[.pointer (some ⟨d, 0, none⟩), fcfgV p] h Q := by
 have hnl : 0 < s.nl := by have := ok.fit; omega
 apply K54.ok
 refine xsIf_f rfl (K76.c w ⟨_, rfl, K83.c ok ⟨_, rfl, xsIf_f rfl (strings_Repeat.c (c := 64) (by omega) (by show 1 ≤ 1000000; omega) ⟨_, rfl, K84.c (a := ((0 : Nat) : Int)) (b := zero64) w lv fun h1 w1 st1 => ⟨_, rfl, ?_⟩⟩)⟩⟩)
 have x := o.put_fx (b := zero64) hnl zero64_size (lo := 0) (hi := 1) (by omega) (by omega)
 have o1 := fun h0 => (o.put0 (b := zero64) hnl zero64_size h0).1
 have p1 : PmOk (lnput s (0 : Nat) zero64).2 := pm.put _ _
 have n1 := x.nl
 have nb1 := x.nb nb
 unfold fmake at hq
 generalize lnput s ((0 : Nat) : Int) zero64 = q at w1 hq o1 p1 n1 nb1 ⊢
 by_cases h0 : q.1 = 0
 ·rw [if_pos h0] at hq
  exact xsIf_f (decide_eq_false (fun h => h h0)) (K54.L10.c p.R 0 h1 q.2 (by omega) (by rw [n1]; exact ok) w1 (st1.dom lv) (o1 h0) p1 nb1 fun h2 w2 st2 => hq h2 w2 (st1.trans st2))
 ·rw [if_neg h0] at hq
  exact xsIf_t (decide_eq_true h0) (hq h1 w1 st1)
theorem FI.new {p : FPl} {x : FS} (iv : FI p x) : FI p ⟨x.s, x.l, x.g, fun _ => 0⟩ ∧ ∀ l, fr p ⟨x.s, x.l, x.g, fun _ => 0⟩ l = fr p x l :=
 ⟨⟨iv.ok, fun k hk => by
  have q := iv.rg k hk
  exact ⟨q.sp, q.g, q.reg, q.l1, q.l2, q.q1, q.q2, Nat.zero_le _⟩, iv.hd⟩, fun _ => rfl⟩
theorem K55.c {p : FPl} {x : FS} (w : PmD F h d x.s) (lv : Live F h) (iv : FI p x)
  (hq : ∀ f Gs bs rs hc h', FD F Gs bs rs hc h' d f p ⟨x.s, x.l, x.g, fun _ => 0⟩ → (∀ j, j < p.R → ∀ i, (Gs j i ∨ i = rs j) → h i = none) → (∀ j, hc j ≠ none → h j = none) → Part h h' → Q (.tuple #[.pointer (some ⟨f, 0, none⟩), .int .i64 0]) h') :
  CT 55 #[.pointer (some ⟨d, 0, none⟩)] h Q := by
 have ok := iv.ok
 apply K55.ok
 refine K88.c (a := ((0 : Nat) : Int)) w iv.pm ⟨_, _, rfl, ?_⟩
 have eg : lnget x.s ((0 : Nat) : Int) = (headB p, 0) := by
  rw [lnget_on iv.on (by have := ok.fit; omega)]
  exact congrArg (fun b => (b, (0 : Int))) iv.hd
 rw [eg]
 refine xsIf_f rfl (K89.c (headB_size p) fun h1 p1 => ?_)
 rw [rdCfg_head ok.rt.fit]
 refine ⟨_, _, _, _, _, _, rfl, xsIf_f (by rw [decide_eq_true rfl]; rfl) ?_⟩
 have w1 : PmD F h1 d x.s := w.keep fun _ _ hk => part_live p1 hk
 refine K76.c w1 ⟨_, rfl, K83.c ok ⟨_, rfl, xsIf_f rfl ?_⟩⟩
 apply K55.J7.ok
 intro f hf
 have p2 : Part h1 (upd h1 f (Obj.cells #[.int .i64 p.R, .int .i64 p.pl, .int .i64 p.ps, .int .i64 p.psi, .int .u64 p.key, .slice none 0 0, .slice none 0 0] 141 (0, 0))) := Part.upd hf _
 have k2 := Blk.new h1 f #[.int .i64 p.R, .int .i64 p.pl, .int .i64 p.ps, .int .i64 p.psi, .int .u64 p.key, .slice none 0 0, .slice none 0 0] 141
 generalize upd h1 f (Obj.cells #[.int .i64 p.R, .int .i64 p.pl, .int .i64 p.ps, .int .i64 p.psi, .int .u64 p.key, .slice none 0 0, .slice none 0 0] 141 (0, 0)) = h2 at p2 k2
 have pt : Part h h2 := p1.trans p2
 exact K55.L9.c (hs := h) iv (fun Gs bs rs hc h' w' fr fc pt' => hq f Gs bs rs hc h' w' fr fc pt') p.R 0 h2 (fun _ _ => False) (fun _ => 0) (fun _ => 0) none 0 none 0 (by omega)
  ⟨w1.keep fun _ _ hk => part_live p2 hk, (Step.of_part pt).dom lv, lv, Own.nil pt, Own.nil pt, k2, Part.none p1 hf, fun _ e => (by cases e), fun _ e => (by cases e), fun _ e => (by cases e), fun j hj => by omega, fun j hj => by omega, fun j j' hj => by omega⟩
end
end Go.Gb
namespace Go.Gb
open Go.Proofs IntWalk
end Go.Gb
namespace Go.Gb
open Go.Proofs IntWalk
end Go.Gb
namespace Go.Gb
open Go.Proofs IntWalk
end Go.Gb
namespace Go.Gb
open Go.Proofs IntWalk
def StR (p : RPl) (x : RS) : Prop := RgI p x ∨ (x.s.off = true ∧ PmOk x.s ∧ ∀ ks, ∃ l' g', RgI p ⟨pboot x.s ks, l', g', 0⟩)
theorem StR.ok {p : RPl} {x : RS} (t : StR p x) : PmOk x.s := by
 rcases t with t | t
 ·exact t.sp.w
 ·exact t.2.1
theorem ROut.st {p : RPl} {i : Nat} {B : ByteArray} {rd0 : Nat → ByteArray} {M : ByteArray → Prop} {r : Int × RS} (o : ROut p i B rd0 M r) : StR p r.2 := by
 rcases o with o | o | ⟨_, e, w, m⟩
 ·exact .inl o.2.1
 ·exact .inl o.2.1
 ·exact .inr ⟨e, w, fun ks => by obtain ⟨l', g', w', _⟩ := m ks; exact ⟨l', g', w'⟩⟩
end Go.Gb
namespace Go.Gb
open Go.Proofs IntWalk
theorem pboot_on {s : PmS} (o : On s) (ks : List Bool) : pboot s ks = { s with buf := fun _ => none, off := false, fuse := 0 } := by
 unfold pboot
 rw [show pend s = [] from pend_none o.buf]
 show { Gb.plast s [] with buf := fun _ => none, off := false, fuse := 0 } = _
 rw [plast_nil]
end Go.Gb
namespace Go.Gb
open Go.Proofs IntWalk
theorem swrite_nb {p : Pl} {s : PmS} {l : List Nat} (w : SpI p s l) (hb : Nb s) {i : Nat} {B : ByteArray} (hi : i < p.pl) (hB : B.size = 64) :
  ((swrite p l s i B).1 = 0 ∧ (swrite p l s i B).2.2 = l) ∨ (swrite p l s i B).1 = 6 := by
 obtain ⟨f1, f2⟩ := whN_lt w.ok w.len hi
 unfold swrite
 by_cases h1 : (lnput s (whN p l i : Nat) B).1 = 0
 ·have w1 := w.put f2 f1 hB h1
  rw [if_pos h1]
  left
  have ht : took (lnput s (whN p l i : Nat) B).2 (whN p l i) B = true := by
   refine (media_took w1.w (by rw [lnput_nl]; exact f1) hB).1 ?_
   obtain ⟨_, m⟩ := w.on.put0 f1 hB h1
   refine rdN_eq hB fun k hk => ?_
   rw [m _ (by omega), if_pos ⟨by omega, hb _⟩, show (8 * whN p l i + k) % 8 = k by omega]
  rw [if_pos ht]
  exact ⟨rfl, rfl⟩
 ·rw [if_neg h1]
  exact .inr (w.on.put6 f1 hB h1).1
def FNb (p : RPl) (f : PmS → List Nat → Nat → Int × PmS × List Nat) : Prop :=
 ∀ (s : PmS) (l : List Nat) (k : Nat), k < p.bk.pl → SpI p.bk s l → Nb s → (f s l k).1 = 0 ∨ (f s l k).1 = 6
theorem FNb.write (p : RPl) {B : ByteArray} (hB : B.size = 64) : FNb p (fun s l k => swrite p.bk l s k B) := fun _ _ _ hk sp nb => by
 rcases swrite_nb sp nb hk hB with h | h
 ·exact .inl h.1
 ·exact .inr h
theorem FNb.word (p : RPl) {j v : Nat} (hj : j < 8) (hv : v < 18446744073709551616) : FNb p (fun s l k => swritew p.bk l s k j v) := fun _ _ _ hk sp nb => by
 rcases swritew_nb sp nb hk hj hv with h | h
 ·exact .inl h.1
 ·exact .inr h
theorem rmove_nb {p : RPl} {x : RS} (w : RgI p x) (nb : Nb x.s) : (rmove p x).1 = 0 ∨ (rmove p x).1 = 6 := by
 obtain ⟨ok, d1, d2, d3, d4, d5, _, mv⟩ := Gp.move w.g
 have hB := rdN_size x.s.media (whN p.bk x.l (x.g.src p.pl))
 have hd : x.g.dst p.pl < p.bk.pl := by rw [bk_pl]; omega
 have o := swrite_out w.sp (i := x.g.dst p.pl) (B := rd p.bk x.s x.l (x.g.src p.pl)) hd hB
 have z := swrite_nb w.sp nb (i := x.g.dst p.pl) (B := rd p.bk x.s x.l (x.g.src p.pl)) hd hB
 have fx : Fx p.pa (p.pa + sizeN p.bk) x.s (swrite p.bk x.l x.s (x.g.dst p.pl) (rd p.bk x.s x.l (x.g.src p.pl))).2.1 := swrite_fx w.sp hd hB
 unfold rmove
 generalize swrite p.bk x.l x.s (x.g.dst p.pl) (rd p.bk x.s x.l (x.g.src p.pl)) = a at o z fx
 unfold rmove1
 by_cases e : a.1 = 0
 ·rw [if_pos e]
  have sp : SpI p.bk a.2.1 a.2.2 := by
   rcases o with o | o | o
   ·exact o.2.1
   ·exact o.2.1
   ·rw [e] at o; cases o.1
  have z2 := swritew_nb sp (fx.nb nb) (i := p.pl + 1) (k := 0) (v := (x.g.next p.pl).pk) (by rw [bk_pl]; omega) (by omega) (Gp.pk_lt ok)
  generalize swritew p.bk a.2.2 a.2.1 (p.pl + 1) 0 (x.g.next p.pl).pk = b at z2
  unfold rmove2
  by_cases e2 : b.1 = 0
  ·rw [if_pos e2]; exact .inl rfl
  ·rw [if_neg e2]
   rcases z2 with h | h
   ·exact absurd h.1 e2
   ·exact .inr h
 ·rw [if_neg e]
  rcases z with h | h
  ·exact absurd h.1 e
  ·exact .inr h
theorem rwrite_nb {p : RPl} {x : RS} {f : PmS → List Nat → Nat → Int × PmS × List Nat} (w : RgI p x) (nb : Nb x.s) {i : Nat} (hi : i < p.pl) (hf : FNb p f) : (rwrite p f x i).1 = 0 ∨ (rwrite p f x i).1 = 6 := by
 have put : ∀ x : RS, RgI p x → Nb x.s → (rput p f x i).1 = 0 ∨ (rput p f x i).1 = 6 := fun x w nb => by
  have hs := (Gp.slot_at w.g hi).2.1
  exact hf x.s x.l (x.g.slot p.pl i) (by rw [bk_pl]; omega) w.sp nb
 unfold rwrite
 by_cases h : p.psi ≤ x.n
 ·rw [if_pos h]
  have z := rmove_nb w nb
  by_cases e : (rmove p x).1 = 0
  ·rw [if_pos e]
   have w1 : RgI p (rmove p x).2 := by
    rcases rmove_out w with o | o | o
    ·exact o.2.1
    ·exact o.2.1
    ·rw [e] at o; cases o.1
   exact put _ w1 ((rmove_fx w).nb nb)
  ·rw [if_neg e]; exact z
 ·rw [if_neg h]; exact put x w nb
theorem fWrite_nb {p : FPl} {x : FS} (w : FI p x) (nb : Nb x.s) {l : Nat} (hl : l < p.R * p.pl) {B : ByteArray} (hB : B.size = 64) : (fWrite p x (l : Int) B).1 = 0 ∨ (fWrite p x (l : Int) B).1 = 6 := by
 obtain ⟨hr, hp⟩ := FPl.at_line w.ok hl
 rw [fWrite_eq hl hB]
 exact rwrite_nb (w.rg _ hr) (show Nb (x.at (p.reg l)).s from nb) hp (FNb.write _ hB)
theorem fWriteWord_nb {p : FPl} {x : FS} (w : FI p x) (nb : Nb x.s) {l k v : Nat} (hl : l < p.R * p.pl) (hk : k < 8) (hv : v < 18446744073709551616) : (fWriteWord p x (l : Int) (k : Int) v).1 = 0 ∨ (fWriteWord p x (l : Int) (k : Int) v).1 = 6 := by
 obtain ⟨hr, hp⟩ := FPl.at_line w.ok hl
 rw [fWriteWord_eq hl hk]
 exact rwrite_nb (w.rg _ hr) (show Nb (x.at (p.reg l)).s from nb) hp (FNb.word _ hk hv)
end Go.Gb
namespace Go.Gb
open Go.Proofs IntWalk
end Go.Gb
namespace Go.Gb
open Go.Proofs IntWalk
end Go.Gb
namespace Go.Gb
open Go.Proofs IntWalk
theorem imax0 (x : Int) : ∃ q : Nat, imax 0 x = q := ⟨(imax 0 x).toNat, by rw [imax_eq]; omega⟩
theorem FPl.rt.ok {p : FPl} (o : p.rt) (h : 1 + p.R * p.z ≤ 8192) : p.ok (1 + p.R * p.z) := ⟨o.r1, o.r2, o.l1, o.l2, o.s2, o.q1, o.q2, o.k, Nat.le_refl _, h⟩
theorem On.new (n : Nat) : On (pnew n) := (Cl.new n).on
theorem F0.new (n : Nat) : F0 (pnew n) := ⟨rfl, rfl⟩
theorem fmake_new {p : FPl} {n : Nat} (ok : p.ok n) : ∃ s, fmake p (pnew n) = (0, s) ∧ FI p (FS.zero p s) ∧ Sd s ∧ s.nl = n ∧ ∀ l, l < p.R * p.pl → fr p (FS.zero p s) l = zero64 := by
 obtain ⟨n1, nb, f, r⟩ := fmake_out (s := pnew n) ok (On.new n) (PmOk.new n) (fun _ => rfl) (.inl (F0.new n))
 obtain ⟨e, f1⟩ := f (F0.new n)
 generalize fmake p (pnew n) = q at n1 nb r e f1
 obtain ⟨a, s⟩ := q
 have e : a = 0 := e
 subst e
 rcases r with ⟨_, w, z⟩ | r
 ·exact ⟨s, rfl, w, ⟨f1, nb⟩, n1, z⟩
 ·have := r.1; cases this
end Go.Gb
namespace Go.Gb
open Go.Proofs IntWalk
end Go.Gb
namespace Go.Gb
open Go.Proofs IntWalk
end Go.Gb
namespace Go.Gb
open Go.Proofs IntWalk
theorem sretire_full {p : Pl} {i : Nat} {b : ByteArray} (hi : i < p.pl) (hb : b.size = 64) : ∀ (m : Nat) (s : PmS) (l : List Nat), l.length + m = p.ps → SpI p s l → F0 s →
  (sretire p i b m s l).1 = 10 → (sretire p i b m s l).2.2.length = p.ps
 | 0, s, l, hm, _, _ => fun _ => by show l.length = p.ps; omega
 | m + 1, s, l, hm, w, f => by
  obtain ⟨f1, f2⟩ := spar_fit w.ok (show l.length < p.ps by omega)
  have h1 := f.put f1 hb
  have w1 := w.put f2 f1 hb h1.1
  unfold sretire
  rw [if_pos h1.1]
  have h2 := h1.2
  generalize (lnput s (sparN p l.length : Nat) b).2 = s1 at w1 h2
  obtain ⟨g1, g2, g3, g4⟩ := say_at w1.ok (show l.length < p.ps by omega)
  by_cases ht : took s1 (sparN p l.length) b = true
  ·rw [if_pos ht]
   have h3 := h2.putw (v := ((guardN (i + 1) : Nat) : Int)) g1 (Nat.mod_lt l.length (show 0 < 8 by omega))
   intro e
   have e : (lnputw s1 (p.pa + l.length / 8 : Nat) (l.length % 8 : Nat) (guardN (i + 1) : Nat)).1 = 10 := e
   rw [h3.1] at e; cases e
  ·rw [if_neg ht]
   have h3 := h2.putw (v := ((guardN 65535 : Nat) : Int)) g1 (Nat.mod_lt l.length (show 0 < 8 by omega))
   rw [if_pos h3.1]
   exact sretire_full hi hb m _ _ (by simp; omega) (w1.say (.inl rfl) (by omega) h3.1) h3.2
def FF0 (p : RPl) (f : PmS → List Nat → Nat → Int × PmS × List Nat) : Prop :=
 ∀ (s : PmS) (l : List Nat) (k : Nat), k < p.bk.pl → SpI p.bk s l → F0 s → F0 (f s l k).2.1 ∧ ((f s l k).1 = 0 ∨ ((f s l k).1 = 10 ∧ (f s l k).2.2.length = p.ps))
theorem swrite_ff0 {p : Pl} {s : PmS} {l : List Nat} (w : SpI p s l) (f : F0 s) {i : Nat} {b : ByteArray} (hi : i < p.pl) (hb : b.size = 64) : F0 (swrite p l s i b).2.1 ∧ ((swrite p l s i b).1 = 0 ∨ ((swrite p l s i b).1 = 10 ∧ (swrite p l s i b).2.2.length = p.ps)) := by
 obtain ⟨f1, f2⟩ := whN_lt w.ok w.len hi
 have hlen := w.len
 have h1 := f.put f1 hb
 have w1 := w.put f2 f1 hb h1.1
 have z := swrite_f0 w f hi hb
 refine ⟨z.2, ?_⟩
 rcases z.1 with e | e
 ·exact .inl e
 ·refine .inr ⟨e, ?_⟩
  unfold swrite at e ⊢
  rw [if_pos h1.1] at e ⊢
  by_cases ht : took (lnput s (whN p l i : Nat) b).2 (whN p l i) b = true
  ·rw [if_pos ht] at e; cases e
  ·rw [if_neg ht] at e ⊢
   exact sretire_full hi hb (p.ps - l.length) _ l (by omega) w1 h1.2 e
theorem swritew_ff0 {p : Pl} {s : PmS} {l : List Nat} (w : SpI p s l) (f : F0 s) {i k v : Nat} (hi : i < p.pl) (hk : k < 8) (hv : v < 18446744073709551616) : F0 (swritew p l s i k v).2.1 ∧ ((swritew p l s i k v).1 = 0 ∨ ((swritew p l s i k v).1 = 10 ∧ (swritew p l s i k v).2.2.length = p.ps)) := by
 obtain ⟨f1, f2⟩ := whN_lt w.ok w.len hi
 have hlen := w.len
 have h1 := f.putw (v := ((v : Nat) : Int)) f1 hk
 have hr : R64 ((v : Nat) : Int) := ⟨by omega, by omega⟩
 have w1 := w.putw f2 f1 hk hr h1.1
 unfold swritew
 rw [lnget_on w.on f1, if_pos rfl, if_pos h1.1]
 have hb := withW_size (lnbytes fun k => (s.media (8 * whN p l i + k)).toNat) k v
 dsimp only
 generalize withW (lnbytes fun k => (s.media (8 * whN p l i + k)).toNat) k v = b at hb ⊢
 by_cases ht : took (lnputw s (whN p l i : Nat) (k : Nat) (v : Nat)).2 (whN p l i) b = true
 ·rw [if_pos ht]; exact ⟨h1.2, .inl rfl⟩
 ·rw [if_neg ht]
  have z := sretire_f0 hi hb (p.ps - l.length) _ l (by omega) w1 h1.2
  refine ⟨z.2, ?_⟩
  rcases z.1 with e | e
  ·exact .inl e
  ·exact .inr ⟨e, sretire_full hi hb (p.ps - l.length) _ l (by omega) w1 h1.2 e⟩
theorem FF0.write (p : RPl) {B : ByteArray} (hB : B.size = 64) : FF0 p (fun s l k => swrite p.bk l s k B) := fun _ _ _ hk sp f => swrite_ff0 sp f hk hB
theorem rmove_f0 {p : RPl} {x : RS} (w : RgI p x) (f : F0 x.s) : F0 (rmove p x).2.s ∧ ((rmove p x).1 = 0 ∨ ((rmove p x).1 = 10 ∧ (rmove p x).2.l.length = p.ps)) := by
 obtain ⟨ok, d1, d2, d3, d4, d5, _, mv⟩ := Gp.move w.g
 have hB := rdN_size x.s.media (whN p.bk x.l (x.g.src p.pl))
 have hd : x.g.dst p.pl < p.bk.pl := by rw [bk_pl]; omega
 have o := swrite_out w.sp (i := x.g.dst p.pl) (B := rd p.bk x.s x.l (x.g.src p.pl)) hd hB
 have z := swrite_ff0 w.sp f (i := x.g.dst p.pl) (b := rd p.bk x.s x.l (x.g.src p.pl)) hd hB
 unfold rmove
 generalize swrite p.bk x.l x.s (x.g.dst p.pl) (rd p.bk x.s x.l (x.g.src p.pl)) = a at o z
 unfold rmove1
 by_cases e : a.1 = 0
 ·rw [if_pos e]
  have sp : SpI p.bk a.2.1 a.2.2 := by
   rcases o with o | o | o
   ·exact o.2.1
   ·exact o.2.1
   ·rw [e] at o; cases o.1
  have z2 := swritew_ff0 sp z.1 (i := p.pl + 1) (k := 0) (v := (x.g.next p.pl).pk) (by rw [bk_pl]; omega) (by omega) (Gp.pk_lt ok)
  generalize swritew p.bk a.2.2 a.2.1 (p.pl + 1) 0 (x.g.next p.pl).pk = b at z2
  unfold rmove2
  by_cases e2 : b.1 = 0
  ·rw [if_pos e2]; exact ⟨z2.1, .inl rfl⟩
  ·rw [if_neg e2]
   refine ⟨z2.1, .inr ?_⟩
   rcases z2.2 with h | h
   ·exact absurd h e2
   ·exact h
 ·rw [if_neg e]
  refine ⟨z.1, .inr ?_⟩
  rcases z.2 with h | h
  ·exact absurd h e
  ·exact h
theorem rwrite_f0 {p : RPl} {x : RS} {f : PmS → List Nat → Nat → Int × PmS × List Nat} (w : RgI p x) (f0 : F0 x.s) {i : Nat} (hi : i < p.pl) (hf : FF0 p f) : F0 (rwrite p f x i).2.s ∧ ((rwrite p f x i).1 = 0 ∨ ((rwrite p f x i).1 = 10 ∧ (rwrite p f x i).2.l.length = p.ps)) := by
 have put : ∀ x : RS, RgI p x → F0 x.s → F0 (rput p f x i).2.s ∧ ((rput p f x i).1 = 0 ∨ ((rput p f x i).1 = 10 ∧ (rput p f x i).2.l.length = p.ps)) := fun x w f0 => by
  have hs := (Gp.slot_at w.g hi).2.1
  exact hf x.s x.l (x.g.slot p.pl i) (by rw [bk_pl]; omega) w.sp f0
 unfold rwrite
 by_cases h : p.psi ≤ x.n
 ·rw [if_pos h]
  have z := rmove_f0 w f0
  by_cases e : (rmove p x).1 = 0
  ·rw [if_pos e]
   have w1 : RgI p (rmove p x).2 := by
    rcases rmove_out w with o | o | o
    ·exact o.2.1
    ·exact o.2.1
    ·rw [e] at o; cases o.1
   exact put _ w1 z.1
  ·rw [if_neg e]; exact z
 ·rw [if_neg h]; exact put x w f0
theorem fWrite_f0 {p : FPl} {x : FS} (w : FI p x) (f0 : F0 x.s) {l : Nat} (hl : l < p.R * p.pl) {B : ByteArray} (hB : B.size = 64) :
  F0 (fWrite p x (l : Int) B).2.s ∧ FI p (fWrite p x (l : Int) B).2 ∧ (fWrite p x (l : Int) B).2.s.nl = x.s.nl ∧ (((fWrite p x (l : Int) B).1 = 0 ∧ ∀ j, j < p.R * p.pl → fr p (fWrite p x (l : Int) B).2 j = if j = l then B else fr p x j) ∨
   ((fWrite p x (l : Int) B).1 = 10 ∧ ((fWrite p x (l : Int) B).2.l (p.reg l)).length = p.ps ∧ ∀ j, j < p.R * p.pl → fr p (fWrite p x (l : Int) B).2 j = fr p x j)) := by
 have o := fWrite_out w hl hB
 obtain ⟨hr, hp⟩ := FPl.at_line w.ok hl
 rw [fWrite_eq hl hB] at o ⊢
 obtain ⟨z1, z2⟩ := rwrite_f0 (w.rg _ hr) (show F0 (x.at (p.reg l)).s from f0) hp (FF0.write _ hB)
 have fx : Fx (p.plan (p.reg l)).pa ((p.plan (p.reg l)).pa + sizeN (p.plan (p.reg l)).bk) x.s _ := rwrite_fx (w.rg _ hr) (i := p.pos l) hp (FFx.write _ hB)
 have e1 : F0 (fput p (fW B) x l).2.s := z1
 have e2 : (fput p (fW B) x l).1 = 0 ∨ ((fput p (fW B) x l).1 = 10 ∧ ((fput p (fW B) x l).2.l (p.reg l)).length = p.ps) := by
  rcases z2 with z | z
  ·exact .inl z
  ·refine .inr ⟨z.1, ?_⟩
   have : ((fput p (fW B) x l).2.at (p.reg l)).l.length = p.ps := by
    unfold fput
    rw [FS.set_at]; exact z.2
   exact this
 have e3 : (fput p (fW B) x l).2.s.nl = x.s.nl := fx.nl
 generalize fput p (fW B) x l = q at o e1 e2 e3
 rcases o with ⟨a, b, c⟩ | ⟨a, b, c⟩ | ⟨a, _⟩
 ·exact ⟨e1, b, e3, .inl ⟨a, c⟩⟩
 ·rcases e2 with e | e
  ·rw [a] at e; cases e
  ·exact ⟨e1, b, e3, .inr ⟨a, e.2, c⟩⟩
 ·rcases e2 with e | e
  ·rw [a] at e; cases e
  ·rw [a] at e; cases e.1
noncomputable def whF (p : FPl) (x : FS) (l : Nat) : Nat := whN (p.plan (p.reg l)).bk (x.l (p.reg l)) ((x.g (p.reg l)).slot p.pl (p.pos l))
theorem whF_at {p : FPl} {x : FS} (w : FI p x) {l : Nat} (hl : l < p.R * p.pl) : whF p x l < x.s.nl ∧ (p.plan (p.reg l)).pa + tblN (p.plan (p.reg l)).bk ≤ whF p x l ∧ whF p x l < (p.plan (p.reg l)).pa + p.z := by
 obtain ⟨hr, hp⟩ := FPl.at_line w.ok hl
 have g := w.rg _ hr
 have hs := (Gp.slot_at g.g (i := p.pos l) hp).2.1
 have hb : (x.g (p.reg l)).slot p.pl (p.pos l) < (p.plan (p.reg l)).bk.pl := by
  show _ < p.pl + 2
  have hs : (x.g (p.reg l)).slot p.pl (p.pos l) ≤ p.pl := hs
  omega
 have h1 := whN_lt g.sp.ok g.sp.len hb
 have h2 := whN_hi (p := (p.plan (p.reg l)).bk) (l := x.l (p.reg l)) g.sp.len hb
 exact ⟨h1.1, h1.2, h2⟩
end Go.Gb
namespace Go.Gb
open Go.Proofs IntWalk
end Go.Gb
namespace Go.Gb
open Go.Proofs IntWalk
end Go.Gb
namespace Go.Gb
open Go.Proofs IntWalk
end Go.Gb
namespace Go.Gb
open Go.Proofs IntWalk
end Go.Gb
namespace Go.Gb
open Go.Proofs IntWalk
theorem FI.boot {p : FPl} {x : FS} (w : FI p x) (ks : List Bool) : FI p ⟨pboot x.s ks, x.l, x.g, fun _ => 0⟩ ∧ ∀ l, l < p.R * p.pl → fr p ⟨pboot x.s ks, x.l, x.g, fun _ => 0⟩ l = fr p x l := by
 have e : pboot x.s ks = { x.s with buf := fun _ => none, off := false, fuse := 0 } := pboot_on w.on ks
 refine ⟨⟨?_, fun k hk => ((w.rg k hk).boot ks).1, ?_⟩, fun l hl => ?_⟩
 ·show p.ok (pboot x.s ks).nl
  rw [e]; exact w.ok
 ·show rdN (pboot x.s ks).media 0 = headB p
  rw [e]; exact w.hd
 ·obtain ⟨hr, hp⟩ := FPl.at_line w.ok hl
  exact ((w.rg _ hr).boot ks).2 _ hp
end Go.Gb
namespace Go.Gb
open Go.Proofs IntWalk
def StF (p : FPl) (x : FS) : Prop := FI p x ∨ (x.s.off = true ∧ PmOk x.s ∧ ∀ ks, ∃ x', x'.s = pboot x.s ks ∧ (∀ k, x'.n k = 0) ∧ FI p x')
theorem StF.ok {p : FPl} {x : FS} (t : StF p x) : PmOk x.s := by
 rcases t with t | t
 ·exact t.pm
 ·exact t.2.1
theorem FlOut.st {p : FPl} {x : FS} {l : Nat} {B : ByteArray} {M : ByteArray → Prop} {r : Int × FS} (o : FlOut p x l B M r) : StF p r.2 := by
 rcases o with o | o | ⟨_, e, w, m⟩
 ·exact .inl o.2.1
 ·exact .inl o.2.1
 ·exact .inr ⟨e, w, fun ks => by obtain ⟨x', e, n, w', _⟩ := m ks; exact ⟨x', e, n, w'⟩⟩
theorem fput_nl {p : FPl} {x : FS} {f : RPl → PmS → List Nat → Nat → Int × PmS × List Nat} (w : FI p x) {l : Nat} (hl : l < p.R * p.pl) (hx : FFx (p.plan (p.reg l)) (f (p.plan (p.reg l)))) : (fput p f x l).2.s.nl = x.s.nl := by
 obtain ⟨hr, hp⟩ := FPl.at_line w.ok hl
 have fx : Fx (p.plan (p.reg l)).pa ((p.plan (p.reg l)).pa + sizeN (p.plan (p.reg l)).bk) x.s _ := rwrite_fx (w.rg _ hr) (i := p.pos l) hp hx
 exact fx.nl
theorem fWrite_st {p : FPl} {x : FS} (w : FI p x) (l : Int) (B : ByteArray) : StF p (fWrite p x l B).2 ∧ (fWrite p x l B).2.s.nl = x.s.nl := by
 by_cases hB : B.size = 64
 ·by_cases hl : 0 ≤ l ∧ l < ((p.R * p.pl : Nat) : Int)
  ·obtain ⟨l, rfl⟩ : ∃ k : Nat, l = k := ⟨l.toNat, by omega⟩
   refine ⟨(fWrite_out w (l := l) (by omega) hB).st, ?_⟩
   rw [fWrite_eq (by omega) hB]
   exact fput_nl w (by omega) (FFx.write _ hB)
  ·unfold fWrite; rw [if_pos hB, if_neg hl]; exact ⟨.inl w, rfl⟩
 ·unfold fWrite; rw [if_neg hB]; exact ⟨.inl w, rfl⟩
theorem fWriteWord_st {p : FPl} {x : FS} (w : FI p x) (l k : Int) {v : Nat} (hv : v < 18446744073709551616) : StF p (fWriteWord p x l k v).2 ∧ (fWriteWord p x l k v).2.s.nl = x.s.nl := by
 by_cases hk : 0 ≤ k ∧ k < 8
 ·by_cases hl : 0 ≤ l ∧ l < ((p.R * p.pl : Nat) : Int)
  ·obtain ⟨l, rfl⟩ : ∃ k : Nat, l = k := ⟨l.toNat, by omega⟩
   obtain ⟨k, rfl⟩ : ∃ q : Nat, k = q := ⟨k.toNat, by omega⟩
   refine ⟨(fWriteWord_out w (l := l) (k := k) (by omega) (by omega) hv).st, ?_⟩
   rw [fWriteWord_eq (by omega) (by omega)]
   exact fput_nl w (by omega) (FFx.word _ (by omega) hv)
  ·unfold fWriteWord; rw [if_pos hk, if_neg hl]; exact ⟨.inl w, rfl⟩
 ·unfold fWriteWord; rw [if_neg hk]; exact ⟨.inl w, rfl⟩
end Go.Gb
namespace Go.Gb
open Go.Proofs IntWalk
def less (w : Nat → Int) (a b : Nat) : Bool := decide (w a < w b ∨ (w a = w b ∧ a < b))
theorem less_irr (w : Nat → Int) (a : Nat) : less w a a = false := by unfold less; exact decide_eq_false (by omega)
theorem less_trans {w : Nat → Int} {a b c : Nat} (h1 : less w a b = true) (h2 : less w b c = true) : less w a c = true := by
 unfold less at *
 have := of_decide_eq_true h1
 have := of_decide_eq_true h2
 exact decide_eq_true (by omega)
theorem less_total {w : Nat → Int} {a b : Nat} (h1 : less w a b = false) (h2 : less w b a = false) : a = b := by
 unfold less at *
 have := of_decide_eq_false h1
 have := of_decide_eq_false h2
 omega
def least (w : Nat → Int) (l : List Nat) (b : Nat) : Nat := l.foldl (fun b f => if less w f b = true then f else b) b
def bestN (w : Nat → Int) : List Nat → Nat
 | [] => 0
 | a :: r => least w r a
theorem least_spec (w : Nat → Int) : ∀ (l : List Nat) (b : Nat), (least w l b = b ∨ least w l b ∈ l) ∧ less w b (least w l b) = false ∧ ∀ f ∈ l, less w f (least w l b) = false
 | [], b => ⟨.inl rfl, less_irr _ _, fun f hf => by cases hf⟩
 | a :: r, b => by
  show (least w r (if less w a b = true then a else b) = b ∨ least w r (if less w a b = true then a else b) ∈ a :: r) ∧ less w b (least w r (if less w a b = true then a else b)) = false ∧ _
  have key : ∀ x y z : Nat, less w x y = true → less w y z = false → less w z z = false → less w x z = true ∨ less w z x = false → True := fun _ _ _ _ _ _ _ => trivial
  by_cases h : less w a b = true
  ·rw [if_pos h]
   obtain ⟨i1, i2, i3⟩ := least_spec w r a
   refine ⟨.inr ?_, ?_, fun f hf => ?_⟩
   ·rcases i1 with i | i
    ·rw [i]; exact List.mem_cons_self
    ·exact List.mem_cons_of_mem _ i
   ·cases e : less w b (least w r a) with
    | false => rfl
    | true => rw [less_trans h e] at i2; cases i2
   ·rcases List.mem_cons.1 hf with rfl | hf
    ·show less w f (least w (f :: r) b) = false
     have : least w (f :: r) b = least w r f := by show least w r (if less w f b = true then f else b) = _; rw [if_pos h]
     rw [this]; exact i2
    ·have : least w (a :: r) b = least w r a := by show least w r (if less w a b = true then a else b) = _; rw [if_pos h]
     rw [this]; exact i3 f hf
  ·rw [if_neg h]
   obtain ⟨i1, i2, i3⟩ := least_spec w r b
   refine ⟨?_, i2, fun f hf => ?_⟩
   ·rcases i1 with i | i
    ·exact .inl i
    ·exact .inr (List.mem_cons_of_mem _ i)
   ·have e2 : least w (a :: r) b = least w r b := by show least w r (if less w a b = true then a else b) = _; rw [if_neg h]
    rw [e2]
    rcases List.mem_cons.1 hf with rfl | hf
    ·cases e : less w f (least w r b) with
     | false => rfl
     | true =>
      have h' : less w f b = false := by simpa using h
      cases e3 : less w b f with
      | true => rw [less_trans e3 e] at i2; cases i2
      | false =>
       have := less_total h' e3
       subst this
       rw [e] at i2; cases i2
    ·exact i3 f hf
theorem best_spec {w : Nat → Int} {l : List Nat} (hl : l ≠ []) : bestN w l ∈ l ∧ ∀ f ∈ l, less w f (bestN w l) = false := by
 cases l with
 | nil => exact absurd rfl hl
 | cons a r =>
  obtain ⟨i1, i2, i3⟩ := least_spec w r a
  refine ⟨?_, fun f hf => ?_⟩
  ·show least w r a ∈ a :: r
   rcases i1 with i | i
   ·rw [i]; exact List.mem_cons_self
   ·exact List.mem_cons_of_mem _ i
  ·show less w f (least w r a) = false
   rcases List.mem_cons.1 hf with rfl | hf
   ·exact i2
   ·exact i3 f hf
theorem best_uniq {w : Nat → Int} {l : List Nat} {b : Nat} (hb : b ∈ l) (hm : ∀ f ∈ l, less w f b = false) : bestN w l = b := by
 obtain ⟨h1, h2⟩ := best_spec (w := w) (l := l) (fun e => by rw [e] at hb; cases hb)
 exact less_total (hm _ h1) (h2 _ hb)
structure HPl where
 p : FPl
 g : Nat
 t : Nat
 heat : Nat
def HPl.H (q : HPl) : Nat := q.p.R * q.p.pl / 8
def cntG (h : Nat) : Nat → Nat
 | 0 => 0
 | g + 1 => if h < g + 1 + (g + 1 + 63) / 64 then cntG h g else g + 1
structure HPl.ok (q : HPl) (n : Nat) : Prop where
 cg : q.g = cntG (q.H - q.p.R) (q.H - q.p.R)
 ct : q.t = (q.g + 63) / 64
 ok : q.p.ok n
 d8 : q.p.pl % 8 = 0
 g1 : 1 ≤ q.g
 t1 : q.g ≤ 64 * q.t
 t2 : q.t ≤ q.g
 f1 : q.g + q.t + 2 ≤ q.H
 f2 : q.H ≤ q.g + q.t + 3
 heat1 : 1 ≤ q.heat
 heat2 : q.heat < 9223372036854775808
theorem HPl.ok.lines {q : HPl} {n : Nat} (o : q.ok n) : q.p.R * q.p.pl = 8 * q.H := by
 have h := o.d8
 unfold HPl.H
 obtain ⟨k, hk⟩ : ∃ k, q.p.pl = 8 * k := ⟨q.p.pl / 8, by omega⟩
 rw [hk, show q.p.R * (8 * k) = 8 * (q.p.R * k) by rw [Nat.mul_left_comm]]
 omega
theorem HPl.ok.H_le {q : HPl} {n : Nat} (o : q.ok n) : q.H ≤ 2048 := by
 have h := o.lines
 have hm : q.p.R * q.p.pl ≤ 16 * 1024 := Nat.mul_le_mul o.ok.r2 o.ok.l2
 omega
def entW (f m : Nat) : Nat := guardN (f + 65536 * m)
noncomputable def hr (q : HPl) (x : FS) (fm : Nat → Nat) (i k : Nat) : ByteArray := fr q.p x (8 * fm i + k)
structure HT (q : HPl) (x : FS) (fm mv : Nat → Nat) : Prop where
 ok : q.ok x.s.nl
 fi : FI q.p x
 en : ∀ i, i < q.g → wordAt (fr q.p x (i / 8)) (i % 8) = entW (fm i) (mv i)
 lo : ∀ i, i < q.g → q.t ≤ fm i ∧ fm i < q.H
 inj : ∀ i j, i < q.g → j < q.g → fm i = fm j → i = j
 mb : ∀ i, i < q.g → mv i < 4294967296
def isFree (q : HPl) (fm : Nat → Nat) (f : Nat) : Prop := q.t ≤ f ∧ f < q.H ∧ ∀ i, i < q.g → fm i ≠ f
def freeL (q : HPl) (fm : Nat → Nat) : List Nat := (List.range q.H).filter fun f => decide (q.t ≤ f) && (List.range q.g).all fun i => decide (fm i ≠ f)
theorem freeL_mem {q : HPl} {fm : Nat → Nat} {f : Nat} : f ∈ freeL q fm ↔ isFree q fm f := by
 unfold freeL isFree
 rw [List.mem_filter, List.mem_range, Bool.and_eq_true, decide_eq_true_eq, List.all_eq_true]
 constructor
 ·rintro ⟨h1, h2, h3⟩
  exact ⟨h2, h1, fun i hi => of_decide_eq_true (h3 i (List.mem_range.2 hi))⟩
 ·rintro ⟨h1, h2, h3⟩
  exact ⟨h2, h1, fun i hi => decide_eq_true (h3 i (List.mem_range.1 hi))⟩
def wearF (q : HPl) (x : FS) (f : Nat) : Int := (x.g (q.p.reg (8 * f))).s2
section
variable {q : HPl} {x x' : FS} {fm mv : Nat → Nat}
theorem HT.tline (w : HT q x fm mv) {i : Nat} (hi : i < q.g) : i / 8 < 8 * q.t ∧ i / 8 < q.p.R * q.p.pl := by
 have h1 := w.ok.t1
 have h2 := w.ok.f1
 have h3 := w.ok.lines
 omega
theorem HT.pline (w : HT q x fm mv) {i k : Nat} (hi : i < q.g) (hk : k < 8) : 8 * fm i + k < q.p.R * q.p.pl ∧ 8 * q.t ≤ 8 * fm i + k := by
 obtain ⟨a, b⟩ := w.lo i hi
 have h3 := w.ok.lines
 omega
theorem HT.keep (w : HT q x fm mv) (fi : FI q.p x') (nl : x'.s.nl = x.s.nl) {d : Nat} (hd : isFree q fm d) (ho : ∀ l, l < q.p.R * q.p.pl → (l < 8 * d ∨ 8 * d + 8 ≤ l) → fr q.p x' l = fr q.p x l) :
  HT q x' fm mv ∧ ∀ i k, i < q.g → k < 8 → hr q x' fm i k = hr q x fm i k := by
 obtain ⟨d1, d2, d3⟩ := hd
 refine ⟨⟨by rw [nl]; exact w.ok, fi, fun i hi => ?_, w.lo, w.inj, w.mb⟩, fun i k hi hk => ?_⟩
 ·obtain ⟨a, b⟩ := w.tline hi
  rw [ho _ b (by omega)]; exact w.en i hi
 ·obtain ⟨a, b⟩ := w.pline hi hk
  have := d3 i hi
  exact ho _ a (by omega)
noncomputable def hcopy (q : HPl) (src dst : Nat) : Nat → Nat → FS → Int × FS
 | 0, _, x => (0, x)
 | j + 1, k, x => if (fWrite q.p x ((8 * dst + k : Nat) : Int) (fr q.p x (8 * src + k))).1 = 0 then hcopy q src dst j (k + 1) (fWrite q.p x ((8 * dst + k : Nat) : Int) (fr q.p x (8 * src + k))).2
  else fWrite q.p x ((8 * dst + k : Nat) : Int) (fr q.p x (8 * src + k))
def CpOut (q : HPl) (x : FS) (src dst : Nat) (r : Int × FS) : Prop :=
 r.2.s.nl = x.s.nl ∧ ((r.1 = 0 ∧ FI q.p r.2 ∧ (∀ l, l < q.p.R * q.p.pl → (l < 8 * dst ∨ 8 * dst + 8 ≤ l) → fr q.p r.2 l = fr q.p x l) ∧ ∀ k, k < 8 → fr q.p r.2 (8 * dst + k) = fr q.p x (8 * src + k)) ∨
 (r.1 = 10 ∧ FI q.p r.2 ∧ ∀ l, l < q.p.R * q.p.pl → (l < 8 * dst ∨ 8 * dst + 8 ≤ l) → fr q.p r.2 l = fr q.p x l) ∨
 (r.1 = 6 ∧ r.2.s.off = true ∧ PmOk r.2.s ∧ ∀ ks, ∃ x', x'.s = pboot r.2.s ks ∧ (∀ k, x'.n k = 0) ∧ FI q.p x' ∧ ∀ l, l < q.p.R * q.p.pl → (l < 8 * dst ∨ 8 * dst + 8 ≤ l) → fr q.p x' l = fr q.p x l))
theorem hcopy_out {src dst : Nat} (hs : 8 * src + 8 ≤ q.p.R * q.p.pl) (hd : 8 * dst + 8 ≤ q.p.R * q.p.pl) (hne : src ≠ dst) : ∀ (j k : Nat) (x : FS), k + j = 8 → FI q.p x → ∀ x0 : FS, x.s.nl = x0.s.nl → (∀ l, l < q.p.R * q.p.pl → (l < 8 * dst ∨ 8 * dst + 8 ≤ l) → fr q.p x l = fr q.p x0 l) → (∀ i, i < k → fr q.p x (8 * dst + i) = fr q.p x0 (8 * src + i)) →
  CpOut q x0 src dst (hcopy q src dst j k x)
 | 0, k, x, hk, w, x0, nl, ho, hc => ⟨nl, .inl ⟨rfl, w, ho, fun i hi => hc i (by omega)⟩⟩
 | j + 1, k, x, hk, w, x0, nl, ho, hc => by
  have hB : (fr q.p x (8 * src + k)).size = 64 := fr_size _ _ _
  have o := fWrite_out w (l := 8 * dst + k) (by omega) hB
  have n1 := (fWrite_st w ((8 * dst + k : Nat) : Int) (fr q.p x (8 * src + k))).2
  unfold hcopy
  generalize fWrite q.p x ((8 * dst + k : Nat) : Int) (fr q.p x (8 * src + k)) = r at o n1
  rcases o with ⟨e, w1, m⟩ | ⟨e, w1, m⟩ | ⟨e, off, pm, m⟩
  ·rw [if_pos e]
   refine hcopy_out hs hd hne j (k + 1) r.2 (by omega) w1 x0 (n1.trans nl) (fun l hl hlo => ?_) fun i hi => ?_
   ·rw [m l hl, if_neg (by omega)]; exact ho l hl hlo
   ·rw [m _ (by omega)]
    by_cases ei : i = k
    ·subst ei
     rw [if_pos rfl]; exact ho _ (by omega) (by omega)
    ·rw [if_neg (by omega)]; exact hc i (by omega)
  ·rw [if_neg (by omega)]
   exact ⟨n1.trans nl, .inr (.inl ⟨e, w1, fun l hl hlo => (m l hl).trans (ho l hl hlo)⟩)⟩
  ·rw [if_neg (by omega)]
   refine ⟨n1.trans nl, .inr (.inr ⟨e, off, pm, fun ks => ?_⟩)⟩
   obtain ⟨x', e1, e2, w', m', _⟩ := m ks
   exact ⟨x', e1, e2, w', fun l hl hlo => (m' l hl (by omega)).trans (ho l hl hlo)⟩
structure HS where
 x : FS
 fm : Nat → Nat
 mv : Nat → Nat
 ht : Nat → Nat
noncomputable def HPl.tgt (q : HPl) (y : HS) : Nat := bestN (wearF q y.x) (freeL q y.fm)
noncomputable def hmove (q : HPl) (y : HS) (i d : Nat) (r : Int × FS) : Int × HS :=
 if r.1 = 0 then (0, ⟨r.2, fset y.fm i d, fset y.mv i ((y.mv i + 1) % 4294967296), fset y.ht i 0⟩) else (r.1, ⟨r.2, y.fm, y.mv, y.ht⟩)
noncomputable def hcopied (q : HPl) (y : HS) (i d : Nat) (r : Int × FS) : Int × HS :=
 if r.1 = 0 then hmove q y i d (fWriteWord q.p r.2 ((i / 8 : Nat) : Int) ((i % 8 : Nat) : Int) (entW d ((y.mv i + 1) % 4294967296))) else (r.1, ⟨r.2, y.fm, y.mv, y.ht⟩)
noncomputable def hlook (q : HPl) (y : HS) (i : Nat) : Int × HS :=
 if wearF q y.x (y.fm i) ≤ wearF q y.x (q.tgt y) then (0, ⟨y.x, y.fm, y.mv, fset y.ht i 0⟩) else hcopied q y i (q.tgt y) (hcopy q (y.fm i) (q.tgt y) 8 0 y.x)
noncomputable def hput2 (y : HS) (i : Nat) (r : Int × FS) : Int × HS := (r.1, ⟨r.2, y.fm, y.mv, if r.1 = 0 then fset y.ht i (y.ht i + 1) else y.ht⟩)
noncomputable def hput (F : FS → Nat → Int × FS) (y : HS) (i k : Nat) : Int × HS := hput2 y i (F y.x (8 * y.fm i + k))
noncomputable def hwrite (q : HPl) (F : FS → Nat → Int × FS) (y : HS) (i k : Nat) : Int × HS :=
 if q.heat ≤ y.ht i then (if (hlook q y i).1 = 0 then hput F (hlook q y i).2 i k else hlook q y i) else hput F y i k
def HY (q : HPl) (y : HS) : Prop := HT q y.x y.fm y.mv
def LkOut (q : HPl) (y : HS) (r : Int × HS) : Prop :=
 r.2.x.s.nl = y.x.s.nl ∧ ((r.1 = 0 ∧ HY q r.2 ∧ ∀ i k, i < q.g → k < 8 → hr q r.2.x r.2.fm i k = hr q y.x y.fm i k) ∨
 (r.1 = 10 ∧ HY q r.2 ∧ ∀ i k, i < q.g → k < 8 → hr q r.2.x r.2.fm i k = hr q y.x y.fm i k) ∨
 (r.1 = 6 ∧ r.2.x.s.off = true ∧ PmOk r.2.x.s ∧ ∀ ks, ∃ x' fm' mv', x'.s = pboot r.2.x.s ks ∧ (∀ k, x'.n k = 0) ∧ HT q x' fm' mv' ∧ ∀ i k, i < q.g → k < 8 → hr q x' fm' i k = hr q y.x y.fm i k))
theorem free_some {y : HS} (w : HY q y) : ∃ f, isFree q y.fm f := by
 have f1 := w.ok.f1
 refine Classical.byContradiction fun hn => ?_
 have all : ∀ f, q.t ≤ f → f < q.H → ∃ i, i < q.g ∧ y.fm i = f := fun f h1 h2 => Classical.byContradiction fun h => hn ⟨f, h1, h2, fun i hi e => h ⟨i, hi, e⟩⟩
 have sub : (List.range (q.g + 1)).map (fun j => q.t + j) ⊆ (List.range q.g).map y.fm := by
  intro f hf
  obtain ⟨j, hj, rfl⟩ := List.mem_map.1 hf
  rw [List.mem_range] at hj
  obtain ⟨i, hi, e⟩ := all (q.t + j) (by omega) (by omega)
  exact List.mem_map.2 ⟨i, List.mem_range.2 hi, e⟩
 have nd : ((List.range (q.g + 1)).map (fun j => q.t + j)).Nodup := by
  exact List.pairwise_map.2 (List.Pairwise.imp (fun h e => h (by omega)) List.nodup_range)
 have := nd.length_le_of_subset sub
 simp at this
 omega
theorem HPl.tgt_free {y : HS} (w : HY q y) : isFree q y.fm (q.tgt y) := by
 obtain ⟨f, hf⟩ := free_some w
 have h := best_spec (w := wearF q y.x) (l := freeL q y.fm) (fun e => by have := freeL_mem.2 hf; rw [e] at this; cases this)
 exact freeL_mem.1 h.1
end
end Go.Gb
